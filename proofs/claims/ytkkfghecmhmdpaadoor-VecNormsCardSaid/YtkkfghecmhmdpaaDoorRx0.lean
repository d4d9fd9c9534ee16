/- Texts of this claim, one behind the other: the functions, and that the machine does what they say. -/
import Derived.RowKit
import Derived.WalkKit
import Derived.KernelRfl
import Derived.Test.YtkkfghecmhmdpaaDoorProg
import Derived.Test.YtkkfghecmhmdpaaDoorRun1
set_option linter.constructorNameAsVariable false
set_option linter.unusedSimpArgs false
set_option linter.unusedVariables false
set_option linter.unusedSectionVars false
namespace Go.Proofs.YtkkfghecmhmdpaaDoorW.PrintWords
open Go Go.RowKit
def rd (xs : List Int) (i : Int) : Int := xs.getD i.toNat 0
def bt (s : ByteArray) (i : Int) : Int := if h : i.toNat < s.size then ((s[i.toNat]'h).toNat : Int) else 0
theorem bt_at (x : ByteArray) (j : Int) (h : j.toNat < x.size) : ((x[j.toNat]'h).toNat : Int) = bt x j := by unfold bt; rw [dif_pos h]
def Ev {α : Type} (g : Nat → Option α) (r : α) : Prop := ∃ K, ∀ k, K ≤ k → g k = some r
theorem Ev.now {α : Type} (r : α) : Ev (fun _ => some r) r := ⟨0, fun _ _ => rfl⟩
theorem Ev.rounds {α : Type} {g : Nat → Option α} {r : α} (h : Ev g r) : ∃ k, g k = some r := h.elim fun K h => ⟨K, h K (Nat.le_refl K)⟩
theorem Ev.bind {α β : Type} {g : Nat → Option α} {f : Nat → α → Option β} {a : α} {r : β} (h : Ev g a) (k : Ev (fun n => f n a) r) : Ev (fun n => (g n).bind (f n)) r := by
  obtain ⟨K, h⟩ := h; obtain ⟨L, k⟩ := k
  exact ⟨K + L, fun n hn => by show (g n).bind (f n) = some r; rw [h n (by omega)]; exact k n (by omega)⟩
def mx (a b : Int) : Int := if a < b then b else a
def mn (a b : Int) : Int := if b < a then b else a
def shl (k : IntKind) (x y : Int) : Int := k.wrap (x * 2 ^ min y.toNat k.bits)
def shr (k : IntKind) (x y : Int) : Int := x / 2 ^ min y.toNat k.bits
end Go.Proofs.YtkkfghecmhmdpaaDoorW.PrintWords
namespace Go.Proofs.YtkkfghecmhmdpaaDoorW.PrintLast
end Go.Proofs.YtkkfghecmhmdpaaDoorW.PrintLast
namespace Go.Proofs.YtkkfghecmhmdpaaDoorW.PrintMore
end Go.Proofs.YtkkfghecmhmdpaaDoorW.PrintMore
namespace Go.Proofs.YtkkfghecmhmdpaaDoor.F
open Go Go.RowKit Go.Proofs.YtkkfghecmhmdpaaDoorW.PrintWords
open Go.Rk hiding Rd
def addX : List V → Option V
  | [.i .u64 x, .i .u64 y, .i .u64 c] => if 0 ≤ x ∧ 0 ≤ y ∧ 0 ≤ c ∧ c ≤ 1 then some (.t [.i .u64 ((x + y + c) % 18446744073709551616), .i .u64 ((x + y + c) / 18446744073709551616)]) else none
  | _ => none
def subX : List V → Option V
  | [.i .u64 x, .i .u64 y, .i .u64 c] => if 0 ≤ x ∧ 0 ≤ y ∧ y < 18446744073709551616 ∧ 0 ≤ c ∧ c ≤ 1 then some (.t [.i .u64 ((x - y - c) % 18446744073709551616), .i .u64 (if x < y + c then 1 else 0)]) else none
  | _ => none
def tab32 : List Int := [0, 1, 28, 2, 29, 14, 24, 3, 30, 22, 20, 15, 25, 17, 4, 8, 31, 27, 13, 23, 21, 19, 16, 7, 26, 12, 18, 6, 11, 5, 10, 9]
noncomputable def E0 : Env := { P := Tryd.prog, G := fun g => if g = 0 then tab32.map (V.i .u8) else [], ext := fun f l => if f = 58 then addX l else if f = 59 then subX l else none }
def bits_Add64.f (a0 a1 a2 : Int) : Option (Int × Int) := if 0 ≤ a0 then (if 0 ≤ a1 then (if 0 ≤ a2 then (if a2 ≤ 1 then (some ((a0 + a1 + a2) % 18446744073709551616, (a0 + a1 + a2) / 18446744073709551616)) else none) else none) else none) else none
def bits_Sub64.f (a0 a1 a2 : Int) : Option (Int × Int) := if 0 ≤ a0 ∧ 0 ≤ a1 ∧ a1 < 18446744073709551616 ∧ 0 ≤ a2 ∧ a2 ≤ 1 then (some ((a0 - a1 - a2) % 18446744073709551616, if a0 < a1 + a2 then 1 else 0)) else none
theorem bits_Add64.ext {a0 a1 a2 : Int} {r : Int × Int} (H : bits_Add64.f a0 a1 a2 = some r) : E0.ext 58 [.i .u64 a0, .i .u64 a1, .i .u64 a2] = some (.t [.i .u64 r.1, .i .u64 r.2]) := by
  unfold bits_Add64.f at H
  obtain ⟨c1, H⟩ := it1 H; obtain ⟨c2, H⟩ := it1 H; obtain ⟨c3, H⟩ := it1 H; obtain ⟨c4, H⟩ := it1 H
  cases H
  simp only [E0, if_true]
  exact if_pos ⟨c1, c2, c3, c4⟩
theorem bits_Sub64.ext {a0 a1 a2 : Int} {r : Int × Int} (H : bits_Sub64.f a0 a1 a2 = some r) : E0.ext 59 [.i .u64 a0, .i .u64 a1, .i .u64 a2] = some (.t [.i .u64 r.1, .i .u64 r.2]) := by
  unfold bits_Sub64.f at H
  obtain ⟨⟨c1, c2, c5, c3, c4⟩, H⟩ := it1 H
  cases H
  simp only [E0, show (59 = 58) = False from by simp, if_false, if_true]
  exact if_pos ⟨c1, c2, c5, c3, c4⟩
theorem nrmw : (∀ n, IntKind.i64.wrap n = wrap64 n) ∧ (∀ n, IntKind.u32.wrap n = n % 4294967296) ∧ (∀ n, IntKind.u8.wrap n = n % 256) ∧ (∀ k x y, shlI k x y = shl k x y) ∧ (∀ k x y, shrI k x y = shr k x y) ∧
    (∀ xs j, List.getD xs (Int.toNat j) 0 = rd xs j) ∧ (∀ x, (0 : Int) - x = -x) := by
  refine ⟨fun n => by unfold Go.RowKit.wrap64; exact IntKind.wrap_i64 n, fun n => by simp [IntKind.wrap, IntKind.signed, IntKind.bits], fun n => by simp [IntKind.wrap, IntKind.signed, IntKind.bits], fun _ _ _ => rfl, fun _ _ _ => rfl, fun _ _ => rfl, Int.zero_sub⟩
theorem gN {p q : Prop} (h : q) (e : p = q := by first | (simp only [nrm, nrmw, nrmb, if_true, if_false, Bool.false_eq_true, Nat.zero_add, Nat.add_zero, List.length_cons, List.length_nil, List.length_map, List.length_replicate, List.length_set, List.drop_zero, List.drop_succ_cons, List.take_zero, List.take_succ_cons, Nat.reduceAdd, Nat.reduceMul, Nat.reduceSub]; rfl) | rfl) : p := e ▸ h
theorem gC {p q : Prop} (h : q) (e : p = q := by first | (simp only [nrm, nrmw, nrmc, nrme, nrmo, nrml, nrmb, nrmx, Nat.reduceEqDiff, Nat.reduceBEq, Nat.zero_add, Nat.add_zero, Nat.mul_one, List.length_cons, List.length_nil, List.length_map, List.length_set, List.length_replicate, List.drop_zero, List.drop_succ_cons, List.drop_nil, List.take_zero, List.take_succ_cons, List.take_nil, Nat.le_refl, if_true, if_false, Option.any_none, Option.any_some, List.contains_nil, Bool.not_false, Bool.or_true, Bool.true_or, Bool.or_false, Bool.false_or, Bool.and_true, Bool.true_and, Bool.and_self, reduceCtorEq, beq_self_eq_true, List.map_cons, List.map_nil, List.append_nil, List.nil_append, List.contains_cons, List.filter_cons, List.filter_nil, List.cons_append, Bool.false_eq_true, true_and, and_true, List.getElem_toArray, List.getElem_cons_zero, List.getElem_cons_succ, Nat.reduceAdd, Nat.reduceMul, Nat.reduceLT, Nat.reduceSub, Nat.reduceLeDiff]; rfl) | rfl) : p := e ▸ h
theorem gT {E : Env} {os : Array Oper} {sl : Nat} {is : List Nat} {t t' : List V} {h : Hp} {tr : Tr} {K : List V → Hp → Tr → Prop} (hk : gD E os sl is t' h tr K)
    (e : t = t' := by first | (simp only [nrm, nrmw, nrmb, nrmx, if_true, if_false, Bool.false_eq_true, Nat.zero_add, Nat.add_zero, List.length_cons, List.length_nil, List.length_map, List.length_replicate, List.length_set, List.drop_zero, List.drop_succ_cons, List.take_zero, List.take_succ_cons, Nat.reduceAdd, Nat.reduceMul, Nat.reduceSub]; rfl) | rfl) : gD E os sl is t h tr K := e ▸ hk
theorem gU {E : Env} {os : Array Oper} {sl : Nat} {is : List Nat} {t t' : List V} {h h' : Hp} {tr : Tr} {K : List V → Hp → Tr → Prop} (hk : gD E os sl is t' h' tr K)
    (e : t = t' := by first | (simp only [nrm, nrmw, nrmb, nrmx, if_true, if_false, Bool.false_eq_true, Nat.zero_add, Nat.add_zero, List.length_cons, List.length_nil, List.length_map, List.length_replicate, List.length_set, List.drop_zero, List.drop_succ_cons, List.take_zero, List.take_succ_cons, Nat.reduceAdd, Nat.reduceMul, Nat.reduceSub]; rfl) | rfl) (e2 : h = h' := by first | (simp only [nrm, nrmw, nrmb, nrmx, if_true, if_false, Bool.false_eq_true, Nat.zero_add, Nat.add_zero, List.length_cons, List.length_nil, List.length_map, List.length_replicate, List.length_set, List.drop_zero, List.drop_succ_cons, List.take_zero, List.take_succ_cons, Nat.reduceAdd, Nat.reduceMul, Nat.reduceSub]; rfl) | rfl) : gD E os sl is t h tr K := by subst e e2; exact hk
theorem gB {p q : Prop} (h : q) (e : p = q := by first | (simp only [nrm, nrmb, nrmc, nrmf, List.map_cons, List.map_nil, List.zip_cons_cons, List.zip_nil_right, List.zip_nil_left, List.getElem?_cons_zero, List.getElem?_cons_succ, List.length_cons, List.length_nil, Nat.reduceAdd, Nat.reduceMul, Nat.reduceLeDiff, Nat.zero_add, Nat.add_zero, Nat.le_refl, and_self, if_true, List.cons_append, List.nil_append, List.all_cons, List.all_nil, Bool.and_true, Bool.and_self]; simp only [nrm, nrmw, nrmb, if_true, if_false, Bool.false_eq_true, Nat.zero_add, Nat.add_zero, List.length_cons, List.length_nil, List.length_map, List.length_replicate, List.length_set, List.drop_zero, List.drop_succ_cons, List.take_zero, List.take_succ_cons, Nat.reduceAdd, Nat.reduceMul, Nat.reduceSub]; rfl) | (simp only [nrm, nrmb, nrmc, nrmf, List.map_cons, List.map_nil, List.zip_cons_cons, List.zip_nil_right, List.zip_nil_left, List.getElem?_cons_zero, List.getElem?_cons_succ, List.length_cons, List.length_nil, Nat.reduceAdd, Nat.reduceMul, Nat.reduceLeDiff, Nat.zero_add, Nat.add_zero, Nat.le_refl, and_self, if_true, List.cons_append, List.nil_append, List.all_cons, List.all_nil, Bool.and_true, Bool.and_self]; rfl)) : p := e ▸ h
theorem gI {p q : Prop} (h : p) (e : p = q := by first | with_reducible rfl | (simp only [nrm, nrmw, nrmb, if_true, if_false, Bool.false_eq_true, Nat.zero_add, Nat.add_zero, List.length_cons, List.length_nil, List.length_map, List.length_replicate, List.length_set, List.drop_zero, List.drop_succ_cons, List.take_zero, List.take_succ_cons, Nat.reduceAdd, Nat.reduceMul, Nat.reduceSub] <;> rfl) | (simp only [nrm, nrmw, nrmc, nrme, nrmo, nrml, nrmb, nrmx, Nat.reduceEqDiff, Nat.reduceBEq, Nat.zero_add, Nat.add_zero, Nat.mul_one, List.length_cons, List.length_nil, List.length_map, List.length_set, List.length_replicate, List.drop_zero, List.drop_succ_cons, List.drop_nil, List.take_zero, List.take_succ_cons, List.take_nil, Nat.le_refl, if_true, if_false, Option.any_none, Option.any_some, List.contains_nil, Bool.not_false, Bool.or_true, Bool.true_or, Bool.or_false, Bool.false_or, Bool.and_true, Bool.true_and, Bool.and_self, reduceCtorEq, beq_self_eq_true, List.map_cons, List.map_nil, List.append_nil, List.nil_append, List.contains_cons, List.filter_cons, List.filter_nil, List.cons_append, Bool.false_eq_true, true_and, and_true, List.getElem_toArray, List.getElem_cons_zero, List.getElem_cons_succ, Nat.reduceAdd, Nat.reduceMul, Nat.reduceLT, Nat.reduceSub, Nat.reduceLeDiff] <;> rfl) | rfl) : q := e ▸ h
theorem gF {p : Prop} (e : p := by simp only [nrm, nrmw, nrmc, nrme, nrmo, nrml, nrmb, nrmx, Nat.reduceEqDiff, Nat.reduceBEq, Nat.zero_add, Nat.add_zero, Nat.mul_one, List.length_cons, List.length_nil, List.length_map, List.length_set, List.length_replicate, List.drop_zero, List.drop_succ_cons, List.drop_nil, List.take_zero, List.take_succ_cons, List.take_nil, Nat.le_refl, if_true, if_false, Option.any_none, Option.any_some, List.contains_nil, Bool.not_false, Bool.or_true, Bool.true_or, Bool.or_false, Bool.false_or, Bool.and_true, Bool.true_and, Bool.and_self, reduceCtorEq, beq_self_eq_true, List.map_cons, List.map_nil, List.append_nil, List.nil_append, List.contains_cons, List.filter_cons, List.filter_nil, List.cons_append, Bool.false_eq_true, true_and, and_true, List.getElem_toArray, List.getElem_cons_zero, List.getElem_cons_succ, Nat.reduceAdd, Nat.reduceMul, Nat.reduceLT, Nat.reduceSub, Nat.reduceLeDiff] <;> first | rfl | exact ⟨rfl, trivial⟩ | exact ⟨rfl, rfl⟩) : p := e
section
variable {E : Env} {Q : S → Prop} {ks : List Fm} {s : S}
/-- A region; what follows it is a letter. -/
theorem wR {id os n is} (h : ∀ K : List V → Hp → Tr → Prop, (∀ t' h' tr, kont E Q ks .normal ⟨t', h', n, s.a⟩ → K t' h' tr) → gD E os s.n is s.t s.h [] K) (e1 : List.range os.size = is := by first | (simp only [Array.size, List.length, List.range, List.range.loop, nrm, Nat.reduceAdd, Nat.reduceMul]; rfl) | rfl) (e2 : s.n + 4 * os.size = n := by first | (simp only [Array.size, List.length, List.range, List.range.loop, nrm, Nat.reduceAdd, Nat.reduceMul]; rfl) | rfl) : wk_ E Q ks (.region id os false) s := by
  subst e1 e2; exact w_reg (h _ fun t' h' tr hk => hk)
theorem wD {id os n is} (h : ∀ K : List V → Hp → Tr → Prop, (∀ t' h' tr, indep os (pres os) tr = true → kont E Q ks .normal ⟨t', h', n, s.a⟩ → K t' h' tr) → gD E os s.n is s.t s.h [] K) (e1 : List.range os.size = is := by first | (simp only [Array.size, List.length, List.range, List.range.loop, nrm, Nat.reduceAdd, Nat.reduceMul]; rfl) | rfl) (e2 : s.n + 4 * os.size = n := by first | (simp only [Array.size, List.length, List.range, List.range.loop, nrm, Nat.reduceAdd, Nat.reduceMul]; rfl) | rfl) : wk_ E Q ks (.region id os true) s := by
  subst e1 e2; exact w_drw (h _ fun t' h' tr hi hk => ⟨hi, hk⟩)
end
end Go.Proofs.YtkkfghecmhmdpaaDoor.F
namespace Go.Proofs.YtkkfghecmhmdpaaDoor.F
open Go Go.RowKit Go.Proofs.YtkkfghecmhmdpaaDoorW.PrintWords
open Go.Rk hiding Rd
set_option linter.unusedVariables false
set_option linter.unusedSimpArgs false
set_option maxRecDepth 100000
def gimballaw10_head_ok.f : Option Unit := some ()
def word_Exp.f (a0 : Int) : Option (Int) := (some ((wrap64 ((Go.bits .and .u64 (a0 / 4503599627370496) 2047)))))
def word_Exp.Q (a0 : Int) (r : Int) : S → Prop := fun s => ∃ τ r', fin E0 Tryd.f42 0 τ s = some (r', []) ∧ r'.ro = (.i .i64 r)
def word_Frac.f (a0 : Int) : Option (Int) := (some ((Go.bits .and .u64 a0 4503599627370495)))
def word_Frac.Q (a0 : Int) (r : Int) : S → Prop := fun s => ∃ τ r', fin E0 Tryd.f43 0 τ s = some (r', []) ∧ r'.ro = (.i .u64 r)
mutual
def word_Kind.j0 : Nat → Int → Int → Bool → Option (Int)
  | 0, _, _, _ => none
  | k + 1, e_3, f_4, t_9 => (if t_9 = true then (some (1)) else (if e_3 = 0 then (some (2)) else (if e_3 < 2047 then (some (3)) else (if f_4 = 0 then (some (4)) else (some (5))))))
end
def word_Kind.f (k : Nat) (a0 : Int) : Option (Int) := ((word_Exp.f a0).bind fun q1 => ((word_Frac.f a0).bind fun q2 => (if q1 = 0 then (word_Kind.j0 k q1 q2 (q2 == 0)) else (word_Kind.j0 k q1 q2 false))))
def word_Kind.Q (a0 : Int) (r : Int) : S → Prop := fun s => ∃ τ r', fin E0 Tryd.f28 0 τ s = some (r', []) ∧ r'.ro = (.i .i64 r)
def word_Abs.f (a0 : Int) : Option (Int) := (some ((Go.bits .andNot .u64 a0 9223372036854775808)))
def word_Abs.Q (a0 : Int) (r : Int) : S → Prop := fun s => ∃ τ r', fin E0 Tryd.f29 0 τ s = some (r', []) ∧ r'.ro = (.i .u64 r)
mutual
def order_Greatest.l0 : Nat → Int → Int → List Int → Int → Int → Option (Int × Int)
  | 0, _, _, _, _, _ => none
  | k + 1, best_4, at_5, t_8, t_9, t_10 => (if t_10 < t_9 then (if 0 ≤ t_10 then (if t_10 < (t_8.length : Int) then ((word_Kind.f k (rd t_8 t_10)).bind fun q4 => (if q4 = 5 then (some (9221120237041090560, t_10)) else (if at_5 < 0 then ((word_Abs.f (rd t_8 t_10)).bind fun q7 => (order_Greatest.l0 k q7 t_10 t_8 t_9 (wrap64 (t_10 + 1)))) else ((word_Abs.f (rd t_8 t_10)).bind fun q8 => (if q8 > best_4 then ((word_Abs.f (rd t_8 t_10)).bind fun q10 => (order_Greatest.l0 k q10 t_10 t_8 t_9 (wrap64 (t_10 + 1)))) else (order_Greatest.l0 k best_4 at_5 t_8 t_9 (wrap64 (t_10 + 1)))))))) else none) else none) else (some (best_4, at_5)))
end
def order_Greatest.f (k : Nat) (l0 : List Int) : Option (Int × Int) := (order_Greatest.l0 k 0 (-1) l0 (l0.length : Int) 0)
def order_Greatest.Q (l0 : List Int) (r : Int × Int) : S → Prop := fun s => ∃ τ r', fin E0 Tryd.f8 0 τ s = some (r', []) ∧ r'.ro = (.t [.i .u64 r.1, .i .i64 r.2])
def word_Parts.f (k : Nat) (a0 : Int) : Option (Int × Int) := ((word_Kind.f k a0).bind fun q1 => (if q1 = 2 then ((word_Frac.f a0).bind fun q3 => (some (q3, (-1074)))) else (if q1 = 3 then ((word_Frac.f a0).bind fun q5 => ((word_Exp.f a0).bind fun q6 => (some ((Go.bits .or .u64 q5 4503599627370496), (wrap64 (q6 - 1075)))))) else (some (0, 0)))))
def word_Parts.Q (a0 : Int) (r : Int × Int) : S → Prop := fun s => ∃ τ r', fin E0 Tryd.f25 0 τ s = some (r', []) ∧ r'.ro = (.t [.i .u64 r.1, .i .i64 r.2])
mutual
def vec_Power.l0 : Nat → Int → Int → Option (Int × Bool)
  | 0, _, _ => none
  | k + 1, n_6, e_7 => (if n_6 > 1 then (vec_Power.l0 k (n_6 / 2) (wrap64 (e_7 + 1))) else (some (e_7, true)))
end
def vec_Power.f (k : Nat) (l0 : List Int) : Option (Int × Bool) := ((order_Greatest.f k l0).bind fun q1 => ((word_Parts.f k q1.1).bind fun q2 => (if q2.1 = 0 then (some (0, false)) else (vec_Power.l0 k q2.1 q2.2))))
def vec_Power.Q (l0 : List Int) (r : Int × Bool) : S → Prop := fun s => ∃ τ r', fin E0 Tryd.f17 0 τ s = some (r', []) ∧ r'.ro = (.t [.i .i64 r.1, .b r.2])
def word_Signals.f (k : Nat) (a0 : Int) : Option (Bool) := ((word_Kind.f k a0).bind fun q1 => (if q1 = 5 then (some (((Go.bits .and .u64 (a0 / 2251799813685248) 1) == 0))) else (some (false))))
def word_Signals.Q (a0 : Int) (r : Bool) : S → Prop := fun s => ∃ τ r', fin E0 Tryd.f37 0 τ s = some (r', []) ∧ r'.ro = (.b r)
def word_Neg.f (a0 : Int) : Option (Bool) := (some (((a0 / 9223372036854775808) == 1)))
def word_Neg.Q (a0 : Int) (r : Bool) : S → Prop := fun s => ∃ τ r', fin E0 Tryd.f27 0 τ s = some (r', []) ∧ r'.ro = (.b r)
def wide_Wide_Zero.f (a0_0 : Int) (a0_1 : Int) : Option (Bool) := (some (((Go.bits .or .u64 a0_0 a0_1) == 0)))
def wide_Wide_Zero.Q (a0_0 : Int) (a0_1 : Int) (r : Bool) : S → Prop := fun s => ∃ τ r', fin E0 Tryd.f52 0 τ s = some (r', []) ∧ r'.ro = (.b r)
def word_Make.f (a0 : Bool) (a1 : Int) (a2 : Int) : Option (Int) := (if a0 = true then (some ((Go.bits .or .u64 (Go.bits .or .u64 (IntKind.u64.wrap ((Go.bits .and .u64 (IntKind.u64.wrap (a1)) 2047) * 4503599627370496)) (Go.bits .and .u64 a2 4503599627370495)) 9223372036854775808))) else (some ((Go.bits .or .u64 (IntKind.u64.wrap ((Go.bits .and .u64 (IntKind.u64.wrap (a1)) 2047) * 4503599627370496)) (Go.bits .and .u64 a2 4503599627370495)))))
def word_Make.Q (a0 : Bool) (a1 : Int) (a2 : Int) (r : Int) : S → Prop := fun s => ∃ τ r', fin E0 Tryd.f53 0 τ s = some (r', []) ∧ r'.ro = (.i .u64 r)
mutual
def bits_Len64.j0 : Nat → Int → Int → Option (Int)
  | 0, _, _ => none
  | k + 1, x_0, n_2 => (if x_0 ≥ 65536 then (if (x_0 / 65536) ≥ 256 then (if 0 ≤ (((x_0 / 65536) / 256) % 256) then (if (((x_0 / 65536) / 256) % 256) < 256 then (some ((wrap64 ((wrap64 ((wrap64 (n_2 + 16)) + 8)) + (wrap64 ((bt (⟨#[0, 1, 2, 2, 3, 3, 3, 3, 4, 4, 4, 4, 4, 4, 4, 4, 5, 5, 5, 5, 5, 5, 5, 5, 5, 5, 5, 5, 5, 5, 5, 5, 6, 6, 6, 6, 6, 6, 6, 6, 6, 6, 6, 6, 6, 6, 6, 6, 6, 6, 6, 6, 6, 6, 6, 6, 6, 6, 6, 6, 6, 6, 6, 6, 7, 7, 7, 7, 7, 7, 7, 7, 7, 7, 7, 7, 7, 7, 7, 7, 7, 7, 7, 7, 7, 7, 7, 7, 7, 7, 7, 7, 7, 7, 7, 7, 7, 7, 7, 7, 7, 7, 7, 7, 7, 7, 7, 7, 7, 7, 7, 7, 7, 7, 7, 7, 7, 7, 7, 7, 7, 7, 7, 7, 7, 7, 7, 7, 8, 8, 8, 8, 8, 8, 8, 8, 8, 8, 8, 8, 8, 8, 8, 8, 8, 8, 8, 8, 8, 8, 8, 8, 8, 8, 8, 8, 8, 8, 8, 8, 8, 8, 8, 8, 8, 8, 8, 8, 8, 8, 8, 8, 8, 8, 8, 8, 8, 8, 8, 8, 8, 8, 8, 8, 8, 8, 8, 8, 8, 8, 8, 8, 8, 8, 8, 8, 8, 8, 8, 8, 8, 8, 8, 8, 8, 8, 8, 8, 8, 8, 8, 8, 8, 8, 8, 8, 8, 8, 8, 8, 8, 8, 8, 8, 8, 8, 8, 8, 8, 8, 8, 8, 8, 8, 8, 8, 8, 8, 8, 8, 8, 8, 8, 8, 8, 8, 8, 8, 8, 8, 8, 8, 8, 8, 8, 8]⟩ : ByteArray) (((x_0 / 65536) / 256) % 256)))))))) else none) else none) else (if 0 ≤ ((x_0 / 65536) % 256) then (if ((x_0 / 65536) % 256) < 256 then (some ((wrap64 ((wrap64 (n_2 + 16)) + (wrap64 ((bt (⟨#[0, 1, 2, 2, 3, 3, 3, 3, 4, 4, 4, 4, 4, 4, 4, 4, 5, 5, 5, 5, 5, 5, 5, 5, 5, 5, 5, 5, 5, 5, 5, 5, 6, 6, 6, 6, 6, 6, 6, 6, 6, 6, 6, 6, 6, 6, 6, 6, 6, 6, 6, 6, 6, 6, 6, 6, 6, 6, 6, 6, 6, 6, 6, 6, 7, 7, 7, 7, 7, 7, 7, 7, 7, 7, 7, 7, 7, 7, 7, 7, 7, 7, 7, 7, 7, 7, 7, 7, 7, 7, 7, 7, 7, 7, 7, 7, 7, 7, 7, 7, 7, 7, 7, 7, 7, 7, 7, 7, 7, 7, 7, 7, 7, 7, 7, 7, 7, 7, 7, 7, 7, 7, 7, 7, 7, 7, 7, 7, 8, 8, 8, 8, 8, 8, 8, 8, 8, 8, 8, 8, 8, 8, 8, 8, 8, 8, 8, 8, 8, 8, 8, 8, 8, 8, 8, 8, 8, 8, 8, 8, 8, 8, 8, 8, 8, 8, 8, 8, 8, 8, 8, 8, 8, 8, 8, 8, 8, 8, 8, 8, 8, 8, 8, 8, 8, 8, 8, 8, 8, 8, 8, 8, 8, 8, 8, 8, 8, 8, 8, 8, 8, 8, 8, 8, 8, 8, 8, 8, 8, 8, 8, 8, 8, 8, 8, 8, 8, 8, 8, 8, 8, 8, 8, 8, 8, 8, 8, 8, 8, 8, 8, 8, 8, 8, 8, 8, 8, 8, 8, 8, 8, 8, 8, 8, 8, 8, 8, 8, 8, 8, 8, 8, 8, 8, 8, 8]⟩ : ByteArray) ((x_0 / 65536) % 256)))))))) else none) else none)) else (if x_0 ≥ 256 then (if 0 ≤ ((x_0 / 256) % 256) then (if ((x_0 / 256) % 256) < 256 then (some ((wrap64 ((wrap64 (n_2 + 8)) + (wrap64 ((bt (⟨#[0, 1, 2, 2, 3, 3, 3, 3, 4, 4, 4, 4, 4, 4, 4, 4, 5, 5, 5, 5, 5, 5, 5, 5, 5, 5, 5, 5, 5, 5, 5, 5, 6, 6, 6, 6, 6, 6, 6, 6, 6, 6, 6, 6, 6, 6, 6, 6, 6, 6, 6, 6, 6, 6, 6, 6, 6, 6, 6, 6, 6, 6, 6, 6, 7, 7, 7, 7, 7, 7, 7, 7, 7, 7, 7, 7, 7, 7, 7, 7, 7, 7, 7, 7, 7, 7, 7, 7, 7, 7, 7, 7, 7, 7, 7, 7, 7, 7, 7, 7, 7, 7, 7, 7, 7, 7, 7, 7, 7, 7, 7, 7, 7, 7, 7, 7, 7, 7, 7, 7, 7, 7, 7, 7, 7, 7, 7, 7, 8, 8, 8, 8, 8, 8, 8, 8, 8, 8, 8, 8, 8, 8, 8, 8, 8, 8, 8, 8, 8, 8, 8, 8, 8, 8, 8, 8, 8, 8, 8, 8, 8, 8, 8, 8, 8, 8, 8, 8, 8, 8, 8, 8, 8, 8, 8, 8, 8, 8, 8, 8, 8, 8, 8, 8, 8, 8, 8, 8, 8, 8, 8, 8, 8, 8, 8, 8, 8, 8, 8, 8, 8, 8, 8, 8, 8, 8, 8, 8, 8, 8, 8, 8, 8, 8, 8, 8, 8, 8, 8, 8, 8, 8, 8, 8, 8, 8, 8, 8, 8, 8, 8, 8, 8, 8, 8, 8, 8, 8, 8, 8, 8, 8, 8, 8, 8, 8, 8, 8, 8, 8, 8, 8, 8, 8, 8, 8]⟩ : ByteArray) ((x_0 / 256) % 256)))))))) else none) else none) else (if 0 ≤ (x_0 % 256) then (if (x_0 % 256) < 256 then (some ((wrap64 (n_2 + (wrap64 ((bt (⟨#[0, 1, 2, 2, 3, 3, 3, 3, 4, 4, 4, 4, 4, 4, 4, 4, 5, 5, 5, 5, 5, 5, 5, 5, 5, 5, 5, 5, 5, 5, 5, 5, 6, 6, 6, 6, 6, 6, 6, 6, 6, 6, 6, 6, 6, 6, 6, 6, 6, 6, 6, 6, 6, 6, 6, 6, 6, 6, 6, 6, 6, 6, 6, 6, 7, 7, 7, 7, 7, 7, 7, 7, 7, 7, 7, 7, 7, 7, 7, 7, 7, 7, 7, 7, 7, 7, 7, 7, 7, 7, 7, 7, 7, 7, 7, 7, 7, 7, 7, 7, 7, 7, 7, 7, 7, 7, 7, 7, 7, 7, 7, 7, 7, 7, 7, 7, 7, 7, 7, 7, 7, 7, 7, 7, 7, 7, 7, 7, 8, 8, 8, 8, 8, 8, 8, 8, 8, 8, 8, 8, 8, 8, 8, 8, 8, 8, 8, 8, 8, 8, 8, 8, 8, 8, 8, 8, 8, 8, 8, 8, 8, 8, 8, 8, 8, 8, 8, 8, 8, 8, 8, 8, 8, 8, 8, 8, 8, 8, 8, 8, 8, 8, 8, 8, 8, 8, 8, 8, 8, 8, 8, 8, 8, 8, 8, 8, 8, 8, 8, 8, 8, 8, 8, 8, 8, 8, 8, 8, 8, 8, 8, 8, 8, 8, 8, 8, 8, 8, 8, 8, 8, 8, 8, 8, 8, 8, 8, 8, 8, 8, 8, 8, 8, 8, 8, 8, 8, 8, 8, 8, 8, 8, 8, 8, 8, 8, 8, 8, 8, 8, 8, 8, 8, 8, 8, 8]⟩ : ByteArray) (x_0 % 256)))))))) else none) else none)))
end
def bits_Len64.f (k : Nat) (a0 : Int) : Option (Int) := (if a0 ≥ 4294967296 then (bits_Len64.j0 k (a0 / 4294967296) 32) else (bits_Len64.j0 k a0 0))
def bits_Len64.Q (a0 : Int) (r : Int) : S → Prop := fun s => ∃ τ r', fin E0 Tryd.f38 0 τ s = some (r', []) ∧ r'.ro = (.i .i64 r)
def wide_Wide_Len.f (k : Nat) (a0_0 : Int) (a0_1 : Int) : Option (Int) := (if a0_0 = 0 then ((bits_Len64.f k a0_1).bind fun q2 => (some (q2))) else ((bits_Len64.f k a0_0).bind fun q3 => (some ((wrap64 (64 + q3))))))
def wide_Wide_Len.Q (a0_0 : Int) (a0_1 : Int) (r : Int) : S → Prop := fun s => ∃ τ r', fin E0 Tryd.f56 0 τ s = some (r', []) ∧ r'.ro = (.i .i64 r)
def wide_Wide_Left.f (a0_0 : Int) (a0_1 : Int) (a1 : Int) : Option (Int × Int) := (if a1 ≤ 0 then (some (a0_0, a0_1)) else (if a1 ≥ 128 then (some (0, 0)) else (if a1 ≥ 64 then (if 0 ≤ (wrap64 (a1 - 64)) then (some ((shl .u64 a0_1 (wrap64 (a1 - 64))), 0)) else none) else (if 0 ≤ a1 then (if 0 ≤ (wrap64 (64 - a1)) then (some ((Go.bits .or .u64 (shl .u64 a0_0 a1) (shr .u64 a0_1 (wrap64 (64 - a1)))), (shl .u64 a0_1 a1))) else none) else none))))
def wide_Wide_Left.Q (a0_0 : Int) (a0_1 : Int) (a1 : Int) (r : Int × Int) : S → Prop := fun s => ∃ τ r', fin E0 Tryd.f39 0 τ s = some (r', []) ∧ r'.ro = (.a [.i .u64 r.1, .i .u64 r.2])
mutual
def wide_Wide_Right.j0 : Nat → Int → Int → Int → Int → Int → Option (Int × Int × Bool)
  | 0, _, _, _, _, _ => none
  | k + 1, n_1, h0_0, h0_1, h2_0, h2_1 => ((wide_Wide_Left.f h2_0 h2_1 n_1).bind fun q7 => (if (!(q7.1 == h0_0) || (!(q7.2 == h0_1))) = true then (some (h2_0, h2_1, true)) else (if n_1 ≥ 128 then ((wide_Wide_Zero.f h0_0 h0_1).bind fun q10 => (some (h2_0, h2_1, (!q10)))) else (some (h2_0, h2_1, false)))))
end
def wide_Wide_Right.f (k : Nat) (a0_0 : Int) (a0_1 : Int) (a1 : Int) : Option (Int × Int × Bool) := (if a1 ≤ 0 then (some (a0_0, a0_1, false)) else (if a1 ≥ 128 then (wide_Wide_Right.j0 k a1 a0_0 a0_1 0 0) else (if a1 ≥ 64 then (if 0 ≤ (wrap64 (a1 - 64)) then (wide_Wide_Right.j0 k a1 a0_0 a0_1 0 (shr .u64 a0_0 (wrap64 (a1 - 64)))) else none) else (if 0 ≤ a1 then (if 0 ≤ (wrap64 (64 - a1)) then (wide_Wide_Right.j0 k a1 a0_0 a0_1 (shr .u64 a0_0 a1) (Go.bits .or .u64 (shl .u64 a0_0 (wrap64 (64 - a1))) (shr .u64 a0_1 a1))) else none) else none))))
def wide_Wide_Right.Q (a0_0 : Int) (a0_1 : Int) (a1 : Int) (r : Int × Int × Bool) : S → Prop := fun s => ∃ τ r', fin E0 Tryd.f49 0 τ s = some (r', []) ∧ r'.ro = (.t [.a [.i .u64 r.1, .i .u64 r.2.1], .b r.2.2])
def round_split.f (k : Nat) (a0_0 : Int) (a0_1 : Int) (a1 : Int) (a2 : Bool) : Option (Bool × Bool) := (if a1 > 128 then (some (false, a2)) else ((wide_Wide_Right.f k a0_0 a0_1 (wrap64 (a1 - 1))).bind fun q2 => (some (((Go.bits .and .u64 q2.2.1 1) == 1), q2.2.2))))
def round_split.Q (a0_0 : Int) (a0_1 : Int) (a1 : Int) (a2 : Bool) (r : Bool × Bool) : S → Prop := fun s => ∃ τ r', fin E0 Tryd.f57 0 τ s = some (r', []) ∧ r'.ro = (.t [.b r.1, .b r.2])
def wide_Wide_Add.f (a0_0 : Int) (a0_1 : Int) (a1_0 : Int) (a1_1 : Int) : Option (Int × Int × Bool) := ((bits_Add64.f a0_1 a1_1 0).bind fun q1 => ((bits_Add64.f a0_0 a1_0 q1.2).bind fun q2 => (some (q2.1, q1.1, (q2.2 == 1)))))
def wide_Wide_Add.Q (a0_0 : Int) (a0_1 : Int) (a1_0 : Int) (a1_1 : Int) (r : Int × Int × Bool) : S → Prop := fun s => ∃ τ r', fin E0 Tryd.f50 0 τ s = some (r', []) ∧ r'.ro = (.t [.a [.i .u64 r.1, .i .u64 r.2.1], .b r.2.2])
mutual
def round_Round.j0 : Nat → Bool → Int → Bool → Int → Bool → Int → Int → Option (Int × Int)
  | 0, _, _, _, _, _, _, _ => none
  | k + 1, neg_0, exp_2, more_3, drop_10, tiny_11, h0_0, h0_1 => (if drop_10 > 0 then ((wide_Wide_Right.f k h0_0 h0_1 drop_10).bind fun q10 => ((round_split.f k h0_0 h0_1 drop_10 q10.2.2).bind fun q11 => (if q11.1 = true then (round_Round.j1 k neg_0 exp_2 more_3 drop_10 tiny_11 true true q11.2 q10.1 q10.2.1) else (if q11.2 = true then (round_Round.j1 k neg_0 exp_2 more_3 drop_10 tiny_11 true false true q10.1 q10.2.1) else (round_Round.j1 k neg_0 exp_2 more_3 drop_10 tiny_11 more_3 false false q10.1 q10.2.1))))) else (if drop_10 < 0 then (round_Round.j3 k neg_0 exp_2 drop_10 tiny_11 more_3 (!more_3) h0_0 h0_1) else (round_Round.j3 k neg_0 exp_2 drop_10 tiny_11 more_3 false h0_0 h0_1)))
def round_Round.j1 : Nat → Bool → Int → Bool → Int → Bool → Bool → Bool → Bool → Int → Int → Option (Int × Int)
  | 0, _, _, _, _, _, _, _, _, _, _ => none
  | k + 1, neg_0, exp_2, more_3, drop_10, tiny_11, lost_12, half_13, fell_15, h1_0, h1_1 => (if half_13 = true then (if fell_15 = true then (round_Round.j2 k neg_0 exp_2 drop_10 tiny_11 lost_12 true h1_0 h1_1) else (if more_3 = true then (round_Round.j2 k neg_0 exp_2 drop_10 tiny_11 lost_12 true h1_0 h1_1) else (round_Round.j2 k neg_0 exp_2 drop_10 tiny_11 lost_12 ((Go.bits .and .u64 h1_1 1) == 1) h1_0 h1_1))) else (round_Round.j2 k neg_0 exp_2 drop_10 tiny_11 lost_12 false h1_0 h1_1))
def round_Round.j3 : Nat → Bool → Int → Int → Bool → Bool → Bool → Int → Int → Option (Int × Int)
  | 0, _, _, _, _, _, _, _, _ => none
  | k + 1, neg_0, exp_2, drop_10, tiny_11, lost_12, t_91, h0_0, h0_1 => (if t_91 = true then ((wide_Wide_Left.f h0_0 h0_1 (wrap64 (-drop_10))).bind fun q19 => (round_Round.j4 k neg_0 exp_2 drop_10 tiny_11 lost_12 q19.1 q19.2)) else (if drop_10 < 0 then ((wide_Wide_Left.f h0_0 h0_1 (wrap64 (-drop_10))).bind fun q21 => (round_Round.j4 k neg_0 exp_2 drop_10 tiny_11 lost_12 q21.1 q21.2)) else (round_Round.j4 k neg_0 exp_2 drop_10 tiny_11 lost_12 h0_0 h0_1)))
def round_Round.j2 : Nat → Bool → Int → Int → Bool → Bool → Bool → Int → Int → Option (Int × Int)
  | 0, _, _, _, _, _, _, _, _ => none
  | k + 1, neg_0, exp_2, drop_10, tiny_11, lost_12, t_79, h0_0, h0_1 => (if t_79 = true then ((wide_Wide_Add.f h0_0 h0_1 0 1).bind fun q23 => (round_Round.j4 k neg_0 exp_2 drop_10 tiny_11 lost_12 q23.1 q23.2.1)) else (round_Round.j4 k neg_0 exp_2 drop_10 tiny_11 lost_12 h0_0 h0_1))
def round_Round.j4 : Nat → Bool → Int → Int → Bool → Bool → Int → Int → Option (Int × Int)
  | 0, _, _, _, _, _, _, _ => none
  | k + 1, neg_0, exp_2, drop_10, tiny_11, lost_12, h0_0, h0_1 => (if h0_1 = 9007199254740992 then (round_Round.j5 k neg_0 (wrap64 ((wrap64 (exp_2 + drop_10)) + 1)) tiny_11 lost_12 (h0_1 / 2)) else (round_Round.j5 k neg_0 (wrap64 (exp_2 + drop_10)) tiny_11 lost_12 h0_1))
def round_Round.j5 : Nat → Bool → Int → Bool → Bool → Int → Option (Int × Int)
  | 0, _, _, _, _, _ => none
  | k + 1, neg_0, exp_2, tiny_11, lost_12, m_16 => (if lost_12 = true then (if tiny_11 = true then (round_Round.j6 k neg_0 exp_2 m_16 (Go.bits .or .u8 (Go.bits .or .u8 0 1) 2)) else (round_Round.j6 k neg_0 exp_2 m_16 (Go.bits .or .u8 0 1))) else (round_Round.j6 k neg_0 exp_2 m_16 0))
def round_Round.j6 : Nat → Bool → Int → Int → Int → Option (Int × Int)
  | 0, _, _, _, _ => none
  | k + 1, neg_0, exp_2, m_16, f_17 => (if m_16 < 4503599627370496 then ((word_Make.f neg_0 0 m_16).bind fun q28 => (some (q28, f_17))) else (if (wrap64 (exp_2 + 1075)) ≥ 2047 then ((word_Make.f neg_0 2047 0).bind fun q30 => (some (q30, (Go.bits .or .u8 (Go.bits .or .u8 f_17 4) 1)))) else ((word_Make.f neg_0 (wrap64 (exp_2 + 1075)) m_16).bind fun q31 => (some (q31, f_17)))))
end
def round_Round.f (k : Nat) (a0 : Bool) (a1_0 : Int) (a1_1 : Int) (a2 : Int) (a3 : Bool) : Option (Int × Int) := ((wide_Wide_Zero.f a1_0 a1_1).bind fun q1 => (if q1 = true then (if a3 = true then ((word_Make.f a0 0 0).bind fun q4 => (some (q4, 3))) else ((word_Make.f a0 0 0).bind fun q5 => (some (q5, 0)))) else ((wide_Wide_Len.f k a1_0 a1_1).bind fun q6 => ((wide_Wide_Len.f k a1_0 a1_1).bind fun q7 => (if (wrap64 ((mx (-100000) (mn a2 100000)) + (wrap64 (q6 - 53)))) < (-1074) then (round_Round.j0 k a0 (mx (-100000) (mn a2 100000)) a3 (wrap64 ((-1074) - (mx (-100000) (mn a2 100000)))) (decide ((wrap64 ((mx (-100000) (mn a2 100000)) + q7)) < (-1021))) a1_0 a1_1) else (round_Round.j0 k a0 (mx (-100000) (mn a2 100000)) a3 (wrap64 (q6 - 53)) (decide ((wrap64 ((mx (-100000) (mn a2 100000)) + q7)) < (-1021))) a1_0 a1_1))))))
def round_Round.Q (a0 : Bool) (a1_0 : Int) (a1_1 : Int) (a2 : Int) (a3 : Bool) (r : Int × Int) : S → Prop := fun s => ∃ τ r', fin E0 Tryd.f41 0 τ s = some (r', []) ∧ r'.ro = (.t [.i .u64 r.1, .i .u8 r.2])
mutual
def more_Scale.j0 : Nat → Int → Int → Bool → Option (Int × Int)
  | 0, _, _, _ => none
  | k + 1, a_0, n_1, t_14 => (if t_14 = true then (some (a_0, 0)) else ((word_Parts.f k a_0).bind fun q7 => ((word_Neg.f a_0).bind fun q8 => ((round_Round.f k q8 0 q7.1 (wrap64 (q7.2 + (mx (-10000) (mn n_1 10000)))) false).bind fun q9 => (some (q9.1, q9.2))))))
end
def more_Scale.f (k : Nat) (a0 : Int) (a1 : Int) : Option (Int × Int) := ((word_Kind.f k a0).bind fun q1 => (if q1 = 5 then ((word_Signals.f k a0).bind fun q3 => (if q3 = true then (some (9221120237041090560, 16)) else (some (9221120237041090560, 0)))) else (if q1 = 4 then (more_Scale.j0 k a0 a1 true) else (more_Scale.j0 k a0 a1 (q1 == 1)))))
def more_Scale.Q (a0 : Int) (a1 : Int) (r : Int × Int) : S → Prop := fun s => ∃ τ r', fin E0 Tryd.f22 0 τ s = some (r', []) ∧ r'.ro = (.t [.i .u64 r.1, .i .u8 r.2])
mutual
def vec_Unit.l0 : Nat → Int → List Int → List Int → Int → Int → Option ((List Int))
  | 0, _, _, _, _, _ => none
  | k + 1, e_1, h0, t_13, t_14, t_15 => (if t_15 < t_14 then (if 0 ≤ t_15 then (if t_15 < (t_13.length : Int) then ((more_Scale.f k (rd t_13 t_15) (wrap64 (-e_1))).bind fun q4 => (if h0.length < 17592186044416 then (vec_Unit.l0 k e_1 (h0 ++ ([q4.1] : List Int)) t_13 t_14 (wrap64 (t_15 + 1))) else none)) else none) else none) else (some (h0)))
end
def vec_Unit.f (k : Nat) (l0 : List Int) (a1 : Int) : Option ((List Int)) := (vec_Unit.l0 k (mx (-20000) (mn a1 20000)) ([] : List Int) l0 (l0.length : Int) 0)
def vec_Unit.Q (l0 : List Int) (a1 : Int) (r : (List Int)) : S → Prop := fun s => ∃ τ r', fin E0 Tryd.f18 0 τ s = some (r', [.row (r.map (V.i .u64)) 2 1 true true none]) ∧ r'.ro = (.s (some (0, 0)) r.length)
mutual
def soft_nan.l0 : Nat → Int → Bool → List Int → Int → Int → Option (Int × Int × Bool)
  | 0, _, _, _, _, _ => none
  | k + 1, f_5, is_6, t_9, t_10, t_11 => (if t_11 < t_10 then (if 0 ≤ t_11 then (if t_11 < (t_9.length : Int) then ((word_Kind.f k (rd t_9 t_11)).bind fun q4 => (if q4 = 5 then ((word_Signals.f k (rd t_9 t_11)).bind fun q6 => (if q6 = true then (soft_nan.l0 k 16 true t_9 t_10 (wrap64 (t_11 + 1))) else (soft_nan.l0 k f_5 true t_9 t_10 (wrap64 (t_11 + 1))))) else (soft_nan.l0 k f_5 is_6 t_9 t_10 (wrap64 (t_11 + 1))))) else none) else none) else (some (9221120237041090560, f_5, is_6)))
end
def soft_nan.f (k : Nat) (l0 : List Int) : Option (Int × Int × Bool) := (soft_nan.l0 k 0 false l0 (l0.length : Int) 0)
def soft_nan.Q (l0 : List Int) (r : Int × Int × Bool) : S → Prop := fun s => ∃ τ r', fin E0 Tryd.f48 0 τ s = some (r', []) ∧ r'.ro = (.t [.i .u64 r.1, .i .u8 r.2.1, .b r.2.2])
def bits_Mul64.f (a0 : Int) (a1 : Int) : Option (Int × Int) := (some ((IntKind.u64.wrap ((IntKind.u64.wrap ((IntKind.u64.wrap ((a0 / 4294967296) * (a1 / 4294967296))) + ((IntKind.u64.wrap ((IntKind.u64.wrap ((a0 / 4294967296) * (Go.bits .and .u64 a1 4294967295))) + ((IntKind.u64.wrap ((Go.bits .and .u64 a0 4294967295) * (Go.bits .and .u64 a1 4294967295))) / 4294967296))) / 4294967296))) + ((IntKind.u64.wrap ((Go.bits .and .u64 (IntKind.u64.wrap ((IntKind.u64.wrap ((a0 / 4294967296) * (Go.bits .and .u64 a1 4294967295))) + ((IntKind.u64.wrap ((Go.bits .and .u64 a0 4294967295) * (Go.bits .and .u64 a1 4294967295))) / 4294967296))) 4294967295) + (IntKind.u64.wrap ((Go.bits .and .u64 a0 4294967295) * (a1 / 4294967296))))) / 4294967296))), (IntKind.u64.wrap (a0 * a1))))
def bits_Mul64.Q (a0 : Int) (a1 : Int) (r : Int × Int) : S → Prop := fun s => ∃ τ r', fin E0 Tryd.f60 0 τ s = some (r', []) ∧ r'.ro = (.t [.i .u64 r.1, .i .u64 r.2])
def wide_Mul.f (a0 : Int) (a1 : Int) : Option (Int × Int) := ((bits_Mul64.f a0 a1).bind fun q1 => (some (q1.1, q1.2)))
def wide_Mul.Q (a0 : Int) (a1 : Int) (r : Int × Int) : S → Prop := fun s => ∃ τ r', fin E0 Tryd.f54 0 τ s = some (r', []) ∧ r'.ro = (.a [.i .u64 r.1, .i .u64 r.2])
mutual
def soft_Mul.j0 : Nat → Int → Int → Bool → Int → Int → Bool → Option (Int × Int)
  | 0, _, _, _, _, _, _ => none
  | k + 1, a_0, b_1, neg_9, x_10, y_11, t_36 => (if t_36 = true then (some (9221120237041090560, 16)) else (if x_10 = 4 then (soft_Mul.j1 k a_0 b_1 neg_9 true) else (soft_Mul.j1 k a_0 b_1 neg_9 (y_11 == 4))))
def soft_Mul.j1 : Nat → Int → Int → Bool → Bool → Option (Int × Int)
  | 0, _, _, _, _ => none
  | k + 1, a_0, b_1, neg_9, t_51 => (if t_51 = true then ((word_Make.f neg_9 2047 0).bind fun q14 => (some (q14, 0))) else ((word_Parts.f k a_0).bind fun q15 => ((word_Parts.f k b_1).bind fun q16 => ((wide_Mul.f q15.1 q16.1).bind fun q17 => ((round_Round.f k neg_9 q17.1 q17.2 (wrap64 (q15.2 + q16.2)) false).bind fun q18 => (some (q18.1, q18.2)))))))
end
def soft_Mul.f (k : Nat) (a0 : Int) (a1 : Int) : Option (Int × Int) := ((soft_nan.f k ([a0, a1] : List Int)).bind fun q1 => (if q1.2.2 = true then (some (q1.1, q1.2.1)) else ((word_Neg.f a0).bind fun q3 => ((word_Neg.f a1).bind fun q4 => ((word_Kind.f k a0).bind fun q5 => ((word_Kind.f k a1).bind fun q6 => (if q5 = 4 then (if q6 = 1 then (soft_Mul.j0 k a0 a1 (q3 != q4) q5 q6 true) else (if q5 = 1 then (soft_Mul.j0 k a0 a1 (q3 != q4) q5 q6 (q6 == 4)) else (soft_Mul.j0 k a0 a1 (q3 != q4) q5 q6 false))) else (if q5 = 1 then (soft_Mul.j0 k a0 a1 (q3 != q4) q5 q6 (q6 == 4)) else (soft_Mul.j0 k a0 a1 (q3 != q4) q5 q6 false)))))))))
def soft_Mul.Q (a0 : Int) (a1 : Int) (r : Int × Int) : S → Prop := fun s => ∃ τ r', fin E0 Tryd.f36 0 τ s = some (r', []) ∧ r'.ro = (.t [.i .u64 r.1, .i .u8 r.2])
def soft_Calc_note.f (s0_0 : Int) (a1 : Int) (a2 : Int) : Option (Int × Int) := (some (a1, (Go.bits .or .u8 s0_0 a2)))
def soft_Calc_note.Q (s0_0 : Int) (a1 : Int) (a2 : Int) (r : Int × Int) : S → Prop := fun s => ∃ τ r', fin E0 Tryd.f34 1 τ s = some (r', [.row [.i .u8 r.2] 0 0 true false none]) ∧ r'.ro = (.i .u64 r.1)
def soft_Calc_Mul.f (k : Nat) (s0_0 : Int) (a1 : Int) (a2 : Int) : Option (Int × Int) := ((soft_Mul.f k a1 a2).bind fun q1 => ((soft_Calc_note.f s0_0 q1.1 q1.2).bind fun q2 => (some (q2.1, q2.2))))
def soft_Calc_Mul.Q (s0_0 : Int) (a1 : Int) (a2 : Int) (r : Int × Int) : S → Prop := fun s => ∃ τ r', fin E0 Tryd.f20 1 τ s = some (r', [.row [.i .u8 r.2] 0 0 true false none]) ∧ r'.ro = (.i .u64 r.1)
def wide_Wide_Sub.f (a0_0 : Int) (a0_1 : Int) (a1_0 : Int) (a1_1 : Int) : Option (Int × Int × Bool) := ((bits_Sub64.f a0_1 a1_1 0).bind fun q1 => ((bits_Sub64.f a0_0 a1_0 q1.2).bind fun q2 => (some (q2.1, q1.1, (q2.2 == 1)))))
def wide_Wide_Sub.Q (a0_0 : Int) (a0_1 : Int) (a1_0 : Int) (a1_1 : Int) (r : Int × Int × Bool) : S → Prop := fun s => ∃ τ r', fin E0 Tryd.f51 0 τ s = some (r', []) ∧ r'.ro = (.t [.a [.i .u64 r.1, .i .u64 r.2.1], .b r.2.2])
mutual
def soft_Add.j0 : Nat → Int → Int → Int → Int → Bool → Option (Int × Int)
  | 0, _, _, _, _, _ => none
  | k + 1, a_0, b_1, x_9, y_10, t_37 => (if t_37 = true then (some (9221120237041090560, 16)) else (if x_9 = 4 then (some (a_0, 0)) else (if y_10 = 4 then (some (b_1, 0)) else (if x_9 = 1 then (soft_Add.j1 k a_0 b_1 x_9 y_10 (y_10 == 1)) else (soft_Add.j1 k a_0 b_1 x_9 y_10 false)))))
def soft_Add.j1 : Nat → Int → Int → Int → Int → Bool → Option (Int × Int)
  | 0, _, _, _, _, _ => none
  | k + 1, a_0, b_1, x_9, y_10, t_57 => (if t_57 = true then (some ((Go.bits .and .u64 a_0 b_1), 0)) else (if x_9 = 1 then (some (b_1, 0)) else (if y_10 = 1 then (some (a_0, 0)) else ((word_Abs.f a_0).bind fun q14 => ((word_Abs.f b_1).bind fun q15 => (if q14 < q15 then (soft_Add.j2 k b_1 a_0) else (soft_Add.j2 k a_0 b_1)))))))
def soft_Add.j2 : Nat → Int → Int → Option (Int × Int)
  | 0, _, _ => none
  | k + 1, a_0, b_1 => ((word_Parts.f k a_0).bind fun q17 => ((word_Parts.f k b_1).bind fun q18 => ((wide_Wide_Left.f 0 q17.1 64).bind fun q19 => ((wide_Wide_Left.f 0 q18.1 64).bind fun q20 => ((wide_Wide_Right.f k q20.1 q20.2 (wrap64 (q17.2 - q18.2))).bind fun q21 => ((word_Neg.f a_0).bind fun q22 => ((word_Neg.f b_1).bind fun q23 => (if (q22 == q23) = true then ((wide_Wide_Add.f q19.1 q19.2 q21.1 q21.2.1).bind fun q25 => ((word_Neg.f a_0).bind fun q26 => ((round_Round.f k q26 q25.1 q25.2.1 (wrap64 (q17.2 - 64)) q21.2.2).bind fun q27 => (some (q27.1, q27.2))))) else (if q21.2.2 = true then ((wide_Wide_Add.f q21.1 q21.2.1 0 1).bind fun q29 => (soft_Add.j3 k a_0 q17.2 true q19.1 q19.2 q29.1 q29.2.1)) else (soft_Add.j3 k a_0 q17.2 false q19.1 q19.2 q21.1 q21.2.1))))))))))
def soft_Add.j3 : Nat → Int → Int → Bool → Int → Int → Int → Int → Option (Int × Int)
  | 0, _, _, _, _, _, _, _ => none
  | k + 1, a_0, e_12, low_17, h0_0, h0_1, h1_0, h1_1 => ((wide_Wide_Sub.f h0_0 h0_1 h1_0 h1_1).bind fun q30 => ((wide_Wide_Zero.f q30.1 q30.2.1).bind fun q31 => (if q31 = true then (soft_Add.j4 k a_0 e_12 low_17 (!low_17) q30.1 q30.2.1) else (soft_Add.j4 k a_0 e_12 low_17 false q30.1 q30.2.1))))
def soft_Add.j4 : Nat → Int → Int → Bool → Bool → Int → Int → Option (Int × Int)
  | 0, _, _, _, _, _, _ => none
  | k + 1, a_0, e_12, low_17, t_143, h0_0, h0_1 => (if t_143 = true then (some (0, 0)) else ((word_Neg.f a_0).bind fun q34 => ((round_Round.f k q34 h0_0 h0_1 (wrap64 (e_12 - 64)) low_17).bind fun q35 => (some (q35.1, q35.2)))))
end
def soft_Add.f (k : Nat) (a0 : Int) (a1 : Int) : Option (Int × Int) := ((soft_nan.f k ([a0, a1] : List Int)).bind fun q1 => (if q1.2.2 = true then (some (q1.1, q1.2.1)) else ((word_Kind.f k a0).bind fun q3 => ((word_Kind.f k a1).bind fun q4 => (if q3 = 4 then (if q4 = 4 then (soft_Add.j0 k a0 a1 q3 q4 (a0 != a1)) else (soft_Add.j0 k a0 a1 q3 q4 false)) else (soft_Add.j0 k a0 a1 q3 q4 false))))))
def soft_Add.Q (a0 : Int) (a1 : Int) (r : Int × Int) : S → Prop := fun s => ∃ τ r', fin E0 Tryd.f35 0 τ s = some (r', []) ∧ r'.ro = (.t [.i .u64 r.1, .i .u8 r.2])
def soft_Calc_Add.f (k : Nat) (s0_0 : Int) (a1 : Int) (a2 : Int) : Option (Int × Int) := ((soft_Add.f k a1 a2).bind fun q1 => ((soft_Calc_note.f s0_0 q1.1 q1.2).bind fun q2 => (some (q2.1, q2.2))))
def soft_Calc_Add.Q (s0_0 : Int) (a1 : Int) (a2 : Int) (r : Int × Int) : S → Prop := fun s => ∃ τ r', fin E0 Tryd.f19 1 τ s = some (r', [.row [.i .u8 r.2] 0 0 true false none]) ∧ r'.ro = (.i .u64 r.1)
mutual
def wide_Wide_Cmp.j0 : Nat → Bool → Int → Int → Int → Int → Option (Int)
  | 0, _, _, _, _, _ => none
  | k + 1, t_5, h0_0, h0_1, h1_0, h1_1 => (if t_5 = true then (some ((-1))) else (if ((h0_0 == h1_0) && ((h0_1 == h1_1))) = true then (some (0)) else (some (1))))
end
def wide_Wide_Cmp.f (k : Nat) (a0_0 : Int) (a0_1 : Int) (a1_0 : Int) (a1_1 : Int) : Option (Int) := (if a0_0 < a1_0 then (wide_Wide_Cmp.j0 k true a0_0 a0_1 a1_0 a1_1) else (if a0_0 = a1_0 then (wide_Wide_Cmp.j0 k (decide (a0_1 < a1_1)) a0_0 a0_1 a1_0 a1_1) else (wide_Wide_Cmp.j0 k false a0_0 a0_1 a1_0 a1_1)))
def wide_Wide_Cmp.Q (a0_0 : Int) (a0_1 : Int) (a1_0 : Int) (a1_1 : Int) (r : Int) : S → Prop := fun s => ∃ τ r', fin E0 Tryd.f55 0 τ s = some (r', []) ∧ r'.ro = (.i .i64 r)
mutual
def wide_Wide_Sqrt.l0 : Nat → Int → Int → Int → Int → Option (Int × Bool)
  | 0, _, _, _, _ => none
  | k + 1, root_4, i_5, h0_0, h0_1 => (if i_5 ≥ 0 then (if 0 ≤ i_5 then ((wide_Mul.f (Go.bits .or .u64 root_4 (shl .u64 1 i_5)) (Go.bits .or .u64 root_4 (shl .u64 1 i_5))).bind fun q3 => ((wide_Wide_Cmp.f k q3.1 q3.2 h0_0 h0_1).bind fun q4 => (if q4 ≤ 0 then (wide_Wide_Sqrt.l0 k (Go.bits .or .u64 root_4 (shl .u64 1 i_5)) (wrap64 (i_5 - 1)) h0_0 h0_1) else (wide_Wide_Sqrt.l0 k root_4 (wrap64 (i_5 - 1)) h0_0 h0_1)))) else none) else ((wide_Mul.f root_4 root_4).bind fun q6 => (some (root_4, ((q6.1 == h0_0) && ((q6.2 == h0_1)))))))
end
def wide_Wide_Sqrt.f (k : Nat) (a0_0 : Int) (a0_1 : Int) : Option (Int × Bool) := (wide_Wide_Sqrt.l0 k 0 63 a0_0 a0_1)
def wide_Wide_Sqrt.Q (a0_0 : Int) (a0_1 : Int) (r : Int × Bool) : S → Prop := fun s => ∃ τ r', fin E0 Tryd.f40 0 τ s = some (r', []) ∧ r'.ro = (.t [.i .u64 r.1, .b r.2])
mutual
def more_Sqrt.j0 : Nat → Int → Bool → Option (Int × Int)
  | 0, _, _ => none
  | k + 1, a_0, t_15 => (if t_15 = true then (some (a_0, 0)) else ((word_Neg.f a_0).bind fun q8 => (if q8 = true then (some (9221120237041090560, 16)) else ((word_Parts.f k a_0).bind fun q10 => ((bits_Len64.f k q10.1).bind fun q11 => (if (Go.bits .and .i64 (wrap64 (q10.2 - (wrap64 (127 - q11)))) 1) = 0 then ((wide_Wide_Left.f 0 q10.1 (wrap64 (127 - q11))).bind fun q13 => ((wide_Wide_Sqrt.f k q13.1 q13.2).bind fun q14 => ((round_Round.f k false 0 q14.1 (wrap64 (Int.tdiv (wrap64 (q10.2 - (wrap64 (127 - q11)))) 2)) (!q14.2)).bind fun q15 => (some (q15.1, q15.2))))) else ((wide_Wide_Left.f 0 q10.1 (wrap64 ((wrap64 (127 - q11)) - 1))).bind fun q16 => ((wide_Wide_Sqrt.f k q16.1 q16.2).bind fun q17 => ((round_Round.f k false 0 q17.1 (wrap64 (Int.tdiv (wrap64 (q10.2 - (wrap64 ((wrap64 (127 - q11)) - 1)))) 2)) (!q17.2)).bind fun q18 => (some (q18.1, q18.2)))))))))))
end
def more_Sqrt.f (k : Nat) (a0 : Int) : Option (Int × Int) := ((word_Kind.f k a0).bind fun q1 => (if q1 = 5 then ((word_Signals.f k a0).bind fun q3 => (if q3 = true then (some (9221120237041090560, 16)) else (some (9221120237041090560, 0)))) else ((word_Kind.f k a0).bind fun q5 => (if q5 = 1 then (more_Sqrt.j0 k a0 true) else (more_Sqrt.j0 k a0 (a0 == 9218868437227405312))))))
def more_Sqrt.Q (a0 : Int) (r : Int × Int) : S → Prop := fun s => ∃ τ r', fin E0 Tryd.f21 0 τ s = some (r', []) ∧ r'.ro = (.t [.i .u64 r.1, .i .u8 r.2])
def soft_Calc_note_nil.f (a1 : Int) (a2 : Int) : Option (Int) := (some (a1))
def soft_Calc_note_nil.Q (a1 : Int) (a2 : Int) (r : Int) : S → Prop := fun s => ∃ τ r', fin E0 Tryd.f34 0 τ s = some (r', []) ∧ r'.ro = (.i .u64 r)
def soft_Calc_Note_nil.f (a1 : Int) (a2 : Int) : Option (Int) := ((soft_Calc_note_nil.f a1 a2).bind fun q1 => (some (q1)))
def soft_Calc_Note_nil.Q (a1 : Int) (a2 : Int) (r : Int) : S → Prop := fun s => ∃ τ r', fin E0 Tryd.f23 0 τ s = some (r', []) ∧ r'.ro = (.i .u64 r)
mutual
def vec_Nrm2_nil.l0 : Nat → Int → Int → List Int → Int → Int → Int → Option (Int)
  | 0, _, _, _, _, _, _ => none
  | k + 1, e_5, sum_10, h1, t_32, t_33, h0 => (if t_33 < t_32 then (if 0 ≤ t_33 then (if t_33 < (h1.length : Int) then ((soft_Calc_Mul.f k h0 (rd h1 t_33) (rd h1 t_33)).bind fun q8 => ((soft_Calc_Add.f k q8.2 sum_10 q8.1).bind fun q9 => (vec_Nrm2_nil.l0 k e_5 q9.1 h1 t_32 (wrap64 (t_33 + 1)) q9.2))) else none) else none) else ((more_Sqrt.f k sum_10).bind fun q10 => ((more_Scale.f k q10.1 e_5).bind fun q11 => ((soft_Calc_Note_nil.f q11.1 (Go.bits .or .u8 q11.2 (Go.bits .and .u8 1 h0))).bind fun q12 => (some (q12))))))
end
def vec_Nrm2_nil.f (k : Nat) (l1 : List Int) : Option (Int) := ((vec_Power.f k l1).bind fun q1 => (if q1.2 = true then ((vec_Unit.f k l1 q1.1).bind fun q3 => (vec_Nrm2_nil.l0 k q1.1 0 q3 (q3.length : Int) 0 0)) else ((order_Greatest.f k l1).bind fun q4 => (some (q4.1)))))
def vec_Nrm2_nil.Q (l1 : List Int) (r : Int) : S → Prop := fun s => ∃ τ r', fin E0 Tryd.f6 0 τ s = some (r', []) ∧ r'.ro = (.i .u64 r)
def gimballaw10_head.f (k : Nat)  : Option (Bool) := ((vec_Nrm2_nil.f k ([4613937818241073152, 4616189618054758400] : List Int)).bind fun q1 => (some ((q1 == 4617315517961601024))))
def gimballaw10_head.Q  (r : Bool) : S → Prop := fun s => ∃ τ r', fin E0 Tryd.f5 0 τ s = some (r', []) ∧ r'.ro = (.b r)
def soft_Calc_Note.f (s0_0 : Int) (a1 : Int) (a2 : Int) : Option (Int × Int) := ((soft_Calc_note.f s0_0 a1 a2).bind fun q1 => (some (q1.1, q1.2)))
def soft_Calc_Note.Q (s0_0 : Int) (a1 : Int) (a2 : Int) (r : Int × Int) : S → Prop := fun s => ∃ τ r', fin E0 Tryd.f23 1 τ s = some (r', [.row [.i .u8 r.2] 0 0 true false none]) ∧ r'.ro = (.i .u64 r.1)
mutual
def vec_Nrm2.l0 : Nat → Int → Int → List Int → Int → Int → Int → Int → Option (Int × Int)
  | 0, _, _, _, _, _, _, _ => none
  | k + 1, e_5, sum_10, h2, t_32, t_33, h0, h1 => (if t_33 < t_32 then (if 0 ≤ t_33 then (if t_33 < (h2.length : Int) then ((soft_Calc_Mul.f k h1 (rd h2 t_33) (rd h2 t_33)).bind fun q8 => ((soft_Calc_Add.f k q8.2 sum_10 q8.1).bind fun q9 => (vec_Nrm2.l0 k e_5 q9.1 h2 t_32 (wrap64 (t_33 + 1)) h0 q9.2))) else none) else none) else ((more_Sqrt.f k sum_10).bind fun q10 => ((more_Scale.f k q10.1 e_5).bind fun q11 => ((soft_Calc_Note.f h0 q11.1 (Go.bits .or .u8 q11.2 (Go.bits .and .u8 1 h1))).bind fun q12 => (some (q12.1, q12.2))))))
end
def vec_Nrm2.f (k : Nat) (s0_0 : Int) (l1 : List Int) : Option (Int × Int) := ((vec_Power.f k l1).bind fun q1 => (if q1.2 = true then ((vec_Unit.f k l1 q1.1).bind fun q3 => (vec_Nrm2.l0 k q1.1 0 q3 (q3.length : Int) 0 s0_0 0)) else ((order_Greatest.f k l1).bind fun q4 => (some (q4.1, s0_0)))))
def vec_Nrm2.Q (s0_0 : Int) (l1 : List Int) (r : Int × Int) : S → Prop := fun s => ∃ τ r', fin E0 Tryd.f6 1 τ s = some (r', [.row [.i .u8 r.2] 0 0 true false none]) ∧ r'.ro = (.i .u64 r.1)
def word_Finite.f (a0 : Int) : Option (Bool) := ((word_Exp.f a0).bind fun q1 => (some ((decide (q1 < 2047)))))
def word_Finite.Q (a0 : Int) (r : Bool) : S → Prop := fun s => ∃ τ r', fin E0 Tryd.f24 0 τ s = some (r', []) ∧ r'.ro = (.b r)
def bits_TrailingZeros32.f (a0 : Int) : Option (Int) := (if a0 = 0 then (some (32)) else (if 0 ≤ ((((Go.bits .and .u32 a0 ((-a0) % 4294967296)) * 125613361) % 4294967296) / 134217728) then (if ((((Go.bits .and .u32 a0 ((-a0) % 4294967296)) * 125613361) % 4294967296) / 134217728) < 32 then (some ((wrap64 ((rd tab32 ((((Go.bits .and .u32 a0 ((-a0) % 4294967296)) * 125613361) % 4294967296) / 134217728)))))) else none) else none))
def bits_TrailingZeros32.Q (a0 : Int) (r : Int) : S → Prop := fun s => ∃ τ r', fin E0 Tryd.f44 0 τ s = some (r', []) ∧ r'.ro = (.i .i64 r)
mutual
def dyad_down.l0 : Nat → List Int → Int → List Int → Int → Int → Option ((List Int))
  | 0, _, _, _, _, _ => none
  | k + 1, m_0, s_1, h0, t_12, t_13 => (if t_13 < t_12 then (if 0 ≤ t_13 then (if t_13 < (m_0.length : Int) then (if 0 ≤ s_1 then (if t_13 < (h0.length : Int) then (if (wrap64 (t_13 + 1)) < (m_0.length : Int) then (if 0 ≤ (wrap64 (t_13 + 1)) then (if 0 ≤ (wrap64 (32 - s_1)) then (dyad_down.l0 k m_0 s_1 ((h0.set t_13.toNat (shr .u32 (rd m_0 t_13) s_1)).set t_13.toNat (Go.bits .or .u32 (rd (h0.set t_13.toNat (shr .u32 (rd m_0 t_13) s_1)) t_13) (shl .u32 (rd m_0 (wrap64 (t_13 + 1))) (wrap64 (32 - s_1))))) t_12 (wrap64 (t_13 + 1))) else none) else none) else (dyad_down.l0 k m_0 s_1 (h0.set t_13.toNat (shr .u32 (rd m_0 t_13) s_1)) t_12 (wrap64 (t_13 + 1)))) else none) else none) else none) else none) else (if (h0.length : Int) > 0 then (if 0 ≤ (wrap64 ((h0.length : Int) - 1)) then (if (wrap64 ((h0.length : Int) - 1)) < (h0.length : Int) then (if (rd h0 (wrap64 ((h0.length : Int) - 1))) = 0 then (if (wrap64 ((h0.length : Int) - 1)) ≤ (wrap64 ((h0.length : Int) - 1)) then (if (wrap64 ((h0.length : Int) - 1)) ≤ (h0.length : Int) then (some ((List.take (wrap64 ((h0.length : Int) - 1)).toNat h0))) else none) else none) else (some (h0))) else none) else none) else (some (h0))))
end
def dyad_down.f (k : Nat) (l0 : List Int) (a1 : Int) : Option ((List Int)) := (if 0 ≤ (l0.length : Int) then (if (l0.length : Int) ≤ 70368744177664 then (dyad_down.l0 k l0 a1 (List.replicate (l0.length : Int).toNat 0) (l0.length : Int) 0) else none) else none)
def dyad_down.Q (l0 : List Int) (a1 : Int) (r : (List Int)) : S → Prop := fun s => ∃ τ r', fin E0 Tryd.f45 0 τ s = some (r', []) ∧ r'.ro = (.r (r.map (V.i .u32)) r.length true)
mutual
def dyad_trim.l0 : Nat → Bool → List Int → Int → Int → Option (Bool × (List Int) × Int)
  | 0, _, _, _, _ => none
  | k + 1, neg_0, m_1, e_2, n_7 => (if n_7 > 0 then (if 0 ≤ (wrap64 (n_7 - 1)) then (if (wrap64 (n_7 - 1)) < (m_1.length : Int) then (if (rd m_1 (wrap64 (n_7 - 1))) = 0 then (dyad_trim.l0 k neg_0 m_1 e_2 (wrap64 (n_7 - 1))) else (dyad_trim.j1 k neg_0 m_1 e_2 n_7)) else none) else none) else (dyad_trim.j1 k neg_0 m_1 e_2 n_7))
def dyad_trim.j1 : Nat → Bool → List Int → Int → Int → Option (Bool × (List Int) × Int)
  | 0, _, _, _, _ => none
  | k + 1, neg_0, m_1, e_2, n_7 => (if 0 ≤ n_7 then (if n_7 ≤ (m_1.length : Int) then (if n_7 = 0 then (some (false, [], 0)) else (dyad_trim.l1 k neg_0 (List.take n_7.toNat m_1) e_2 0)) else none) else none)
def dyad_trim.l1 : Nat → Bool → List Int → Int → Int → Option (Bool × (List Int) × Int)
  | 0, _, _, _, _ => none
  | k + 1, neg_0, m_1, e_2, k_8 => (if 0 ≤ k_8 then (if k_8 < (m_1.length : Int) then (if (rd m_1 k_8) = 0 then (dyad_trim.l1 k neg_0 m_1 e_2 (wrap64 (k_8 + 1))) else (if k_8 ≤ (m_1.length : Int) then (if 0 < ((List.drop k_8.toNat m_1).length : Int) then ((bits_TrailingZeros32.f (rd (List.drop k_8.toNat m_1) 0)).bind fun q13 => (if q13 > 0 then ((dyad_down.f k (List.drop k_8.toNat m_1) q13).bind fun q15 => (some (neg_0, q15, (wrap64 ((wrap64 (e_2 + (wrap64 (32 * k_8)))) + q13))))) else (some (neg_0, (List.drop k_8.toNat m_1), (wrap64 (e_2 + (wrap64 (32 * k_8)))))))) else none) else none)) else none) else none)
end
def dyad_trim.f (k : Nat) (a0 : Bool) (l1 : List Int) (a2 : Int) : Option (Bool × (List Int) × Int) := (dyad_trim.l0 k a0 l1 a2 (l1.length : Int))
def dyad_trim.Q (a0 : Bool) (l1 : List Int) (a2 : Int) (r : Bool × (List Int) × Int) : S → Prop := fun s => ∃ τ r', fin E0 Tryd.f26 0 τ s = some (r', []) ∧ r'.ro = (.a [.b r.1, .r (r.2.1.map (V.i .u32)) r.2.1.length true, .i .i64 r.2.2])
def dyad_Of.f (k : Nat) (a0 : Int) : Option (Bool × (List Int) × Int × Bool) := ((word_Finite.f a0).bind fun q1 => (if q1 = true then ((word_Parts.f k a0).bind fun q3 => ((word_Neg.f a0).bind fun q4 => ((dyad_trim.f k q4 ([(q3.1 % 4294967296), ((q3.1 / 4294967296) % 4294967296)] : List Int) q3.2).bind fun q5 => (some (q5.1, q5.2.1, q5.2.2, true))))) else (some (false, [], 0, false))))
def dyad_Of.Q (a0 : Int) (r : Bool × (List Int) × Int × Bool) : S → Prop := fun s => ∃ τ r', fin E0 Tryd.f7 0 τ s = some (r', []) ∧ r'.ro = (.t [.a [.b r.1, .r (r.2.1.map (V.i .u32)) r.2.1.length true, .i .i64 r.2.2.1], .b r.2.2.2])
mutual
def dyad_Num_Mul.j0 : Nat → Bool → Bool → List Int → Int → Bool → List Int → Int → Option (Bool × (List Int) × Int)
  | 0, _, _, _, _, _, _, _ => none
  | k + 1, t_20, h0_0, h0_1, h0_2, h1_0, h1_1, h1_2 => (if t_20 = true then (some (false, [], 0)) else (if 0 ≤ (wrap64 ((h0_1.length : Int) + (h1_1.length : Int))) then (if (wrap64 ((h0_1.length : Int) + (h1_1.length : Int))) ≤ 70368744177664 then (dyad_Num_Mul.l0 k (List.replicate (wrap64 ((h0_1.length : Int) + (h1_1.length : Int))).toNat 0) h0_1 (h0_1.length : Int) 0 h0_0 h0_1 h0_2 h1_0 h1_1 h1_2) else none) else none))
def dyad_Num_Mul.l0 : Nat → List Int → List Int → Int → Int → Bool → List Int → Int → Bool → List Int → Int → Option (Bool × (List Int) × Int)
  | 0, _, _, _, _, _, _, _, _, _, _ => none
  | k + 1, h3, t_31, t_32, t_33, h0_0, h0_1, h0_2, h1_0, h1_1, h1_2 => (if t_33 < t_32 then (if 0 ≤ t_33 then (if t_33 < (t_31.length : Int) then (dyad_Num_Mul.l1 k h3 t_33 (rd t_31 t_33) 0 t_31 t_32 t_33 h1_1 (h1_1.length : Int) 0 h0_0 h0_1 h0_2 h1_0 h1_1 h1_2) else none) else none) else ((dyad_trim.f k (h0_0 != h1_0) h3 (wrap64 (h0_2 + h1_2))).bind fun q8 => (some (q8.1, q8.2.1, q8.2.2))))
def dyad_Num_Mul.l1 : Nat → List Int → Int → Int → Int → List Int → Int → Int → List Int → Int → Int → Bool → List Int → Int → Bool → List Int → Int → Option (Bool × (List Int) × Int)
  | 0, _, _, _, _, _, _, _, _, _, _, _, _, _, _, _, _ => none
  | k + 1, h3, i_6, x_7, c_8, t_31, t_32, t_33, t_39, t_40, t_41, h0_0, h0_1, h0_2, h1_0, h1_1, h1_2 => (if t_41 < t_40 then (if 0 ≤ t_41 then (if t_41 < (t_39.length : Int) then (if 0 ≤ (wrap64 (i_6 + t_41)) then (if (wrap64 (i_6 + t_41)) < (h3.length : Int) then (dyad_Num_Mul.l1 k (h3.set (wrap64 (i_6 + t_41)).toNat ((IntKind.u64.wrap (c_8 + (IntKind.u64.wrap ((IntKind.u64.wrap ((rd h3 (wrap64 (i_6 + t_41))))) + (IntKind.u64.wrap ((IntKind.u64.wrap (x_7)) * (IntKind.u64.wrap ((rd t_39 t_41))))))))) % 4294967296)) i_6 x_7 ((IntKind.u64.wrap (c_8 + (IntKind.u64.wrap ((IntKind.u64.wrap ((rd h3 (wrap64 (i_6 + t_41))))) + (IntKind.u64.wrap ((IntKind.u64.wrap (x_7)) * (IntKind.u64.wrap ((rd t_39 t_41))))))))) / 4294967296) t_31 t_32 t_33 t_39 t_40 (wrap64 (t_41 + 1)) h0_0 h0_1 h0_2 h1_0 h1_1 h1_2) else none) else none) else none) else none) else (if 0 ≤ (wrap64 (i_6 + (h1_1.length : Int))) then (if (wrap64 (i_6 + (h1_1.length : Int))) < (h3.length : Int) then (dyad_Num_Mul.l0 k (h3.set (wrap64 (i_6 + (h1_1.length : Int))).toNat (c_8 % 4294967296)) t_31 t_32 (wrap64 (t_33 + 1)) h0_0 h0_1 h0_2 h1_0 h1_1 h1_2) else none) else none))
end
def dyad_Num_Mul.f (k : Nat) (a0_0 : Bool) (l0_1 : List Int) (a0_2 : Int) (a1_0 : Bool) (l1_1 : List Int) (a1_2 : Int) : Option (Bool × (List Int) × Int) := (if (l0_1.length : Int) = 0 then (dyad_Num_Mul.j0 k true a0_0 l0_1 a0_2 a1_0 l1_1 a1_2) else (dyad_Num_Mul.j0 k ((l1_1.length : Int) == 0) a0_0 l0_1 a0_2 a1_0 l1_1 a1_2))
def dyad_Num_Mul.Q (a0_0 : Bool) (l0_1 : List Int) (a0_2 : Int) (a1_0 : Bool) (l1_1 : List Int) (a1_2 : Int) (r : Bool × (List Int) × Int) : S → Prop := fun s => ∃ τ r', fin E0 Tryd.f10 0 τ s = some (r', []) ∧ r'.ro = (.a [.b r.1, .r (r.2.1.map (V.i .u32)) r.2.1.length true, .i .i64 r.2.2])
mutual
def dyad_line_1.l0 : Nat → List Int → Int → Option ((List Int))
  | 0, _, _ => none
  | k + 1, m_0, n_3 => (if n_3 > 0 then (if 0 ≤ (wrap64 (n_3 - 1)) then (if (wrap64 (n_3 - 1)) < (m_0.length : Int) then (if (rd m_0 (wrap64 (n_3 - 1))) = 0 then (dyad_line_1.l0 k m_0 (wrap64 (n_3 - 1))) else (if 0 ≤ n_3 then (if n_3 ≤ (m_0.length : Int) then (some ((List.take n_3.toNat m_0))) else none) else none)) else none) else none) else (if 0 ≤ n_3 then (if n_3 ≤ (m_0.length : Int) then (some ((List.take n_3.toNat m_0))) else none) else none))
end
def dyad_line_1.f (k : Nat) (l0 : List Int) : Option ((List Int)) := (dyad_line_1.l0 k l0 (l0.length : Int))
def dyad_line_1.Q (l0 : List Int) (r : (List Int)) : S → Prop := fun s => ∃ τ r', fin E0 Tryd.f46 0 τ s = some (r', []) ∧ r'.ro = (.r (r.map (V.i .u32)) r.length true)
mutual
def dyad_up.l0 : Nat → List Int → Int → Int → List Int → Int → Int → Option ((List Int))
  | 0, _, _, _, _, _, _ => none
  | k + 1, h0, s_6, c_7, t_21, t_22, t_23 => (if t_23 < t_22 then (if 0 ≤ t_23 then (if t_23 < (t_21.length : Int) then (if 0 ≤ s_6 then (if h0.length < 35184372088832 then (if 0 ≤ (wrap64 (32 - s_6)) then (dyad_up.l0 k (h0 ++ ([(Go.bits .or .u32 (shl .u32 (rd t_21 t_23) s_6) c_7)] : List Int)) s_6 ((shr .u64 (IntKind.u64.wrap ((rd t_21 t_23))) (wrap64 (32 - s_6))) % 4294967296) t_21 t_22 (wrap64 (t_23 + 1))) else none) else none) else none) else none) else none) else (if h0.length < 35184372088832 then (some ((h0 ++ ([c_7] : List Int)))) else none))
end
def dyad_up.f (k : Nat) (l0 : List Int) (a1 : Int) : Option ((List Int)) := (if 0 ≤ (wrap64 (Int.tdiv a1 32)) then (if (wrap64 (Int.tdiv a1 32)) ≤ (wrap64 ((wrap64 ((wrap64 (Int.tdiv a1 32)) + (l0.length : Int))) + 1)) then (if (wrap64 ((wrap64 ((wrap64 (Int.tdiv a1 32)) + (l0.length : Int))) + 1)) ≤ 70368744177664 then (dyad_up.l0 k (List.replicate (wrap64 (Int.tdiv a1 32)).toNat 0) (Int.tmod a1 32) 0 l0 (l0.length : Int) 0) else none) else none) else none)
def dyad_up.Q (l0 : List Int) (a1 : Int) (r : (List Int)) : S → Prop := fun s => ∃ τ r', fin E0 Tryd.f47 0 τ s = some (r', [.row (r.map (V.i .u32)) 2 1 true true none]) ∧ r'.ro = (.s (some (0, 0)) r.length)
mutual
def dyad_cmp.l0 : Nat → List Int → List Int → Int → Option (Int)
  | 0, _, _, _ => none
  | k + 1, a_0, b_1, i_5 => (if i_5 ≥ 0 then (if 0 ≤ i_5 then (if i_5 < (a_0.length : Int) then (if i_5 < (b_1.length : Int) then (if (rd a_0 i_5) = (rd b_1 i_5) then (dyad_cmp.l0 k a_0 b_1 (wrap64 (i_5 - 1))) else (if (rd a_0 i_5) < (rd b_1 i_5) then (some ((-1))) else (some (1)))) else none) else none) else none) else (some (0)))
end
def dyad_cmp.f (k : Nat) (l0 : List Int) (l1 : List Int) : Option (Int) := (if (l0.length : Int) = (l1.length : Int) then (dyad_cmp.l0 k l0 l1 (wrap64 ((l0.length : Int) - 1))) else (if (l0.length : Int) < (l1.length : Int) then (some ((-1))) else (some (1))))
def dyad_cmp.Q (l0 : List Int) (l1 : List Int) (r : Int) : S → Prop := fun s => ∃ τ r', fin E0 Tryd.f31 0 τ s = some (r', []) ∧ r'.ro = (.i .i64 r)
def dyad_line.f (k : Nat) (a0_0 : Bool) (l0_1 : List Int) (a0_2 : Int) (a1_0 : Bool) (l1_1 : List Int) (a1_2 : Int) : Option ((List Int) × (List Int) × Int) := ((dyad_up.f k l0_1 (wrap64 (a0_2 - (mn a0_2 a1_2)))).bind fun q1 => ((dyad_line_1.f k q1).bind fun q2 => ((dyad_up.f k l1_1 (wrap64 (a1_2 - (mn a0_2 a1_2)))).bind fun q3 => ((dyad_line_1.f k q3).bind fun q4 => (some (q2, q4, (mn a0_2 a1_2)))))))
def dyad_line.Q (a0_0 : Bool) (l0_1 : List Int) (a0_2 : Int) (a1_0 : Bool) (l1_1 : List Int) (a1_2 : Int) (r : (List Int) × (List Int) × Int) : S → Prop := fun s => ∃ τ r', fin E0 Tryd.f30 0 τ s = some (r', []) ∧ r'.ro = (.t [.r (r.1.map (V.i .u32)) r.1.length true, .r (r.2.1.map (V.i .u32)) r.2.1.length true, .i .i64 r.2.2])
mutual
def dyad_Num_Add.j0 : Nat → List Int → List Int → Int → Bool → List Int → Int → Option (Bool × (List Int) × Int)
  | 0, _, _, _, _, _, _ => none
  | k + 1, x_5, y_6, e_7, h0_0, h0_1, h0_2 => (if 0 ≤ (wrap64 ((x_5.length : Int) + 1)) then (if (wrap64 ((x_5.length : Int) + 1)) ≤ 70368744177664 then (dyad_Num_Add.l0 k x_5 y_6 e_7 (List.replicate 0 0) 0 (x_5.length : Int) 0 h0_0 h0_1 h0_2) else none) else none)
def dyad_Num_Add.l0 : Nat → List Int → List Int → Int → List Int → Int → Int → Int → Bool → List Int → Int → Option (Bool × (List Int) × Int)
  | 0, _, _, _, _, _, _, _, _, _, _ => none
  | k + 1, x_5, y_6, e_7, h2, c_9, t_49, t_50, h0_0, h0_1, h0_2 => (if t_50 < t_49 then (if 0 ≤ t_50 then (if t_50 < (x_5.length : Int) then (if t_50 < (y_6.length : Int) then (if h2.length < 35184372088832 then (dyad_Num_Add.l0 k x_5 y_6 e_7 (h2 ++ ([((IntKind.u64.wrap ((IntKind.u64.wrap (c_9 + (IntKind.u64.wrap ((rd x_5 t_50))))) + (IntKind.u64.wrap ((rd y_6 t_50))))) % 4294967296)] : List Int)) ((IntKind.u64.wrap ((IntKind.u64.wrap (c_9 + (IntKind.u64.wrap ((rd x_5 t_50))))) + (IntKind.u64.wrap ((rd y_6 t_50))))) / 4294967296) t_49 (wrap64 (t_50 + 1)) h0_0 h0_1 h0_2) else none) else (if h2.length < 35184372088832 then (dyad_Num_Add.l0 k x_5 y_6 e_7 (h2 ++ ([((IntKind.u64.wrap (c_9 + (IntKind.u64.wrap ((rd x_5 t_50))))) % 4294967296)] : List Int)) ((IntKind.u64.wrap (c_9 + (IntKind.u64.wrap ((rd x_5 t_50))))) / 4294967296) t_49 (wrap64 (t_50 + 1)) h0_0 h0_1 h0_2) else none)) else none) else none) else (if h2.length < 35184372088832 then ((dyad_trim.f k h0_0 (h2 ++ ([(c_9 % 4294967296)] : List Int)) e_7).bind fun q20 => (some (q20.1, q20.2.1, q20.2.2))) else none))
def dyad_Num_Add.j2 : Nat → List Int → List Int → Int → Bool → Option (Bool × (List Int) × Int)
  | 0, _, _, _, _ => none
  | k + 1, x_5, y_6, e_7, neg_11 => (if 0 ≤ (x_5.length : Int) then (if (x_5.length : Int) ≤ 70368744177664 then (dyad_Num_Add.l1 k x_5 y_6 e_7 neg_11 (List.replicate 0 0) 0 (x_5.length : Int) 0) else none) else none)
def dyad_Num_Add.l1 : Nat → List Int → List Int → Int → Bool → List Int → Int → Int → Int → Option (Bool × (List Int) × Int)
  | 0, _, _, _, _, _, _, _, _ => none
  | k + 1, x_5, y_6, e_7, neg_11, h1, c_13, t_106, t_107 => (if t_107 < t_106 then (if 0 ≤ t_107 then (if t_107 < (x_5.length : Int) then (if t_107 < (y_6.length : Int) then (if h1.length < 35184372088832 then (dyad_Num_Add.l1 k x_5 y_6 e_7 neg_11 (h1 ++ ([((wrap64 ((wrap64 (c_13 + (wrap64 ((rd x_5 t_107))))) - (wrap64 ((rd y_6 t_107))))) % 4294967296)] : List Int)) ((wrap64 ((wrap64 (c_13 + (wrap64 ((rd x_5 t_107))))) - (wrap64 ((rd y_6 t_107))))) / 4294967296) t_106 (wrap64 (t_107 + 1))) else none) else (if h1.length < 35184372088832 then (dyad_Num_Add.l1 k x_5 y_6 e_7 neg_11 (h1 ++ ([((wrap64 (c_13 + (wrap64 ((rd x_5 t_107))))) % 4294967296)] : List Int)) ((wrap64 (c_13 + (wrap64 ((rd x_5 t_107))))) / 4294967296) t_106 (wrap64 (t_107 + 1))) else none)) else none) else none) else ((dyad_trim.f k neg_11 h1 e_7).bind fun q27 => (some (q27.1, q27.2.1, q27.2.2))))
end
def dyad_Num_Add.f (k : Nat) (a0_0 : Bool) (l0_1 : List Int) (a0_2 : Int) (a1_0 : Bool) (l1_1 : List Int) (a1_2 : Int) : Option (Bool × (List Int) × Int) := (if (l0_1.length : Int) = 0 then (some (a1_0, l1_1, a1_2)) else (if (l1_1.length : Int) = 0 then (some (a0_0, l0_1, a0_2)) else ((dyad_line.f k a0_0 l0_1 a0_2 a1_0 l1_1 a1_2).bind fun q3 => (if (a0_0 == a1_0) = true then (if (q3.1.length : Int) < (q3.2.1.length : Int) then (dyad_Num_Add.j0 k q3.2.1 q3.1 q3.2.2 a0_0 l0_1 a0_2) else (dyad_Num_Add.j0 k q3.1 q3.2.1 q3.2.2 a0_0 l0_1 a0_2)) else ((dyad_cmp.f k q3.1 q3.2.1).bind fun q6 => (if q6 = 0 then (some (false, [], 0)) else (if q6 = (-1) then (dyad_Num_Add.j2 k q3.2.1 q3.1 q3.2.2 a1_0) else (dyad_Num_Add.j2 k q3.1 q3.2.1 q3.2.2 a0_0))))))))
def dyad_Num_Add.Q (a0_0 : Bool) (l0_1 : List Int) (a0_2 : Int) (a1_0 : Bool) (l1_1 : List Int) (a1_2 : Int) (r : Bool × (List Int) × Int) : S → Prop := fun s => ∃ τ r', fin E0 Tryd.f9 0 τ s = some (r', []) ∧ r'.ro = (.a [.b r.1, .r (r.2.1.map (V.i .u32)) r.2.1.length true, .i .i64 r.2.2])
def dyad_Int.f (k : Nat) (a0 : Int) : Option (Bool × (List Int) × Int) := (if a0 < 0 then ((dyad_trim.f k (decide (a0 < 0)) ([((IntKind.u64.wrap (-(IntKind.u64.wrap (a0)))) % 4294967296), (((IntKind.u64.wrap (-(IntKind.u64.wrap (a0)))) / 4294967296) % 4294967296)] : List Int) 0).bind fun q2 => (some (q2.1, q2.2.1, q2.2.2))) else ((dyad_trim.f k (decide (a0 < 0)) ([((IntKind.u64.wrap (a0)) % 4294967296), (((IntKind.u64.wrap (a0)) / 4294967296) % 4294967296)] : List Int) 0).bind fun q3 => (some (q3.1, q3.2.1, q3.2.2))))
def dyad_Int.Q (a0 : Int) (r : Bool × (List Int) × Int) : S → Prop := fun s => ∃ τ r', fin E0 Tryd.f11 0 τ s = some (r', []) ∧ r'.ro = (.a [.b r.1, .r (r.2.1.map (V.i .u32)) r.2.1.length true, .i .i64 r.2.2])
def dyad_Two.f (a0 : Int) : Option (Bool × (List Int) × Int) := (some (false, ([1] : List Int), (mx (-1048576) (mn a0 1048576))))
def dyad_Two.Q (a0 : Int) (r : Bool × (List Int) × Int) : S → Prop := fun s => ∃ τ r', fin E0 Tryd.f12 0 τ s = some (r', [.row (r.2.1.map (V.i .u32)) 2 1 true true none]) ∧ r'.ro = (.a [.b r.1, .s (some (0, 0)) r.2.1.length, .i .i64 r.2.2])
def dyad_Num_Neg.f (a0_0 : Bool) (l0_1 : List Int) (a0_2 : Int) : Option (Bool × (List Int) × Int) := (if (l0_1.length : Int) > 0 then (some ((!a0_0), l0_1, a0_2)) else (some (false, l0_1, a0_2)))
def dyad_Num_Neg.Q (a0_0 : Bool) (l0_1 : List Int) (a0_2 : Int) (r : Bool × (List Int) × Int) : S → Prop := fun s => ∃ τ r', fin E0 Tryd.f32 0 τ s = some (r', []) ∧ r'.ro = (.a [.b r.1, .r (r.2.1.map (V.i .u32)) r.2.1.length true, .i .i64 r.2.2])
def dyad_Num_Sub.f (k : Nat) (a0_0 : Bool) (l0_1 : List Int) (a0_2 : Int) (a1_0 : Bool) (l1_1 : List Int) (a1_2 : Int) : Option (Bool × (List Int) × Int) := ((dyad_Num_Neg.f a1_0 l1_1 a1_2).bind fun q1 => ((dyad_Num_Add.f k a0_0 l0_1 a0_2 q1.1 q1.2.1 q1.2.2).bind fun q2 => (some (q2.1, q2.2.1, q2.2.2))))
def dyad_Num_Sub.Q (a0_0 : Bool) (l0_1 : List Int) (a0_2 : Int) (a1_0 : Bool) (l1_1 : List Int) (a1_2 : Int) (r : Bool × (List Int) × Int) : S → Prop := fun s => ∃ τ r', fin E0 Tryd.f13 0 τ s = some (r', []) ∧ r'.ro = (.a [.b r.1, .r (r.2.1.map (V.i .u32)) r.2.1.length true, .i .i64 r.2.2])
def dyad_Num_Sign.f (a0_0 : Bool) (l0_1 : List Int) (a0_2 : Int) : Option (Int) := (if (l0_1.length : Int) = 0 then (some (0)) else (if a0_0 = true then (some ((-1))) else (some (1))))
def dyad_Num_Sign.Q (a0_0 : Bool) (l0_1 : List Int) (a0_2 : Int) (r : Int) : S → Prop := fun s => ∃ τ r', fin E0 Tryd.f33 0 τ s = some (r', []) ∧ r'.ro = (.i .i64 r)
def dyad_Num_Cmp.f (k : Nat) (a0_0 : Bool) (l0_1 : List Int) (a0_2 : Int) (a1_0 : Bool) (l1_1 : List Int) (a1_2 : Int) : Option (Int) := ((dyad_Num_Sub.f k a0_0 l0_1 a0_2 a1_0 l1_1 a1_2).bind fun q1 => ((dyad_Num_Sign.f q1.1 q1.2.1 q1.2.2).bind fun q2 => (some (q2))))
def dyad_Num_Cmp.Q (a0_0 : Bool) (l0_1 : List Int) (a0_2 : Int) (a1_0 : Bool) (l1_1 : List Int) (a1_2 : Int) (r : Int) : S → Prop := fun s => ∃ τ r', fin E0 Tryd.f14 0 τ s = some (r', []) ∧ r'.ro = (.i .i64 r)
mutual
def gimballaw10_VecNorms.l0 : Nat → List Int → Int → Int → Int → Int → Bool → List Int → Int → Option (Bool)
  | 0, _, _, _, _, _, _, _, _ => none
  | k + 1, x_0, r_4, t_30, t_31, h0, h1_0, h1_1, h1_2 => (if t_31 < t_30 then (if 0 ≤ t_31 then (if t_31 < (x_0.length : Int) then ((dyad_Of.f k (rd x_0 t_31)).bind fun q7 => (if q7.2.2.2 = true then ((dyad_Num_Mul.f k q7.1 q7.2.1 q7.2.2.1 q7.1 q7.2.1 q7.2.2.1).bind fun q9 => ((dyad_Num_Add.f k h1_0 h1_1 h1_2 q9.1 q9.2.1 q9.2.2).bind fun q10 => (gimballaw10_VecNorms.l0 k x_0 r_4 t_30 (wrap64 (t_31 + 1)) h0 q10.1 q10.2.1 q10.2.2))) else ((order_Greatest.f k x_0).bind fun q11 => (if r_4 = q11.1 then (some ((h0 == 0))) else (some (false)))))) else none) else none) else (if (Go.bits .and .u8 h0 6) = 0 then ((dyad_Of.f k r_4).bind fun q14 => (if q14.2.2.2 = true then ((dyad_Int.f k (wrap64 ((x_0.length : Int) + 4))).bind fun q16 => ((dyad_Two.f (-53)).bind fun q17 => ((dyad_Num_Mul.f k q16.1 q16.2.1 q16.2.2 q17.1 q17.2.1 q17.2.2).bind fun q18 => ((dyad_Int.f k 1).bind fun q19 => ((dyad_Num_Sub.f k q19.1 q19.2.1 q19.2.2 q18.1 q18.2.1 q18.2.2).bind fun q20 => ((dyad_Int.f k 1).bind fun q21 => ((dyad_Num_Add.f k q21.1 q21.2.1 q21.2.2 q18.1 q18.2.1 q18.2.2).bind fun q22 => ((dyad_Num_Mul.f k q14.1 q14.2.1 q14.2.2.1 q14.1 q14.2.1 q14.2.2.1).bind fun q23 => ((dyad_Num_Mul.f k h1_0 h1_1 h1_2 q20.1 q20.2.1 q20.2.2).bind fun q24 => ((dyad_Num_Mul.f k q24.1 q24.2.1 q24.2.2 q20.1 q20.2.1 q20.2.2).bind fun q25 => ((dyad_Num_Cmp.f k q23.1 q23.2.1 q23.2.2 q25.1 q25.2.1 q25.2.2).bind fun q26 => (if q26 ≥ 0 then ((dyad_Num_Mul.f k h1_0 h1_1 h1_2 q22.1 q22.2.1 q22.2.2).bind fun q28 => ((dyad_Num_Mul.f k q28.1 q28.2.1 q28.2.2 q22.1 q22.2.1 q22.2.2).bind fun q29 => ((dyad_Num_Cmp.f k q23.1 q23.2.1 q23.2.2 q29.1 q29.2.1 q29.2.2).bind fun q30 => (some ((decide (q30 ≤ 0))))))) else (some (false)))))))))))))) else (some (false)))) else (some (true))))
end
def gimballaw10_VecNorms.f (k : Nat) (l0 : List Int) : Option (Bool) := ((gimballaw10_head_ok.f).bind fun q1 => (if (l0.length : Int) > 40 then (some (true)) else ((vec_Nrm2.f k 0 l0).bind fun q3 => (gimballaw10_VecNorms.l0 k l0 q3.1 (l0.length : Int) 0 q3.2 false [] 0))))
def gimballaw10_VecNorms.Q (l0 : List Int) (r : Bool) : S → Prop := fun s => ∃ τ r', fin E0 Tryd.f3 0 τ s = some (r', []) ∧ r'.ro = (.b r)

theorem sz28 : szOf E0.P 28 = .ret 1 := by kernel_rfl
theorem zr28 : zeroOf E0.P 28 = .ret [.i .u64 0] := by kernel_rfl
theorem ag28 : aggOf E0.P 28 = .ret false := by kernel_rfl
theorem zr27 : zeroOf E0.P 27 = .ret [.i .u8 0] := by kernel_rfl
theorem zr68 : zeroOf E0.P 68 = .ret [.i .u64 0, .i .u64 0] := by kernel_rfl
theorem ag68 : aggOf E0.P 68 = .ret true := by kernel_rfl
theorem sz68 : szOf E0.P 68 = .ret 2 := by kernel_rfl
theorem fa68_0 : FA E0.P 68 0 0 := by exact ⟨_, _, _, rfl, rfl, rfl, rfl⟩
theorem fa68_1 : FA E0.P 68 1 1 := by exact ⟨_, _, _, rfl, rfl, rfl, rfl⟩
theorem eqs68 : ∀ (x0 y0 : Int) (x1 y1 : Int), sameV E0.P 68 (.a [.i .u64 x0, .i .u64 x1]) (.a [.i .u64 y0, .i .u64 y1]) = some (x0 == y0 && (x1 == y1 && true)) := by intros; kernel_rfl
theorem by28 : bytesOf E0.P 28 = .ret 8 := by kernel_rfl
theorem fa27_0 : FA E0.P 27 0 0 := by exact ⟨_, _, _, rfl, rfl, rfl, rfl⟩
theorem ag25 : aggOf E0.P 25 = .ret false := by kernel_rfl
theorem sz25 : szOf E0.P 25 = .ret 1 := by kernel_rfl
theorem zr32 : zeroOf E0.P 32 = .ret [.b false, .s none 0, .i .i64 0] := by kernel_rfl
theorem sz32 : szOf E0.P 32 = .ret 3 := by kernel_rfl
theorem sz57 : szOf E0.P 57 = .ret 1 := by kernel_rfl
theorem zr57 : zeroOf E0.P 57 = .ret [.i .u32 0] := by kernel_rfl
theorem ag57 : aggOf E0.P 57 = .ret false := by kernel_rfl
theorem ag32 : aggOf E0.P 32 = .ret true := by kernel_rfl
theorem sz5 : szOf E0.P 5 = .ret 1 := by kernel_rfl
theorem ag5 : aggOf E0.P 5 = .ret false := by kernel_rfl
theorem by57 : bytesOf E0.P 57 = .ret 4 := by kernel_rfl
theorem fa32_1 : FA E0.P 32 1 1 := by exact ⟨_, _, _, rfl, rfl, rfl, rfl⟩
theorem ag30 : aggOf E0.P 30 = .ret false := by kernel_rfl
theorem sz30 : szOf E0.P 30 = .ret 1 := by kernel_rfl
theorem fa32_0 : FA E0.P 32 0 0 := by exact ⟨_, _, _, rfl, rfl, rfl, rfl⟩
theorem ag4 : aggOf E0.P 4 = .ret false := by kernel_rfl
theorem sz4 : szOf E0.P 4 = .ret 1 := by kernel_rfl
theorem fa32_2 : FA E0.P 32 2 2 := by exact ⟨_, _, _, rfl, rfl, rfl, rfl⟩
theorem ag3 : aggOf E0.P 3 = .ret false := by kernel_rfl
theorem sz3 : szOf E0.P 3 = .ret 1 := by kernel_rfl

set_option maxHeartbeats 8000000 in
set_option maxRecDepth 100000 in
theorem word_Exp.does {a0 : Int} {r : Int} (H : word_Exp.f a0 = some r) : Do E0 (.fn 42 [.i .u64 a0] [] (.i .i64 r) []) := by
  refine fn_wpl Tryd.func42 rfl (Q := (word_Exp.Q a0 r)) (fun s h => h) ?_
  unfold word_Exp.f at H
  simp only [Tryd.ntmps42, List.length, List.replicate, Nat.reduceAdd, Nat.reduceSub, List.cons_append, List.nil_append]
  refine w_seq ?_
  refine wR fun K hK => ?_
  refine g_as rfl rfl (gT ?_)
  refine g_nil (hK _ _ _ ?_)
  refine k_seq ?_
  refine w_seq ?_
  refine wR fun K hK => ?_
  refine g_mv rfl rfl (gT ?_)
  refine g_shrc (p := 4503599627370496) rfl rfl rfl rfl (by decide) (by rfl) (gT ?_)
  refine g_bin rfl rfl rfl rfl rfl (gT ?_)
  refine g_conv rfl rfl Tryd.underlying28 Tryd.underlying3 rfl (gT ?_)
  refine g_as rfl rfl (gT ?_)
  refine g_nil (hK _ _ _ ?_)
  refine k_seq ?_
  refine w_ret ?_
  refine fin_wp (τ := []) rfl (by decide) ?_; rw [← Option.some.inj H]; simp only [Tryd.f42]; exact gF

set_option maxHeartbeats 8000000 in
set_option maxRecDepth 100000 in
theorem word_Frac.does {a0 : Int} {r : Int} (H : word_Frac.f a0 = some r) : Do E0 (.fn 43 [.i .u64 a0] [] (.i .u64 r) []) := by
  refine fn_wpl Tryd.func43 rfl (Q := (word_Frac.Q a0 r)) (fun s h => h) ?_
  unfold word_Frac.f at H
  simp only [Tryd.ntmps43, List.length, List.replicate, Nat.reduceAdd, Nat.reduceSub, List.cons_append, List.nil_append]
  refine w_seq ?_
  refine wR fun K hK => ?_
  refine g_as rfl rfl (gT ?_)
  refine g_nil (hK _ _ _ ?_)
  refine k_seq ?_
  refine w_seq ?_
  refine wR fun K hK => ?_
  refine g_mv rfl rfl (gT ?_)
  refine g_bin rfl rfl rfl rfl rfl (gT ?_)
  refine g_as rfl rfl (gT ?_)
  refine g_nil (hK _ _ _ ?_)
  refine k_seq ?_
  refine w_ret ?_
  refine fin_wp (τ := []) rfl (by decide) ?_; rw [← Option.some.inj H]; simp only [Tryd.f43]; exact gF

set_option maxHeartbeats 8000000 in
set_option maxRecDepth 100000 in
theorem word_Kind.does_l {a0 : Int} (k : Nat) : (∀ (e_3 : Int) (f_4 : Int) (t_9 : Bool) (r : Int), word_Kind.j0 k e_3 f_4 t_9 = some r → kont E0 (word_Kind.Q a0 r) (frs (bodyOf Tryd.f28) [1, 0, 1, 0, 0] []) .normal ⟨[.u, .u, .u, .i .i64 e_3, .i .u64 f_4, .u, .u, .u, .u, .b t_9, .u, .u, .u, .u, .u, .u, .u, .u, .u, .u, .u, .u, .u, .u, .u], ofL [], 0, 0⟩) := by
  induction k with
  | zero => exact fun _ _ _ r h => by simp [word_Kind.j0] at h
  | succ k ih =>
    have ih0 := ih
    refine ?_
    · intro e_3 f_4 t_9 r H
      unfold word_Kind.j0 at H
      simp only [bodyOf, Tryd.f28, frs, sub, if_true, if_false, Nat.one_ne_zero]
      refine k_seq ?_
      rcases its H with ⟨c4, H⟩ | ⟨c4, H⟩
      · have c4b : t_9 = true := c4; try simp only [c4b, nrm]
        refine w_cond rfl (fun _ => ?_) (fun h => Bool.noConfusion h)
        refine w_seq ?_
        refine wR fun K hK => ?_
        refine g_as rfl rfl (gT ?_)
        refine g_nil (hK _ _ _ ?_)
        refine k_seq ?_
        refine w_ret ?_
        refine fin_wp (τ := []) rfl (by decide) ?_; rw [← Option.some.inj H]; simp only [Tryd.f28]; exact gF
      · have c4b : t_9 = false := Bool.eq_false_iff.mpr c4; try simp only [c4b, nrm]
        refine w_cond rfl (fun h => Bool.noConfusion h) (fun _ => ?_)
        refine w_seq ?_
        refine wR fun K hK => ?_
        refine g_mv rfl rfl (gT ?_)
        refine g_bin rfl rfl rfl rfl rfl (gT ?_)
        refine g_as rfl rfl (gT ?_)
        refine g_nil (hK _ _ _ ?_)
        refine k_seq ?_
        rcases its H with ⟨c5, H⟩ | ⟨c5, H⟩
        · have c5b := beq_iff_eq.mpr c5; have c5n := bne_eq_false_iff_eq.mpr c5; try simp only [c5b, c5n, nrm]
          refine w_cond rfl (fun _ => ?_) (fun h => Bool.noConfusion h)
          refine w_seq ?_
          refine wR fun K hK => ?_
          refine g_as rfl rfl (gT ?_)
          refine g_nil (hK _ _ _ ?_)
          refine k_seq ?_
          refine w_ret ?_
          refine fin_wp (τ := []) rfl (by decide) ?_; rw [← Option.some.inj H]; simp only [Tryd.f28]; exact gF
        · have c5b := beq_eq_false_iff_ne.mpr c5; have c5n := bne_iff_ne.mpr c5; try simp only [c5b, c5n, nrm]
          refine w_cond rfl (fun h => Bool.noConfusion h) (fun _ => ?_)
          refine w_seq ?_
          refine wR fun K hK => ?_
          refine g_mv rfl rfl (gT ?_)
          refine g_bin rfl rfl rfl rfl rfl (gT ?_)
          refine g_as rfl rfl (gT ?_)
          refine g_nil (hK _ _ _ ?_)
          refine k_seq ?_
          rcases its H with ⟨c6, H⟩ | ⟨c6, H⟩
          · have c6b := decide_eq_true c6; try simp only [c6b, nrm]
            refine w_cond rfl (fun _ => ?_) (fun h => Bool.noConfusion h)
            refine w_seq ?_
            refine wR fun K hK => ?_
            refine g_as rfl rfl (gT ?_)
            refine g_nil (hK _ _ _ ?_)
            refine k_seq ?_
            refine w_ret ?_
            refine fin_wp (τ := []) rfl (by decide) ?_; rw [← Option.some.inj H]; simp only [Tryd.f28]; exact gF
          · have c6b := decide_eq_false c6; try simp only [c6b, nrm]
            refine w_cond rfl (fun h => Bool.noConfusion h) (fun _ => ?_)
            refine w_seq ?_
            refine wR fun K hK => ?_
            refine g_mv rfl rfl (gT ?_)
            refine g_bin rfl rfl rfl rfl rfl (gT ?_)
            refine g_as rfl rfl (gT ?_)
            refine g_nil (hK _ _ _ ?_)
            refine k_seq ?_
            rcases its H with ⟨c7, H⟩ | ⟨c7, H⟩
            · have c7b := beq_iff_eq.mpr c7; have c7n := bne_eq_false_iff_eq.mpr c7; try simp only [c7b, c7n, nrm]
              refine w_cond rfl (fun _ => ?_) (fun h => Bool.noConfusion h)
              refine w_seq ?_
              refine wR fun K hK => ?_
              refine g_as rfl rfl (gT ?_)
              refine g_nil (hK _ _ _ ?_)
              refine k_seq ?_
              refine w_ret ?_
              refine fin_wp (τ := []) rfl (by decide) ?_; rw [← Option.some.inj H]; simp only [Tryd.f28]; exact gF
            · have c7b := beq_eq_false_iff_ne.mpr c7; have c7n := bne_iff_ne.mpr c7; try simp only [c7b, c7n, nrm]
              refine w_cond rfl (fun h => Bool.noConfusion h) (fun _ => ?_)
              refine w_skip ?_
              refine k_block ?_
              refine k_seq ?_
              refine w_seq ?_
              refine wR fun K hK => ?_
              refine g_as rfl rfl (gT ?_)
              refine g_nil (hK _ _ _ ?_)
              refine k_seq ?_
              refine w_ret ?_
              refine fin_wp (τ := []) rfl (by decide) ?_; rw [← Option.some.inj H]; simp only [Tryd.f28]; exact gF
set_option maxHeartbeats 8000000 in
set_option maxRecDepth 100000 in
theorem word_Kind.does {k : Nat} {a0 : Int} {r : Int} (H : word_Kind.f k a0 = some r) : Do E0 (.fn 28 [.i .u64 a0] [] (.i .i64 r) []) := by
  obtain ih0 := word_Kind.does_l (a0 := a0) k
  refine fn_wpl Tryd.func28 rfl (Q := (word_Kind.Q a0 r)) (fun s h => h) ?_
  unfold word_Kind.f at H
  simp only [Tryd.ntmps28, List.length, List.replicate, Nat.reduceAdd, Nat.reduceSub, List.cons_append, List.nil_append]
  refine w_seq ?_
  refine wR fun K hK => ?_
  refine g_as rfl rfl (gT ?_)
  refine g_nil (hK _ _ _ ?_)
  refine k_seq ?_
  refine w_seq ?_
  refine w_seq ?_
  refine wR fun K hK => ?_
  refine g_mv rfl rfl (gT ?_)
  obtain ⟨q1, hq1, H⟩ := bnd H
  refine g_cs [] rfl rfl (by rfl) Tryd.func42 rfl (by decide) (word_Exp.does hq1) ⟨Nat.le_of_ble_eq_true rfl, Nat.le_of_ble_eq_true rfl⟩ ?_; refine gC ?_
  refine g_mv rfl rfl (gT ?_)
  obtain ⟨q2, hq2, H⟩ := bnd H
  refine g_cs [] rfl rfl (by rfl) Tryd.func43 rfl (by decide) (word_Frac.does hq2) ⟨Nat.le_of_ble_eq_true rfl, Nat.le_of_ble_eq_true rfl⟩ ?_; refine gC ?_
  refine g_as rfl rfl (gT ?_)
  refine g_as rfl rfl (gT ?_)
  refine g_nil (hK _ _ _ ?_)
  refine k_seq ?_
  refine w_block ?_
  refine w_seq ?_
  refine wR fun K hK => ?_
  refine g_mv rfl rfl (gT ?_)
  refine g_bin rfl rfl rfl rfl rfl (gT ?_)
  refine g_mv rfl rfl (gT ?_)
  rcases its H with ⟨c3, H⟩ | ⟨c3, H⟩
  · have c3b := beq_iff_eq.mpr c3; have c3n := bne_eq_false_iff_eq.mpr c3; try simp only [c3b, c3n, nrm]
    refine g_mv rfl rfl (gT ?_)
    refine g_bin rfl rfl rfl rfl rfl (gT ?_)
    refine g_pick rfl rfl rfl (gT ?_)
    refine g_as rfl rfl (gT ?_)
    refine g_nil (hK _ _ _ ?_)
    refine k_wk (σ := []) [3, 0, 4] rfl (by decide) rfl ?_; refine gC ?_
    exact gI (ih0 q1 q2 (q2 == 0) r H)
  · have c3b := beq_eq_false_iff_ne.mpr c3; have c3n := bne_iff_ne.mpr c3; try simp only [c3b, c3n, nrm]
    refine g_sk rfl rfl (gT ?_)
    refine g_sk rfl rfl (gT ?_)
    refine g_pick rfl rfl rfl (gT ?_)
    refine g_as rfl rfl (gT ?_)
    refine g_nil (hK _ _ _ ?_)
    refine k_wk (σ := []) [3, 0, 4] rfl (by decide) rfl ?_; refine gC ?_
    exact gI (ih0 q1 q2 false r H)

set_option maxHeartbeats 8000000 in
set_option maxRecDepth 100000 in
theorem word_Abs.does {a0 : Int} {r : Int} (H : word_Abs.f a0 = some r) : Do E0 (.fn 29 [.i .u64 a0] [] (.i .u64 r) []) := by
  refine fn_wpl Tryd.func29 rfl (Q := (word_Abs.Q a0 r)) (fun s h => h) ?_
  unfold word_Abs.f at H
  simp only [Tryd.ntmps29, List.length, List.replicate, Nat.reduceAdd, Nat.reduceSub, List.cons_append, List.nil_append]
  refine w_seq ?_
  refine wR fun K hK => ?_
  refine g_as rfl rfl (gT ?_)
  refine g_nil (hK _ _ _ ?_)
  refine k_seq ?_
  refine w_seq ?_
  refine wR fun K hK => ?_
  refine g_mv rfl rfl (gT ?_)
  refine g_bin rfl rfl rfl rfl rfl (gT ?_)
  refine g_as rfl rfl (gT ?_)
  refine g_nil (hK _ _ _ ?_)
  refine k_seq ?_
  refine w_ret ?_
  refine fin_wp (τ := []) rfl (by decide) ?_; rw [← Option.some.inj H]; simp only [Tryd.f29]; exact gF

set_option maxHeartbeats 8000000 in
set_option maxRecDepth 100000 in
theorem order_Greatest.does_l {l0 : List Int} (k : Nat) : (∀ (best_4 : Int) (at_5 : Int) (t_8 : List Int) (t_9 : Int) (t_10 : Int) (r : Int × Int), order_Greatest.l0 k best_4 at_5 t_8 t_9 t_10 = some r → wk_ E0 (order_Greatest.Q l0 r) (frs (bodyOf Tryd.f8) [1, 1, 0, 1, 0] []) (sub (bodyOf Tryd.f8) [1, 1, 0, 1, 0]) ⟨[.u, .u, .u, .u, .i .u64 best_4, .i .i64 at_5, .u, .u, .r (t_8.map (V.i .u64)) t_8.length true, .i .i64 t_9, .i .i64 t_10, .u, .u, .u, .u, .u, .u, .u, .u, .u, .u, .u, .u, .u, .u, .u, .u, .u, .u, .u, .u, .u, .u], ofL [], 0, 0⟩) := by
  induction k with
  | zero => exact fun _ _ _ _ _ r h => by simp [order_Greatest.l0] at h
  | succ k ih =>
    have ih0 := ih
    refine ?_
    · intro best_4 at_5 t_8 t_9 t_10 r H
      unfold order_Greatest.l0 at H
      simp only [bodyOf, Tryd.f8, frs, sub, if_true, if_false, Nat.one_ne_zero]
      refine w_loop ?_
      refine w_seq ?_
      refine wR fun K hK => ?_
      refine g_bin rfl rfl rfl rfl rfl (gT ?_)
      refine g_nil (hK _ _ _ ?_)
      refine k_seq ?_
      refine w_seq ?_
      rcases its H with ⟨c1, H⟩ | ⟨c1, H⟩
      · have c1b := decide_eq_true c1; try simp only [c1b, nrm]
        refine w_cond rfl (fun _ => ?_) (fun h => Bool.noConfusion h)
        refine w_skip ?_
        refine k_seq ?_
        refine w_seq ?_
        refine w_block ?_
        refine w_seq ?_
        refine wR fun K hK => ?_
        refine g_mv rfl rfl (gT ?_)
        obtain ⟨c2, H⟩ := it1 H
        obtain ⟨c3, H⟩ := it1 H
        refine g_ixr rfl rfl Tryd.underlying22 sz28 rfl rfl (by first | assumption | omega) (by first | assumption | omega | (simp only [List.length_set, List.length_replicate] at *; omega)) (gT ?_)
        refine g_ldq rfl rfl ag28 sz28 rfl (by first | assumption | omega) (gT ?_)
        refine g_as rfl rfl (gT ?_)
        refine g_as rfl rfl (gT ?_)
        refine g_nil (hK _ _ _ ?_)
        refine k_seq ?_
        refine w_seq ?_
        refine w_seq ?_
        refine wR fun K hK => ?_
        refine g_mv rfl rfl (gT ?_)
        obtain ⟨q4, hq4, H⟩ := bnd H
        refine g_cs [] rfl rfl (by rfl) Tryd.func28 rfl (by decide) (word_Kind.does hq4) ⟨Nat.le_of_ble_eq_true rfl, Nat.le_of_ble_eq_true rfl⟩ ?_; refine gC ?_
        refine g_bin rfl rfl rfl rfl rfl (gT ?_)
        refine g_nil (hK _ _ _ ?_)
        refine k_seq ?_
        rcases its H with ⟨c5, H⟩ | ⟨c5, H⟩
        · have c5b := beq_iff_eq.mpr c5; have c5n := bne_eq_false_iff_eq.mpr c5; try simp only [c5b, c5n, nrm]
          refine w_cond rfl (fun _ => ?_) (fun h => Bool.noConfusion h)
          refine w_seq ?_
          refine wR fun K hK => ?_
          refine g_mv rfl rfl (gT ?_)
          refine g_as rfl rfl (gT ?_)
          refine g_as rfl rfl (gT ?_)
          refine g_nil (hK _ _ _ ?_)
          refine k_seq ?_
          refine w_ret ?_
          refine fin_wp (τ := []) rfl (by decide) ?_; rw [← Option.some.inj H]; simp only [Tryd.f8]; exact gF
        · have c5b := beq_eq_false_iff_ne.mpr c5; have c5n := bne_iff_ne.mpr c5; try simp only [c5b, c5n, nrm]
          refine w_cond rfl (fun h => Bool.noConfusion h) (fun _ => ?_)
          refine w_skip ?_
          refine k_seq ?_
          refine w_seq ?_
          refine wR fun K hK => ?_
          refine g_mv rfl rfl (gT ?_)
          refine g_bin rfl rfl rfl rfl rfl (gT ?_)
          refine g_mv rfl rfl (gT ?_)
          rcases its H with ⟨c6, H⟩ | ⟨c6, H⟩
          · have c6b := decide_eq_true c6; try simp only [c6b, nrm]
            refine g_sk rfl rfl (gT ?_)
            refine g_sk rfl rfl (gT ?_)
            refine g_sk rfl rfl (gT ?_)
            refine g_sk rfl rfl (gT ?_)
            refine g_pick rfl rfl rfl (gT ?_)
            refine g_nil (hK _ _ _ ?_)
            refine k_seq ?_
            refine w_cond rfl (fun _ => ?_) (fun h => Bool.noConfusion h)
            refine wR fun K hK => ?_
            refine g_mv rfl rfl (gT ?_)
            obtain ⟨q7, hq7, H⟩ := bnd H
            refine g_cs [] rfl rfl (by rfl) Tryd.func29 rfl (by decide) (word_Abs.does hq7) ⟨Nat.le_of_ble_eq_true rfl, Nat.le_of_ble_eq_true rfl⟩ ?_; refine gC ?_
            refine g_mv rfl rfl (gT ?_)
            refine g_as rfl rfl (gT ?_)
            refine g_as rfl rfl (gT ?_)
            refine g_nil (hK _ _ _ ?_)
            refine k_block ?_
            refine k_seq ?_
            refine wR fun K hK => ?_
            refine g_bin rfl rfl rfl rfl rfl (gT ?_)
            refine g_mv rfl rfl (gT ?_)
            refine g_nil (hK _ _ _ ?_)
            refine k_loop ?_
            refine w_wk (σ := []) [4, 0, 2, 0, 0] rfl (by decide) ?_; refine gC ?_
            exact gI (ih0 q7 t_10 t_8 t_9 (wrap64 (t_10 + 1)) r H)
          · have c6b := decide_eq_false c6; try simp only [c6b, nrm]
            refine g_mv rfl rfl (gT ?_)
            obtain ⟨q8, hq8, H⟩ := bnd H
            refine g_cs [] rfl rfl (by rfl) Tryd.func29 rfl (by decide) (word_Abs.does hq8) ⟨Nat.le_of_ble_eq_true rfl, Nat.le_of_ble_eq_true rfl⟩ ?_; refine gC ?_
            refine g_mv rfl rfl (gT ?_)
            refine g_bin rfl rfl rfl rfl rfl (gT ?_)
            refine g_pick rfl rfl rfl (gT ?_)
            refine g_nil (hK _ _ _ ?_)
            refine k_seq ?_
            rcases its H with ⟨c9, H⟩ | ⟨c9, H⟩
            · have c9b := decide_eq_true c9; try simp only [c9b, nrm]
              refine w_cond rfl (fun _ => ?_) (fun h => Bool.noConfusion h)
              refine wR fun K hK => ?_
              refine g_mv rfl rfl (gT ?_)
              obtain ⟨q10, hq10, H⟩ := bnd H
              refine g_cs [] rfl rfl (by rfl) Tryd.func29 rfl (by decide) (word_Abs.does hq10) ⟨Nat.le_of_ble_eq_true rfl, Nat.le_of_ble_eq_true rfl⟩ ?_; refine gC ?_
              refine g_mv rfl rfl (gT ?_)
              refine g_as rfl rfl (gT ?_)
              refine g_as rfl rfl (gT ?_)
              refine g_nil (hK _ _ _ ?_)
              refine k_block ?_
              refine k_seq ?_
              refine wR fun K hK => ?_
              refine g_bin rfl rfl rfl rfl rfl (gT ?_)
              refine g_mv rfl rfl (gT ?_)
              refine g_nil (hK _ _ _ ?_)
              refine k_loop ?_
              refine w_wk (σ := []) [4, 0, 2, 0, 0] rfl (by decide) ?_; refine gC ?_
              exact gI (ih0 q10 t_10 t_8 t_9 (wrap64 (t_10 + 1)) r H)
            · have c9b := decide_eq_false c9; try simp only [c9b, nrm]
              refine w_cond rfl (fun h => Bool.noConfusion h) (fun _ => ?_)
              refine w_skip ?_
              refine k_block ?_
              refine k_seq ?_
              refine wR fun K hK => ?_
              refine g_bin rfl rfl rfl rfl rfl (gT ?_)
              refine g_mv rfl rfl (gT ?_)
              refine g_nil (hK _ _ _ ?_)
              refine k_loop ?_
              refine w_wk (σ := []) [4, 0, 2, 0, 0] rfl (by decide) ?_; refine gC ?_
              exact gI (ih0 best_4 at_5 t_8 t_9 (wrap64 (t_10 + 1)) r H)
      · have c1b := decide_eq_false c1; try simp only [c1b, nrm]
        refine w_cond rfl (fun h => Bool.noConfusion h) (fun _ => ?_)
        refine w_exit rfl ?_
        refine k_seq ?_
        refine w_seq ?_
        refine wR fun K hK => ?_
        refine g_mv rfl rfl (gT ?_)
        refine g_mv rfl rfl (gT ?_)
        refine g_as rfl rfl (gT ?_)
        refine g_as rfl rfl (gT ?_)
        refine g_nil (hK _ _ _ ?_)
        refine k_seq ?_
        refine w_ret ?_
        refine fin_wp (τ := []) rfl (by decide) ?_; rw [← Option.some.inj H]; simp only [Tryd.f8]; exact gF
set_option maxHeartbeats 8000000 in
set_option maxRecDepth 100000 in
theorem order_Greatest.does {k : Nat} {l0 : List Int} {r : Int × Int} (H : order_Greatest.f k l0 = some r) : Do E0 (.fn 8 [.r (l0.map (V.i .u64)) l0.length true] [] (.t [.i .u64 r.1, .i .i64 r.2]) []) := by
  obtain ih0 := order_Greatest.does_l (l0 := l0) k
  refine fn_wpl Tryd.func8 rfl (Q := (order_Greatest.Q l0 r)) (fun s h => h) ?_
  unfold order_Greatest.f at H
  simp only [Tryd.ntmps8, List.length, List.replicate, Nat.reduceAdd, Nat.reduceSub, List.cons_append, List.nil_append]
  refine w_seq ?_
  refine wR fun K hK => ?_
  refine g_as rfl rfl (gT ?_)
  refine g_as rfl rfl (gT ?_)
  refine g_nil (hK _ _ _ ?_)
  refine k_seq ?_
  refine w_seq ?_
  refine wR fun K hK => ?_
  refine g_as rfl rfl (gT ?_)
  refine g_as rfl rfl (gT ?_)
  refine g_nil (hK _ _ _ ?_)
  refine k_seq ?_
  refine w_seq ?_
  refine w_seq ?_
  refine wR fun K hK => ?_
  refine g_mv rfl rfl (gT ?_)
  refine g_len_r rfl rfl Tryd.underlying22 rfl (gT ?_)
  refine g_mv rfl rfl (gT ?_)
  refine g_nil (hK _ _ _ ?_)
  refine k_seq ?_
  refine w_block ?_
  refine w_wk (σ := []) [4, 0, 2, 0, 0] rfl (by decide) ?_; refine gC ?_
  exact gI (ih0 0 (-1) l0 (l0.length : Int) 0 r H)

set_option maxHeartbeats 8000000 in
set_option maxRecDepth 100000 in
theorem word_Parts.does {k : Nat} {a0 : Int} {r : Int × Int} (H : word_Parts.f k a0 = some r) : Do E0 (.fn 25 [.i .u64 a0] [] (.t [.i .u64 r.1, .i .i64 r.2]) []) := by
  refine fn_wpl Tryd.func25 rfl (Q := (word_Parts.Q a0 r)) (fun s h => h) ?_
  unfold word_Parts.f at H
  simp only [Tryd.ntmps25, List.length, List.replicate, Nat.reduceAdd, Nat.reduceSub, List.cons_append, List.nil_append]
  refine w_seq ?_
  refine wR fun K hK => ?_
  refine g_as rfl rfl (gT ?_)
  refine g_as rfl rfl (gT ?_)
  refine g_nil (hK _ _ _ ?_)
  refine k_seq ?_
  refine w_seq ?_
  refine w_seq ?_
  refine wR fun K hK => ?_
  refine g_mv rfl rfl (gT ?_)
  obtain ⟨q1, hq1, H⟩ := bnd H
  refine g_cs [] rfl rfl (by rfl) Tryd.func28 rfl (by decide) (word_Kind.does hq1) ⟨Nat.le_of_ble_eq_true rfl, Nat.le_of_ble_eq_true rfl⟩ ?_; refine gC ?_
  refine g_nil (hK _ _ _ ?_)
  refine k_seq ?_
  refine w_block ?_
  refine w_seq ?_
  refine wR fun K hK => ?_
  refine g_bin rfl rfl rfl rfl rfl (gT ?_)
  refine g_as rfl rfl (gT ?_)
  refine g_nil (hK _ _ _ ?_)
  refine k_seq ?_
  rcases its H with ⟨c2, H⟩ | ⟨c2, H⟩
  · have c2b := beq_iff_eq.mpr c2; have c2n := bne_eq_false_iff_eq.mpr c2; try simp only [c2b, c2n, nrm]
    refine w_cond rfl (fun _ => ?_) (fun h => Bool.noConfusion h)
    refine w_seq ?_
    refine wR fun K hK => ?_
    refine g_mv rfl rfl (gT ?_)
    obtain ⟨q3, hq3, H⟩ := bnd H
    refine g_cs [] rfl rfl (by rfl) Tryd.func43 rfl (by decide) (word_Frac.does hq3) ⟨Nat.le_of_ble_eq_true rfl, Nat.le_of_ble_eq_true rfl⟩ ?_; refine gC ?_
    refine g_as rfl rfl (gT ?_)
    refine g_as rfl rfl (gT ?_)
    refine g_nil (hK _ _ _ ?_)
    refine k_seq ?_
    refine w_ret ?_
    refine fin_wp (τ := []) rfl (by decide) ?_; rw [← Option.some.inj H]; simp only [Tryd.f25]; exact gF
  · have c2b := beq_eq_false_iff_ne.mpr c2; have c2n := bne_iff_ne.mpr c2; try simp only [c2b, c2n, nrm]
    refine w_cond rfl (fun h => Bool.noConfusion h) (fun _ => ?_)
    refine w_seq ?_
    refine wR fun K hK => ?_
    refine g_bin rfl rfl rfl rfl rfl (gT ?_)
    refine g_as rfl rfl (gT ?_)
    refine g_nil (hK _ _ _ ?_)
    refine k_seq ?_
    rcases its H with ⟨c4, H⟩ | ⟨c4, H⟩
    · have c4b := beq_iff_eq.mpr c4; have c4n := bne_eq_false_iff_eq.mpr c4; try simp only [c4b, c4n, nrm]
      refine w_cond rfl (fun _ => ?_) (fun h => Bool.noConfusion h)
      refine w_seq ?_
      refine wR fun K hK => ?_
      refine g_mv rfl rfl (gT ?_)
      obtain ⟨q5, hq5, H⟩ := bnd H
      refine g_cs [] rfl rfl (by rfl) Tryd.func43 rfl (by decide) (word_Frac.does hq5) ⟨Nat.le_of_ble_eq_true rfl, Nat.le_of_ble_eq_true rfl⟩ ?_; refine gC ?_
      refine g_bin rfl rfl rfl rfl rfl (gT ?_)
      refine g_mv rfl rfl (gT ?_)
      obtain ⟨q6, hq6, H⟩ := bnd H
      refine g_cs [] rfl rfl (by rfl) Tryd.func42 rfl (by decide) (word_Exp.does hq6) ⟨Nat.le_of_ble_eq_true rfl, Nat.le_of_ble_eq_true rfl⟩ ?_; refine gC ?_
      refine g_bin rfl rfl rfl rfl rfl (gT ?_)
      refine g_as rfl rfl (gT ?_)
      refine g_as rfl rfl (gT ?_)
      refine g_nil (hK _ _ _ ?_)
      refine k_seq ?_
      refine w_ret ?_
      refine fin_wp (τ := []) rfl (by decide) ?_; rw [← Option.some.inj H]; simp only [Tryd.f25]; exact gF
    · have c4b := beq_eq_false_iff_ne.mpr c4; have c4n := bne_iff_ne.mpr c4; try simp only [c4b, c4n, nrm]
      refine w_cond rfl (fun h => Bool.noConfusion h) (fun _ => ?_)
      refine w_skip ?_
      refine k_block ?_
      refine k_seq ?_
      refine w_seq ?_
      refine wR fun K hK => ?_
      refine g_as rfl rfl (gT ?_)
      refine g_as rfl rfl (gT ?_)
      refine g_nil (hK _ _ _ ?_)
      refine k_seq ?_
      refine w_ret ?_
      refine fin_wp (τ := []) rfl (by decide) ?_; rw [← Option.some.inj H]; simp only [Tryd.f25]; exact gF

set_option maxHeartbeats 8000000 in
set_option maxRecDepth 100000 in
theorem vec_Power.does_l {l0 : List Int} (k : Nat) : (∀ (n_6 : Int) (e_7 : Int) (r : Int × Bool), vec_Power.l0 k n_6 e_7 = some r → wk_ E0 (vec_Power.Q l0 r) (frs (bodyOf Tryd.f17) [1, 1, 1, 1, 0, 0] []) (sub (bodyOf Tryd.f17) [1, 1, 1, 1, 0, 0]) ⟨[.u, .u, .u, .u, .u, .u, .i .u64 n_6, .i .i64 e_7, .u, .u, .u, .u, .u, .u, .u, .u, .u, .u, .u, .u, .u, .u, .u, .u, .u, .u, .u], ofL [], 0, 0⟩) := by
  induction k with
  | zero => exact fun _ _ r h => by simp [vec_Power.l0] at h
  | succ k ih =>
    have ih0 := ih
    refine ?_
    · intro n_6 e_7 r H
      unfold vec_Power.l0 at H
      simp only [bodyOf, Tryd.f17, frs, sub, if_true, if_false, Nat.one_ne_zero]
      refine w_loop ?_
      refine w_seq ?_
      refine w_seq ?_
      refine wR fun K hK => ?_
      refine g_mv rfl rfl (gT ?_)
      refine g_bin rfl rfl rfl rfl rfl (gT ?_)
      refine g_nil (hK _ _ _ ?_)
      refine k_seq ?_
      rcases its H with ⟨c4, H⟩ | ⟨c4, H⟩
      · have c4b := decide_eq_true c4; try simp only [c4b, nrm]
        refine w_cond rfl (fun _ => ?_) (fun h => Bool.noConfusion h)
        refine w_skip ?_
        refine k_seq ?_
        refine w_block ?_
        refine wR fun K hK => ?_
        refine g_mv rfl rfl (gT ?_)
        refine g_shrc (p := 2) rfl rfl rfl rfl (by decide) (by rfl) (gT ?_)
        refine g_mv rfl rfl (gT ?_)
        refine g_bin rfl rfl rfl rfl rfl (gT ?_)
        refine g_as rfl rfl (gT ?_)
        refine g_as rfl rfl (gT ?_)
        refine g_nil (hK _ _ _ ?_)
        refine k_block ?_
        refine k_loop ?_
        refine w_wk (σ := []) [6, 0] rfl (by decide) ?_; refine gC ?_
        exact gI (ih0 (n_6 / 2) (wrap64 (e_7 + 1)) r H)
      · have c4b := decide_eq_false c4; try simp only [c4b, nrm]
        refine w_cond rfl (fun h => Bool.noConfusion h) (fun _ => ?_)
        refine w_exit rfl ?_
        refine k_seq ?_
        refine w_seq ?_
        refine wR fun K hK => ?_
        refine g_mv rfl rfl (gT ?_)
        refine g_as rfl rfl (gT ?_)
        refine g_as rfl rfl (gT ?_)
        refine g_nil (hK _ _ _ ?_)
        refine k_seq ?_
        refine w_ret ?_
        refine fin_wp (τ := []) rfl (by decide) ?_; rw [← Option.some.inj H]; simp only [Tryd.f17]; exact gF
set_option maxHeartbeats 8000000 in
set_option maxRecDepth 100000 in
theorem vec_Power.does {k : Nat} {l0 : List Int} {r : Int × Bool} (H : vec_Power.f k l0 = some r) : Do E0 (.fn 17 [.r (l0.map (V.i .u64)) l0.length true] [] (.t [.i .i64 r.1, .b r.2]) []) := by
  obtain ih0 := vec_Power.does_l (l0 := l0) k
  refine fn_wpl Tryd.func17 rfl (Q := (vec_Power.Q l0 r)) (fun s h => h) ?_
  unfold vec_Power.f at H
  simp only [Tryd.ntmps17, List.length, List.replicate, Nat.reduceAdd, Nat.reduceSub, List.cons_append, List.nil_append]
  refine w_seq ?_
  refine wR fun K hK => ?_
  refine g_as rfl rfl (gT ?_)
  refine g_as rfl rfl (gT ?_)
  refine g_nil (hK _ _ _ ?_)
  refine k_seq ?_
  refine w_seq ?_
  refine wR fun K hK => ?_
  refine g_mv rfl rfl (gT ?_)
  obtain ⟨q1, hq1, H⟩ := bnd H
  refine g_cs [] rfl rfl (by rfl) Tryd.func8 rfl (by decide) (order_Greatest.does hq1) ⟨Nat.le_of_ble_eq_true rfl, Nat.le_of_ble_eq_true rfl⟩ ?_; refine gC ?_
  refine g_mv rfl rfl (gT ?_)
  refine g_ext rfl rfl rfl (Nat.le_of_ble_eq_true rfl) (gT ?_)
  refine g_ext rfl rfl rfl (Nat.le_of_ble_eq_true rfl) (gT ?_)
  refine g_as rfl rfl (gT ?_)
  refine g_as rfl rfl (gT ?_)
  refine g_nil (hK _ _ _ ?_)
  refine k_seq ?_
  refine w_seq ?_
  refine wR fun K hK => ?_
  refine g_mv rfl rfl (gT ?_)
  obtain ⟨q2, hq2, H⟩ := bnd H
  refine g_cs [] rfl rfl (by rfl) Tryd.func25 rfl (by decide) (word_Parts.does hq2) ⟨Nat.le_of_ble_eq_true rfl, Nat.le_of_ble_eq_true rfl⟩ ?_; refine gC ?_
  refine g_mv rfl rfl (gT ?_)
  refine g_ext rfl rfl rfl (Nat.le_of_ble_eq_true rfl) (gT ?_)
  refine g_ext rfl rfl rfl (Nat.le_of_ble_eq_true rfl) (gT ?_)
  refine g_as rfl rfl (gT ?_)
  refine g_as rfl rfl (gT ?_)
  refine g_nil (hK _ _ _ ?_)
  refine k_seq ?_
  refine w_seq ?_
  refine w_seq ?_
  refine wR fun K hK => ?_
  refine g_mv rfl rfl (gT ?_)
  refine g_bin rfl rfl rfl rfl rfl (gT ?_)
  refine g_nil (hK _ _ _ ?_)
  refine k_seq ?_
  rcases its H with ⟨c3, H⟩ | ⟨c3, H⟩
  · have c3b := beq_iff_eq.mpr c3; have c3n := bne_eq_false_iff_eq.mpr c3; try simp only [c3b, c3n, nrm]
    refine w_cond rfl (fun _ => ?_) (fun h => Bool.noConfusion h)
    refine w_seq ?_
    refine wR fun K hK => ?_
    refine g_as rfl rfl (gT ?_)
    refine g_as rfl rfl (gT ?_)
    refine g_nil (hK _ _ _ ?_)
    refine k_seq ?_
    refine w_ret ?_
    refine fin_wp (τ := []) rfl (by decide) ?_; rw [← Option.some.inj H]; simp only [Tryd.f17]; exact gF
  · have c3b := beq_eq_false_iff_ne.mpr c3; have c3n := bne_iff_ne.mpr c3; try simp only [c3b, c3n, nrm]
    refine w_cond rfl (fun h => Bool.noConfusion h) (fun _ => ?_)
    refine w_skip ?_
    refine k_seq ?_
    refine w_seq ?_
    refine w_block ?_
    refine w_wk (σ := []) [6, 0] rfl (by decide) ?_; refine gC ?_
    exact gI (ih0 q2.1 q2.2 r H)

set_option maxHeartbeats 8000000 in
set_option maxRecDepth 100000 in
theorem word_Signals.does {k : Nat} {a0 : Int} {r : Bool} (H : word_Signals.f k a0 = some r) : Do E0 (.fn 37 [.i .u64 a0] [] (.b r) []) := by
  refine fn_wpl Tryd.func37 rfl (Q := (word_Signals.Q a0 r)) (fun s h => h) ?_
  unfold word_Signals.f at H
  simp only [Tryd.ntmps37, List.length, List.replicate, Nat.reduceAdd, Nat.reduceSub, List.cons_append, List.nil_append]
  refine w_seq ?_
  refine wR fun K hK => ?_
  refine g_as rfl rfl (gT ?_)
  refine g_nil (hK _ _ _ ?_)
  refine k_seq ?_
  refine w_seq ?_
  refine wR fun K hK => ?_
  refine g_mv rfl rfl (gT ?_)
  obtain ⟨q1, hq1, H⟩ := bnd H
  refine g_cs [] rfl rfl (by rfl) Tryd.func28 rfl (by decide) (word_Kind.does hq1) ⟨Nat.le_of_ble_eq_true rfl, Nat.le_of_ble_eq_true rfl⟩ ?_; refine gC ?_
  refine g_bin rfl rfl rfl rfl rfl (gT ?_)
  refine g_mv rfl rfl (gT ?_)
  rcases its H with ⟨c2, H⟩ | ⟨c2, H⟩
  · have c2b := beq_iff_eq.mpr c2; have c2n := bne_eq_false_iff_eq.mpr c2; try simp only [c2b, c2n, nrm]
    refine g_mv rfl rfl (gT ?_)
    refine g_shrc (p := 2251799813685248) rfl rfl rfl rfl (by decide) (by rfl) (gT ?_)
    refine g_bin rfl rfl rfl rfl rfl (gT ?_)
    refine g_bin rfl rfl rfl rfl rfl (gT ?_)
    refine g_pick rfl rfl rfl (gT ?_)
    refine g_as rfl rfl (gT ?_)
    refine g_nil (hK _ _ _ ?_)
    refine k_seq ?_
    refine w_ret ?_
    refine fin_wp (τ := []) rfl (by decide) ?_; rw [← Option.some.inj H]; simp only [Tryd.f37]; exact gF
  · have c2b := beq_eq_false_iff_ne.mpr c2; have c2n := bne_iff_ne.mpr c2; try simp only [c2b, c2n, nrm]
    refine g_sk rfl rfl (gT ?_)
    refine g_sk rfl rfl (gT ?_)
    refine g_sk rfl rfl (gT ?_)
    refine g_sk rfl rfl (gT ?_)
    refine g_pick rfl rfl rfl (gT ?_)
    refine g_as rfl rfl (gT ?_)
    refine g_nil (hK _ _ _ ?_)
    refine k_seq ?_
    refine w_ret ?_
    refine fin_wp (τ := []) rfl (by decide) ?_; rw [← Option.some.inj H]; simp only [Tryd.f37]; exact gF

set_option maxHeartbeats 8000000 in
set_option maxRecDepth 100000 in
theorem word_Neg.does {a0 : Int} {r : Bool} (H : word_Neg.f a0 = some r) : Do E0 (.fn 27 [.i .u64 a0] [] (.b r) []) := by
  refine fn_wpl Tryd.func27 rfl (Q := (word_Neg.Q a0 r)) (fun s h => h) ?_
  unfold word_Neg.f at H
  simp only [Tryd.ntmps27, List.length, List.replicate, Nat.reduceAdd, Nat.reduceSub, List.cons_append, List.nil_append]
  refine w_seq ?_
  refine wR fun K hK => ?_
  refine g_as rfl rfl (gT ?_)
  refine g_nil (hK _ _ _ ?_)
  refine k_seq ?_
  refine w_seq ?_
  refine wR fun K hK => ?_
  refine g_mv rfl rfl (gT ?_)
  refine g_shrc (p := 9223372036854775808) rfl rfl rfl rfl (by decide) (by rfl) (gT ?_)
  refine g_bin rfl rfl rfl rfl rfl (gT ?_)
  refine g_as rfl rfl (gT ?_)
  refine g_nil (hK _ _ _ ?_)
  refine k_seq ?_
  refine w_ret ?_
  refine fin_wp (τ := []) rfl (by decide) ?_; rw [← Option.some.inj H]; simp only [Tryd.f27]; exact gF

set_option maxHeartbeats 8000000 in
set_option maxRecDepth 100000 in
theorem wide_Wide_Zero.does {a0_0 : Int} {a0_1 : Int} {r : Bool} (H : wide_Wide_Zero.f a0_0 a0_1 = some r) : Do E0 (.fn 52 [.a [.i .u64 a0_0, .i .u64 a0_1]] [] (.b r) []) := by
  refine fn_wpl Tryd.func52 rfl (Q := (wide_Wide_Zero.Q a0_0 a0_1 r)) (fun s h => h) ?_
  unfold wide_Wide_Zero.f at H
  simp only [Tryd.ntmps52, List.length, List.replicate, Nat.reduceAdd, Nat.reduceSub, List.cons_append, List.nil_append]
  refine w_seq ?_
  refine wR fun K hK => ?_
  refine g_box rfl rfl rfl (by rfl) (gU ?_)
  refine g_as rfl rfl (gT ?_)
  refine g_nil (hK _ _ _ ?_)
  refine k_seq ?_
  refine w_seq ?_
  refine wR fun K hK => ?_
  refine g_fd rfl rfl fa68_0 rfl (gT ?_)
  refine g_ldc rfl rfl ag28 sz28 rfl rfl rfl (gT ?_)
  refine g_fd rfl rfl fa68_1 rfl (gT ?_)
  refine g_ldc rfl rfl ag28 sz28 rfl rfl rfl (gT ?_)
  refine g_bin rfl rfl rfl rfl rfl (gT ?_)
  refine g_bin rfl rfl rfl rfl rfl (gT ?_)
  refine g_as rfl rfl (gT ?_)
  refine g_nil (hK _ _ _ ?_)
  refine k_seq ?_
  refine w_ret ?_
  refine fin_wp (τ := []) rfl (by decide) ?_; rw [← Option.some.inj H]; simp only [Tryd.f52]; exact gF

set_option maxHeartbeats 8000000 in
set_option maxRecDepth 100000 in
theorem word_Make.does {a0 : Bool} {a1 : Int} {a2 : Int} {r : Int} (H : word_Make.f a0 a1 a2 = some r) : Do E0 (.fn 53 [.b a0, .i .i64 a1, .i .u64 a2] [] (.i .u64 r) []) := by
  refine fn_wpl Tryd.func53 rfl (Q := (word_Make.Q a0 a1 a2 r)) (fun s h => h) ?_
  unfold word_Make.f at H
  simp only [Tryd.ntmps53, List.length, List.replicate, Nat.reduceAdd, Nat.reduceSub, List.cons_append, List.nil_append]
  refine w_seq ?_
  refine wR fun K hK => ?_
  refine g_as rfl rfl (gT ?_)
  refine g_nil (hK _ _ _ ?_)
  refine k_seq ?_
  refine w_seq ?_
  refine wR fun K hK => ?_
  refine g_mv rfl rfl (gT ?_)
  refine g_conv rfl rfl Tryd.underlying3 Tryd.underlying28 rfl (gT ?_)
  refine g_bin rfl rfl rfl rfl rfl (gT ?_)
  refine g_shlc (p := 4503599627370496) rfl rfl rfl rfl (by decide) (by rfl) (gT ?_)
  refine g_mv rfl rfl (gT ?_)
  refine g_bin rfl rfl rfl rfl rfl (gT ?_)
  refine g_bin rfl rfl rfl rfl rfl (gT ?_)
  refine g_as rfl rfl (gT ?_)
  refine g_nil (hK _ _ _ ?_)
  refine k_seq ?_
  refine w_seq ?_
  refine w_seq ?_
  refine wR fun K hK => ?_
  refine g_mv rfl rfl (gT ?_)
  refine g_nil (hK _ _ _ ?_)
  refine k_seq ?_
  rcases its H with ⟨c1, H⟩ | ⟨c1, H⟩
  · have c1b : a0 = true := c1; try simp only [c1b, nrm]
    refine w_cond rfl (fun _ => ?_) (fun h => Bool.noConfusion h)
    refine wR fun K hK => ?_
    refine g_mv rfl rfl (gT ?_)
    refine g_bin rfl rfl rfl rfl rfl (gT ?_)
    refine g_as rfl rfl (gT ?_)
    refine g_nil (hK _ _ _ ?_)
    refine k_seq ?_
    refine w_seq ?_
    refine wR fun K hK => ?_
    refine g_mv rfl rfl (gT ?_)
    refine g_as rfl rfl (gT ?_)
    refine g_nil (hK _ _ _ ?_)
    refine k_seq ?_
    refine w_ret ?_
    refine fin_wp (τ := []) rfl (by decide) ?_; rw [← Option.some.inj H]; simp only [Tryd.f53]; exact gF
  · have c1b : a0 = false := Bool.eq_false_iff.mpr c1; try simp only [c1b, nrm]
    refine w_cond rfl (fun h => Bool.noConfusion h) (fun _ => ?_)
    refine w_skip ?_
    refine k_seq ?_
    refine w_seq ?_
    refine wR fun K hK => ?_
    refine g_mv rfl rfl (gT ?_)
    refine g_as rfl rfl (gT ?_)
    refine g_nil (hK _ _ _ ?_)
    refine k_seq ?_
    refine w_ret ?_
    refine fin_wp (τ := []) rfl (by decide) ?_; rw [← Option.some.inj H]; simp only [Tryd.f53]; exact gF

set_option maxHeartbeats 8000000 in
set_option maxRecDepth 100000 in
theorem bits_Len64.does_l {a0 : Int} (k : Nat) : (∀ (x_0 : Int) (n_2 : Int) (r : Int), bits_Len64.j0 k x_0 n_2 = some r → kont E0 (bits_Len64.Q a0 r) (frs (bodyOf Tryd.f38) [1, 0, 1] []) .normal ⟨[.i .u64 x_0, .u, .i .i64 n_2, .u, .u, .u, .u, .u, .u, .u, .u, .u, .u, .u, .u, .u, .u, .u, .u, .u, .u, .u, .u, .u, .u], ofL [], 0, 0⟩) := by
  induction k with
  | zero => exact fun _ _ r h => by simp [bits_Len64.j0] at h
  | succ k ih =>
    have ih0 := ih
    refine ?_
    · intro x_0 n_2 r H
      unfold bits_Len64.j0 at H
      simp only [bodyOf, Tryd.f38, frs, sub, if_true, if_false, Nat.one_ne_zero]
      refine k_seq ?_
      refine w_seq ?_
      refine w_seq ?_
      refine wR fun K hK => ?_
      refine g_mv rfl rfl (gT ?_)
      refine g_bin rfl rfl rfl rfl rfl (gT ?_)
      refine g_nil (hK _ _ _ ?_)
      refine k_seq ?_
      rcases its H with ⟨c2, H⟩ | ⟨c2, H⟩
      · have c2b := decide_eq_true c2; try simp only [c2b, nrm]
        refine w_cond rfl (fun _ => ?_) (fun h => Bool.noConfusion h)
        refine w_seq ?_
        refine wR fun K hK => ?_
        refine g_mv rfl rfl (gT ?_)
        refine g_shrc (p := 65536) rfl rfl rfl rfl (by decide) (by rfl) (gT ?_)
        refine g_as rfl rfl (gT ?_)
        refine g_nil (hK _ _ _ ?_)
        refine k_seq ?_
        refine wR fun K hK => ?_
        refine g_mv rfl rfl (gT ?_)
        refine g_bin rfl rfl rfl rfl rfl (gT ?_)
        refine g_as rfl rfl (gT ?_)
        refine g_nil (hK _ _ _ ?_)
        refine k_seq ?_
        refine w_seq ?_
        refine w_seq ?_
        refine wR fun K hK => ?_
        refine g_mv rfl rfl (gT ?_)
        refine g_bin rfl rfl rfl rfl rfl (gT ?_)
        refine g_nil (hK _ _ _ ?_)
        refine k_seq ?_
        rcases its H with ⟨c3, H⟩ | ⟨c3, H⟩
        · have c3b := decide_eq_true c3; try simp only [c3b, nrm]
          refine w_cond rfl (fun _ => ?_) (fun h => Bool.noConfusion h)
          refine w_seq ?_
          refine wR fun K hK => ?_
          refine g_mv rfl rfl (gT ?_)
          refine g_shrc (p := 256) rfl rfl rfl rfl (by decide) (by rfl) (gT ?_)
          refine g_as rfl rfl (gT ?_)
          refine g_nil (hK _ _ _ ?_)
          refine k_seq ?_
          refine wR fun K hK => ?_
          refine g_mv rfl rfl (gT ?_)
          refine g_bin rfl rfl rfl rfl rfl (gT ?_)
          refine g_as rfl rfl (gT ?_)
          refine g_nil (hK _ _ _ ?_)
          refine k_seq ?_
          refine w_seq ?_
          refine wR fun K hK => ?_
          refine g_mv rfl rfl (gT ?_)
          refine g_mv rfl rfl (gT ?_)
          refine g_conv rfl rfl Tryd.underlying28 Tryd.underlying5 rfl (gT ?_)
          obtain ⟨c4, H⟩ := it1 H
          obtain ⟨c5, H⟩ := it1 H
          refine g_ixt rfl rfl Tryd.underlying9 rfl rfl (by first | assumption | omega) (by show _ < 256; omega) (v := bt _ _) (bt_at _ _ _) (gT ?_)
          refine g_conv rfl rfl Tryd.underlying5 Tryd.underlying3 rfl (gT ?_)
          refine g_bin rfl rfl rfl rfl rfl (gT ?_)
          refine g_as rfl rfl (gT ?_)
          refine g_nil (hK _ _ _ ?_)
          refine k_seq ?_
          refine w_ret ?_
          refine fin_wp (τ := []) rfl (by decide) ?_; rw [← Option.some.inj H]; simp only [Tryd.f38]; exact gF
        · have c3b := decide_eq_false c3; try simp only [c3b, nrm]
          refine w_cond rfl (fun h => Bool.noConfusion h) (fun _ => ?_)
          refine w_skip ?_
          refine k_seq ?_
          refine w_seq ?_
          refine wR fun K hK => ?_
          refine g_mv rfl rfl (gT ?_)
          refine g_mv rfl rfl (gT ?_)
          refine g_conv rfl rfl Tryd.underlying28 Tryd.underlying5 rfl (gT ?_)
          obtain ⟨c6, H⟩ := it1 H
          obtain ⟨c7, H⟩ := it1 H
          refine g_ixt rfl rfl Tryd.underlying9 rfl rfl (by first | assumption | omega) (by show _ < 256; omega) (v := bt _ _) (bt_at _ _ _) (gT ?_)
          refine g_conv rfl rfl Tryd.underlying5 Tryd.underlying3 rfl (gT ?_)
          refine g_bin rfl rfl rfl rfl rfl (gT ?_)
          refine g_as rfl rfl (gT ?_)
          refine g_nil (hK _ _ _ ?_)
          refine k_seq ?_
          refine w_ret ?_
          refine fin_wp (τ := []) rfl (by decide) ?_; rw [← Option.some.inj H]; simp only [Tryd.f38]; exact gF
      · have c2b := decide_eq_false c2; try simp only [c2b, nrm]
        refine w_cond rfl (fun h => Bool.noConfusion h) (fun _ => ?_)
        refine w_skip ?_
        refine k_seq ?_
        refine w_seq ?_
        refine w_seq ?_
        refine wR fun K hK => ?_
        refine g_mv rfl rfl (gT ?_)
        refine g_bin rfl rfl rfl rfl rfl (gT ?_)
        refine g_nil (hK _ _ _ ?_)
        refine k_seq ?_
        rcases its H with ⟨c8, H⟩ | ⟨c8, H⟩
        · have c8b := decide_eq_true c8; try simp only [c8b, nrm]
          refine w_cond rfl (fun _ => ?_) (fun h => Bool.noConfusion h)
          refine w_seq ?_
          refine wR fun K hK => ?_
          refine g_mv rfl rfl (gT ?_)
          refine g_shrc (p := 256) rfl rfl rfl rfl (by decide) (by rfl) (gT ?_)
          refine g_as rfl rfl (gT ?_)
          refine g_nil (hK _ _ _ ?_)
          refine k_seq ?_
          refine wR fun K hK => ?_
          refine g_mv rfl rfl (gT ?_)
          refine g_bin rfl rfl rfl rfl rfl (gT ?_)
          refine g_as rfl rfl (gT ?_)
          refine g_nil (hK _ _ _ ?_)
          refine k_seq ?_
          refine w_seq ?_
          refine wR fun K hK => ?_
          refine g_mv rfl rfl (gT ?_)
          refine g_mv rfl rfl (gT ?_)
          refine g_conv rfl rfl Tryd.underlying28 Tryd.underlying5 rfl (gT ?_)
          obtain ⟨c9, H⟩ := it1 H
          obtain ⟨c10, H⟩ := it1 H
          refine g_ixt rfl rfl Tryd.underlying9 rfl rfl (by first | assumption | omega) (by show _ < 256; omega) (v := bt _ _) (bt_at _ _ _) (gT ?_)
          refine g_conv rfl rfl Tryd.underlying5 Tryd.underlying3 rfl (gT ?_)
          refine g_bin rfl rfl rfl rfl rfl (gT ?_)
          refine g_as rfl rfl (gT ?_)
          refine g_nil (hK _ _ _ ?_)
          refine k_seq ?_
          refine w_ret ?_
          refine fin_wp (τ := []) rfl (by decide) ?_; rw [← Option.some.inj H]; simp only [Tryd.f38]; exact gF
        · have c8b := decide_eq_false c8; try simp only [c8b, nrm]
          refine w_cond rfl (fun h => Bool.noConfusion h) (fun _ => ?_)
          refine w_skip ?_
          refine k_seq ?_
          refine w_seq ?_
          refine wR fun K hK => ?_
          refine g_mv rfl rfl (gT ?_)
          refine g_mv rfl rfl (gT ?_)
          refine g_conv rfl rfl Tryd.underlying28 Tryd.underlying5 rfl (gT ?_)
          obtain ⟨c11, H⟩ := it1 H
          obtain ⟨c12, H⟩ := it1 H
          refine g_ixt rfl rfl Tryd.underlying9 rfl rfl (by first | assumption | omega) (by show _ < 256; omega) (v := bt _ _) (bt_at _ _ _) (gT ?_)
          refine g_conv rfl rfl Tryd.underlying5 Tryd.underlying3 rfl (gT ?_)
          refine g_bin rfl rfl rfl rfl rfl (gT ?_)
          refine g_as rfl rfl (gT ?_)
          refine g_nil (hK _ _ _ ?_)
          refine k_seq ?_
          refine w_ret ?_
          refine fin_wp (τ := []) rfl (by decide) ?_; rw [← Option.some.inj H]; simp only [Tryd.f38]; exact gF
set_option maxHeartbeats 8000000 in
set_option maxRecDepth 100000 in
theorem bits_Len64.does {k : Nat} {a0 : Int} {r : Int} (H : bits_Len64.f k a0 = some r) : Do E0 (.fn 38 [.i .u64 a0] [] (.i .i64 r) []) := by
  obtain ih0 := bits_Len64.does_l (a0 := a0) k
  refine fn_wpl Tryd.func38 rfl (Q := (bits_Len64.Q a0 r)) (fun s h => h) ?_
  unfold bits_Len64.f at H
  simp only [Tryd.ntmps38, List.length, List.replicate, Nat.reduceAdd, Nat.reduceSub, List.cons_append, List.nil_append]
  refine w_seq ?_
  refine wR fun K hK => ?_
  refine g_as rfl rfl (gT ?_)
  refine g_nil (hK _ _ _ ?_)
  refine k_seq ?_
  refine w_seq ?_
  refine w_seq ?_
  refine wR fun K hK => ?_
  refine g_mv rfl rfl (gT ?_)
  refine g_bin rfl rfl rfl rfl rfl (gT ?_)
  refine g_nil (hK _ _ _ ?_)
  refine k_seq ?_
  rcases its H with ⟨c1, H⟩ | ⟨c1, H⟩
  · have c1b := decide_eq_true c1; try simp only [c1b, nrm]
    refine w_cond rfl (fun _ => ?_) (fun h => Bool.noConfusion h)
    refine w_seq ?_
    refine wR fun K hK => ?_
    refine g_mv rfl rfl (gT ?_)
    refine g_shrc (p := 4294967296) rfl rfl rfl rfl (by decide) (by rfl) (gT ?_)
    refine g_as rfl rfl (gT ?_)
    refine g_nil (hK _ _ _ ?_)
    refine k_seq ?_
    refine wR fun K hK => ?_
    refine g_as rfl rfl (gT ?_)
    refine g_nil (hK _ _ _ ?_)
    refine k_wk (σ := []) [0, 1] rfl (by decide) rfl ?_; refine gC ?_
    exact gI (ih0 (a0 / 4294967296) 32 r H)
  · have c1b := decide_eq_false c1; try simp only [c1b, nrm]
    refine w_cond rfl (fun h => Bool.noConfusion h) (fun _ => ?_)
    refine w_skip ?_
    refine k_wk (σ := []) [0, 1] rfl (by decide) rfl ?_; refine gC ?_
    exact gI (ih0 a0 0 r H)

set_option maxHeartbeats 8000000 in
set_option maxRecDepth 100000 in
theorem wide_Wide_Len.does {k : Nat} {a0_0 : Int} {a0_1 : Int} {r : Int} (H : wide_Wide_Len.f k a0_0 a0_1 = some r) : Do E0 (.fn 56 [.a [.i .u64 a0_0, .i .u64 a0_1]] [] (.i .i64 r) []) := by
  refine fn_wpl Tryd.func56 rfl (Q := (wide_Wide_Len.Q a0_0 a0_1 r)) (fun s h => h) ?_
  unfold wide_Wide_Len.f at H
  simp only [Tryd.ntmps56, List.length, List.replicate, Nat.reduceAdd, Nat.reduceSub, List.cons_append, List.nil_append]
  refine w_seq ?_
  refine wR fun K hK => ?_
  refine g_box rfl rfl rfl (by rfl) (gU ?_)
  refine g_as rfl rfl (gT ?_)
  refine g_nil (hK _ _ _ ?_)
  refine k_seq ?_
  refine w_seq ?_
  refine w_seq ?_
  refine wR fun K hK => ?_
  refine g_fd rfl rfl fa68_0 rfl (gT ?_)
  refine g_ldc rfl rfl ag28 sz28 rfl rfl rfl (gT ?_)
  refine g_bin rfl rfl rfl rfl rfl (gT ?_)
  refine g_nil (hK _ _ _ ?_)
  refine k_seq ?_
  rcases its H with ⟨c1, H⟩ | ⟨c1, H⟩
  · have c1b := beq_iff_eq.mpr c1; have c1n := bne_eq_false_iff_eq.mpr c1; try simp only [c1b, c1n, nrm]
    refine w_cond rfl (fun h => Bool.noConfusion h) (fun _ => ?_)
    refine w_skip ?_
    refine k_seq ?_
    refine w_seq ?_
    refine wR fun K hK => ?_
    refine g_fd rfl rfl fa68_1 rfl (gT ?_)
    refine g_ldc rfl rfl ag28 sz28 rfl rfl rfl (gT ?_)
    obtain ⟨q2, hq2, H⟩ := bnd H
    refine g_cs [] rfl rfl (by rfl) Tryd.func38 rfl (by decide) (bits_Len64.does hq2) ⟨Nat.le_of_ble_eq_true rfl, Nat.le_of_ble_eq_true rfl⟩ ?_; refine gC ?_
    refine g_as rfl rfl (gT ?_)
    refine g_nil (hK _ _ _ ?_)
    refine k_seq ?_
    refine w_ret ?_
    refine fin_wp (τ := []) rfl (by decide) ?_; rw [← Option.some.inj H]; simp only [Tryd.f56]; exact gF
  · have c1b := beq_eq_false_iff_ne.mpr c1; have c1n := bne_iff_ne.mpr c1; try simp only [c1b, c1n, nrm]
    refine w_cond rfl (fun _ => ?_) (fun h => Bool.noConfusion h)
    refine w_seq ?_
    refine wR fun K hK => ?_
    refine g_fd rfl rfl fa68_0 rfl (gT ?_)
    refine g_ldc rfl rfl ag28 sz28 rfl rfl rfl (gT ?_)
    obtain ⟨q3, hq3, H⟩ := bnd H
    refine g_cs [] rfl rfl (by rfl) Tryd.func38 rfl (by decide) (bits_Len64.does hq3) ⟨Nat.le_of_ble_eq_true rfl, Nat.le_of_ble_eq_true rfl⟩ ?_; refine gC ?_
    refine g_bin rfl rfl rfl rfl rfl (gT ?_)
    refine g_as rfl rfl (gT ?_)
    refine g_nil (hK _ _ _ ?_)
    refine k_seq ?_
    refine w_ret ?_
    refine fin_wp (τ := []) rfl (by decide) ?_; rw [← Option.some.inj H]; simp only [Tryd.f56]; exact gF

set_option maxHeartbeats 8000000 in
set_option maxRecDepth 100000 in
theorem wide_Wide_Left.does {a0_0 : Int} {a0_1 : Int} {a1 : Int} {r : Int × Int} (H : wide_Wide_Left.f a0_0 a0_1 a1 = some r) : Do E0 (.fn 39 [.a [.i .u64 a0_0, .i .u64 a0_1], .i .i64 a1] [] (.a [.i .u64 r.1, .i .u64 r.2]) []) := by
  refine fn_wpl Tryd.func39 rfl (Q := (wide_Wide_Left.Q a0_0 a0_1 a1 r)) (fun s h => h) ?_
  unfold wide_Wide_Left.f at H
  simp only [Tryd.ntmps39, List.length, List.replicate, Nat.reduceAdd, Nat.reduceSub, List.cons_append, List.nil_append]
  refine w_seq ?_
  refine wR fun K hK => ?_
  refine g_box rfl rfl rfl (by rfl) (gU ?_)
  refine g_alloc rfl rfl zr68 (gU ?_)
  refine g_nil (hK _ _ _ ?_)
  refine k_seq ?_
  refine w_seq ?_
  refine w_block ?_
  refine w_seq ?_
  refine wR fun K hK => ?_
  refine g_mv rfl rfl (gT ?_)
  refine g_bin rfl rfl rfl rfl rfl (gT ?_)
  refine g_as rfl rfl (gT ?_)
  refine g_nil (hK _ _ _ ?_)
  refine k_seq ?_
  rcases its H with ⟨c1, H⟩ | ⟨c1, H⟩
  · have c1b := decide_eq_true c1; try simp only [c1b, nrm]
    refine w_cond rfl (fun _ => ?_) (fun h => Bool.noConfusion h)
    refine w_seq ?_
    refine wR fun K hK => ?_
    refine g_lda rfl rfl ag68 sz68 rfl rfl (Nat.le_of_ble_eq_true rfl) (gT ?_)
    refine g_st rfl rfl sz68 rfl rfl rfl (by rfl) (Nat.le_of_ble_eq_true rfl) (gU ?_)
    refine g_nil (hK _ _ _ ?_)
    refine k_seq ?_
    refine w_ret ?_
    refine fin_wp (τ := []) rfl (by decide) ?_; rw [← Option.some.inj H]; simp only [Tryd.f39, ag68, sz68, nrm, nrmw, nrmc, nrme, nrmo, nrml, nrmb, nrmx, Nat.reduceEqDiff, Nat.reduceBEq, Nat.zero_add, Nat.add_zero, Nat.mul_one, List.length_cons, List.length_nil, List.length_map, List.length_set, List.length_replicate, List.drop_zero, List.drop_succ_cons, List.drop_nil, List.take_zero, List.take_succ_cons, List.take_nil, Nat.le_refl, if_true, if_false, Option.any_none, Option.any_some, List.contains_nil, Bool.not_false, Bool.or_true, Bool.true_or, Bool.or_false, Bool.false_or, Bool.and_true, Bool.true_and, Bool.and_self, reduceCtorEq, beq_self_eq_true, List.map_cons, List.map_nil, List.append_nil, List.nil_append, List.contains_cons, List.filter_cons, List.filter_nil, List.cons_append, Bool.false_eq_true, true_and, and_true, List.getElem_toArray, List.getElem_cons_zero, List.getElem_cons_succ, Nat.reduceAdd, Nat.reduceMul, Nat.reduceLT, Nat.reduceSub, Nat.reduceLeDiff]; try (first | rfl | exact ⟨rfl, trivial⟩ | exact ⟨rfl, rfl⟩)
  · have c1b := decide_eq_false c1; try simp only [c1b, nrm]
    refine w_cond rfl (fun h => Bool.noConfusion h) (fun _ => ?_)
    refine w_seq ?_
    refine wR fun K hK => ?_
    refine g_mv rfl rfl (gT ?_)
    refine g_bin rfl rfl rfl rfl rfl (gT ?_)
    refine g_as rfl rfl (gT ?_)
    refine g_nil (hK _ _ _ ?_)
    refine k_seq ?_
    rcases its H with ⟨c2, H⟩ | ⟨c2, H⟩
    · have c2b := decide_eq_true c2; try simp only [c2b, nrm]
      refine w_cond rfl (fun _ => ?_) (fun h => Bool.noConfusion h)
      refine w_seq ?_
      refine wR fun K hK => ?_
      refine g_bd rfl rfl zr68 Tryd.underlying68 (pl := [(0, 1), (1, 1)]) (by kernel_rfl) ?_; refine gB ?_
      refine g_st rfl rfl sz68 rfl rfl rfl (by rfl) (Nat.le_of_ble_eq_true rfl) (gU ?_)
      refine g_nil (hK _ _ _ ?_)
      refine k_seq ?_
      refine w_ret ?_
      refine fin_wp (τ := []) rfl (by decide) ?_; rw [← Option.some.inj H]; simp only [Tryd.f39, ag68, sz68, nrm, nrmw, nrmc, nrme, nrmo, nrml, nrmb, nrmx, Nat.reduceEqDiff, Nat.reduceBEq, Nat.zero_add, Nat.add_zero, Nat.mul_one, List.length_cons, List.length_nil, List.length_map, List.length_set, List.length_replicate, List.drop_zero, List.drop_succ_cons, List.drop_nil, List.take_zero, List.take_succ_cons, List.take_nil, Nat.le_refl, if_true, if_false, Option.any_none, Option.any_some, List.contains_nil, Bool.not_false, Bool.or_true, Bool.true_or, Bool.or_false, Bool.false_or, Bool.and_true, Bool.true_and, Bool.and_self, reduceCtorEq, beq_self_eq_true, List.map_cons, List.map_nil, List.append_nil, List.nil_append, List.contains_cons, List.filter_cons, List.filter_nil, List.cons_append, Bool.false_eq_true, true_and, and_true, List.getElem_toArray, List.getElem_cons_zero, List.getElem_cons_succ, Nat.reduceAdd, Nat.reduceMul, Nat.reduceLT, Nat.reduceSub, Nat.reduceLeDiff]; try (first | rfl | exact ⟨rfl, trivial⟩ | exact ⟨rfl, rfl⟩)
    · have c2b := decide_eq_false c2; try simp only [c2b, nrm]
      refine w_cond rfl (fun h => Bool.noConfusion h) (fun _ => ?_)
      refine w_seq ?_
      refine wR fun K hK => ?_
      refine g_mv rfl rfl (gT ?_)
      refine g_bin rfl rfl rfl rfl rfl (gT ?_)
      refine g_as rfl rfl (gT ?_)
      refine g_nil (hK _ _ _ ?_)
      refine k_seq ?_
      rcases its H with ⟨c3, H⟩ | ⟨c3, H⟩
      · have c3b := decide_eq_true c3; try simp only [c3b, nrm]
        refine w_cond rfl (fun _ => ?_) (fun h => Bool.noConfusion h)
        refine w_seq ?_
        refine wR fun K hK => ?_
        refine g_fd rfl rfl fa68_1 rfl (gT ?_)
        refine g_ldc rfl rfl ag28 sz28 rfl rfl rfl (gT ?_)
        refine g_mv rfl rfl (gT ?_)
        refine g_bin rfl rfl rfl rfl rfl (gT ?_)
        obtain ⟨c4, H⟩ := it1 H
        refine g_shl rfl rfl rfl rfl (by omega) (gT ?_)
        refine g_bd rfl rfl zr68 Tryd.underlying68 (pl := [(0, 1), (1, 1)]) (by kernel_rfl) ?_; refine gB ?_
        refine g_st rfl rfl sz68 rfl rfl rfl (by rfl) (Nat.le_of_ble_eq_true rfl) (gU ?_)
        refine g_nil (hK _ _ _ ?_)
        refine k_seq ?_
        refine w_ret ?_
        refine fin_wp (τ := []) rfl (by decide) ?_; rw [← Option.some.inj H]; simp only [Tryd.f39, ag68, sz68, nrm, nrmw, nrmc, nrme, nrmo, nrml, nrmb, nrmx, Nat.reduceEqDiff, Nat.reduceBEq, Nat.zero_add, Nat.add_zero, Nat.mul_one, List.length_cons, List.length_nil, List.length_map, List.length_set, List.length_replicate, List.drop_zero, List.drop_succ_cons, List.drop_nil, List.take_zero, List.take_succ_cons, List.take_nil, Nat.le_refl, if_true, if_false, Option.any_none, Option.any_some, List.contains_nil, Bool.not_false, Bool.or_true, Bool.true_or, Bool.or_false, Bool.false_or, Bool.and_true, Bool.true_and, Bool.and_self, reduceCtorEq, beq_self_eq_true, List.map_cons, List.map_nil, List.append_nil, List.nil_append, List.contains_cons, List.filter_cons, List.filter_nil, List.cons_append, Bool.false_eq_true, true_and, and_true, List.getElem_toArray, List.getElem_cons_zero, List.getElem_cons_succ, Nat.reduceAdd, Nat.reduceMul, Nat.reduceLT, Nat.reduceSub, Nat.reduceLeDiff]; try (first | rfl | exact ⟨rfl, trivial⟩ | exact ⟨rfl, rfl⟩)
      · have c3b := decide_eq_false c3; try simp only [c3b, nrm]
        refine w_cond rfl (fun h => Bool.noConfusion h) (fun _ => ?_)
        refine w_skip ?_
        refine k_block ?_
        refine k_seq ?_
        refine w_seq ?_
        refine wD fun K hK => ?_
        refine g_fd rfl rfl fa68_0 rfl (gT ?_)
        refine g_ldc rfl rfl ag28 sz28 rfl rfl rfl (gT ?_)
        refine g_mv rfl rfl (gT ?_)
        obtain ⟨c5, H⟩ := it1 H
        refine g_shl rfl rfl rfl rfl (by omega) (gT ?_)
        refine g_fd rfl rfl fa68_1 rfl (gT ?_)
        refine g_ldc rfl rfl ag28 sz28 rfl rfl rfl (gT ?_)
        refine g_mv rfl rfl (gT ?_)
        refine g_bin rfl rfl rfl rfl rfl (gT ?_)
        obtain ⟨c6, H⟩ := it1 H
        refine g_shr rfl rfl rfl rfl (by omega) (gT ?_)
        refine g_bin rfl rfl rfl rfl rfl (gT ?_)
        refine g_fd rfl rfl fa68_1 rfl (gT ?_)
        refine g_ldc rfl rfl ag28 sz28 rfl rfl rfl (gT ?_)
        refine g_mv rfl rfl (gT ?_)
        refine g_shl rfl rfl rfl rfl (by omega) (gT ?_)
        refine g_bd rfl rfl zr68 Tryd.underlying68 (pl := [(0, 1), (1, 1)]) (by kernel_rfl) ?_; refine gB ?_
        refine g_st rfl rfl sz68 rfl rfl rfl (by rfl) (Nat.le_of_ble_eq_true rfl) (gU ?_)
        refine g_nil (hK _ _ _ (by kernel_rfl) ?_)
        refine k_seq ?_
        refine w_ret ?_
        refine fin_wp (τ := []) rfl (by decide) ?_; rw [← Option.some.inj H]; simp only [Tryd.f39, ag68, sz68, nrm, nrmw, nrmc, nrme, nrmo, nrml, nrmb, nrmx, Nat.reduceEqDiff, Nat.reduceBEq, Nat.zero_add, Nat.add_zero, Nat.mul_one, List.length_cons, List.length_nil, List.length_map, List.length_set, List.length_replicate, List.drop_zero, List.drop_succ_cons, List.drop_nil, List.take_zero, List.take_succ_cons, List.take_nil, Nat.le_refl, if_true, if_false, Option.any_none, Option.any_some, List.contains_nil, Bool.not_false, Bool.or_true, Bool.true_or, Bool.or_false, Bool.false_or, Bool.and_true, Bool.true_and, Bool.and_self, reduceCtorEq, beq_self_eq_true, List.map_cons, List.map_nil, List.append_nil, List.nil_append, List.contains_cons, List.filter_cons, List.filter_nil, List.cons_append, Bool.false_eq_true, true_and, and_true, List.getElem_toArray, List.getElem_cons_zero, List.getElem_cons_succ, Nat.reduceAdd, Nat.reduceMul, Nat.reduceLT, Nat.reduceSub, Nat.reduceLeDiff]; try (first | rfl | exact ⟨rfl, trivial⟩ | exact ⟨rfl, rfl⟩)

set_option maxHeartbeats 8000000 in
set_option maxRecDepth 100000 in
theorem wide_Wide_Right.does_l {a0_0 : Int} {a0_1 : Int} {a1 : Int} (k : Nat) : (∀ (n_1 : Int) (h0_0 : Int) (h0_1 : Int) (h1_0 : Int) (h1_1 : Int) (h2_0 : Int) (h2_1 : Int) (r : Int × Int × Bool), wide_Wide_Right.j0 k n_1 h0_0 h0_1 h2_0 h2_1 = some r → kont E0 (wide_Wide_Right.Q a0_0 a0_1 a1 r) (frs (bodyOf Tryd.f49) [1, 1, 0] []) .normal ⟨[.u, .i .i64 n_1, .p (some (0, 0)), .u, .p (some (1, 0)), .u, .p (some (2, 0)), .u, .u, .u, .u, .u, .u, .u, .u, .u, .u, .u, .u, .u, .u, .u, .u, .u, .u, .u, .u, .u, .u, .u, .u, .u, .u, .u, .u, .u, .u, .u, .u, .u, .u, .u, .u, .u, .u, .u, .u, .u, .u, .u, .u, .u, .u], ofL [.row [.i .u64 h0_0, .i .u64 h0_1] 0 0 true true none, .row [.i .u64 h1_0, .i .u64 h1_1] 0 0 true true none, .row [.i .u64 h2_0, .i .u64 h2_1] 0 0 true true none], 3, 0⟩) := by
  induction k with
  | zero => exact fun _ _ _ _ _ _ _ r h => by simp [wide_Wide_Right.j0] at h
  | succ k ih =>
    have ih0 := ih
    refine ?_
    · intro n_1 h0_0 h0_1 h1_0 h1_1 h2_0 h2_1 r H
      unfold wide_Wide_Right.j0 at H
      simp only [bodyOf, Tryd.f49, frs, sub, if_true, if_false, Nat.one_ne_zero]
      refine k_seq ?_
      refine w_seq ?_
      refine wD fun K hK => ?_
      refine g_lda rfl rfl ag68 sz68 rfl rfl (Nat.le_of_ble_eq_true rfl) (gT ?_)
      refine g_lda rfl rfl ag68 sz68 rfl rfl (Nat.le_of_ble_eq_true rfl) (gT ?_)
      refine g_mv rfl rfl (gT ?_)
      obtain ⟨q7, hq7, H⟩ := bnd H
      refine g_cs [] rfl rfl (by rfl) Tryd.func39 rfl (by decide) (wide_Wide_Left.does hq7) ⟨Nat.le_of_ble_eq_true rfl, Nat.le_of_ble_eq_true rfl⟩ ?_; refine gC ?_
      refine g_lda rfl rfl ag68 sz68 rfl rfl (Nat.le_of_ble_eq_true rfl) (gT ?_)
      refine g_same rfl rfl (c := .b (!(q7.1 == h0_0) || (!(q7.2 == h0_1)))) (by simp only [nrm]; simp only [binV, eqs68, Go.Rk.Rd.of, Go.Rk.Rd.bind, Bool.and_true, Bool.not_and]) (gT ?_)
      refine g_mv rfl rfl (gT ?_)
      rcases its H with ⟨c8, H⟩ | ⟨c8, H⟩
      · have c8b : (!(q7.1 == h0_0) || (!(q7.2 == h0_1))) = true := c8; try simp only [c8b, nrm]
        refine g_sk rfl rfl (gT ?_)
        refine g_sk rfl rfl (gT ?_)
        refine g_sk rfl rfl (gT ?_)
        refine g_sk rfl rfl (gT ?_)
        refine g_sk rfl rfl (gT ?_)
        refine g_sk rfl rfl (gT ?_)
        refine g_sk rfl rfl (gT ?_)
        refine g_pick rfl rfl rfl (gT ?_)
        refine g_st rfl rfl sz68 rfl rfl rfl (by rfl) (Nat.le_of_ble_eq_true rfl) (gU ?_)
        refine g_as rfl rfl (gT ?_)
        refine g_nil (hK _ _ _ (by kernel_rfl) ?_)
        refine k_seq ?_
        refine w_ret ?_
        refine fin_wp (τ := []) rfl (by decide) ?_; rw [← Option.some.inj H]; simp only [Tryd.f49, ag68, sz68, nrm, nrmw, nrmc, nrme, nrmo, nrml, nrmb, nrmx, Nat.reduceEqDiff, Nat.reduceBEq, Nat.zero_add, Nat.add_zero, Nat.mul_one, List.length_cons, List.length_nil, List.length_map, List.length_set, List.length_replicate, List.drop_zero, List.drop_succ_cons, List.drop_nil, List.take_zero, List.take_succ_cons, List.take_nil, Nat.le_refl, if_true, if_false, Option.any_none, Option.any_some, List.contains_nil, Bool.not_false, Bool.or_true, Bool.true_or, Bool.or_false, Bool.false_or, Bool.and_true, Bool.true_and, Bool.and_self, reduceCtorEq, beq_self_eq_true, List.map_cons, List.map_nil, List.append_nil, List.nil_append, List.contains_cons, List.filter_cons, List.filter_nil, List.cons_append, Bool.false_eq_true, true_and, and_true, List.getElem_toArray, List.getElem_cons_zero, List.getElem_cons_succ, Nat.reduceAdd, Nat.reduceMul, Nat.reduceLT, Nat.reduceSub, Nat.reduceLeDiff]; try (first | rfl | exact ⟨rfl, trivial⟩ | exact ⟨rfl, rfl⟩)
      · have c8b : (!(q7.1 == h0_0) || (!(q7.2 == h0_1))) = false := Bool.eq_false_iff.mpr c8; try simp only [c8b, nrm]
        refine g_mv rfl rfl (gT ?_)
        refine g_bin rfl rfl rfl rfl rfl (gT ?_)
        refine g_mv rfl rfl (gT ?_)
        rcases its H with ⟨c9, H⟩ | ⟨c9, H⟩
        · have c9b := decide_eq_true c9; try simp only [c9b, nrm]
          refine g_lda rfl rfl ag68 sz68 rfl rfl (Nat.le_of_ble_eq_true rfl) (gT ?_)
          obtain ⟨q10, hq10, H⟩ := bnd H
          refine g_cs [] rfl rfl (by rfl) Tryd.func52 rfl (by decide) (wide_Wide_Zero.does hq10) ⟨Nat.le_of_ble_eq_true rfl, Nat.le_of_ble_eq_true rfl⟩ ?_; refine gC ?_
          refine g_un rfl rfl rfl rfl (gT ?_)
          refine g_pick rfl rfl rfl (gT ?_)
          refine g_pick rfl rfl rfl (gT ?_)
          refine g_st rfl rfl sz68 rfl rfl rfl (by rfl) (Nat.le_of_ble_eq_true rfl) (gU ?_)
          refine g_as rfl rfl (gT ?_)
          refine g_nil (hK _ _ _ (by kernel_rfl) ?_)
          refine k_seq ?_
          refine w_ret ?_
          refine fin_wp (τ := []) rfl (by decide) ?_; rw [← Option.some.inj H]; simp only [Tryd.f49, ag68, sz68, nrm, nrmw, nrmc, nrme, nrmo, nrml, nrmb, nrmx, Nat.reduceEqDiff, Nat.reduceBEq, Nat.zero_add, Nat.add_zero, Nat.mul_one, List.length_cons, List.length_nil, List.length_map, List.length_set, List.length_replicate, List.drop_zero, List.drop_succ_cons, List.drop_nil, List.take_zero, List.take_succ_cons, List.take_nil, Nat.le_refl, if_true, if_false, Option.any_none, Option.any_some, List.contains_nil, Bool.not_false, Bool.or_true, Bool.true_or, Bool.or_false, Bool.false_or, Bool.and_true, Bool.true_and, Bool.and_self, reduceCtorEq, beq_self_eq_true, List.map_cons, List.map_nil, List.append_nil, List.nil_append, List.contains_cons, List.filter_cons, List.filter_nil, List.cons_append, Bool.false_eq_true, true_and, and_true, List.getElem_toArray, List.getElem_cons_zero, List.getElem_cons_succ, Nat.reduceAdd, Nat.reduceMul, Nat.reduceLT, Nat.reduceSub, Nat.reduceLeDiff]; try (first | rfl | exact ⟨rfl, trivial⟩ | exact ⟨rfl, rfl⟩)
        · have c9b := decide_eq_false c9; try simp only [c9b, nrm]
          refine g_sk rfl rfl (gT ?_)
          refine g_sk rfl rfl (gT ?_)
          refine g_sk rfl rfl (gT ?_)
          refine g_pick rfl rfl rfl (gT ?_)
          refine g_pick rfl rfl rfl (gT ?_)
          refine g_st rfl rfl sz68 rfl rfl rfl (by rfl) (Nat.le_of_ble_eq_true rfl) (gU ?_)
          refine g_as rfl rfl (gT ?_)
          refine g_nil (hK _ _ _ (by kernel_rfl) ?_)
          refine k_seq ?_
          refine w_ret ?_
          refine fin_wp (τ := []) rfl (by decide) ?_; rw [← Option.some.inj H]; simp only [Tryd.f49, ag68, sz68, nrm, nrmw, nrmc, nrme, nrmo, nrml, nrmb, nrmx, Nat.reduceEqDiff, Nat.reduceBEq, Nat.zero_add, Nat.add_zero, Nat.mul_one, List.length_cons, List.length_nil, List.length_map, List.length_set, List.length_replicate, List.drop_zero, List.drop_succ_cons, List.drop_nil, List.take_zero, List.take_succ_cons, List.take_nil, Nat.le_refl, if_true, if_false, Option.any_none, Option.any_some, List.contains_nil, Bool.not_false, Bool.or_true, Bool.true_or, Bool.or_false, Bool.false_or, Bool.and_true, Bool.true_and, Bool.and_self, reduceCtorEq, beq_self_eq_true, List.map_cons, List.map_nil, List.append_nil, List.nil_append, List.contains_cons, List.filter_cons, List.filter_nil, List.cons_append, Bool.false_eq_true, true_and, and_true, List.getElem_toArray, List.getElem_cons_zero, List.getElem_cons_succ, Nat.reduceAdd, Nat.reduceMul, Nat.reduceLT, Nat.reduceSub, Nat.reduceLeDiff]; try (first | rfl | exact ⟨rfl, trivial⟩ | exact ⟨rfl, rfl⟩)
set_option maxHeartbeats 8000000 in
set_option maxRecDepth 100000 in
theorem wide_Wide_Right.does {k : Nat} {a0_0 : Int} {a0_1 : Int} {a1 : Int} {r : Int × Int × Bool} (H : wide_Wide_Right.f k a0_0 a0_1 a1 = some r) : Do E0 (.fn 49 [.a [.i .u64 a0_0, .i .u64 a0_1], .i .i64 a1] [] (.t [.a [.i .u64 r.1, .i .u64 r.2.1], .b r.2.2]) []) := by
  obtain ih0 := wide_Wide_Right.does_l (a0_0 := a0_0) (a0_1 := a0_1) (a1 := a1) k
  refine fn_wpl Tryd.func49 rfl (Q := (wide_Wide_Right.Q a0_0 a0_1 a1 r)) (fun s h => h) ?_
  unfold wide_Wide_Right.f at H
  simp only [Tryd.ntmps49, List.length, List.replicate, Nat.reduceAdd, Nat.reduceSub, List.cons_append, List.nil_append]
  refine w_seq ?_
  refine wR fun K hK => ?_
  refine g_box rfl rfl rfl (by rfl) (gU ?_)
  refine g_alloc rfl rfl zr68 (gU ?_)
  refine g_as rfl rfl (gT ?_)
  refine g_nil (hK _ _ _ ?_)
  refine k_seq ?_
  refine w_seq ?_
  refine wR fun K hK => ?_
  refine g_alloc rfl rfl zr68 (gU ?_)
  refine g_nil (hK _ _ _ ?_)
  refine k_seq ?_
  refine w_seq ?_
  refine w_block ?_
  refine w_seq ?_
  refine wR fun K hK => ?_
  refine g_mv rfl rfl (gT ?_)
  refine g_bin rfl rfl rfl rfl rfl (gT ?_)
  refine g_as rfl rfl (gT ?_)
  refine g_nil (hK _ _ _ ?_)
  refine k_seq ?_
  rcases its H with ⟨c1, H⟩ | ⟨c1, H⟩
  · have c1b := decide_eq_true c1; try simp only [c1b, nrm]
    refine w_cond rfl (fun _ => ?_) (fun h => Bool.noConfusion h)
    refine w_seq ?_
    refine wR fun K hK => ?_
    refine g_lda rfl rfl ag68 sz68 rfl rfl (Nat.le_of_ble_eq_true rfl) (gT ?_)
    refine g_st rfl rfl sz68 rfl rfl rfl (by rfl) (Nat.le_of_ble_eq_true rfl) (gU ?_)
    refine g_as rfl rfl (gT ?_)
    refine g_nil (hK _ _ _ ?_)
    refine k_seq ?_
    refine w_ret ?_
    refine fin_wp (τ := []) rfl (by decide) ?_; rw [← Option.some.inj H]; simp only [Tryd.f49, ag68, sz68, nrm, nrmw, nrmc, nrme, nrmo, nrml, nrmb, nrmx, Nat.reduceEqDiff, Nat.reduceBEq, Nat.zero_add, Nat.add_zero, Nat.mul_one, List.length_cons, List.length_nil, List.length_map, List.length_set, List.length_replicate, List.drop_zero, List.drop_succ_cons, List.drop_nil, List.take_zero, List.take_succ_cons, List.take_nil, Nat.le_refl, if_true, if_false, Option.any_none, Option.any_some, List.contains_nil, Bool.not_false, Bool.or_true, Bool.true_or, Bool.or_false, Bool.false_or, Bool.and_true, Bool.true_and, Bool.and_self, reduceCtorEq, beq_self_eq_true, List.map_cons, List.map_nil, List.append_nil, List.nil_append, List.contains_cons, List.filter_cons, List.filter_nil, List.cons_append, Bool.false_eq_true, true_and, and_true, List.getElem_toArray, List.getElem_cons_zero, List.getElem_cons_succ, Nat.reduceAdd, Nat.reduceMul, Nat.reduceLT, Nat.reduceSub, Nat.reduceLeDiff]; try (first | rfl | exact ⟨rfl, trivial⟩ | exact ⟨rfl, rfl⟩)
  · have c1b := decide_eq_false c1; try simp only [c1b, nrm]
    refine w_cond rfl (fun h => Bool.noConfusion h) (fun _ => ?_)
    refine w_seq ?_
    refine wR fun K hK => ?_
    refine g_mv rfl rfl (gT ?_)
    refine g_bin rfl rfl rfl rfl rfl (gT ?_)
    refine g_as rfl rfl (gT ?_)
    refine g_nil (hK _ _ _ ?_)
    refine k_seq ?_
    rcases its H with ⟨c2, H⟩ | ⟨c2, H⟩
    · have c2b := decide_eq_true c2; try simp only [c2b, nrm]
      refine w_cond rfl (fun _ => ?_) (fun h => Bool.noConfusion h)
      refine w_skip ?_
      refine k_block ?_
      refine k_wk (σ := [0, 4, 12]) [1, 0, 1, 1] rfl (by decide) rfl ?_; refine gC ?_
      exact gI (ih0 a1 a0_0 a0_1 0 0 0 0 r H)
    · have c2b := decide_eq_false c2; try simp only [c2b, nrm]
      refine w_cond rfl (fun h => Bool.noConfusion h) (fun _ => ?_)
      refine w_seq ?_
      refine wR fun K hK => ?_
      refine g_mv rfl rfl (gT ?_)
      refine g_bin rfl rfl rfl rfl rfl (gT ?_)
      refine g_as rfl rfl (gT ?_)
      refine g_nil (hK _ _ _ ?_)
      refine k_seq ?_
      rcases its H with ⟨c3, H⟩ | ⟨c3, H⟩
      · have c3b := decide_eq_true c3; try simp only [c3b, nrm]
        refine w_cond rfl (fun _ => ?_) (fun h => Bool.noConfusion h)
        refine wR fun K hK => ?_
        refine g_fd rfl rfl fa68_0 rfl (gT ?_)
        refine g_ldc rfl rfl ag28 sz28 rfl rfl rfl (gT ?_)
        refine g_mv rfl rfl (gT ?_)
        refine g_bin rfl rfl rfl rfl rfl (gT ?_)
        obtain ⟨c4, H⟩ := it1 H
        refine g_shr rfl rfl rfl rfl (by omega) (gT ?_)
        refine g_bd rfl rfl zr68 Tryd.underlying68 (pl := [(0, 1), (1, 1)]) (by kernel_rfl) ?_; refine gB ?_
        refine g_st rfl rfl sz68 rfl rfl rfl (by rfl) (Nat.le_of_ble_eq_true rfl) (gU ?_)
        refine g_nil (hK _ _ _ ?_)
        refine k_block ?_
        refine k_wk (σ := [0, 4, 12]) [1, 0, 1, 1] rfl (by decide) rfl ?_; refine gC ?_
        exact gI (ih0 a1 a0_0 a0_1 0 0 0 (shr .u64 a0_0 (wrap64 (a1 - 64))) r H)
      · have c3b := decide_eq_false c3; try simp only [c3b, nrm]
        refine w_cond rfl (fun h => Bool.noConfusion h) (fun _ => ?_)
        refine wD fun K hK => ?_
        refine g_fd rfl rfl fa68_0 rfl (gT ?_)
        refine g_ldc rfl rfl ag28 sz28 rfl rfl rfl (gT ?_)
        refine g_mv rfl rfl (gT ?_)
        obtain ⟨c5, H⟩ := it1 H
        refine g_shr rfl rfl rfl rfl (by omega) (gT ?_)
        refine g_fd rfl rfl fa68_0 rfl (gT ?_)
        refine g_ldc rfl rfl ag28 sz28 rfl rfl rfl (gT ?_)
        refine g_mv rfl rfl (gT ?_)
        refine g_bin rfl rfl rfl rfl rfl (gT ?_)
        obtain ⟨c6, H⟩ := it1 H
        refine g_shl rfl rfl rfl rfl (by omega) (gT ?_)
        refine g_fd rfl rfl fa68_1 rfl (gT ?_)
        refine g_ldc rfl rfl ag28 sz28 rfl rfl rfl (gT ?_)
        refine g_mv rfl rfl (gT ?_)
        refine g_shr rfl rfl rfl rfl (by omega) (gT ?_)
        refine g_bin rfl rfl rfl rfl rfl (gT ?_)
        refine g_bd rfl rfl zr68 Tryd.underlying68 (pl := [(0, 1), (1, 1)]) (by kernel_rfl) ?_; refine gB ?_
        refine g_st rfl rfl sz68 rfl rfl rfl (by rfl) (Nat.le_of_ble_eq_true rfl) (gU ?_)
        refine g_nil (hK _ _ _ (by kernel_rfl) ?_)
        refine k_block ?_
        refine k_wk (σ := [0, 4, 12]) [1, 0, 1, 1] rfl (by decide) rfl ?_; refine gC ?_
        exact gI (ih0 a1 a0_0 a0_1 0 0 (shr .u64 a0_0 a1) (Go.bits .or .u64 (shl .u64 a0_0 (wrap64 (64 - a1))) (shr .u64 a0_1 a1)) r H)

set_option maxHeartbeats 8000000 in
set_option maxRecDepth 100000 in
theorem round_split.does {k : Nat} {a0_0 : Int} {a0_1 : Int} {a1 : Int} {a2 : Bool} {r : Bool × Bool} (H : round_split.f k a0_0 a0_1 a1 a2 = some r) : Do E0 (.fn 57 [.a [.i .u64 a0_0, .i .u64 a0_1], .i .i64 a1, .b a2] [] (.t [.b r.1, .b r.2]) []) := by
  refine fn_wpl Tryd.func57 rfl (Q := (round_split.Q a0_0 a0_1 a1 a2 r)) (fun s h => h) ?_
  unfold round_split.f at H
  simp only [Tryd.ntmps57, List.length, List.replicate, Nat.reduceAdd, Nat.reduceSub, List.cons_append, List.nil_append]
  refine w_seq ?_
  refine wR fun K hK => ?_
  refine g_box rfl rfl rfl (by rfl) (gU ?_)
  refine g_as rfl rfl (gT ?_)
  refine g_as rfl rfl (gT ?_)
  refine g_nil (hK _ _ _ ?_)
  refine k_seq ?_
  refine w_seq ?_
  refine w_seq ?_
  refine wR fun K hK => ?_
  refine g_mv rfl rfl (gT ?_)
  refine g_bin rfl rfl rfl rfl rfl (gT ?_)
  refine g_nil (hK _ _ _ ?_)
  refine k_seq ?_
  rcases its H with ⟨c1, H⟩ | ⟨c1, H⟩
  · have c1b := decide_eq_true c1; try simp only [c1b, nrm]
    refine w_cond rfl (fun _ => ?_) (fun h => Bool.noConfusion h)
    refine w_seq ?_
    refine wR fun K hK => ?_
    refine g_mv rfl rfl (gT ?_)
    refine g_as rfl rfl (gT ?_)
    refine g_as rfl rfl (gT ?_)
    refine g_nil (hK _ _ _ ?_)
    refine k_seq ?_
    refine w_ret ?_
    refine fin_wp (τ := []) rfl (by decide) ?_; rw [← Option.some.inj H]; simp only [Tryd.f57]; exact gF
  · have c1b := decide_eq_false c1; try simp only [c1b, nrm]
    refine w_cond rfl (fun h => Bool.noConfusion h) (fun _ => ?_)
    refine w_skip ?_
    refine k_seq ?_
    refine w_seq ?_
    refine wR fun K hK => ?_
    refine g_lda rfl rfl ag68 sz68 rfl rfl (Nat.le_of_ble_eq_true rfl) (gT ?_)
    refine g_mv rfl rfl (gT ?_)
    refine g_bin rfl rfl rfl rfl rfl (gT ?_)
    obtain ⟨q2, hq2, H⟩ := bnd H
    refine g_cs [] rfl rfl (by rfl) Tryd.func49 rfl (by decide) (wide_Wide_Right.does hq2) ⟨Nat.le_of_ble_eq_true rfl, Nat.le_of_ble_eq_true rfl⟩ ?_; refine gC ?_
    refine g_mv rfl rfl (gT ?_)
    refine g_ext rfl rfl rfl (Nat.le_of_ble_eq_true rfl) (gT ?_)
    refine g_ext rfl rfl rfl (Nat.le_of_ble_eq_true rfl) (gT ?_)
    refine g_alloc rfl rfl zr68 (gU ?_)
    refine g_st rfl rfl sz68 rfl rfl rfl (by rfl) (Nat.le_of_ble_eq_true rfl) (gU ?_)
    refine g_as rfl rfl (gT ?_)
    refine g_nil (hK _ _ _ ?_)
    refine k_seq ?_
    refine w_seq ?_
    refine wR fun K hK => ?_
    refine g_fd rfl rfl fa68_1 rfl (gT ?_)
    refine g_ldc rfl rfl ag28 sz28 rfl rfl rfl (gT ?_)
    refine g_bin rfl rfl rfl rfl rfl (gT ?_)
    refine g_bin rfl rfl rfl rfl rfl (gT ?_)
    refine g_as rfl rfl (gT ?_)
    refine g_nil (hK _ _ _ ?_)
    refine k_seq ?_
    refine w_seq ?_
    refine wR fun K hK => ?_
    refine g_mv rfl rfl (gT ?_)
    refine g_mv rfl rfl (gT ?_)
    refine g_as rfl rfl (gT ?_)
    refine g_as rfl rfl (gT ?_)
    refine g_nil (hK _ _ _ ?_)
    refine k_seq ?_
    refine w_ret ?_
    refine fin_wp (τ := []) rfl (by decide) ?_; rw [← Option.some.inj H]; simp only [Tryd.f57]; exact gF

set_option maxHeartbeats 8000000 in
set_option maxRecDepth 100000 in
theorem wide_Wide_Add.does {a0_0 : Int} {a0_1 : Int} {a1_0 : Int} {a1_1 : Int} {r : Int × Int × Bool} (H : wide_Wide_Add.f a0_0 a0_1 a1_0 a1_1 = some r) : Do E0 (.fn 50 [.a [.i .u64 a0_0, .i .u64 a0_1], .a [.i .u64 a1_0, .i .u64 a1_1]] [] (.t [.a [.i .u64 r.1, .i .u64 r.2.1], .b r.2.2]) []) := by
  refine fn_wpl Tryd.func50 rfl (Q := (wide_Wide_Add.Q a0_0 a0_1 a1_0 a1_1 r)) (fun s h => h) ?_
  unfold wide_Wide_Add.f at H
  simp only [Tryd.ntmps50, List.length, List.replicate, Nat.reduceAdd, Nat.reduceSub, List.cons_append, List.nil_append]
  refine w_seq ?_
  refine wR fun K hK => ?_
  refine g_box rfl rfl rfl (by rfl) (gU ?_)
  refine g_box rfl rfl rfl (by rfl) (gU ?_)
  refine g_alloc rfl rfl zr68 (gU ?_)
  refine g_as rfl rfl (gT ?_)
  refine g_nil (hK _ _ _ ?_)
  refine k_seq ?_
  refine w_seq ?_
  refine wR fun K hK => ?_
  refine g_fd rfl rfl fa68_1 rfl (gT ?_)
  refine g_ldc rfl rfl ag28 sz28 rfl rfl rfl (gT ?_)
  refine g_fd rfl rfl fa68_1 rfl (gT ?_)
  refine g_ldc rfl rfl ag28 sz28 rfl rfl rfl (gT ?_)
  obtain ⟨q1, hq1, H⟩ := bnd H
  refine g_ex rfl rfl Tryd.func58 rfl (bits_Add64.ext hq1) (gT ?_)
  refine g_mv rfl rfl (gT ?_)
  refine g_ext rfl rfl rfl (Nat.le_of_ble_eq_true rfl) (gT ?_)
  refine g_ext rfl rfl rfl (Nat.le_of_ble_eq_true rfl) (gT ?_)
  refine g_as rfl rfl (gT ?_)
  refine g_as rfl rfl (gT ?_)
  refine g_nil (hK _ _ _ ?_)
  refine k_seq ?_
  refine w_seq ?_
  refine wR fun K hK => ?_
  refine g_fd rfl rfl fa68_0 rfl (gT ?_)
  refine g_ldc rfl rfl ag28 sz28 rfl rfl rfl (gT ?_)
  refine g_fd rfl rfl fa68_0 rfl (gT ?_)
  refine g_ldc rfl rfl ag28 sz28 rfl rfl rfl (gT ?_)
  refine g_mv rfl rfl (gT ?_)
  obtain ⟨q2, hq2, H⟩ := bnd H
  refine g_ex rfl rfl Tryd.func58 rfl (bits_Add64.ext hq2) (gT ?_)
  refine g_mv rfl rfl (gT ?_)
  refine g_ext rfl rfl rfl (Nat.le_of_ble_eq_true rfl) (gT ?_)
  refine g_ext rfl rfl rfl (Nat.le_of_ble_eq_true rfl) (gT ?_)
  refine g_as rfl rfl (gT ?_)
  refine g_as rfl rfl (gT ?_)
  refine g_nil (hK _ _ _ ?_)
  refine k_seq ?_
  refine w_seq ?_
  refine wR fun K hK => ?_
  refine g_mv rfl rfl (gT ?_)
  refine g_mv rfl rfl (gT ?_)
  refine g_bd rfl rfl zr68 Tryd.underlying68 (pl := [(0, 1), (1, 1)]) (by kernel_rfl) ?_; refine gB ?_
  refine g_mv rfl rfl (gT ?_)
  refine g_bin rfl rfl rfl rfl rfl (gT ?_)
  refine g_st rfl rfl sz68 rfl rfl rfl (by rfl) (Nat.le_of_ble_eq_true rfl) (gU ?_)
  refine g_as rfl rfl (gT ?_)
  refine g_nil (hK _ _ _ ?_)
  refine k_seq ?_
  refine w_ret ?_
  refine fin_wp (τ := []) rfl (by decide) ?_; rw [← Option.some.inj H]; simp only [Tryd.f50, ag68, sz68, nrm, nrmw, nrmc, nrme, nrmo, nrml, nrmb, nrmx, Nat.reduceEqDiff, Nat.reduceBEq, Nat.zero_add, Nat.add_zero, Nat.mul_one, List.length_cons, List.length_nil, List.length_map, List.length_set, List.length_replicate, List.drop_zero, List.drop_succ_cons, List.drop_nil, List.take_zero, List.take_succ_cons, List.take_nil, Nat.le_refl, if_true, if_false, Option.any_none, Option.any_some, List.contains_nil, Bool.not_false, Bool.or_true, Bool.true_or, Bool.or_false, Bool.false_or, Bool.and_true, Bool.true_and, Bool.and_self, reduceCtorEq, beq_self_eq_true, List.map_cons, List.map_nil, List.append_nil, List.nil_append, List.contains_cons, List.filter_cons, List.filter_nil, List.cons_append, Bool.false_eq_true, true_and, and_true, List.getElem_toArray, List.getElem_cons_zero, List.getElem_cons_succ, Nat.reduceAdd, Nat.reduceMul, Nat.reduceLT, Nat.reduceSub, Nat.reduceLeDiff]; try (first | rfl | exact ⟨rfl, trivial⟩ | exact ⟨rfl, rfl⟩)

set_option maxHeartbeats 8000000 in
set_option maxRecDepth 100000 in
theorem round_Round.does_l {a0 : Bool} {a1_0 : Int} {a1_1 : Int} {a2 : Int} {a3 : Bool} (k : Nat) : (∀ (neg_0 : Bool) (exp_2 : Int) (more_3 : Bool) (drop_10 : Int) (tiny_11 : Bool) (h0_0 : Int) (h0_1 : Int) (r : Int × Int), round_Round.j0 k neg_0 exp_2 more_3 drop_10 tiny_11 h0_0 h0_1 = some r → kont E0 (round_Round.Q a0 a1_0 a1_1 a2 a3 r) (frs (bodyOf Tryd.f41) [1, 1, 1, 1, 1, 0, 1] []) .normal ⟨[.b neg_0, .u, .i .i64 exp_2, .b more_3, .u, .p (some (0, 0)), .u, .u, .u, .u, .i .i64 drop_10, .b tiny_11, .u, .u, .u, .u, .u, .u, .u, .u, .u, .u, .u, .u, .u, .u, .u, .u, .u, .u, .u, .u, .u, .u, .u, .u, .u, .u, .u, .u, .u, .u, .u, .u, .u, .u, .u, .u, .u, .u, .u, .u, .u, .u, .u, .u, .u, .u, .u, .u, .u, .u, .u, .u, .u, .u, .u, .u, .u, .u, .u, .u, .u, .u, .u, .u, .u, .u, .u, .u, .u, .u, .u, .u, .u, .u, .u, .u, .u, .u, .u, .u, .u, .u, .u, .u, .u, .u, .u, .u, .u, .u, .u, .u, .u, .u, .u, .u, .u, .u, .u, .u, .u, .u, .u, .u, .u, .u, .u, .u, .u, .u, .u, .u, .u, .u, .u, .u, .u, .u, .u, .u, .u, .u, .u, .u, .u, .u, .u, .u, .u], ofL [.row [.i .u64 h0_0, .i .u64 h0_1] 0 0 true true none], 1, 0⟩) ∧
    (∀ (neg_0 : Bool) (exp_2 : Int) (more_3 : Bool) (drop_10 : Int) (tiny_11 : Bool) (lost_12 : Bool) (half_13 : Bool) (fell_15 : Bool) (h0_0 : Int) (h0_1 : Int) (h1_0 : Int) (h1_1 : Int) (r : Int × Int), round_Round.j1 k neg_0 exp_2 more_3 drop_10 tiny_11 lost_12 half_13 fell_15 h1_0 h1_1 = some r → kont E0 (round_Round.Q a0 a1_0 a1_1 a2 a3 r) (frs (bodyOf Tryd.f41) [1, 1, 1, 1, 1, 1, 1, 0, 1, 0, 1, 1, 1, 0] []) .normal ⟨[.b neg_0, .u, .i .i64 exp_2, .b more_3, .u, .p (some (0, 0)), .u, .u, .u, .u, .i .i64 drop_10, .b tiny_11, .b lost_12, .b half_13, .p (some (1, 0)), .b fell_15, .u, .u, .u, .u, .u, .u, .u, .u, .u, .u, .u, .u, .u, .u, .u, .u, .u, .u, .u, .u, .u, .u, .u, .u, .u, .u, .u, .u, .u, .u, .u, .u, .u, .u, .u, .u, .u, .u, .u, .u, .u, .u, .u, .u, .u, .u, .u, .u, .u, .u, .u, .u, .u, .u, .u, .u, .u, .u, .u, .u, .u, .u, .u, .u, .u, .u, .u, .u, .u, .u, .u, .u, .u, .u, .u, .u, .u, .u, .u, .u, .u, .u, .u, .u, .u, .u, .u, .u, .u, .u, .u, .u, .u, .u, .u, .u, .u, .u, .u, .u, .u, .u, .u, .u, .u, .u, .u, .u, .u, .u, .u, .u, .u, .u, .u, .u, .u, .u, .u, .u, .u, .u, .u, .u, .u], ofL [.row [.i .u64 h0_0, .i .u64 h0_1] 0 0 true true none, .row [.i .u64 h1_0, .i .u64 h1_1] 0 0 true true none], 2, 0⟩) ∧
    (∀ (neg_0 : Bool) (exp_2 : Int) (drop_10 : Int) (tiny_11 : Bool) (lost_12 : Bool) (t_91 : Bool) (h0_0 : Int) (h0_1 : Int) (r : Int × Int), round_Round.j3 k neg_0 exp_2 drop_10 tiny_11 lost_12 t_91 h0_0 h0_1 = some r → kont E0 (round_Round.Q a0 a1_0 a1_1 a2 a3 r) (frs (bodyOf Tryd.f41) [1, 1, 1, 1, 1, 1, 1, 0, 1, 1, 0] []) .normal ⟨[.b neg_0, .u, .i .i64 exp_2, .u, .u, .p (some (0, 0)), .u, .u, .u, .u, .i .i64 drop_10, .b tiny_11, .b lost_12, .u, .u, .u, .u, .u, .u, .u, .u, .u, .u, .u, .u, .u, .u, .u, .u, .u, .u, .u, .u, .u, .u, .u, .u, .u, .u, .u, .u, .u, .u, .u, .u, .u, .u, .u, .u, .u, .u, .u, .u, .u, .u, .u, .u, .u, .u, .u, .u, .u, .u, .u, .u, .u, .u, .u, .u, .u, .u, .u, .u, .u, .u, .u, .u, .u, .u, .u, .u, .u, .u, .u, .u, .u, .u, .u, .u, .u, .u, .b t_91, .u, .u, .u, .u, .u, .u, .u, .u, .u, .u, .u, .u, .u, .u, .u, .u, .u, .u, .u, .u, .u, .u, .u, .u, .u, .u, .u, .u, .u, .u, .u, .u, .u, .u, .u, .u, .u, .u, .u, .u, .u, .u, .u, .u, .u, .u, .u, .u, .u], ofL [.row [.i .u64 h0_0, .i .u64 h0_1] 0 0 true true none], 1, 0⟩) ∧
    (∀ (neg_0 : Bool) (exp_2 : Int) (drop_10 : Int) (tiny_11 : Bool) (lost_12 : Bool) (t_79 : Bool) (h0_0 : Int) (h0_1 : Int) (r : Int × Int), round_Round.j2 k neg_0 exp_2 drop_10 tiny_11 lost_12 t_79 h0_0 h0_1 = some r → kont E0 (round_Round.Q a0 a1_0 a1_1 a2 a3 r) (frs (bodyOf Tryd.f41) [1, 1, 1, 1, 1, 1, 1, 0, 1, 0, 1, 1, 1, 1, 1, 0] []) .normal ⟨[.b neg_0, .u, .i .i64 exp_2, .u, .u, .p (some (0, 0)), .u, .u, .u, .u, .i .i64 drop_10, .b tiny_11, .b lost_12, .u, .u, .u, .u, .u, .u, .u, .u, .u, .u, .u, .u, .u, .u, .u, .u, .u, .u, .u, .u, .u, .u, .u, .u, .u, .u, .u, .u, .u, .u, .u, .u, .u, .u, .u, .u, .u, .u, .u, .u, .u, .u, .u, .u, .u, .u, .u, .u, .u, .u, .u, .u, .u, .u, .u, .u, .u, .u, .u, .u, .u, .u, .u, .u, .u, .u, .b t_79, .u, .u, .u, .u, .u, .u, .u, .u, .u, .u, .u, .u, .u, .u, .u, .u, .u, .u, .u, .u, .u, .u, .u, .u, .u, .u, .u, .u, .u, .u, .u, .u, .u, .u, .u, .u, .u, .u, .u, .u, .u, .u, .u, .u, .u, .u, .u, .u, .u, .u, .u, .u, .u, .u, .u, .u, .u, .u, .u, .u, .u], ofL [.row [.i .u64 h0_0, .i .u64 h0_1] 0 0 true true none], 1, 0⟩) ∧
    (∀ (neg_0 : Bool) (exp_2 : Int) (drop_10 : Int) (tiny_11 : Bool) (lost_12 : Bool) (h0_0 : Int) (h0_1 : Int) (r : Int × Int), round_Round.j4 k neg_0 exp_2 drop_10 tiny_11 lost_12 h0_0 h0_1 = some r → kont E0 (round_Round.Q a0 a1_0 a1_1 a2 a3 r) (frs (bodyOf Tryd.f41) [1, 1, 1, 1, 1, 1, 1, 0, 1] []) .normal ⟨[.b neg_0, .u, .i .i64 exp_2, .u, .u, .p (some (0, 0)), .u, .u, .u, .u, .i .i64 drop_10, .b tiny_11, .b lost_12, .u, .u, .u, .u, .u, .u, .u, .u, .u, .u, .u, .u, .u, .u, .u, .u, .u, .u, .u, .u, .u, .u, .u, .u, .u, .u, .u, .u, .u, .u, .u, .u, .u, .u, .u, .u, .u, .u, .u, .u, .u, .u, .u, .u, .u, .u, .u, .u, .u, .u, .u, .u, .u, .u, .u, .u, .u, .u, .u, .u, .u, .u, .u, .u, .u, .u, .u, .u, .u, .u, .u, .u, .u, .u, .u, .u, .u, .u, .u, .u, .u, .u, .u, .u, .u, .u, .u, .u, .u, .u, .u, .u, .u, .u, .u, .u, .u, .u, .u, .u, .u, .u, .u, .u, .u, .u, .u, .u, .u, .u, .u, .u, .u, .u, .u, .u, .u, .u, .u, .u, .u, .u, .u, .u, .u, .u, .u, .u], ofL [.row [.i .u64 h0_0, .i .u64 h0_1] 0 0 true true none], 1, 0⟩) ∧
    (∀ (neg_0 : Bool) (exp_2 : Int) (tiny_11 : Bool) (lost_12 : Bool) (m_16 : Int) (r : Int × Int), round_Round.j5 k neg_0 exp_2 tiny_11 lost_12 m_16 = some r → kont E0 (round_Round.Q a0 a1_0 a1_1 a2 a3 r) (frs (bodyOf Tryd.f41) [1, 1, 1, 1, 1, 1, 1, 1, 1, 1, 0, 1] []) .normal ⟨[.b neg_0, .u, .i .i64 exp_2, .u, .u, .u, .u, .u, .u, .u, .u, .b tiny_11, .b lost_12, .u, .u, .u, .i .u64 m_16, .u, .u, .u, .u, .u, .u, .u, .u, .u, .u, .u, .u, .u, .u, .u, .u, .u, .u, .u, .u, .u, .u, .u, .u, .u, .u, .u, .u, .u, .u, .u, .u, .u, .u, .u, .u, .u, .u, .u, .u, .u, .u, .u, .u, .u, .u, .u, .u, .u, .u, .u, .u, .u, .u, .u, .u, .u, .u, .u, .u, .u, .u, .u, .u, .u, .u, .u, .u, .u, .u, .u, .u, .u, .u, .u, .u, .u, .u, .u, .u, .u, .u, .u, .u, .u, .u, .u, .u, .u, .u, .u, .u, .u, .u, .u, .u, .u, .u, .u, .u, .u, .u, .u, .u, .u, .u, .u, .u, .u, .u, .u, .u, .u, .u, .u, .u, .u, .u, .u, .u, .u, .u, .u, .u], ofL [], 0, 0⟩) ∧
    (∀ (neg_0 : Bool) (exp_2 : Int) (m_16 : Int) (f_17 : Int) (r : Int × Int), round_Round.j6 k neg_0 exp_2 m_16 f_17 = some r → kont E0 (round_Round.Q a0 a1_0 a1_1 a2 a3 r) (frs (bodyOf Tryd.f41) [1, 1, 1, 1, 1, 1, 1, 1, 1, 1, 1, 1, 0, 1] []) .normal ⟨[.b neg_0, .u, .i .i64 exp_2, .u, .u, .u, .u, .u, .u, .u, .u, .u, .u, .u, .u, .u, .i .u64 m_16, .i .u8 f_17, .u, .u, .u, .u, .u, .u, .u, .u, .u, .u, .u, .u, .u, .u, .u, .u, .u, .u, .u, .u, .u, .u, .u, .u, .u, .u, .u, .u, .u, .u, .u, .u, .u, .u, .u, .u, .u, .u, .u, .u, .u, .u, .u, .u, .u, .u, .u, .u, .u, .u, .u, .u, .u, .u, .u, .u, .u, .u, .u, .u, .u, .u, .u, .u, .u, .u, .u, .u, .u, .u, .u, .u, .u, .u, .u, .u, .u, .u, .u, .u, .u, .u, .u, .u, .u, .u, .u, .u, .u, .u, .u, .u, .u, .u, .u, .u, .u, .u, .u, .u, .u, .u, .u, .u, .u, .u, .u, .u, .u, .u, .u, .u, .u, .u, .u, .u, .u, .u, .u, .u, .u, .u, .u], ofL [], 0, 0⟩) := by
  induction k with
  | zero => exact ⟨fun _ _ _ _ _ _ _ r h => by simp [round_Round.j0] at h, fun _ _ _ _ _ _ _ _ _ _ _ _ r h => by simp [round_Round.j1] at h, fun _ _ _ _ _ _ _ _ r h => by simp [round_Round.j3] at h, fun _ _ _ _ _ _ _ _ r h => by simp [round_Round.j2] at h, fun _ _ _ _ _ _ _ r h => by simp [round_Round.j4] at h, fun _ _ _ _ _ r h => by simp [round_Round.j5] at h, fun _ _ _ _ r h => by simp [round_Round.j6] at h⟩
  | succ k ih =>
    obtain ⟨ih0, ih1, ih2, ih3, ih4, ih5, ih6⟩ := ih
    refine ⟨?_, ?_, ?_, ?_, ?_, ?_, ?_⟩
    · intro neg_0 exp_2 more_3 drop_10 tiny_11 h0_0 h0_1 r H
      unfold round_Round.j0 at H
      simp only [bodyOf, Tryd.f41, frs, sub, if_true, if_false, Nat.one_ne_zero]
      refine k_seq ?_
      refine w_seq ?_
      refine wR fun K hK => ?_
      refine g_mv rfl rfl (gT ?_)
      refine g_as rfl rfl (gT ?_)
      refine g_nil (hK _ _ _ ?_)
      refine k_seq ?_
      refine w_seq ?_
      refine w_seq ?_
      refine wR fun K hK => ?_
      refine g_mv rfl rfl (gT ?_)
      refine g_bin rfl rfl rfl rfl rfl (gT ?_)
      refine g_nil (hK _ _ _ ?_)
      refine k_seq ?_
      rcases its H with ⟨c9, H⟩ | ⟨c9, H⟩
      · have c9b := decide_eq_true c9; try simp only [c9b, nrm]
        refine w_cond rfl (fun _ => ?_) (fun h => Bool.noConfusion h)
        refine w_seq ?_
        refine wR fun K hK => ?_
        refine g_as rfl rfl (gT ?_)
        refine g_nil (hK _ _ _ ?_)
        refine k_seq ?_
        refine w_seq ?_
        refine wR fun K hK => ?_
        refine g_lda rfl rfl ag68 sz68 rfl rfl (Nat.le_of_ble_eq_true rfl) (gT ?_)
        refine g_mv rfl rfl (gT ?_)
        obtain ⟨q10, hq10, H⟩ := bnd H
        refine g_cs [] rfl rfl (by rfl) Tryd.func49 rfl (by decide) (wide_Wide_Right.does hq10) ⟨Nat.le_of_ble_eq_true rfl, Nat.le_of_ble_eq_true rfl⟩ ?_; refine gC ?_
        refine g_mv rfl rfl (gT ?_)
        refine g_ext rfl rfl rfl (Nat.le_of_ble_eq_true rfl) (gT ?_)
        refine g_ext rfl rfl rfl (Nat.le_of_ble_eq_true rfl) (gT ?_)
        refine g_alloc rfl rfl zr68 (gU ?_)
        refine g_st rfl rfl sz68 rfl rfl rfl (by rfl) (Nat.le_of_ble_eq_true rfl) (gU ?_)
        refine g_as rfl rfl (gT ?_)
        refine g_nil (hK _ _ _ ?_)
        refine k_seq ?_
        refine w_seq ?_
        refine wR fun K hK => ?_
        refine g_lda rfl rfl ag68 sz68 rfl rfl (Nat.le_of_ble_eq_true rfl) (gT ?_)
        refine g_mv rfl rfl (gT ?_)
        refine g_mv rfl rfl (gT ?_)
        obtain ⟨q11, hq11, H⟩ := bnd H
        refine g_cs [] rfl rfl (by rfl) Tryd.func57 rfl (by decide) (round_split.does hq11) ⟨Nat.le_of_ble_eq_true rfl, Nat.le_of_ble_eq_true rfl⟩ ?_; refine gC ?_
        refine g_mv rfl rfl (gT ?_)
        refine g_ext rfl rfl rfl (Nat.le_of_ble_eq_true rfl) (gT ?_)
        refine g_ext rfl rfl rfl (Nat.le_of_ble_eq_true rfl) (gT ?_)
        refine g_as rfl rfl (gT ?_)
        refine g_as rfl rfl (gT ?_)
        refine g_nil (hK _ _ _ ?_)
        refine k_seq ?_
        refine w_seq ?_
        refine wR fun K hK => ?_
        refine g_mv rfl rfl (gT ?_)
        refine g_mv rfl rfl (gT ?_)
        rcases its H with ⟨c12, H⟩ | ⟨c12, H⟩
        · have c12b : q11.1 = true := c12; try simp only [c12b, nrm]
          refine g_sk rfl rfl (gT ?_)
          refine g_pick rfl rfl rfl (gT ?_)
          refine g_mv rfl rfl (gT ?_)
          refine g_sk rfl rfl (gT ?_)
          refine g_pick rfl rfl rfl (gT ?_)
          refine g_as rfl rfl (gT ?_)
          refine g_nil (hK _ _ _ ?_)
          refine k_wk (σ := [0, 45]) [0, 1, 0, 1, 4, 0, 0, 0, 0, 0] rfl (by decide) rfl ?_; refine gC ?_
          exact gI (ih1 neg_0 exp_2 more_3 drop_10 tiny_11 true true q11.2 h0_0 h0_1 q10.1 q10.2.1 r H)
        · have c12b : q11.1 = false := Bool.eq_false_iff.mpr c12; try simp only [c12b, nrm]
          refine g_mv rfl rfl (gT ?_)
          refine g_pick rfl rfl rfl (gT ?_)
          refine g_mv rfl rfl (gT ?_)
          rcases its H with ⟨c13, H⟩ | ⟨c13, H⟩
          · have c13b : q11.2 = true := c13; try simp only [c13b, nrm]
            refine g_sk rfl rfl (gT ?_)
            refine g_pick rfl rfl rfl (gT ?_)
            refine g_as rfl rfl (gT ?_)
            refine g_nil (hK _ _ _ ?_)
            refine k_wk (σ := [0, 45]) [0, 1, 0, 1, 4, 0, 0, 0, 0, 0] rfl (by decide) rfl ?_; refine gC ?_
            exact gI (ih1 neg_0 exp_2 more_3 drop_10 tiny_11 true false true h0_0 h0_1 q10.1 q10.2.1 r H)
          · have c13b : q11.2 = false := Bool.eq_false_iff.mpr c13; try simp only [c13b, nrm]
            refine g_mv rfl rfl (gT ?_)
            refine g_pick rfl rfl rfl (gT ?_)
            refine g_as rfl rfl (gT ?_)
            refine g_nil (hK _ _ _ ?_)
            refine k_wk (σ := [0, 45]) [0, 1, 0, 1, 4, 0, 0, 0, 0, 0] rfl (by decide) rfl ?_; refine gC ?_
            exact gI (ih1 neg_0 exp_2 more_3 drop_10 tiny_11 more_3 false false h0_0 h0_1 q10.1 q10.2.1 r H)
      · have c9b := decide_eq_false c9; try simp only [c9b, nrm]
        refine w_cond rfl (fun h => Bool.noConfusion h) (fun _ => ?_)
        refine w_seq ?_
        refine wR fun K hK => ?_
        refine g_mv rfl rfl (gT ?_)
        refine g_bin rfl rfl rfl rfl rfl (gT ?_)
        refine g_mv rfl rfl (gT ?_)
        rcases its H with ⟨c14, H⟩ | ⟨c14, H⟩
        · have c14b := decide_eq_true c14; try simp only [c14b, nrm]
          refine g_mv rfl rfl (gT ?_)
          refine g_un rfl rfl rfl rfl (gT ?_)
          refine g_pick rfl rfl rfl (gT ?_)
          refine g_nil (hK _ _ _ ?_)
          refine k_wk (σ := [0]) [0, 1, 2, 4, 0, 0, 78] rfl (by decide) rfl ?_; refine gC ?_
          exact gI (ih2 neg_0 exp_2 drop_10 tiny_11 more_3 (!more_3) h0_0 h0_1 r H)
        · have c14b := decide_eq_false c14; try simp only [c14b, nrm]
          refine g_sk rfl rfl (gT ?_)
          refine g_sk rfl rfl (gT ?_)
          refine g_pick rfl rfl rfl (gT ?_)
          refine g_nil (hK _ _ _ ?_)
          refine k_wk (σ := [0]) [0, 1, 2, 4, 0, 0, 78] rfl (by decide) rfl ?_; refine gC ?_
          exact gI (ih2 neg_0 exp_2 drop_10 tiny_11 more_3 false h0_0 h0_1 r H)
    · intro neg_0 exp_2 more_3 drop_10 tiny_11 lost_12 half_13 fell_15 h0_0 h0_1 h1_0 h1_1 r H
      unfold round_Round.j1 at H
      simp only [bodyOf, Tryd.f41, frs, sub, if_true, if_false, Nat.one_ne_zero]
      refine k_seq ?_
      refine w_seq ?_
      refine wR fun K hK => ?_
      refine g_lda rfl rfl ag68 sz68 rfl rfl (Nat.le_of_ble_eq_true rfl) (gT ?_)
      refine g_st rfl rfl sz68 rfl rfl rfl (by rfl) (Nat.le_of_ble_eq_true rfl) (gU ?_)
      refine g_nil (hK _ _ _ ?_)
      refine k_seq ?_
      refine w_seq ?_
      refine wR fun K hK => ?_
      refine g_mv rfl rfl (gT ?_)
      refine g_mv rfl rfl (gT ?_)
      rcases its H with ⟨c15, H⟩ | ⟨c15, H⟩
      · have c15b : half_13 = true := c15; try simp only [c15b, nrm]
        refine g_mv rfl rfl (gT ?_)
        refine g_mv rfl rfl (gT ?_)
        rcases its H with ⟨c16, H⟩ | ⟨c16, H⟩
        · have c16b : fell_15 = true := c16; try simp only [c16b, nrm]
          refine g_sk rfl rfl (gT ?_)
          refine g_pick rfl rfl rfl (gT ?_)
          refine g_mv rfl rfl (gT ?_)
          refine g_sk rfl rfl (gT ?_)
          refine g_sk rfl rfl (gT ?_)
          refine g_sk rfl rfl (gT ?_)
          refine g_sk rfl rfl (gT ?_)
          refine g_pick rfl rfl rfl (gT ?_)
          refine g_pick rfl rfl rfl (gT ?_)
          refine g_nil (hK _ _ _ ?_)
          refine k_wk (σ := [0]) [0, 1, 2, 4, 0, 0, 66] rfl (by decide) rfl ?_; refine gC ?_
          exact gI (ih3 neg_0 exp_2 drop_10 tiny_11 lost_12 true h1_0 h1_1 r H)
        · have c16b : fell_15 = false := Bool.eq_false_iff.mpr c16; try simp only [c16b, nrm]
          refine g_mv rfl rfl (gT ?_)
          refine g_pick rfl rfl rfl (gT ?_)
          refine g_mv rfl rfl (gT ?_)
          rcases its H with ⟨c17, H⟩ | ⟨c17, H⟩
          · have c17b : more_3 = true := c17; try simp only [c17b, nrm]
            refine g_sk rfl rfl (gT ?_)
            refine g_sk rfl rfl (gT ?_)
            refine g_sk rfl rfl (gT ?_)
            refine g_sk rfl rfl (gT ?_)
            refine g_pick rfl rfl rfl (gT ?_)
            refine g_pick rfl rfl rfl (gT ?_)
            refine g_nil (hK _ _ _ ?_)
            refine k_wk (σ := [0]) [0, 1, 2, 4, 0, 0, 66] rfl (by decide) rfl ?_; refine gC ?_
            exact gI (ih3 neg_0 exp_2 drop_10 tiny_11 lost_12 true h1_0 h1_1 r H)
          · have c17b : more_3 = false := Bool.eq_false_iff.mpr c17; try simp only [c17b, nrm]
            refine g_fd rfl rfl fa68_1 rfl (gT ?_)
            refine g_ldc rfl rfl ag28 sz28 rfl rfl rfl (gT ?_)
            refine g_bin rfl rfl rfl rfl rfl (gT ?_)
            refine g_bin rfl rfl rfl rfl rfl (gT ?_)
            refine g_pick rfl rfl rfl (gT ?_)
            refine g_pick rfl rfl rfl (gT ?_)
            refine g_nil (hK _ _ _ ?_)
            refine k_wk (σ := [0]) [0, 1, 2, 4, 0, 0, 66] rfl (by decide) rfl ?_; refine gC ?_
            exact gI (ih3 neg_0 exp_2 drop_10 tiny_11 lost_12 ((Go.bits .and .u64 h1_1 1) == 1) h1_0 h1_1 r H)
      · have c15b : half_13 = false := Bool.eq_false_iff.mpr c15; try simp only [c15b, nrm]
        refine g_sk rfl rfl (gT ?_)
        refine g_sk rfl rfl (gT ?_)
        refine g_sk rfl rfl (gT ?_)
        refine g_sk rfl rfl (gT ?_)
        refine g_sk rfl rfl (gT ?_)
        refine g_sk rfl rfl (gT ?_)
        refine g_sk rfl rfl (gT ?_)
        refine g_sk rfl rfl (gT ?_)
        refine g_sk rfl rfl (gT ?_)
        refine g_sk rfl rfl (gT ?_)
        refine g_pick rfl rfl rfl (gT ?_)
        refine g_nil (hK _ _ _ ?_)
        refine k_wk (σ := [0]) [0, 1, 2, 4, 0, 0, 66] rfl (by decide) rfl ?_; refine gC ?_
        exact gI (ih3 neg_0 exp_2 drop_10 tiny_11 lost_12 false h1_0 h1_1 r H)
    · intro neg_0 exp_2 drop_10 tiny_11 lost_12 t_91 h0_0 h0_1 r H
      unfold round_Round.j3 at H
      simp only [bodyOf, Tryd.f41, frs, sub, if_true, if_false, Nat.one_ne_zero]
      refine k_seq ?_
      rcases its H with ⟨c18, H⟩ | ⟨c18, H⟩
      · have c18b : t_91 = true := c18; try simp only [c18b, nrm]
        refine w_cond rfl (fun _ => ?_) (fun h => Bool.noConfusion h)
        refine wR fun K hK => ?_
        refine g_lda rfl rfl ag68 sz68 rfl rfl (Nat.le_of_ble_eq_true rfl) (gT ?_)
        refine g_mv rfl rfl (gT ?_)
        refine g_un rfl rfl rfl rfl (gT ?_)
        obtain ⟨q19, hq19, H⟩ := bnd H
        refine g_cs [] rfl rfl (by rfl) Tryd.func39 rfl (by decide) (wide_Wide_Left.does hq19) ⟨Nat.le_of_ble_eq_true rfl, Nat.le_of_ble_eq_true rfl⟩ ?_; refine gC ?_
        refine g_st rfl rfl sz68 rfl rfl rfl (by rfl) (Nat.le_of_ble_eq_true rfl) (gU ?_)
        refine g_nil (hK _ _ _ ?_)
        refine k_wk (σ := [0]) [0, 1, 2, 4, 0, 0] rfl (by decide) rfl ?_; refine gC ?_
        exact gI (ih4 neg_0 exp_2 drop_10 tiny_11 lost_12 q19.1 q19.2 r H)
      · have c18b : t_91 = false := Bool.eq_false_iff.mpr c18; try simp only [c18b, nrm]
        refine w_cond rfl (fun h => Bool.noConfusion h) (fun _ => ?_)
        refine w_seq ?_
        refine wR fun K hK => ?_
        refine g_mv rfl rfl (gT ?_)
        refine g_bin rfl rfl rfl rfl rfl (gT ?_)
        refine g_nil (hK _ _ _ ?_)
        refine k_seq ?_
        rcases its H with ⟨c20, H⟩ | ⟨c20, H⟩
        · have c20b := decide_eq_true c20; try simp only [c20b, nrm]
          refine w_cond rfl (fun _ => ?_) (fun h => Bool.noConfusion h)
          refine wR fun K hK => ?_
          refine g_lda rfl rfl ag68 sz68 rfl rfl (Nat.le_of_ble_eq_true rfl) (gT ?_)
          refine g_mv rfl rfl (gT ?_)
          refine g_un rfl rfl rfl rfl (gT ?_)
          obtain ⟨q21, hq21, H⟩ := bnd H
          refine g_cs [] rfl rfl (by rfl) Tryd.func39 rfl (by decide) (wide_Wide_Left.does hq21) ⟨Nat.le_of_ble_eq_true rfl, Nat.le_of_ble_eq_true rfl⟩ ?_; refine gC ?_
          refine g_st rfl rfl sz68 rfl rfl rfl (by rfl) (Nat.le_of_ble_eq_true rfl) (gU ?_)
          refine g_nil (hK _ _ _ ?_)
          refine k_wk (σ := [0]) [0, 1, 2, 4, 0, 0] rfl (by decide) rfl ?_; refine gC ?_
          exact gI (ih4 neg_0 exp_2 drop_10 tiny_11 lost_12 q21.1 q21.2 r H)
        · have c20b := decide_eq_false c20; try simp only [c20b, nrm]
          refine w_cond rfl (fun h => Bool.noConfusion h) (fun _ => ?_)
          refine w_skip ?_
          refine k_wk (σ := [0]) [0, 1, 2, 4, 0, 0] rfl (by decide) rfl ?_; refine gC ?_
          exact gI (ih4 neg_0 exp_2 drop_10 tiny_11 lost_12 h0_0 h0_1 r H)
    · intro neg_0 exp_2 drop_10 tiny_11 lost_12 t_79 h0_0 h0_1 r H
      unfold round_Round.j2 at H
      simp only [bodyOf, Tryd.f41, frs, sub, if_true, if_false, Nat.one_ne_zero]
      refine k_seq ?_
      rcases its H with ⟨c22, H⟩ | ⟨c22, H⟩
      · have c22b : t_79 = true := c22; try simp only [c22b, nrm]
        refine w_cond rfl (fun _ => ?_) (fun h => Bool.noConfusion h)
        refine wR fun K hK => ?_
        refine g_lda rfl rfl ag68 sz68 rfl rfl (Nat.le_of_ble_eq_true rfl) (gT ?_)
        refine g_bd rfl rfl zr68 Tryd.underlying68 (pl := [(0, 1), (1, 1)]) (by kernel_rfl) ?_; refine gB ?_
        obtain ⟨q23, hq23, H⟩ := bnd H
        refine g_cs [] rfl rfl (by rfl) Tryd.func50 rfl (by decide) (wide_Wide_Add.does hq23) ⟨Nat.le_of_ble_eq_true rfl, Nat.le_of_ble_eq_true rfl⟩ ?_; refine gC ?_
        refine g_mv rfl rfl (gT ?_)
        refine g_ext rfl rfl rfl (Nat.le_of_ble_eq_true rfl) (gT ?_)
        refine g_ext rfl rfl rfl (Nat.le_of_ble_eq_true rfl) (gT ?_)
        refine g_st rfl rfl sz68 rfl rfl rfl (by rfl) (Nat.le_of_ble_eq_true rfl) (gU ?_)
        refine g_nil (hK _ _ _ ?_)
        refine k_wk (σ := [0]) [0, 1, 2, 4, 0, 0] rfl (by decide) rfl ?_; refine gC ?_
        exact gI (ih4 neg_0 exp_2 drop_10 tiny_11 lost_12 q23.1 q23.2.1 r H)
      · have c22b : t_79 = false := Bool.eq_false_iff.mpr c22; try simp only [c22b, nrm]
        refine w_cond rfl (fun h => Bool.noConfusion h) (fun _ => ?_)
        refine w_skip ?_
        refine k_wk (σ := [0]) [0, 1, 2, 4, 0, 0] rfl (by decide) rfl ?_; refine gC ?_
        exact gI (ih4 neg_0 exp_2 drop_10 tiny_11 lost_12 h0_0 h0_1 r H)
    · intro neg_0 exp_2 drop_10 tiny_11 lost_12 h0_0 h0_1 r H
      unfold round_Round.j4 at H
      simp only [bodyOf, Tryd.f41, frs, sub, if_true, if_false, Nat.one_ne_zero]
      refine k_seq ?_
      refine w_seq ?_
      refine wR fun K hK => ?_
      refine g_mv rfl rfl (gT ?_)
      refine g_mv rfl rfl (gT ?_)
      refine g_bin rfl rfl rfl rfl rfl (gT ?_)
      refine g_as rfl rfl (gT ?_)
      refine g_nil (hK _ _ _ ?_)
      refine k_seq ?_
      refine w_seq ?_
      refine wR fun K hK => ?_
      refine g_fd rfl rfl fa68_1 rfl (gT ?_)
      refine g_ldc rfl rfl ag28 sz28 rfl rfl rfl (gT ?_)
      refine g_as rfl rfl (gT ?_)
      refine g_nil (hK _ _ _ ?_)
      refine k_seq ?_
      refine w_seq ?_
      refine w_seq ?_
      refine wR fun K hK => ?_
      refine g_mv rfl rfl (gT ?_)
      refine g_bin rfl rfl rfl rfl rfl (gT ?_)
      refine g_nil (hK _ _ _ ?_)
      refine k_seq ?_
      rcases its H with ⟨c24, H⟩ | ⟨c24, H⟩
      · have c24b := beq_iff_eq.mpr c24; have c24n := bne_eq_false_iff_eq.mpr c24; try simp only [c24b, c24n, nrm]
        refine w_cond rfl (fun _ => ?_) (fun h => Bool.noConfusion h)
        refine wR fun K hK => ?_
        refine g_mv rfl rfl (gT ?_)
        refine g_shrc (p := 2) rfl rfl rfl rfl (by decide) (by rfl) (gT ?_)
        refine g_mv rfl rfl (gT ?_)
        refine g_bin rfl rfl rfl rfl rfl (gT ?_)
        refine g_as rfl rfl (gT ?_)
        refine g_as rfl rfl (gT ?_)
        refine g_nil (hK _ _ _ ?_)
        refine k_wk (σ := []) [0, 1, 8, 0, 3] rfl (by decide) rfl ?_; refine gC ?_
        exact gI (ih5 neg_0 (wrap64 ((wrap64 (exp_2 + drop_10)) + 1)) tiny_11 lost_12 (h0_1 / 2) r H)
      · have c24b := beq_eq_false_iff_ne.mpr c24; have c24n := bne_iff_ne.mpr c24; try simp only [c24b, c24n, nrm]
        refine w_cond rfl (fun h => Bool.noConfusion h) (fun _ => ?_)
        refine w_skip ?_
        refine k_wk (σ := []) [0, 1, 8, 0, 3] rfl (by decide) rfl ?_; refine gC ?_
        exact gI (ih5 neg_0 (wrap64 (exp_2 + drop_10)) tiny_11 lost_12 h0_1 r H)
    · intro neg_0 exp_2 tiny_11 lost_12 m_16 r H
      unfold round_Round.j5 at H
      simp only [bodyOf, Tryd.f41, frs, sub, if_true, if_false, Nat.one_ne_zero]
      refine k_seq ?_
      refine w_seq ?_
      refine wR fun K hK => ?_
      refine g_as rfl rfl (gT ?_)
      refine g_nil (hK _ _ _ ?_)
      refine k_seq ?_
      refine w_seq ?_
      refine w_seq ?_
      refine wR fun K hK => ?_
      refine g_mv rfl rfl (gT ?_)
      refine g_nil (hK _ _ _ ?_)
      refine k_seq ?_
      rcases its H with ⟨c25, H⟩ | ⟨c25, H⟩
      · have c25b : lost_12 = true := c25; try simp only [c25b, nrm]
        refine w_cond rfl (fun _ => ?_) (fun h => Bool.noConfusion h)
        refine w_seq ?_
        refine wR fun K hK => ?_
        refine g_mv rfl rfl (gT ?_)
        refine g_bin rfl rfl rfl rfl rfl (gT ?_)
        refine g_as rfl rfl (gT ?_)
        refine g_nil (hK _ _ _ ?_)
        refine k_seq ?_
        refine w_seq ?_
        refine wR fun K hK => ?_
        refine g_mv rfl rfl (gT ?_)
        refine g_nil (hK _ _ _ ?_)
        refine k_seq ?_
        rcases its H with ⟨c26, H⟩ | ⟨c26, H⟩
        · have c26b : tiny_11 = true := c26; try simp only [c26b, nrm]
          refine w_cond rfl (fun _ => ?_) (fun h => Bool.noConfusion h)
          refine wR fun K hK => ?_
          refine g_mv rfl rfl (gT ?_)
          refine g_bin rfl rfl rfl rfl rfl (gT ?_)
          refine g_as rfl rfl (gT ?_)
          refine g_nil (hK _ _ _ ?_)
          refine k_wk (σ := []) [0, 1, 13, 0] rfl (by decide) rfl ?_; refine gC ?_
          exact gI (ih6 neg_0 exp_2 m_16 (Go.bits .or .u8 (Go.bits .or .u8 0 1) 2) r H)
        · have c26b : tiny_11 = false := Bool.eq_false_iff.mpr c26; try simp only [c26b, nrm]
          refine w_cond rfl (fun h => Bool.noConfusion h) (fun _ => ?_)
          refine w_skip ?_
          refine k_wk (σ := []) [0, 1, 13, 0] rfl (by decide) rfl ?_; refine gC ?_
          exact gI (ih6 neg_0 exp_2 m_16 (Go.bits .or .u8 0 1) r H)
      · have c25b : lost_12 = false := Bool.eq_false_iff.mpr c25; try simp only [c25b, nrm]
        refine w_cond rfl (fun h => Bool.noConfusion h) (fun _ => ?_)
        refine w_skip ?_
        refine k_wk (σ := []) [0, 1, 13, 0] rfl (by decide) rfl ?_; refine gC ?_
        exact gI (ih6 neg_0 exp_2 m_16 0 r H)
    · intro neg_0 exp_2 m_16 f_17 r H
      unfold round_Round.j6 at H
      simp only [bodyOf, Tryd.f41, frs, sub, if_true, if_false, Nat.one_ne_zero]
      refine k_seq ?_
      refine w_seq ?_
      refine w_block ?_
      refine w_seq ?_
      refine wR fun K hK => ?_
      refine g_mv rfl rfl (gT ?_)
      refine g_bin rfl rfl rfl rfl rfl (gT ?_)
      refine g_as rfl rfl (gT ?_)
      refine g_nil (hK _ _ _ ?_)
      refine k_seq ?_
      rcases its H with ⟨c27, H⟩ | ⟨c27, H⟩
      · have c27b := decide_eq_true c27; try simp only [c27b, nrm]
        refine w_cond rfl (fun _ => ?_) (fun h => Bool.noConfusion h)
        refine w_seq ?_
        refine wR fun K hK => ?_
        refine g_mv rfl rfl (gT ?_)
        refine g_mv rfl rfl (gT ?_)
        obtain ⟨q28, hq28, H⟩ := bnd H
        refine g_cs [] rfl rfl (by rfl) Tryd.func53 rfl (by decide) (word_Make.does hq28) ⟨Nat.le_of_ble_eq_true rfl, Nat.le_of_ble_eq_true rfl⟩ ?_; refine gC ?_
        refine g_mv rfl rfl (gT ?_)
        refine g_as rfl rfl (gT ?_)
        refine g_as rfl rfl (gT ?_)
        refine g_nil (hK _ _ _ ?_)
        refine k_seq ?_
        refine w_ret ?_
        refine fin_wp (τ := []) rfl (by decide) ?_; rw [← Option.some.inj H]; simp only [Tryd.f41]; exact gF
      · have c27b := decide_eq_false c27; try simp only [c27b, nrm]
        refine w_cond rfl (fun h => Bool.noConfusion h) (fun _ => ?_)
        refine w_seq ?_
        refine wR fun K hK => ?_
        refine g_mv rfl rfl (gT ?_)
        refine g_bin rfl rfl rfl rfl rfl (gT ?_)
        refine g_bin rfl rfl rfl rfl rfl (gT ?_)
        refine g_as rfl rfl (gT ?_)
        refine g_nil (hK _ _ _ ?_)
        refine k_seq ?_
        rcases its H with ⟨c29, H⟩ | ⟨c29, H⟩
        · have c29b := decide_eq_true c29; try simp only [c29b, nrm]
          refine w_cond rfl (fun _ => ?_) (fun h => Bool.noConfusion h)
          refine w_seq ?_
          refine wR fun K hK => ?_
          refine g_mv rfl rfl (gT ?_)
          obtain ⟨q30, hq30, H⟩ := bnd H
          refine g_cs [] rfl rfl (by rfl) Tryd.func53 rfl (by decide) (word_Make.does hq30) ⟨Nat.le_of_ble_eq_true rfl, Nat.le_of_ble_eq_true rfl⟩ ?_; refine gC ?_
          refine g_mv rfl rfl (gT ?_)
          refine g_bin rfl rfl rfl rfl rfl (gT ?_)
          refine g_bin rfl rfl rfl rfl rfl (gT ?_)
          refine g_as rfl rfl (gT ?_)
          refine g_as rfl rfl (gT ?_)
          refine g_nil (hK _ _ _ ?_)
          refine k_seq ?_
          refine w_ret ?_
          refine fin_wp (τ := []) rfl (by decide) ?_; rw [← Option.some.inj H]; simp only [Tryd.f41]; exact gF
        · have c29b := decide_eq_false c29; try simp only [c29b, nrm]
          refine w_cond rfl (fun h => Bool.noConfusion h) (fun _ => ?_)
          refine w_skip ?_
          refine k_block ?_
          refine k_seq ?_
          refine w_seq ?_
          refine wR fun K hK => ?_
          refine g_mv rfl rfl (gT ?_)
          refine g_mv rfl rfl (gT ?_)
          refine g_bin rfl rfl rfl rfl rfl (gT ?_)
          refine g_mv rfl rfl (gT ?_)
          obtain ⟨q31, hq31, H⟩ := bnd H
          refine g_cs [] rfl rfl (by rfl) Tryd.func53 rfl (by decide) (word_Make.does hq31) ⟨Nat.le_of_ble_eq_true rfl, Nat.le_of_ble_eq_true rfl⟩ ?_; refine gC ?_
          refine g_mv rfl rfl (gT ?_)
          refine g_as rfl rfl (gT ?_)
          refine g_as rfl rfl (gT ?_)
          refine g_nil (hK _ _ _ ?_)
          refine k_seq ?_
          refine w_ret ?_
          refine fin_wp (τ := []) rfl (by decide) ?_; rw [← Option.some.inj H]; simp only [Tryd.f41]; exact gF
set_option maxHeartbeats 8000000 in
set_option maxRecDepth 100000 in
theorem round_Round.does {k : Nat} {a0 : Bool} {a1_0 : Int} {a1_1 : Int} {a2 : Int} {a3 : Bool} {r : Int × Int} (H : round_Round.f k a0 a1_0 a1_1 a2 a3 = some r) : Do E0 (.fn 41 [.b a0, .a [.i .u64 a1_0, .i .u64 a1_1], .i .i64 a2, .b a3] [] (.t [.i .u64 r.1, .i .u8 r.2]) []) := by
  obtain ⟨ih0, ih1, ih2, ih3, ih4, ih5, ih6⟩ := round_Round.does_l (a0 := a0) (a1_0 := a1_0) (a1_1 := a1_1) (a2 := a2) (a3 := a3) k
  refine fn_wpl Tryd.func41 rfl (Q := (round_Round.Q a0 a1_0 a1_1 a2 a3 r)) (fun s h => h) ?_
  unfold round_Round.f at H
  simp only [Tryd.ntmps41, List.length, List.replicate, Nat.reduceAdd, Nat.reduceSub, List.cons_append, List.nil_append]
  refine w_seq ?_
  refine wR fun K hK => ?_
  refine g_box rfl rfl rfl (by rfl) (gU ?_)
  refine g_as rfl rfl (gT ?_)
  refine g_as rfl rfl (gT ?_)
  refine g_nil (hK _ _ _ ?_)
  refine k_seq ?_
  refine w_seq ?_
  refine wR fun K hK => ?_
  refine g_mv rfl rfl (gT ?_)
  refine g_min rfl rfl rfl rfl (m := mn _ _) rfl (gT ?_)
  refine g_max rfl rfl rfl rfl (m := mx _ _) rfl (gT ?_)
  refine g_as rfl rfl (gT ?_)
  refine g_nil (hK _ _ _ ?_)
  refine k_seq ?_
  refine w_seq ?_
  refine w_seq ?_
  refine wR fun K hK => ?_
  refine g_lda rfl rfl ag68 sz68 rfl rfl (Nat.le_of_ble_eq_true rfl) (gT ?_)
  obtain ⟨q1, hq1, H⟩ := bnd H
  refine g_cs [] rfl rfl (by rfl) Tryd.func52 rfl (by decide) (wide_Wide_Zero.does hq1) ⟨Nat.le_of_ble_eq_true rfl, Nat.le_of_ble_eq_true rfl⟩ ?_; refine gC ?_
  refine g_nil (hK _ _ _ ?_)
  refine k_seq ?_
  rcases its H with ⟨c2, H⟩ | ⟨c2, H⟩
  · have c2b : q1 = true := c2; try simp only [c2b, nrm]
    refine w_cond rfl (fun _ => ?_) (fun h => Bool.noConfusion h)
    refine w_seq ?_
    refine w_seq ?_
    refine wR fun K hK => ?_
    refine g_mv rfl rfl (gT ?_)
    refine g_un rfl rfl rfl rfl (gT ?_)
    refine g_nil (hK _ _ _ ?_)
    refine k_seq ?_
    rcases its H with ⟨c3, H⟩ | ⟨c3, H⟩
    · have c3b : a3 = true := c3; try simp only [c3b, nrm]
      refine w_cond rfl (fun h => Bool.noConfusion h) (fun _ => ?_)
      refine w_skip ?_
      refine k_seq ?_
      refine w_seq ?_
      refine wR fun K hK => ?_
      refine g_mv rfl rfl (gT ?_)
      obtain ⟨q4, hq4, H⟩ := bnd H
      refine g_cs [] rfl rfl (by rfl) Tryd.func53 rfl (by decide) (word_Make.does hq4) ⟨Nat.le_of_ble_eq_true rfl, Nat.le_of_ble_eq_true rfl⟩ ?_; refine gC ?_
      refine g_as rfl rfl (gT ?_)
      refine g_as rfl rfl (gT ?_)
      refine g_nil (hK _ _ _ ?_)
      refine k_seq ?_
      refine w_ret ?_
      refine fin_wp (τ := []) rfl (by decide) ?_; rw [← Option.some.inj H]; simp only [Tryd.f41]; exact gF
    · have c3b : a3 = false := Bool.eq_false_iff.mpr c3; try simp only [c3b, nrm]
      refine w_cond rfl (fun _ => ?_) (fun h => Bool.noConfusion h)
      refine w_seq ?_
      refine wR fun K hK => ?_
      refine g_mv rfl rfl (gT ?_)
      obtain ⟨q5, hq5, H⟩ := bnd H
      refine g_cs [] rfl rfl (by rfl) Tryd.func53 rfl (by decide) (word_Make.does hq5) ⟨Nat.le_of_ble_eq_true rfl, Nat.le_of_ble_eq_true rfl⟩ ?_; refine gC ?_
      refine g_as rfl rfl (gT ?_)
      refine g_as rfl rfl (gT ?_)
      refine g_nil (hK _ _ _ ?_)
      refine k_seq ?_
      refine w_ret ?_
      refine fin_wp (τ := []) rfl (by decide) ?_; rw [← Option.some.inj H]; simp only [Tryd.f41]; exact gF
  · have c2b : q1 = false := Bool.eq_false_iff.mpr c2; try simp only [c2b, nrm]
    refine w_cond rfl (fun h => Bool.noConfusion h) (fun _ => ?_)
    refine w_skip ?_
    refine k_seq ?_
    refine w_seq ?_
    refine wR fun K hK => ?_
    refine g_lda rfl rfl ag68 sz68 rfl rfl (Nat.le_of_ble_eq_true rfl) (gT ?_)
    obtain ⟨q6, hq6, H⟩ := bnd H
    refine g_cs [] rfl rfl (by rfl) Tryd.func56 rfl (by decide) (wide_Wide_Len.does hq6) ⟨Nat.le_of_ble_eq_true rfl, Nat.le_of_ble_eq_true rfl⟩ ?_; refine gC ?_
    refine g_bin rfl rfl rfl rfl rfl (gT ?_)
    refine g_as rfl rfl (gT ?_)
    refine g_nil (hK _ _ _ ?_)
    refine k_seq ?_
    refine w_seq ?_
    refine wR fun K hK => ?_
    refine g_mv rfl rfl (gT ?_)
    refine g_lda rfl rfl ag68 sz68 rfl rfl (Nat.le_of_ble_eq_true rfl) (gT ?_)
    obtain ⟨q7, hq7, H⟩ := bnd H
    refine g_cs [] rfl rfl (by rfl) Tryd.func56 rfl (by decide) (wide_Wide_Len.does hq7) ⟨Nat.le_of_ble_eq_true rfl, Nat.le_of_ble_eq_true rfl⟩ ?_; refine gC ?_
    refine g_bin rfl rfl rfl rfl rfl (gT ?_)
    refine g_bin rfl rfl rfl rfl rfl (gT ?_)
    refine g_as rfl rfl (gT ?_)
    refine g_nil (hK _ _ _ ?_)
    refine k_seq ?_
    refine w_seq ?_
    refine w_seq ?_
    refine wR fun K hK => ?_
    refine g_mv rfl rfl (gT ?_)
    refine g_mv rfl rfl (gT ?_)
    refine g_bin rfl rfl rfl rfl rfl (gT ?_)
    refine g_bin rfl rfl rfl rfl rfl (gT ?_)
    refine g_nil (hK _ _ _ ?_)
    refine k_seq ?_
    rcases its H with ⟨c8, H⟩ | ⟨c8, H⟩
    · have c8b := decide_eq_true c8; try simp only [c8b, nrm]
      refine w_cond rfl (fun _ => ?_) (fun h => Bool.noConfusion h)
      refine wR fun K hK => ?_
      refine g_mv rfl rfl (gT ?_)
      refine g_bin rfl rfl rfl rfl rfl (gT ?_)
      refine g_as rfl rfl (gT ?_)
      refine g_nil (hK _ _ _ ?_)
      refine k_wk (σ := [0]) [0, 1, 0, 1, 4, 0] rfl (by decide) rfl ?_; refine gC ?_
      exact gI (ih0 a0 (mx (-100000) (mn a2 100000)) a3 (wrap64 ((-1074) - (mx (-100000) (mn a2 100000)))) (decide ((wrap64 ((mx (-100000) (mn a2 100000)) + q7)) < (-1021))) a1_0 a1_1 r H)
    · have c8b := decide_eq_false c8; try simp only [c8b, nrm]
      refine w_cond rfl (fun h => Bool.noConfusion h) (fun _ => ?_)
      refine w_skip ?_
      refine k_wk (σ := [0]) [0, 1, 0, 1, 4, 0] rfl (by decide) rfl ?_; refine gC ?_
      exact gI (ih0 a0 (mx (-100000) (mn a2 100000)) a3 (wrap64 (q6 - 53)) (decide ((wrap64 ((mx (-100000) (mn a2 100000)) + q7)) < (-1021))) a1_0 a1_1 r H)

set_option maxHeartbeats 8000000 in
set_option maxRecDepth 100000 in
theorem more_Scale.does_l {a0 : Int} {a1 : Int} (k : Nat) : (∀ (a_0 : Int) (n_1 : Int) (t_14 : Bool) (r : Int × Int), more_Scale.j0 k a_0 n_1 t_14 = some r → kont E0 (more_Scale.Q a0 a1 r) (frs (bodyOf Tryd.f22) [1, 0, 1, 0, 1, 1, 0, 1] []) .normal ⟨[.i .u64 a_0, .i .i64 n_1, .u, .u, .u, .u, .u, .u, .u, .u, .u, .u, .u, .u, .b t_14, .u, .u, .u, .u, .u, .u, .u, .u, .u, .u, .u, .u, .u, .u, .u, .u, .u, .u, .u, .u], ofL [], 0, 0⟩) := by
  induction k with
  | zero => exact fun _ _ _ r h => by simp [more_Scale.j0] at h
  | succ k ih =>
    have ih0 := ih
    refine ?_
    · intro a_0 n_1 t_14 r H
      unfold more_Scale.j0 at H
      simp only [bodyOf, Tryd.f22, frs, sub, if_true, if_false, Nat.one_ne_zero]
      refine k_seq ?_
      rcases its H with ⟨c6, H⟩ | ⟨c6, H⟩
      · have c6b : t_14 = true := c6; try simp only [c6b, nrm]
        refine w_cond rfl (fun _ => ?_) (fun h => Bool.noConfusion h)
        refine w_seq ?_
        refine wR fun K hK => ?_
        refine g_mv rfl rfl (gT ?_)
        refine g_as rfl rfl (gT ?_)
        refine g_as rfl rfl (gT ?_)
        refine g_nil (hK _ _ _ ?_)
        refine k_seq ?_
        refine w_ret ?_
        refine fin_wp (τ := []) rfl (by decide) ?_; rw [← Option.some.inj H]; simp only [Tryd.f22]; exact gF
      · have c6b : t_14 = false := Bool.eq_false_iff.mpr c6; try simp only [c6b, nrm]
        refine w_cond rfl (fun h => Bool.noConfusion h) (fun _ => ?_)
        refine w_skip ?_
        refine k_block ?_
        refine k_seq ?_
        refine w_seq ?_
        refine wR fun K hK => ?_
        refine g_mv rfl rfl (gT ?_)
        obtain ⟨q7, hq7, H⟩ := bnd H
        refine g_cs [] rfl rfl (by rfl) Tryd.func25 rfl (by decide) (word_Parts.does hq7) ⟨Nat.le_of_ble_eq_true rfl, Nat.le_of_ble_eq_true rfl⟩ ?_; refine gC ?_
        refine g_mv rfl rfl (gT ?_)
        refine g_ext rfl rfl rfl (Nat.le_of_ble_eq_true rfl) (gT ?_)
        refine g_ext rfl rfl rfl (Nat.le_of_ble_eq_true rfl) (gT ?_)
        refine g_as rfl rfl (gT ?_)
        refine g_as rfl rfl (gT ?_)
        refine g_nil (hK _ _ _ ?_)
        refine k_seq ?_
        refine w_seq ?_
        refine wR fun K hK => ?_
        refine g_mv rfl rfl (gT ?_)
        obtain ⟨q8, hq8, H⟩ := bnd H
        refine g_cs [] rfl rfl (by rfl) Tryd.func27 rfl (by decide) (word_Neg.does hq8) ⟨Nat.le_of_ble_eq_true rfl, Nat.le_of_ble_eq_true rfl⟩ ?_; refine gC ?_
        refine g_mv rfl rfl (gT ?_)
        refine g_bd rfl rfl zr68 Tryd.underlying68 (pl := [(0, 1), (1, 1)]) (by kernel_rfl) ?_; refine gB ?_
        refine g_mv rfl rfl (gT ?_)
        refine g_mv rfl rfl (gT ?_)
        refine g_min rfl rfl rfl rfl (m := mn _ _) rfl (gT ?_)
        refine g_max rfl rfl rfl rfl (m := mx _ _) rfl (gT ?_)
        refine g_bin rfl rfl rfl rfl rfl (gT ?_)
        obtain ⟨q9, hq9, H⟩ := bnd H
        refine g_cs [] rfl rfl (by rfl) Tryd.func41 rfl (by decide) (round_Round.does hq9) ⟨Nat.le_of_ble_eq_true rfl, Nat.le_of_ble_eq_true rfl⟩ ?_; refine gC ?_
        refine g_ext rfl rfl rfl (Nat.le_of_ble_eq_true rfl) (gT ?_)
        refine g_ext rfl rfl rfl (Nat.le_of_ble_eq_true rfl) (gT ?_)
        refine g_as rfl rfl (gT ?_)
        refine g_as rfl rfl (gT ?_)
        refine g_nil (hK _ _ _ ?_)
        refine k_seq ?_
        refine w_ret ?_
        refine fin_wp (τ := []) rfl (by decide) ?_; rw [← Option.some.inj H]; simp only [Tryd.f22]; exact gF
set_option maxHeartbeats 8000000 in
set_option maxRecDepth 100000 in
theorem more_Scale.does {k : Nat} {a0 : Int} {a1 : Int} {r : Int × Int} (H : more_Scale.f k a0 a1 = some r) : Do E0 (.fn 22 [.i .u64 a0, .i .i64 a1] [] (.t [.i .u64 r.1, .i .u8 r.2]) []) := by
  obtain ih0 := more_Scale.does_l (a0 := a0) (a1 := a1) k
  refine fn_wpl Tryd.func22 rfl (Q := (more_Scale.Q a0 a1 r)) (fun s h => h) ?_
  unfold more_Scale.f at H
  simp only [Tryd.ntmps22, List.length, List.replicate, Nat.reduceAdd, Nat.reduceSub, List.cons_append, List.nil_append]
  refine w_seq ?_
  refine wR fun K hK => ?_
  refine g_as rfl rfl (gT ?_)
  refine g_as rfl rfl (gT ?_)
  refine g_nil (hK _ _ _ ?_)
  refine k_seq ?_
  refine w_seq ?_
  refine w_seq ?_
  refine wR fun K hK => ?_
  refine g_mv rfl rfl (gT ?_)
  obtain ⟨q1, hq1, H⟩ := bnd H
  refine g_cs [] rfl rfl (by rfl) Tryd.func28 rfl (by decide) (word_Kind.does hq1) ⟨Nat.le_of_ble_eq_true rfl, Nat.le_of_ble_eq_true rfl⟩ ?_; refine gC ?_
  refine g_nil (hK _ _ _ ?_)
  refine k_seq ?_
  refine w_block ?_
  refine w_seq ?_
  refine wR fun K hK => ?_
  refine g_bin rfl rfl rfl rfl rfl (gT ?_)
  refine g_as rfl rfl (gT ?_)
  refine g_nil (hK _ _ _ ?_)
  refine k_seq ?_
  rcases its H with ⟨c2, H⟩ | ⟨c2, H⟩
  · have c2b := beq_iff_eq.mpr c2; have c2n := bne_eq_false_iff_eq.mpr c2; try simp only [c2b, c2n, nrm]
    refine w_cond rfl (fun _ => ?_) (fun h => Bool.noConfusion h)
    refine w_seq ?_
    refine w_seq ?_
    refine wR fun K hK => ?_
    refine g_mv rfl rfl (gT ?_)
    obtain ⟨q3, hq3, H⟩ := bnd H
    refine g_cs [] rfl rfl (by rfl) Tryd.func37 rfl (by decide) (word_Signals.does hq3) ⟨Nat.le_of_ble_eq_true rfl, Nat.le_of_ble_eq_true rfl⟩ ?_; refine gC ?_
    refine g_nil (hK _ _ _ ?_)
    refine k_seq ?_
    rcases its H with ⟨c4, H⟩ | ⟨c4, H⟩
    · have c4b : q3 = true := c4; try simp only [c4b, nrm]
      refine w_cond rfl (fun _ => ?_) (fun h => Bool.noConfusion h)
      refine w_seq ?_
      refine wR fun K hK => ?_
      refine g_as rfl rfl (gT ?_)
      refine g_as rfl rfl (gT ?_)
      refine g_nil (hK _ _ _ ?_)
      refine k_seq ?_
      refine w_ret ?_
      refine fin_wp (τ := []) rfl (by decide) ?_; rw [← Option.some.inj H]; simp only [Tryd.f22]; exact gF
    · have c4b : q3 = false := Bool.eq_false_iff.mpr c4; try simp only [c4b, nrm]
      refine w_cond rfl (fun h => Bool.noConfusion h) (fun _ => ?_)
      refine w_skip ?_
      refine k_seq ?_
      refine w_seq ?_
      refine wR fun K hK => ?_
      refine g_as rfl rfl (gT ?_)
      refine g_as rfl rfl (gT ?_)
      refine g_nil (hK _ _ _ ?_)
      refine k_seq ?_
      refine w_ret ?_
      refine fin_wp (τ := []) rfl (by decide) ?_; rw [← Option.some.inj H]; simp only [Tryd.f22]; exact gF
  · have c2b := beq_eq_false_iff_ne.mpr c2; have c2n := bne_iff_ne.mpr c2; try simp only [c2b, c2n, nrm]
    refine w_cond rfl (fun h => Bool.noConfusion h) (fun _ => ?_)
    refine w_seq ?_
    refine w_seq ?_
    refine wR fun K hK => ?_
    refine g_bin rfl rfl rfl rfl rfl (gT ?_)
    refine g_as rfl rfl (gT ?_)
    refine g_nil (hK _ _ _ ?_)
    refine k_seq ?_
    rcases its H with ⟨c5, H⟩ | ⟨c5, H⟩
    · have c5b := beq_iff_eq.mpr c5; have c5n := bne_eq_false_iff_eq.mpr c5; try simp only [c5b, c5n, nrm]
      refine w_cond rfl (fun _ => ?_) (fun h => Bool.noConfusion h)
      refine w_skip ?_
      refine k_wk (σ := []) [0, 0, 12] rfl (by decide) rfl ?_; refine gC ?_
      exact gI (ih0 a0 a1 true r H)
    · have c5b := beq_eq_false_iff_ne.mpr c5; have c5n := bne_iff_ne.mpr c5; try simp only [c5b, c5n, nrm]
      refine w_cond rfl (fun h => Bool.noConfusion h) (fun _ => ?_)
      refine wR fun K hK => ?_
      refine g_bin rfl rfl rfl rfl rfl (gT ?_)
      refine g_as rfl rfl (gT ?_)
      refine g_nil (hK _ _ _ ?_)
      refine k_wk (σ := []) [0, 0, 12] rfl (by decide) rfl ?_; refine gC ?_
      exact gI (ih0 a0 a1 (q1 == 1) r H)

set_option maxHeartbeats 8000000 in
set_option maxRecDepth 100000 in
theorem vec_Unit.does_l {l0 : List Int} {a1 : Int} (k : Nat) : (∀ (e_1 : Int) (h0 : List Int) (t_13 : List Int) (t_14 : Int) (t_15 : Int) (r : (List Int)), vec_Unit.l0 k e_1 h0 t_13 t_14 t_15 = some r → wk_ E0 (vec_Unit.Q l0 a1 r) (frs (bodyOf Tryd.f18) [1, 1, 1, 0, 1, 0] []) (sub (bodyOf Tryd.f18) [1, 1, 1, 0, 1, 0]) ⟨[.u, .i .i64 e_1, .u, .u, .u, .s (some (0, 0)) h0.length, .u, .u, .u, .u, .u, .u, .u, .r (t_13.map (V.i .u64)) t_13.length true, .i .i64 t_14, .i .i64 t_15, .u, .u, .u, .u, .u, .u, .u, .u, .u, .u, .u, .u, .u, .u, .u, .u], ofL [.row (h0.map (V.i .u64)) 2 1 true true none], 1, 0⟩) := by
  induction k with
  | zero => exact fun _ _ _ _ _ r h => by simp [vec_Unit.l0] at h
  | succ k ih =>
    have ih0 := ih
    refine ?_
    · intro e_1 h0 t_13 t_14 t_15 r H
      unfold vec_Unit.l0 at H
      simp only [bodyOf, Tryd.f18, frs, sub, if_true, if_false, Nat.one_ne_zero]
      refine w_loop ?_
      refine w_seq ?_
      refine wR fun K hK => ?_
      refine g_bin rfl rfl rfl rfl rfl (gT ?_)
      refine g_nil (hK _ _ _ ?_)
      refine k_seq ?_
      refine w_seq ?_
      rcases its H with ⟨c1, H⟩ | ⟨c1, H⟩
      · have c1b := decide_eq_true c1; try simp only [c1b, nrm]
        refine w_cond rfl (fun _ => ?_) (fun h => Bool.noConfusion h)
        refine w_skip ?_
        refine k_seq ?_
        refine w_seq ?_
        refine w_block ?_
        refine w_seq ?_
        refine wR fun K hK => ?_
        obtain ⟨c2, H⟩ := it1 H
        obtain ⟨c3, H⟩ := it1 H
        refine g_ixr rfl rfl Tryd.underlying22 sz28 rfl rfl (by first | assumption | omega) (by first | assumption | omega | (simp only [List.length_set, List.length_replicate] at *; omega)) (gT ?_)
        refine g_ldq rfl rfl ag28 sz28 rfl (by first | assumption | omega) (gT ?_)
        refine g_as rfl rfl (gT ?_)
        refine g_nil (hK _ _ _ ?_)
        refine k_seq ?_
        refine w_seq ?_
        refine wR fun K hK => ?_
        refine g_mv rfl rfl (gT ?_)
        refine g_mv rfl rfl (gT ?_)
        refine g_un rfl rfl rfl rfl (gT ?_)
        obtain ⟨q4, hq4, H⟩ := bnd H
        refine g_cs [] rfl rfl (by rfl) Tryd.func22 rfl (by decide) (more_Scale.does hq4) ⟨Nat.le_of_ble_eq_true rfl, Nat.le_of_ble_eq_true rfl⟩ ?_; refine gC ?_
        refine g_mv rfl rfl (gT ?_)
        refine g_ext rfl rfl rfl (Nat.le_of_ble_eq_true rfl) (gT ?_)
        refine g_ext rfl rfl rfl (Nat.le_of_ble_eq_true rfl) (gT ?_)
        refine g_as rfl rfl (gT ?_)
        refine g_as rfl rfl (gT ?_)
        refine g_nil (hK _ _ _ ?_)
        refine k_seq ?_
        refine wR fun K hK => ?_
        refine g_mv rfl rfl (gT ?_)
        refine g_mv rfl rfl (gT ?_)
        refine g_bsl (k := .u64) (xs := [q4.1]) rfl rfl Tryd.underlying22 sz28 zr28 (by decide) rfl rfl rfl (gU ?_)
        obtain ⟨c5, H⟩ := it1 H
        refine g_aps rfl rfl Tryd.underlying22 Tryd.underlying22 sz28 by28 zr28 rfl rfl rfl rfl rfl rfl (by unfold limit; omega) (by omega) ?_; refine gN ?_
        refine g_as rfl rfl (gT ?_)
        refine g_nil (hK _ _ _ ?_)
        refine k_block ?_
        refine k_seq ?_
        refine wR fun K hK => ?_
        refine g_bin rfl rfl rfl rfl rfl (gT ?_)
        refine g_mv rfl rfl (gT ?_)
        refine g_nil (hK _ _ _ ?_)
        refine k_loop ?_
        refine w_wk (σ := [65]) [1, 3, 7, 0, 0] rfl (by decide) ?_; refine gC ?_
        exact gI (ih0 e_1 (h0 ++ ([q4.1] : List Int)) t_13 t_14 (wrap64 (t_15 + 1)) r H)
      · have c1b := decide_eq_false c1; try simp only [c1b, nrm]
        refine w_cond rfl (fun h => Bool.noConfusion h) (fun _ => ?_)
        refine w_exit rfl ?_
        refine k_seq ?_
        refine w_seq ?_
        refine wR fun K hK => ?_
        refine g_mv rfl rfl (gT ?_)
        refine g_as rfl rfl (gT ?_)
        refine g_nil (hK _ _ _ ?_)
        refine k_seq ?_
        refine w_ret ?_
        refine fin_wp (τ := [0]) rfl (by decide) ?_; rw [← Option.some.inj H]; simp only [Tryd.f18]; exact gF
set_option maxHeartbeats 8000000 in
set_option maxRecDepth 100000 in
theorem vec_Unit.does {k : Nat} {l0 : List Int} {a1 : Int} {r : (List Int)} (H : vec_Unit.f k l0 a1 = some r) : Do E0 (.fn 18 [.r (l0.map (V.i .u64)) l0.length true, .i .i64 a1] [] (.s (some (0, 0)) r.length) [.row (r.map (V.i .u64)) 2 1 true true none]) := by
  obtain ih0 := vec_Unit.does_l (l0 := l0) (a1 := a1) k
  refine fn_wpl Tryd.func18 rfl (Q := (vec_Unit.Q l0 a1 r)) (fun s h => h) ?_
  unfold vec_Unit.f at H
  simp only [Tryd.ntmps18, List.length, List.replicate, Nat.reduceAdd, Nat.reduceSub, List.cons_append, List.nil_append]
  refine w_seq ?_
  refine wR fun K hK => ?_
  refine g_as rfl rfl (gT ?_)
  refine g_nil (hK _ _ _ ?_)
  refine k_seq ?_
  refine w_seq ?_
  refine wR fun K hK => ?_
  refine g_as rfl rfl (gT ?_)
  refine g_nil (hK _ _ _ ?_)
  refine k_seq ?_
  refine w_seq ?_
  refine wR fun K hK => ?_
  refine g_mv rfl rfl (gT ?_)
  refine g_min rfl rfl rfl rfl (m := mn _ _) rfl (gT ?_)
  refine g_max rfl rfl rfl rfl (m := mx _ _) rfl (gT ?_)
  refine g_as rfl rfl (gT ?_)
  refine g_nil (hK _ _ _ ?_)
  refine k_seq ?_
  refine w_seq ?_
  refine w_seq ?_
  refine wR fun K hK => ?_
  refine g_mv rfl rfl (gT ?_)
  refine g_len_r rfl rfl Tryd.underlying22 rfl (gT ?_)
  refine g_mv rfl rfl (gT ?_)
  refine g_nil (hK _ _ _ ?_)
  refine k_seq ?_
  refine w_block ?_
  refine w_less (.at 5 [] 2 1 rfl rfl) ?_; simp only [nrmx, nrm, List.set_cons_zero, List.set_cons_succ, Nat.reduceAdd]
  refine w_wk (σ := [36]) [1, 3, 7, 0, 0] rfl (by decide) ?_; refine gC ?_
  exact gI (ih0 (mx (-20000) (mn a1 20000)) ([] : List Int) l0 (l0.length : Int) 0 r H)

set_option maxHeartbeats 8000000 in
set_option maxRecDepth 100000 in
theorem soft_nan.does_l {l0 : List Int} (k : Nat) : (∀ (f_5 : Int) (is_6 : Bool) (t_9 : List Int) (t_10 : Int) (t_11 : Int) (r : Int × Int × Bool), soft_nan.l0 k f_5 is_6 t_9 t_10 t_11 = some r → wk_ E0 (soft_nan.Q l0 r) (frs (bodyOf Tryd.f48) [1, 1, 1, 0, 1, 0] []) (sub (bodyOf Tryd.f48) [1, 1, 1, 0, 1, 0]) ⟨[.u, .u, .u, .u, .u, .i .u8 f_5, .b is_6, .u, .u, .r (t_9.map (V.i .u64)) t_9.length true, .i .i64 t_10, .i .i64 t_11, .u, .u, .u, .u, .u, .u, .u, .u, .u, .u, .u], ofL [], 0, 0⟩) := by
  induction k with
  | zero => exact fun _ _ _ _ _ r h => by simp [soft_nan.l0] at h
  | succ k ih =>
    have ih0 := ih
    refine ?_
    · intro f_5 is_6 t_9 t_10 t_11 r H
      unfold soft_nan.l0 at H
      simp only [bodyOf, Tryd.f48, frs, sub, if_true, if_false, Nat.one_ne_zero]
      refine w_loop ?_
      refine w_seq ?_
      refine wR fun K hK => ?_
      refine g_bin rfl rfl rfl rfl rfl (gT ?_)
      refine g_nil (hK _ _ _ ?_)
      refine k_seq ?_
      refine w_seq ?_
      rcases its H with ⟨c1, H⟩ | ⟨c1, H⟩
      · have c1b := decide_eq_true c1; try simp only [c1b, nrm]
        refine w_cond rfl (fun _ => ?_) (fun h => Bool.noConfusion h)
        refine w_skip ?_
        refine k_seq ?_
        refine w_seq ?_
        refine w_block ?_
        refine w_seq ?_
        refine wR fun K hK => ?_
        obtain ⟨c2, H⟩ := it1 H
        obtain ⟨c3, H⟩ := it1 H
        refine g_ixr rfl rfl Tryd.underlying22 sz28 rfl rfl (by first | assumption | omega) (by first | assumption | omega | (simp only [List.length_set, List.length_replicate] at *; omega)) (gT ?_)
        refine g_ldq rfl rfl ag28 sz28 rfl (by first | assumption | omega) (gT ?_)
        refine g_as rfl rfl (gT ?_)
        refine g_nil (hK _ _ _ ?_)
        refine k_seq ?_
        refine w_seq ?_
        refine wR fun K hK => ?_
        refine g_mv rfl rfl (gT ?_)
        obtain ⟨q4, hq4, H⟩ := bnd H
        refine g_cs [] rfl rfl (by rfl) Tryd.func28 rfl (by decide) (word_Kind.does hq4) ⟨Nat.le_of_ble_eq_true rfl, Nat.le_of_ble_eq_true rfl⟩ ?_; refine gC ?_
        refine g_bin rfl rfl rfl rfl rfl (gT ?_)
        refine g_nil (hK _ _ _ ?_)
        refine k_seq ?_
        rcases its H with ⟨c5, H⟩ | ⟨c5, H⟩
        · have c5b := beq_iff_eq.mpr c5; have c5n := bne_eq_false_iff_eq.mpr c5; try simp only [c5b, c5n, nrm]
          refine w_cond rfl (fun _ => ?_) (fun h => Bool.noConfusion h)
          refine w_seq ?_
          refine wR fun K hK => ?_
          refine g_as rfl rfl (gT ?_)
          refine g_nil (hK _ _ _ ?_)
          refine k_seq ?_
          refine w_seq ?_
          refine wR fun K hK => ?_
          refine g_mv rfl rfl (gT ?_)
          obtain ⟨q6, hq6, H⟩ := bnd H
          refine g_cs [] rfl rfl (by rfl) Tryd.func37 rfl (by decide) (word_Signals.does hq6) ⟨Nat.le_of_ble_eq_true rfl, Nat.le_of_ble_eq_true rfl⟩ ?_; refine gC ?_
          refine g_nil (hK _ _ _ ?_)
          refine k_seq ?_
          rcases its H with ⟨c7, H⟩ | ⟨c7, H⟩
          · have c7b : q6 = true := c7; try simp only [c7b, nrm]
            refine w_cond rfl (fun _ => ?_) (fun h => Bool.noConfusion h)
            refine wR fun K hK => ?_
            refine g_as rfl rfl (gT ?_)
            refine g_nil (hK _ _ _ ?_)
            refine k_block ?_
            refine k_seq ?_
            refine wR fun K hK => ?_
            refine g_bin rfl rfl rfl rfl rfl (gT ?_)
            refine g_mv rfl rfl (gT ?_)
            refine g_nil (hK _ _ _ ?_)
            refine k_loop ?_
            refine w_wk (σ := []) [5, 0, 2, 0, 0] rfl (by decide) ?_; refine gC ?_
            exact gI (ih0 16 true t_9 t_10 (wrap64 (t_11 + 1)) r H)
          · have c7b : q6 = false := Bool.eq_false_iff.mpr c7; try simp only [c7b, nrm]
            refine w_cond rfl (fun h => Bool.noConfusion h) (fun _ => ?_)
            refine w_skip ?_
            refine k_block ?_
            refine k_seq ?_
            refine wR fun K hK => ?_
            refine g_bin rfl rfl rfl rfl rfl (gT ?_)
            refine g_mv rfl rfl (gT ?_)
            refine g_nil (hK _ _ _ ?_)
            refine k_loop ?_
            refine w_wk (σ := []) [5, 0, 2, 0, 0] rfl (by decide) ?_; refine gC ?_
            exact gI (ih0 f_5 true t_9 t_10 (wrap64 (t_11 + 1)) r H)
        · have c5b := beq_eq_false_iff_ne.mpr c5; have c5n := bne_iff_ne.mpr c5; try simp only [c5b, c5n, nrm]
          refine w_cond rfl (fun h => Bool.noConfusion h) (fun _ => ?_)
          refine w_skip ?_
          refine k_block ?_
          refine k_seq ?_
          refine wR fun K hK => ?_
          refine g_bin rfl rfl rfl rfl rfl (gT ?_)
          refine g_mv rfl rfl (gT ?_)
          refine g_nil (hK _ _ _ ?_)
          refine k_loop ?_
          refine w_wk (σ := []) [5, 0, 2, 0, 0] rfl (by decide) ?_; refine gC ?_
          exact gI (ih0 f_5 is_6 t_9 t_10 (wrap64 (t_11 + 1)) r H)
      · have c1b := decide_eq_false c1; try simp only [c1b, nrm]
        refine w_cond rfl (fun h => Bool.noConfusion h) (fun _ => ?_)
        refine w_exit rfl ?_
        refine k_seq ?_
        refine w_seq ?_
        refine wR fun K hK => ?_
        refine g_mv rfl rfl (gT ?_)
        refine g_mv rfl rfl (gT ?_)
        refine g_as rfl rfl (gT ?_)
        refine g_as rfl rfl (gT ?_)
        refine g_as rfl rfl (gT ?_)
        refine g_nil (hK _ _ _ ?_)
        refine k_seq ?_
        refine w_ret ?_
        refine fin_wp (τ := []) rfl (by decide) ?_; rw [← Option.some.inj H]; simp only [Tryd.f48]; exact gF
set_option maxHeartbeats 8000000 in
set_option maxRecDepth 100000 in
theorem soft_nan.does {k : Nat} {l0 : List Int} {r : Int × Int × Bool} (H : soft_nan.f k l0 = some r) : Do E0 (.fn 48 [.r (l0.map (V.i .u64)) l0.length true] [] (.t [.i .u64 r.1, .i .u8 r.2.1, .b r.2.2]) []) := by
  obtain ih0 := soft_nan.does_l (l0 := l0) k
  refine fn_wpl Tryd.func48 rfl (Q := (soft_nan.Q l0 r)) (fun s h => h) ?_
  unfold soft_nan.f at H
  simp only [Tryd.ntmps48, List.length, List.replicate, Nat.reduceAdd, Nat.reduceSub, List.cons_append, List.nil_append]
  refine w_seq ?_
  refine wR fun K hK => ?_
  refine g_as rfl rfl (gT ?_)
  refine g_as rfl rfl (gT ?_)
  refine g_as rfl rfl (gT ?_)
  refine g_nil (hK _ _ _ ?_)
  refine k_seq ?_
  refine w_seq ?_
  refine wR fun K hK => ?_
  refine g_as rfl rfl (gT ?_)
  refine g_nil (hK _ _ _ ?_)
  refine k_seq ?_
  refine w_seq ?_
  refine wR fun K hK => ?_
  refine g_as rfl rfl (gT ?_)
  refine g_nil (hK _ _ _ ?_)
  refine k_seq ?_
  refine w_seq ?_
  refine w_seq ?_
  refine wR fun K hK => ?_
  refine g_mv rfl rfl (gT ?_)
  refine g_len_r rfl rfl Tryd.underlying22 rfl (gT ?_)
  refine g_mv rfl rfl (gT ?_)
  refine g_nil (hK _ _ _ ?_)
  refine k_seq ?_
  refine w_block ?_
  refine w_wk (σ := []) [5, 0, 2, 0, 0] rfl (by decide) ?_; refine gC ?_
  exact gI (ih0 0 false l0 (l0.length : Int) 0 r H)

set_option maxHeartbeats 8000000 in
set_option maxRecDepth 100000 in
theorem bits_Mul64.does {a0 : Int} {a1 : Int} {r : Int × Int} (H : bits_Mul64.f a0 a1 = some r) : Do E0 (.fn 60 [.i .u64 a0, .i .u64 a1] [] (.t [.i .u64 r.1, .i .u64 r.2]) []) := by
  refine fn_wpl Tryd.func60 rfl (Q := (bits_Mul64.Q a0 a1 r)) (fun s h => h) ?_
  unfold bits_Mul64.f at H
  simp only [Tryd.ntmps60, List.length, List.replicate, Nat.reduceAdd, Nat.reduceSub, List.cons_append, List.nil_append]
  refine w_seq ?_
  refine wR fun K hK => ?_
  refine g_as rfl rfl (gT ?_)
  refine g_as rfl rfl (gT ?_)
  refine g_nil (hK _ _ _ ?_)
  refine k_seq ?_
  refine w_seq ?_
  refine wR fun K hK => ?_
  refine g_mv rfl rfl (gT ?_)
  refine g_bin rfl rfl rfl rfl rfl (gT ?_)
  refine g_as rfl rfl (gT ?_)
  refine g_nil (hK _ _ _ ?_)
  refine k_seq ?_
  refine w_seq ?_
  refine wR fun K hK => ?_
  refine g_mv rfl rfl (gT ?_)
  refine g_shrc (p := 4294967296) rfl rfl rfl rfl (by decide) (by rfl) (gT ?_)
  refine g_as rfl rfl (gT ?_)
  refine g_nil (hK _ _ _ ?_)
  refine k_seq ?_
  refine w_seq ?_
  refine wR fun K hK => ?_
  refine g_mv rfl rfl (gT ?_)
  refine g_bin rfl rfl rfl rfl rfl (gT ?_)
  refine g_as rfl rfl (gT ?_)
  refine g_nil (hK _ _ _ ?_)
  refine k_seq ?_
  refine w_seq ?_
  refine wR fun K hK => ?_
  refine g_mv rfl rfl (gT ?_)
  refine g_shrc (p := 4294967296) rfl rfl rfl rfl (by decide) (by rfl) (gT ?_)
  refine g_as rfl rfl (gT ?_)
  refine g_nil (hK _ _ _ ?_)
  refine k_seq ?_
  refine w_seq ?_
  refine wR fun K hK => ?_
  refine g_mv rfl rfl (gT ?_)
  refine g_mv rfl rfl (gT ?_)
  refine g_bin rfl rfl rfl rfl rfl (gT ?_)
  refine g_as rfl rfl (gT ?_)
  refine g_nil (hK _ _ _ ?_)
  refine k_seq ?_
  refine w_seq ?_
  refine wR fun K hK => ?_
  refine g_mv rfl rfl (gT ?_)
  refine g_mv rfl rfl (gT ?_)
  refine g_bin rfl rfl rfl rfl rfl (gT ?_)
  refine g_mv rfl rfl (gT ?_)
  refine g_shrc (p := 4294967296) rfl rfl rfl rfl (by decide) (by rfl) (gT ?_)
  refine g_bin rfl rfl rfl rfl rfl (gT ?_)
  refine g_as rfl rfl (gT ?_)
  refine g_nil (hK _ _ _ ?_)
  refine k_seq ?_
  refine w_seq ?_
  refine wR fun K hK => ?_
  refine g_mv rfl rfl (gT ?_)
  refine g_bin rfl rfl rfl rfl rfl (gT ?_)
  refine g_as rfl rfl (gT ?_)
  refine g_nil (hK _ _ _ ?_)
  refine k_seq ?_
  refine w_seq ?_
  refine wR fun K hK => ?_
  refine g_mv rfl rfl (gT ?_)
  refine g_shrc (p := 4294967296) rfl rfl rfl rfl (by decide) (by rfl) (gT ?_)
  refine g_as rfl rfl (gT ?_)
  refine g_nil (hK _ _ _ ?_)
  refine k_seq ?_
  refine w_seq ?_
  refine wR fun K hK => ?_
  refine g_mv rfl rfl (gT ?_)
  refine g_mv rfl rfl (gT ?_)
  refine g_mv rfl rfl (gT ?_)
  refine g_bin rfl rfl rfl rfl rfl (gT ?_)
  refine g_bin rfl rfl rfl rfl rfl (gT ?_)
  refine g_as rfl rfl (gT ?_)
  refine g_nil (hK _ _ _ ?_)
  refine k_seq ?_
  refine w_seq ?_
  refine wR fun K hK => ?_
  refine g_mv rfl rfl (gT ?_)
  refine g_mv rfl rfl (gT ?_)
  refine g_bin rfl rfl rfl rfl rfl (gT ?_)
  refine g_mv rfl rfl (gT ?_)
  refine g_bin rfl rfl rfl rfl rfl (gT ?_)
  refine g_mv rfl rfl (gT ?_)
  refine g_shrc (p := 4294967296) rfl rfl rfl rfl (by decide) (by rfl) (gT ?_)
  refine g_bin rfl rfl rfl rfl rfl (gT ?_)
  refine g_as rfl rfl (gT ?_)
  refine g_nil (hK _ _ _ ?_)
  refine k_seq ?_
  refine w_seq ?_
  refine wR fun K hK => ?_
  refine g_mv rfl rfl (gT ?_)
  refine g_mv rfl rfl (gT ?_)
  refine g_bin rfl rfl rfl rfl rfl (gT ?_)
  refine g_as rfl rfl (gT ?_)
  refine g_nil (hK _ _ _ ?_)
  refine k_seq ?_
  refine w_ret ?_
  refine fin_wp (τ := []) rfl (by decide) ?_; rw [← Option.some.inj H]; simp only [Tryd.f60]; exact gF

set_option maxHeartbeats 8000000 in
set_option maxRecDepth 100000 in
theorem wide_Mul.does {a0 : Int} {a1 : Int} {r : Int × Int} (H : wide_Mul.f a0 a1 = some r) : Do E0 (.fn 54 [.i .u64 a0, .i .u64 a1] [] (.a [.i .u64 r.1, .i .u64 r.2]) []) := by
  refine fn_wpl Tryd.func54 rfl (Q := (wide_Mul.Q a0 a1 r)) (fun s h => h) ?_
  unfold wide_Mul.f at H
  simp only [Tryd.ntmps54, List.length, List.replicate, Nat.reduceAdd, Nat.reduceSub, List.cons_append, List.nil_append]
  refine w_seq ?_
  refine wR fun K hK => ?_
  refine g_alloc rfl rfl zr68 (gU ?_)
  refine g_nil (hK _ _ _ ?_)
  refine k_seq ?_
  refine w_seq ?_
  refine wR fun K hK => ?_
  refine g_mv rfl rfl (gT ?_)
  refine g_mv rfl rfl (gT ?_)
  obtain ⟨q1, hq1, H⟩ := bnd H
  refine g_cs [] rfl rfl (by rfl) Tryd.func60 rfl (by decide) (bits_Mul64.does hq1) ⟨Nat.le_of_ble_eq_true rfl, Nat.le_of_ble_eq_true rfl⟩ ?_; refine gC ?_
  refine g_mv rfl rfl (gT ?_)
  refine g_ext rfl rfl rfl (Nat.le_of_ble_eq_true rfl) (gT ?_)
  refine g_ext rfl rfl rfl (Nat.le_of_ble_eq_true rfl) (gT ?_)
  refine g_as rfl rfl (gT ?_)
  refine g_as rfl rfl (gT ?_)
  refine g_nil (hK _ _ _ ?_)
  refine k_seq ?_
  refine w_seq ?_
  refine wR fun K hK => ?_
  refine g_mv rfl rfl (gT ?_)
  refine g_mv rfl rfl (gT ?_)
  refine g_bd rfl rfl zr68 Tryd.underlying68 (pl := [(0, 1), (1, 1)]) (by kernel_rfl) ?_; refine gB ?_
  refine g_st rfl rfl sz68 rfl rfl rfl (by rfl) (Nat.le_of_ble_eq_true rfl) (gU ?_)
  refine g_nil (hK _ _ _ ?_)
  refine k_seq ?_
  refine w_ret ?_
  refine fin_wp (τ := []) rfl (by decide) ?_; rw [← Option.some.inj H]; simp only [Tryd.f54, ag68, sz68, nrm, nrmw, nrmc, nrme, nrmo, nrml, nrmb, nrmx, Nat.reduceEqDiff, Nat.reduceBEq, Nat.zero_add, Nat.add_zero, Nat.mul_one, List.length_cons, List.length_nil, List.length_map, List.length_set, List.length_replicate, List.drop_zero, List.drop_succ_cons, List.drop_nil, List.take_zero, List.take_succ_cons, List.take_nil, Nat.le_refl, if_true, if_false, Option.any_none, Option.any_some, List.contains_nil, Bool.not_false, Bool.or_true, Bool.true_or, Bool.or_false, Bool.false_or, Bool.and_true, Bool.true_and, Bool.and_self, reduceCtorEq, beq_self_eq_true, List.map_cons, List.map_nil, List.append_nil, List.nil_append, List.contains_cons, List.filter_cons, List.filter_nil, List.cons_append, Bool.false_eq_true, true_and, and_true, List.getElem_toArray, List.getElem_cons_zero, List.getElem_cons_succ, Nat.reduceAdd, Nat.reduceMul, Nat.reduceLT, Nat.reduceSub, Nat.reduceLeDiff]; try (first | rfl | exact ⟨rfl, trivial⟩ | exact ⟨rfl, rfl⟩)

set_option maxHeartbeats 8000000 in
set_option maxRecDepth 100000 in
theorem soft_Mul.does_l {a0 : Int} {a1 : Int} (k : Nat) : (∀ (a_0 : Int) (b_1 : Int) (neg_9 : Bool) (x_10 : Int) (y_11 : Int) (t_36 : Bool) (r : Int × Int), soft_Mul.j0 k a_0 b_1 neg_9 x_10 y_11 t_36 = some r → kont E0 (soft_Mul.Q a0 a1 r) (frs (bodyOf Tryd.f36) [1, 1, 1, 1, 0, 0, 0] []) .normal ⟨[.i .u64 a_0, .i .u64 b_1, .u, .u, .u, .u, .u, .u, .u, .b neg_9, .i .i64 x_10, .i .i64 y_11, .u, .u, .u, .u, .u, .u, .u, .u, .u, .u, .u, .u, .u, .u, .u, .u, .u, .u, .u, .u, .u, .u, .u, .u, .b t_36, .u, .u, .u, .u, .u, .u, .u, .u, .u, .u, .u, .u, .u, .u, .u, .u, .u, .u, .u, .u, .u, .u, .u, .u, .u, .u, .u, .u, .u, .u, .u, .u, .u, .u, .u, .u, .u, .u, .u, .u, .u, .u, .u], ofL [], 0, 0⟩) ∧
    (∀ (a_0 : Int) (b_1 : Int) (neg_9 : Bool) (t_51 : Bool) (r : Int × Int), soft_Mul.j1 k a_0 b_1 neg_9 t_51 = some r → kont E0 (soft_Mul.Q a0 a1 r) (frs (bodyOf Tryd.f36) [1, 1, 1, 1, 0, 0, 1, 1, 0] []) .normal ⟨[.i .u64 a_0, .i .u64 b_1, .u, .u, .u, .u, .u, .u, .u, .b neg_9, .u, .u, .u, .u, .u, .u, .u, .u, .u, .u, .u, .u, .u, .u, .u, .u, .u, .u, .u, .u, .u, .u, .u, .u, .u, .u, .u, .u, .u, .u, .u, .u, .u, .u, .u, .u, .u, .u, .u, .u, .u, .b t_51, .u, .u, .u, .u, .u, .u, .u, .u, .u, .u, .u, .u, .u, .u, .u, .u, .u, .u, .u, .u, .u, .u, .u, .u, .u, .u, .u, .u], ofL [], 0, 0⟩) := by
  induction k with
  | zero => exact ⟨fun _ _ _ _ _ _ r h => by simp [soft_Mul.j0] at h, fun _ _ _ _ r h => by simp [soft_Mul.j1] at h⟩
  | succ k ih =>
    obtain ⟨ih0, ih1⟩ := ih
    refine ⟨?_, ?_⟩
    · intro a_0 b_1 neg_9 x_10 y_11 t_36 r H
      unfold soft_Mul.j0 at H
      simp only [bodyOf, Tryd.f36, frs, sub, if_true, if_false, Nat.one_ne_zero]
      refine k_seq ?_
      rcases its H with ⟨c11, H⟩ | ⟨c11, H⟩
      · have c11b : t_36 = true := c11; try simp only [c11b, nrm]
        refine w_cond rfl (fun _ => ?_) (fun h => Bool.noConfusion h)
        refine w_seq ?_
        refine wR fun K hK => ?_
        refine g_as rfl rfl (gT ?_)
        refine g_as rfl rfl (gT ?_)
        refine g_nil (hK _ _ _ ?_)
        refine k_seq ?_
        refine w_ret ?_
        refine fin_wp (τ := []) rfl (by decide) ?_; rw [← Option.some.inj H]; simp only [Tryd.f36]; exact gF
      · have c11b : t_36 = false := Bool.eq_false_iff.mpr c11; try simp only [c11b, nrm]
        refine w_cond rfl (fun h => Bool.noConfusion h) (fun _ => ?_)
        refine w_seq ?_
        refine wR fun K hK => ?_
        refine g_mv rfl rfl (gT ?_)
        refine g_bin rfl rfl rfl rfl rfl (gT ?_)
        refine g_mv rfl rfl (gT ?_)
        rcases its H with ⟨c12, H⟩ | ⟨c12, H⟩
        · have c12b := beq_iff_eq.mpr c12; have c12n := bne_eq_false_iff_eq.mpr c12; try simp only [c12b, c12n, nrm]
          refine g_sk rfl rfl (gT ?_)
          refine g_sk rfl rfl (gT ?_)
          refine g_pick rfl rfl rfl (gT ?_)
          refine g_as rfl rfl (gT ?_)
          refine g_nil (hK _ _ _ ?_)
          refine k_wk (σ := []) [0, 0, 7, 41] rfl (by decide) rfl ?_; refine gC ?_
          exact gI (ih1 a_0 b_1 neg_9 true r H)
        · have c12b := beq_eq_false_iff_ne.mpr c12; have c12n := bne_iff_ne.mpr c12; try simp only [c12b, c12n, nrm]
          refine g_mv rfl rfl (gT ?_)
          refine g_bin rfl rfl rfl rfl rfl (gT ?_)
          refine g_pick rfl rfl rfl (gT ?_)
          refine g_as rfl rfl (gT ?_)
          refine g_nil (hK _ _ _ ?_)
          refine k_wk (σ := []) [0, 0, 7, 41] rfl (by decide) rfl ?_; refine gC ?_
          exact gI (ih1 a_0 b_1 neg_9 (y_11 == 4) r H)
    · intro a_0 b_1 neg_9 t_51 r H
      unfold soft_Mul.j1 at H
      simp only [bodyOf, Tryd.f36, frs, sub, if_true, if_false, Nat.one_ne_zero]
      refine k_seq ?_
      rcases its H with ⟨c13, H⟩ | ⟨c13, H⟩
      · have c13b : t_51 = true := c13; try simp only [c13b, nrm]
        refine w_cond rfl (fun _ => ?_) (fun h => Bool.noConfusion h)
        refine w_seq ?_
        refine wR fun K hK => ?_
        refine g_mv rfl rfl (gT ?_)
        obtain ⟨q14, hq14, H⟩ := bnd H
        refine g_cs [] rfl rfl (by rfl) Tryd.func53 rfl (by decide) (word_Make.does hq14) ⟨Nat.le_of_ble_eq_true rfl, Nat.le_of_ble_eq_true rfl⟩ ?_; refine gC ?_
        refine g_as rfl rfl (gT ?_)
        refine g_as rfl rfl (gT ?_)
        refine g_nil (hK _ _ _ ?_)
        refine k_seq ?_
        refine w_ret ?_
        refine fin_wp (τ := []) rfl (by decide) ?_; rw [← Option.some.inj H]; simp only [Tryd.f36]; exact gF
      · have c13b : t_51 = false := Bool.eq_false_iff.mpr c13; try simp only [c13b, nrm]
        refine w_cond rfl (fun h => Bool.noConfusion h) (fun _ => ?_)
        refine w_skip ?_
        refine k_block ?_
        refine k_seq ?_
        refine w_seq ?_
        refine wR fun K hK => ?_
        refine g_mv rfl rfl (gT ?_)
        obtain ⟨q15, hq15, H⟩ := bnd H
        refine g_cs [] rfl rfl (by rfl) Tryd.func25 rfl (by decide) (word_Parts.does hq15) ⟨Nat.le_of_ble_eq_true rfl, Nat.le_of_ble_eq_true rfl⟩ ?_; refine gC ?_
        refine g_mv rfl rfl (gT ?_)
        refine g_ext rfl rfl rfl (Nat.le_of_ble_eq_true rfl) (gT ?_)
        refine g_ext rfl rfl rfl (Nat.le_of_ble_eq_true rfl) (gT ?_)
        refine g_as rfl rfl (gT ?_)
        refine g_as rfl rfl (gT ?_)
        refine g_nil (hK _ _ _ ?_)
        refine k_seq ?_
        refine w_seq ?_
        refine wR fun K hK => ?_
        refine g_mv rfl rfl (gT ?_)
        obtain ⟨q16, hq16, H⟩ := bnd H
        refine g_cs [] rfl rfl (by rfl) Tryd.func25 rfl (by decide) (word_Parts.does hq16) ⟨Nat.le_of_ble_eq_true rfl, Nat.le_of_ble_eq_true rfl⟩ ?_; refine gC ?_
        refine g_mv rfl rfl (gT ?_)
        refine g_ext rfl rfl rfl (Nat.le_of_ble_eq_true rfl) (gT ?_)
        refine g_ext rfl rfl rfl (Nat.le_of_ble_eq_true rfl) (gT ?_)
        refine g_as rfl rfl (gT ?_)
        refine g_as rfl rfl (gT ?_)
        refine g_nil (hK _ _ _ ?_)
        refine k_seq ?_
        refine w_seq ?_
        refine wR fun K hK => ?_
        refine g_mv rfl rfl (gT ?_)
        refine g_mv rfl rfl (gT ?_)
        refine g_mv rfl rfl (gT ?_)
        obtain ⟨q17, hq17, H⟩ := bnd H
        refine g_cs [] rfl rfl (by rfl) Tryd.func54 rfl (by decide) (wide_Mul.does hq17) ⟨Nat.le_of_ble_eq_true rfl, Nat.le_of_ble_eq_true rfl⟩ ?_; refine gC ?_
        refine g_mv rfl rfl (gT ?_)
        refine g_mv rfl rfl (gT ?_)
        refine g_bin rfl rfl rfl rfl rfl (gT ?_)
        obtain ⟨q18, hq18, H⟩ := bnd H
        refine g_cs [] rfl rfl (by rfl) Tryd.func41 rfl (by decide) (round_Round.does hq18) ⟨Nat.le_of_ble_eq_true rfl, Nat.le_of_ble_eq_true rfl⟩ ?_; refine gC ?_
        refine g_ext rfl rfl rfl (Nat.le_of_ble_eq_true rfl) (gT ?_)
        refine g_ext rfl rfl rfl (Nat.le_of_ble_eq_true rfl) (gT ?_)
        refine g_as rfl rfl (gT ?_)
        refine g_as rfl rfl (gT ?_)
        refine g_nil (hK _ _ _ ?_)
        refine k_seq ?_
        refine w_ret ?_
        refine fin_wp (τ := []) rfl (by decide) ?_; rw [← Option.some.inj H]; simp only [Tryd.f36]; exact gF
set_option maxHeartbeats 8000000 in
set_option maxRecDepth 100000 in
theorem soft_Mul.does {k : Nat} {a0 : Int} {a1 : Int} {r : Int × Int} (H : soft_Mul.f k a0 a1 = some r) : Do E0 (.fn 36 [.i .u64 a0, .i .u64 a1] [] (.t [.i .u64 r.1, .i .u8 r.2]) []) := by
  obtain ⟨ih0, ih1⟩ := soft_Mul.does_l (a0 := a0) (a1 := a1) k
  refine fn_wpl Tryd.func36 rfl (Q := (soft_Mul.Q a0 a1 r)) (fun s h => h) ?_
  unfold soft_Mul.f at H
  simp only [Tryd.ntmps36, List.length, List.replicate, Nat.reduceAdd, Nat.reduceSub, List.cons_append, List.nil_append]
  refine w_seq ?_
  refine wR fun K hK => ?_
  refine g_as rfl rfl (gT ?_)
  refine g_as rfl rfl (gT ?_)
  refine g_nil (hK _ _ _ ?_)
  refine k_seq ?_
  refine w_seq ?_
  refine w_seq ?_
  refine wR fun K hK => ?_
  refine g_mv rfl rfl (gT ?_)
  refine g_mv rfl rfl (gT ?_)
  refine g_bsl (k := .u64) (xs := [a0, a1]) rfl rfl Tryd.underlying22 sz28 zr28 (by decide) rfl rfl rfl (gU ?_)
  obtain ⟨q1, hq1, H⟩ := bnd H
  refine g_cs [] rfl rfl (by rfl) Tryd.func48 rfl (by decide) (soft_nan.does hq1) ⟨Nat.le_of_ble_eq_true rfl, Nat.le_of_ble_eq_true rfl⟩ ?_; refine gC ?_
  refine g_mv rfl rfl (gT ?_)
  refine g_ext rfl rfl rfl (Nat.le_of_ble_eq_true rfl) (gT ?_)
  refine g_ext rfl rfl rfl (Nat.le_of_ble_eq_true rfl) (gT ?_)
  refine g_ext rfl rfl rfl (Nat.le_of_ble_eq_true rfl) (gT ?_)
  refine g_as rfl rfl (gT ?_)
  refine g_as rfl rfl (gT ?_)
  refine g_as rfl rfl (gT ?_)
  refine g_nil (hK _ _ _ ?_)
  refine k_seq ?_
  refine w_seq ?_
  refine wR fun K hK => ?_
  refine g_mv rfl rfl (gT ?_)
  refine g_nil (hK _ _ _ ?_)
  refine k_seq ?_
  rcases its H with ⟨c2, H⟩ | ⟨c2, H⟩
  · have c2b : q1.2.2 = true := c2; try simp only [c2b, nrm]
    refine w_cond rfl (fun _ => ?_) (fun h => Bool.noConfusion h)
    refine w_seq ?_
    refine wR fun K hK => ?_
    refine g_mv rfl rfl (gT ?_)
    refine g_mv rfl rfl (gT ?_)
    refine g_as rfl rfl (gT ?_)
    refine g_as rfl rfl (gT ?_)
    refine g_nil (hK _ _ _ ?_)
    refine k_seq ?_
    refine w_ret ?_
    refine fin_wp (τ := []) rfl (by decide) ?_; rw [← Option.some.inj H]; simp only [Tryd.f36]; exact gF
  · have c2b : q1.2.2 = false := Bool.eq_false_iff.mpr c2; try simp only [c2b, nrm]
    refine w_cond rfl (fun h => Bool.noConfusion h) (fun _ => ?_)
    refine w_skip ?_
    refine k_seq ?_
    refine w_seq ?_
    refine wR fun K hK => ?_
    refine g_mv rfl rfl (gT ?_)
    obtain ⟨q3, hq3, H⟩ := bnd H
    refine g_cs [] rfl rfl (by rfl) Tryd.func27 rfl (by decide) (word_Neg.does hq3) ⟨Nat.le_of_ble_eq_true rfl, Nat.le_of_ble_eq_true rfl⟩ ?_; refine gC ?_
    refine g_mv rfl rfl (gT ?_)
    obtain ⟨q4, hq4, H⟩ := bnd H
    refine g_cs [] rfl rfl (by rfl) Tryd.func27 rfl (by decide) (word_Neg.does hq4) ⟨Nat.le_of_ble_eq_true rfl, Nat.le_of_ble_eq_true rfl⟩ ?_; refine gC ?_
    refine g_neb rfl rfl Tryd.underlying4 rfl rfl (gT ?_)
    refine g_as rfl rfl (gT ?_)
    refine g_nil (hK _ _ _ ?_)
    refine k_seq ?_
    refine w_seq ?_
    refine wR fun K hK => ?_
    refine g_mv rfl rfl (gT ?_)
    obtain ⟨q5, hq5, H⟩ := bnd H
    refine g_cs [] rfl rfl (by rfl) Tryd.func28 rfl (by decide) (word_Kind.does hq5) ⟨Nat.le_of_ble_eq_true rfl, Nat.le_of_ble_eq_true rfl⟩ ?_; refine gC ?_
    refine g_mv rfl rfl (gT ?_)
    obtain ⟨q6, hq6, H⟩ := bnd H
    refine g_cs [] rfl rfl (by rfl) Tryd.func28 rfl (by decide) (word_Kind.does hq6) ⟨Nat.le_of_ble_eq_true rfl, Nat.le_of_ble_eq_true rfl⟩ ?_; refine gC ?_
    refine g_as rfl rfl (gT ?_)
    refine g_as rfl rfl (gT ?_)
    refine g_nil (hK _ _ _ ?_)
    refine k_seq ?_
    refine w_seq ?_
    refine w_block ?_
    refine w_seq ?_
    refine wR fun K hK => ?_
    refine g_mv rfl rfl (gT ?_)
    refine g_bin rfl rfl rfl rfl rfl (gT ?_)
    refine g_mv rfl rfl (gT ?_)
    rcases its H with ⟨c7, H⟩ | ⟨c7, H⟩
    · have c7b := beq_iff_eq.mpr c7; have c7n := bne_eq_false_iff_eq.mpr c7; try simp only [c7b, c7n, nrm]
      refine g_mv rfl rfl (gT ?_)
      refine g_bin rfl rfl rfl rfl rfl (gT ?_)
      refine g_pick rfl rfl rfl (gT ?_)
      refine g_mv rfl rfl (gT ?_)
      rcases its H with ⟨c8, H⟩ | ⟨c8, H⟩
      · have c8b := beq_iff_eq.mpr c8; have c8n := bne_eq_false_iff_eq.mpr c8; try simp only [c8b, c8n, nrm]
        refine g_sk rfl rfl (gT ?_)
        refine g_sk rfl rfl (gT ?_)
        refine g_sk rfl rfl (gT ?_)
        refine g_sk rfl rfl (gT ?_)
        refine g_sk rfl rfl (gT ?_)
        refine g_sk rfl rfl (gT ?_)
        refine g_pick rfl rfl rfl (gT ?_)
        refine g_as rfl rfl (gT ?_)
        refine g_nil (hK _ _ _ ?_)
        refine k_wk (σ := []) [0, 0, 7, 0, 0, 24] rfl (by decide) rfl ?_; refine gC ?_
        exact gI (ih0 a0 a1 (q3 != q4) q5 q6 true r H)
      · have c8b := beq_eq_false_iff_ne.mpr c8; have c8n := bne_iff_ne.mpr c8; try simp only [c8b, c8n, nrm]
        refine g_mv rfl rfl (gT ?_)
        refine g_bin rfl rfl rfl rfl rfl (gT ?_)
        refine g_mv rfl rfl (gT ?_)
        rcases its H with ⟨c9, H⟩ | ⟨c9, H⟩
        · have c9b := beq_iff_eq.mpr c9; have c9n := bne_eq_false_iff_eq.mpr c9; try simp only [c9b, c9n, nrm]
          refine g_mv rfl rfl (gT ?_)
          refine g_bin rfl rfl rfl rfl rfl (gT ?_)
          refine g_pick rfl rfl rfl (gT ?_)
          refine g_pick rfl rfl rfl (gT ?_)
          refine g_as rfl rfl (gT ?_)
          refine g_nil (hK _ _ _ ?_)
          refine k_wk (σ := []) [0, 0, 7, 0, 0, 24] rfl (by decide) rfl ?_; refine gC ?_
          exact gI (ih0 a0 a1 (q3 != q4) q5 q6 (q6 == 4) r H)
        · have c9b := beq_eq_false_iff_ne.mpr c9; have c9n := bne_iff_ne.mpr c9; try simp only [c9b, c9n, nrm]
          refine g_sk rfl rfl (gT ?_)
          refine g_sk rfl rfl (gT ?_)
          refine g_pick rfl rfl rfl (gT ?_)
          refine g_pick rfl rfl rfl (gT ?_)
          refine g_as rfl rfl (gT ?_)
          refine g_nil (hK _ _ _ ?_)
          refine k_wk (σ := []) [0, 0, 7, 0, 0, 24] rfl (by decide) rfl ?_; refine gC ?_
          exact gI (ih0 a0 a1 (q3 != q4) q5 q6 false r H)
    · have c7b := beq_eq_false_iff_ne.mpr c7; have c7n := bne_iff_ne.mpr c7; try simp only [c7b, c7n, nrm]
      refine g_sk rfl rfl (gT ?_)
      refine g_sk rfl rfl (gT ?_)
      refine g_pick rfl rfl rfl (gT ?_)
      refine g_mv rfl rfl (gT ?_)
      refine g_mv rfl rfl (gT ?_)
      refine g_bin rfl rfl rfl rfl rfl (gT ?_)
      refine g_mv rfl rfl (gT ?_)
      rcases its H with ⟨c10, H⟩ | ⟨c10, H⟩
      · have c10b := beq_iff_eq.mpr c10; have c10n := bne_eq_false_iff_eq.mpr c10; try simp only [c10b, c10n, nrm]
        refine g_mv rfl rfl (gT ?_)
        refine g_bin rfl rfl rfl rfl rfl (gT ?_)
        refine g_pick rfl rfl rfl (gT ?_)
        refine g_pick rfl rfl rfl (gT ?_)
        refine g_as rfl rfl (gT ?_)
        refine g_nil (hK _ _ _ ?_)
        refine k_wk (σ := []) [0, 0, 7, 0, 0, 24] rfl (by decide) rfl ?_; refine gC ?_
        exact gI (ih0 a0 a1 (q3 != q4) q5 q6 (q6 == 4) r H)
      · have c10b := beq_eq_false_iff_ne.mpr c10; have c10n := bne_iff_ne.mpr c10; try simp only [c10b, c10n, nrm]
        refine g_sk rfl rfl (gT ?_)
        refine g_sk rfl rfl (gT ?_)
        refine g_pick rfl rfl rfl (gT ?_)
        refine g_pick rfl rfl rfl (gT ?_)
        refine g_as rfl rfl (gT ?_)
        refine g_nil (hK _ _ _ ?_)
        refine k_wk (σ := []) [0, 0, 7, 0, 0, 24] rfl (by decide) rfl ?_; refine gC ?_
        exact gI (ih0 a0 a1 (q3 != q4) q5 q6 false r H)

set_option maxHeartbeats 8000000 in
set_option maxRecDepth 100000 in
theorem soft_Calc_note.does {s0_0 : Int} {a1 : Int} {a2 : Int} {r : Int × Int} (H : soft_Calc_note.f s0_0 a1 a2 = some r) : Do E0 (.fn 34 [.p (some (0, 0)), .i .u64 a1, .i .u8 a2] [.row [.i .u8 s0_0] 0 0 true false none] (.i .u64 r.1) [.row [.i .u8 r.2] 0 0 true false none]) := by
  refine fn_wpl Tryd.func34 rfl (Q := (soft_Calc_note.Q s0_0 a1 a2 r)) (fun s h => h) ?_
  unfold soft_Calc_note.f at H
  simp only [Tryd.ntmps34, List.length, List.replicate, Nat.reduceAdd, Nat.reduceSub, List.cons_append, List.nil_append]
  refine w_seq ?_
  refine wR fun K hK => ?_
  refine g_as rfl rfl (gT ?_)
  refine g_nil (hK _ _ _ ?_)
  refine k_seq ?_
  refine w_seq ?_
  refine w_seq ?_
  refine wR fun K hK => ?_
  refine g_mv rfl rfl (gT ?_)
  refine g_same rfl rfl (c := .b true) (by simp only [nrm]; simp only [binV, sameV, V.same, Go.Rk.Rd.of, Go.Rk.Rd.bind, Tryd.underlying24]; rfl) (gT ?_)
  refine g_nil (hK _ _ _ ?_)
  refine k_seq ?_
  refine w_cond rfl (fun _ => ?_) (fun h => Bool.noConfusion h)
  refine wR fun K hK => ?_
  refine g_mv rfl rfl (gT ?_)
  refine g_nc rfl rfl rfl (gT ?_)
  refine g_fd rfl rfl fa27_0 rfl (gT ?_)
  refine g_ldc rfl rfl ag25 sz25 rfl rfl rfl (gT ?_)
  refine g_mv rfl rfl (gT ?_)
  refine g_bin rfl rfl rfl rfl rfl (gT ?_)
  refine g_nc rfl rfl rfl (gT ?_)
  refine g_fd rfl rfl fa27_0 rfl (gT ?_)
  refine g_st rfl rfl sz25 rfl rfl rfl (by rfl) (Nat.le_of_ble_eq_true rfl) (gU ?_)
  refine g_nil (hK _ _ _ ?_)
  refine k_seq ?_
  refine w_seq ?_
  refine wR fun K hK => ?_
  refine g_mv rfl rfl (gT ?_)
  refine g_as rfl rfl (gT ?_)
  refine g_nil (hK _ _ _ ?_)
  refine k_seq ?_
  refine w_ret ?_
  refine fin_wp (τ := [0]) rfl (by decide) ?_; rw [← Option.some.inj H]; simp only [Tryd.f34]; exact gF

set_option maxHeartbeats 8000000 in
set_option maxRecDepth 100000 in
theorem soft_Calc_Mul.does {k : Nat} {s0_0 : Int} {a1 : Int} {a2 : Int} {r : Int × Int} (H : soft_Calc_Mul.f k s0_0 a1 a2 = some r) : Do E0 (.fn 20 [.p (some (0, 0)), .i .u64 a1, .i .u64 a2] [.row [.i .u8 s0_0] 0 0 true false none] (.i .u64 r.1) [.row [.i .u8 r.2] 0 0 true false none]) := by
  refine fn_wpl Tryd.func20 rfl (Q := (soft_Calc_Mul.Q s0_0 a1 a2 r)) (fun s h => h) ?_
  unfold soft_Calc_Mul.f at H
  simp only [Tryd.ntmps20, List.length, List.replicate, Nat.reduceAdd, Nat.reduceSub, List.cons_append, List.nil_append]
  refine w_seq ?_
  refine wR fun K hK => ?_
  refine g_as rfl rfl (gT ?_)
  refine g_nil (hK _ _ _ ?_)
  refine k_seq ?_
  refine w_seq ?_
  refine wR fun K hK => ?_
  refine g_mv rfl rfl (gT ?_)
  refine g_mv rfl rfl (gT ?_)
  refine g_mv rfl rfl (gT ?_)
  obtain ⟨q1, hq1, H⟩ := bnd H
  refine g_cs [] rfl rfl (by rfl) Tryd.func36 rfl (by decide) (soft_Mul.does hq1) ⟨Nat.le_of_ble_eq_true rfl, Nat.le_of_ble_eq_true rfl⟩ ?_; refine gC ?_
  refine g_ext rfl rfl rfl (Nat.le_of_ble_eq_true rfl) (gT ?_)
  refine g_ext rfl rfl rfl (Nat.le_of_ble_eq_true rfl) (gT ?_)
  obtain ⟨q2, hq2, H⟩ := bnd H
  refine g_cs [0] rfl rfl (by rfl) Tryd.func34 rfl (by decide) (soft_Calc_note.does hq2) ⟨Nat.le_of_ble_eq_true rfl, Nat.le_of_ble_eq_true rfl⟩ ?_; refine gC ?_
  refine g_as rfl rfl (gT ?_)
  refine g_nil (hK _ _ _ ?_)
  refine k_seq ?_
  refine w_ret ?_
  refine fin_wp (τ := [0]) rfl (by decide) ?_; rw [← Option.some.inj H]; simp only [Tryd.f20]; exact gF

set_option maxHeartbeats 8000000 in
set_option maxRecDepth 100000 in
theorem wide_Wide_Sub.does {a0_0 : Int} {a0_1 : Int} {a1_0 : Int} {a1_1 : Int} {r : Int × Int × Bool} (H : wide_Wide_Sub.f a0_0 a0_1 a1_0 a1_1 = some r) : Do E0 (.fn 51 [.a [.i .u64 a0_0, .i .u64 a0_1], .a [.i .u64 a1_0, .i .u64 a1_1]] [] (.t [.a [.i .u64 r.1, .i .u64 r.2.1], .b r.2.2]) []) := by
  refine fn_wpl Tryd.func51 rfl (Q := (wide_Wide_Sub.Q a0_0 a0_1 a1_0 a1_1 r)) (fun s h => h) ?_
  unfold wide_Wide_Sub.f at H
  simp only [Tryd.ntmps51, List.length, List.replicate, Nat.reduceAdd, Nat.reduceSub, List.cons_append, List.nil_append]
  refine w_seq ?_
  refine wR fun K hK => ?_
  refine g_box rfl rfl rfl (by rfl) (gU ?_)
  refine g_box rfl rfl rfl (by rfl) (gU ?_)
  refine g_alloc rfl rfl zr68 (gU ?_)
  refine g_as rfl rfl (gT ?_)
  refine g_nil (hK _ _ _ ?_)
  refine k_seq ?_
  refine w_seq ?_
  refine wR fun K hK => ?_
  refine g_fd rfl rfl fa68_1 rfl (gT ?_)
  refine g_ldc rfl rfl ag28 sz28 rfl rfl rfl (gT ?_)
  refine g_fd rfl rfl fa68_1 rfl (gT ?_)
  refine g_ldc rfl rfl ag28 sz28 rfl rfl rfl (gT ?_)
  obtain ⟨q1, hq1, H⟩ := bnd H
  refine g_ex rfl rfl Tryd.func59 rfl (bits_Sub64.ext hq1) (gT ?_)
  refine g_mv rfl rfl (gT ?_)
  refine g_ext rfl rfl rfl (Nat.le_of_ble_eq_true rfl) (gT ?_)
  refine g_ext rfl rfl rfl (Nat.le_of_ble_eq_true rfl) (gT ?_)
  refine g_as rfl rfl (gT ?_)
  refine g_as rfl rfl (gT ?_)
  refine g_nil (hK _ _ _ ?_)
  refine k_seq ?_
  refine w_seq ?_
  refine wR fun K hK => ?_
  refine g_fd rfl rfl fa68_0 rfl (gT ?_)
  refine g_ldc rfl rfl ag28 sz28 rfl rfl rfl (gT ?_)
  refine g_fd rfl rfl fa68_0 rfl (gT ?_)
  refine g_ldc rfl rfl ag28 sz28 rfl rfl rfl (gT ?_)
  refine g_mv rfl rfl (gT ?_)
  obtain ⟨q2, hq2, H⟩ := bnd H
  refine g_ex rfl rfl Tryd.func59 rfl (bits_Sub64.ext hq2) (gT ?_)
  refine g_mv rfl rfl (gT ?_)
  refine g_ext rfl rfl rfl (Nat.le_of_ble_eq_true rfl) (gT ?_)
  refine g_ext rfl rfl rfl (Nat.le_of_ble_eq_true rfl) (gT ?_)
  refine g_as rfl rfl (gT ?_)
  refine g_as rfl rfl (gT ?_)
  refine g_nil (hK _ _ _ ?_)
  refine k_seq ?_
  refine w_seq ?_
  refine wR fun K hK => ?_
  refine g_mv rfl rfl (gT ?_)
  refine g_mv rfl rfl (gT ?_)
  refine g_bd rfl rfl zr68 Tryd.underlying68 (pl := [(0, 1), (1, 1)]) (by kernel_rfl) ?_; refine gB ?_
  refine g_mv rfl rfl (gT ?_)
  refine g_bin rfl rfl rfl rfl rfl (gT ?_)
  refine g_st rfl rfl sz68 rfl rfl rfl (by rfl) (Nat.le_of_ble_eq_true rfl) (gU ?_)
  refine g_as rfl rfl (gT ?_)
  refine g_nil (hK _ _ _ ?_)
  refine k_seq ?_
  refine w_ret ?_
  refine fin_wp (τ := []) rfl (by decide) ?_; rw [← Option.some.inj H]; simp only [Tryd.f51, ag68, sz68, nrm, nrmw, nrmc, nrme, nrmo, nrml, nrmb, nrmx, Nat.reduceEqDiff, Nat.reduceBEq, Nat.zero_add, Nat.add_zero, Nat.mul_one, List.length_cons, List.length_nil, List.length_map, List.length_set, List.length_replicate, List.drop_zero, List.drop_succ_cons, List.drop_nil, List.take_zero, List.take_succ_cons, List.take_nil, Nat.le_refl, if_true, if_false, Option.any_none, Option.any_some, List.contains_nil, Bool.not_false, Bool.or_true, Bool.true_or, Bool.or_false, Bool.false_or, Bool.and_true, Bool.true_and, Bool.and_self, reduceCtorEq, beq_self_eq_true, List.map_cons, List.map_nil, List.append_nil, List.nil_append, List.contains_cons, List.filter_cons, List.filter_nil, List.cons_append, Bool.false_eq_true, true_and, and_true, List.getElem_toArray, List.getElem_cons_zero, List.getElem_cons_succ, Nat.reduceAdd, Nat.reduceMul, Nat.reduceLT, Nat.reduceSub, Nat.reduceLeDiff]; try (first | rfl | exact ⟨rfl, trivial⟩ | exact ⟨rfl, rfl⟩)

set_option maxHeartbeats 8000000 in
set_option maxRecDepth 100000 in
theorem soft_Add.does_l {a0 : Int} {a1 : Int} (k : Nat) : (∀ (a_0 : Int) (b_1 : Int) (x_9 : Int) (y_10 : Int) (t_37 : Bool) (r : Int × Int), soft_Add.j0 k a_0 b_1 x_9 y_10 t_37 = some r → kont E0 (soft_Add.Q a0 a1 r) (frs (bodyOf Tryd.f35) [1, 1, 1, 0, 0, 0] []) .normal ⟨[.i .u64 a_0, .i .u64 b_1, .u, .u, .u, .u, .u, .u, .u, .i .i64 x_9, .i .i64 y_10, .u, .u, .u, .u, .u, .u, .u, .u, .u, .u, .u, .u, .u, .u, .u, .u, .u, .u, .u, .u, .u, .u, .u, .u, .u, .u, .b t_37, .u, .u, .u, .u, .u, .u, .u, .u, .u, .u, .u, .u, .u, .u, .u, .u, .u, .u, .u, .u, .u, .u, .u, .u, .u, .u, .u, .u, .u, .u, .u, .u, .u, .u, .u, .u, .u, .u, .u, .u, .u, .u, .u, .u, .u, .u, .u, .u, .u, .u, .u, .u, .u, .u, .u, .u, .u, .u, .u, .u, .u, .u, .u, .u, .u, .u, .u, .u, .u, .u, .u, .u, .u, .u, .u, .u, .u, .u, .u, .u, .u, .u, .u, .u, .u, .u, .u, .u, .u, .u, .u, .u, .u, .u, .u, .u, .u, .u, .u, .u, .u, .u, .u, .u, .u, .u, .u, .u, .u, .u, .u, .u, .u, .u, .u], ofL [], 0, 0⟩) ∧
    (∀ (a_0 : Int) (b_1 : Int) (x_9 : Int) (y_10 : Int) (t_57 : Bool) (r : Int × Int), soft_Add.j1 k a_0 b_1 x_9 y_10 t_57 = some r → kont E0 (soft_Add.Q a0 a1 r) (frs (bodyOf Tryd.f35) [1, 1, 1, 0, 0, 1, 1, 1, 1, 1, 1, 0] []) .normal ⟨[.i .u64 a_0, .i .u64 b_1, .u, .u, .u, .u, .u, .u, .u, .i .i64 x_9, .i .i64 y_10, .u, .u, .u, .u, .u, .u, .u, .u, .u, .u, .u, .u, .u, .u, .u, .u, .u, .u, .u, .u, .u, .u, .u, .u, .u, .u, .u, .u, .u, .u, .u, .u, .u, .u, .u, .u, .u, .u, .u, .u, .u, .u, .u, .u, .u, .u, .b t_57, .u, .u, .u, .u, .u, .u, .u, .u, .u, .u, .u, .u, .u, .u, .u, .u, .u, .u, .u, .u, .u, .u, .u, .u, .u, .u, .u, .u, .u, .u, .u, .u, .u, .u, .u, .u, .u, .u, .u, .u, .u, .u, .u, .u, .u, .u, .u, .u, .u, .u, .u, .u, .u, .u, .u, .u, .u, .u, .u, .u, .u, .u, .u, .u, .u, .u, .u, .u, .u, .u, .u, .u, .u, .u, .u, .u, .u, .u, .u, .u, .u, .u, .u, .u, .u, .u, .u, .u, .u, .u, .u, .u, .u, .u, .u], ofL [], 0, 0⟩) ∧
    (∀ (a_0 : Int) (b_1 : Int) (r : Int × Int), soft_Add.j2 k a_0 b_1 = some r → kont E0 (soft_Add.Q a0 a1 r) (frs (bodyOf Tryd.f35) [1, 1, 1, 1, 0, 1] []) .normal ⟨[.i .u64 a_0, .i .u64 b_1, .u, .u, .u, .u, .u, .u, .u, .u, .u, .u, .u, .u, .u, .u, .u, .u, .u, .u, .u, .u, .u, .u, .u, .u, .u, .u, .u, .u, .u, .u, .u, .u, .u, .u, .u, .u, .u, .u, .u, .u, .u, .u, .u, .u, .u, .u, .u, .u, .u, .u, .u, .u, .u, .u, .u, .u, .u, .u, .u, .u, .u, .u, .u, .u, .u, .u, .u, .u, .u, .u, .u, .u, .u, .u, .u, .u, .u, .u, .u, .u, .u, .u, .u, .u, .u, .u, .u, .u, .u, .u, .u, .u, .u, .u, .u, .u, .u, .u, .u, .u, .u, .u, .u, .u, .u, .u, .u, .u, .u, .u, .u, .u, .u, .u, .u, .u, .u, .u, .u, .u, .u, .u, .u, .u, .u, .u, .u, .u, .u, .u, .u, .u, .u, .u, .u, .u, .u, .u, .u, .u, .u, .u, .u, .u, .u, .u, .u, .u, .u, .u, .u], ofL [], 0, 0⟩) ∧
    (∀ (a_0 : Int) (e_12 : Int) (low_17 : Bool) (h0_0 : Int) (h0_1 : Int) (h1_0 : Int) (h1_1 : Int) (r : Int × Int), soft_Add.j3 k a_0 e_12 low_17 h0_0 h0_1 h1_0 h1_1 = some r → kont E0 (soft_Add.Q a0 a1 r) (frs (bodyOf Tryd.f35) [1, 1, 1, 1, 1, 1, 1, 1, 1, 1, 0, 1] []) .normal ⟨[.i .u64 a_0, .u, .u, .u, .u, .u, .u, .u, .u, .u, .u, .u, .i .i64 e_12, .u, .u, .p (some (0, 0)), .p (some (1, 0)), .b low_17, .u, .u, .u, .u, .u, .u, .u, .u, .u, .u, .u, .u, .u, .u, .u, .u, .u, .u, .u, .u, .u, .u, .u, .u, .u, .u, .u, .u, .u, .u, .u, .u, .u, .u, .u, .u, .u, .u, .u, .u, .u, .u, .u, .u, .u, .u, .u, .u, .u, .u, .u, .u, .u, .u, .u, .u, .u, .u, .u, .u, .u, .u, .u, .u, .u, .u, .u, .u, .u, .u, .u, .u, .u, .u, .u, .u, .u, .u, .u, .u, .u, .u, .u, .u, .u, .u, .u, .u, .u, .u, .u, .u, .u, .u, .u, .u, .u, .u, .u, .u, .u, .u, .u, .u, .u, .u, .u, .u, .u, .u, .u, .u, .u, .u, .u, .u, .u, .u, .u, .u, .u, .u, .u, .u, .u, .u, .u, .u, .u, .u, .u, .u, .u, .u, .u], ofL [.row [.i .u64 h0_0, .i .u64 h0_1] 0 0 true true none, .row [.i .u64 h1_0, .i .u64 h1_1] 0 0 true true none], 2, 0⟩) ∧
    (∀ (a_0 : Int) (e_12 : Int) (low_17 : Bool) (t_143 : Bool) (h0_0 : Int) (h0_1 : Int) (r : Int × Int), soft_Add.j4 k a_0 e_12 low_17 t_143 h0_0 h0_1 = some r → kont E0 (soft_Add.Q a0 a1 r) (frs (bodyOf Tryd.f35) [1, 1, 1, 1, 1, 1, 1, 1, 1, 1, 1, 1, 0, 0] []) .normal ⟨[.i .u64 a_0, .u, .u, .u, .u, .u, .u, .u, .u, .u, .u, .u, .i .i64 e_12, .u, .u, .u, .u, .b low_17, .u, .u, .p (some (0, 0)), .u, .u, .u, .u, .u, .u, .u, .u, .u, .u, .u, .u, .u, .u, .u, .u, .u, .u, .u, .u, .u, .u, .u, .u, .u, .u, .u, .u, .u, .u, .u, .u, .u, .u, .u, .u, .u, .u, .u, .u, .u, .u, .u, .u, .u, .u, .u, .u, .u, .u, .u, .u, .u, .u, .u, .u, .u, .u, .u, .u, .u, .u, .u, .u, .u, .u, .u, .u, .u, .u, .u, .u, .u, .u, .u, .u, .u, .u, .u, .u, .u, .u, .u, .u, .u, .u, .u, .u, .u, .u, .u, .u, .u, .u, .u, .u, .u, .u, .u, .u, .u, .u, .u, .u, .u, .u, .u, .u, .u, .u, .u, .u, .u, .u, .u, .u, .u, .u, .u, .u, .u, .u, .b t_143, .u, .u, .u, .u, .u, .u, .u, .u, .u], ofL [.row [.i .u64 h0_0, .i .u64 h0_1] 0 0 true true none], 1, 0⟩) := by
  induction k with
  | zero => exact ⟨fun _ _ _ _ _ r h => by simp [soft_Add.j0] at h, fun _ _ _ _ _ r h => by simp [soft_Add.j1] at h, fun _ _ r h => by simp [soft_Add.j2] at h, fun _ _ _ _ _ _ _ r h => by simp [soft_Add.j3] at h, fun _ _ _ _ _ _ r h => by simp [soft_Add.j4] at h⟩
  | succ k ih =>
    obtain ⟨ih0, ih1, ih2, ih3, ih4⟩ := ih
    refine ⟨?_, ?_, ?_, ?_, ?_⟩
    · intro a_0 b_1 x_9 y_10 t_37 r H
      unfold soft_Add.j0 at H
      simp only [bodyOf, Tryd.f35, frs, sub, if_true, if_false, Nat.one_ne_zero]
      refine k_seq ?_
      rcases its H with ⟨c7, H⟩ | ⟨c7, H⟩
      · have c7b : t_37 = true := c7; try simp only [c7b, nrm]
        refine w_cond rfl (fun _ => ?_) (fun h => Bool.noConfusion h)
        refine w_seq ?_
        refine wR fun K hK => ?_
        refine g_as rfl rfl (gT ?_)
        refine g_as rfl rfl (gT ?_)
        refine g_nil (hK _ _ _ ?_)
        refine k_seq ?_
        refine w_ret ?_
        refine fin_wp (τ := []) rfl (by decide) ?_; rw [← Option.some.inj H]; simp only [Tryd.f35]; exact gF
      · have c7b : t_37 = false := Bool.eq_false_iff.mpr c7; try simp only [c7b, nrm]
        refine w_cond rfl (fun h => Bool.noConfusion h) (fun _ => ?_)
        refine w_seq ?_
        refine wR fun K hK => ?_
        refine g_mv rfl rfl (gT ?_)
        refine g_bin rfl rfl rfl rfl rfl (gT ?_)
        refine g_as rfl rfl (gT ?_)
        refine g_nil (hK _ _ _ ?_)
        refine k_seq ?_
        rcases its H with ⟨c8, H⟩ | ⟨c8, H⟩
        · have c8b := beq_iff_eq.mpr c8; have c8n := bne_eq_false_iff_eq.mpr c8; try simp only [c8b, c8n, nrm]
          refine w_cond rfl (fun _ => ?_) (fun h => Bool.noConfusion h)
          refine w_seq ?_
          refine wR fun K hK => ?_
          refine g_mv rfl rfl (gT ?_)
          refine g_as rfl rfl (gT ?_)
          refine g_as rfl rfl (gT ?_)
          refine g_nil (hK _ _ _ ?_)
          refine k_seq ?_
          refine w_ret ?_
          refine fin_wp (τ := []) rfl (by decide) ?_; rw [← Option.some.inj H]; simp only [Tryd.f35]; exact gF
        · have c8b := beq_eq_false_iff_ne.mpr c8; have c8n := bne_iff_ne.mpr c8; try simp only [c8b, c8n, nrm]
          refine w_cond rfl (fun h => Bool.noConfusion h) (fun _ => ?_)
          refine w_seq ?_
          refine wR fun K hK => ?_
          refine g_mv rfl rfl (gT ?_)
          refine g_bin rfl rfl rfl rfl rfl (gT ?_)
          refine g_as rfl rfl (gT ?_)
          refine g_nil (hK _ _ _ ?_)
          refine k_seq ?_
          rcases its H with ⟨c9, H⟩ | ⟨c9, H⟩
          · have c9b := beq_iff_eq.mpr c9; have c9n := bne_eq_false_iff_eq.mpr c9; try simp only [c9b, c9n, nrm]
            refine w_cond rfl (fun _ => ?_) (fun h => Bool.noConfusion h)
            refine w_seq ?_
            refine wR fun K hK => ?_
            refine g_mv rfl rfl (gT ?_)
            refine g_as rfl rfl (gT ?_)
            refine g_as rfl rfl (gT ?_)
            refine g_nil (hK _ _ _ ?_)
            refine k_seq ?_
            refine w_ret ?_
            refine fin_wp (τ := []) rfl (by decide) ?_; rw [← Option.some.inj H]; simp only [Tryd.f35]; exact gF
          · have c9b := beq_eq_false_iff_ne.mpr c9; have c9n := bne_iff_ne.mpr c9; try simp only [c9b, c9n, nrm]
            refine w_cond rfl (fun h => Bool.noConfusion h) (fun _ => ?_)
            refine w_seq ?_
            refine wR fun K hK => ?_
            refine g_mv rfl rfl (gT ?_)
            refine g_bin rfl rfl rfl rfl rfl (gT ?_)
            refine g_mv rfl rfl (gT ?_)
            rcases its H with ⟨c10, H⟩ | ⟨c10, H⟩
            · have c10b := beq_iff_eq.mpr c10; have c10n := bne_eq_false_iff_eq.mpr c10; try simp only [c10b, c10n, nrm]
              refine g_mv rfl rfl (gT ?_)
              refine g_bin rfl rfl rfl rfl rfl (gT ?_)
              refine g_pick rfl rfl rfl (gT ?_)
              refine g_as rfl rfl (gT ?_)
              refine g_nil (hK _ _ _ ?_)
              refine k_wk (σ := []) [0, 0, 7, 0, 46] rfl (by decide) rfl ?_; refine gC ?_
              exact gI (ih1 a_0 b_1 x_9 y_10 (y_10 == 1) r H)
            · have c10b := beq_eq_false_iff_ne.mpr c10; have c10n := bne_iff_ne.mpr c10; try simp only [c10b, c10n, nrm]
              refine g_sk rfl rfl (gT ?_)
              refine g_sk rfl rfl (gT ?_)
              refine g_pick rfl rfl rfl (gT ?_)
              refine g_as rfl rfl (gT ?_)
              refine g_nil (hK _ _ _ ?_)
              refine k_wk (σ := []) [0, 0, 7, 0, 46] rfl (by decide) rfl ?_; refine gC ?_
              exact gI (ih1 a_0 b_1 x_9 y_10 false r H)
    · intro a_0 b_1 x_9 y_10 t_57 r H
      unfold soft_Add.j1 at H
      simp only [bodyOf, Tryd.f35, frs, sub, if_true, if_false, Nat.one_ne_zero]
      refine k_seq ?_
      rcases its H with ⟨c11, H⟩ | ⟨c11, H⟩
      · have c11b : t_57 = true := c11; try simp only [c11b, nrm]
        refine w_cond rfl (fun _ => ?_) (fun h => Bool.noConfusion h)
        refine w_seq ?_
        refine wR fun K hK => ?_
        refine g_mv rfl rfl (gT ?_)
        refine g_mv rfl rfl (gT ?_)
        refine g_bin rfl rfl rfl rfl rfl (gT ?_)
        refine g_as rfl rfl (gT ?_)
        refine g_as rfl rfl (gT ?_)
        refine g_nil (hK _ _ _ ?_)
        refine k_seq ?_
        refine w_ret ?_
        refine fin_wp (τ := []) rfl (by decide) ?_; rw [← Option.some.inj H]; simp only [Tryd.f35]; exact gF
      · have c11b : t_57 = false := Bool.eq_false_iff.mpr c11; try simp only [c11b, nrm]
        refine w_cond rfl (fun h => Bool.noConfusion h) (fun _ => ?_)
        refine w_seq ?_
        refine wR fun K hK => ?_
        refine g_mv rfl rfl (gT ?_)
        refine g_bin rfl rfl rfl rfl rfl (gT ?_)
        refine g_as rfl rfl (gT ?_)
        refine g_nil (hK _ _ _ ?_)
        refine k_seq ?_
        rcases its H with ⟨c12, H⟩ | ⟨c12, H⟩
        · have c12b := beq_iff_eq.mpr c12; have c12n := bne_eq_false_iff_eq.mpr c12; try simp only [c12b, c12n, nrm]
          refine w_cond rfl (fun _ => ?_) (fun h => Bool.noConfusion h)
          refine w_seq ?_
          refine wR fun K hK => ?_
          refine g_mv rfl rfl (gT ?_)
          refine g_as rfl rfl (gT ?_)
          refine g_as rfl rfl (gT ?_)
          refine g_nil (hK _ _ _ ?_)
          refine k_seq ?_
          refine w_ret ?_
          refine fin_wp (τ := []) rfl (by decide) ?_; rw [← Option.some.inj H]; simp only [Tryd.f35]; exact gF
        · have c12b := beq_eq_false_iff_ne.mpr c12; have c12n := bne_iff_ne.mpr c12; try simp only [c12b, c12n, nrm]
          refine w_cond rfl (fun h => Bool.noConfusion h) (fun _ => ?_)
          refine w_seq ?_
          refine wR fun K hK => ?_
          refine g_mv rfl rfl (gT ?_)
          refine g_bin rfl rfl rfl rfl rfl (gT ?_)
          refine g_as rfl rfl (gT ?_)
          refine g_nil (hK _ _ _ ?_)
          refine k_seq ?_
          rcases its H with ⟨c13, H⟩ | ⟨c13, H⟩
          · have c13b := beq_iff_eq.mpr c13; have c13n := bne_eq_false_iff_eq.mpr c13; try simp only [c13b, c13n, nrm]
            refine w_cond rfl (fun _ => ?_) (fun h => Bool.noConfusion h)
            refine w_seq ?_
            refine wR fun K hK => ?_
            refine g_mv rfl rfl (gT ?_)
            refine g_as rfl rfl (gT ?_)
            refine g_as rfl rfl (gT ?_)
            refine g_nil (hK _ _ _ ?_)
            refine k_seq ?_
            refine w_ret ?_
            refine fin_wp (τ := []) rfl (by decide) ?_; rw [← Option.some.inj H]; simp only [Tryd.f35]; exact gF
          · have c13b := beq_eq_false_iff_ne.mpr c13; have c13n := bne_iff_ne.mpr c13; try simp only [c13b, c13n, nrm]
            refine w_cond rfl (fun h => Bool.noConfusion h) (fun _ => ?_)
            refine w_skip ?_
            refine k_block ?_
            refine k_seq ?_
            refine w_seq ?_
            refine w_seq ?_
            refine wR fun K hK => ?_
            refine g_mv rfl rfl (gT ?_)
            obtain ⟨q14, hq14, H⟩ := bnd H
            refine g_cs [] rfl rfl (by rfl) Tryd.func29 rfl (by decide) (word_Abs.does hq14) ⟨Nat.le_of_ble_eq_true rfl, Nat.le_of_ble_eq_true rfl⟩ ?_; refine gC ?_
            refine g_mv rfl rfl (gT ?_)
            obtain ⟨q15, hq15, H⟩ := bnd H
            refine g_cs [] rfl rfl (by rfl) Tryd.func29 rfl (by decide) (word_Abs.does hq15) ⟨Nat.le_of_ble_eq_true rfl, Nat.le_of_ble_eq_true rfl⟩ ?_; refine gC ?_
            refine g_bin rfl rfl rfl rfl rfl (gT ?_)
            refine g_nil (hK _ _ _ ?_)
            refine k_seq ?_
            rcases its H with ⟨c16, H⟩ | ⟨c16, H⟩
            · have c16b := decide_eq_true c16; try simp only [c16b, nrm]
              refine w_cond rfl (fun _ => ?_) (fun h => Bool.noConfusion h)
              refine wR fun K hK => ?_
              refine g_mv rfl rfl (gT ?_)
              refine g_mv rfl rfl (gT ?_)
              refine g_as rfl rfl (gT ?_)
              refine g_as rfl rfl (gT ?_)
              refine g_nil (hK _ _ _ ?_)
              refine k_wk (σ := []) [0, 0] rfl (by decide) rfl ?_; refine gC ?_
              exact gI (ih2 b_1 a_0 r H)
            · have c16b := decide_eq_false c16; try simp only [c16b, nrm]
              refine w_cond rfl (fun h => Bool.noConfusion h) (fun _ => ?_)
              refine w_skip ?_
              refine k_wk (σ := []) [0, 0] rfl (by decide) rfl ?_; refine gC ?_
              exact gI (ih2 a_0 b_1 r H)
    · intro a_0 b_1 r H
      unfold soft_Add.j2 at H
      simp only [bodyOf, Tryd.f35, frs, sub, if_true, if_false, Nat.one_ne_zero]
      refine k_seq ?_
      refine w_seq ?_
      refine wR fun K hK => ?_
      refine g_mv rfl rfl (gT ?_)
      obtain ⟨q17, hq17, H⟩ := bnd H
      refine g_cs [] rfl rfl (by rfl) Tryd.func25 rfl (by decide) (word_Parts.does hq17) ⟨Nat.le_of_ble_eq_true rfl, Nat.le_of_ble_eq_true rfl⟩ ?_; refine gC ?_
      refine g_mv rfl rfl (gT ?_)
      refine g_ext rfl rfl rfl (Nat.le_of_ble_eq_true rfl) (gT ?_)
      refine g_ext rfl rfl rfl (Nat.le_of_ble_eq_true rfl) (gT ?_)
      refine g_as rfl rfl (gT ?_)
      refine g_as rfl rfl (gT ?_)
      refine g_nil (hK _ _ _ ?_)
      refine k_seq ?_
      refine w_seq ?_
      refine wR fun K hK => ?_
      refine g_mv rfl rfl (gT ?_)
      obtain ⟨q18, hq18, H⟩ := bnd H
      refine g_cs [] rfl rfl (by rfl) Tryd.func25 rfl (by decide) (word_Parts.does hq18) ⟨Nat.le_of_ble_eq_true rfl, Nat.le_of_ble_eq_true rfl⟩ ?_; refine gC ?_
      refine g_mv rfl rfl (gT ?_)
      refine g_ext rfl rfl rfl (Nat.le_of_ble_eq_true rfl) (gT ?_)
      refine g_ext rfl rfl rfl (Nat.le_of_ble_eq_true rfl) (gT ?_)
      refine g_as rfl rfl (gT ?_)
      refine g_as rfl rfl (gT ?_)
      refine g_nil (hK _ _ _ ?_)
      refine k_seq ?_
      refine w_seq ?_
      refine wR fun K hK => ?_
      refine g_mv rfl rfl (gT ?_)
      refine g_bd rfl rfl zr68 Tryd.underlying68 (pl := [(0, 1), (1, 1)]) (by kernel_rfl) ?_; refine gB ?_
      obtain ⟨q19, hq19, H⟩ := bnd H
      refine g_cs [] rfl rfl (by rfl) Tryd.func39 rfl (by decide) (wide_Wide_Left.does hq19) ⟨Nat.le_of_ble_eq_true rfl, Nat.le_of_ble_eq_true rfl⟩ ?_; refine gC ?_
      refine g_alloc rfl rfl zr68 (gU ?_)
      refine g_st rfl rfl sz68 rfl rfl rfl (by rfl) (Nat.le_of_ble_eq_true rfl) (gU ?_)
      refine g_nil (hK _ _ _ ?_)
      refine k_seq ?_
      refine w_seq ?_
      refine wR fun K hK => ?_
      refine g_mv rfl rfl (gT ?_)
      refine g_bd rfl rfl zr68 Tryd.underlying68 (pl := [(0, 1), (1, 1)]) (by kernel_rfl) ?_; refine gB ?_
      obtain ⟨q20, hq20, H⟩ := bnd H
      refine g_cs [] rfl rfl (by rfl) Tryd.func39 rfl (by decide) (wide_Wide_Left.does hq20) ⟨Nat.le_of_ble_eq_true rfl, Nat.le_of_ble_eq_true rfl⟩ ?_; refine gC ?_
      refine g_mv rfl rfl (gT ?_)
      refine g_mv rfl rfl (gT ?_)
      refine g_bin rfl rfl rfl rfl rfl (gT ?_)
      obtain ⟨q21, hq21, H⟩ := bnd H
      refine g_cs [] rfl rfl (by rfl) Tryd.func49 rfl (by decide) (wide_Wide_Right.does hq21) ⟨Nat.le_of_ble_eq_true rfl, Nat.le_of_ble_eq_true rfl⟩ ?_; refine gC ?_
      refine g_mv rfl rfl (gT ?_)
      refine g_ext rfl rfl rfl (Nat.le_of_ble_eq_true rfl) (gT ?_)
      refine g_ext rfl rfl rfl (Nat.le_of_ble_eq_true rfl) (gT ?_)
      refine g_alloc rfl rfl zr68 (gU ?_)
      refine g_st rfl rfl sz68 rfl rfl rfl (by rfl) (Nat.le_of_ble_eq_true rfl) (gU ?_)
      refine g_as rfl rfl (gT ?_)
      refine g_nil (hK _ _ _ ?_)
      refine k_seq ?_
      refine w_seq ?_
      refine w_seq ?_
      refine wR fun K hK => ?_
      refine g_mv rfl rfl (gT ?_)
      obtain ⟨q22, hq22, H⟩ := bnd H
      refine g_cs [] rfl rfl (by rfl) Tryd.func27 rfl (by decide) (word_Neg.does hq22) ⟨Nat.le_of_ble_eq_true rfl, Nat.le_of_ble_eq_true rfl⟩ ?_; refine gC ?_
      refine g_mv rfl rfl (gT ?_)
      obtain ⟨q23, hq23, H⟩ := bnd H
      refine g_cs [] rfl rfl (by rfl) Tryd.func27 rfl (by decide) (word_Neg.does hq23) ⟨Nat.le_of_ble_eq_true rfl, Nat.le_of_ble_eq_true rfl⟩ ?_; refine gC ?_
      refine g_eqb rfl rfl Tryd.underlying4 rfl rfl (gT ?_)
      refine g_nil (hK _ _ _ ?_)
      refine k_seq ?_
      rcases its H with ⟨c24, H⟩ | ⟨c24, H⟩
      · have c24b : (q22 == q23) = true := c24; try simp only [c24b, nrm]
        refine w_cond rfl (fun _ => ?_) (fun h => Bool.noConfusion h)
        refine w_seq ?_
        refine wR fun K hK => ?_
        refine g_lda rfl rfl ag68 sz68 rfl rfl (Nat.le_of_ble_eq_true rfl) (gT ?_)
        refine g_lda rfl rfl ag68 sz68 rfl rfl (Nat.le_of_ble_eq_true rfl) (gT ?_)
        obtain ⟨q25, hq25, H⟩ := bnd H
        refine g_cs [] rfl rfl (by rfl) Tryd.func50 rfl (by decide) (wide_Wide_Add.does hq25) ⟨Nat.le_of_ble_eq_true rfl, Nat.le_of_ble_eq_true rfl⟩ ?_; refine gC ?_
        refine g_mv rfl rfl (gT ?_)
        refine g_ext rfl rfl rfl (Nat.le_of_ble_eq_true rfl) (gT ?_)
        refine g_ext rfl rfl rfl (Nat.le_of_ble_eq_true rfl) (gT ?_)
        refine g_alloc rfl rfl zr68 (gU ?_)
        refine g_st rfl rfl sz68 rfl rfl rfl (by rfl) (Nat.le_of_ble_eq_true rfl) (gU ?_)
        refine g_as rfl rfl (gT ?_)
        refine g_nil (hK _ _ _ ?_)
        refine k_seq ?_
        refine w_seq ?_
        refine wD fun K hK => ?_
        refine g_mv rfl rfl (gT ?_)
        obtain ⟨q26, hq26, H⟩ := bnd H
        refine g_cs [] rfl rfl (by rfl) Tryd.func27 rfl (by decide) (word_Neg.does hq26) ⟨Nat.le_of_ble_eq_true rfl, Nat.le_of_ble_eq_true rfl⟩ ?_; refine gC ?_
        refine g_lda rfl rfl ag68 sz68 rfl rfl (Nat.le_of_ble_eq_true rfl) (gT ?_)
        refine g_mv rfl rfl (gT ?_)
        refine g_bin rfl rfl rfl rfl rfl (gT ?_)
        refine g_mv rfl rfl (gT ?_)
        obtain ⟨q27, hq27, H⟩ := bnd H
        refine g_cs [] rfl rfl (by rfl) Tryd.func41 rfl (by decide) (round_Round.does hq27) ⟨Nat.le_of_ble_eq_true rfl, Nat.le_of_ble_eq_true rfl⟩ ?_; refine gC ?_
        refine g_ext rfl rfl rfl (Nat.le_of_ble_eq_true rfl) (gT ?_)
        refine g_ext rfl rfl rfl (Nat.le_of_ble_eq_true rfl) (gT ?_)
        refine g_as rfl rfl (gT ?_)
        refine g_as rfl rfl (gT ?_)
        refine g_nil (hK _ _ _ (by kernel_rfl) ?_)
        refine k_seq ?_
        refine w_ret ?_
        refine fin_wp (τ := []) rfl (by decide) ?_; rw [← Option.some.inj H]; simp only [Tryd.f35]; exact gF
      · have c24b : (q22 == q23) = false := Bool.eq_false_iff.mpr c24; try simp only [c24b, nrm]
        refine w_cond rfl (fun h => Bool.noConfusion h) (fun _ => ?_)
        refine w_skip ?_
        refine k_seq ?_
        refine w_seq ?_
        refine w_seq ?_
        refine wR fun K hK => ?_
        refine g_mv rfl rfl (gT ?_)
        refine g_nil (hK _ _ _ ?_)
        refine k_seq ?_
        rcases its H with ⟨c28, H⟩ | ⟨c28, H⟩
        · have c28b : q21.2.2 = true := c28; try simp only [c28b, nrm]
          refine w_cond rfl (fun _ => ?_) (fun h => Bool.noConfusion h)
          refine wR fun K hK => ?_
          refine g_lda rfl rfl ag68 sz68 rfl rfl (Nat.le_of_ble_eq_true rfl) (gT ?_)
          refine g_bd rfl rfl zr68 Tryd.underlying68 (pl := [(0, 1), (1, 1)]) (by kernel_rfl) ?_; refine gB ?_
          obtain ⟨q29, hq29, H⟩ := bnd H
          refine g_cs [] rfl rfl (by rfl) Tryd.func50 rfl (by decide) (wide_Wide_Add.does hq29) ⟨Nat.le_of_ble_eq_true rfl, Nat.le_of_ble_eq_true rfl⟩ ?_; refine gC ?_
          refine g_mv rfl rfl (gT ?_)
          refine g_ext rfl rfl rfl (Nat.le_of_ble_eq_true rfl) (gT ?_)
          refine g_ext rfl rfl rfl (Nat.le_of_ble_eq_true rfl) (gT ?_)
          refine g_st rfl rfl sz68 rfl rfl rfl (by rfl) (Nat.le_of_ble_eq_true rfl) (gU ?_)
          refine g_nil (hK _ _ _ ?_)
          refine k_wk (σ := [68, 116]) [0, 11, 2, 0, 0] rfl (by decide) rfl ?_; refine gC ?_
          exact gI (ih3 a_0 q17.2 true q19.1 q19.2 q29.1 q29.2.1 r H)
        · have c28b : q21.2.2 = false := Bool.eq_false_iff.mpr c28; try simp only [c28b, nrm]
          refine w_cond rfl (fun h => Bool.noConfusion h) (fun _ => ?_)
          refine w_skip ?_
          refine k_wk (σ := [68, 116]) [0, 11, 2, 0, 0] rfl (by decide) rfl ?_; refine gC ?_
          exact gI (ih3 a_0 q17.2 false q19.1 q19.2 q21.1 q21.2.1 r H)
    · intro a_0 e_12 low_17 h0_0 h0_1 h1_0 h1_1 r H
      unfold soft_Add.j3 at H
      simp only [bodyOf, Tryd.f35, frs, sub, if_true, if_false, Nat.one_ne_zero]
      refine k_seq ?_
      refine w_seq ?_
      refine wR fun K hK => ?_
      refine g_lda rfl rfl ag68 sz68 rfl rfl (Nat.le_of_ble_eq_true rfl) (gT ?_)
      refine g_lda rfl rfl ag68 sz68 rfl rfl (Nat.le_of_ble_eq_true rfl) (gT ?_)
      obtain ⟨q30, hq30, H⟩ := bnd H
      refine g_cs [] rfl rfl (by rfl) Tryd.func51 rfl (by decide) (wide_Wide_Sub.does hq30) ⟨Nat.le_of_ble_eq_true rfl, Nat.le_of_ble_eq_true rfl⟩ ?_; refine gC ?_
      refine g_mv rfl rfl (gT ?_)
      refine g_ext rfl rfl rfl (Nat.le_of_ble_eq_true rfl) (gT ?_)
      refine g_ext rfl rfl rfl (Nat.le_of_ble_eq_true rfl) (gT ?_)
      refine g_alloc rfl rfl zr68 (gU ?_)
      refine g_st rfl rfl sz68 rfl rfl rfl (by rfl) (Nat.le_of_ble_eq_true rfl) (gU ?_)
      refine g_as rfl rfl (gT ?_)
      refine g_nil (hK _ _ _ ?_)
      refine k_seq ?_
      refine w_seq ?_
      refine w_seq ?_
      refine wR fun K hK => ?_
      refine g_lda rfl rfl ag68 sz68 rfl rfl (Nat.le_of_ble_eq_true rfl) (gT ?_)
      obtain ⟨q31, hq31, H⟩ := bnd H
      refine g_cs [] rfl rfl (by rfl) Tryd.func52 rfl (by decide) (wide_Wide_Zero.does hq31) ⟨Nat.le_of_ble_eq_true rfl, Nat.le_of_ble_eq_true rfl⟩ ?_; refine gC ?_
      refine g_mv rfl rfl (gT ?_)
      rcases its H with ⟨c32, H⟩ | ⟨c32, H⟩
      · have c32b : q31 = true := c32; try simp only [c32b, nrm]
        refine g_mv rfl rfl (gT ?_)
        refine g_un rfl rfl rfl rfl (gT ?_)
        refine g_pick rfl rfl rfl (gT ?_)
        refine g_nil (hK _ _ _ ?_)
        refine k_wk (σ := [26]) [0, 11, 4, 2, 122] rfl (by decide) rfl ?_; refine gC ?_
        exact gI (ih4 a_0 e_12 low_17 (!low_17) q30.1 q30.2.1 r H)
      · have c32b : q31 = false := Bool.eq_false_iff.mpr c32; try simp only [c32b, nrm]
        refine g_sk rfl rfl (gT ?_)
        refine g_sk rfl rfl (gT ?_)
        refine g_pick rfl rfl rfl (gT ?_)
        refine g_nil (hK _ _ _ ?_)
        refine k_wk (σ := [26]) [0, 11, 4, 2, 122] rfl (by decide) rfl ?_; refine gC ?_
        exact gI (ih4 a_0 e_12 low_17 false q30.1 q30.2.1 r H)
    · intro a_0 e_12 low_17 t_143 h0_0 h0_1 r H
      unfold soft_Add.j4 at H
      simp only [bodyOf, Tryd.f35, frs, sub, if_true, if_false, Nat.one_ne_zero]
      refine k_seq ?_
      rcases its H with ⟨c33, H⟩ | ⟨c33, H⟩
      · have c33b : t_143 = true := c33; try simp only [c33b, nrm]
        refine w_cond rfl (fun _ => ?_) (fun h => Bool.noConfusion h)
        refine w_seq ?_
        refine wR fun K hK => ?_
        refine g_as rfl rfl (gT ?_)
        refine g_as rfl rfl (gT ?_)
        refine g_nil (hK _ _ _ ?_)
        refine k_seq ?_
        refine w_ret ?_
        refine fin_wp (τ := []) rfl (by decide) ?_; rw [← Option.some.inj H]; simp only [Tryd.f35]; exact gF
      · have c33b : t_143 = false := Bool.eq_false_iff.mpr c33; try simp only [c33b, nrm]
        refine w_cond rfl (fun h => Bool.noConfusion h) (fun _ => ?_)
        refine w_skip ?_
        refine k_seq ?_
        refine w_seq ?_
        refine wD fun K hK => ?_
        refine g_mv rfl rfl (gT ?_)
        obtain ⟨q34, hq34, H⟩ := bnd H
        refine g_cs [] rfl rfl (by rfl) Tryd.func27 rfl (by decide) (word_Neg.does hq34) ⟨Nat.le_of_ble_eq_true rfl, Nat.le_of_ble_eq_true rfl⟩ ?_; refine gC ?_
        refine g_lda rfl rfl ag68 sz68 rfl rfl (Nat.le_of_ble_eq_true rfl) (gT ?_)
        refine g_mv rfl rfl (gT ?_)
        refine g_bin rfl rfl rfl rfl rfl (gT ?_)
        refine g_mv rfl rfl (gT ?_)
        obtain ⟨q35, hq35, H⟩ := bnd H
        refine g_cs [] rfl rfl (by rfl) Tryd.func41 rfl (by decide) (round_Round.does hq35) ⟨Nat.le_of_ble_eq_true rfl, Nat.le_of_ble_eq_true rfl⟩ ?_; refine gC ?_
        refine g_ext rfl rfl rfl (Nat.le_of_ble_eq_true rfl) (gT ?_)
        refine g_ext rfl rfl rfl (Nat.le_of_ble_eq_true rfl) (gT ?_)
        refine g_as rfl rfl (gT ?_)
        refine g_as rfl rfl (gT ?_)
        refine g_nil (hK _ _ _ (by kernel_rfl) ?_)
        refine k_seq ?_
        refine w_ret ?_
        refine fin_wp (τ := []) rfl (by decide) ?_; rw [← Option.some.inj H]; simp only [Tryd.f35]; exact gF
set_option maxHeartbeats 8000000 in
set_option maxRecDepth 100000 in
theorem soft_Add.does {k : Nat} {a0 : Int} {a1 : Int} {r : Int × Int} (H : soft_Add.f k a0 a1 = some r) : Do E0 (.fn 35 [.i .u64 a0, .i .u64 a1] [] (.t [.i .u64 r.1, .i .u8 r.2]) []) := by
  obtain ⟨ih0, ih1, ih2, ih3, ih4⟩ := soft_Add.does_l (a0 := a0) (a1 := a1) k
  refine fn_wpl Tryd.func35 rfl (Q := (soft_Add.Q a0 a1 r)) (fun s h => h) ?_
  unfold soft_Add.f at H
  simp only [Tryd.ntmps35, List.length, List.replicate, Nat.reduceAdd, Nat.reduceSub, List.cons_append, List.nil_append]
  refine w_seq ?_
  refine wR fun K hK => ?_
  refine g_as rfl rfl (gT ?_)
  refine g_as rfl rfl (gT ?_)
  refine g_nil (hK _ _ _ ?_)
  refine k_seq ?_
  refine w_seq ?_
  refine w_seq ?_
  refine wR fun K hK => ?_
  refine g_mv rfl rfl (gT ?_)
  refine g_mv rfl rfl (gT ?_)
  refine g_bsl (k := .u64) (xs := [a0, a1]) rfl rfl Tryd.underlying22 sz28 zr28 (by decide) rfl rfl rfl (gU ?_)
  obtain ⟨q1, hq1, H⟩ := bnd H
  refine g_cs [] rfl rfl (by rfl) Tryd.func48 rfl (by decide) (soft_nan.does hq1) ⟨Nat.le_of_ble_eq_true rfl, Nat.le_of_ble_eq_true rfl⟩ ?_; refine gC ?_
  refine g_mv rfl rfl (gT ?_)
  refine g_ext rfl rfl rfl (Nat.le_of_ble_eq_true rfl) (gT ?_)
  refine g_ext rfl rfl rfl (Nat.le_of_ble_eq_true rfl) (gT ?_)
  refine g_ext rfl rfl rfl (Nat.le_of_ble_eq_true rfl) (gT ?_)
  refine g_as rfl rfl (gT ?_)
  refine g_as rfl rfl (gT ?_)
  refine g_as rfl rfl (gT ?_)
  refine g_nil (hK _ _ _ ?_)
  refine k_seq ?_
  refine w_seq ?_
  refine wR fun K hK => ?_
  refine g_mv rfl rfl (gT ?_)
  refine g_nil (hK _ _ _ ?_)
  refine k_seq ?_
  rcases its H with ⟨c2, H⟩ | ⟨c2, H⟩
  · have c2b : q1.2.2 = true := c2; try simp only [c2b, nrm]
    refine w_cond rfl (fun _ => ?_) (fun h => Bool.noConfusion h)
    refine w_seq ?_
    refine wR fun K hK => ?_
    refine g_mv rfl rfl (gT ?_)
    refine g_mv rfl rfl (gT ?_)
    refine g_as rfl rfl (gT ?_)
    refine g_as rfl rfl (gT ?_)
    refine g_nil (hK _ _ _ ?_)
    refine k_seq ?_
    refine w_ret ?_
    refine fin_wp (τ := []) rfl (by decide) ?_; rw [← Option.some.inj H]; simp only [Tryd.f35]; exact gF
  · have c2b : q1.2.2 = false := Bool.eq_false_iff.mpr c2; try simp only [c2b, nrm]
    refine w_cond rfl (fun h => Bool.noConfusion h) (fun _ => ?_)
    refine w_skip ?_
    refine k_seq ?_
    refine w_seq ?_
    refine wR fun K hK => ?_
    refine g_mv rfl rfl (gT ?_)
    obtain ⟨q3, hq3, H⟩ := bnd H
    refine g_cs [] rfl rfl (by rfl) Tryd.func28 rfl (by decide) (word_Kind.does hq3) ⟨Nat.le_of_ble_eq_true rfl, Nat.le_of_ble_eq_true rfl⟩ ?_; refine gC ?_
    refine g_mv rfl rfl (gT ?_)
    obtain ⟨q4, hq4, H⟩ := bnd H
    refine g_cs [] rfl rfl (by rfl) Tryd.func28 rfl (by decide) (word_Kind.does hq4) ⟨Nat.le_of_ble_eq_true rfl, Nat.le_of_ble_eq_true rfl⟩ ?_; refine gC ?_
    refine g_as rfl rfl (gT ?_)
    refine g_as rfl rfl (gT ?_)
    refine g_nil (hK _ _ _ ?_)
    refine k_seq ?_
    refine w_seq ?_
    refine w_block ?_
    refine w_seq ?_
    refine wR fun K hK => ?_
    refine g_mv rfl rfl (gT ?_)
    refine g_bin rfl rfl rfl rfl rfl (gT ?_)
    refine g_mv rfl rfl (gT ?_)
    rcases its H with ⟨c5, H⟩ | ⟨c5, H⟩
    · have c5b := beq_iff_eq.mpr c5; have c5n := bne_eq_false_iff_eq.mpr c5; try simp only [c5b, c5n, nrm]
      refine g_mv rfl rfl (gT ?_)
      refine g_bin rfl rfl rfl rfl rfl (gT ?_)
      refine g_pick rfl rfl rfl (gT ?_)
      refine g_mv rfl rfl (gT ?_)
      rcases its H with ⟨c6, H⟩ | ⟨c6, H⟩
      · have c6b := beq_iff_eq.mpr c6; have c6n := bne_eq_false_iff_eq.mpr c6; try simp only [c6b, c6n, nrm]
        refine g_mv rfl rfl (gT ?_)
        refine g_mv rfl rfl (gT ?_)
        refine g_bin rfl rfl rfl rfl rfl (gT ?_)
        refine g_pick rfl rfl rfl (gT ?_)
        refine g_as rfl rfl (gT ?_)
        refine g_nil (hK _ _ _ ?_)
        refine k_wk (σ := []) [0, 0, 7, 0, 26] rfl (by decide) rfl ?_; refine gC ?_
        exact gI (ih0 a0 a1 q3 q4 (a0 != a1) r H)
      · have c6b := beq_eq_false_iff_ne.mpr c6; have c6n := bne_iff_ne.mpr c6; try simp only [c6b, c6n, nrm]
        refine g_sk rfl rfl (gT ?_)
        refine g_sk rfl rfl (gT ?_)
        refine g_sk rfl rfl (gT ?_)
        refine g_pick rfl rfl rfl (gT ?_)
        refine g_as rfl rfl (gT ?_)
        refine g_nil (hK _ _ _ ?_)
        refine k_wk (σ := []) [0, 0, 7, 0, 26] rfl (by decide) rfl ?_; refine gC ?_
        exact gI (ih0 a0 a1 q3 q4 false r H)
    · have c5b := beq_eq_false_iff_ne.mpr c5; have c5n := bne_iff_ne.mpr c5; try simp only [c5b, c5n, nrm]
      refine g_sk rfl rfl (gT ?_)
      refine g_sk rfl rfl (gT ?_)
      refine g_pick rfl rfl rfl (gT ?_)
      refine g_mv rfl rfl (gT ?_)
      refine g_sk rfl rfl (gT ?_)
      refine g_sk rfl rfl (gT ?_)
      refine g_sk rfl rfl (gT ?_)
      refine g_pick rfl rfl rfl (gT ?_)
      refine g_as rfl rfl (gT ?_)
      refine g_nil (hK _ _ _ ?_)
      refine k_wk (σ := []) [0, 0, 7, 0, 26] rfl (by decide) rfl ?_; refine gC ?_
      exact gI (ih0 a0 a1 q3 q4 false r H)

set_option maxHeartbeats 8000000 in
set_option maxRecDepth 100000 in
theorem soft_Calc_Add.does {k : Nat} {s0_0 : Int} {a1 : Int} {a2 : Int} {r : Int × Int} (H : soft_Calc_Add.f k s0_0 a1 a2 = some r) : Do E0 (.fn 19 [.p (some (0, 0)), .i .u64 a1, .i .u64 a2] [.row [.i .u8 s0_0] 0 0 true false none] (.i .u64 r.1) [.row [.i .u8 r.2] 0 0 true false none]) := by
  refine fn_wpl Tryd.func19 rfl (Q := (soft_Calc_Add.Q s0_0 a1 a2 r)) (fun s h => h) ?_
  unfold soft_Calc_Add.f at H
  simp only [Tryd.ntmps19, List.length, List.replicate, Nat.reduceAdd, Nat.reduceSub, List.cons_append, List.nil_append]
  refine w_seq ?_
  refine wR fun K hK => ?_
  refine g_as rfl rfl (gT ?_)
  refine g_nil (hK _ _ _ ?_)
  refine k_seq ?_
  refine w_seq ?_
  refine wR fun K hK => ?_
  refine g_mv rfl rfl (gT ?_)
  refine g_mv rfl rfl (gT ?_)
  refine g_mv rfl rfl (gT ?_)
  obtain ⟨q1, hq1, H⟩ := bnd H
  refine g_cs [] rfl rfl (by rfl) Tryd.func35 rfl (by decide) (soft_Add.does hq1) ⟨Nat.le_of_ble_eq_true rfl, Nat.le_of_ble_eq_true rfl⟩ ?_; refine gC ?_
  refine g_ext rfl rfl rfl (Nat.le_of_ble_eq_true rfl) (gT ?_)
  refine g_ext rfl rfl rfl (Nat.le_of_ble_eq_true rfl) (gT ?_)
  obtain ⟨q2, hq2, H⟩ := bnd H
  refine g_cs [0] rfl rfl (by rfl) Tryd.func34 rfl (by decide) (soft_Calc_note.does hq2) ⟨Nat.le_of_ble_eq_true rfl, Nat.le_of_ble_eq_true rfl⟩ ?_; refine gC ?_
  refine g_as rfl rfl (gT ?_)
  refine g_nil (hK _ _ _ ?_)
  refine k_seq ?_
  refine w_ret ?_
  refine fin_wp (τ := [0]) rfl (by decide) ?_; rw [← Option.some.inj H]; simp only [Tryd.f19]; exact gF

set_option maxHeartbeats 8000000 in
set_option maxRecDepth 100000 in
theorem wide_Wide_Cmp.does_l {a0_0 : Int} {a0_1 : Int} {a1_0 : Int} {a1_1 : Int} (k : Nat) : (∀ (t_5 : Bool) (h0_0 : Int) (h0_1 : Int) (h1_0 : Int) (h1_1 : Int) (r : Int), wide_Wide_Cmp.j0 k t_5 h0_0 h0_1 h1_0 h1_1 = some r → kont E0 (wide_Wide_Cmp.Q a0_0 a0_1 a1_0 a1_1 r) (frs (bodyOf Tryd.f55) [1, 0, 0, 0] []) .normal ⟨[.u, .u, .p (some (0, 0)), .p (some (1, 0)), .u, .b t_5, .u, .u, .u, .u, .u, .u, .u, .u, .u, .u, .u, .u, .u, .u, .u, .u, .u, .u, .u, .u, .u, .u, .u], ofL [.row [.i .u64 h0_0, .i .u64 h0_1] 0 0 true true none, .row [.i .u64 h1_0, .i .u64 h1_1] 0 0 true true none], 2, 0⟩) := by
  induction k with
  | zero => exact fun _ _ _ _ _ r h => by simp [wide_Wide_Cmp.j0] at h
  | succ k ih =>
    have ih0 := ih
    refine ?_
    · intro t_5 h0_0 h0_1 h1_0 h1_1 r H
      unfold wide_Wide_Cmp.j0 at H
      simp only [bodyOf, Tryd.f55, frs, sub, if_true, if_false, Nat.one_ne_zero]
      refine k_seq ?_
      rcases its H with ⟨c3, H⟩ | ⟨c3, H⟩
      · have c3b : t_5 = true := c3; try simp only [c3b, nrm]
        refine w_cond rfl (fun _ => ?_) (fun h => Bool.noConfusion h)
        refine w_seq ?_
        refine wR fun K hK => ?_
        refine g_as rfl rfl (gT ?_)
        refine g_nil (hK _ _ _ ?_)
        refine k_seq ?_
        refine w_ret ?_
        refine fin_wp (τ := []) rfl (by decide) ?_; rw [← Option.some.inj H]; simp only [Tryd.f55]; exact gF
      · have c3b : t_5 = false := Bool.eq_false_iff.mpr c3; try simp only [c3b, nrm]
        refine w_cond rfl (fun h => Bool.noConfusion h) (fun _ => ?_)
        refine w_seq ?_
        refine wR fun K hK => ?_
        refine g_lda rfl rfl ag68 sz68 rfl rfl (Nat.le_of_ble_eq_true rfl) (gT ?_)
        refine g_lda rfl rfl ag68 sz68 rfl rfl (Nat.le_of_ble_eq_true rfl) (gT ?_)
        refine g_same rfl rfl (c := .b ((h0_0 == h1_0) && ((h0_1 == h1_1)))) (by simp only [nrm]; simp only [binV, eqs68, Go.Rk.Rd.of, Go.Rk.Rd.bind, Bool.and_true, Bool.not_and]) (gT ?_)
        refine g_as rfl rfl (gT ?_)
        refine g_nil (hK _ _ _ ?_)
        refine k_seq ?_
        rcases its H with ⟨c4, H⟩ | ⟨c4, H⟩
        · have c4b : ((h0_0 == h1_0) && ((h0_1 == h1_1))) = true := c4; try simp only [c4b, nrm]
          refine w_cond rfl (fun _ => ?_) (fun h => Bool.noConfusion h)
          refine w_seq ?_
          refine wR fun K hK => ?_
          refine g_as rfl rfl (gT ?_)
          refine g_nil (hK _ _ _ ?_)
          refine k_seq ?_
          refine w_ret ?_
          refine fin_wp (τ := []) rfl (by decide) ?_; rw [← Option.some.inj H]; simp only [Tryd.f55]; exact gF
        · have c4b : ((h0_0 == h1_0) && ((h0_1 == h1_1))) = false := Bool.eq_false_iff.mpr c4; try simp only [c4b, nrm]
          refine w_cond rfl (fun h => Bool.noConfusion h) (fun _ => ?_)
          refine w_skip ?_
          refine k_block ?_
          refine k_seq ?_
          refine w_seq ?_
          refine wR fun K hK => ?_
          refine g_as rfl rfl (gT ?_)
          refine g_nil (hK _ _ _ ?_)
          refine k_seq ?_
          refine w_ret ?_
          refine fin_wp (τ := []) rfl (by decide) ?_; rw [← Option.some.inj H]; simp only [Tryd.f55]; exact gF
set_option maxHeartbeats 8000000 in
set_option maxRecDepth 100000 in
theorem wide_Wide_Cmp.does {k : Nat} {a0_0 : Int} {a0_1 : Int} {a1_0 : Int} {a1_1 : Int} {r : Int} (H : wide_Wide_Cmp.f k a0_0 a0_1 a1_0 a1_1 = some r) : Do E0 (.fn 55 [.a [.i .u64 a0_0, .i .u64 a0_1], .a [.i .u64 a1_0, .i .u64 a1_1]] [] (.i .i64 r) []) := by
  obtain ih0 := wide_Wide_Cmp.does_l (a0_0 := a0_0) (a0_1 := a0_1) (a1_0 := a1_0) (a1_1 := a1_1) k
  refine fn_wpl Tryd.func55 rfl (Q := (wide_Wide_Cmp.Q a0_0 a0_1 a1_0 a1_1 r)) (fun s h => h) ?_
  unfold wide_Wide_Cmp.f at H
  simp only [Tryd.ntmps55, List.length, List.replicate, Nat.reduceAdd, Nat.reduceSub, List.cons_append, List.nil_append]
  refine w_seq ?_
  refine wR fun K hK => ?_
  refine g_box rfl rfl rfl (by rfl) (gU ?_)
  refine g_box rfl rfl rfl (by rfl) (gU ?_)
  refine g_as rfl rfl (gT ?_)
  refine g_nil (hK _ _ _ ?_)
  refine k_seq ?_
  refine w_seq ?_
  refine w_block ?_
  refine w_seq ?_
  refine wR fun K hK => ?_
  refine g_fd rfl rfl fa68_0 rfl (gT ?_)
  refine g_ldc rfl rfl ag28 sz28 rfl rfl rfl (gT ?_)
  refine g_fd rfl rfl fa68_0 rfl (gT ?_)
  refine g_ldc rfl rfl ag28 sz28 rfl rfl rfl (gT ?_)
  refine g_bin rfl rfl rfl rfl rfl (gT ?_)
  refine g_mv rfl rfl (gT ?_)
  rcases its H with ⟨c1, H⟩ | ⟨c1, H⟩
  · have c1b := decide_eq_true c1; try simp only [c1b, nrm]
    refine g_sk rfl rfl (gT ?_)
    refine g_sk rfl rfl (gT ?_)
    refine g_sk rfl rfl (gT ?_)
    refine g_sk rfl rfl (gT ?_)
    refine g_sk rfl rfl (gT ?_)
    refine g_sk rfl rfl (gT ?_)
    refine g_sk rfl rfl (gT ?_)
    refine g_sk rfl rfl (gT ?_)
    refine g_sk rfl rfl (gT ?_)
    refine g_sk rfl rfl (gT ?_)
    refine g_sk rfl rfl (gT ?_)
    refine g_sk rfl rfl (gT ?_)
    refine g_pick rfl rfl rfl (gT ?_)
    refine g_as rfl rfl (gT ?_)
    refine g_nil (hK _ _ _ ?_)
    refine k_wk (σ := [0, 4]) [2, 0, 1] rfl (by decide) rfl ?_; refine gC ?_
    exact gI (ih0 true a0_0 a0_1 a1_0 a1_1 r H)
  · have c1b := decide_eq_false c1; try simp only [c1b, nrm]
    refine g_fd rfl rfl fa68_0 rfl (gT ?_)
    refine g_ldc rfl rfl ag28 sz28 rfl rfl rfl (gT ?_)
    refine g_fd rfl rfl fa68_0 rfl (gT ?_)
    refine g_ldc rfl rfl ag28 sz28 rfl rfl rfl (gT ?_)
    refine g_bin rfl rfl rfl rfl rfl (gT ?_)
    refine g_mv rfl rfl (gT ?_)
    rcases its H with ⟨c2, H⟩ | ⟨c2, H⟩
    · have c2b := beq_iff_eq.mpr c2; have c2n := bne_eq_false_iff_eq.mpr c2; try simp only [c2b, c2n, nrm]
      refine g_fd rfl rfl fa68_1 rfl (gT ?_)
      refine g_ldc rfl rfl ag28 sz28 rfl rfl rfl (gT ?_)
      refine g_fd rfl rfl fa68_1 rfl (gT ?_)
      refine g_ldc rfl rfl ag28 sz28 rfl rfl rfl (gT ?_)
      refine g_bin rfl rfl rfl rfl rfl (gT ?_)
      refine g_pick rfl rfl rfl (gT ?_)
      refine g_pick rfl rfl rfl (gT ?_)
      refine g_as rfl rfl (gT ?_)
      refine g_nil (hK _ _ _ ?_)
      refine k_wk (σ := [0, 4]) [2, 0, 1] rfl (by decide) rfl ?_; refine gC ?_
      exact gI (ih0 (decide (a0_1 < a1_1)) a0_0 a0_1 a1_0 a1_1 r H)
    · have c2b := beq_eq_false_iff_ne.mpr c2; have c2n := bne_iff_ne.mpr c2; try simp only [c2b, c2n, nrm]
      refine g_sk rfl rfl (gT ?_)
      refine g_sk rfl rfl (gT ?_)
      refine g_sk rfl rfl (gT ?_)
      refine g_sk rfl rfl (gT ?_)
      refine g_sk rfl rfl (gT ?_)
      refine g_pick rfl rfl rfl (gT ?_)
      refine g_pick rfl rfl rfl (gT ?_)
      refine g_as rfl rfl (gT ?_)
      refine g_nil (hK _ _ _ ?_)
      refine k_wk (σ := [0, 4]) [2, 0, 1] rfl (by decide) rfl ?_; refine gC ?_
      exact gI (ih0 false a0_0 a0_1 a1_0 a1_1 r H)

end Go.Proofs.YtkkfghecmhmdpaaDoor.F

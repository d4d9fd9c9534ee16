/- Texts of this claim, one behind the other: the functions, and that the machine does what they say. -/
import Derived.RowKit
import Derived.WalkKit
import Derived.KernelRfl
import Derived.Test.YtdmhepgfmickdaaDoorProg
import Derived.Test.YtdmhepgfmickdaaDoorRun2
set_option linter.constructorNameAsVariable false
set_option linter.unusedSimpArgs false
set_option linter.unusedVariables false
set_option linter.unusedSectionVars false
namespace Go.Proofs.YtdmhepgfmickdaaDoorW.PrintWords
open Go Go.RowKit
def rd (xs : List Int) (i : Int) : Int := xs.getD i.toNat 0
def bt (s : ByteArray) (i : Int) : Int := if h : i.toNat < s.size then ((s[i.toNat]'h).toNat : Int) else 0
theorem bt_at (x : ByteArray) (j : Int) (h : j.toNat < x.size) : ((x[j.toNat]'h).toNat : Int) = bt x j := by unfold bt; rw [dif_pos h]
def Ev {α : Type} (g : Nat → Option α) (r : α) : Prop := ∃ K, ∀ k, K ≤ k → g k = some r
theorem Ev.now {α : Type} (r : α) : Ev (fun _ => some r) r := ⟨0, fun _ _ => rfl⟩
theorem Ev.rounds {α : Type} {g : Nat → Option α} {r : α} (h : Ev g r) : ∃ k, g k = some r := h.elim fun K h => ⟨K, h K (Nat.le_refl K)⟩
theorem Ev.bind {α β : Type} {g : Nat → Option α} {f : Nat → α → Option β} {a : α} {r : β} (h : Ev g a) (k : Ev (fun n => f n a) r) : Ev (fun n => (g n).bind (f n)) r := by
  obtain ⟨K, h⟩ := h; obtain ⟨L, k⟩ := k
  exact ⟨K + L, fun n hn => by show (g n).bind (f n) = some r; rw [h n (by omega)]; exact k n (by omega)⟩
def mx (a b : Int) : Int := if a < b then b else a
def mn (a b : Int) : Int := if b < a then b else a
def shl (k : IntKind) (x y : Int) : Int := k.wrap (x * 2 ^ min y.toNat k.bits)
def shr (k : IntKind) (x y : Int) : Int := x / 2 ^ min y.toNat k.bits
end Go.Proofs.YtdmhepgfmickdaaDoorW.PrintWords
namespace Go.Proofs.YtdmhepgfmickdaaDoorW.PrintLast
end Go.Proofs.YtdmhepgfmickdaaDoorW.PrintLast
namespace Go.Proofs.YtdmhepgfmickdaaDoorW.PrintMore
end Go.Proofs.YtdmhepgfmickdaaDoorW.PrintMore
namespace Go.Proofs.YtdmhepgfmickdaaDoor.F
open Go Go.RowKit Go.Proofs.YtdmhepgfmickdaaDoorW.PrintWords
open Go.Rk hiding Rd
def addX : List V → Option V
  | [.i .u64 x, .i .u64 y, .i .u64 c] => if 0 ≤ x ∧ 0 ≤ y ∧ 0 ≤ c ∧ c ≤ 1 then some (.t [.i .u64 ((x + y + c) % 18446744073709551616), .i .u64 ((x + y + c) / 18446744073709551616)]) else none
  | _ => none
def subX : List V → Option V
  | [.i .u64 x, .i .u64 y, .i .u64 c] => if 0 ≤ x ∧ 0 ≤ y ∧ y < 18446744073709551616 ∧ 0 ≤ c ∧ c ≤ 1 then some (.t [.i .u64 ((x - y - c) % 18446744073709551616), .i .u64 (if x < y + c then 1 else 0)]) else none
  | _ => none
def tab32 : List Int := [0, 1, 28, 2, 29, 14, 24, 3, 30, 22, 20, 15, 25, 17, 4, 8, 31, 27, 13, 23, 21, 19, 16, 7, 26, 12, 18, 6, 11, 5, 10, 9]
noncomputable def E0 : Env := { P := Tryd.prog, G := fun g => if g = 0 then tab32.map (V.i .u8) else [], ext := fun f l => if f = 49 then addX l else if f = 85 then subX l else none }
def bits_Add64.f (a0 a1 a2 : Int) : Option (Int × Int) := if 0 ≤ a0 then (if 0 ≤ a1 then (if 0 ≤ a2 then (if a2 ≤ 1 then (some ((a0 + a1 + a2) % 18446744073709551616, (a0 + a1 + a2) / 18446744073709551616)) else none) else none) else none) else none
def bits_Sub64.f (a0 a1 a2 : Int) : Option (Int × Int) := if 0 ≤ a0 ∧ 0 ≤ a1 ∧ a1 < 18446744073709551616 ∧ 0 ≤ a2 ∧ a2 ≤ 1 then (some ((a0 - a1 - a2) % 18446744073709551616, if a0 < a1 + a2 then 1 else 0)) else none
theorem bits_Add64.ext {a0 a1 a2 : Int} {r : Int × Int} (H : bits_Add64.f a0 a1 a2 = some r) : E0.ext 49 [.i .u64 a0, .i .u64 a1, .i .u64 a2] = some (.t [.i .u64 r.1, .i .u64 r.2]) := by
  unfold bits_Add64.f at H
  obtain ⟨c1, H⟩ := it1 H; obtain ⟨c2, H⟩ := it1 H; obtain ⟨c3, H⟩ := it1 H; obtain ⟨c4, H⟩ := it1 H
  cases H
  simp only [E0, if_true]
  exact if_pos ⟨c1, c2, c3, c4⟩
theorem bits_Sub64.ext {a0 a1 a2 : Int} {r : Int × Int} (H : bits_Sub64.f a0 a1 a2 = some r) : E0.ext 85 [.i .u64 a0, .i .u64 a1, .i .u64 a2] = some (.t [.i .u64 r.1, .i .u64 r.2]) := by
  unfold bits_Sub64.f at H
  obtain ⟨⟨c1, c2, c5, c3, c4⟩, H⟩ := it1 H
  cases H
  simp only [E0, show (85 = 49) = False from by simp, if_false, if_true]
  exact if_pos ⟨c1, c2, c5, c3, c4⟩
theorem nrmw : (∀ n, IntKind.i64.wrap n = wrap64 n) ∧ (∀ n, IntKind.u32.wrap n = n % 4294967296) ∧ (∀ n, IntKind.u8.wrap n = n % 256) ∧ (∀ k x y, shlI k x y = shl k x y) ∧ (∀ k x y, shrI k x y = shr k x y) ∧
    (∀ xs j, List.getD xs (Int.toNat j) 0 = rd xs j) ∧ (∀ x, (0 : Int) - x = -x) := by
  refine ⟨fun n => by unfold Go.RowKit.wrap64; exact IntKind.wrap_i64 n, fun n => by simp [IntKind.wrap, IntKind.signed, IntKind.bits], fun n => by simp [IntKind.wrap, IntKind.signed, IntKind.bits], fun _ _ _ => rfl, fun _ _ _ => rfl, fun _ _ => rfl, Int.zero_sub⟩
theorem gN {p q : Prop} (h : q) (e : p = q := by first | (simp (maxSteps := 9000000) only [nrm, nrmw, nrmb, if_true, if_false, Bool.false_eq_true, Nat.zero_add, Nat.add_zero, List.length_cons, List.length_nil, List.length_map, List.length_replicate, List.length_set, List.drop_zero, List.drop_succ_cons, List.take_zero, List.take_succ_cons, Nat.reduceAdd, Nat.reduceMul, Nat.reduceSub]; rfl) | rfl) : p := e ▸ h
theorem gC {p q : Prop} (h : q) (e : p = q := by first | (simp (maxSteps := 9000000) only [nrm, nrmw, nrmc, nrme, nrmo, nrml, nrmb, nrmx, Nat.reduceEqDiff, Nat.reduceBEq, Nat.zero_add, Nat.add_zero, Nat.mul_one, List.length_cons, List.length_nil, List.length_map, List.length_set, List.length_replicate, List.drop_zero, List.drop_succ_cons, List.drop_nil, List.take_zero, List.take_succ_cons, List.take_nil, Nat.le_refl, if_true, if_false, Option.any_none, Option.any_some, List.contains_nil, Bool.not_false, Bool.or_true, Bool.true_or, Bool.or_false, Bool.false_or, Bool.and_true, Bool.true_and, Bool.and_self, reduceCtorEq, beq_self_eq_true, List.map_cons, List.map_nil, List.append_nil, List.nil_append, List.contains_cons, List.filter_cons, List.filter_nil, List.cons_append, Bool.false_eq_true, true_and, and_true, List.getElem_toArray, List.getElem_cons_zero, List.getElem_cons_succ, Nat.reduceAdd, Nat.reduceMul, Nat.reduceLT, Nat.reduceSub, Nat.reduceLeDiff]; rfl) | rfl) : p := e ▸ h
theorem gT {E : Env} {os : Array Oper} {sl : Nat} {is : List Nat} {t t' : List V} {h : Hp} {tr : Tr} {K : List V → Hp → Tr → Prop} (hk : gD E os sl is t' h tr K)
    (e : t = t' := by first | (simp (maxSteps := 9000000) only [nrm, nrmw, nrmb, nrmx, if_true, if_false, Bool.false_eq_true, Nat.zero_add, Nat.add_zero, List.length_cons, List.length_nil, List.length_map, List.length_replicate, List.length_set, List.drop_zero, List.drop_succ_cons, List.take_zero, List.take_succ_cons, Nat.reduceAdd, Nat.reduceMul, Nat.reduceSub]; rfl) | rfl) : gD E os sl is t h tr K := e ▸ hk
theorem gU {E : Env} {os : Array Oper} {sl : Nat} {is : List Nat} {t t' : List V} {h h' : Hp} {tr : Tr} {K : List V → Hp → Tr → Prop} (hk : gD E os sl is t' h' tr K)
    (e : t = t' := by first | (simp (maxSteps := 9000000) only [nrm, nrmw, nrmb, nrmx, if_true, if_false, Bool.false_eq_true, Nat.zero_add, Nat.add_zero, List.length_cons, List.length_nil, List.length_map, List.length_replicate, List.length_set, List.drop_zero, List.drop_succ_cons, List.take_zero, List.take_succ_cons, Nat.reduceAdd, Nat.reduceMul, Nat.reduceSub]; rfl) | rfl) (e2 : h = h' := by first | (simp (maxSteps := 9000000) only [nrm, nrmw, nrmb, nrmx, if_true, if_false, Bool.false_eq_true, Nat.zero_add, Nat.add_zero, List.length_cons, List.length_nil, List.length_map, List.length_replicate, List.length_set, List.drop_zero, List.drop_succ_cons, List.take_zero, List.take_succ_cons, Nat.reduceAdd, Nat.reduceMul, Nat.reduceSub]; rfl) | rfl) : gD E os sl is t h tr K := by subst e e2; exact hk
theorem gB {p q : Prop} (h : q) (e : p = q := by first | (simp (maxSteps := 9000000) only [nrm, nrmb, nrmc, nrmf, List.map_cons, List.map_nil, List.zip_cons_cons, List.zip_nil_right, List.zip_nil_left, List.getElem?_cons_zero, List.getElem?_cons_succ, List.length_cons, List.length_nil, Nat.reduceAdd, Nat.reduceMul, Nat.reduceLeDiff, Nat.zero_add, Nat.add_zero, Nat.le_refl, and_self, if_true, List.cons_append, List.nil_append, List.all_cons, List.all_nil, Bool.and_true, Bool.and_self]; simp (maxSteps := 9000000) only [nrm, nrmw, nrmb, if_true, if_false, Bool.false_eq_true, Nat.zero_add, Nat.add_zero, List.length_cons, List.length_nil, List.length_map, List.length_replicate, List.length_set, List.drop_zero, List.drop_succ_cons, List.take_zero, List.take_succ_cons, Nat.reduceAdd, Nat.reduceMul, Nat.reduceSub]; rfl) | (simp (maxSteps := 9000000) only [nrm, nrmb, nrmc, nrmf, List.map_cons, List.map_nil, List.zip_cons_cons, List.zip_nil_right, List.zip_nil_left, List.getElem?_cons_zero, List.getElem?_cons_succ, List.length_cons, List.length_nil, Nat.reduceAdd, Nat.reduceMul, Nat.reduceLeDiff, Nat.zero_add, Nat.add_zero, Nat.le_refl, and_self, if_true, List.cons_append, List.nil_append, List.all_cons, List.all_nil, Bool.and_true, Bool.and_self]; rfl)) : p := e ▸ h
theorem gF {p : Prop} (e : p := by simp (maxSteps := 9000000) only [nrm, nrmw, nrmc, nrme, nrmo, nrml, nrmb, nrmx, Nat.reduceEqDiff, Nat.reduceBEq, Nat.zero_add, Nat.add_zero, Nat.mul_one, List.length_cons, List.length_nil, List.length_map, List.length_set, List.length_replicate, List.drop_zero, List.drop_succ_cons, List.drop_nil, List.take_zero, List.take_succ_cons, List.take_nil, Nat.le_refl, if_true, if_false, Option.any_none, Option.any_some, List.contains_nil, Bool.not_false, Bool.or_true, Bool.true_or, Bool.or_false, Bool.false_or, Bool.and_true, Bool.true_and, Bool.and_self, reduceCtorEq, beq_self_eq_true, List.map_cons, List.map_nil, List.append_nil, List.nil_append, List.contains_cons, List.filter_cons, List.filter_nil, List.cons_append, Bool.false_eq_true, true_and, and_true, List.getElem_toArray, List.getElem_cons_zero, List.getElem_cons_succ, Nat.reduceAdd, Nat.reduceMul, Nat.reduceLT, Nat.reduceSub, Nat.reduceLeDiff] <;> first | rfl | exact ⟨rfl, trivial⟩ | exact ⟨rfl, rfl⟩) : p := e
section
variable {E : Env} {Q : S → Prop} {ks : List Fm} {s : S}
/-- A region; what follows it is a letter. -/
theorem wR {id os n is} (h : ∀ K : List V → Hp → Tr → Prop, (∀ t' h' tr, kont E Q ks .normal ⟨t', h', n, s.a⟩ → K t' h' tr) → gD E os s.n is s.t s.h [] K) (e1 : List.range os.size = is := by first | (simp only [Array.size, List.length, List.range, List.range.loop, nrm, Nat.reduceAdd, Nat.reduceMul]; rfl) | rfl) (e2 : s.n + 4 * os.size = n := by first | (simp only [Array.size, List.length, List.range, List.range.loop, nrm, Nat.reduceAdd, Nat.reduceMul]; rfl) | rfl) : wk_ E Q ks (.region id os false) s := by
  subst e1 e2; exact w_reg (h _ fun t' h' tr hk => hk)
theorem wD {id os n is} (h : ∀ K : List V → Hp → Tr → Prop, (∀ t' h' tr, indep os (pres os) tr = true → kont E Q ks .normal ⟨t', h', n, s.a⟩ → K t' h' tr) → gD E os s.n is s.t s.h [] K) (e1 : List.range os.size = is := by first | (simp only [Array.size, List.length, List.range, List.range.loop, nrm, Nat.reduceAdd, Nat.reduceMul]; rfl) | rfl) (e2 : s.n + 4 * os.size = n := by first | (simp only [Array.size, List.length, List.range, List.range.loop, nrm, Nat.reduceAdd, Nat.reduceMul]; rfl) | rfl) : wk_ E Q ks (.region id os true) s := by
  subst e1 e2; exact w_drw (h _ fun t' h' tr hi hk => ⟨hi, hk⟩)
end
end Go.Proofs.YtdmhepgfmickdaaDoor.F
namespace Go.Proofs.YtdmhepgfmickdaaDoor.F
open Go Go.RowKit Go.Proofs.YtdmhepgfmickdaaDoorW.PrintWords
open Go.Rk hiding Rd
open Go.Proofs.Tryd
set_option linter.unusedVariables false
set_option linter.unusedSimpArgs false
set_option maxRecDepth 100000
set_option maxHeartbeats 8000000
def gimballaw15_head_ok.f : Option Unit := some ()
def word_Flip.f (a0 : Int) : Option (Int) := (some ((Go.bits .xor .u64 a0 9223372036854775808)))
def word_Flip.Q (a0 : Int) (r : Int) : S → Prop := fun s => ∃ τ r', fin E0 Tryd.f24 0 τ s = some (r', []) ∧ r'.ro = (.i .u64 r)
def word_Exp.f (a0 : Int) : Option (Int) := (some ((wrap64 ((Go.bits .and .u64 (a0 / 4503599627370496) 2047)))))
def word_Exp.Q (a0 : Int) (r : Int) : S → Prop := fun s => ∃ τ r', fin E0 Tryd.f38 0 τ s = some (r', []) ∧ r'.ro = (.i .i64 r)
def word_Frac.f (a0 : Int) : Option (Int) := (some ((Go.bits .and .u64 a0 4503599627370495)))
def word_Frac.Q (a0 : Int) (r : Int) : S → Prop := fun s => ∃ τ r', fin E0 Tryd.f66 0 τ s = some (r', []) ∧ r'.ro = (.i .u64 r)
mutual
def word_Kind.j0 : Nat → Int → Int → Bool → Option (Int)
  | 0, _, _, _ => none
  | k + 1, e_3, f_4, t_9 => (if t_9 = true then (some (1)) else (if e_3 = 0 then (some (2)) else (if e_3 < 2047 then (some (3)) else (if f_4 = 0 then (some (4)) else (some (5))))))
end
def word_Kind.f (k : Nat) (a0 : Int) : Option (Int) := ((word_Exp.f a0).bind fun q1 => ((word_Frac.f a0).bind fun q2 => (if q1 = 0 then (word_Kind.j0 k q1 q2 (q2 == 0)) else (word_Kind.j0 k q1 q2 false))))
def word_Kind.Q (a0 : Int) (r : Int) : S → Prop := fun s => ∃ τ r', fin E0 Tryd.f39 0 τ s = some (r', []) ∧ r'.ro = (.i .i64 r)
def word_Abs.f (a0 : Int) : Option (Int) := (some ((Go.bits .andNot .u64 a0 9223372036854775808)))
def word_Abs.Q (a0 : Int) (r : Int) : S → Prop := fun s => ∃ τ r', fin E0 Tryd.f12 0 τ s = some (r', []) ∧ r'.ro = (.i .u64 r)
def word_Signals.f (k : Nat) (a0 : Int) : Option (Bool) := ((word_Kind.f k a0).bind fun q1 => (if q1 = 5 then (some (((Go.bits .and .u64 (a0 / 2251799813685248) 1) == 0))) else (some (false))))
def word_Signals.Q (a0 : Int) (r : Bool) : S → Prop := fun s => ∃ τ r', fin E0 Tryd.f65 0 τ s = some (r', []) ∧ r'.ro = (.b r)
def word_Neg.f (a0 : Int) : Option (Bool) := (some (((a0 / 9223372036854775808) == 1)))
def word_Neg.Q (a0 : Int) (r : Bool) : S → Prop := fun s => ∃ τ r', fin E0 Tryd.f37 0 τ s = some (r', []) ∧ r'.ro = (.b r)
def word_Parts.f (k : Nat) (a0 : Int) : Option (Int × Int) := ((word_Kind.f k a0).bind fun q1 => (if q1 = 2 then ((word_Frac.f a0).bind fun q3 => (some (q3, (-1074)))) else (if q1 = 3 then ((word_Frac.f a0).bind fun q5 => ((word_Exp.f a0).bind fun q6 => (some ((Go.bits .or .u64 q5 4503599627370496), (wrap64 (q6 - 1075)))))) else (some (0, 0)))))
def word_Parts.Q (a0 : Int) (r : Int × Int) : S → Prop := fun s => ∃ τ r', fin E0 Tryd.f56 0 τ s = some (r', []) ∧ r'.ro = (.t [.i .u64 r.1, .i .i64 r.2])
mutual
def bits_Len64.j0 : Nat → Int → Int → Option (Int)
  | 0, _, _ => none
  | k + 1, x_0, n_2 => (if x_0 ≥ 65536 then (if (x_0 / 65536) ≥ 256 then (if 0 ≤ (((x_0 / 65536) / 256) % 256) then (if (((x_0 / 65536) / 256) % 256) < 256 then (some ((wrap64 ((wrap64 ((wrap64 (n_2 + 16)) + 8)) + (wrap64 ((bt (⟨#[0, 1, 2, 2, 3, 3, 3, 3, 4, 4, 4, 4, 4, 4, 4, 4, 5, 5, 5, 5, 5, 5, 5, 5, 5, 5, 5, 5, 5, 5, 5, 5, 6, 6, 6, 6, 6, 6, 6, 6, 6, 6, 6, 6, 6, 6, 6, 6, 6, 6, 6, 6, 6, 6, 6, 6, 6, 6, 6, 6, 6, 6, 6, 6, 7, 7, 7, 7, 7, 7, 7, 7, 7, 7, 7, 7, 7, 7, 7, 7, 7, 7, 7, 7, 7, 7, 7, 7, 7, 7, 7, 7, 7, 7, 7, 7, 7, 7, 7, 7, 7, 7, 7, 7, 7, 7, 7, 7, 7, 7, 7, 7, 7, 7, 7, 7, 7, 7, 7, 7, 7, 7, 7, 7, 7, 7, 7, 7, 8, 8, 8, 8, 8, 8, 8, 8, 8, 8, 8, 8, 8, 8, 8, 8, 8, 8, 8, 8, 8, 8, 8, 8, 8, 8, 8, 8, 8, 8, 8, 8, 8, 8, 8, 8, 8, 8, 8, 8, 8, 8, 8, 8, 8, 8, 8, 8, 8, 8, 8, 8, 8, 8, 8, 8, 8, 8, 8, 8, 8, 8, 8, 8, 8, 8, 8, 8, 8, 8, 8, 8, 8, 8, 8, 8, 8, 8, 8, 8, 8, 8, 8, 8, 8, 8, 8, 8, 8, 8, 8, 8, 8, 8, 8, 8, 8, 8, 8, 8, 8, 8, 8, 8, 8, 8, 8, 8, 8, 8, 8, 8, 8, 8, 8, 8, 8, 8, 8, 8, 8, 8, 8, 8, 8, 8, 8, 8]⟩ : ByteArray) (((x_0 / 65536) / 256) % 256)))))))) else none) else none) else (if 0 ≤ ((x_0 / 65536) % 256) then (if ((x_0 / 65536) % 256) < 256 then (some ((wrap64 ((wrap64 (n_2 + 16)) + (wrap64 ((bt (⟨#[0, 1, 2, 2, 3, 3, 3, 3, 4, 4, 4, 4, 4, 4, 4, 4, 5, 5, 5, 5, 5, 5, 5, 5, 5, 5, 5, 5, 5, 5, 5, 5, 6, 6, 6, 6, 6, 6, 6, 6, 6, 6, 6, 6, 6, 6, 6, 6, 6, 6, 6, 6, 6, 6, 6, 6, 6, 6, 6, 6, 6, 6, 6, 6, 7, 7, 7, 7, 7, 7, 7, 7, 7, 7, 7, 7, 7, 7, 7, 7, 7, 7, 7, 7, 7, 7, 7, 7, 7, 7, 7, 7, 7, 7, 7, 7, 7, 7, 7, 7, 7, 7, 7, 7, 7, 7, 7, 7, 7, 7, 7, 7, 7, 7, 7, 7, 7, 7, 7, 7, 7, 7, 7, 7, 7, 7, 7, 7, 8, 8, 8, 8, 8, 8, 8, 8, 8, 8, 8, 8, 8, 8, 8, 8, 8, 8, 8, 8, 8, 8, 8, 8, 8, 8, 8, 8, 8, 8, 8, 8, 8, 8, 8, 8, 8, 8, 8, 8, 8, 8, 8, 8, 8, 8, 8, 8, 8, 8, 8, 8, 8, 8, 8, 8, 8, 8, 8, 8, 8, 8, 8, 8, 8, 8, 8, 8, 8, 8, 8, 8, 8, 8, 8, 8, 8, 8, 8, 8, 8, 8, 8, 8, 8, 8, 8, 8, 8, 8, 8, 8, 8, 8, 8, 8, 8, 8, 8, 8, 8, 8, 8, 8, 8, 8, 8, 8, 8, 8, 8, 8, 8, 8, 8, 8, 8, 8, 8, 8, 8, 8, 8, 8, 8, 8, 8, 8]⟩ : ByteArray) ((x_0 / 65536) % 256)))))))) else none) else none)) else (if x_0 ≥ 256 then (if 0 ≤ ((x_0 / 256) % 256) then (if ((x_0 / 256) % 256) < 256 then (some ((wrap64 ((wrap64 (n_2 + 8)) + (wrap64 ((bt (⟨#[0, 1, 2, 2, 3, 3, 3, 3, 4, 4, 4, 4, 4, 4, 4, 4, 5, 5, 5, 5, 5, 5, 5, 5, 5, 5, 5, 5, 5, 5, 5, 5, 6, 6, 6, 6, 6, 6, 6, 6, 6, 6, 6, 6, 6, 6, 6, 6, 6, 6, 6, 6, 6, 6, 6, 6, 6, 6, 6, 6, 6, 6, 6, 6, 7, 7, 7, 7, 7, 7, 7, 7, 7, 7, 7, 7, 7, 7, 7, 7, 7, 7, 7, 7, 7, 7, 7, 7, 7, 7, 7, 7, 7, 7, 7, 7, 7, 7, 7, 7, 7, 7, 7, 7, 7, 7, 7, 7, 7, 7, 7, 7, 7, 7, 7, 7, 7, 7, 7, 7, 7, 7, 7, 7, 7, 7, 7, 7, 8, 8, 8, 8, 8, 8, 8, 8, 8, 8, 8, 8, 8, 8, 8, 8, 8, 8, 8, 8, 8, 8, 8, 8, 8, 8, 8, 8, 8, 8, 8, 8, 8, 8, 8, 8, 8, 8, 8, 8, 8, 8, 8, 8, 8, 8, 8, 8, 8, 8, 8, 8, 8, 8, 8, 8, 8, 8, 8, 8, 8, 8, 8, 8, 8, 8, 8, 8, 8, 8, 8, 8, 8, 8, 8, 8, 8, 8, 8, 8, 8, 8, 8, 8, 8, 8, 8, 8, 8, 8, 8, 8, 8, 8, 8, 8, 8, 8, 8, 8, 8, 8, 8, 8, 8, 8, 8, 8, 8, 8, 8, 8, 8, 8, 8, 8, 8, 8, 8, 8, 8, 8, 8, 8, 8, 8, 8, 8]⟩ : ByteArray) ((x_0 / 256) % 256)))))))) else none) else none) else (if 0 ≤ (x_0 % 256) then (if (x_0 % 256) < 256 then (some ((wrap64 (n_2 + (wrap64 ((bt (⟨#[0, 1, 2, 2, 3, 3, 3, 3, 4, 4, 4, 4, 4, 4, 4, 4, 5, 5, 5, 5, 5, 5, 5, 5, 5, 5, 5, 5, 5, 5, 5, 5, 6, 6, 6, 6, 6, 6, 6, 6, 6, 6, 6, 6, 6, 6, 6, 6, 6, 6, 6, 6, 6, 6, 6, 6, 6, 6, 6, 6, 6, 6, 6, 6, 7, 7, 7, 7, 7, 7, 7, 7, 7, 7, 7, 7, 7, 7, 7, 7, 7, 7, 7, 7, 7, 7, 7, 7, 7, 7, 7, 7, 7, 7, 7, 7, 7, 7, 7, 7, 7, 7, 7, 7, 7, 7, 7, 7, 7, 7, 7, 7, 7, 7, 7, 7, 7, 7, 7, 7, 7, 7, 7, 7, 7, 7, 7, 7, 8, 8, 8, 8, 8, 8, 8, 8, 8, 8, 8, 8, 8, 8, 8, 8, 8, 8, 8, 8, 8, 8, 8, 8, 8, 8, 8, 8, 8, 8, 8, 8, 8, 8, 8, 8, 8, 8, 8, 8, 8, 8, 8, 8, 8, 8, 8, 8, 8, 8, 8, 8, 8, 8, 8, 8, 8, 8, 8, 8, 8, 8, 8, 8, 8, 8, 8, 8, 8, 8, 8, 8, 8, 8, 8, 8, 8, 8, 8, 8, 8, 8, 8, 8, 8, 8, 8, 8, 8, 8, 8, 8, 8, 8, 8, 8, 8, 8, 8, 8, 8, 8, 8, 8, 8, 8, 8, 8, 8, 8, 8, 8, 8, 8, 8, 8, 8, 8, 8, 8, 8, 8, 8, 8, 8, 8, 8, 8]⟩ : ByteArray) (x_0 % 256)))))))) else none) else none)))
end
def bits_Len64.f (k : Nat) (a0 : Int) : Option (Int) := (if a0 ≥ 4294967296 then (bits_Len64.j0 k (a0 / 4294967296) 32) else (bits_Len64.j0 k a0 0))
def bits_Len64.Q (a0 : Int) (r : Int) : S → Prop := fun s => ∃ τ r', fin E0 Tryd.f69 0 τ s = some (r', []) ∧ r'.ro = (.i .i64 r)
def wide_Wide_Left.f (a0_0 : Int) (a0_1 : Int) (a1 : Int) : Option (Int × Int) := (if a1 ≤ 0 then (some (a0_0, a0_1)) else (if a1 ≥ 128 then (some (0, 0)) else (if a1 ≥ 64 then (if 0 ≤ (wrap64 (a1 - 64)) then (some ((shl .u64 a0_1 (wrap64 (a1 - 64))), 0)) else none) else (if 0 ≤ a1 then (if 0 ≤ (wrap64 (64 - a1)) then (some ((Go.bits .or .u64 (shl .u64 a0_0 a1) (shr .u64 a0_1 (wrap64 (64 - a1)))), (shl .u64 a0_1 a1))) else none) else none))))
def wide_Wide_Left.Q (a0_0 : Int) (a0_1 : Int) (a1 : Int) (r : Int × Int) : S → Prop := fun s => ∃ τ r', fin E0 Tryd.f28 0 τ s = some (r', []) ∧ r'.ro = (.a [.i .u64 r.1, .i .u64 r.2])
def bits_Mul64.f (a0 : Int) (a1 : Int) : Option (Int × Int) := (some ((IntKind.u64.wrap ((IntKind.u64.wrap ((IntKind.u64.wrap ((a0 / 4294967296) * (a1 / 4294967296))) + ((IntKind.u64.wrap ((IntKind.u64.wrap ((a0 / 4294967296) * (Go.bits .and .u64 a1 4294967295))) + ((IntKind.u64.wrap ((Go.bits .and .u64 a0 4294967295) * (Go.bits .and .u64 a1 4294967295))) / 4294967296))) / 4294967296))) + ((IntKind.u64.wrap ((Go.bits .and .u64 (IntKind.u64.wrap ((IntKind.u64.wrap ((a0 / 4294967296) * (Go.bits .and .u64 a1 4294967295))) + ((IntKind.u64.wrap ((Go.bits .and .u64 a0 4294967295) * (Go.bits .and .u64 a1 4294967295))) / 4294967296))) 4294967295) + (IntKind.u64.wrap ((Go.bits .and .u64 a0 4294967295) * (a1 / 4294967296))))) / 4294967296))), (IntKind.u64.wrap (a0 * a1))))
def bits_Mul64.Q (a0 : Int) (a1 : Int) (r : Int × Int) : S → Prop := fun s => ∃ τ r', fin E0 Tryd.f84 0 τ s = some (r', []) ∧ r'.ro = (.t [.i .u64 r.1, .i .u64 r.2])
def wide_Mul.f (a0 : Int) (a1 : Int) : Option (Int × Int) := ((bits_Mul64.f a0 a1).bind fun q1 => (some (q1.1, q1.2)))
def wide_Mul.Q (a0 : Int) (a1 : Int) (r : Int × Int) : S → Prop := fun s => ∃ τ r', fin E0 Tryd.f78 0 τ s = some (r', []) ∧ r'.ro = (.a [.i .u64 r.1, .i .u64 r.2])
mutual
def wide_Wide_Cmp.j0 : Nat → Bool → Int → Int → Int → Int → Option (Int)
  | 0, _, _, _, _, _ => none
  | k + 1, t_5, h0_0, h0_1, h1_0, h1_1 => (if t_5 = true then (some ((-1))) else (if ((h0_0 == h1_0) && ((h0_1 == h1_1))) = true then (some (0)) else (some (1))))
end
def wide_Wide_Cmp.f (k : Nat) (a0_0 : Int) (a0_1 : Int) (a1_0 : Int) (a1_1 : Int) : Option (Int) := (if a0_0 < a1_0 then (wide_Wide_Cmp.j0 k true a0_0 a0_1 a1_0 a1_1) else (if a0_0 = a1_0 then (wide_Wide_Cmp.j0 k (decide (a0_1 < a1_1)) a0_0 a0_1 a1_0 a1_1) else (wide_Wide_Cmp.j0 k false a0_0 a0_1 a1_0 a1_1)))
def wide_Wide_Cmp.Q (a0_0 : Int) (a0_1 : Int) (a1_0 : Int) (a1_1 : Int) (r : Int) : S → Prop := fun s => ∃ τ r', fin E0 Tryd.f79 0 τ s = some (r', []) ∧ r'.ro = (.i .i64 r)
mutual
def wide_Wide_Sqrt.l0 : Nat → Int → Int → Int → Int → Option (Int × Bool)
  | 0, _, _, _, _ => none
  | k + 1, root_4, i_5, h0_0, h0_1 => (if i_5 ≥ 0 then (if 0 ≤ i_5 then ((wide_Mul.f (Go.bits .or .u64 root_4 (shl .u64 1 i_5)) (Go.bits .or .u64 root_4 (shl .u64 1 i_5))).bind fun q3 => ((wide_Wide_Cmp.f k q3.1 q3.2 h0_0 h0_1).bind fun q4 => (if q4 ≤ 0 then (wide_Wide_Sqrt.l0 k (Go.bits .or .u64 root_4 (shl .u64 1 i_5)) (wrap64 (i_5 - 1)) h0_0 h0_1) else (wide_Wide_Sqrt.l0 k root_4 (wrap64 (i_5 - 1)) h0_0 h0_1)))) else none) else ((wide_Mul.f root_4 root_4).bind fun q6 => (some (root_4, ((q6.1 == h0_0) && ((q6.2 == h0_1)))))))
end
def wide_Wide_Sqrt.f (k : Nat) (a0_0 : Int) (a0_1 : Int) : Option (Int × Bool) := (wide_Wide_Sqrt.l0 k 0 63 a0_0 a0_1)
def wide_Wide_Sqrt.Q (a0_0 : Int) (a0_1 : Int) (r : Int × Bool) : S → Prop := fun s => ∃ τ r', fin E0 Tryd.f70 0 τ s = some (r', []) ∧ r'.ro = (.t [.i .u64 r.1, .b r.2])
def wide_Wide_Zero.f (a0_0 : Int) (a0_1 : Int) : Option (Bool) := (some (((Go.bits .or .u64 a0_0 a0_1) == 0)))
def wide_Wide_Zero.Q (a0_0 : Int) (a0_1 : Int) (r : Bool) : S → Prop := fun s => ∃ τ r', fin E0 Tryd.f50 0 τ s = some (r', []) ∧ r'.ro = (.b r)
def word_Make.f (a0 : Bool) (a1 : Int) (a2 : Int) : Option (Int) := (if a0 = true then (some ((Go.bits .or .u64 (Go.bits .or .u64 (IntKind.u64.wrap ((Go.bits .and .u64 (IntKind.u64.wrap (a1)) 2047) * 4503599627370496)) (Go.bits .and .u64 a2 4503599627370495)) 9223372036854775808))) else (some ((Go.bits .or .u64 (IntKind.u64.wrap ((Go.bits .and .u64 (IntKind.u64.wrap (a1)) 2047) * 4503599627370496)) (Go.bits .and .u64 a2 4503599627370495)))))
def word_Make.Q (a0 : Bool) (a1 : Int) (a2 : Int) (r : Int) : S → Prop := fun s => ∃ τ r', fin E0 Tryd.f51 0 τ s = some (r', []) ∧ r'.ro = (.i .u64 r)
def wide_Wide_Len.f (k : Nat) (a0_0 : Int) (a0_1 : Int) : Option (Int) := (if a0_0 = 0 then ((bits_Len64.f k a0_1).bind fun q2 => (some (q2))) else ((bits_Len64.f k a0_0).bind fun q3 => (some ((wrap64 (64 + q3))))))
def wide_Wide_Len.Q (a0_0 : Int) (a0_1 : Int) (r : Int) : S → Prop := fun s => ∃ τ r', fin E0 Tryd.f52 0 τ s = some (r', []) ∧ r'.ro = (.i .i64 r)
mutual
def wide_Wide_Right.j0 : Nat → Int → Int → Int → Int → Int → Option (Int × Int × Bool)
  | 0, _, _, _, _, _ => none
  | k + 1, n_1, h0_0, h0_1, h2_0, h2_1 => ((wide_Wide_Left.f h2_0 h2_1 n_1).bind fun q7 => (if (!(q7.1 == h0_0) || (!(q7.2 == h0_1))) = true then (some (h2_0, h2_1, true)) else (if n_1 ≥ 128 then ((wide_Wide_Zero.f h0_0 h0_1).bind fun q10 => (some (h2_0, h2_1, (!q10)))) else (some (h2_0, h2_1, false)))))
end
def wide_Wide_Right.f (k : Nat) (a0_0 : Int) (a0_1 : Int) (a1 : Int) : Option (Int × Int × Bool) := (if a1 ≤ 0 then (some (a0_0, a0_1, false)) else (if a1 ≥ 128 then (wide_Wide_Right.j0 k a1 a0_0 a0_1 0 0) else (if a1 ≥ 64 then (if 0 ≤ (wrap64 (a1 - 64)) then (wide_Wide_Right.j0 k a1 a0_0 a0_1 0 (shr .u64 a0_0 (wrap64 (a1 - 64)))) else none) else (if 0 ≤ a1 then (if 0 ≤ (wrap64 (64 - a1)) then (wide_Wide_Right.j0 k a1 a0_0 a0_1 (shr .u64 a0_0 a1) (Go.bits .or .u64 (shl .u64 a0_0 (wrap64 (64 - a1))) (shr .u64 a0_1 a1))) else none) else none))))
def wide_Wide_Right.Q (a0_0 : Int) (a0_1 : Int) (a1 : Int) (r : Int × Int × Bool) : S → Prop := fun s => ∃ τ r', fin E0 Tryd.f53 0 τ s = some (r', []) ∧ r'.ro = (.t [.a [.i .u64 r.1, .i .u64 r.2.1], .b r.2.2])
def round_split.f (k : Nat) (a0_0 : Int) (a0_1 : Int) (a1 : Int) (a2 : Bool) : Option (Bool × Bool) := (if a1 > 128 then (some (false, a2)) else ((wide_Wide_Right.f k a0_0 a0_1 (wrap64 (a1 - 1))).bind fun q2 => (some (((Go.bits .and .u64 q2.2.1 1) == 1), q2.2.2))))
def round_split.Q (a0_0 : Int) (a0_1 : Int) (a1 : Int) (a2 : Bool) (r : Bool × Bool) : S → Prop := fun s => ∃ τ r', fin E0 Tryd.f54 0 τ s = some (r', []) ∧ r'.ro = (.t [.b r.1, .b r.2])
def wide_Wide_Add.f (a0_0 : Int) (a0_1 : Int) (a1_0 : Int) (a1_1 : Int) : Option (Int × Int × Bool) := ((bits_Add64.f a0_1 a1_1 0).bind fun q1 => ((bits_Add64.f a0_0 a1_0 q1.2).bind fun q2 => (some (q2.1, q1.1, (q2.2 == 1)))))
def wide_Wide_Add.Q (a0_0 : Int) (a0_1 : Int) (a1_0 : Int) (a1_1 : Int) (r : Int × Int × Bool) : S → Prop := fun s => ∃ τ r', fin E0 Tryd.f27 0 τ s = some (r', []) ∧ r'.ro = (.t [.a [.i .u64 r.1, .i .u64 r.2.1], .b r.2.2])
mutual
def round_Round.j0 : Nat → Bool → Int → Bool → Int → Bool → Int → Int → Option (Int × Int)
  | 0, _, _, _, _, _, _, _ => none
  | k + 1, neg_0, exp_2, more_3, drop_10, tiny_11, h0_0, h0_1 => (if drop_10 > 0 then ((wide_Wide_Right.f k h0_0 h0_1 drop_10).bind fun q10 => ((round_split.f k h0_0 h0_1 drop_10 q10.2.2).bind fun q11 => (if q11.1 = true then (round_Round.j1 k neg_0 exp_2 more_3 drop_10 tiny_11 true true q11.2 q10.1 q10.2.1) else (if q11.2 = true then (round_Round.j1 k neg_0 exp_2 more_3 drop_10 tiny_11 true false true q10.1 q10.2.1) else (round_Round.j1 k neg_0 exp_2 more_3 drop_10 tiny_11 more_3 false false q10.1 q10.2.1))))) else (if drop_10 < 0 then (round_Round.j3 k neg_0 exp_2 drop_10 tiny_11 more_3 (!more_3) h0_0 h0_1) else (round_Round.j3 k neg_0 exp_2 drop_10 tiny_11 more_3 false h0_0 h0_1)))
def round_Round.j1 : Nat → Bool → Int → Bool → Int → Bool → Bool → Bool → Bool → Int → Int → Option (Int × Int)
  | 0, _, _, _, _, _, _, _, _, _, _ => none
  | k + 1, neg_0, exp_2, more_3, drop_10, tiny_11, lost_12, half_13, fell_15, h1_0, h1_1 => (if half_13 = true then (if fell_15 = true then (round_Round.j2 k neg_0 exp_2 drop_10 tiny_11 lost_12 true h1_0 h1_1) else (if more_3 = true then (round_Round.j2 k neg_0 exp_2 drop_10 tiny_11 lost_12 true h1_0 h1_1) else (round_Round.j2 k neg_0 exp_2 drop_10 tiny_11 lost_12 ((Go.bits .and .u64 h1_1 1) == 1) h1_0 h1_1))) else (round_Round.j2 k neg_0 exp_2 drop_10 tiny_11 lost_12 false h1_0 h1_1))
def round_Round.j3 : Nat → Bool → Int → Int → Bool → Bool → Bool → Int → Int → Option (Int × Int)
  | 0, _, _, _, _, _, _, _, _ => none
  | k + 1, neg_0, exp_2, drop_10, tiny_11, lost_12, t_91, h0_0, h0_1 => (if t_91 = true then ((wide_Wide_Left.f h0_0 h0_1 (wrap64 (-drop_10))).bind fun q19 => (round_Round.j4 k neg_0 exp_2 drop_10 tiny_11 lost_12 q19.1 q19.2)) else (if drop_10 < 0 then ((wide_Wide_Left.f h0_0 h0_1 (wrap64 (-drop_10))).bind fun q21 => (round_Round.j4 k neg_0 exp_2 drop_10 tiny_11 lost_12 q21.1 q21.2)) else (round_Round.j4 k neg_0 exp_2 drop_10 tiny_11 lost_12 h0_0 h0_1)))
def round_Round.j2 : Nat → Bool → Int → Int → Bool → Bool → Bool → Int → Int → Option (Int × Int)
  | 0, _, _, _, _, _, _, _, _ => none
  | k + 1, neg_0, exp_2, drop_10, tiny_11, lost_12, t_79, h0_0, h0_1 => (if t_79 = true then ((wide_Wide_Add.f h0_0 h0_1 0 1).bind fun q23 => (round_Round.j4 k neg_0 exp_2 drop_10 tiny_11 lost_12 q23.1 q23.2.1)) else (round_Round.j4 k neg_0 exp_2 drop_10 tiny_11 lost_12 h0_0 h0_1))
def round_Round.j4 : Nat → Bool → Int → Int → Bool → Bool → Int → Int → Option (Int × Int)
  | 0, _, _, _, _, _, _, _ => none
  | k + 1, neg_0, exp_2, drop_10, tiny_11, lost_12, h0_0, h0_1 => (if h0_1 = 9007199254740992 then (round_Round.j5 k neg_0 (wrap64 ((wrap64 (exp_2 + drop_10)) + 1)) tiny_11 lost_12 (h0_1 / 2)) else (round_Round.j5 k neg_0 (wrap64 (exp_2 + drop_10)) tiny_11 lost_12 h0_1))
def round_Round.j5 : Nat → Bool → Int → Bool → Bool → Int → Option (Int × Int)
  | 0, _, _, _, _, _ => none
  | k + 1, neg_0, exp_2, tiny_11, lost_12, m_16 => (if lost_12 = true then (if tiny_11 = true then (round_Round.j6 k neg_0 exp_2 m_16 (Go.bits .or .u8 (Go.bits .or .u8 0 1) 2)) else (round_Round.j6 k neg_0 exp_2 m_16 (Go.bits .or .u8 0 1))) else (round_Round.j6 k neg_0 exp_2 m_16 0))
def round_Round.j6 : Nat → Bool → Int → Int → Int → Option (Int × Int)
  | 0, _, _, _, _ => none
  | k + 1, neg_0, exp_2, m_16, f_17 => (if m_16 < 4503599627370496 then ((word_Make.f neg_0 0 m_16).bind fun q28 => (some (q28, f_17))) else (if (wrap64 (exp_2 + 1075)) ≥ 2047 then ((word_Make.f neg_0 2047 0).bind fun q30 => (some (q30, (Go.bits .or .u8 (Go.bits .or .u8 f_17 4) 1)))) else ((word_Make.f neg_0 (wrap64 (exp_2 + 1075)) m_16).bind fun q31 => (some (q31, f_17)))))
end
def round_Round.f (k : Nat) (a0 : Bool) (a1_0 : Int) (a1_1 : Int) (a2 : Int) (a3 : Bool) : Option (Int × Int) := ((wide_Wide_Zero.f a1_0 a1_1).bind fun q1 => (if q1 = true then (if a3 = true then ((word_Make.f a0 0 0).bind fun q4 => (some (q4, 3))) else ((word_Make.f a0 0 0).bind fun q5 => (some (q5, 0)))) else ((wide_Wide_Len.f k a1_0 a1_1).bind fun q6 => ((wide_Wide_Len.f k a1_0 a1_1).bind fun q7 => (if (wrap64 ((mx (-100000) (mn a2 100000)) + (wrap64 (q6 - 53)))) < (-1074) then (round_Round.j0 k a0 (mx (-100000) (mn a2 100000)) a3 (wrap64 ((-1074) - (mx (-100000) (mn a2 100000)))) (decide ((wrap64 ((mx (-100000) (mn a2 100000)) + q7)) < (-1021))) a1_0 a1_1) else (round_Round.j0 k a0 (mx (-100000) (mn a2 100000)) a3 (wrap64 (q6 - 53)) (decide ((wrap64 ((mx (-100000) (mn a2 100000)) + q7)) < (-1021))) a1_0 a1_1))))))
def round_Round.Q (a0 : Bool) (a1_0 : Int) (a1_1 : Int) (a2 : Int) (a3 : Bool) (r : Int × Int) : S → Prop := fun s => ∃ τ r', fin E0 Tryd.f29 0 τ s = some (r', []) ∧ r'.ro = (.t [.i .u64 r.1, .i .u8 r.2])
mutual
def more_Sqrt.j0 : Nat → Int → Bool → Option (Int × Int)
  | 0, _, _ => none
  | k + 1, a_0, t_15 => (if t_15 = true then (some (a_0, 0)) else ((word_Neg.f a_0).bind fun q8 => (if q8 = true then (some (9221120237041090560, 16)) else ((word_Parts.f k a_0).bind fun q10 => ((bits_Len64.f k q10.1).bind fun q11 => (if (Go.bits .and .i64 (wrap64 (q10.2 - (wrap64 (127 - q11)))) 1) = 0 then ((wide_Wide_Left.f 0 q10.1 (wrap64 (127 - q11))).bind fun q13 => ((wide_Wide_Sqrt.f k q13.1 q13.2).bind fun q14 => ((round_Round.f k false 0 q14.1 (wrap64 (Int.tdiv (wrap64 (q10.2 - (wrap64 (127 - q11)))) 2)) (!q14.2)).bind fun q15 => (some (q15.1, q15.2))))) else ((wide_Wide_Left.f 0 q10.1 (wrap64 ((wrap64 (127 - q11)) - 1))).bind fun q16 => ((wide_Wide_Sqrt.f k q16.1 q16.2).bind fun q17 => ((round_Round.f k false 0 q17.1 (wrap64 (Int.tdiv (wrap64 (q10.2 - (wrap64 ((wrap64 (127 - q11)) - 1)))) 2)) (!q17.2)).bind fun q18 => (some (q18.1, q18.2)))))))))))
end
def more_Sqrt.f (k : Nat) (a0 : Int) : Option (Int × Int) := ((word_Kind.f k a0).bind fun q1 => (if q1 = 5 then ((word_Signals.f k a0).bind fun q3 => (if q3 = true then (some (9221120237041090560, 16)) else (some (9221120237041090560, 0)))) else ((word_Kind.f k a0).bind fun q5 => (if q5 = 1 then (more_Sqrt.j0 k a0 true) else (more_Sqrt.j0 k a0 (a0 == 9218868437227405312))))))
def more_Sqrt.Q (a0 : Int) (r : Int × Int) : S → Prop := fun s => ∃ τ r', fin E0 Tryd.f45 0 τ s = some (r', []) ∧ r'.ro = (.t [.i .u64 r.1, .i .u8 r.2])
def soft_Calc_note.f (s0_0 : Int) (a1 : Int) (a2 : Int) : Option (Int × Int) := (some (a1, (Go.bits .or .u8 s0_0 a2)))
def soft_Calc_note.Q (s0_0 : Int) (a1 : Int) (a2 : Int) (r : Int × Int) : S → Prop := fun s => ∃ τ r', fin E0 Tryd.f64 1 τ s = some (r', [.row [.i .u8 r.2] 0 0 true false none]) ∧ r'.ro = (.i .u64 r.1)
def soft_Calc_Note.f (s0_0 : Int) (a1 : Int) (a2 : Int) : Option (Int × Int) := ((soft_Calc_note.f s0_0 a1 a2).bind fun q1 => (some (q1.1, q1.2)))
def soft_Calc_Note.Q (s0_0 : Int) (a1 : Int) (a2 : Int) (r : Int × Int) : S → Prop := fun s => ∃ τ r', fin E0 Tryd.f35 1 τ s = some (r', [.row [.i .u8 r.2] 0 0 true false none]) ∧ r'.ro = (.i .u64 r.1)
mutual
def soft_nan.l0 : Nat → Int → Bool → List Int → Int → Int → Option (Int × Int × Bool)
  | 0, _, _, _, _, _ => none
  | k + 1, f_5, is_6, t_9, t_10, t_11 => (if t_11 < t_10 then (if 0 ≤ t_11 then (if t_11 < (t_9.length : Int) then ((word_Kind.f k (rd t_9 t_11)).bind fun q4 => (if q4 = 5 then ((word_Signals.f k (rd t_9 t_11)).bind fun q6 => (if q6 = true then (soft_nan.l0 k 16 true t_9 t_10 (wrap64 (t_11 + 1))) else (soft_nan.l0 k f_5 true t_9 t_10 (wrap64 (t_11 + 1))))) else (soft_nan.l0 k f_5 is_6 t_9 t_10 (wrap64 (t_11 + 1))))) else none) else none) else (some (9221120237041090560, f_5, is_6)))
end
def soft_nan.f (k : Nat) (l0 : List Int) : Option (Int × Int × Bool) := (soft_nan.l0 k 0 false l0 (l0.length : Int) 0)
def soft_nan.Q (l0 : List Int) (r : Int × Int × Bool) : S → Prop := fun s => ∃ τ r', fin E0 Tryd.f80 0 τ s = some (r', []) ∧ r'.ro = (.t [.i .u64 r.1, .i .u8 r.2.1, .b r.2.2])
mutual
def soft_Mul.j0 : Nat → Int → Int → Bool → Int → Int → Bool → Option (Int × Int)
  | 0, _, _, _, _, _, _ => none
  | k + 1, a_0, b_1, neg_9, x_10, y_11, t_36 => (if t_36 = true then (some (9221120237041090560, 16)) else (if x_10 = 4 then (soft_Mul.j1 k a_0 b_1 neg_9 true) else (soft_Mul.j1 k a_0 b_1 neg_9 (y_11 == 4))))
def soft_Mul.j1 : Nat → Int → Int → Bool → Bool → Option (Int × Int)
  | 0, _, _, _, _ => none
  | k + 1, a_0, b_1, neg_9, t_51 => (if t_51 = true then ((word_Make.f neg_9 2047 0).bind fun q14 => (some (q14, 0))) else ((word_Parts.f k a_0).bind fun q15 => ((word_Parts.f k b_1).bind fun q16 => ((wide_Mul.f q15.1 q16.1).bind fun q17 => ((round_Round.f k neg_9 q17.1 q17.2 (wrap64 (q15.2 + q16.2)) false).bind fun q18 => (some (q18.1, q18.2)))))))
end
def soft_Mul.f (k : Nat) (a0 : Int) (a1 : Int) : Option (Int × Int) := ((soft_nan.f k ([a0, a1] : List Int)).bind fun q1 => (if q1.2.2 = true then (some (q1.1, q1.2.1)) else ((word_Neg.f a0).bind fun q3 => ((word_Neg.f a1).bind fun q4 => ((word_Kind.f k a0).bind fun q5 => ((word_Kind.f k a1).bind fun q6 => (if q5 = 4 then (if q6 = 1 then (soft_Mul.j0 k a0 a1 (q3 != q4) q5 q6 true) else (if q5 = 1 then (soft_Mul.j0 k a0 a1 (q3 != q4) q5 q6 (q6 == 4)) else (soft_Mul.j0 k a0 a1 (q3 != q4) q5 q6 false))) else (if q5 = 1 then (soft_Mul.j0 k a0 a1 (q3 != q4) q5 q6 (q6 == 4)) else (soft_Mul.j0 k a0 a1 (q3 != q4) q5 q6 false)))))))))
def soft_Mul.Q (a0 : Int) (a1 : Int) (r : Int × Int) : S → Prop := fun s => ∃ τ r', fin E0 Tryd.f71 0 τ s = some (r', []) ∧ r'.ro = (.t [.i .u64 r.1, .i .u8 r.2])
def soft_Calc_Mul.f (k : Nat) (s0_0 : Int) (a1 : Int) (a2 : Int) : Option (Int × Int) := ((soft_Mul.f k a1 a2).bind fun q1 => ((soft_Calc_note.f s0_0 q1.1 q1.2).bind fun q2 => (some (q2.1, q2.2))))
def soft_Calc_Mul.Q (s0_0 : Int) (a1 : Int) (a2 : Int) (r : Int × Int) : S → Prop := fun s => ∃ τ r', fin E0 Tryd.f46 1 τ s = some (r', [.row [.i .u8 r.2] 0 0 true false none]) ∧ r'.ro = (.i .u64 r.1)
def block_Values.f (k : Nat) (a0_0 : Int) (a0_1 : Int) (a0_2 : Int) (a0_3 : Int) : Option (Int × Int × Int × Int × Int) := ((word_Kind.f k a0_2).bind fun q1 => (if q1 = 1 then (some (a0_0, 0, a0_3, 0, 0)) else ((word_Abs.f a0_1).bind fun q3 => ((more_Sqrt.f k q3).bind fun q4 => ((soft_Calc_Note.f 0 q4.1 q4.2).bind fun q5 => ((word_Abs.f a0_2).bind fun q6 => ((more_Sqrt.f k q6).bind fun q7 => ((soft_Calc_Note.f q5.2 q7.1 q7.2).bind fun q8 => ((soft_Calc_Mul.f k q8.2 q5.1 q8.1).bind fun q9 => ((word_Flip.f q9.1).bind fun q10 => (some (a0_0, q9.1, a0_3, q10, q9.2))))))))))))
def block_Values.Q (a0_0 : Int) (a0_1 : Int) (a0_2 : Int) (a0_3 : Int) (r : Int × Int × Int × Int × Int) : S → Prop := fun s => ∃ τ r', fin E0 Tryd.f25 0 τ s = some (r', []) ∧ r'.ro = (.t [.a [.i .u64 r.1, .i .u64 r.2.1, .i .u64 r.2.2.1, .i .u64 r.2.2.2.1], .i .u8 r.2.2.2.2])
def block_Two_Plain.f (k : Nat) (a0_0 : Int) (a0_1 : Int) (a0_2 : Int) (a0_3 : Int) : Option (Bool) := ((word_Kind.f k a0_2).bind fun q1 => (if q1 = 1 then (some (true)) else (if a0_0 = a0_3 then ((word_Kind.f k a0_1).bind fun q4 => (if q4 = 1 then (some (false)) else ((word_Neg.f a0_1).bind fun q6 => ((word_Neg.f a0_2).bind fun q7 => (some ((q6 != q7))))))) else (some (false)))))
def block_Two_Plain.Q (a0_0 : Int) (a0_1 : Int) (a0_2 : Int) (a0_3 : Int) (r : Bool) : S → Prop := fun s => ∃ τ r', fin E0 Tryd.f14 0 τ s = some (r', []) ∧ r'.ro = (.b r)
def gimballaw15_head.f (k : Nat)  : Option (Bool) := ((word_Flip.f 4607182418800017408).bind fun q1 => ((block_Values.f k 0 4607182418800017408 q1 0).bind fun q2 => ((block_Two_Plain.f k 0 4607182418800017408 q1 0).bind fun q3 => (if q3 = true then (if q2.2.2.2.2 = 0 then (if ((q2.1 == 0) && ((q2.2.1 == 4607182418800017408))) = true then ((word_Flip.f 4607182418800017408).bind fun q7 => (some (((q2.2.2.1 == 0) && ((q2.2.2.2.1 == q7)))))) else (some (false))) else (some (false))) else (some (false))))))
def gimballaw15_head.Q  (r : Bool) : S → Prop := fun s => ∃ τ r', fin E0 Tryd.f6 0 τ s = some (r', []) ∧ r'.ro = (.b r)
def block_Two_list.f (a0_0 : Int) (a0_1 : Int) (a0_2 : Int) (a0_3 : Int) : Option ((List Int)) := (some (([a0_0, a0_1, a0_2, a0_3] : List Int)))
def block_Two_list.Q (a0_0 : Int) (a0_1 : Int) (a0_2 : Int) (a0_3 : Int) (r : (List Int)) : S → Prop := fun s => ∃ τ r', fin E0 Tryd.f30 0 τ s = some (r', [.row (r.map (V.i .u64)) 2 1 true true none]) ∧ r'.ro = (.s (some (0, 0)) r.length)
def word_Finite.f (a0 : Int) : Option (Bool) := ((word_Exp.f a0).bind fun q1 => (some ((decide (q1 < 2047)))))
def word_Finite.Q (a0 : Int) (r : Bool) : S → Prop := fun s => ∃ τ r', fin E0 Tryd.f13 0 τ s = some (r', []) ∧ r'.ro = (.b r)
mutual
def order_Greatest.l0 : Nat → Int → Int → List Int → Int → Int → Option (Int × Int)
  | 0, _, _, _, _, _ => none
  | k + 1, best_4, at_5, t_8, t_9, t_10 => (if t_10 < t_9 then (if 0 ≤ t_10 then (if t_10 < (t_8.length : Int) then ((word_Kind.f k (rd t_8 t_10)).bind fun q4 => (if q4 = 5 then (some (9221120237041090560, t_10)) else (if at_5 < 0 then ((word_Abs.f (rd t_8 t_10)).bind fun q7 => (order_Greatest.l0 k q7 t_10 t_8 t_9 (wrap64 (t_10 + 1)))) else ((word_Abs.f (rd t_8 t_10)).bind fun q8 => (if q8 > best_4 then ((word_Abs.f (rd t_8 t_10)).bind fun q10 => (order_Greatest.l0 k q10 t_10 t_8 t_9 (wrap64 (t_10 + 1)))) else (order_Greatest.l0 k best_4 at_5 t_8 t_9 (wrap64 (t_10 + 1)))))))) else none) else none) else (some (best_4, at_5)))
end
def order_Greatest.f (k : Nat) (l0 : List Int) : Option (Int × Int) := (order_Greatest.l0 k 0 (-1) l0 (l0.length : Int) 0)
def order_Greatest.Q (l0 : List Int) (r : Int × Int) : S → Prop := fun s => ∃ τ r', fin E0 Tryd.f55 0 τ s = some (r', []) ∧ r'.ro = (.t [.i .u64 r.1, .i .i64 r.2])
mutual
def vec_Power.l0 : Nat → Int → Int → Option (Int × Bool)
  | 0, _, _ => none
  | k + 1, n_6, e_7 => (if n_6 > 1 then (vec_Power.l0 k (n_6 / 2) (wrap64 (e_7 + 1))) else (some (e_7, true)))
end
def vec_Power.f (k : Nat) (l0 : List Int) : Option (Int × Bool) := ((order_Greatest.f k l0).bind fun q1 => ((word_Parts.f k q1.1).bind fun q2 => (if q2.1 = 0 then (some (0, false)) else (vec_Power.l0 k q2.1 q2.2))))
def vec_Power.Q (l0 : List Int) (r : Int × Bool) : S → Prop := fun s => ∃ τ r', fin E0 Tryd.f31 0 τ s = some (r', []) ∧ r'.ro = (.t [.i .i64 r.1, .b r.2])
mutual
def more_Scale.j0 : Nat → Int → Int → Bool → Option (Int × Int)
  | 0, _, _, _ => none
  | k + 1, a_0, n_1, t_14 => (if t_14 = true then (some (a_0, 0)) else ((word_Parts.f k a_0).bind fun q7 => ((word_Neg.f a_0).bind fun q8 => ((round_Round.f k q8 0 q7.1 (wrap64 (q7.2 + (mx (-10000) (mn n_1 10000)))) false).bind fun q9 => (some (q9.1, q9.2))))))
end
def more_Scale.f (k : Nat) (a0 : Int) (a1 : Int) : Option (Int × Int) := ((word_Kind.f k a0).bind fun q1 => (if q1 = 5 then ((word_Signals.f k a0).bind fun q3 => (if q3 = true then (some (9221120237041090560, 16)) else (some (9221120237041090560, 0)))) else (if q1 = 4 then (more_Scale.j0 k a0 a1 true) else (more_Scale.j0 k a0 a1 (q1 == 1)))))
def more_Scale.Q (a0 : Int) (a1 : Int) (r : Int × Int) : S → Prop := fun s => ∃ τ r', fin E0 Tryd.f36 0 τ s = some (r', []) ∧ r'.ro = (.t [.i .u64 r.1, .i .u8 r.2])
mutual
def vec_Unit.l0 : Nat → Int → List Int → List Int → Int → Int → Option ((List Int))
  | 0, _, _, _, _, _ => none
  | k + 1, e_1, h0, t_13, t_14, t_15 => (if t_15 < t_14 then (if 0 ≤ t_15 then (if t_15 < (t_13.length : Int) then ((more_Scale.f k (rd t_13 t_15) (wrap64 (-e_1))).bind fun q4 => (if h0.length < 17592186044416 then (vec_Unit.l0 k e_1 (h0 ++ ([q4.1] : List Int)) t_13 t_14 (wrap64 (t_15 + 1))) else none)) else none) else none) else (some (h0)))
end
def vec_Unit.f (k : Nat) (l0 : List Int) (a1 : Int) : Option ((List Int)) := (vec_Unit.l0 k (mx (-20000) (mn a1 20000)) ([] : List Int) l0 (l0.length : Int) 0)
def vec_Unit.Q (l0 : List Int) (a1 : Int) (r : (List Int)) : S → Prop := fun s => ∃ τ r', fin E0 Tryd.f32 0 τ s = some (r', [.row (r.map (V.i .u64)) 2 1 true true none]) ∧ r'.ro = (.s (some (0, 0)) r.length)
def wide_Wide_Sub.f (a0_0 : Int) (a0_1 : Int) (a1_0 : Int) (a1_1 : Int) : Option (Int × Int × Bool) := ((bits_Sub64.f a0_1 a1_1 0).bind fun q1 => ((bits_Sub64.f a0_0 a1_0 q1.2).bind fun q2 => (some (q2.1, q1.1, (q2.2 == 1)))))
def wide_Wide_Sub.Q (a0_0 : Int) (a0_1 : Int) (a1_0 : Int) (a1_1 : Int) (r : Int × Int × Bool) : S → Prop := fun s => ∃ τ r', fin E0 Tryd.f81 0 τ s = some (r', []) ∧ r'.ro = (.t [.a [.i .u64 r.1, .i .u64 r.2.1], .b r.2.2])
mutual
def soft_Add.j0 : Nat → Int → Int → Int → Int → Bool → Option (Int × Int)
  | 0, _, _, _, _, _ => none
  | k + 1, a_0, b_1, x_9, y_10, t_37 => (if t_37 = true then (some (9221120237041090560, 16)) else (if x_9 = 4 then (some (a_0, 0)) else (if y_10 = 4 then (some (b_1, 0)) else (if x_9 = 1 then (soft_Add.j1 k a_0 b_1 x_9 y_10 (y_10 == 1)) else (soft_Add.j1 k a_0 b_1 x_9 y_10 false)))))
def soft_Add.j1 : Nat → Int → Int → Int → Int → Bool → Option (Int × Int)
  | 0, _, _, _, _, _ => none
  | k + 1, a_0, b_1, x_9, y_10, t_57 => (if t_57 = true then (some ((Go.bits .and .u64 a_0 b_1), 0)) else (if x_9 = 1 then (some (b_1, 0)) else (if y_10 = 1 then (some (a_0, 0)) else ((word_Abs.f a_0).bind fun q14 => ((word_Abs.f b_1).bind fun q15 => (if q14 < q15 then (soft_Add.j2 k b_1 a_0) else (soft_Add.j2 k a_0 b_1)))))))
def soft_Add.j2 : Nat → Int → Int → Option (Int × Int)
  | 0, _, _ => none
  | k + 1, a_0, b_1 => ((word_Parts.f k a_0).bind fun q17 => ((word_Parts.f k b_1).bind fun q18 => ((wide_Wide_Left.f 0 q17.1 64).bind fun q19 => ((wide_Wide_Left.f 0 q18.1 64).bind fun q20 => ((wide_Wide_Right.f k q20.1 q20.2 (wrap64 (q17.2 - q18.2))).bind fun q21 => ((word_Neg.f a_0).bind fun q22 => ((word_Neg.f b_1).bind fun q23 => (if (q22 == q23) = true then ((wide_Wide_Add.f q19.1 q19.2 q21.1 q21.2.1).bind fun q25 => ((word_Neg.f a_0).bind fun q26 => ((round_Round.f k q26 q25.1 q25.2.1 (wrap64 (q17.2 - 64)) q21.2.2).bind fun q27 => (some (q27.1, q27.2))))) else (if q21.2.2 = true then ((wide_Wide_Add.f q21.1 q21.2.1 0 1).bind fun q29 => (soft_Add.j3 k a_0 q17.2 true q19.1 q19.2 q29.1 q29.2.1)) else (soft_Add.j3 k a_0 q17.2 false q19.1 q19.2 q21.1 q21.2.1))))))))))
def soft_Add.j3 : Nat → Int → Int → Bool → Int → Int → Int → Int → Option (Int × Int)
  | 0, _, _, _, _, _, _, _ => none
  | k + 1, a_0, e_12, low_17, h0_0, h0_1, h1_0, h1_1 => ((wide_Wide_Sub.f h0_0 h0_1 h1_0 h1_1).bind fun q30 => ((wide_Wide_Zero.f q30.1 q30.2.1).bind fun q31 => (if q31 = true then (soft_Add.j4 k a_0 e_12 low_17 (!low_17) q30.1 q30.2.1) else (soft_Add.j4 k a_0 e_12 low_17 false q30.1 q30.2.1))))
def soft_Add.j4 : Nat → Int → Int → Bool → Bool → Int → Int → Option (Int × Int)
  | 0, _, _, _, _, _, _ => none
  | k + 1, a_0, e_12, low_17, t_143, h0_0, h0_1 => (if t_143 = true then (some (0, 0)) else ((word_Neg.f a_0).bind fun q34 => ((round_Round.f k q34 h0_0 h0_1 (wrap64 (e_12 - 64)) low_17).bind fun q35 => (some (q35.1, q35.2)))))
end
def soft_Add.f (k : Nat) (a0 : Int) (a1 : Int) : Option (Int × Int) := ((soft_nan.f k ([a0, a1] : List Int)).bind fun q1 => (if q1.2.2 = true then (some (q1.1, q1.2.1)) else ((word_Kind.f k a0).bind fun q3 => ((word_Kind.f k a1).bind fun q4 => (if q3 = 4 then (if q4 = 4 then (soft_Add.j0 k a0 a1 q3 q4 (a0 != a1)) else (soft_Add.j0 k a0 a1 q3 q4 false)) else (soft_Add.j0 k a0 a1 q3 q4 false))))))
def soft_Add.Q (a0 : Int) (a1 : Int) (r : Int × Int) : S → Prop := fun s => ∃ τ r', fin E0 Tryd.f73 0 τ s = some (r', []) ∧ r'.ro = (.t [.i .u64 r.1, .i .u8 r.2])
def soft_Sub.f (k : Nat) (a0 : Int) (a1 : Int) : Option (Int × Int) := ((word_Flip.f a1).bind fun q1 => ((soft_Add.f k a0 q1).bind fun q2 => (some (q2.1, q2.2))))
def soft_Sub.Q (a0 : Int) (a1 : Int) (r : Int × Int) : S → Prop := fun s => ∃ τ r', fin E0 Tryd.f72 0 τ s = some (r', []) ∧ r'.ro = (.t [.i .u64 r.1, .i .u8 r.2])
def soft_Calc_Sub.f (k : Nat) (s0_0 : Int) (a1 : Int) (a2 : Int) : Option (Int × Int) := ((soft_Sub.f k a1 a2).bind fun q1 => ((soft_Calc_note.f s0_0 q1.1 q1.2).bind fun q2 => (some (q2.1, q2.2))))
def soft_Calc_Sub.Q (s0_0 : Int) (a1 : Int) (a2 : Int) (r : Int × Int) : S → Prop := fun s => ∃ τ r', fin E0 Tryd.f57 1 τ s = some (r', [.row [.i .u8 r.2] 0 0 true false none]) ∧ r'.ro = (.i .u64 r.1)
def bits_LeadingZeros64.f (k : Nat) (a0 : Int) : Option (Int) := ((bits_Len64.f k a0).bind fun q1 => (some ((wrap64 (64 - q1)))))
def bits_LeadingZeros64.Q (a0 : Int) (r : Int) : S → Prop := fun s => ∃ τ r', fin E0 Tryd.f87 0 τ s = some (r', []) ∧ r'.ro = (.i .i64 r)
mutual
def bits_Div64.l0 : Nat → Int → Int → Int → Int → Int → Int → Int → Int → Int → Option (Int × Int)
  | 0, _, _, _, _, _, _, _, _, _ => none
  | k + 1, y_2, s_8, yn1_9, yn0_10, un32_11, un1_13, un0_14, q1_15, rhat_16 => (if q1_15 ≥ 4294967296 then (bits_Div64.j1 k y_2 s_8 yn1_9 yn0_10 un32_11 un1_13 un0_14 q1_15 rhat_16 true) else (bits_Div64.j1 k y_2 s_8 yn1_9 yn0_10 un32_11 un1_13 un0_14 q1_15 rhat_16 (decide ((IntKind.u64.wrap (q1_15 * yn0_10)) > (IntKind.u64.wrap ((IntKind.u64.wrap (4294967296 * rhat_16)) + un1_13))))))
def bits_Div64.j1 : Nat → Int → Int → Int → Int → Int → Int → Int → Int → Int → Bool → Option (Int × Int)
  | 0, _, _, _, _, _, _, _, _, _, _ => none
  | k + 1, y_2, s_8, yn1_9, yn0_10, un32_11, un1_13, un0_14, q1_15, rhat_16, t_78 => (if t_78 = true then (if (IntKind.u64.wrap (rhat_16 + yn1_9)) ≥ 4294967296 then (bits_Div64.j2 k y_2 s_8 yn1_9 yn0_10 un32_11 un1_13 un0_14 (IntKind.u64.wrap (q1_15 - 1))) else (bits_Div64.l0 k y_2 s_8 yn1_9 yn0_10 un32_11 un1_13 un0_14 (IntKind.u64.wrap (q1_15 - 1)) (IntKind.u64.wrap (rhat_16 + yn1_9)))) else (bits_Div64.j2 k y_2 s_8 yn1_9 yn0_10 un32_11 un1_13 un0_14 q1_15))
def bits_Div64.j2 : Nat → Int → Int → Int → Int → Int → Int → Int → Int → Option (Int × Int)
  | 0, _, _, _, _, _, _, _, _ => none
  | k + 1, y_2, s_8, yn1_9, yn0_10, un32_11, un1_13, un0_14, q1_15 => (if yn1_9 = 0 then none else (bits_Div64.l1 k y_2 s_8 yn1_9 yn0_10 un0_14 q1_15 (IntKind.u64.wrap ((IntKind.u64.wrap ((IntKind.u64.wrap ((IntKind.u64.wrap (un32_11 * 4294967296)) + un1_13)) - (IntKind.u64.wrap (q1_15 * y_2)))) - (IntKind.u64.wrap ((IntKind.u64.wrap (Int.tdiv (IntKind.u64.wrap ((IntKind.u64.wrap ((IntKind.u64.wrap (un32_11 * 4294967296)) + un1_13)) - (IntKind.u64.wrap (q1_15 * y_2)))) yn1_9)) * yn1_9)))) (IntKind.u64.wrap ((IntKind.u64.wrap ((IntKind.u64.wrap (un32_11 * 4294967296)) + un1_13)) - (IntKind.u64.wrap (q1_15 * y_2)))) (IntKind.u64.wrap (Int.tdiv (IntKind.u64.wrap ((IntKind.u64.wrap ((IntKind.u64.wrap (un32_11 * 4294967296)) + un1_13)) - (IntKind.u64.wrap (q1_15 * y_2)))) yn1_9))))
def bits_Div64.l1 : Nat → Int → Int → Int → Int → Int → Int → Int → Int → Int → Option (Int × Int)
  | 0, _, _, _, _, _, _, _, _, _ => none
  | k + 1, y_2, s_8, yn1_9, yn0_10, un0_14, q1_15, rhat_16, un21_17, q0_18 => (if q0_18 ≥ 4294967296 then (bits_Div64.j4 k y_2 s_8 yn1_9 yn0_10 un0_14 q1_15 rhat_16 un21_17 q0_18 true) else (bits_Div64.j4 k y_2 s_8 yn1_9 yn0_10 un0_14 q1_15 rhat_16 un21_17 q0_18 (decide ((IntKind.u64.wrap (q0_18 * yn0_10)) > (IntKind.u64.wrap ((IntKind.u64.wrap (4294967296 * rhat_16)) + un0_14))))))
def bits_Div64.j4 : Nat → Int → Int → Int → Int → Int → Int → Int → Int → Int → Bool → Option (Int × Int)
  | 0, _, _, _, _, _, _, _, _, _, _ => none
  | k + 1, y_2, s_8, yn1_9, yn0_10, un0_14, q1_15, rhat_16, un21_17, q0_18, t_113 => (if t_113 = true then (if (IntKind.u64.wrap (rhat_16 + yn1_9)) ≥ 4294967296 then (if 0 ≤ s_8 then (some ((IntKind.u64.wrap ((IntKind.u64.wrap (q1_15 * 4294967296)) + (IntKind.u64.wrap (q0_18 - 1)))), (shr .u64 (IntKind.u64.wrap ((IntKind.u64.wrap ((IntKind.u64.wrap (un21_17 * 4294967296)) + un0_14)) - (IntKind.u64.wrap ((IntKind.u64.wrap (q0_18 - 1)) * y_2)))) s_8))) else none) else (bits_Div64.l1 k y_2 s_8 yn1_9 yn0_10 un0_14 q1_15 (IntKind.u64.wrap (rhat_16 + yn1_9)) un21_17 (IntKind.u64.wrap (q0_18 - 1)))) else (if 0 ≤ s_8 then (some ((IntKind.u64.wrap ((IntKind.u64.wrap (q1_15 * 4294967296)) + q0_18)), (shr .u64 (IntKind.u64.wrap ((IntKind.u64.wrap ((IntKind.u64.wrap (un21_17 * 4294967296)) + un0_14)) - (IntKind.u64.wrap (q0_18 * y_2)))) s_8))) else none))
end
def bits_Div64.f (k : Nat) (a0 : Int) (a1 : Int) (a2 : Int) : Option (Int × Int) := (if a2 = 0 then none else (if a2 ≤ a0 then none else (if a0 = 0 then (if a2 = 0 then none else (some ((IntKind.u64.wrap (Int.tdiv a1 a2)), (Int.tmod a1 a2)))) else ((bits_LeadingZeros64.f k a2).bind fun q5 => (if 0 ≤ (IntKind.u64.wrap (q5)) then (if 0 ≤ (IntKind.u64.wrap (64 - (IntKind.u64.wrap (q5)))) then (if ((shl .u64 a2 (IntKind.u64.wrap (q5))) / 4294967296) = 0 then none else (bits_Div64.l0 k (shl .u64 a2 (IntKind.u64.wrap (q5))) (IntKind.u64.wrap (q5)) ((shl .u64 a2 (IntKind.u64.wrap (q5))) / 4294967296) (Go.bits .and .u64 (shl .u64 a2 (IntKind.u64.wrap (q5))) 4294967295) (Go.bits .or .u64 (shl .u64 a0 (IntKind.u64.wrap (q5))) (shr .u64 a1 (IntKind.u64.wrap (64 - (IntKind.u64.wrap (q5)))))) ((shl .u64 a1 (IntKind.u64.wrap (q5))) / 4294967296) (Go.bits .and .u64 (shl .u64 a1 (IntKind.u64.wrap (q5))) 4294967295) (IntKind.u64.wrap (Int.tdiv (Go.bits .or .u64 (shl .u64 a0 (IntKind.u64.wrap (q5))) (shr .u64 a1 (IntKind.u64.wrap (64 - (IntKind.u64.wrap (q5)))))) ((shl .u64 a2 (IntKind.u64.wrap (q5))) / 4294967296))) (IntKind.u64.wrap ((Go.bits .or .u64 (shl .u64 a0 (IntKind.u64.wrap (q5))) (shr .u64 a1 (IntKind.u64.wrap (64 - (IntKind.u64.wrap (q5)))))) - (IntKind.u64.wrap ((IntKind.u64.wrap (Int.tdiv (Go.bits .or .u64 (shl .u64 a0 (IntKind.u64.wrap (q5))) (shr .u64 a1 (IntKind.u64.wrap (64 - (IntKind.u64.wrap (q5)))))) ((shl .u64 a2 (IntKind.u64.wrap (q5))) / 4294967296))) * ((shl .u64 a2 (IntKind.u64.wrap (q5))) / 4294967296))))))) else none) else none)))))
def bits_Div64.Q (a0 : Int) (a1 : Int) (a2 : Int) (r : Int × Int) : S → Prop := fun s => ∃ τ r', fin E0 Tryd.f86 0 τ s = some (r', []) ∧ r'.ro = (.t [.i .u64 r.1, .i .u64 r.2])
def wide_Wide_Div.f (k : Nat) (a0_0 : Int) (a0_1 : Int) (a1 : Int) : Option (Int × Int × Bool) := (if a0_0 ≥ a1 then (some (0, 0, false)) else ((bits_Div64.f k a0_0 a0_1 a1).bind fun q2 => (some (q2.1, q2.2, true))))
def wide_Wide_Div.Q (a0_0 : Int) (a0_1 : Int) (a1 : Int) (r : Int × Int × Bool) : S → Prop := fun s => ∃ τ r', fin E0 Tryd.f82 0 τ s = some (r', []) ∧ r'.ro = (.t [.i .u64 r.1, .i .u64 r.2.1, .b r.2.2])
mutual
def soft_Div.j0 : Nat → Int → Int → Bool → Int → Int → Bool → Option (Int × Int)
  | 0, _, _, _, _, _, _ => none
  | k + 1, a_0, b_1, neg_9, x_10, y_11, t_42 => (if t_42 = true then (some (9221120237041090560, 16)) else (if x_10 = 4 then ((word_Make.f neg_9 2047 0).bind fun q13 => (some (q13, 0))) else (if y_11 = 4 then (soft_Div.j1 k a_0 b_1 neg_9 y_11 true) else (soft_Div.j1 k a_0 b_1 neg_9 y_11 (x_10 == 1)))))
def soft_Div.j1 : Nat → Int → Int → Bool → Int → Bool → Option (Int × Int)
  | 0, _, _, _, _, _ => none
  | k + 1, a_0, b_1, neg_9, y_11, t_62 => (if t_62 = true then ((word_Make.f neg_9 0 0).bind fun q16 => (some (q16, 0))) else (if y_11 = 1 then ((word_Make.f neg_9 2047 0).bind fun q18 => (some (q18, 8))) else ((word_Parts.f k a_0).bind fun q19 => ((word_Parts.f k b_1).bind fun q20 => ((wide_Wide_Len.f k 0 q19.1).bind fun q21 => ((wide_Wide_Len.f k 0 q20.1).bind fun q22 => (if 0 ≤ (wrap64 ((wrap64 (53 - q21)) + 10)) then (if 0 ≤ (wrap64 (64 - q22)) then ((wide_Wide_Div.f k (shl .u64 q19.1 (wrap64 ((wrap64 (53 - q21)) + 10))) 0 (shl .u64 q20.1 (wrap64 (64 - q22)))).bind fun q25 => ((round_Round.f k neg_9 0 q25.1 (wrap64 ((wrap64 ((wrap64 ((wrap64 (q19.2 - (wrap64 (53 - q21)))) - 10)) - 64)) - (wrap64 (q20.2 - (wrap64 (64 - q22)))))) (q25.2.1 != 0)).bind fun q26 => (some (q26.1, q26.2)))) else none) else none)))))))
end
def soft_Div.f (k : Nat) (a0 : Int) (a1 : Int) : Option (Int × Int) := ((soft_nan.f k ([a0, a1] : List Int)).bind fun q1 => (if q1.2.2 = true then (some (q1.1, q1.2.1)) else ((word_Neg.f a0).bind fun q3 => ((word_Neg.f a1).bind fun q4 => ((word_Kind.f k a0).bind fun q5 => ((word_Kind.f k a1).bind fun q6 => (if q5 = 4 then (if q6 = 4 then (soft_Div.j0 k a0 a1 (q3 != q4) q5 q6 true) else (if q5 = 1 then (soft_Div.j0 k a0 a1 (q3 != q4) q5 q6 (q6 == 1)) else (soft_Div.j0 k a0 a1 (q3 != q4) q5 q6 false))) else (if q5 = 1 then (soft_Div.j0 k a0 a1 (q3 != q4) q5 q6 (q6 == 1)) else (soft_Div.j0 k a0 a1 (q3 != q4) q5 q6 false)))))))))
def soft_Div.Q (a0 : Int) (a1 : Int) (r : Int × Int) : S → Prop := fun s => ∃ τ r', fin E0 Tryd.f74 0 τ s = some (r', []) ∧ r'.ro = (.t [.i .u64 r.1, .i .u8 r.2])
def soft_Calc_Div.f (k : Nat) (s0_0 : Int) (a1 : Int) (a2 : Int) : Option (Int × Int) := ((soft_Div.f k a1 a2).bind fun q1 => ((soft_Calc_note.f s0_0 q1.1 q1.2).bind fun q2 => (some (q2.1, q2.2))))
def soft_Calc_Div.Q (s0_0 : Int) (a1 : Int) (a2 : Int) (r : Int × Int) : S → Prop := fun s => ∃ τ r', fin E0 Tryd.f59 1 τ s = some (r', [.row [.i .u8 r.2] 0 0 true false none]) ∧ r'.ro = (.i .u64 r.1)
def soft_Calc_Add.f (k : Nat) (s0_0 : Int) (a1 : Int) (a2 : Int) : Option (Int × Int) := ((soft_Add.f k a1 a2).bind fun q1 => ((soft_Calc_note.f s0_0 q1.1 q1.2).bind fun q2 => (some (q2.1, q2.2))))
def soft_Calc_Add.Q (s0_0 : Int) (a1 : Int) (a2 : Int) (r : Int × Int) : S → Prop := fun s => ∃ τ r', fin E0 Tryd.f58 1 τ s = some (r', [.row [.i .u8 r.2] 0 0 true false none]) ∧ r'.ro = (.i .u64 r.1)
def order_rank.f (a0 : Int) : Option (Int) := ((word_Neg.f a0).bind fun q1 => (if q1 = true then ((word_Abs.f a0).bind fun q3 => (some ((wrap64 (-(wrap64 (q3))))))) else (some ((wrap64 (a0))))))
def order_rank.Q (a0 : Int) (r : Int) : S → Prop := fun s => ∃ τ r', fin E0 Tryd.f83 0 τ s = some (r', []) ∧ r'.ro = (.i .i64 r)
mutual
def order_Cmp.j0 : Nat → Int → Int → Bool → Option (Int × Bool)
  | 0, _, _, _ => none
  | k + 1, a_0, b_1, t_15 => (if t_15 = true then (some (0, false)) else ((order_rank.f a_0).bind fun q5 => ((order_rank.f b_1).bind fun q6 => (if q5 < q6 then (some ((-1), true)) else (if q5 > q6 then (some (1, true)) else (some (0, true)))))))
end
def order_Cmp.f (k : Nat) (a0 : Int) (a1 : Int) : Option (Int × Bool) := ((word_Kind.f k a0).bind fun q1 => (if q1 = 5 then (order_Cmp.j0 k a0 a1 true) else ((word_Kind.f k a1).bind fun q3 => (order_Cmp.j0 k a0 a1 (q3 == 5)))))
def order_Cmp.Q (a0 : Int) (a1 : Int) (r : Int × Bool) : S → Prop := fun s => ∃ τ r', fin E0 Tryd.f75 0 τ s = some (r', []) ∧ r'.ro = (.t [.i .i64 r.1, .b r.2])
def order_Less.f (k : Nat) (a0 : Int) (a1 : Int) : Option (Bool) := ((order_Cmp.f k a0 a1).bind fun q1 => (if q1.2 = true then (some ((decide (q1.1 < 0)))) else (some (false))))
def order_Less.Q (a0 : Int) (a1 : Int) (r : Bool) : S → Prop := fun s => ∃ τ r', fin E0 Tryd.f60 0 τ s = some (r', []) ∧ r'.ro = (.b r)
def word_Sign.f (a0 : Int) (a1 : Int) : Option (Int) := ((word_Abs.f a0).bind fun q1 => (some ((Go.bits .or .u64 q1 (Go.bits .and .u64 a1 9223372036854775808)))))
def word_Sign.Q (a0 : Int) (a1 : Int) (r : Int) : S → Prop := fun s => ∃ τ r', fin E0 Tryd.f61 0 τ s = some (r', []) ∧ r'.ro = (.i .u64 r)
mutual
def vec_Nrm2.l0 : Nat → Int → Int → List Int → Int → Int → Int → Int → Option (Int × Int)
  | 0, _, _, _, _, _, _, _ => none
  | k + 1, e_5, sum_10, h2, t_32, t_33, h0, h1 => (if t_33 < t_32 then (if 0 ≤ t_33 then (if t_33 < (h2.length : Int) then ((soft_Calc_Mul.f k h1 (rd h2 t_33) (rd h2 t_33)).bind fun q8 => ((soft_Calc_Add.f k q8.2 sum_10 q8.1).bind fun q9 => (vec_Nrm2.l0 k e_5 q9.1 h2 t_32 (wrap64 (t_33 + 1)) h0 q9.2))) else none) else none) else ((more_Sqrt.f k sum_10).bind fun q10 => ((more_Scale.f k q10.1 e_5).bind fun q11 => ((soft_Calc_Note.f h0 q11.1 (Go.bits .or .u8 q11.2 (Go.bits .and .u8 1 h1))).bind fun q12 => (some (q12.1, q12.2))))))
end
def vec_Nrm2.f (k : Nat) (s0_0 : Int) (l1 : List Int) : Option (Int × Int) := ((vec_Power.f k l1).bind fun q1 => (if q1.2 = true then ((vec_Unit.f k l1 q1.1).bind fun q3 => (vec_Nrm2.l0 k q1.1 0 q3 (q3.length : Int) 0 s0_0 0)) else ((order_Greatest.f k l1).bind fun q4 => (some (q4.1, s0_0)))))
def vec_Nrm2.Q (s0_0 : Int) (l1 : List Int) (r : Int × Int) : S → Prop := fun s => ∃ τ r', fin E0 Tryd.f76 1 τ s = some (r', [.row [.i .u8 r.2] 0 0 true false none]) ∧ r'.ro = (.i .u64 r.1)
def plane_Hypot.f (k : Nat) (a0 : Int) (a1 : Int) : Option (Int × Int) := (if (Go.bits .andNot .u64 a0 9223372036854775808) = 9218868437227405312 then (some (9218868437227405312, 0)) else (if (Go.bits .andNot .u64 a1 9223372036854775808) = 9218868437227405312 then (some (9218868437227405312, 0)) else ((vec_Nrm2.f k 0 ([a0, a1] : List Int)).bind fun q3 => (some (q3.1, q3.2)))))
def plane_Hypot.Q (a0 : Int) (a1 : Int) (r : Int × Int) : S → Prop := fun s => ∃ τ r', fin E0 Tryd.f62 0 τ s = some (r', []) ∧ r'.ro = (.t [.i .u64 r.1, .i .u8 r.2])
def plane_Turn_Of.f (k : Nat) (a0_0 : Int) (a0_1 : Int) (s1_0 : Int) (a2 : Int) (a3 : Int) : Option (Int × Int × Int) := ((soft_Calc_Mul.f k s1_0 a0_0 a2).bind fun q1 => ((soft_Calc_Mul.f k q1.2 a0_1 a3).bind fun q2 => ((soft_Calc_Add.f k q2.2 q1.1 q2.1).bind fun q3 => ((soft_Calc_Mul.f k q3.2 a0_0 a3).bind fun q4 => ((soft_Calc_Mul.f k q4.2 a0_1 a2).bind fun q5 => ((soft_Calc_Sub.f k q5.2 q4.1 q5.1).bind fun q6 => (some (q3.1, q6.1, q6.2))))))))
def plane_Turn_Of.Q (a0_0 : Int) (a0_1 : Int) (s1_0 : Int) (a2 : Int) (a3 : Int) (r : Int × Int × Int) : S → Prop := fun s => ∃ τ r', fin E0 Tryd.f77 1 τ s = some (r', [.row [.i .u8 r.2.2] 0 0 true false none]) ∧ r'.ro = (.t [.i .u64 r.1, .i .u64 r.2.1])
def block_Two_turned.f (k : Nat) (a0_0 : Int) (a0_1 : Int) (a0_2 : Int) (a0_3 : Int) (s1_0 : Int) (a2_0 : Int) (a2_1 : Int) : Option (Int × Int × Int × Int × Int) := ((plane_Turn_Of.f k a2_0 a2_1 s1_0 a0_0 a0_2).bind fun q1 => ((plane_Turn_Of.f k a2_0 a2_1 q1.2.2 a0_1 a0_3).bind fun q2 => ((plane_Turn_Of.f k a2_0 a2_1 q2.2.2 q1.1 q2.1).bind fun q3 => ((plane_Turn_Of.f k a2_0 a2_1 q3.2.2 q1.2.1 q2.2.1).bind fun q4 => (some (q3.1, q3.2.1, q4.1, q4.2.1, q4.2.2))))))
def block_Two_turned.Q (a0_0 : Int) (a0_1 : Int) (a0_2 : Int) (a0_3 : Int) (s1_0 : Int) (a2_0 : Int) (a2_1 : Int) (r : Int × Int × Int × Int × Int) : S → Prop := fun s => ∃ τ r', fin E0 Tryd.f63 1 τ s = some (r', [.row [.i .u8 r.2.2.2.2] 0 0 true false none]) ∧ r'.ro = (.a [.i .u64 r.1, .i .u64 r.2.1, .i .u64 r.2.2.1, .i .u64 r.2.2.2.1])
mutual
def block_standard.j0 : Nat → Int → Int → Int → Int → Int → Int → Option (Int × Int × Int × Int × Int × Int)
  | 0, _, _, _, _, _, _ => none
  | k + 1, diff_6, h0_0, h0_1, h0_2, h0_3, h3 => ((soft_Calc_Mul.f k h3 4602678819172646912 diff_6).bind fun q12 => ((word_Abs.f h0_1).bind fun q13 => ((word_Abs.f h0_2).bind fun q14 => (if q13 < q14 then (block_standard.j1 k diff_6 q12.1 q14 q13 h0_0 h0_1 h0_2 h0_3 q12.2) else (block_standard.j1 k diff_6 q12.1 q13 q14 h0_0 h0_1 h0_2 h0_3 q12.2)))))
def block_standard.j1 : Nat → Int → Int → Int → Int → Int → Int → Int → Int → Int → Option (Int × Int × Int × Int × Int × Int)
  | 0, _, _, _, _, _, _, _, _, _ => none
  | k + 1, diff_6, p_7, big_8, small_9, h0_0, h0_1, h0_2, h0_3, h3 => ((word_Neg.f h0_1).bind fun q16 => ((word_Neg.f h0_2).bind fun q17 => (if (q16 != q17) = true then ((word_Flip.f small_9).bind fun q19 => (block_standard.j2 k diff_6 p_7 big_8 q19 h0_0 h0_1 h0_2 h0_3 h3)) else (block_standard.j2 k diff_6 p_7 big_8 small_9 h0_0 h0_1 h0_2 h0_3 h3))))
def block_standard.j2 : Nat → Int → Int → Int → Int → Int → Int → Int → Int → Int → Option (Int × Int × Int × Int × Int × Int)
  | 0, _, _, _, _, _, _, _, _, _ => none
  | k + 1, diff_6, p_7, big_8, small_9, h0_0, h0_1, h0_2, h0_3, h3 => ((word_Abs.f p_7).bind fun q20 => ((soft_Calc_Div.f k h3 p_7 (mx q20 big_8)).bind fun q21 => ((soft_Calc_Mul.f k q21.2 q21.1 p_7).bind fun q22 => ((soft_Calc_Div.f k q22.2 big_8 (mx q20 big_8)).bind fun q23 => ((soft_Calc_Mul.f k q23.2 q23.1 small_9).bind fun q24 => ((soft_Calc_Add.f k q24.2 q22.1 q24.1).bind fun q25 => ((order_Less.f k q25.1 4377498837804122112).bind fun q26 => (if q26 = true then ((soft_Calc_Add.f k q25.2 h0_1 h0_2).bind fun q28 => ((plane_Hypot.f k q28.1 diff_6).bind fun q29 => ((word_Abs.f q28.1).bind fun q30 => ((soft_Calc_Div.f k q28.2 q30 q29.1).bind fun q31 => ((soft_Calc_Add.f k q31.2 4607182418800017408 q31.1).bind fun q32 => ((soft_Calc_Mul.f k q32.2 4602678819172646912 q32.1).bind fun q33 => ((more_Sqrt.f k q33.1).bind fun q34 => ((soft_Calc_Mul.f k q33.2 q29.1 q34.1).bind fun q35 => ((soft_Calc_Div.f k q35.2 p_7 q35.1).bind fun q36 => ((word_Neg.f q28.1).bind fun q37 => (if q37 = true then (block_standard.j3 k q34.1 q36.1 h0_0 h0_1 h0_2 h0_3 q36.2) else ((word_Flip.f q36.1).bind fun q39 => (block_standard.j3 k q34.1 q39 h0_0 h0_1 h0_2 h0_3 q36.2))))))))))))) else ((more_Sqrt.f k (mx q20 big_8)).bind fun q40 => ((more_Sqrt.f k q25.1).bind fun q41 => ((soft_Calc_Mul.f k q25.2 q40.1 q41.1).bind fun q42 => ((word_Sign.f q42.1 p_7).bind fun q43 => ((soft_Calc_Add.f k q42.2 p_7 q43).bind fun q44 => ((soft_Calc_Add.f k q44.2 h0_3 q44.1).bind fun q45 => ((soft_Calc_Sub.f k q45.2 h0_1 h0_2).bind fun q46 => ((soft_Calc_Div.f k q46.2 big_8 q44.1).bind fun q47 => ((soft_Calc_Mul.f k q47.2 q47.1 small_9).bind fun q48 => ((soft_Calc_Sub.f k q48.2 h0_3 q48.1).bind fun q49 => ((plane_Hypot.f k h0_2 q44.1).bind fun q50 => ((soft_Calc_Div.f k q49.2 q44.1 q50.1).bind fun q51 => ((soft_Calc_Div.f k q51.2 h0_2 q50.1).bind fun q52 => (some (q51.1, q52.1, q45.1, q46.1, 0, q49.1)))))))))))))))))))))))
def block_standard.j3 : Nat → Int → Int → Int → Int → Int → Int → Int → Option (Int × Int × Int × Int × Int × Int)
  | 0, _, _, _, _, _, _, _ => none
  | k + 1, cs_22, sn_24, h0_0, h0_1, h0_2, h0_3, h3 => ((block_Two_turned.f k h0_0 h0_1 h0_2 h0_3 h3 cs_22 sn_24).bind fun q53 => ((soft_Calc_Add.f k q53.2.2.2.2 q53.1 q53.2.2.2.1).bind fun q54 => ((soft_Calc_Mul.f k q54.2 4602678819172646912 q54.1).bind fun q55 => ((word_Kind.f k q53.2.2.1).bind fun q56 => (if q56 = 1 then (some (cs_22, sn_24, q55.1, q53.2.1, 0, q55.1)) else ((word_Kind.f k q53.2.1).bind fun q58 => (if q58 = 1 then ((word_Flip.f q53.2.2.1).bind fun q60 => ((word_Flip.f sn_24).bind fun q61 => (some (q61, cs_22, q55.1, q60, 0, q55.1)))) else ((word_Neg.f q53.2.1).bind fun q62 => ((word_Neg.f q53.2.2.1).bind fun q63 => (if (q62 == q63) = true then ((word_Abs.f q53.2.1).bind fun q65 => ((more_Sqrt.f k q65).bind fun q66 => ((word_Abs.f q53.2.2.1).bind fun q67 => ((more_Sqrt.f k q67).bind fun q68 => ((soft_Calc_Mul.f k q55.2 q66.1 q68.1).bind fun q69 => ((word_Sign.f q69.1 q53.2.2.1).bind fun q70 => ((soft_Calc_Add.f k q69.2 q53.2.1 q53.2.2.1).bind fun q71 => ((word_Abs.f q71.1).bind fun q72 => ((more_Sqrt.f k q72).bind fun q73 => ((soft_Calc_Div.f k q71.2 4607182418800017408 q73.1).bind fun q74 => ((soft_Calc_Mul.f k q74.2 q66.1 q74.1).bind fun q75 => ((soft_Calc_Mul.f k q75.2 q68.1 q74.1).bind fun q76 => ((soft_Calc_Add.f k q76.2 q55.1 q70).bind fun q77 => ((soft_Calc_Sub.f k q77.2 q53.2.1 q53.2.2.1).bind fun q78 => ((soft_Calc_Sub.f k q78.2 q55.1 q70).bind fun q79 => ((soft_Calc_Mul.f k q79.2 cs_22 q75.1).bind fun q80 => ((soft_Calc_Mul.f k q80.2 sn_24 q76.1).bind fun q81 => ((soft_Calc_Sub.f k q81.2 q80.1 q81.1).bind fun q82 => ((soft_Calc_Mul.f k q82.2 cs_22 q76.1).bind fun q83 => ((soft_Calc_Mul.f k q83.2 sn_24 q75.1).bind fun q84 => ((soft_Calc_Add.f k q84.2 q83.1 q84.1).bind fun q85 => (some (q82.1, q85.1, q77.1, q78.1, 0, q79.1))))))))))))))))))))))) else (some (cs_22, sn_24, q55.1, q53.2.1, q53.2.2.1, q55.1))))))))))))
end
def block_standard.f (k : Nat) (a0_0 : Int) (a0_1 : Int) (a0_2 : Int) (a0_3 : Int) : Option (Int × Int × Int × Int × Int × Int) := ((soft_Calc_Sub.f k 0 a0_0 a0_3).bind fun q1 => ((word_Kind.f k a0_2).bind fun q2 => (if q2 = 1 then (some (4607182418800017408, 0, a0_0, a0_1, 0, a0_3)) else ((word_Kind.f k a0_1).bind fun q4 => (if q4 = 1 then ((word_Flip.f a0_2).bind fun q6 => (some (0, 4607182418800017408, a0_3, q6, 0, a0_0))) else ((word_Kind.f k q1.1).bind fun q7 => (if q7 = 1 then ((word_Neg.f a0_1).bind fun q9 => ((word_Neg.f a0_2).bind fun q10 => (if (q9 != q10) = true then (some (4607182418800017408, 0, a0_0, a0_1, a0_2, a0_0)) else (block_standard.j0 k q1.1 a0_0 a0_1 a0_2 a0_3 q1.2)))) else (block_standard.j0 k q1.1 a0_0 a0_1 a0_2 a0_3 q1.2))))))))
def block_standard.Q (a0_0 : Int) (a0_1 : Int) (a0_2 : Int) (a0_3 : Int) (r : Int × Int × Int × Int × Int × Int) : S → Prop := fun s => ∃ τ r', fin E0 Tryd.f33 0 τ s = some (r', []) ∧ r'.ro = (.t [.a [.i .u64 r.1, .i .u64 r.2.1], .a [.i .u64 r.2.2.1, .i .u64 r.2.2.2.1, .i .u64 r.2.2.2.2.1, .i .u64 r.2.2.2.2.2]])
def block_Standard_1.f (k : Nat) (a0 : Int) (s1_0 : Int) (s2_0 : Int) : Option (Int × Int × Int) := ((more_Scale.f k a0 s2_0).bind fun q1 => ((soft_Calc_Note.f s1_0 q1.1 q1.2).bind fun q2 => (some (q2.1, q2.2, s2_0))))
def block_Standard_1.Q (a0 : Int) (s1_0 : Int) (s2_0 : Int) (r : Int × Int × Int) : S → Prop := fun s => ∃ τ r', fin E0 Tryd.f34 2 τ s = some (r', [.row [.i .u8 r.2.1] 0 0 true false none, .row [.i .i64 r.2.2] 0 0 true false none]) ∧ r'.ro = (.i .u64 r.1)
mutual
def block_Standard.l0 : Nat → List Int → Int → Int → Int → Int → Int → Int → Int → Int → Option (Int × Int × Int × Int × Int × Int × Int × Int)
  | 0, _, _, _, _, _, _, _, _, _ => none
  | k + 1, h4, t_22, t_23, h0_0, h0_1, h0_2, h0_3, h1_0, h3_0 => (if t_23 < t_22 then (if 0 ≤ t_23 then (if t_23 < (h4.length : Int) then ((word_Finite.f (rd h4 t_23)).bind fun q5 => (if q5 = true then (block_Standard.l0 k h4 t_22 (wrap64 (t_23 + 1)) h0_0 h0_1 h0_2 h0_3 h1_0 h3_0) else (some (h3_0, h1_0, 0, 0, 0, 0, 0, 6)))) else none) else none) else ((block_Two_list.f h0_0 h0_1 h0_2 h0_3).bind fun q7 => ((vec_Power.f k q7).bind fun q8 => (if q8.2 = true then ((block_Two_list.f h0_0 h0_1 h0_2 h0_3).bind fun q10 => ((vec_Unit.f k q10 q8.1).bind fun q11 => (block_Standard.l1 k q11 (q11.length : Int) 0 q8.1))) else (some (h3_0, h1_0, h0_0, h0_1, 0, h0_3, 0, 0))))))
def block_Standard.l1 : Nat → List Int → Int → Int → Int → Option (Int × Int × Int × Int × Int × Int × Int × Int)
  | 0, _, _, _, _ => none
  | k + 1, h3, t_54, t_55, h2 => (if t_55 < t_54 then (if 0 ≤ t_55 then (if t_55 < (h3.length : Int) then ((word_Abs.f (rd h3 t_55)).bind fun q15 => (if q15 < 2355382605114769408 then (block_Standard.l1 k (h3.set t_55.toNat 0) t_54 (wrap64 (t_55 + 1)) h2) else (block_Standard.l1 k h3 t_54 (wrap64 (t_55 + 1)) h2))) else none) else none) else (if 0 < (h3.length : Int) then (if 1 < (h3.length : Int) then (if 2 < (h3.length : Int) then (if 3 < (h3.length : Int) then ((block_standard.f k (rd h3 0) (rd h3 1) (rd h3 2) (rd h3 3)).bind fun q21 => ((block_Standard_1.f k q21.2.2.1 0 h2).bind fun q22 => ((block_Standard_1.f k q21.2.2.2.1 q22.2.1 q22.2.2).bind fun q23 => ((block_Standard_1.f k q21.2.2.2.2.1 q23.2.1 q23.2.2).bind fun q24 => ((block_Standard_1.f k q21.2.2.2.2.2 q24.2.1 q24.2.2).bind fun q25 => ((block_Two_Plain.f k q22.1 q23.1 q24.1 q25.1).bind fun q26 => (if q26 = true then (some (q21.1, q21.2.1, q22.1, q23.1, q24.1, q25.1, q25.2.1, 0)) else (some (q21.1, q21.2.1, q22.1, q23.1, 0, q25.1, q25.2.1, 0))))))))) else none) else none) else none) else none))
end
def block_Standard.f (k : Nat) (a0_0 : Int) (a0_1 : Int) (a0_2 : Int) (a0_3 : Int) : Option (Int × Int × Int × Int × Int × Int × Int × Int) := ((block_Two_list.f a0_0 a0_1 a0_2 a0_3).bind fun q1 => (block_Standard.l0 k q1 (q1.length : Int) 0 a0_0 a0_1 a0_2 a0_3 0 4607182418800017408))
def block_Standard.Q (a0_0 : Int) (a0_1 : Int) (a0_2 : Int) (a0_3 : Int) (r : Int × Int × Int × Int × Int × Int × Int × Int) : S → Prop := fun s => ∃ τ r', fin E0 Tryd.f10 0 τ s = some (r', []) ∧ r'.ro = (.t [.a [.i .u64 r.1, .i .u64 r.2.1], .a [.i .u64 r.2.2.1, .i .u64 r.2.2.2.1, .i .u64 r.2.2.2.2.1, .i .u64 r.2.2.2.2.2.1], .i .u8 r.2.2.2.2.2.2.1, .i .i64 r.2.2.2.2.2.2.2])
def gimballaw15_plain.f (a0_0 : Int) (a0_1 : Int) (a0_2 : Int) (a0_3 : Int) : Option (Bool) := ((word_Abs.f a0_2).bind fun q1 => (if q1 = 0 then (some (true)) else (if a0_0 = a0_3 then ((word_Abs.f a0_1).bind fun q4 => (if q4 = 0 then (some (false)) else ((word_Neg.f a0_1).bind fun q6 => ((word_Neg.f a0_2).bind fun q7 => (some ((q6 != q7))))))) else (some (false)))))
def gimballaw15_plain.Q (a0_0 : Int) (a0_1 : Int) (a0_2 : Int) (a0_3 : Int) (r : Bool) : S → Prop := fun s => ∃ τ r', fin E0 Tryd.f11 0 τ s = some (r', []) ∧ r'.ro = (.b r)
def bits_TrailingZeros32.f (a0 : Int) : Option (Int) := (if a0 = 0 then (some (32)) else (if 0 ≤ ((((Go.bits .and .u32 a0 ((-a0) % 4294967296)) * 125613361) % 4294967296) / 134217728) then (if ((((Go.bits .and .u32 a0 ((-a0) % 4294967296)) * 125613361) % 4294967296) / 134217728) < 32 then (some ((wrap64 ((rd tab32 ((((Go.bits .and .u32 a0 ((-a0) % 4294967296)) * 125613361) % 4294967296) / 134217728)))))) else none) else none))
def bits_TrailingZeros32.Q (a0 : Int) (r : Int) : S → Prop := fun s => ∃ τ r', fin E0 Tryd.f47 0 τ s = some (r', []) ∧ r'.ro = (.i .i64 r)
mutual
def dyad_down.l0 : Nat → List Int → Int → List Int → Int → Int → Option ((List Int))
  | 0, _, _, _, _, _ => none
  | k + 1, m_0, s_1, h0, t_12, t_13 => (if t_13 < t_12 then (if 0 ≤ t_13 then (if t_13 < (m_0.length : Int) then (if 0 ≤ s_1 then (if t_13 < (h0.length : Int) then (if (wrap64 (t_13 + 1)) < (m_0.length : Int) then (if 0 ≤ (wrap64 (t_13 + 1)) then (if 0 ≤ (wrap64 (32 - s_1)) then (dyad_down.l0 k m_0 s_1 ((h0.set t_13.toNat (shr .u32 (rd m_0 t_13) s_1)).set t_13.toNat (Go.bits .or .u32 (rd (h0.set t_13.toNat (shr .u32 (rd m_0 t_13) s_1)) t_13) (shl .u32 (rd m_0 (wrap64 (t_13 + 1))) (wrap64 (32 - s_1))))) t_12 (wrap64 (t_13 + 1))) else none) else none) else (dyad_down.l0 k m_0 s_1 (h0.set t_13.toNat (shr .u32 (rd m_0 t_13) s_1)) t_12 (wrap64 (t_13 + 1)))) else none) else none) else none) else none) else (if (h0.length : Int) > 0 then (if 0 ≤ (wrap64 ((h0.length : Int) - 1)) then (if (wrap64 ((h0.length : Int) - 1)) < (h0.length : Int) then (if (rd h0 (wrap64 ((h0.length : Int) - 1))) = 0 then (if (wrap64 ((h0.length : Int) - 1)) ≤ (wrap64 ((h0.length : Int) - 1)) then (if (wrap64 ((h0.length : Int) - 1)) ≤ (h0.length : Int) then (some ((List.take (wrap64 ((h0.length : Int) - 1)).toNat h0))) else none) else none) else (some (h0))) else none) else none) else (some (h0))))
end
def dyad_down.f (k : Nat) (l0 : List Int) (a1 : Int) : Option ((List Int)) := (if 0 ≤ (l0.length : Int) then (if (l0.length : Int) ≤ 70368744177664 then (dyad_down.l0 k l0 a1 (List.replicate (l0.length : Int).toNat 0) (l0.length : Int) 0) else none) else none)
def dyad_down.Q (l0 : List Int) (a1 : Int) (r : (List Int)) : S → Prop := fun s => ∃ τ r', fin E0 Tryd.f48 0 τ s = some (r', []) ∧ r'.ro = (.r (r.map (V.i .u32)) r.length true)
mutual
def dyad_trim.l0 : Nat → Bool → List Int → Int → Int → Option (Bool × (List Int) × Int)
  | 0, _, _, _, _ => none
  | k + 1, neg_0, m_1, e_2, n_7 => (if n_7 > 0 then (if 0 ≤ (wrap64 (n_7 - 1)) then (if (wrap64 (n_7 - 1)) < (m_1.length : Int) then (if (rd m_1 (wrap64 (n_7 - 1))) = 0 then (dyad_trim.l0 k neg_0 m_1 e_2 (wrap64 (n_7 - 1))) else (dyad_trim.j1 k neg_0 m_1 e_2 n_7)) else none) else none) else (dyad_trim.j1 k neg_0 m_1 e_2 n_7))
def dyad_trim.j1 : Nat → Bool → List Int → Int → Int → Option (Bool × (List Int) × Int)
  | 0, _, _, _, _ => none
  | k + 1, neg_0, m_1, e_2, n_7 => (if 0 ≤ n_7 then (if n_7 ≤ (m_1.length : Int) then (if n_7 = 0 then (some (false, [], 0)) else (dyad_trim.l1 k neg_0 (List.take n_7.toNat m_1) e_2 0)) else none) else none)
def dyad_trim.l1 : Nat → Bool → List Int → Int → Int → Option (Bool × (List Int) × Int)
  | 0, _, _, _, _ => none
  | k + 1, neg_0, m_1, e_2, k_8 => (if 0 ≤ k_8 then (if k_8 < (m_1.length : Int) then (if (rd m_1 k_8) = 0 then (dyad_trim.l1 k neg_0 m_1 e_2 (wrap64 (k_8 + 1))) else (if k_8 ≤ (m_1.length : Int) then (if 0 < ((List.drop k_8.toNat m_1).length : Int) then ((bits_TrailingZeros32.f (rd (List.drop k_8.toNat m_1) 0)).bind fun q13 => (if q13 > 0 then ((dyad_down.f k (List.drop k_8.toNat m_1) q13).bind fun q15 => (some (neg_0, q15, (wrap64 ((wrap64 (e_2 + (wrap64 (32 * k_8)))) + q13))))) else (some (neg_0, (List.drop k_8.toNat m_1), (wrap64 (e_2 + (wrap64 (32 * k_8)))))))) else none) else none)) else none) else none)
end
def dyad_trim.f (k : Nat) (a0 : Bool) (l1 : List Int) (a2 : Int) : Option (Bool × (List Int) × Int) := (dyad_trim.l0 k a0 l1 a2 (l1.length : Int))
def dyad_trim.Q (a0 : Bool) (l1 : List Int) (a2 : Int) (r : Bool × (List Int) × Int) : S → Prop := fun s => ∃ τ r', fin E0 Tryd.f26 0 τ s = some (r', []) ∧ r'.ro = (.a [.b r.1, .r (r.2.1.map (V.i .u32)) r.2.1.length true, .i .i64 r.2.2])
def dyad_Of.f (k : Nat) (a0 : Int) : Option (Bool × (List Int) × Int × Bool) := ((word_Finite.f a0).bind fun q1 => (if q1 = true then ((word_Parts.f k a0).bind fun q3 => ((word_Neg.f a0).bind fun q4 => ((dyad_trim.f k q4 ([(q3.1 % 4294967296), ((q3.1 / 4294967296) % 4294967296)] : List Int) q3.2).bind fun q5 => (some (q5.1, q5.2.1, q5.2.2, true))))) else (some (false, [], 0, false))))
def dyad_Of.Q (a0 : Int) (r : Bool × (List Int) × Int × Bool) : S → Prop := fun s => ∃ τ r', fin E0 Tryd.f40 0 τ s = some (r', []) ∧ r'.ro = (.t [.a [.b r.1, .r (r.2.1.map (V.i .u32)) r.2.1.length true, .i .i64 r.2.2.1], .b r.2.2.2])
def gimballaw15_exact.f (k : Nat) (a0 : Int) : Option (Bool × (List Int) × Int) := ((dyad_Of.f k a0).bind fun q1 => (some (q1.1, q1.2.1, q1.2.2.1)))
def gimballaw15_exact.Q (a0 : Int) (r : Bool × (List Int) × Int) : S → Prop := fun s => ∃ τ r', fin E0 Tryd.f15 0 τ s = some (r', []) ∧ r'.ro = (.a [.b r.1, .r (r.2.1.map (V.i .u32)) r.2.1.length true, .i .i64 r.2.2])
def dyad_Int.f (k : Nat) (a0 : Int) : Option (Bool × (List Int) × Int) := (if a0 < 0 then ((dyad_trim.f k (decide (a0 < 0)) ([((IntKind.u64.wrap (-(IntKind.u64.wrap (a0)))) % 4294967296), (((IntKind.u64.wrap (-(IntKind.u64.wrap (a0)))) / 4294967296) % 4294967296)] : List Int) 0).bind fun q2 => (some (q2.1, q2.2.1, q2.2.2))) else ((dyad_trim.f k (decide (a0 < 0)) ([((IntKind.u64.wrap (a0)) % 4294967296), (((IntKind.u64.wrap (a0)) / 4294967296) % 4294967296)] : List Int) 0).bind fun q3 => (some (q3.1, q3.2.1, q3.2.2))))
def dyad_Int.Q (a0 : Int) (r : Bool × (List Int) × Int) : S → Prop := fun s => ∃ τ r', fin E0 Tryd.f8 0 τ s = some (r', []) ∧ r'.ro = (.a [.b r.1, .r (r.2.1.map (V.i .u32)) r.2.1.length true, .i .i64 r.2.2])
mutual
def dyad_Num_Mul.j0 : Nat → Bool → Bool → List Int → Int → Bool → List Int → Int → Option (Bool × (List Int) × Int)
  | 0, _, _, _, _, _, _, _ => none
  | k + 1, t_20, h0_0, h0_1, h0_2, h1_0, h1_1, h1_2 => (if t_20 = true then (some (false, [], 0)) else (if 0 ≤ (wrap64 ((h0_1.length : Int) + (h1_1.length : Int))) then (if (wrap64 ((h0_1.length : Int) + (h1_1.length : Int))) ≤ 70368744177664 then (dyad_Num_Mul.l0 k (List.replicate (wrap64 ((h0_1.length : Int) + (h1_1.length : Int))).toNat 0) h0_1 (h0_1.length : Int) 0 h0_0 h0_1 h0_2 h1_0 h1_1 h1_2) else none) else none))
def dyad_Num_Mul.l0 : Nat → List Int → List Int → Int → Int → Bool → List Int → Int → Bool → List Int → Int → Option (Bool × (List Int) × Int)
  | 0, _, _, _, _, _, _, _, _, _, _ => none
  | k + 1, h3, t_31, t_32, t_33, h0_0, h0_1, h0_2, h1_0, h1_1, h1_2 => (if t_33 < t_32 then (if 0 ≤ t_33 then (if t_33 < (t_31.length : Int) then (dyad_Num_Mul.l1 k h3 t_33 (rd t_31 t_33) 0 t_31 t_32 t_33 h1_1 (h1_1.length : Int) 0 h0_0 h0_1 h0_2 h1_0 h1_1 h1_2) else none) else none) else ((dyad_trim.f k (h0_0 != h1_0) h3 (wrap64 (h0_2 + h1_2))).bind fun q8 => (some (q8.1, q8.2.1, q8.2.2))))
def dyad_Num_Mul.l1 : Nat → List Int → Int → Int → Int → List Int → Int → Int → List Int → Int → Int → Bool → List Int → Int → Bool → List Int → Int → Option (Bool × (List Int) × Int)
  | 0, _, _, _, _, _, _, _, _, _, _, _, _, _, _, _, _ => none
  | k + 1, h3, i_6, x_7, c_8, t_31, t_32, t_33, t_39, t_40, t_41, h0_0, h0_1, h0_2, h1_0, h1_1, h1_2 => (if t_41 < t_40 then (if 0 ≤ t_41 then (if t_41 < (t_39.length : Int) then (if 0 ≤ (wrap64 (i_6 + t_41)) then (if (wrap64 (i_6 + t_41)) < (h3.length : Int) then (dyad_Num_Mul.l1 k (h3.set (wrap64 (i_6 + t_41)).toNat ((IntKind.u64.wrap (c_8 + (IntKind.u64.wrap ((IntKind.u64.wrap ((rd h3 (wrap64 (i_6 + t_41))))) + (IntKind.u64.wrap ((IntKind.u64.wrap (x_7)) * (IntKind.u64.wrap ((rd t_39 t_41))))))))) % 4294967296)) i_6 x_7 ((IntKind.u64.wrap (c_8 + (IntKind.u64.wrap ((IntKind.u64.wrap ((rd h3 (wrap64 (i_6 + t_41))))) + (IntKind.u64.wrap ((IntKind.u64.wrap (x_7)) * (IntKind.u64.wrap ((rd t_39 t_41))))))))) / 4294967296) t_31 t_32 t_33 t_39 t_40 (wrap64 (t_41 + 1)) h0_0 h0_1 h0_2 h1_0 h1_1 h1_2) else none) else none) else none) else none) else (if 0 ≤ (wrap64 (i_6 + (h1_1.length : Int))) then (if (wrap64 (i_6 + (h1_1.length : Int))) < (h3.length : Int) then (dyad_Num_Mul.l0 k (h3.set (wrap64 (i_6 + (h1_1.length : Int))).toNat (c_8 % 4294967296)) t_31 t_32 (wrap64 (t_33 + 1)) h0_0 h0_1 h0_2 h1_0 h1_1 h1_2) else none) else none))
end
def dyad_Num_Mul.f (k : Nat) (a0_0 : Bool) (l0_1 : List Int) (a0_2 : Int) (a1_0 : Bool) (l1_1 : List Int) (a1_2 : Int) : Option (Bool × (List Int) × Int) := (if (l0_1.length : Int) = 0 then (dyad_Num_Mul.j0 k true a0_0 l0_1 a0_2 a1_0 l1_1 a1_2) else (dyad_Num_Mul.j0 k ((l1_1.length : Int) == 0) a0_0 l0_1 a0_2 a1_0 l1_1 a1_2))
def dyad_Num_Mul.Q (a0_0 : Bool) (l0_1 : List Int) (a0_2 : Int) (a1_0 : Bool) (l1_1 : List Int) (a1_2 : Int) (r : Bool × (List Int) × Int) : S → Prop := fun s => ∃ τ r', fin E0 Tryd.f16 0 τ s = some (r', []) ∧ r'.ro = (.a [.b r.1, .r (r.2.1.map (V.i .u32)) r.2.1.length true, .i .i64 r.2.2])
mutual
def dyad_up.l0 : Nat → List Int → Int → Int → List Int → Int → Int → Option ((List Int))
  | 0, _, _, _, _, _, _ => none
  | k + 1, h0, s_6, c_7, t_21, t_22, t_23 => (if t_23 < t_22 then (if 0 ≤ t_23 then (if t_23 < (t_21.length : Int) then (if 0 ≤ s_6 then (if h0.length < 35184372088832 then (if 0 ≤ (wrap64 (32 - s_6)) then (dyad_up.l0 k (h0 ++ ([(Go.bits .or .u32 (shl .u32 (rd t_21 t_23) s_6) c_7)] : List Int)) s_6 ((shr .u64 (IntKind.u64.wrap ((rd t_21 t_23))) (wrap64 (32 - s_6))) % 4294967296) t_21 t_22 (wrap64 (t_23 + 1))) else none) else none) else none) else none) else none) else (if h0.length < 35184372088832 then (some ((h0 ++ ([c_7] : List Int)))) else none))
end
def dyad_up.f (k : Nat) (l0 : List Int) (a1 : Int) : Option ((List Int)) := (if 0 ≤ (wrap64 (Int.tdiv a1 32)) then (if (wrap64 (Int.tdiv a1 32)) ≤ (wrap64 ((wrap64 ((wrap64 (Int.tdiv a1 32)) + (l0.length : Int))) + 1)) then (if (wrap64 ((wrap64 ((wrap64 (Int.tdiv a1 32)) + (l0.length : Int))) + 1)) ≤ 70368744177664 then (dyad_up.l0 k (List.replicate (wrap64 (Int.tdiv a1 32)).toNat 0) (Int.tmod a1 32) 0 l0 (l0.length : Int) 0) else none) else none) else none)
def dyad_up.Q (l0 : List Int) (a1 : Int) (r : (List Int)) : S → Prop := fun s => ∃ τ r', fin E0 Tryd.f68 0 τ s = some (r', [.row (r.map (V.i .u32)) 2 1 true true none]) ∧ r'.ro = (.s (some (0, 0)) r.length)
mutual
def dyad_line_1.l0 : Nat → List Int → Int → Option ((List Int))
  | 0, _, _ => none
  | k + 1, m_0, n_3 => (if n_3 > 0 then (if 0 ≤ (wrap64 (n_3 - 1)) then (if (wrap64 (n_3 - 1)) < (m_0.length : Int) then (if (rd m_0 (wrap64 (n_3 - 1))) = 0 then (dyad_line_1.l0 k m_0 (wrap64 (n_3 - 1))) else (if 0 ≤ n_3 then (if n_3 ≤ (m_0.length : Int) then (some ((List.take n_3.toNat m_0))) else none) else none)) else none) else none) else (if 0 ≤ n_3 then (if n_3 ≤ (m_0.length : Int) then (some ((List.take n_3.toNat m_0))) else none) else none))
end
def dyad_line_1.f (k : Nat) (l0 : List Int) : Option ((List Int)) := (dyad_line_1.l0 k l0 (l0.length : Int))
def dyad_line_1.Q (l0 : List Int) (r : (List Int)) : S → Prop := fun s => ∃ τ r', fin E0 Tryd.f67 0 τ s = some (r', []) ∧ r'.ro = (.r (r.map (V.i .u32)) r.length true)
def dyad_line.f (k : Nat) (a0_0 : Bool) (l0_1 : List Int) (a0_2 : Int) (a1_0 : Bool) (l1_1 : List Int) (a1_2 : Int) : Option ((List Int) × (List Int) × Int) := ((dyad_up.f k l0_1 (wrap64 (a0_2 - (mn a0_2 a1_2)))).bind fun q1 => ((dyad_line_1.f k q1).bind fun q2 => ((dyad_up.f k l1_1 (wrap64 (a1_2 - (mn a0_2 a1_2)))).bind fun q3 => ((dyad_line_1.f k q3).bind fun q4 => (some (q2, q4, (mn a0_2 a1_2)))))))
def dyad_line.Q (a0_0 : Bool) (l0_1 : List Int) (a0_2 : Int) (a1_0 : Bool) (l1_1 : List Int) (a1_2 : Int) (r : (List Int) × (List Int) × Int) : S → Prop := fun s => ∃ τ r', fin E0 Tryd.f41 0 τ s = some (r', []) ∧ r'.ro = (.t [.r (r.1.map (V.i .u32)) r.1.length true, .r (r.2.1.map (V.i .u32)) r.2.1.length true, .i .i64 r.2.2])
mutual
def dyad_cmp.l0 : Nat → List Int → List Int → Int → Option (Int)
  | 0, _, _, _ => none
  | k + 1, a_0, b_1, i_5 => (if i_5 ≥ 0 then (if 0 ≤ i_5 then (if i_5 < (a_0.length : Int) then (if i_5 < (b_1.length : Int) then (if (rd a_0 i_5) = (rd b_1 i_5) then (dyad_cmp.l0 k a_0 b_1 (wrap64 (i_5 - 1))) else (if (rd a_0 i_5) < (rd b_1 i_5) then (some ((-1))) else (some (1)))) else none) else none) else none) else (some (0)))
end
def dyad_cmp.f (k : Nat) (l0 : List Int) (l1 : List Int) : Option (Int) := (if (l0.length : Int) = (l1.length : Int) then (dyad_cmp.l0 k l0 l1 (wrap64 ((l0.length : Int) - 1))) else (if (l0.length : Int) < (l1.length : Int) then (some ((-1))) else (some (1))))
def dyad_cmp.Q (l0 : List Int) (l1 : List Int) (r : Int) : S → Prop := fun s => ∃ τ r', fin E0 Tryd.f42 0 τ s = some (r', []) ∧ r'.ro = (.i .i64 r)
mutual
def dyad_Num_Add.j0 : Nat → List Int → List Int → Int → Bool → List Int → Int → Option (Bool × (List Int) × Int)
  | 0, _, _, _, _, _, _ => none
  | k + 1, x_5, y_6, e_7, h0_0, h0_1, h0_2 => (if 0 ≤ (wrap64 ((x_5.length : Int) + 1)) then (if (wrap64 ((x_5.length : Int) + 1)) ≤ 70368744177664 then (dyad_Num_Add.l0 k x_5 y_6 e_7 (List.replicate 0 0) 0 (x_5.length : Int) 0 h0_0 h0_1 h0_2) else none) else none)
def dyad_Num_Add.l0 : Nat → List Int → List Int → Int → List Int → Int → Int → Int → Bool → List Int → Int → Option (Bool × (List Int) × Int)
  | 0, _, _, _, _, _, _, _, _, _, _ => none
  | k + 1, x_5, y_6, e_7, h2, c_9, t_49, t_50, h0_0, h0_1, h0_2 => (if t_50 < t_49 then (if 0 ≤ t_50 then (if t_50 < (x_5.length : Int) then (if t_50 < (y_6.length : Int) then (if h2.length < 35184372088832 then (dyad_Num_Add.l0 k x_5 y_6 e_7 (h2 ++ ([((IntKind.u64.wrap ((IntKind.u64.wrap (c_9 + (IntKind.u64.wrap ((rd x_5 t_50))))) + (IntKind.u64.wrap ((rd y_6 t_50))))) % 4294967296)] : List Int)) ((IntKind.u64.wrap ((IntKind.u64.wrap (c_9 + (IntKind.u64.wrap ((rd x_5 t_50))))) + (IntKind.u64.wrap ((rd y_6 t_50))))) / 4294967296) t_49 (wrap64 (t_50 + 1)) h0_0 h0_1 h0_2) else none) else (if h2.length < 35184372088832 then (dyad_Num_Add.l0 k x_5 y_6 e_7 (h2 ++ ([((IntKind.u64.wrap (c_9 + (IntKind.u64.wrap ((rd x_5 t_50))))) % 4294967296)] : List Int)) ((IntKind.u64.wrap (c_9 + (IntKind.u64.wrap ((rd x_5 t_50))))) / 4294967296) t_49 (wrap64 (t_50 + 1)) h0_0 h0_1 h0_2) else none)) else none) else none) else (if h2.length < 35184372088832 then ((dyad_trim.f k h0_0 (h2 ++ ([(c_9 % 4294967296)] : List Int)) e_7).bind fun q20 => (some (q20.1, q20.2.1, q20.2.2))) else none))
def dyad_Num_Add.j2 : Nat → List Int → List Int → Int → Bool → Option (Bool × (List Int) × Int)
  | 0, _, _, _, _ => none
  | k + 1, x_5, y_6, e_7, neg_11 => (if 0 ≤ (x_5.length : Int) then (if (x_5.length : Int) ≤ 70368744177664 then (dyad_Num_Add.l1 k x_5 y_6 e_7 neg_11 (List.replicate 0 0) 0 (x_5.length : Int) 0) else none) else none)
def dyad_Num_Add.l1 : Nat → List Int → List Int → Int → Bool → List Int → Int → Int → Int → Option (Bool × (List Int) × Int)
  | 0, _, _, _, _, _, _, _, _ => none
  | k + 1, x_5, y_6, e_7, neg_11, h1, c_13, t_106, t_107 => (if t_107 < t_106 then (if 0 ≤ t_107 then (if t_107 < (x_5.length : Int) then (if t_107 < (y_6.length : Int) then (if h1.length < 35184372088832 then (dyad_Num_Add.l1 k x_5 y_6 e_7 neg_11 (h1 ++ ([((wrap64 ((wrap64 (c_13 + (wrap64 ((rd x_5 t_107))))) - (wrap64 ((rd y_6 t_107))))) % 4294967296)] : List Int)) ((wrap64 ((wrap64 (c_13 + (wrap64 ((rd x_5 t_107))))) - (wrap64 ((rd y_6 t_107))))) / 4294967296) t_106 (wrap64 (t_107 + 1))) else none) else (if h1.length < 35184372088832 then (dyad_Num_Add.l1 k x_5 y_6 e_7 neg_11 (h1 ++ ([((wrap64 (c_13 + (wrap64 ((rd x_5 t_107))))) % 4294967296)] : List Int)) ((wrap64 (c_13 + (wrap64 ((rd x_5 t_107))))) / 4294967296) t_106 (wrap64 (t_107 + 1))) else none)) else none) else none) else ((dyad_trim.f k neg_11 h1 e_7).bind fun q27 => (some (q27.1, q27.2.1, q27.2.2))))
end
def dyad_Num_Add.f (k : Nat) (a0_0 : Bool) (l0_1 : List Int) (a0_2 : Int) (a1_0 : Bool) (l1_1 : List Int) (a1_2 : Int) : Option (Bool × (List Int) × Int) := (if (l0_1.length : Int) = 0 then (some (a1_0, l1_1, a1_2)) else (if (l1_1.length : Int) = 0 then (some (a0_0, l0_1, a0_2)) else ((dyad_line.f k a0_0 l0_1 a0_2 a1_0 l1_1 a1_2).bind fun q3 => (if (a0_0 == a1_0) = true then (if (q3.1.length : Int) < (q3.2.1.length : Int) then (dyad_Num_Add.j0 k q3.2.1 q3.1 q3.2.2 a0_0 l0_1 a0_2) else (dyad_Num_Add.j0 k q3.1 q3.2.1 q3.2.2 a0_0 l0_1 a0_2)) else ((dyad_cmp.f k q3.1 q3.2.1).bind fun q6 => (if q6 = 0 then (some (false, [], 0)) else (if q6 = (-1) then (dyad_Num_Add.j2 k q3.2.1 q3.1 q3.2.2 a1_0) else (dyad_Num_Add.j2 k q3.1 q3.2.1 q3.2.2 a0_0))))))))
def dyad_Num_Add.Q (a0_0 : Bool) (l0_1 : List Int) (a0_2 : Int) (a1_0 : Bool) (l1_1 : List Int) (a1_2 : Int) (r : Bool × (List Int) × Int) : S → Prop := fun s => ∃ τ r', fin E0 Tryd.f17 0 τ s = some (r', []) ∧ r'.ro = (.a [.b r.1, .r (r.2.1.map (V.i .u32)) r.2.1.length true, .i .i64 r.2.2])
def dyad_Num_Neg.f (a0_0 : Bool) (l0_1 : List Int) (a0_2 : Int) : Option (Bool × (List Int) × Int) := (if (l0_1.length : Int) > 0 then (some ((!a0_0), l0_1, a0_2)) else (some (false, l0_1, a0_2)))
def dyad_Num_Neg.Q (a0_0 : Bool) (l0_1 : List Int) (a0_2 : Int) (r : Bool × (List Int) × Int) : S → Prop := fun s => ∃ τ r', fin E0 Tryd.f43 0 τ s = some (r', []) ∧ r'.ro = (.a [.b r.1, .r (r.2.1.map (V.i .u32)) r.2.1.length true, .i .i64 r.2.2])
def dyad_Num_Sub.f (k : Nat) (a0_0 : Bool) (l0_1 : List Int) (a0_2 : Int) (a1_0 : Bool) (l1_1 : List Int) (a1_2 : Int) : Option (Bool × (List Int) × Int) := ((dyad_Num_Neg.f a1_0 l1_1 a1_2).bind fun q1 => ((dyad_Num_Add.f k a0_0 l0_1 a0_2 q1.1 q1.2.1 q1.2.2).bind fun q2 => (some (q2.1, q2.2.1, q2.2.2))))
def dyad_Num_Sub.Q (a0_0 : Bool) (l0_1 : List Int) (a0_2 : Int) (a1_0 : Bool) (l1_1 : List Int) (a1_2 : Int) (r : Bool × (List Int) × Int) : S → Prop := fun s => ∃ τ r', fin E0 Tryd.f18 0 τ s = some (r', []) ∧ r'.ro = (.a [.b r.1, .r (r.2.1.map (V.i .u32)) r.2.1.length true, .i .i64 r.2.2])
def dyad_Num_Abs.f (a0_0 : Bool) (l0_1 : List Int) (a0_2 : Int) : Option (Bool × (List Int) × Int) := (some (false, l0_1, a0_2))
def dyad_Num_Abs.Q (a0_0 : Bool) (l0_1 : List Int) (a0_2 : Int) (r : Bool × (List Int) × Int) : S → Prop := fun s => ∃ τ r', fin E0 Tryd.f19 0 τ s = some (r', []) ∧ r'.ro = (.a [.b r.1, .r (r.2.1.map (V.i .u32)) r.2.1.length true, .i .i64 r.2.2])
def dyad_Two.f (a0 : Int) : Option (Bool × (List Int) × Int) := (some (false, ([1] : List Int), (mx (-1048576) (mn a0 1048576))))
def dyad_Two.Q (a0 : Int) (r : Bool × (List Int) × Int) : S → Prop := fun s => ∃ τ r', fin E0 Tryd.f21 0 τ s = some (r', [.row (r.2.1.map (V.i .u32)) 2 1 true true none]) ∧ r'.ro = (.a [.b r.1, .s (some (0, 0)) r.2.1.length, .i .i64 r.2.2])
def dyad_Num_Sign.f (a0_0 : Bool) (l0_1 : List Int) (a0_2 : Int) : Option (Int) := (if (l0_1.length : Int) = 0 then (some (0)) else (if a0_0 = true then (some ((-1))) else (some (1))))
def dyad_Num_Sign.Q (a0_0 : Bool) (l0_1 : List Int) (a0_2 : Int) (r : Int) : S → Prop := fun s => ∃ τ r', fin E0 Tryd.f44 0 τ s = some (r', []) ∧ r'.ro = (.i .i64 r)
def dyad_Num_Cmp.f (k : Nat) (a0_0 : Bool) (l0_1 : List Int) (a0_2 : Int) (a1_0 : Bool) (l1_1 : List Int) (a1_2 : Int) : Option (Int) := ((dyad_Num_Sub.f k a0_0 l0_1 a0_2 a1_0 l1_1 a1_2).bind fun q1 => ((dyad_Num_Sign.f q1.1 q1.2.1 q1.2.2).bind fun q2 => (some (q2))))
def dyad_Num_Cmp.Q (a0_0 : Bool) (l0_1 : List Int) (a0_2 : Int) (a1_0 : Bool) (l1_1 : List Int) (a1_2 : Int) (r : Int) : S → Prop := fun s => ∃ τ r', fin E0 Tryd.f20 0 τ s = some (r', []) ∧ r'.ro = (.i .i64 r)
def gimballaw15_four.f (k : Nat) (a0_0 : Int) (a0_1 : Int) (a0_2 : Int) (a0_3 : Int) : Option (Bool × (List Int) × Int × Bool × (List Int) × Int × Bool × (List Int) × Int × Bool × (List Int) × Int) := ((gimballaw15_exact.f k a0_0).bind fun q1 => ((gimballaw15_exact.f k a0_1).bind fun q2 => ((gimballaw15_exact.f k a0_2).bind fun q3 => ((gimballaw15_exact.f k a0_3).bind fun q4 => (some (q1.1, q1.2.1, q1.2.2, q2.1, q2.2.1, q2.2.2, q3.1, q3.2.1, q3.2.2, q4.1, q4.2.1, q4.2.2))))))
def gimballaw15_four.Q (a0_0 : Int) (a0_1 : Int) (a0_2 : Int) (a0_3 : Int) (r : Bool × (List Int) × Int × Bool × (List Int) × Int × Bool × (List Int) × Int × Bool × (List Int) × Int) : S → Prop := fun s => ∃ τ r', fin E0 Tryd.f22 0 τ s = some (r', []) ∧ r'.ro = (.a [.b r.1, .r (r.2.1.map (V.i .u32)) r.2.1.length true, .i .i64 r.2.2.1, .b r.2.2.2.1, .r (r.2.2.2.2.1.map (V.i .u32)) r.2.2.2.2.1.length true, .i .i64 r.2.2.2.2.2.1, .b r.2.2.2.2.2.2.1, .r (r.2.2.2.2.2.2.2.1.map (V.i .u32)) r.2.2.2.2.2.2.2.1.length true, .i .i64 r.2.2.2.2.2.2.2.2.1, .b r.2.2.2.2.2.2.2.2.2.1, .r (r.2.2.2.2.2.2.2.2.2.2.1.map (V.i .u32)) r.2.2.2.2.2.2.2.2.2.2.1.length true, .i .i64 r.2.2.2.2.2.2.2.2.2.2.2])
mutual
def gimballaw15_square.l0 : Nat → Int → Bool → List Int → Int → Bool → List Int → Int → Bool → List Int → Int → Bool → List Int → Int → Bool → List Int → Int → Bool → List Int → Int → Bool → List Int → Int → Bool → List Int → Int → Bool → List Int → Int → Option (Bool × (List Int) × Int)
  | 0, _, _, _, _, _, _, _, _, _, _, _, _, _, _, _, _, _, _, _, _, _, _, _, _, _, _, _, _ => none
  | k + 1, t_9, h0_0, h0_1, h0_2, h0_3, h0_4, h0_5, h0_6, h0_7, h0_8, h0_9, h0_10, h0_11, h1_0, h1_1, h1_2, h1_3, h1_4, h1_5, h1_6, h1_7, h1_8, h1_9, h1_10, h1_11, h3_0, h3_1, h3_2 => (if t_9 < 4 then (if t_9 = 0 then ((dyad_Num_Sub.f k h0_0 h0_1 h0_2 h1_0 h1_1 h1_2).bind fun q3 => ((dyad_Num_Mul.f k q3.1 q3.2.1 q3.2.2 q3.1 q3.2.1 q3.2.2).bind fun q4 => ((dyad_Num_Add.f k h3_0 h3_1 h3_2 q4.1 q4.2.1 q4.2.2).bind fun q5 => (gimballaw15_square.l0 k (wrap64 (t_9 + 1)) h0_0 h0_1 h0_2 h0_3 h0_4 h0_5 h0_6 h0_7 h0_8 h0_9 h0_10 h0_11 h1_0 h1_1 h1_2 h1_3 h1_4 h1_5 h1_6 h1_7 h1_8 h1_9 h1_10 h1_11 q5.1 q5.2.1 q5.2.2)))) else (if t_9 = 1 then ((dyad_Num_Sub.f k h0_3 h0_4 h0_5 h1_3 h1_4 h1_5).bind fun q7 => ((dyad_Num_Mul.f k q7.1 q7.2.1 q7.2.2 q7.1 q7.2.1 q7.2.2).bind fun q8 => ((dyad_Num_Add.f k h3_0 h3_1 h3_2 q8.1 q8.2.1 q8.2.2).bind fun q9 => (gimballaw15_square.l0 k (wrap64 (t_9 + 1)) h0_0 h0_1 h0_2 h0_3 h0_4 h0_5 h0_6 h0_7 h0_8 h0_9 h0_10 h0_11 h1_0 h1_1 h1_2 h1_3 h1_4 h1_5 h1_6 h1_7 h1_8 h1_9 h1_10 h1_11 q9.1 q9.2.1 q9.2.2)))) else (if t_9 = 2 then ((dyad_Num_Sub.f k h0_6 h0_7 h0_8 h1_6 h1_7 h1_8).bind fun q11 => ((dyad_Num_Mul.f k q11.1 q11.2.1 q11.2.2 q11.1 q11.2.1 q11.2.2).bind fun q12 => ((dyad_Num_Add.f k h3_0 h3_1 h3_2 q12.1 q12.2.1 q12.2.2).bind fun q13 => (gimballaw15_square.l0 k (wrap64 (t_9 + 1)) h0_0 h0_1 h0_2 h0_3 h0_4 h0_5 h0_6 h0_7 h0_8 h0_9 h0_10 h0_11 h1_0 h1_1 h1_2 h1_3 h1_4 h1_5 h1_6 h1_7 h1_8 h1_9 h1_10 h1_11 q13.1 q13.2.1 q13.2.2)))) else (if t_9 = 3 then ((dyad_Num_Sub.f k h0_9 h0_10 h0_11 h1_9 h1_10 h1_11).bind fun q15 => ((dyad_Num_Mul.f k q15.1 q15.2.1 q15.2.2 q15.1 q15.2.1 q15.2.2).bind fun q16 => ((dyad_Num_Add.f k h3_0 h3_1 h3_2 q16.1 q16.2.1 q16.2.2).bind fun q17 => (gimballaw15_square.l0 k (wrap64 (t_9 + 1)) h0_0 h0_1 h0_2 h0_3 h0_4 h0_5 h0_6 h0_7 h0_8 h0_9 h0_10 h0_11 h1_0 h1_1 h1_2 h1_3 h1_4 h1_5 h1_6 h1_7 h1_8 h1_9 h1_10 h1_11 q17.1 q17.2.1 q17.2.2)))) else none)))) else (some (h3_0, h3_1, h3_2)))
end
def gimballaw15_square.f (k : Nat) (a0_0 : Bool) (l0_1 : List Int) (a0_2 : Int) (a0_3 : Bool) (l0_4 : List Int) (a0_5 : Int) (a0_6 : Bool) (l0_7 : List Int) (a0_8 : Int) (a0_9 : Bool) (l0_10 : List Int) (a0_11 : Int) (a1_0 : Bool) (l1_1 : List Int) (a1_2 : Int) (a1_3 : Bool) (l1_4 : List Int) (a1_5 : Int) (a1_6 : Bool) (l1_7 : List Int) (a1_8 : Int) (a1_9 : Bool) (l1_10 : List Int) (a1_11 : Int) : Option (Bool × (List Int) × Int) := (gimballaw15_square.l0 k 0 a0_0 l0_1 a0_2 a0_3 l0_4 a0_5 a0_6 l0_7 a0_8 a0_9 l0_10 a0_11 a1_0 l1_1 a1_2 a1_3 l1_4 a1_5 a1_6 l1_7 a1_8 a1_9 l1_10 a1_11 false [] 0)
def gimballaw15_square.Q (a0_0 : Bool) (l0_1 : List Int) (a0_2 : Int) (a0_3 : Bool) (l0_4 : List Int) (a0_5 : Int) (a0_6 : Bool) (l0_7 : List Int) (a0_8 : Int) (a0_9 : Bool) (l0_10 : List Int) (a0_11 : Int) (a1_0 : Bool) (l1_1 : List Int) (a1_2 : Int) (a1_3 : Bool) (l1_4 : List Int) (a1_5 : Int) (a1_6 : Bool) (l1_7 : List Int) (a1_8 : Int) (a1_9 : Bool) (l1_10 : List Int) (a1_11 : Int) (r : Bool × (List Int) × Int) : S → Prop := fun s => ∃ τ r', fin E0 Tryd.f23 0 τ s = some (r', []) ∧ r'.ro = (.a [.b r.1, .r (r.2.1.map (V.i .u32)) r.2.1.length true, .i .i64 r.2.2])
mutual
def gimballaw15_square_v2.l0 : Nat → Int → Bool → List Int → Int → Bool → List Int → Int → Bool → List Int → Int → Bool → List Int → Int → Bool → List Int → Int → Bool → Int → Bool → Int → Bool → Int → Bool → List Int → Int → Option (Bool × (List Int) × Int)
  | 0, _, _, _, _, _, _, _, _, _, _, _, _, _, _, _, _, _, _, _, _, _, _, _, _, _ => none
  | k + 1, t_9, h0_0, h0_1, h0_2, h0_3, h0_4, h0_5, h0_6, h0_7, h0_8, h0_9, h0_10, h0_11, h1_0, h1_1, h1_2, h1_3, h1_5, h1_6, h1_8, h1_9, h1_11, h3_0, h3_1, h3_2 => (if t_9 < 4 then (if t_9 = 0 then ((dyad_Num_Sub.f k h0_0 h0_1 h0_2 h1_0 h1_1 h1_2).bind fun q3 => ((dyad_Num_Mul.f k q3.1 q3.2.1 q3.2.2 q3.1 q3.2.1 q3.2.2).bind fun q4 => ((dyad_Num_Add.f k h3_0 h3_1 h3_2 q4.1 q4.2.1 q4.2.2).bind fun q5 => (gimballaw15_square_v2.l0 k (wrap64 (t_9 + 1)) h0_0 h0_1 h0_2 h0_3 h0_4 h0_5 h0_6 h0_7 h0_8 h0_9 h0_10 h0_11 h1_0 h1_1 h1_2 h1_3 h1_5 h1_6 h1_8 h1_9 h1_11 q5.1 q5.2.1 q5.2.2)))) else (if t_9 = 1 then ((dyad_Num_Sub.f k h0_3 h0_4 h0_5 h1_3 h1_1 h1_5).bind fun q7 => ((dyad_Num_Mul.f k q7.1 q7.2.1 q7.2.2 q7.1 q7.2.1 q7.2.2).bind fun q8 => ((dyad_Num_Add.f k h3_0 h3_1 h3_2 q8.1 q8.2.1 q8.2.2).bind fun q9 => (gimballaw15_square_v2.l0 k (wrap64 (t_9 + 1)) h0_0 h0_1 h0_2 h0_3 h0_4 h0_5 h0_6 h0_7 h0_8 h0_9 h0_10 h0_11 h1_0 h1_1 h1_2 h1_3 h1_5 h1_6 h1_8 h1_9 h1_11 q9.1 q9.2.1 q9.2.2)))) else (if t_9 = 2 then ((dyad_Num_Sub.f k h0_6 h0_7 h0_8 h1_6 h1_1 h1_8).bind fun q11 => ((dyad_Num_Mul.f k q11.1 q11.2.1 q11.2.2 q11.1 q11.2.1 q11.2.2).bind fun q12 => ((dyad_Num_Add.f k h3_0 h3_1 h3_2 q12.1 q12.2.1 q12.2.2).bind fun q13 => (gimballaw15_square_v2.l0 k (wrap64 (t_9 + 1)) h0_0 h0_1 h0_2 h0_3 h0_4 h0_5 h0_6 h0_7 h0_8 h0_9 h0_10 h0_11 h1_0 h1_1 h1_2 h1_3 h1_5 h1_6 h1_8 h1_9 h1_11 q13.1 q13.2.1 q13.2.2)))) else (if t_9 = 3 then ((dyad_Num_Sub.f k h0_9 h0_10 h0_11 h1_9 h1_1 h1_11).bind fun q15 => ((dyad_Num_Mul.f k q15.1 q15.2.1 q15.2.2 q15.1 q15.2.1 q15.2.2).bind fun q16 => ((dyad_Num_Add.f k h3_0 h3_1 h3_2 q16.1 q16.2.1 q16.2.2).bind fun q17 => (gimballaw15_square_v2.l0 k (wrap64 (t_9 + 1)) h0_0 h0_1 h0_2 h0_3 h0_4 h0_5 h0_6 h0_7 h0_8 h0_9 h0_10 h0_11 h1_0 h1_1 h1_2 h1_3 h1_5 h1_6 h1_8 h1_9 h1_11 q17.1 q17.2.1 q17.2.2)))) else none)))) else (some (h3_0, h3_1, h3_2)))
end
def gimballaw15_square_v2.f (k : Nat) (a0_0 : Bool) (l0_1 : List Int) (a0_2 : Int) (a0_3 : Bool) (l0_4 : List Int) (a0_5 : Int) (a0_6 : Bool) (l0_7 : List Int) (a0_8 : Int) (a0_9 : Bool) (l0_10 : List Int) (a0_11 : Int) (a1_0 : Bool) (a1_2 : Int) (a1_3 : Bool) (a1_5 : Int) (a1_6 : Bool) (a1_8 : Int) (a1_9 : Bool) (a1_11 : Int) : Option (Bool × (List Int) × Int) := (gimballaw15_square_v2.l0 k 0 a0_0 l0_1 a0_2 a0_3 l0_4 a0_5 a0_6 l0_7 a0_8 a0_9 l0_10 a0_11 a1_0 [] a1_2 a1_3 a1_5 a1_6 a1_8 a1_9 a1_11 false [] 0)
def gimballaw15_square_v2.Q (a0_0 : Bool) (l0_1 : List Int) (a0_2 : Int) (a0_3 : Bool) (l0_4 : List Int) (a0_5 : Int) (a0_6 : Bool) (l0_7 : List Int) (a0_8 : Int) (a0_9 : Bool) (l0_10 : List Int) (a0_11 : Int) (a1_0 : Bool) (a1_2 : Int) (a1_3 : Bool) (a1_5 : Int) (a1_6 : Bool) (a1_8 : Int) (a1_9 : Bool) (a1_11 : Int) (r : Bool × (List Int) × Int) : S → Prop := fun s => ∃ τ r', fin E0 Tryd.f23 0 τ s = some (r', []) ∧ r'.ro = (.a [.b r.1, .r (r.2.1.map (V.i .u32)) r.2.1.length true, .i .i64 r.2.2])
mutual
def gimballaw15_BlockStandards.j0 : Nat → Int → Int → Bool → Int → Int → Int → Int → Int → Int → Int → Int → Int → Int → Option (Bool)
  | 0, _, _, _, _, _, _, _, _, _, _, _, _, _ => none
  | k + 1, f_5, e_6, t_44, h0_0, h0_1, h0_2, h0_3, h1_0, h1_1, h2_0, h2_1, h2_2, h2_3 => (if t_44 = true then (some ((e_6 == 6))) else (if e_6 = 0 then ((gimballaw15_plain.f h2_0 h2_1 h2_2 h2_3).bind fun q12 => (if q12 = true then ((block_Two_Plain.f k h2_0 h2_1 h2_2 h2_3).bind fun q14 => ((gimballaw15_plain.f h2_0 h2_1 h2_2 h2_3).bind fun q15 => (gimballaw15_BlockStandards.j1 k f_5 (q14 != q15) h0_0 h0_1 h0_2 h0_3 h1_0 h1_1 h2_0 h2_1 h2_2 h2_3))) else (gimballaw15_BlockStandards.j1 k f_5 true h0_0 h0_1 h0_2 h0_3 h1_0 h1_1 h2_0 h2_1 h2_2 h2_3))) else (gimballaw15_BlockStandards.j1 k f_5 true h0_0 h0_1 h0_2 h0_3 h1_0 h1_1 h2_0 h2_1 h2_2 h2_3)))
def gimballaw15_BlockStandards.j1 : Nat → Int → Bool → Int → Int → Int → Int → Int → Int → Int → Int → Int → Int → Option (Bool)
  | 0, _, _, _, _, _, _, _, _, _, _, _, _ => none
  | k + 1, f_5, t_60, h0_0, h0_1, h0_2, h0_3, h1_0, h1_1, h2_0, h2_1, h2_2, h2_3 => (if t_60 = true then (some (false)) else ((gimballaw15_exact.f k h1_0).bind fun q17 => ((gimballaw15_exact.f k h1_1).bind fun q18 => ((dyad_Int.f k 1).bind fun q19 => ((word_Finite.f h1_0).bind fun q20 => (if q20 = true then ((word_Finite.f h1_1).bind fun q22 => (if q22 = true then ((dyad_Num_Mul.f k q17.1 q17.2.1 q17.2.2 q17.1 q17.2.1 q17.2.2).bind fun q24 => ((dyad_Num_Mul.f k q18.1 q18.2.1 q18.2.2 q18.1 q18.2.1 q18.2.2).bind fun q25 => ((dyad_Num_Add.f k q24.1 q24.2.1 q24.2.2 q25.1 q25.2.1 q25.2.2).bind fun q26 => ((dyad_Num_Sub.f k q26.1 q26.2.1 q26.2.2 q19.1 q19.2.1 q19.2.2).bind fun q27 => ((dyad_Num_Abs.f q27.1 q27.2.1 q27.2.2).bind fun q28 => ((dyad_Int.f k 64).bind fun q29 => ((dyad_Two.f (-53)).bind fun q30 => ((dyad_Num_Mul.f k q29.1 q29.2.1 q29.2.2 q30.1 q30.2.1 q30.2.2).bind fun q31 => ((dyad_Num_Cmp.f k q28.1 q28.2.1 q28.2.2 q31.1 q31.2.1 q31.2.2).bind fun q32 => (gimballaw15_BlockStandards.j2 k f_5 (decide (q32 > 0)) h0_0 h0_1 h0_2 h0_3 h2_0 h2_1 h2_2 h2_3 q17.1 q17.2.1 q17.2.2 q18.1 q18.2.1 q18.2.2)))))))))) else (gimballaw15_BlockStandards.j2 k f_5 true h0_0 h0_1 h0_2 h0_3 h2_0 h2_1 h2_2 h2_3 q17.1 q17.2.1 q17.2.2 q18.1 q18.2.1 q18.2.2))) else (gimballaw15_BlockStandards.j2 k f_5 true h0_0 h0_1 h0_2 h0_3 h2_0 h2_1 h2_2 h2_3 q17.1 q17.2.1 q17.2.2 q18.1 q18.2.1 q18.2.2)))))))
def gimballaw15_BlockStandards.j2 : Nat → Int → Bool → Int → Int → Int → Int → Int → Int → Int → Int → Bool → List Int → Int → Bool → List Int → Int → Option (Bool)
  | 0, _, _, _, _, _, _, _, _, _, _, _, _, _, _, _, _ => none
  | k + 1, f_5, t_94, h0_0, h0_1, h0_2, h0_3, h1_0, h1_1, h1_2, h1_3, h2_0, h2_1, h2_2, h3_0, h3_1, h3_2 => (if t_94 = true then (some (false)) else (if (Go.bits .and .u8 f_5 6) = 0 then ((gimballaw15_four.f k h0_0 h0_1 h0_2 h0_3).bind fun q35 => ((dyad_Num_Mul.f k h2_0 h2_1 h2_2 q35.1 q35.2.1 q35.2.2.1).bind fun q36 => ((dyad_Num_Mul.f k h3_0 h3_1 h3_2 q35.2.2.2.2.2.2.1 q35.2.2.2.2.2.2.2.1 q35.2.2.2.2.2.2.2.2.1).bind fun q37 => ((dyad_Num_Add.f k q36.1 q36.2.1 q36.2.2 q37.1 q37.2.1 q37.2.2).bind fun q38 => ((dyad_Num_Mul.f k h2_0 h2_1 h2_2 q35.2.2.2.1 q35.2.2.2.2.1 q35.2.2.2.2.2.1).bind fun q39 => ((dyad_Num_Mul.f k h3_0 h3_1 h3_2 q35.2.2.2.2.2.2.2.2.2.1 q35.2.2.2.2.2.2.2.2.2.2.1 q35.2.2.2.2.2.2.2.2.2.2.2).bind fun q40 => ((dyad_Num_Add.f k q39.1 q39.2.1 q39.2.2 q40.1 q40.2.1 q40.2.2).bind fun q41 => ((dyad_Num_Mul.f k h2_0 h2_1 h2_2 q35.2.2.2.2.2.2.1 q35.2.2.2.2.2.2.2.1 q35.2.2.2.2.2.2.2.2.1).bind fun q42 => ((dyad_Num_Mul.f k h3_0 h3_1 h3_2 q35.1 q35.2.1 q35.2.2.1).bind fun q43 => ((dyad_Num_Sub.f k q42.1 q42.2.1 q42.2.2 q43.1 q43.2.1 q43.2.2).bind fun q44 => ((dyad_Num_Mul.f k h2_0 h2_1 h2_2 q35.2.2.2.2.2.2.2.2.2.1 q35.2.2.2.2.2.2.2.2.2.2.1 q35.2.2.2.2.2.2.2.2.2.2.2).bind fun q45 => ((dyad_Num_Mul.f k h3_0 h3_1 h3_2 q35.2.2.2.1 q35.2.2.2.2.1 q35.2.2.2.2.2.1).bind fun q46 => ((dyad_Num_Sub.f k q45.1 q45.2.1 q45.2.2 q46.1 q46.2.1 q46.2.2).bind fun q47 => ((dyad_Num_Mul.f k h2_0 h2_1 h2_2 q38.1 q38.2.1 q38.2.2).bind fun q48 => ((dyad_Num_Mul.f k h3_0 h3_1 h3_2 q41.1 q41.2.1 q41.2.2).bind fun q49 => ((dyad_Num_Add.f k q48.1 q48.2.1 q48.2.2 q49.1 q49.2.1 q49.2.2).bind fun q50 => ((dyad_Num_Mul.f k h2_0 h2_1 h2_2 q41.1 q41.2.1 q41.2.2).bind fun q51 => ((dyad_Num_Mul.f k h3_0 h3_1 h3_2 q38.1 q38.2.1 q38.2.2).bind fun q52 => ((dyad_Num_Sub.f k q51.1 q51.2.1 q51.2.2 q52.1 q52.2.1 q52.2.2).bind fun q53 => ((dyad_Num_Mul.f k h2_0 h2_1 h2_2 q44.1 q44.2.1 q44.2.2).bind fun q54 => ((dyad_Num_Mul.f k h3_0 h3_1 h3_2 q47.1 q47.2.1 q47.2.2).bind fun q55 => ((dyad_Num_Add.f k q54.1 q54.2.1 q54.2.2 q55.1 q55.2.1 q55.2.2).bind fun q56 => ((dyad_Num_Mul.f k h2_0 h2_1 h2_2 q47.1 q47.2.1 q47.2.2).bind fun q57 => ((dyad_Num_Mul.f k h3_0 h3_1 h3_2 q44.1 q44.2.1 q44.2.2).bind fun q58 => ((dyad_Num_Sub.f k q57.1 q57.2.1 q57.2.2 q58.1 q58.2.1 q58.2.2).bind fun q59 => ((dyad_Int.f k 400).bind fun q60 => ((dyad_Two.f (-53)).bind fun q61 => ((dyad_Num_Mul.f k q60.1 q60.2.1 q60.2.2 q61.1 q61.2.1 q61.2.2).bind fun q62 => ((gimballaw15_four.f k h1_0 h1_1 h1_2 h1_3).bind fun q63 => ((gimballaw15_square.f k q50.1 q50.2.1 q50.2.2 q53.1 q53.2.1 q53.2.2 q56.1 q56.2.1 q56.2.2 q59.1 q59.2.1 q59.2.2 q63.1 q63.2.1 q63.2.2.1 q63.2.2.2.1 q63.2.2.2.2.1 q63.2.2.2.2.2.1 q63.2.2.2.2.2.2.1 q63.2.2.2.2.2.2.2.1 q63.2.2.2.2.2.2.2.2.1 q63.2.2.2.2.2.2.2.2.2.1 q63.2.2.2.2.2.2.2.2.2.2.1 q63.2.2.2.2.2.2.2.2.2.2.2).bind fun q64 => ((gimballaw15_square_v2.f k q35.1 q35.2.1 q35.2.2.1 q35.2.2.2.1 q35.2.2.2.2.1 q35.2.2.2.2.2.1 q35.2.2.2.2.2.2.1 q35.2.2.2.2.2.2.2.1 q35.2.2.2.2.2.2.2.2.1 q35.2.2.2.2.2.2.2.2.2.1 q35.2.2.2.2.2.2.2.2.2.2.1 q35.2.2.2.2.2.2.2.2.2.2.2 false 0 false 0 false 0 false 0).bind fun q65 => ((dyad_Num_Mul.f k q65.1 q65.2.1 q65.2.2 q62.1 q62.2.1 q62.2.2).bind fun q66 => ((dyad_Num_Mul.f k q66.1 q66.2.1 q66.2.2 q62.1 q62.2.1 q62.2.2).bind fun q67 => ((dyad_Num_Cmp.f k q64.1 q64.2.1 q64.2.2 q67.1 q67.2.1 q67.2.2).bind fun q68 => (some ((decide (q68 ≤ 0)))))))))))))))))))))))))))))))))))))) else (some (true))))
end
def gimballaw15_BlockStandards.f (k : Nat) (a0_0 : Int) (a0_1 : Int) (a0_2 : Int) (a0_3 : Int) : Option (Bool) := ((gimballaw15_head_ok.f).bind fun q1 => ((block_Standard.f k a0_0 a0_1 a0_2 a0_3).bind fun q2 => ((word_Finite.f a0_0).bind fun q3 => (if q3 = true then ((word_Finite.f a0_1).bind fun q5 => (if q5 = true then ((word_Finite.f a0_2).bind fun q7 => (if q7 = true then ((word_Finite.f a0_3).bind fun q9 => (gimballaw15_BlockStandards.j0 k q2.2.2.2.2.2.2.1 q2.2.2.2.2.2.2.2 (!q9) a0_0 a0_1 a0_2 a0_3 q2.1 q2.2.1 q2.2.2.1 q2.2.2.2.1 q2.2.2.2.2.1 q2.2.2.2.2.2.1)) else (gimballaw15_BlockStandards.j0 k q2.2.2.2.2.2.2.1 q2.2.2.2.2.2.2.2 true a0_0 a0_1 a0_2 a0_3 q2.1 q2.2.1 q2.2.2.1 q2.2.2.2.1 q2.2.2.2.2.1 q2.2.2.2.2.2.1))) else (gimballaw15_BlockStandards.j0 k q2.2.2.2.2.2.2.1 q2.2.2.2.2.2.2.2 true a0_0 a0_1 a0_2 a0_3 q2.1 q2.2.1 q2.2.2.1 q2.2.2.2.1 q2.2.2.2.2.1 q2.2.2.2.2.2.1))) else (gimballaw15_BlockStandards.j0 k q2.2.2.2.2.2.2.1 q2.2.2.2.2.2.2.2 true a0_0 a0_1 a0_2 a0_3 q2.1 q2.2.1 q2.2.2.1 q2.2.2.2.1 q2.2.2.2.2.1 q2.2.2.2.2.2.1)))))
def gimballaw15_BlockStandards.Q (a0_0 : Int) (a0_1 : Int) (a0_2 : Int) (a0_3 : Int) (r : Bool) : S → Prop := fun s => ∃ τ r', fin E0 Tryd.f4 0 τ s = some (r', []) ∧ r'.ro = (.b r)
mutual
def gimballaw15_BlockSums.j0 : Nat → Bool → Int → Int → Int → Int → Int → Int → Int → Int → Option (Bool)
  | 0, _, _, _, _, _, _, _, _, _ => none
  | k + 1, t_28, h0_0, h0_1, h0_2, h0_3, h1_0, h1_1, h1_2, h1_3 => (if t_28 = true then (some (true)) else ((gimballaw15_four.f k h0_0 h0_1 h0_2 h0_3).bind fun q5 => ((gimballaw15_four.f k h1_0 h1_1 h1_2 h1_3).bind fun q6 => ((gimballaw15_square_v2.f k q5.1 q5.2.1 q5.2.2.1 q5.2.2.2.1 q5.2.2.2.2.1 q5.2.2.2.2.2.1 q5.2.2.2.2.2.2.1 q5.2.2.2.2.2.2.2.1 q5.2.2.2.2.2.2.2.2.1 q5.2.2.2.2.2.2.2.2.2.1 q5.2.2.2.2.2.2.2.2.2.2.1 q5.2.2.2.2.2.2.2.2.2.2.2 false 0 false 0 false 0 false 0).bind fun q7 => ((dyad_Int.f k 2000).bind fun q8 => ((dyad_Two.f (-53)).bind fun q9 => ((dyad_Num_Mul.f k q8.1 q8.2.1 q8.2.2 q9.1 q9.2.1 q9.2.2).bind fun q10 => ((dyad_Num_Add.f k q5.1 q5.2.1 q5.2.2.1 q5.2.2.2.2.2.2.2.2.2.1 q5.2.2.2.2.2.2.2.2.2.2.1 q5.2.2.2.2.2.2.2.2.2.2.2).bind fun q11 => ((dyad_Num_Add.f k q6.1 q6.2.1 q6.2.2.1 q6.2.2.2.2.2.2.2.2.2.1 q6.2.2.2.2.2.2.2.2.2.2.1 q6.2.2.2.2.2.2.2.2.2.2.2).bind fun q12 => ((dyad_Num_Sub.f k q11.1 q11.2.1 q11.2.2 q12.1 q12.2.1 q12.2.2).bind fun q13 => ((dyad_Num_Mul.f k q5.1 q5.2.1 q5.2.2.1 q5.2.2.2.2.2.2.2.2.2.1 q5.2.2.2.2.2.2.2.2.2.2.1 q5.2.2.2.2.2.2.2.2.2.2.2).bind fun q14 => ((dyad_Num_Mul.f k q5.2.2.2.1 q5.2.2.2.2.1 q5.2.2.2.2.2.1 q5.2.2.2.2.2.2.1 q5.2.2.2.2.2.2.2.1 q5.2.2.2.2.2.2.2.2.1).bind fun q15 => ((dyad_Num_Sub.f k q14.1 q14.2.1 q14.2.2 q15.1 q15.2.1 q15.2.2).bind fun q16 => ((dyad_Num_Mul.f k q6.1 q6.2.1 q6.2.2.1 q6.2.2.2.2.2.2.2.2.2.1 q6.2.2.2.2.2.2.2.2.2.2.1 q6.2.2.2.2.2.2.2.2.2.2.2).bind fun q17 => ((dyad_Num_Mul.f k q6.2.2.2.1 q6.2.2.2.2.1 q6.2.2.2.2.2.1 q6.2.2.2.2.2.2.1 q6.2.2.2.2.2.2.2.1 q6.2.2.2.2.2.2.2.2.1).bind fun q18 => ((dyad_Num_Sub.f k q17.1 q17.2.1 q17.2.2 q18.1 q18.2.1 q18.2.2).bind fun q19 => ((dyad_Num_Sub.f k q16.1 q16.2.1 q16.2.2 q19.1 q19.2.1 q19.2.2).bind fun q20 => ((dyad_Num_Mul.f k q13.1 q13.2.1 q13.2.2 q13.1 q13.2.1 q13.2.2).bind fun q21 => ((dyad_Num_Mul.f k q7.1 q7.2.1 q7.2.2 q10.1 q10.2.1 q10.2.2).bind fun q22 => ((dyad_Num_Mul.f k q22.1 q22.2.1 q22.2.2 q10.1 q10.2.1 q10.2.2).bind fun q23 => ((dyad_Num_Cmp.f k q21.1 q21.2.1 q21.2.2 q23.1 q23.2.1 q23.2.2).bind fun q24 => (if q24 ≤ 0 then ((dyad_Num_Abs.f q20.1 q20.2.1 q20.2.2).bind fun q26 => ((dyad_Num_Mul.f k q7.1 q7.2.1 q7.2.2 q10.1 q10.2.1 q10.2.2).bind fun q27 => ((dyad_Num_Cmp.f k q26.1 q26.2.1 q26.2.2 q27.1 q27.2.1 q27.2.2).bind fun q28 => (some ((decide (q28 ≤ 0))))))) else (some (false))))))))))))))))))))))))
end
def gimballaw15_BlockSums.f (k : Nat) (a0_0 : Int) (a0_1 : Int) (a0_2 : Int) (a0_3 : Int) : Option (Bool) := ((gimballaw15_head_ok.f).bind fun q1 => ((block_Standard.f k a0_0 a0_1 a0_2 a0_3).bind fun q2 => (if q2.2.2.2.2.2.2.2 = 0 then (gimballaw15_BlockSums.j0 k ((Go.bits .and .u8 q2.2.2.2.2.2.2.1 6) != 0) a0_0 a0_1 a0_2 a0_3 q2.2.2.1 q2.2.2.2.1 q2.2.2.2.2.1 q2.2.2.2.2.2.1) else (gimballaw15_BlockSums.j0 k true a0_0 a0_1 a0_2 a0_3 q2.2.2.1 q2.2.2.2.1 q2.2.2.2.2.1 q2.2.2.2.2.2.1))))
def gimballaw15_BlockSums.Q (a0_0 : Int) (a0_1 : Int) (a0_2 : Int) (a0_3 : Int) (r : Bool) : S → Prop := fun s => ∃ τ r', fin E0 Tryd.f5 0 τ s = some (r', []) ∧ r'.ro = (.b r)
mutual
def dyad_Num_Near.l0 : Nat → Int → Int → Bool → List Int → Int → Int → Bool → List Int → Int → Int → Int → Option (Int × Int)
  | 0, _, _, _, _, _, _, _, _, _, _, _ => none
  | k + 1, n_4, e_6, more_7, t_16, t_17, t_18, h0_0, h0_1, h0_2, h1_0, h1_1 => (if t_18 < t_17 then (if 0 ≤ t_18 then (if t_18 < (t_16.length : Int) then (if t_18 < (wrap64 (n_4 - 3)) then (dyad_Num_Near.l0 k n_4 (wrap64 (e_6 + 32)) true t_16 t_17 (wrap64 (t_18 + 1)) h0_0 h0_1 h0_2 h1_0 h1_1) else ((wide_Wide_Left.f 0 (IntKind.u64.wrap ((rd t_16 t_18))) (wrap64 (32 * (wrap64 (t_18 - (mx 0 (wrap64 (n_4 - 3)))))))).bind fun q5 => ((wide_Wide_Add.f h1_0 h1_1 q5.1 q5.2).bind fun q6 => (dyad_Num_Near.l0 k n_4 e_6 more_7 t_16 t_17 (wrap64 (t_18 + 1)) h0_0 h0_1 h0_2 q6.1 q6.2.1)))) else none) else none) else ((round_Round.f k h0_0 h1_0 h1_1 e_6 more_7).bind fun q7 => (some (q7.1, q7.2))))
end
def dyad_Num_Near.f (k : Nat) (a0_0 : Bool) (l0_1 : List Int) (a0_2 : Int) : Option (Int × Int) := (dyad_Num_Near.l0 k (l0_1.length : Int) a0_2 false l0_1 (l0_1.length : Int) 0 a0_0 l0_1 a0_2 0 0)
def dyad_Num_Near.Q (a0_0 : Bool) (l0_1 : List Int) (a0_2 : Int) (r : Int × Int) : S → Prop := fun s => ∃ τ r', fin E0 Tryd.f9 0 τ s = some (r', []) ∧ r'.ro = (.t [.i .u64 r.1, .i .u8 r.2])
def gimballaw15_BlockKinds_1.f (k : Nat) (a0 : Int) : Option (Int) := ((dyad_Int.f k a0).bind fun q1 => ((dyad_Num_Near.f k q1.1 q1.2.1 q1.2.2).bind fun q2 => (some (q2.1))))
def gimballaw15_BlockKinds_1.Q (a0 : Int) (r : Int) : S → Prop := fun s => ∃ τ r', fin E0 Tryd.f7 0 τ s = some (r', []) ∧ r'.ro = (.i .u64 r)
mutual
def gimballaw15_BlockKinds.j0 : Nat → Int → Int → Int → Int → Bool → Int → Int → Int → Int → Option (Bool)
  | 0, _, _, _, _, _, _, _, _, _ => none
  | k + 1, a_0, b_1, c_2, d_3, t_54, h0_0, h0_1, h0_2, h0_3 => (if t_54 = true then (some (false)) else (if (wrap64 ((wrap64 ((wrap64 (a_0 - d_3)) * (wrap64 (a_0 - d_3)))) + (wrap64 ((wrap64 (4 * b_1)) * c_2)))) < 0 then ((word_Abs.f h0_2).bind fun q11 => (some ((q11 != 0)))) else (if (wrap64 ((wrap64 ((wrap64 (a_0 - d_3)) * (wrap64 (a_0 - d_3)))) + (wrap64 ((wrap64 (4 * b_1)) * c_2)))) = 0 then (some (true)) else ((word_Abs.f h0_2).bind fun q13 => (some ((q13 == 0)))))))
end
def gimballaw15_BlockKinds.f (k : Nat) (a0 : Int) (a1 : Int) (a2 : Int) (a3 : Int) : Option (Bool) := ((gimballaw15_head_ok.f).bind fun q1 => ((gimballaw15_BlockKinds_1.f k (wrap64 ((Go.bits .and .i64 a0 127) - 64))).bind fun q2 => ((gimballaw15_BlockKinds_1.f k (wrap64 ((Go.bits .and .i64 a1 127) - 64))).bind fun q3 => ((gimballaw15_BlockKinds_1.f k (wrap64 ((Go.bits .and .i64 a2 127) - 64))).bind fun q4 => ((gimballaw15_BlockKinds_1.f k (wrap64 ((Go.bits .and .i64 a3 127) - 64))).bind fun q5 => ((block_Standard.f k q2 q3 q4 q5).bind fun q6 => (if q6.2.2.2.2.2.2.2 = 0 then ((gimballaw15_plain.f q6.2.2.1 q6.2.2.2.1 q6.2.2.2.2.1 q6.2.2.2.2.2.1).bind fun q8 => (gimballaw15_BlockKinds.j0 k (wrap64 ((Go.bits .and .i64 a0 127) - 64)) (wrap64 ((Go.bits .and .i64 a1 127) - 64)) (wrap64 ((Go.bits .and .i64 a2 127) - 64)) (wrap64 ((Go.bits .and .i64 a3 127) - 64)) (!q8) q6.2.2.1 q6.2.2.2.1 q6.2.2.2.2.1 q6.2.2.2.2.2.1)) else (gimballaw15_BlockKinds.j0 k (wrap64 ((Go.bits .and .i64 a0 127) - 64)) (wrap64 ((Go.bits .and .i64 a1 127) - 64)) (wrap64 ((Go.bits .and .i64 a2 127) - 64)) (wrap64 ((Go.bits .and .i64 a3 127) - 64)) true q6.2.2.1 q6.2.2.2.1 q6.2.2.2.2.1 q6.2.2.2.2.2.1))))))))
def gimballaw15_BlockKinds.Q (a0 : Int) (a1 : Int) (a2 : Int) (a3 : Int) (r : Bool) : S → Prop := fun s => ∃ τ r', fin E0 Tryd.f3 0 τ s = some (r', []) ∧ r'.ro = (.b r)

theorem zr35 : zeroOf E0.P 35 = .ret [.i .u64 0, .i .u64 0, .i .u64 0, .i .u64 0] := by kernel_rfl
theorem sz35 : szOf E0.P 35 = .ret 4 := by kernel_rfl
theorem ag35 : aggOf E0.P 35 = .ret true := by kernel_rfl
theorem zr52 : zeroOf E0.P 52 = .ret [.i .u64 0, .i .u64 0, .i .u64 0, .i .u64 0] := by kernel_rfl
theorem fa35_2 : FA E0.P 35 2 2 := by exact ⟨_, _, _, rfl, rfl, rfl, rfl⟩
theorem ag23 : aggOf E0.P 23 = .ret false := by kernel_rfl
theorem sz23 : szOf E0.P 23 = .ret 1 := by kernel_rfl
theorem fa35_0 : FA E0.P 35 0 0 := by exact ⟨_, _, _, rfl, rfl, rfl, rfl⟩
theorem zr51 : zeroOf E0.P 51 = .ret [.i .u64 0, .i .u64 0] := by kernel_rfl
theorem fa35_3 : FA E0.P 35 3 3 := by exact ⟨_, _, _, rfl, rfl, rfl, rfl⟩
theorem sz51 : szOf E0.P 51 = .ret 2 := by kernel_rfl
theorem sz52 : szOf E0.P 52 = .ret 4 := by kernel_rfl
theorem ag52 : aggOf E0.P 52 = .ret true := by kernel_rfl
theorem zr72 : zeroOf E0.P 72 = .ret [.i .u8 0] := by kernel_rfl
theorem fa35_1 : FA E0.P 35 1 1 := by exact ⟨_, _, _, rfl, rfl, rfl, rfl⟩
theorem zr59 : zeroOf E0.P 59 = .ret [.i .u64 0, .i .u64 0] := by kernel_rfl
theorem ag59 : aggOf E0.P 59 = .ret true := by kernel_rfl
theorem sz59 : szOf E0.P 59 = .ret 2 := by kernel_rfl
theorem fa59_1 : FA E0.P 59 1 1 := by exact ⟨_, _, _, rfl, rfl, rfl, rfl⟩
theorem fa59_0 : FA E0.P 59 0 0 := by exact ⟨_, _, _, rfl, rfl, rfl, rfl⟩
theorem eqs59 : ∀ (x0 y0 : Int) (x1 y1 : Int), sameV E0.P 59 (.a [.i .u64 x0, .i .u64 x1]) (.a [.i .u64 y0, .i .u64 y1]) = some (x0 == y0 && (x1 == y1 && true)) := by intros; kernel_rfl
theorem fa72_0 : FA E0.P 72 0 0 := by exact ⟨_, _, _, rfl, rfl, rfl, rfl⟩
theorem ag24 : aggOf E0.P 24 = .ret false := by kernel_rfl
theorem sz24 : szOf E0.P 24 = .ret 1 := by kernel_rfl
theorem zr23 : zeroOf E0.P 23 = .ret [.i .u64 0] := by kernel_rfl
theorem ag51 : aggOf E0.P 51 = .ret true := by kernel_rfl
theorem eqs51 : ∀ (x0 y0 : Int) (x1 y1 : Int), sameV E0.P 51 (.a [.i .u64 x0, .i .u64 x1]) (.a [.i .u64 y0, .i .u64 y1]) = some (x0 == y0 && (x1 == y1 && true)) := by intros; kernel_rfl
theorem zr33 : zeroOf E0.P 33 = .ret [.i .u64 0, .i .u64 0] := by kernel_rfl
theorem sz33 : szOf E0.P 33 = .ret 2 := by kernel_rfl
theorem ag33 : aggOf E0.P 33 = .ret true := by kernel_rfl
theorem zr3 : zeroOf E0.P 3 = .ret [.i .i64 0] := by kernel_rfl
theorem sz3 : szOf E0.P 3 = .ret 1 := by kernel_rfl
theorem ag3 : aggOf E0.P 3 = .ret false := by kernel_rfl
theorem by23 : bytesOf E0.P 23 = .ret 8 := by kernel_rfl
theorem fa33_0 : FA E0.P 33 0 0 := by exact ⟨_, _, _, rfl, rfl, rfl, rfl⟩
theorem fa33_1 : FA E0.P 33 1 1 := by exact ⟨_, _, _, rfl, rfl, rfl, rfl⟩
theorem zr28 : zeroOf E0.P 28 = .ret [.b false, .s none 0, .i .i64 0] := by kernel_rfl
theorem sz56 : szOf E0.P 56 = .ret 1 := by kernel_rfl
theorem zr56 : zeroOf E0.P 56 = .ret [.i .u32 0] := by kernel_rfl
theorem ag56 : aggOf E0.P 56 = .ret false := by kernel_rfl
theorem sz28 : szOf E0.P 28 = .ret 3 := by kernel_rfl
theorem ag28 : aggOf E0.P 28 = .ret true := by kernel_rfl
theorem sz5 : szOf E0.P 5 = .ret 1 := by kernel_rfl
theorem ag5 : aggOf E0.P 5 = .ret false := by kernel_rfl
theorem by56 : bytesOf E0.P 56 = .ret 4 := by kernel_rfl
theorem fa28_1 : FA E0.P 28 1 1 := by exact ⟨_, _, _, rfl, rfl, rfl, rfl⟩
theorem ag26 : aggOf E0.P 26 = .ret false := by kernel_rfl
theorem sz26 : szOf E0.P 26 = .ret 1 := by kernel_rfl
theorem fa28_0 : FA E0.P 28 0 0 := by exact ⟨_, _, _, rfl, rfl, rfl, rfl⟩
theorem ag4 : aggOf E0.P 4 = .ret false := by kernel_rfl
theorem sz4 : szOf E0.P 4 = .ret 1 := by kernel_rfl
theorem fa28_2 : FA E0.P 28 2 2 := by exact ⟨_, _, _, rfl, rfl, rfl, rfl⟩
theorem zr47 : zeroOf E0.P 47 = .ret [.b false, .s none 0, .i .i64 0, .b false, .s none 0, .i .i64 0, .b false, .s none 0, .i .i64 0, .b false, .s none 0, .i .i64 0] := by kernel_rfl
theorem sz47 : szOf E0.P 47 = .ret 12 := by kernel_rfl
theorem ag47 : aggOf E0.P 47 = .ret true := by kernel_rfl

def agT : Nat → Option (Bool)
  | 35 => some (true)
  | 23 => some (false)
  | 52 => some (true)
  | 59 => some (true)
  | 24 => some (false)
  | 51 => some (true)
  | 33 => some (true)
  | 3 => some (false)
  | 56 => some (false)
  | 28 => some (true)
  | 5 => some (false)
  | 26 => some (false)
  | 4 => some (false)
  | 47 => some (true)
  | _ => none
theorem ag_ {tl : Nat} {b : Bool} (h : agT tl = some b) : aggOf E0.P tl = .ret b := by
  unfold agT at h; split at h
  · cases h; exact ag35
  · cases h; exact ag23
  · cases h; exact ag52
  · cases h; exact ag59
  · cases h; exact ag24
  · cases h; exact ag51
  · cases h; exact ag33
  · cases h; exact ag3
  · cases h; exact ag56
  · cases h; exact ag28
  · cases h; exact ag5
  · cases h; exact ag26
  · cases h; exact ag4
  · cases h; exact ag47
  · cases h
def szT : Nat → Option (Nat)
  | 35 => some (4)
  | 23 => some (1)
  | 51 => some (2)
  | 52 => some (4)
  | 59 => some (2)
  | 24 => some (1)
  | 33 => some (2)
  | 3 => some (1)
  | 56 => some (1)
  | 28 => some (3)
  | 5 => some (1)
  | 26 => some (1)
  | 4 => some (1)
  | 47 => some (12)
  | _ => none
theorem sz_ {tl : Nat} {b : Nat} (h : szT tl = some b) : szOf E0.P tl = .ret b := by
  unfold szT at h; split at h
  · cases h; exact sz35
  · cases h; exact sz23
  · cases h; exact sz51
  · cases h; exact sz52
  · cases h; exact sz59
  · cases h; exact sz24
  · cases h; exact sz33
  · cases h; exact sz3
  · cases h; exact sz56
  · cases h; exact sz28
  · cases h; exact sz5
  · cases h; exact sz26
  · cases h; exact sz4
  · cases h; exact sz47
  · cases h
def zrT : Nat → Option (List V)
  | 35 => some ([.i .u64 0, .i .u64 0, .i .u64 0, .i .u64 0])
  | 52 => some ([.i .u64 0, .i .u64 0, .i .u64 0, .i .u64 0])
  | 51 => some ([.i .u64 0, .i .u64 0])
  | 72 => some ([.i .u8 0])
  | 59 => some ([.i .u64 0, .i .u64 0])
  | 23 => some ([.i .u64 0])
  | 33 => some ([.i .u64 0, .i .u64 0])
  | 3 => some ([.i .i64 0])
  | 28 => some ([.b false, .s none 0, .i .i64 0])
  | 56 => some ([.i .u32 0])
  | 47 => some ([.b false, .s none 0, .i .i64 0, .b false, .s none 0, .i .i64 0, .b false, .s none 0, .i .i64 0, .b false, .s none 0, .i .i64 0])
  | _ => none
theorem zr_ {tl : Nat} {b : List V} (h : zrT tl = some b) : zeroOf E0.P tl = .ret b := by
  unfold zrT at h; split at h
  · cases h; exact zr35
  · cases h; exact zr52
  · cases h; exact zr51
  · cases h; exact zr72
  · cases h; exact zr59
  · cases h; exact zr23
  · cases h; exact zr33
  · cases h; exact zr3
  · cases h; exact zr28
  · cases h; exact zr56
  · cases h; exact zr47
  · cases h
def faT : Nat → Nat → Option Nat
  | 35, 2 => some 2
  | 35, 0 => some 0
  | 35, 3 => some 3
  | 35, 1 => some 1
  | 59, 1 => some 1
  | 59, 0 => some 0
  | 72, 0 => some 0
  | 33, 0 => some 0
  | 33, 1 => some 1
  | 28, 1 => some 1
  | 28, 0 => some 0
  | 28, 2 => some 2
  | _, _ => none
theorem fa_ {tl f o : Nat} (h : faT tl f = some o) : FA E0.P tl f o := by
  unfold faT at h; split at h
  · cases h; exact fa35_2
  · cases h; exact fa35_0
  · cases h; exact fa35_3
  · cases h; exact fa35_1
  · cases h; exact fa59_1
  · cases h; exact fa59_0
  · cases h; exact fa72_0
  · cases h; exact fa33_0
  · cases h; exact fa33_1
  · cases h; exact fa28_1
  · cases h; exact fa28_0
  · cases h; exact fa28_2
  · cases h
theorem tfs : (szOf E0.P 35 = .ret 4) ∧ (aggOf E0.P 35 = .ret true) ∧ (aggOf E0.P 23 = .ret false) ∧ (szOf E0.P 23 = .ret 1) ∧ (szOf E0.P 51 = .ret 2) ∧ (szOf E0.P 52 = .ret 4) ∧ (aggOf E0.P 52 = .ret true) ∧ (aggOf E0.P 59 = .ret true) ∧ (szOf E0.P 59 = .ret 2) ∧ (aggOf E0.P 24 = .ret false) ∧ (szOf E0.P 24 = .ret 1) ∧ (aggOf E0.P 51 = .ret true) ∧ (szOf E0.P 33 = .ret 2) ∧ (aggOf E0.P 33 = .ret true) ∧ (szOf E0.P 3 = .ret 1) ∧ (aggOf E0.P 3 = .ret false) ∧ (szOf E0.P 56 = .ret 1) ∧ (aggOf E0.P 56 = .ret false) ∧ (szOf E0.P 28 = .ret 3) ∧ (aggOf E0.P 28 = .ret true) ∧ (szOf E0.P 5 = .ret 1) ∧ (aggOf E0.P 5 = .ret false) ∧ (aggOf E0.P 26 = .ret false) ∧ (szOf E0.P 26 = .ret 1) ∧ (aggOf E0.P 4 = .ret false) ∧ (szOf E0.P 4 = .ret 1) ∧ (szOf E0.P 47 = .ret 12) ∧ (aggOf E0.P 47 = .ret true) := ⟨sz35, ag35, ag23, sz23, sz51, sz52, ag52, ag59, sz59, ag24, sz24, ag51, sz33, ag33, sz3, ag3, sz56, ag56, sz28, ag28, sz5, ag5, ag26, sz26, ag4, sz4, sz47, ag47⟩
abbrev u_ : Nat → List V → List V
  | 0, l => l
  | n + 1, l => .u :: u_ n l
theorem ao_ {p : Prop} (h : p := by first | assumption | omega) : p := h
theorem al_ {p : Prop} (h : p := by first | assumption | omega | (simp only [List.length_set, List.length_replicate] at *; omega)) : p := h
theorem am_ {p : Prop} (h : p := by simp only [List.length_map, List.length_set, List.length_replicate]; first | assumption | omega) : p := h
theorem de_ {p : Prop} (h : p := by decide) : p := h
/-- The operation that is next. -/
def gO (E : Env) (os : Array Oper) (sl i : Nat) (o : Oper) (is : List Nat) (t : List V) (h : Hp) (tr : Tr) (K : List V → Hp → Tr → Prop) : Prop := os[i]? = some o → gD E os sl (i :: is) t h tr K
section
variable {E : Env} {os : Array Oper} {sl i : Nat} {is : List Nat} {t : List V} {h : Hp} {tr : Tr} {K : List V → Hp → Tr → Prop} {o : Oper}
variable {dd : Option Tmp} {d : Tmp} {op : Op} {a b c : Operand} {ty : TypeId} {ps : String} {af : Array Edge} {gu : Option (Nat × Bool)}
theorem gO_ (ho : os[i]? = some o) (hk : gO E os sl i o is t h tr K) : gD E os sl (i :: is) t h tr K := hk ho
theorem q_mv (hg : wantedV os ⟨some d, .move a, ty, ps, af, gu⟩ t = some true) (hk : gD E os sl is (t.set d (rho E t a)) h (tr ++ [(i, [], [])]) K) : gO E os sl i ⟨some d, .move a, ty, ps, af, gu⟩ is t h tr K := fun ho => g_mv ho hg hk
theorem q_as (hg : wantedV os ⟨some d, .assign a, ty, ps, af, gu⟩ t = some true) (hk : gD E os sl is (t.set d (rho E t a)) h (tr ++ [(i, [], [])]) K) : gO E os sl i ⟨some d, .assign a, ty, ps, af, gu⟩ is t h tr K := fun ho => g_as ho hg hk
theorem q_sk (hg : wantedV os ⟨dd, op, ty, ps, af, gu⟩ t = some false) (hk : gD E os sl is (put t dd (.t [])) h (tr ++ [(i, [], [])]) K) : gO E os sl i ⟨dd, op, ty, ps, af, gu⟩ is t h tr K := fun ho => g_sk ho hg hk
theorem q_bin {bo t1 t2 k x y v} (hg : wantedV os ⟨some d, .binOp bo t1 a b t2, ty, ps, af, gu⟩ t = some true) (hx : rho E t a = .i k x) (hy : rho E t b = .i k y) (hv : binI bo k x y = some v)
    (hk : gD E os sl is (t.set d v) h (tr ++ [(i, [], [])]) K) : gO E os sl i ⟨some d, .binOp bo t1 a b t2, ty, ps, af, gu⟩ is t h tr K := fun ho => g_bin ho hg hx hy hv hk
theorem q_pick {x} (hg : wantedV os ⟨some d, .pick c a b, ty, ps, af, gu⟩ t = some true) (hx : rho E t c = .b x)
    (hk : gD E os sl is (t.set d (if x = true then rho E t a else rho E t b)) h (tr ++ [(i, [], [])]) K) : gO E os sl i ⟨some d, .pick c a b, ty, ps, af, gu⟩ is t h tr K := fun ho => g_pick ho hg hx hk
theorem q_fd {tl f y off o2} (hg : wantedV os ⟨some d, .fieldAddr tl a f, ty, ps, af, gu⟩ t = some true) (hf : FA E.P tl f o2) (hx : rho E t a = .p (some (y, off)))
    (hk : gD E os sl is (t.set d (.p (some (y, off + o2)))) h (tr ++ [(i, [], [])]) K) : gO E os sl i ⟨some d, .fieldAddr tl a f, ty, ps, af, gu⟩ is t h tr K := fun ho => g_fd ho hg hf hx hk
theorem q_ldc {tl y off l kk sz w ow sib v} (hg : wantedV os ⟨some d, .load tl a, ty, ps, af, gu⟩ t = some true) (ha : aggOf E.P tl = .ret false) (hs : szOf E.P tl = .ret 1) (hx : rho E t a = .p (some (y, off))) (hy : h y = some (.row l kk sz w ow sib)) (hv : l[off]? = some v)
    (hk : gD E os sl is (t.set d v) h (tr ++ [(i, [y], [])]) K) : gO E os sl i ⟨some d, .load tl a, ty, ps, af, gu⟩ is t h tr K := fun ho => g_ldc ho hg ha hs hx hy hv hk
theorem q_lda {tl y off l kk sz w ow sib n} (hg : wantedV os ⟨some d, .load tl a, ty, ps, af, gu⟩ t = some true) (ha : aggOf E.P tl = .ret true) (hs : szOf E.P tl = .ret n) (hx : rho E t a = .p (some (y, off))) (hy : h y = some (.row l kk sz w ow sib)) (hj : off + n ≤ l.length)
    (hk : gD E os sl is (t.set d (.a ((l.drop off).take n))) h (tr ++ [(i, [y], [])]) K) : gO E os sl i ⟨some d, .load tl a, ty, ps, af, gu⟩ is t h tr K := fun ho => g_lda ho hg ha hs hx hy hj hk
theorem q_ext {j l} (hg : wantedV os ⟨some d, .extract a j, ty, ps, af, gu⟩ t = some true) (hx : rho E t a = .t l) (hj : j < l.length)
    (hk : gD E os sl is (t.set d (l.getD j .u)) h (tr ++ [(i, [], [])]) K) : gO E os sl i ⟨some d, .extract a j, ty, ps, af, gu⟩ is t h tr K := fun ho => g_ext ho hg hx hj hk
theorem q_alloc {tl z} (hg : wantedV os ⟨some d, .alloc tl, ty, ps, af, gu⟩ t = some true) (hz : zeroOf E.P tl = .ret z)
    (hk : gD E os sl is (t.set d (.p (some (sl + 4 * i, 0)))) (h.set (sl + 4 * i) (some (.row z 0 0 true true none))) (tr ++ [(i, [], [sl + 4 * i])]) K) : gO E os sl i ⟨some d, .alloc tl, ty, ps, af, gu⟩ is t h tr K := fun ho => g_alloc ho hg hz hk
theorem q_st {tl y off l kk sz ow v n} (hg : wantedV os ⟨dd, .store tl a b, ty, ps, af, gu⟩ t = some true) (hs : szOf E.P tl = .ret n) (hx : rho E t a = .p (some (y, off))) (hv : rho E t b = v) (hy : h y = some (.row l kk sz true ow none))
    (hok : (v.ok && (v.cells.length == n) && fits kk v.cells) = true) (hj : off + n ≤ l.length)
    (hk : gD E os sl is (put t dd (.t [])) (h.set y (some (.row (putCells l off v.cells) kk sz true ow none))) (tr ++ [(i, [y], [y])]) K) : gO E os sl i ⟨dd, .store tl a b, ty, ps, af, gu⟩ is t h tr K := fun ho => g_st ho hg hs hx hv hy hok hj hk
theorem q_un {uo t1 x v} (hg : wantedV os ⟨some d, .unOp uo t1 a, ty, ps, af, gu⟩ t = some true) (hx : rho E t a = x) (hv : unI uo x = some v)
    (hk : gD E os sl is (t.set d v) h (tr ++ [(i, [], [])]) K) : gO E os sl i ⟨some d, .unOp uo t1 a, ty, ps, af, gu⟩ is t h tr K := fun ho => g_un ho hg hx hv hk
theorem q_nc {tl y off} (hg : wantedV os ⟨some d, .nilCheck tl, ty, ps, af, gu⟩ t = some true) (hx : rho E t tl = .p (some (y, off)))
    (hk : gD E os sl is (t.set d (.p (some (y, off)))) h (tr ++ [(i, [], [])]) K) : gO E os sl i ⟨some d, .nilCheck tl, ty, ps, af, gu⟩ is t h tr K := fun ho => g_nc ho hg hx hk
theorem q_box {tl v} (hg : wantedV os ⟨some d, .box tl a, ty, ps, af, gu⟩ t = some true) (hv : rho E t a = v) (hok : v.ok = true)
    (hk : gD E os sl is (t.set d (.p (some (sl + 4 * i, 0)))) (h.set (sl + 4 * i) (some (.row v.cells 0 0 true true none))) (tr ++ [(i, [], [sl + 4 * i])]) K) : gO E os sl i ⟨some d, .box tl a, ty, ps, af, gu⟩ is t h tr K := fun ho => g_box ho hg hv hok hk
end
/-- A run of simple operations. -/
theorem o_ {p q : Prop} (h : q) (e : q → p := by
    intro h_
    repeat (refine gO_ rfl ?_; first
      | refine q_mv rfl (gT ?_)
      | refine q_as rfl (gT ?_)
      | refine q_bin rfl rfl rfl rfl (gT ?_)
      | refine q_pick rfl rfl (gT ?_)
      | refine q_fd rfl (fa_ rfl) rfl (gT ?_)
      | refine q_ext rfl rfl (Nat.le_of_ble_eq_true rfl) (gT ?_)
      | refine q_ldc rfl (ag_ rfl) (sz_ rfl) rfl rfl rfl (gT ?_)
      | refine q_lda rfl (ag_ rfl) (sz_ rfl) rfl rfl (Nat.le_of_ble_eq_true rfl) (gT ?_)
      | refine q_st rfl (sz_ rfl) rfl rfl rfl (by rfl) (Nat.le_of_ble_eq_true rfl) (gU ?_)
      | refine q_alloc rfl (zr_ rfl) (gU ?_)
      | refine q_box rfl rfl (by rfl) (gU ?_)
      | refine q_un rfl rfl rfl (gT ?_)
      | refine q_nc rfl rfl (gT ?_)
      | refine q_sk rfl (gT ?_))
    exact h_) : p := e h
section
variable {E : Env} {Q : S → Prop} {ks : List Fm} {s : S} {t : List V} {hp : Hp} {tr : Tr} {K : List V → Hp → Tr → Prop} {os : Array Oper} {sl n a : Nat}
theorem wT {c x y} (h : wk_ E Q ks x s) (hc : rho E s.t c = .b true := by exact rfl) : wk_ E Q ks (.cond c x y) s := w_cond hc (fun _ => h) (fun h => Bool.noConfusion h)
theorem wF {c x y} (h : wk_ E Q ks y s) (hc : rho E s.t c = .b false := by exact rfl) : wk_ E Q ks (.cond c x y) s := w_cond hc (fun h => Bool.noConfusion h) (fun _ => h)
theorem nl (hK : ∀ t' h' tr, kont E Q ks .normal ⟨t', h', n, a⟩ → K t' h' tr) (h : kont E Q ks .normal ⟨t, hp, n, a⟩) : gD E os sl [] t hp tr K := g_nil (hK _ _ _ h)
theorem nk {y} (hK : ∀ t' h' tr, kont E Q (.seq y :: ks) .normal ⟨t', h', n, a⟩ → K t' h' tr) (h : wk_ E Q ks y ⟨t, hp, n, a⟩) : gD E os sl [] t hp tr K := g_nil (hK _ _ _ (k_seq h))
theorem nkt (hK : ∀ t' h' tr, kont E Q (.seq .ret :: ks) .normal ⟨t', h', n, a⟩ → K t' h' tr) (h : Q ⟨t, hp, n, a⟩) : gD E os sl [] t hp tr K := g_nil (hK _ _ _ (k_seq (w_ret h)))
theorem kt (h : Q s) : kont E Q (.seq .ret :: ks) .normal s := k_seq (w_ret h)
theorem sk {y} (h : wk_ E Q ks y s) : wk_ E Q (.seq y :: ks) .skip s := w_skip (k_seq h)
theorem sr {id y n is} (h : ∀ K : List V → Hp → Tr → Prop, (∀ t' h' tr, kont E Q (.seq y :: ks) .normal ⟨t', h', n, s.a⟩ → K t' h' tr) → gD E os s.n is s.t s.h [] K) (e1 : List.range os.size = is := by first | (simp only [Array.size, List.length, List.range, List.range.loop, nrm, Nat.reduceAdd, Nat.reduceMul]; rfl) | rfl) (e2 : s.n + 4 * os.size = n := by first | (simp only [Array.size, List.length, List.range, List.range.loop, nrm, Nat.reduceAdd, Nat.reduceMul]; rfl) | rfl) : wk_ E Q ks (.seq (.region id os false) y) s :=
  w_seq (wR h e1 e2)
theorem ksr {id y n is} (h : ∀ K : List V → Hp → Tr → Prop, (∀ t' h' tr, kont E Q (.seq y :: ks) .normal ⟨t', h', n, s.a⟩ → K t' h' tr) → gD E os s.n is s.t s.h [] K) (e1 : List.range os.size = is := by first | (simp only [Array.size, List.length, List.range, List.range.loop, nrm, Nat.reduceAdd, Nat.reduceMul]; rfl) | rfl) (e2 : s.n + 4 * os.size = n := by first | (simp only [Array.size, List.length, List.range, List.range.loop, nrm, Nat.reduceAdd, Nat.reduceMul]; rfl) | rfl) : kont E Q (.seq (.seq (.region id os false) y) :: ks) .normal s :=
  k_seq (w_seq (wR h e1 e2))
theorem nksr {os2 : Array Oper} {id y n2 is} (hK : ∀ t' h' tr, kont E Q (.seq (.seq (.region id os2 false) y) :: ks) .normal ⟨t', h', n, a⟩ → K t' h' tr)
    (h : ∀ K : List V → Hp → Tr → Prop, (∀ t' h' tr, kont E Q (.seq y :: ks) .normal ⟨t', h', n2, a⟩ → K t' h' tr) → gD E os2 n is t hp [] K) (e1 : List.range os2.size = is := by first | (simp only [Array.size, List.length, List.range, List.range.loop, nrm, Nat.reduceAdd, Nat.reduceMul]; rfl) | rfl) (e2 : n + 4 * os2.size = n2 := by first | (simp only [Array.size, List.length, List.range, List.range.loop, nrm, Nat.reduceAdd, Nat.reduceMul]; rfl) | rfl) : gD E os sl [] t hp tr K :=
  g_nil (hK _ _ _ (k_seq (w_seq (wR (s := ⟨t, hp, n, a⟩) h e1 e2))))
theorem fnw {f args H r H' m t' n} {fn : Func} {c : Code} (Q : S → Prop) (hf : E.P.funcs[f]? = some fn) (hn : fn.ntmps = m) (h : wk_ E Q [] c ⟨t', ofL H, n, n⟩) (hb : fn.body = some c := by exact rfl)
    (hQ : ∀ s, Q s → ∃ τ r', fin E fn H.length τ s = some (r', H') ∧ r'.ro = r := by exact fun s h => h)
    (e : args ++ List.replicate (m - args.length) (.t []) = t' := by simp only [List.length, List.replicate, Nat.reduceAdd, Nat.reduceSub, List.cons_append, List.nil_append]; rfl) (e2 : H.length = n := by first | (simp only [List.length, Nat.reduceAdd]; rfl) | rfl) : Do E (.fn f args H r H') := by
  subst hn e e2; exact fn_wpl hf hb hQ h
theorem fw {m H' r rs} {fn : Func} (τ : List Nat) (hr : fn.results = ⟨rs⟩ := by exact rfl) (h1 : τ.take m = List.range m := by exact rfl) (h2 : τ.Nodup := by decide)
    (h : (resR E.P s.t rs).wp s.h fun rs _ => (V.mv false τ (one1 rs)).wp s.h fun r' _ => (O.mvs false τ τ).wp s.h fun H _ => r'.ro = r ∧ H = H' := by
      simp (maxSteps := 9000000) only [tfs, nrm, nrmw, nrmc, nrme, nrmo, nrml, nrmb, nrmx, Nat.reduceEqDiff, Nat.reduceBEq, Nat.zero_add, Nat.add_zero, Nat.mul_one, List.length_cons, List.length_nil, List.length_map, List.length_set, List.length_replicate, List.drop_zero, List.drop_succ_cons, List.drop_nil, List.take_zero, List.take_succ_cons, List.take_nil, Nat.le_refl, if_true, if_false, Option.any_none, Option.any_some, List.contains_nil, Bool.not_false, Bool.or_true, Bool.true_or, Bool.or_false, Bool.false_or, Bool.and_true, Bool.true_and, Bool.and_self, reduceCtorEq, beq_self_eq_true, List.map_cons, List.map_nil, List.append_nil, List.nil_append, List.contains_cons, List.filter_cons, List.filter_nil, List.cons_append, Bool.false_eq_true, true_and, and_true, List.getElem_toArray, List.getElem_cons_zero, List.getElem_cons_succ, Nat.reduceAdd, Nat.reduceMul, Nat.reduceLT, Nat.reduceSub, Nat.reduceLeDiff] <;> first | rfl | exact ⟨rfl, trivial⟩ | exact ⟨rfl, rfl⟩) :
    ∃ τ r', fin E fn m τ s = some (r', H') ∧ r'.ro = r := fin_wp h1 h2 (by rw [hr]; exact h)
theorem ww {c : Code} (σ g : List Nat) {q : Prop} (hq : q) (hσ : σ.take s.a = List.range s.a := by exact rfl) (hn : σ.Nodup := by decide)
    (e : ((wkG σ g s.t).wp s.h fun t _ => (O.mvs false σ σ).wp s.h fun H _ => wk_ E Q ks c ⟨t, ofL H, H.length, s.a⟩) = q := by first | (simp (maxSteps := 9000000) only [nrm, nrmw, nrmc, nrme, nrmo, nrml, nrmb, nrmx, Nat.reduceEqDiff, Nat.reduceBEq, Nat.zero_add, Nat.add_zero, Nat.mul_one, List.length_cons, List.length_nil, List.length_map, List.length_set, List.length_replicate, List.drop_zero, List.drop_succ_cons, List.drop_nil, List.take_zero, List.take_succ_cons, List.take_nil, Nat.le_refl, if_true, if_false, Option.any_none, Option.any_some, List.contains_nil, Bool.not_false, Bool.or_true, Bool.true_or, Bool.or_false, Bool.false_or, Bool.and_true, Bool.true_and, Bool.and_self, reduceCtorEq, beq_self_eq_true, List.map_cons, List.map_nil, List.append_nil, List.nil_append, List.contains_cons, List.filter_cons, List.filter_nil, List.cons_append, Bool.false_eq_true, true_and, and_true, List.getElem_toArray, List.getElem_cons_zero, List.getElem_cons_succ, Nat.reduceAdd, Nat.reduceMul, Nat.reduceLT, Nat.reduceSub, Nat.reduceLeDiff]; rfl) | rfl) : wk_ E Q ks c s := w_wk g hσ hn (e ▸ hq)
theorem kw (σ g : List Nat) {q : Prop} (hq : q) (hσ : σ.take s.a = List.range s.a := by exact rfl) (hn : σ.Nodup := by decide) (hg : goes ks = true := by exact rfl)
    (e : ((wkG σ g s.t).wp s.h fun t _ => (O.mvs false σ σ).wp s.h fun H _ => kont E Q ks .normal ⟨t, ofL H, H.length, s.a⟩) = q := by first | (simp (maxSteps := 9000000) only [nrm, nrmw, nrmc, nrme, nrmo, nrml, nrmb, nrmx, Nat.reduceEqDiff, Nat.reduceBEq, Nat.zero_add, Nat.add_zero, Nat.mul_one, List.length_cons, List.length_nil, List.length_map, List.length_set, List.length_replicate, List.drop_zero, List.drop_succ_cons, List.drop_nil, List.take_zero, List.take_succ_cons, List.take_nil, Nat.le_refl, if_true, if_false, Option.any_none, Option.any_some, List.contains_nil, Bool.not_false, Bool.or_true, Bool.true_or, Bool.or_false, Bool.false_or, Bool.and_true, Bool.true_and, Bool.and_self, reduceCtorEq, beq_self_eq_true, List.map_cons, List.map_nil, List.append_nil, List.nil_append, List.contains_cons, List.filter_cons, List.filter_nil, List.cons_append, Bool.false_eq_true, true_and, and_true, List.getElem_toArray, List.getElem_cons_zero, List.getElem_cons_succ, Nat.reduceAdd, Nat.reduceMul, Nat.reduceLT, Nat.reduceSub, Nat.reduceLeDiff]; rfl) | rfl) : kont E Q ks .normal s := k_wk g hσ hn hg (e ▸ hq)
end
section
variable {E : Env} {os : Array Oper} {sl i : Nat} {is : List Nat} {t : List V} {h : Hp} {tr : Tr} {K : List V → Hp → Tr → Prop} {dd : Option Tmp} {ty : TypeId} {ps : String} {af : Array Edge} {gu : Option (Nat × Bool)}
theorem cs (σ : List Nat) {g : Nat} {fn : Func} {fo : Operand} {ars : Array Operand} {ts : Array TypeId} {x y args : List V} {H H' : List O} {r : V} (hf : E.P.funcs[g]? = some fn) (hd : Do E (.fn g args H r H')) {q : Prop} (hq : q)
    (ho : os[i]? = some ⟨dd, .call ⟨.value fo, ars, ts⟩, ty, ps, af, gu⟩ := by exact rfl) (hg : wantedV os ⟨dd, .call ⟨.value fo, ars, ts⟩, ty, ps, af, gu⟩ t = some true := by exact rfl)
    (hfo : rho E t fo = .f g x y := by rfl) (hb : fn.body.isSome = true := by exact rfl) (hn : σ.Nodup := by decide)
    (hl : σ.length ≤ H'.length ∧ H'.length ≤ σ.length + 4 := by exact ⟨Nat.le_of_ble_eq_true rfl, Nat.le_of_ble_eq_true rfl⟩)
    (e : ((V.mvs true σ (x ++ ars.toList.map (rho E t) ++ y)).wp h fun args0 R => (O.mvs true σ σ).wp h fun H0 R0 => args0 = args ∧ H0 = H ∧
      (backs (homeOf σ (sl + 4 * i)) σ H').wp h fun u1 R1 => match news (homeOf σ (sl + 4 * i)) σ.length (sl + 4 * i) (H'.drop σ.length) with
        | none => False
        | some u2 => (lent σ (R ++ R0)).wp h fun bs R2 => (demote (if (r.hasR || H'.any O.hasR) = true then bs else [])).wp h fun u3 R3 =>
          gD E os sl is (put t dd (r.ren (homeOf σ (sl + 4 * i)))) (h.sets (u1 ++ u2 ++ u3)) (tr ++ [(i, R ++ R0 ++ R1 ++ R2 ++ R3, (u1 ++ u2 ++ u3).map (·.1))]) K) = q := by first | (simp (maxSteps := 9000000) only [nrm, nrmw, nrmc, nrme, nrmo, nrml, nrmb, nrmx, Nat.reduceEqDiff, Nat.reduceBEq, Nat.zero_add, Nat.add_zero, Nat.mul_one, List.length_cons, List.length_nil, List.length_map, List.length_set, List.length_replicate, List.drop_zero, List.drop_succ_cons, List.drop_nil, List.take_zero, List.take_succ_cons, List.take_nil, Nat.le_refl, if_true, if_false, Option.any_none, Option.any_some, List.contains_nil, Bool.not_false, Bool.or_true, Bool.true_or, Bool.or_false, Bool.false_or, Bool.and_true, Bool.true_and, Bool.and_self, reduceCtorEq, beq_self_eq_true, List.map_cons, List.map_nil, List.append_nil, List.nil_append, List.contains_cons, List.filter_cons, List.filter_nil, List.cons_append, Bool.false_eq_true, true_and, and_true, List.getElem_toArray, List.getElem_cons_zero, List.getElem_cons_succ, Nat.reduceAdd, Nat.reduceMul, Nat.reduceLT, Nat.reduceSub, Nat.reduceLeDiff]; rfl) | rfl) : gD E os sl (i :: is) t h tr K :=
  g_cs σ ho hg hfo hf hb hn hd hl (e ▸ hq)
theorem cz (σ : List Nat) {g : Nat} {fn : Func} {fo : Operand} {ars : Array Operand} {ts : Array TypeId} {x y args : List V} {H H' : List O} {r : V} (hf : E.P.funcs[g]? = some fn) (hd : Do E (.fn g args H r H')) {z : Prop} (hz : z) {q : Prop} (hq : q)
    (ho : os[i]? = some ⟨dd, .call ⟨.value fo, ars, ts⟩, ty, ps, af, gu⟩ := by exact rfl) (hg : wantedV os ⟨dd, .call ⟨.value fo, ars, ts⟩, ty, ps, af, gu⟩ t = some true := by exact rfl)
    (hfo : rho E t fo = .f g x y := by rfl) (hb : fn.body.isSome = true := by exact rfl) (hn : σ.Nodup := by decide)
    (hl : σ.length ≤ H'.length ∧ H'.length ≤ σ.length + 4 := by exact ⟨Nat.le_of_ble_eq_true rfl, Nat.le_of_ble_eq_true rfl⟩)
    (e : z → ((V.mvs true σ (x ++ ars.toList.map (rho E t) ++ y)).wp h fun args0 R => (O.mvs true σ σ).wp h fun H0 R0 => args0 = args ∧ H0 = H ∧
      (backs (homeOf σ (sl + 4 * i)) σ H').wp h fun u1 R1 => match news (homeOf σ (sl + 4 * i)) σ.length (sl + 4 * i) (H'.drop σ.length) with
        | none => False
        | some u2 => (lent σ (R ++ R0)).wp h fun bs R2 => (demote (if (r.hasR || H'.any O.hasR) = true then bs else [])).wp h fun u3 R3 =>
          gD E os sl is (put t dd (r.ren (homeOf σ (sl + 4 * i)))) (h.sets (u1 ++ u2 ++ u3)) (tr ++ [(i, R ++ R0 ++ R1 ++ R2 ++ R3, (u1 ++ u2 ++ u3).map (·.1))]) K) = q := by intro z_; first | (simp (maxSteps := 9000000) only [z_, nrm, nrmw, nrmc, nrme, nrmo, nrml, nrmb, nrmx, Nat.reduceEqDiff, Nat.reduceBEq, Nat.zero_add, Nat.add_zero, Nat.mul_one, List.length_cons, List.length_nil, List.length_map, List.length_set, List.length_replicate, List.drop_zero, List.drop_succ_cons, List.drop_nil, List.take_zero, List.take_succ_cons, List.take_nil, Nat.le_refl, if_true, if_false, Option.any_none, Option.any_some, List.contains_nil, Bool.not_false, Bool.or_true, Bool.true_or, Bool.or_false, Bool.false_or, Bool.and_true, Bool.true_and, Bool.and_self, reduceCtorEq, beq_self_eq_true, List.map_cons, List.map_nil, List.append_nil, List.nil_append, List.contains_cons, List.filter_cons, List.filter_nil, List.cons_append, Bool.false_eq_true, true_and, and_true, List.getElem_toArray, List.getElem_cons_zero, List.getElem_cons_succ, Nat.reduceAdd, Nat.reduceMul, Nat.reduceLT, Nat.reduceSub, Nat.reduceLeDiff]; rfl) | rfl) : gD E os sl (i :: is) t h tr K :=
  g_cs σ ho hg hfo hf hb hn hd hl (e hz ▸ hq)
end
theorem gi {p q : Prop} (h : p) (e : p = q := by first | with_reducible rfl | (simp (maxSteps := 9000000) only [u_, nrm, nrmw, nrmb, if_true, if_false, Bool.false_eq_true, Nat.zero_add, Nat.add_zero, List.length_cons, List.length_nil, List.length_map, List.length_replicate, List.length_set, List.drop_zero, List.drop_succ_cons, List.take_zero, List.take_succ_cons, Nat.reduceAdd, Nat.reduceMul, Nat.reduceSub] <;> rfl) | (simp (maxSteps := 9000000) only [u_, nrm, nrmw, nrmc, nrme, nrmo, nrml, nrmb, nrmx, Nat.reduceEqDiff, Nat.reduceBEq, Nat.zero_add, Nat.add_zero, Nat.mul_one, List.length_cons, List.length_nil, List.length_map, List.length_set, List.length_replicate, List.drop_zero, List.drop_succ_cons, List.drop_nil, List.take_zero, List.take_succ_cons, List.take_nil, Nat.le_refl, if_true, if_false, Option.any_none, Option.any_some, List.contains_nil, Bool.not_false, Bool.or_true, Bool.true_or, Bool.or_false, Bool.false_or, Bool.and_true, Bool.true_and, Bool.and_self, reduceCtorEq, beq_self_eq_true, List.map_cons, List.map_nil, List.append_nil, List.nil_append, List.contains_cons, List.filter_cons, List.filter_nil, List.cons_append, Bool.false_eq_true, true_and, and_true, List.getElem_toArray, List.getElem_cons_zero, List.getElem_cons_succ, Nat.reduceAdd, Nat.reduceMul, Nat.reduceLT, Nat.reduceSub, Nat.reduceLeDiff] <;> rfl) | rfl) : q := e ▸ h
theorem fb {p q : Prop} (h : q) (e : p = q := by simp only [bodyOf, frs, sub, if_true, if_false, Nat.one_ne_zero, u_, Tryd.f3, Tryd.f4, Tryd.f5, Tryd.f9, Tryd.f10, Tryd.f16, Tryd.f17, Tryd.f23, Tryd.f26, Tryd.f29, Tryd.f31, Tryd.f32, Tryd.f33, Tryd.f36, Tryd.f39, Tryd.f42, Tryd.f45, Tryd.f48, Tryd.f53, Tryd.f55, Tryd.f67, Tryd.f68, Tryd.f69, Tryd.f70, Tryd.f71, Tryd.f73, Tryd.f74, Tryd.f75, Tryd.f76, Tryd.f79, Tryd.f80, Tryd.f86]; rfl) : p := e ▸ h
section
variable {p q c : Prop} {x : Bool} {α : Type} {a b : α}
theorem dT [Decidable c] (hc : c) (h : q) (e : decide c = true → p = q := by intro h_; first | (simp only [h_, nrm]; rfl) | rfl) : p := e (decide_eq_true hc) ▸ h
theorem dF [Decidable c] (hc : ¬ c) (h : q) (e : decide c = false → p = q := by intro h_; first | (simp only [h_, nrm]; rfl) | rfl) : p := e (decide_eq_false hc) ▸ h
theorem dV (hc : x = true) (h : q) (e : x = true → p = q := by intro h_; first | (simp only [h_, nrm]; rfl) | rfl) : p := e hc ▸ h
theorem dW (hc : ¬ x = true) (h : q) (e : x = false → p = q := by intro h_; first | (simp only [h_, nrm]; rfl) | rfl) : p := e (Bool.eq_false_iff.mpr hc) ▸ h
theorem dE [BEq α] [LawfulBEq α] (hc : a = b) (h : q) (e : (a == b) = true → (a != b) = false → p = q := by intro h_ h2_; first | (simp only [h_, h2_, nrm]; rfl) | rfl) : p := e (beq_iff_eq.mpr hc) (bne_eq_false_iff_eq.mpr hc) ▸ h
theorem dN [BEq α] [LawfulBEq α] (hc : ¬ a = b) (h : q) (e : (a == b) = false → (a != b) = true → p = q := by intro h_ h2_; first | (simp only [h_, h2_, nrm]; rfl) | rfl) : p := e (beq_eq_false_iff_ne.mpr hc) (bne_iff_ne.mpr hc) ▸ h
end

theorem word_Flip.does {a0 r : Int} (H : word_Flip.f a0 = some r) : Do E0 (.fn 24 [.i .u64 a0] [] (.i .u64 r) []) := by
 refine fnw ((word_Flip.Q a0 r)) func24 ntmps24 ?_; unfold word_Flip.f at H; refine sr fun K hK => ?_; refine o_ ?_; refine nksr hK fun K hK => ?_; refine o_ ?_; refine nkt hK ?_; rw [← Option.some.inj H]; exact fw []
theorem word_Exp.does {a0 r : Int} (H : word_Exp.f a0 = some r) : Do E0 (.fn 38 [.i .u64 a0] [] (.i .i64 r) []) := by
 refine fnw ((word_Exp.Q a0 r)) func38 ntmps38 ?_; unfold word_Exp.f at H; refine sr fun K hK => ?_; refine o_ ?_; refine nksr hK fun K hK => ?_; refine o_ ?_; refine g_shrc (p := 4503599627370496) rfl rfl rfl rfl de_ (by rfl) (gT ?_); refine o_ ?_; refine g_conv rfl rfl Tryd.underlying23 Tryd.underlying3 rfl (gT ?_); refine o_ ?_; refine nkt hK ?_; rw [← Option.some.inj H]; exact fw []
theorem word_Frac.does {a0 r : Int} (H : word_Frac.f a0 = some r) : Do E0 (.fn 66 [.i .u64 a0] [] (.i .u64 r) []) := by
 refine fnw ((word_Frac.Q a0 r)) func66 ntmps66 ?_; unfold word_Frac.f at H; refine sr fun K hK => ?_; refine o_ ?_; refine nksr hK fun K hK => ?_; refine o_ ?_; refine nkt hK ?_; rw [← Option.some.inj H]; exact fw []
end Go.Proofs.YtdmhepgfmickdaaDoor.F

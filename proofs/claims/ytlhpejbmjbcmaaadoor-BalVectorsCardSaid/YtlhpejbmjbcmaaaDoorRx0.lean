/- Texts of this claim, one behind the other: the functions, and that the machine does what they say. -/
import Derived.RowKit
import Derived.WalkKit
import Derived.KernelRfl
import Derived.Test.YtlhpejbmjbcmaaaDoorProg
import Derived.Test.YtlhpejbmjbcmaaaDoorRun1
set_option linter.constructorNameAsVariable false
set_option linter.unusedSimpArgs false
set_option linter.unusedVariables false
set_option linter.unusedSectionVars false
namespace Go.Proofs.YtlhpejbmjbcmaaaDoorW.PrintWords
open Go Go.RowKit
def rd (xs : List Int) (i : Int) : Int := xs.getD i.toNat 0
def bt (s : ByteArray) (i : Int) : Int := if h : i.toNat < s.size then ((s[i.toNat]'h).toNat : Int) else 0
theorem bt_at (x : ByteArray) (j : Int) (h : j.toNat < x.size) : ((x[j.toNat]'h).toNat : Int) = bt x j := by unfold bt; rw [dif_pos h]
def Ev {α : Type} (g : Nat → Option α) (r : α) : Prop := ∃ K, ∀ k, K ≤ k → g k = some r
theorem Ev.now {α : Type} (r : α) : Ev (fun _ => some r) r := ⟨0, fun _ _ => rfl⟩
theorem Ev.rounds {α : Type} {g : Nat → Option α} {r : α} (h : Ev g r) : ∃ k, g k = some r := h.elim fun K h => ⟨K, h K (Nat.le_refl K)⟩
theorem Ev.bind {α β : Type} {g : Nat → Option α} {f : Nat → α → Option β} {a : α} {r : β} (h : Ev g a) (k : Ev (fun n => f n a) r) : Ev (fun n => (g n).bind (f n)) r := by
  obtain ⟨K, h⟩ := h; obtain ⟨L, k⟩ := k
  exact ⟨K + L, fun n hn => by show (g n).bind (f n) = some r; rw [h n (by omega)]; exact k n (by omega)⟩
def mx (a b : Int) : Int := if a < b then b else a
def mn (a b : Int) : Int := if b < a then b else a
def shl (k : IntKind) (x y : Int) : Int := k.wrap (x * 2 ^ min y.toNat k.bits)
def shr (k : IntKind) (x y : Int) : Int := x / 2 ^ min y.toNat k.bits
end Go.Proofs.YtlhpejbmjbcmaaaDoorW.PrintWords
namespace Go.Proofs.YtlhpejbmjbcmaaaDoorW.PrintLast
end Go.Proofs.YtlhpejbmjbcmaaaDoorW.PrintLast
namespace Go.Proofs.YtlhpejbmjbcmaaaDoorW.PrintMore
end Go.Proofs.YtlhpejbmjbcmaaaDoorW.PrintMore
namespace Go.Proofs.YtlhpejbmjbcmaaaDoor.F
open Go Go.RowKit Go.Proofs.YtlhpejbmjbcmaaaDoorW.PrintWords
open Go.Rk hiding Rd
def addX : List V → Option V
  | [.i .u64 x, .i .u64 y, .i .u64 c] => if 0 ≤ x ∧ 0 ≤ y ∧ 0 ≤ c ∧ c ≤ 1 then some (.t [.i .u64 ((x + y + c) % 18446744073709551616), .i .u64 ((x + y + c) / 18446744073709551616)]) else none
  | _ => none
def subX : List V → Option V
  | [.i .u64 x, .i .u64 y, .i .u64 c] => if 0 ≤ x ∧ 0 ≤ y ∧ y < 18446744073709551616 ∧ 0 ≤ c ∧ c ≤ 1 then some (.t [.i .u64 ((x - y - c) % 18446744073709551616), .i .u64 (if x < y + c then 1 else 0)]) else none
  | _ => none
def tab32 : List Int := [0, 1, 28, 2, 29, 14, 24, 3, 30, 22, 20, 15, 25, 17, 4, 8, 31, 27, 13, 23, 21, 19, 16, 7, 26, 12, 18, 6, 11, 5, 10, 9]
noncomputable def E0 : Env := { P := Tryd.prog, G := fun g => if g = 0 then tab32.map (V.i .u8) else [], ext := fun f l => if f = 58 then addX l else if f = 59 then subX l else none }
def bits_Add64.f (a0 a1 a2 : Int) : Option (Int × Int) := if 0 ≤ a0 then (if 0 ≤ a1 then (if 0 ≤ a2 then (if a2 ≤ 1 then (some ((a0 + a1 + a2) % 18446744073709551616, (a0 + a1 + a2) / 18446744073709551616)) else none) else none) else none) else none
def bits_Sub64.f (a0 a1 a2 : Int) : Option (Int × Int) := if 0 ≤ a0 ∧ 0 ≤ a1 ∧ a1 < 18446744073709551616 ∧ 0 ≤ a2 ∧ a2 ≤ 1 then (some ((a0 - a1 - a2) % 18446744073709551616, if a0 < a1 + a2 then 1 else 0)) else none
theorem bits_Add64.ext {a0 a1 a2 : Int} {r : Int × Int} (H : bits_Add64.f a0 a1 a2 = some r) : E0.ext 58 [.i .u64 a0, .i .u64 a1, .i .u64 a2] = some (.t [.i .u64 r.1, .i .u64 r.2]) := by
  unfold bits_Add64.f at H
  obtain ⟨c1, H⟩ := it1 H; obtain ⟨c2, H⟩ := it1 H; obtain ⟨c3, H⟩ := it1 H; obtain ⟨c4, H⟩ := it1 H
  cases H
  simp only [E0, if_true]
  exact if_pos ⟨c1, c2, c3, c4⟩
theorem bits_Sub64.ext {a0 a1 a2 : Int} {r : Int × Int} (H : bits_Sub64.f a0 a1 a2 = some r) : E0.ext 59 [.i .u64 a0, .i .u64 a1, .i .u64 a2] = some (.t [.i .u64 r.1, .i .u64 r.2]) := by
  unfold bits_Sub64.f at H
  obtain ⟨⟨c1, c2, c5, c3, c4⟩, H⟩ := it1 H
  cases H
  simp only [E0, show (59 = 58) = False from by simp, if_false, if_true]
  exact if_pos ⟨c1, c2, c5, c3, c4⟩
theorem nrmw : (∀ n, IntKind.i64.wrap n = wrap64 n) ∧ (∀ n, IntKind.u32.wrap n = n % 4294967296) ∧ (∀ n, IntKind.u8.wrap n = n % 256) ∧ (∀ k x y, shlI k x y = shl k x y) ∧ (∀ k x y, shrI k x y = shr k x y) ∧
    (∀ xs j, List.getD xs (Int.toNat j) 0 = rd xs j) ∧ (∀ x, (0 : Int) - x = -x) := by
  refine ⟨fun n => by unfold Go.RowKit.wrap64; exact IntKind.wrap_i64 n, fun n => by simp [IntKind.wrap, IntKind.signed, IntKind.bits], fun n => by simp [IntKind.wrap, IntKind.signed, IntKind.bits], fun _ _ _ => rfl, fun _ _ _ => rfl, fun _ _ => rfl, Int.zero_sub⟩
theorem gN {p q : Prop} (h : q) (e : p = q := by first | (simp only [nrm, nrmw, nrmb, if_true, if_false, Bool.false_eq_true, Nat.zero_add, Nat.add_zero, List.length_cons, List.length_nil, List.length_map, List.length_replicate, List.length_set, List.drop_zero, List.drop_succ_cons, List.take_zero, List.take_succ_cons, Nat.reduceAdd, Nat.reduceMul, Nat.reduceSub]; rfl) | rfl) : p := e ▸ h
theorem gC {p q : Prop} (h : q) (e : p = q := by first | (simp only [nrm, nrmw, nrmc, nrme, nrmo, nrml, nrmb, nrmx, Nat.reduceEqDiff, Nat.reduceBEq, Nat.zero_add, Nat.add_zero, Nat.mul_one, List.length_cons, List.length_nil, List.length_map, List.length_set, List.length_replicate, List.drop_zero, List.drop_succ_cons, List.drop_nil, List.take_zero, List.take_succ_cons, List.take_nil, Nat.le_refl, if_true, if_false, Option.any_none, Option.any_some, List.contains_nil, Bool.not_false, Bool.or_true, Bool.true_or, Bool.or_false, Bool.false_or, Bool.and_true, Bool.true_and, Bool.and_self, reduceCtorEq, beq_self_eq_true, List.map_cons, List.map_nil, List.append_nil, List.nil_append, List.contains_cons, List.filter_cons, List.filter_nil, List.cons_append, Bool.false_eq_true, true_and, and_true, List.getElem_toArray, List.getElem_cons_zero, List.getElem_cons_succ, Nat.reduceAdd, Nat.reduceMul, Nat.reduceLT, Nat.reduceSub, Nat.reduceLeDiff]; rfl) | rfl) : p := e ▸ h
theorem gT {E : Env} {os : Array Oper} {sl : Nat} {is : List Nat} {t t' : List V} {h : Hp} {tr : Tr} {K : List V → Hp → Tr → Prop} (hk : gD E os sl is t' h tr K)
    (e : t = t' := by first | (simp only [nrm, nrmw, nrmb, nrmx, if_true, if_false, Bool.false_eq_true, Nat.zero_add, Nat.add_zero, List.length_cons, List.length_nil, List.length_map, List.length_replicate, List.length_set, List.drop_zero, List.drop_succ_cons, List.take_zero, List.take_succ_cons, Nat.reduceAdd, Nat.reduceMul, Nat.reduceSub]; rfl) | rfl) : gD E os sl is t h tr K := e ▸ hk
theorem gU {E : Env} {os : Array Oper} {sl : Nat} {is : List Nat} {t t' : List V} {h h' : Hp} {tr : Tr} {K : List V → Hp → Tr → Prop} (hk : gD E os sl is t' h' tr K)
    (e : t = t' := by first | (simp only [nrm, nrmw, nrmb, nrmx, if_true, if_false, Bool.false_eq_true, Nat.zero_add, Nat.add_zero, List.length_cons, List.length_nil, List.length_map, List.length_replicate, List.length_set, List.drop_zero, List.drop_succ_cons, List.take_zero, List.take_succ_cons, Nat.reduceAdd, Nat.reduceMul, Nat.reduceSub]; rfl) | rfl) (e2 : h = h' := by first | (simp only [nrm, nrmw, nrmb, nrmx, if_true, if_false, Bool.false_eq_true, Nat.zero_add, Nat.add_zero, List.length_cons, List.length_nil, List.length_map, List.length_replicate, List.length_set, List.drop_zero, List.drop_succ_cons, List.take_zero, List.take_succ_cons, Nat.reduceAdd, Nat.reduceMul, Nat.reduceSub]; rfl) | rfl) : gD E os sl is t h tr K := by subst e e2; exact hk
theorem gB {p q : Prop} (h : q) (e : p = q := by first | (simp only [nrm, nrmb, nrmc, nrmf, List.map_cons, List.map_nil, List.zip_cons_cons, List.zip_nil_right, List.zip_nil_left, List.getElem?_cons_zero, List.getElem?_cons_succ, List.length_cons, List.length_nil, Nat.reduceAdd, Nat.reduceMul, Nat.reduceLeDiff, Nat.zero_add, Nat.add_zero, Nat.le_refl, and_self, if_true, List.cons_append, List.nil_append, List.all_cons, List.all_nil, Bool.and_true, Bool.and_self]; simp only [nrm, nrmw, nrmb, if_true, if_false, Bool.false_eq_true, Nat.zero_add, Nat.add_zero, List.length_cons, List.length_nil, List.length_map, List.length_replicate, List.length_set, List.drop_zero, List.drop_succ_cons, List.take_zero, List.take_succ_cons, Nat.reduceAdd, Nat.reduceMul, Nat.reduceSub]; rfl) | (simp only [nrm, nrmb, nrmc, nrmf, List.map_cons, List.map_nil, List.zip_cons_cons, List.zip_nil_right, List.zip_nil_left, List.getElem?_cons_zero, List.getElem?_cons_succ, List.length_cons, List.length_nil, Nat.reduceAdd, Nat.reduceMul, Nat.reduceLeDiff, Nat.zero_add, Nat.add_zero, Nat.le_refl, and_self, if_true, List.cons_append, List.nil_append, List.all_cons, List.all_nil, Bool.and_true, Bool.and_self]; rfl)) : p := e ▸ h
theorem gI {p q : Prop} (h : p) (e : p = q := by first | with_reducible rfl | (simp only [nrm, nrmw, nrmb, if_true, if_false, Bool.false_eq_true, Nat.zero_add, Nat.add_zero, List.length_cons, List.length_nil, List.length_map, List.length_replicate, List.length_set, List.drop_zero, List.drop_succ_cons, List.take_zero, List.take_succ_cons, Nat.reduceAdd, Nat.reduceMul, Nat.reduceSub] <;> rfl) | (simp only [nrm, nrmw, nrmc, nrme, nrmo, nrml, nrmb, nrmx, Nat.reduceEqDiff, Nat.reduceBEq, Nat.zero_add, Nat.add_zero, Nat.mul_one, List.length_cons, List.length_nil, List.length_map, List.length_set, List.length_replicate, List.drop_zero, List.drop_succ_cons, List.drop_nil, List.take_zero, List.take_succ_cons, List.take_nil, Nat.le_refl, if_true, if_false, Option.any_none, Option.any_some, List.contains_nil, Bool.not_false, Bool.or_true, Bool.true_or, Bool.or_false, Bool.false_or, Bool.and_true, Bool.true_and, Bool.and_self, reduceCtorEq, beq_self_eq_true, List.map_cons, List.map_nil, List.append_nil, List.nil_append, List.contains_cons, List.filter_cons, List.filter_nil, List.cons_append, Bool.false_eq_true, true_and, and_true, List.getElem_toArray, List.getElem_cons_zero, List.getElem_cons_succ, Nat.reduceAdd, Nat.reduceMul, Nat.reduceLT, Nat.reduceSub, Nat.reduceLeDiff] <;> rfl) | rfl) : q := e ▸ h
theorem gF {p : Prop} (e : p := by simp only [nrm, nrmw, nrmc, nrme, nrmo, nrml, nrmb, nrmx, Nat.reduceEqDiff, Nat.reduceBEq, Nat.zero_add, Nat.add_zero, Nat.mul_one, List.length_cons, List.length_nil, List.length_map, List.length_set, List.length_replicate, List.drop_zero, List.drop_succ_cons, List.drop_nil, List.take_zero, List.take_succ_cons, List.take_nil, Nat.le_refl, if_true, if_false, Option.any_none, Option.any_some, List.contains_nil, Bool.not_false, Bool.or_true, Bool.true_or, Bool.or_false, Bool.false_or, Bool.and_true, Bool.true_and, Bool.and_self, reduceCtorEq, beq_self_eq_true, List.map_cons, List.map_nil, List.append_nil, List.nil_append, List.contains_cons, List.filter_cons, List.filter_nil, List.cons_append, Bool.false_eq_true, true_and, and_true, List.getElem_toArray, List.getElem_cons_zero, List.getElem_cons_succ, Nat.reduceAdd, Nat.reduceMul, Nat.reduceLT, Nat.reduceSub, Nat.reduceLeDiff] <;> first | rfl | exact ⟨rfl, trivial⟩ | exact ⟨rfl, rfl⟩) : p := e
section
variable {E : Env} {Q : S → Prop} {ks : List Fm} {s : S}
/-- A region; what follows it is a letter. -/
theorem wR {id os n is} (h : ∀ K : List V → Hp → Tr → Prop, (∀ t' h' tr, kont E Q ks .normal ⟨t', h', n, s.a⟩ → K t' h' tr) → gD E os s.n is s.t s.h [] K) (e1 : List.range os.size = is := by first | (simp only [Array.size, List.length, List.range, List.range.loop, nrm, Nat.reduceAdd, Nat.reduceMul]; rfl) | rfl) (e2 : s.n + 4 * os.size = n := by first | (simp only [Array.size, List.length, List.range, List.range.loop, nrm, Nat.reduceAdd, Nat.reduceMul]; rfl) | rfl) : wk_ E Q ks (.region id os false) s := by
  subst e1 e2; exact w_reg (h _ fun t' h' tr hk => hk)
theorem wD {id os n is} (h : ∀ K : List V → Hp → Tr → Prop, (∀ t' h' tr, indep os (pres os) tr = true → kont E Q ks .normal ⟨t', h', n, s.a⟩ → K t' h' tr) → gD E os s.n is s.t s.h [] K) (e1 : List.range os.size = is := by first | (simp only [Array.size, List.length, List.range, List.range.loop, nrm, Nat.reduceAdd, Nat.reduceMul]; rfl) | rfl) (e2 : s.n + 4 * os.size = n := by first | (simp only [Array.size, List.length, List.range, List.range.loop, nrm, Nat.reduceAdd, Nat.reduceMul]; rfl) | rfl) : wk_ E Q ks (.region id os true) s := by
  subst e1 e2; exact w_drw (h _ fun t' h' tr hi hk => ⟨hi, hk⟩)
end
end Go.Proofs.YtlhpejbmjbcmaaaDoor.F
namespace Go.Proofs.YtlhpejbmjbcmaaaDoor.F
open Go Go.RowKit Go.Proofs.YtlhpejbmjbcmaaaDoorW.PrintWords
open Go.Rk hiding Rd
set_option linter.unusedVariables false
set_option linter.unusedSimpArgs false
set_option maxRecDepth 100000
def gimballaw16_head_ok.f : Option Unit := some ()
def mat_New.f (a0 : Int) (a1 : Int) : Option (Int × Int × Int × (List Int)) := (if a0 < 0 then (some (0, 0, 0, ([] : List Int))) else (if a1 < 0 then (some (0, 0, 0, ([] : List Int))) else (if a0 > 4096 then (some (0, 0, 0, ([] : List Int))) else (if a1 > 4096 then (some (0, 0, 0, ([] : List Int))) else (if 0 ≤ (wrap64 (a0 * a1)) then (if (wrap64 (a0 * a1)) ≤ 35184372088832 then (some (a0, a1, a1, (List.replicate (wrap64 (a0 * a1)).toNat 0))) else none) else none)))))
def mat_New.Q (a0 : Int) (a1 : Int) (r : Int × Int × Int × (List Int)) : S → Prop := fun s => ∃ τ r', fin E0 Tryd.f18 0 τ s = some (r', [.row (r.2.2.2.map (V.i .u64)) 2 1 true true none]) ∧ r'.ro = (.a [.i .i64 r.1, .i .i64 r.2.1, .i .i64 r.2.2.1, .s (some (0, 0)) r.2.2.2.length])
def mat_Matrix_in.f (a0_0 : Int) (a0_1 : Int) (a0_2 : Int) (l0_3 : List Int) (a1 : Int) (a2 : Int) : Option (Bool) := (if a1 ≥ 0 then (if a1 < a0_0 then (if a2 ≥ 0 then (if a2 < a0_1 then (if a0_2 ≥ 0 then (some ((decide ((wrap64 ((wrap64 (a1 * a0_2)) + a2)) < (l0_3.length : Int))))) else (some (false))) else (some (false))) else (some (false))) else (some (false))) else (some (false)))
def mat_Matrix_in.Q (a0_0 : Int) (a0_1 : Int) (a0_2 : Int) (l0_3 : List Int) (a1 : Int) (a2 : Int) (r : Bool) : S → Prop := fun s => ∃ τ r', fin E0 Tryd.f29 0 τ s = some (r', []) ∧ r'.ro = (.b r)
def mat_Matrix_Set.f (a0_0 : Int) (a0_1 : Int) (a0_2 : Int) (l0_3 : List Int) (a1 : Int) (a2 : Int) (a3 : Int) : Option ((List Int)) := ((mat_Matrix_in.f a0_0 a0_1 a0_2 l0_3 a1 a2).bind fun q1 => (if q1 = true then (if 0 ≤ (wrap64 ((wrap64 (a1 * a0_2)) + a2)) then (if (wrap64 ((wrap64 (a1 * a0_2)) + a2)) < (l0_3.length : Int) then (some ((l0_3.set (wrap64 ((wrap64 (a1 * a0_2)) + a2)).toNat a3))) else none) else none) else (some (l0_3))))
def mat_Matrix_Set.Q (a0_0 : Int) (a0_1 : Int) (a0_2 : Int) (l0_3 : List Int) (a1 : Int) (a2 : Int) (a3 : Int) (r : (List Int)) : S → Prop := fun s => ∃ τ r', fin E0 Tryd.f22 1 τ s = some (r', [.row (r.map (V.i .u64)) 2 1 true false none]) ∧ r'.ro = (.t [])
mutual
def mat_One.l0 : Nat → Int → Int → Int → Int → Int → List Int → Option (Int × Int × Int × (List Int))
  | 0, _, _, _, _, _, _ => none
  | k + 1, t_9, t_10, h1_0, h1_1, h1_2, h2 => (if t_10 < t_9 then ((mat_Matrix_Set.f h1_0 h1_1 h1_2 h2 t_10 t_10 4607182418800017408).bind fun q3 => (mat_One.l0 k t_9 (wrap64 (t_10 + 1)) h1_0 h1_1 h1_2 q3)) else (some (h1_0, h1_1, h1_2, h2)))
end
def mat_One.f (k : Nat) (a0 : Int) : Option (Int × Int × Int × (List Int)) := ((mat_New.f a0 a0).bind fun q1 => (mat_One.l0 k q1.1 0 q1.1 q1.2.1 q1.2.2.1 q1.2.2.2))
def mat_One.Q (a0 : Int) (r : Int × Int × Int × (List Int)) : S → Prop := fun s => ∃ τ r', fin E0 Tryd.f21 0 τ s = some (r', [.row (r.2.2.2.map (V.i .u64)) 2 1 true true none]) ∧ r'.ro = (.a [.i .i64 r.1, .i .i64 r.2.1, .i .i64 r.2.2.1, .s (some (0, 0)) r.2.2.2.length])
def word_Make.f (a0 : Bool) (a1 : Int) (a2 : Int) : Option (Int) := (if a0 = true then (some ((Go.bits .or .u64 (Go.bits .or .u64 (IntKind.u64.wrap ((Go.bits .and .u64 (IntKind.u64.wrap (a1)) 2047) * 4503599627370496)) (Go.bits .and .u64 a2 4503599627370495)) 9223372036854775808))) else (some ((Go.bits .or .u64 (IntKind.u64.wrap ((Go.bits .and .u64 (IntKind.u64.wrap (a1)) 2047) * 4503599627370496)) (Go.bits .and .u64 a2 4503599627370495)))))
def word_Make.Q (a0 : Bool) (a1 : Int) (a2 : Int) (r : Int) : S → Prop := fun s => ∃ τ r', fin E0 Tryd.f23 0 τ s = some (r', []) ∧ r'.ro = (.i .u64 r)
mutual
def mat_Matrix_Check.j0 : Nat → Bool → Int → Int → Int → List Int → Option (Int)
  | 0, _, _, _, _, _ => none
  | k + 1, t_3, h0_0, h0_1, h0_2, h0_3 => (if t_3 = true then (some (4)) else (if h0_0 = 0 then (mat_Matrix_Check.j1 k true h0_0 h0_1 h0_2 h0_3) else (mat_Matrix_Check.j1 k (h0_1 == 0) h0_0 h0_1 h0_2 h0_3)))
def mat_Matrix_Check.j1 : Nat → Bool → Int → Int → Int → List Int → Option (Int)
  | 0, _, _, _, _, _ => none
  | k + 1, t_34, h0_0, h0_1, h0_2, h0_3 => (if t_34 = true then (some (0)) else (if (wrap64 ((wrap64 ((wrap64 (h0_0 - 1)) * h0_2)) + h0_1)) > (h0_3.length : Int) then (some (4)) else (some (0))))
end
def mat_Matrix_Check.f (k : Nat) (a0_0 : Int) (a0_1 : Int) (a0_2 : Int) (l0_3 : List Int) : Option (Int) := (if a0_0 < 0 then (mat_Matrix_Check.j0 k true a0_0 a0_1 a0_2 l0_3) else (if a0_0 > 4096 then (mat_Matrix_Check.j0 k true a0_0 a0_1 a0_2 l0_3) else (if a0_1 < 0 then (mat_Matrix_Check.j0 k true a0_0 a0_1 a0_2 l0_3) else (if a0_1 > 4096 then (mat_Matrix_Check.j0 k true a0_0 a0_1 a0_2 l0_3) else (if a0_2 < a0_1 then (mat_Matrix_Check.j0 k true a0_0 a0_1 a0_2 l0_3) else (mat_Matrix_Check.j0 k (decide (a0_2 > 1099511627776)) a0_0 a0_1 a0_2 l0_3))))))
def mat_Matrix_Check.Q (a0_0 : Int) (a0_1 : Int) (a0_2 : Int) (l0_3 : List Int) (r : Int) : S → Prop := fun s => ∃ τ r', fin E0 Tryd.f24 0 τ s = some (r', []) ∧ r'.ro = (.i .i64 r)
def mat_Matrix_At.f (a0_0 : Int) (a0_1 : Int) (a0_2 : Int) (l0_3 : List Int) (a1 : Int) (a2 : Int) : Option (Int) := ((mat_Matrix_in.f a0_0 a0_1 a0_2 l0_3 a1 a2).bind fun q1 => (if q1 = true then (if 0 ≤ (wrap64 ((wrap64 (a1 * a0_2)) + a2)) then (if (wrap64 ((wrap64 (a1 * a0_2)) + a2)) < (l0_3.length : Int) then (some ((rd l0_3 (wrap64 ((wrap64 (a1 * a0_2)) + a2))))) else none) else none) else (some (9221120237041090560))))
def mat_Matrix_At.Q (a0_0 : Int) (a0_1 : Int) (a0_2 : Int) (l0_3 : List Int) (a1 : Int) (a2 : Int) (r : Int) : S → Prop := fun s => ∃ τ r', fin E0 Tryd.f12 0 τ s = some (r', []) ∧ r'.ro = (.i .u64 r)
def word_Exp.f (a0 : Int) : Option (Int) := (some ((wrap64 ((Go.bits .and .u64 (a0 / 4503599627370496) 2047)))))
def word_Exp.Q (a0 : Int) (r : Int) : S → Prop := fun s => ∃ τ r', fin E0 Tryd.f30 0 τ s = some (r', []) ∧ r'.ro = (.i .i64 r)
def word_Finite.f (a0 : Int) : Option (Bool) := ((word_Exp.f a0).bind fun q1 => (some ((decide (q1 < 2047)))))
def word_Finite.Q (a0 : Int) (r : Bool) : S → Prop := fun s => ∃ τ r', fin E0 Tryd.f13 0 τ s = some (r', []) ∧ r'.ro = (.b r)
mutual
def mat_Matrix_Finite.l0 : Nat → Int → Int → Int → Int → Int → List Int → Option (Bool)
  | 0, _, _, _, _, _, _ => none
  | k + 1, t_6, t_7, h0_0, h0_1, h0_2, h0_3 => (if t_7 < t_6 then (mat_Matrix_Finite.l1 k t_7 t_6 t_7 h0_1 0 h0_0 h0_1 h0_2 h0_3) else (some (true)))
def mat_Matrix_Finite.l1 : Nat → Int → Int → Int → Int → Int → Int → Int → Int → List Int → Option (Bool)
  | 0, _, _, _, _, _, _, _, _, _ => none
  | k + 1, i_3, t_6, t_7, t_11, t_12, h0_0, h0_1, h0_2, h0_3 => (if t_12 < t_11 then ((mat_Matrix_At.f h0_0 h0_1 h0_2 h0_3 i_3 t_12).bind fun q3 => ((word_Finite.f q3).bind fun q4 => (if q4 = true then (mat_Matrix_Finite.l1 k i_3 t_6 t_7 t_11 (wrap64 (t_12 + 1)) h0_0 h0_1 h0_2 h0_3) else (some (false))))) else (mat_Matrix_Finite.l0 k t_6 (wrap64 (t_7 + 1)) h0_0 h0_1 h0_2 h0_3))
end
def mat_Matrix_Finite.f (k : Nat) (a0_0 : Int) (a0_1 : Int) (a0_2 : Int) (l0_3 : List Int) : Option (Bool) := (mat_Matrix_Finite.l0 k a0_0 0 a0_0 a0_1 a0_2 l0_3)
def mat_Matrix_Finite.Q (a0_0 : Int) (a0_1 : Int) (a0_2 : Int) (l0_3 : List Int) (r : Bool) : S → Prop := fun s => ∃ τ r', fin E0 Tryd.f10 0 τ s = some (r', []) ∧ r'.ro = (.b r)
mutual
def mat_Matrix_Clone.l0 : Nat → Int → Int → Int → Int → Int → List Int → Int → Int → Int → List Int → Option (Int × Int × Int × (List Int))
  | 0, _, _, _, _, _, _, _, _, _, _ => none
  | k + 1, t_12, t_13, h0_0, h0_1, h0_2, h0_3, h2_0, h2_1, h2_2, h3 => (if t_13 < t_12 then (mat_Matrix_Clone.l1 k t_13 t_12 t_13 h2_1 0 h0_0 h0_1 h0_2 h0_3 h2_0 h2_1 h2_2 h3) else (some (h2_0, h2_1, h2_2, h3)))
def mat_Matrix_Clone.l1 : Nat → Int → Int → Int → Int → Int → Int → Int → Int → List Int → Int → Int → Int → List Int → Option (Int × Int × Int × (List Int))
  | 0, _, _, _, _, _, _, _, _, _, _, _, _, _ => none
  | k + 1, i_4, t_12, t_13, t_17, t_18, h0_0, h0_1, h0_2, h0_3, h2_0, h2_1, h2_2, h3 => (if t_18 < t_17 then ((mat_Matrix_At.f h0_0 h0_1 h0_2 h0_3 i_4 t_18).bind fun q4 => ((mat_Matrix_Set.f h2_0 h2_1 h2_2 h3 i_4 t_18 q4).bind fun q5 => (mat_Matrix_Clone.l1 k i_4 t_12 t_13 t_17 (wrap64 (t_18 + 1)) h0_0 h0_1 h0_2 h0_3 h2_0 h2_1 h2_2 q5))) else (mat_Matrix_Clone.l0 k t_12 (wrap64 (t_13 + 1)) h0_0 h0_1 h0_2 h0_3 h2_0 h2_1 h2_2 h3))
end
def mat_Matrix_Clone.f (k : Nat) (a0_0 : Int) (a0_1 : Int) (a0_2 : Int) (l0_3 : List Int) : Option (Int × Int × Int × (List Int)) := ((mat_New.f a0_0 a0_1).bind fun q1 => (mat_Matrix_Clone.l0 k q1.1 0 a0_0 a0_1 a0_2 l0_3 q1.1 q1.2.1 q1.2.2.1 q1.2.2.2))
def mat_Matrix_Clone.Q (a0_0 : Int) (a0_1 : Int) (a0_2 : Int) (l0_3 : List Int) (r : Int × Int × Int × (List Int)) : S → Prop := fun s => ∃ τ r', fin E0 Tryd.f7 0 τ s = some (r', [.row (r.2.2.2.map (V.i .u64)) 2 1 true true none]) ∧ r'.ro = (.a [.i .i64 r.1, .i .i64 r.2.1, .i .i64 r.2.2.1, .s (some (0, 0)) r.2.2.2.length])
def word_Frac.f (a0 : Int) : Option (Int) := (some ((Go.bits .and .u64 a0 4503599627370495)))
def word_Frac.Q (a0 : Int) (r : Int) : S → Prop := fun s => ∃ τ r', fin E0 Tryd.f46 0 τ s = some (r', []) ∧ r'.ro = (.i .u64 r)
mutual
def word_Kind.j0 : Nat → Int → Int → Bool → Option (Int)
  | 0, _, _, _ => none
  | k + 1, e_3, f_4, t_9 => (if t_9 = true then (some (1)) else (if e_3 = 0 then (some (2)) else (if e_3 < 2047 then (some (3)) else (if f_4 = 0 then (some (4)) else (some (5))))))
end
def word_Kind.f (k : Nat) (a0 : Int) : Option (Int) := ((word_Exp.f a0).bind fun q1 => ((word_Frac.f a0).bind fun q2 => (if q1 = 0 then (word_Kind.j0 k q1 q2 (q2 == 0)) else (word_Kind.j0 k q1 q2 false))))
def word_Kind.Q (a0 : Int) (r : Int) : S → Prop := fun s => ∃ τ r', fin E0 Tryd.f36 0 τ s = some (r', []) ∧ r'.ro = (.i .i64 r)
mutual
def bal_lone.l0 : Nat → Int → Int → Bool → Int → Int → Int → Int → List Int → Option (Bool)
  | 0, _, _, _, _, _, _, _, _ => none
  | k + 1, i_1, hi_3, column_4, k_11, h0_0, h0_1, h0_2, h0_3 => (if k_11 < hi_3 then ((mat_Matrix_At.f h0_0 h0_1 h0_2 h0_3 i_1 k_11).bind fun q2 => (if column_4 = true then ((mat_Matrix_At.f h0_0 h0_1 h0_2 h0_3 k_11 i_1).bind fun q4 => (if k_11 = i_1 then (bal_lone.l0 k i_1 hi_3 true (wrap64 (k_11 + 1)) h0_0 h0_1 h0_2 h0_3) else ((word_Kind.f k q4).bind fun q6 => (if q6 = 1 then (bal_lone.l0 k i_1 hi_3 true (wrap64 (k_11 + 1)) h0_0 h0_1 h0_2 h0_3) else (some (false)))))) else (if k_11 = i_1 then (bal_lone.l0 k i_1 hi_3 false (wrap64 (k_11 + 1)) h0_0 h0_1 h0_2 h0_3) else ((word_Kind.f k q2).bind fun q9 => (if q9 = 1 then (bal_lone.l0 k i_1 hi_3 false (wrap64 (k_11 + 1)) h0_0 h0_1 h0_2 h0_3) else (some (false))))))) else (some (true)))
end
def bal_lone.f (k : Nat) (a0_0 : Int) (a0_1 : Int) (a0_2 : Int) (l0_3 : List Int) (a1 : Int) (a2 : Int) (a3 : Int) (a4 : Bool) : Option (Bool) := (bal_lone.l0 k a1 a3 a4 a2 a0_0 a0_1 a0_2 l0_3)
def bal_lone.Q (a0_0 : Int) (a0_1 : Int) (a0_2 : Int) (l0_3 : List Int) (a1 : Int) (a2 : Int) (a3 : Int) (a4 : Bool) (r : Bool) : S → Prop := fun s => ∃ τ r', fin E0 Tryd.f25 0 τ s = some (r', []) ∧ r'.ro = (.b r)
mutual
def bal_swap.l0 : Nat → Int → Int → Int → Int → List Int → Int → Int → List Int → List Int → Int → Int → Option ((List Int) × Int × Int × (List Int) × (List Int))
  | 0, _, _, _, _, _, _, _, _, _, _, _ => none
  | k + 1, i_2, k_3, t_44, t_45, h0, h1_0, h1_1, h2, h3, h4_0, h4_2 => (if t_45 < t_44 then ((mat_Matrix_At.f h4_0 t_44 h4_2 h0 i_2 t_45).bind fun q7 => ((mat_Matrix_At.f h4_0 t_44 h4_2 h0 k_3 t_45).bind fun q8 => ((mat_Matrix_Set.f h4_0 t_44 h4_2 h0 i_2 t_45 q8).bind fun q9 => ((mat_Matrix_Set.f h4_0 t_44 h4_2 q9 k_3 t_45 q7).bind fun q10 => (bal_swap.l0 k i_2 k_3 t_44 (wrap64 (t_45 + 1)) q10 h1_0 h1_1 h2 h3 h4_0 h4_2))))) else (bal_swap.l1 k i_2 k_3 h4_0 0 h0 h1_0 h1_1 h2 h3 t_44 h4_2))
def bal_swap.l1 : Nat → Int → Int → Int → Int → List Int → Int → Int → List Int → List Int → Int → Int → Option ((List Int) × Int × Int × (List Int) × (List Int))
  | 0, _, _, _, _, _, _, _, _, _, _, _ => none
  | k + 1, i_2, k_3, t_68, t_69, h0, h1_0, h1_1, h2, h3, h4_1, h4_2 => (if t_69 < t_68 then ((mat_Matrix_At.f t_68 h4_1 h4_2 h0 t_69 i_2).bind fun q12 => ((mat_Matrix_At.f t_68 h4_1 h4_2 h0 t_69 k_3).bind fun q13 => ((mat_Matrix_Set.f t_68 h4_1 h4_2 h0 t_69 i_2 q13).bind fun q14 => ((mat_Matrix_Set.f t_68 h4_1 h4_2 q14 t_69 k_3 q12).bind fun q15 => (bal_swap.l1 k i_2 k_3 t_68 (wrap64 (t_69 + 1)) q15 h1_0 h1_1 h2 h3 h4_1 h4_2))))) else (some (h0, h1_0, h1_1, h2, h3)))
end
def bal_swap.f (k : Nat) (a0_0 : Int) (a0_1 : Int) (a0_2 : Int) (l0_3 : List Int) (l1_0 : List Int) (l1_1 : List Int) (s1_2 : Int) (s1_3 : Int) (a2 : Int) (a3 : Int) : Option ((List Int) × Int × Int × (List Int) × (List Int)) := (if a2 = a3 then (some (l0_3, s1_2, s1_3, l1_0, l1_1)) else (if 0 ≤ a3 then (if a3 < (l1_0.length : Int) then (if 0 ≤ a2 then (if a2 < (l1_0.length : Int) then (bal_swap.l0 k a2 a3 a0_1 0 l0_3 s1_2 s1_3 ((l1_0.set a2.toNat (rd l1_0 a3)).set a3.toNat (rd l1_0 a2)) l1_1 a0_0 a0_2) else none) else none) else none) else none))
def bal_swap.Q (a0_0 : Int) (a0_1 : Int) (a0_2 : Int) (l0_3 : List Int) (l1_0 : List Int) (l1_1 : List Int) (s1_2 : Int) (s1_3 : Int) (a2 : Int) (a3 : Int) (r : (List Int) × Int × Int × (List Int) × (List Int)) : S → Prop := fun s => ∃ τ r', fin E0 Tryd.f26 4 τ s = some (r', [.row (r.1.map (V.i .u64)) 2 1 true false none, .row [.s (some (2, 0)) r.2.2.2.1.length, .s (some (3, 0)) r.2.2.2.2.length, .i .i64 r.2.1, .i .i64 r.2.2.1] 0 0 true false none, .row (r.2.2.2.1.map (V.i .i64)) 2 1 true false none, .row (r.2.2.2.2.map (V.i .i64)) 2 1 true false none]) ∧ r'.ro = (.t [])
def word_Abs.f (a0 : Int) : Option (Int) := (some ((Go.bits .andNot .u64 a0 9223372036854775808)))
def word_Abs.Q (a0 : Int) (r : Int) : S → Prop := fun s => ∃ τ r', fin E0 Tryd.f17 0 τ s = some (r', []) ∧ r'.ro = (.i .u64 r)
def word_Signals.f (k : Nat) (a0 : Int) : Option (Bool) := ((word_Kind.f k a0).bind fun q1 => (if q1 = 5 then (some (((Go.bits .and .u64 (a0 / 2251799813685248) 1) == 0))) else (some (false))))
def word_Signals.Q (a0 : Int) (r : Bool) : S → Prop := fun s => ∃ τ r', fin E0 Tryd.f42 0 τ s = some (r', []) ∧ r'.ro = (.b r)
mutual
def soft_nan.l0 : Nat → Int → Bool → List Int → Int → Int → Option (Int × Int × Bool)
  | 0, _, _, _, _, _ => none
  | k + 1, f_5, is_6, t_9, t_10, t_11 => (if t_11 < t_10 then (if 0 ≤ t_11 then (if t_11 < (t_9.length : Int) then ((word_Kind.f k (rd t_9 t_11)).bind fun q4 => (if q4 = 5 then ((word_Signals.f k (rd t_9 t_11)).bind fun q6 => (if q6 = true then (soft_nan.l0 k 16 true t_9 t_10 (wrap64 (t_11 + 1))) else (soft_nan.l0 k f_5 true t_9 t_10 (wrap64 (t_11 + 1))))) else (soft_nan.l0 k f_5 is_6 t_9 t_10 (wrap64 (t_11 + 1))))) else none) else none) else (some (9221120237041090560, f_5, is_6)))
end
def soft_nan.f (k : Nat) (l0 : List Int) : Option (Int × Int × Bool) := (soft_nan.l0 k 0 false l0 (l0.length : Int) 0)
def soft_nan.Q (l0 : List Int) (r : Int × Int × Bool) : S → Prop := fun s => ∃ τ r', fin E0 Tryd.f55 0 τ s = some (r', []) ∧ r'.ro = (.t [.i .u64 r.1, .i .u8 r.2.1, .b r.2.2])
def word_Parts.f (k : Nat) (a0 : Int) : Option (Int × Int) := ((word_Kind.f k a0).bind fun q1 => (if q1 = 2 then ((word_Frac.f a0).bind fun q3 => (some (q3, (-1074)))) else (if q1 = 3 then ((word_Frac.f a0).bind fun q5 => ((word_Exp.f a0).bind fun q6 => (some ((Go.bits .or .u64 q5 4503599627370496), (wrap64 (q6 - 1075)))))) else (some (0, 0)))))
def word_Parts.Q (a0 : Int) (r : Int × Int) : S → Prop := fun s => ∃ τ r', fin E0 Tryd.f38 0 τ s = some (r', []) ∧ r'.ro = (.t [.i .u64 r.1, .i .i64 r.2])
def wide_Wide_Left.f (a0_0 : Int) (a0_1 : Int) (a1 : Int) : Option (Int × Int) := (if a1 ≤ 0 then (some (a0_0, a0_1)) else (if a1 ≥ 128 then (some (0, 0)) else (if a1 ≥ 64 then (if 0 ≤ (wrap64 (a1 - 64)) then (some ((shl .u64 a0_1 (wrap64 (a1 - 64))), 0)) else none) else (if 0 ≤ a1 then (if 0 ≤ (wrap64 (64 - a1)) then (some ((Go.bits .or .u64 (shl .u64 a0_0 a1) (shr .u64 a0_1 (wrap64 (64 - a1)))), (shl .u64 a0_1 a1))) else none) else none))))
def wide_Wide_Left.Q (a0_0 : Int) (a0_1 : Int) (a1 : Int) (r : Int × Int) : S → Prop := fun s => ∃ τ r', fin E0 Tryd.f54 0 τ s = some (r', []) ∧ r'.ro = (.a [.i .u64 r.1, .i .u64 r.2])
def wide_Wide_Zero.f (a0_0 : Int) (a0_1 : Int) : Option (Bool) := (some (((Go.bits .or .u64 a0_0 a0_1) == 0)))
def wide_Wide_Zero.Q (a0_0 : Int) (a0_1 : Int) (r : Bool) : S → Prop := fun s => ∃ τ r', fin E0 Tryd.f49 0 τ s = some (r', []) ∧ r'.ro = (.b r)
mutual
def wide_Wide_Right.j0 : Nat → Int → Int → Int → Int → Int → Option (Int × Int × Bool)
  | 0, _, _, _, _, _ => none
  | k + 1, n_1, h0_0, h0_1, h2_0, h2_1 => ((wide_Wide_Left.f h2_0 h2_1 n_1).bind fun q7 => (if (!(q7.1 == h0_0) || (!(q7.2 == h0_1))) = true then (some (h2_0, h2_1, true)) else (if n_1 ≥ 128 then ((wide_Wide_Zero.f h0_0 h0_1).bind fun q10 => (some (h2_0, h2_1, (!q10)))) else (some (h2_0, h2_1, false)))))
end
def wide_Wide_Right.f (k : Nat) (a0_0 : Int) (a0_1 : Int) (a1 : Int) : Option (Int × Int × Bool) := (if a1 ≤ 0 then (some (a0_0, a0_1, false)) else (if a1 ≥ 128 then (wide_Wide_Right.j0 k a1 a0_0 a0_1 0 0) else (if a1 ≥ 64 then (if 0 ≤ (wrap64 (a1 - 64)) then (wide_Wide_Right.j0 k a1 a0_0 a0_1 0 (shr .u64 a0_0 (wrap64 (a1 - 64)))) else none) else (if 0 ≤ a1 then (if 0 ≤ (wrap64 (64 - a1)) then (wide_Wide_Right.j0 k a1 a0_0 a0_1 (shr .u64 a0_0 a1) (Go.bits .or .u64 (shl .u64 a0_0 (wrap64 (64 - a1))) (shr .u64 a0_1 a1))) else none) else none))))
def wide_Wide_Right.Q (a0_0 : Int) (a0_1 : Int) (a1 : Int) (r : Int × Int × Bool) : S → Prop := fun s => ∃ τ r', fin E0 Tryd.f51 0 τ s = some (r', []) ∧ r'.ro = (.t [.a [.i .u64 r.1, .i .u64 r.2.1], .b r.2.2])
def word_Neg.f (a0 : Int) : Option (Bool) := (some (((a0 / 9223372036854775808) == 1)))
def word_Neg.Q (a0 : Int) (r : Bool) : S → Prop := fun s => ∃ τ r', fin E0 Tryd.f39 0 τ s = some (r', []) ∧ r'.ro = (.b r)
def wide_Wide_Add.f (a0_0 : Int) (a0_1 : Int) (a1_0 : Int) (a1_1 : Int) : Option (Int × Int × Bool) := ((bits_Add64.f a0_1 a1_1 0).bind fun q1 => ((bits_Add64.f a0_0 a1_0 q1.2).bind fun q2 => (some (q2.1, q1.1, (q2.2 == 1)))))
def wide_Wide_Add.Q (a0_0 : Int) (a0_1 : Int) (a1_0 : Int) (a1_1 : Int) (r : Int × Int × Bool) : S → Prop := fun s => ∃ τ r', fin E0 Tryd.f53 0 τ s = some (r', []) ∧ r'.ro = (.t [.a [.i .u64 r.1, .i .u64 r.2.1], .b r.2.2])
mutual
def bits_Len64.j0 : Nat → Int → Int → Option (Int)
  | 0, _, _ => none
  | k + 1, x_0, n_2 => (if x_0 ≥ 65536 then (if (x_0 / 65536) ≥ 256 then (if 0 ≤ (((x_0 / 65536) / 256) % 256) then (if (((x_0 / 65536) / 256) % 256) < 256 then (some ((wrap64 ((wrap64 ((wrap64 (n_2 + 16)) + 8)) + (wrap64 ((bt (⟨#[0, 1, 2, 2, 3, 3, 3, 3, 4, 4, 4, 4, 4, 4, 4, 4, 5, 5, 5, 5, 5, 5, 5, 5, 5, 5, 5, 5, 5, 5, 5, 5, 6, 6, 6, 6, 6, 6, 6, 6, 6, 6, 6, 6, 6, 6, 6, 6, 6, 6, 6, 6, 6, 6, 6, 6, 6, 6, 6, 6, 6, 6, 6, 6, 7, 7, 7, 7, 7, 7, 7, 7, 7, 7, 7, 7, 7, 7, 7, 7, 7, 7, 7, 7, 7, 7, 7, 7, 7, 7, 7, 7, 7, 7, 7, 7, 7, 7, 7, 7, 7, 7, 7, 7, 7, 7, 7, 7, 7, 7, 7, 7, 7, 7, 7, 7, 7, 7, 7, 7, 7, 7, 7, 7, 7, 7, 7, 7, 8, 8, 8, 8, 8, 8, 8, 8, 8, 8, 8, 8, 8, 8, 8, 8, 8, 8, 8, 8, 8, 8, 8, 8, 8, 8, 8, 8, 8, 8, 8, 8, 8, 8, 8, 8, 8, 8, 8, 8, 8, 8, 8, 8, 8, 8, 8, 8, 8, 8, 8, 8, 8, 8, 8, 8, 8, 8, 8, 8, 8, 8, 8, 8, 8, 8, 8, 8, 8, 8, 8, 8, 8, 8, 8, 8, 8, 8, 8, 8, 8, 8, 8, 8, 8, 8, 8, 8, 8, 8, 8, 8, 8, 8, 8, 8, 8, 8, 8, 8, 8, 8, 8, 8, 8, 8, 8, 8, 8, 8, 8, 8, 8, 8, 8, 8, 8, 8, 8, 8, 8, 8, 8, 8, 8, 8, 8, 8]⟩ : ByteArray) (((x_0 / 65536) / 256) % 256)))))))) else none) else none) else (if 0 ≤ ((x_0 / 65536) % 256) then (if ((x_0 / 65536) % 256) < 256 then (some ((wrap64 ((wrap64 (n_2 + 16)) + (wrap64 ((bt (⟨#[0, 1, 2, 2, 3, 3, 3, 3, 4, 4, 4, 4, 4, 4, 4, 4, 5, 5, 5, 5, 5, 5, 5, 5, 5, 5, 5, 5, 5, 5, 5, 5, 6, 6, 6, 6, 6, 6, 6, 6, 6, 6, 6, 6, 6, 6, 6, 6, 6, 6, 6, 6, 6, 6, 6, 6, 6, 6, 6, 6, 6, 6, 6, 6, 7, 7, 7, 7, 7, 7, 7, 7, 7, 7, 7, 7, 7, 7, 7, 7, 7, 7, 7, 7, 7, 7, 7, 7, 7, 7, 7, 7, 7, 7, 7, 7, 7, 7, 7, 7, 7, 7, 7, 7, 7, 7, 7, 7, 7, 7, 7, 7, 7, 7, 7, 7, 7, 7, 7, 7, 7, 7, 7, 7, 7, 7, 7, 7, 8, 8, 8, 8, 8, 8, 8, 8, 8, 8, 8, 8, 8, 8, 8, 8, 8, 8, 8, 8, 8, 8, 8, 8, 8, 8, 8, 8, 8, 8, 8, 8, 8, 8, 8, 8, 8, 8, 8, 8, 8, 8, 8, 8, 8, 8, 8, 8, 8, 8, 8, 8, 8, 8, 8, 8, 8, 8, 8, 8, 8, 8, 8, 8, 8, 8, 8, 8, 8, 8, 8, 8, 8, 8, 8, 8, 8, 8, 8, 8, 8, 8, 8, 8, 8, 8, 8, 8, 8, 8, 8, 8, 8, 8, 8, 8, 8, 8, 8, 8, 8, 8, 8, 8, 8, 8, 8, 8, 8, 8, 8, 8, 8, 8, 8, 8, 8, 8, 8, 8, 8, 8, 8, 8, 8, 8, 8, 8]⟩ : ByteArray) ((x_0 / 65536) % 256)))))))) else none) else none)) else (if x_0 ≥ 256 then (if 0 ≤ ((x_0 / 256) % 256) then (if ((x_0 / 256) % 256) < 256 then (some ((wrap64 ((wrap64 (n_2 + 8)) + (wrap64 ((bt (⟨#[0, 1, 2, 2, 3, 3, 3, 3, 4, 4, 4, 4, 4, 4, 4, 4, 5, 5, 5, 5, 5, 5, 5, 5, 5, 5, 5, 5, 5, 5, 5, 5, 6, 6, 6, 6, 6, 6, 6, 6, 6, 6, 6, 6, 6, 6, 6, 6, 6, 6, 6, 6, 6, 6, 6, 6, 6, 6, 6, 6, 6, 6, 6, 6, 7, 7, 7, 7, 7, 7, 7, 7, 7, 7, 7, 7, 7, 7, 7, 7, 7, 7, 7, 7, 7, 7, 7, 7, 7, 7, 7, 7, 7, 7, 7, 7, 7, 7, 7, 7, 7, 7, 7, 7, 7, 7, 7, 7, 7, 7, 7, 7, 7, 7, 7, 7, 7, 7, 7, 7, 7, 7, 7, 7, 7, 7, 7, 7, 8, 8, 8, 8, 8, 8, 8, 8, 8, 8, 8, 8, 8, 8, 8, 8, 8, 8, 8, 8, 8, 8, 8, 8, 8, 8, 8, 8, 8, 8, 8, 8, 8, 8, 8, 8, 8, 8, 8, 8, 8, 8, 8, 8, 8, 8, 8, 8, 8, 8, 8, 8, 8, 8, 8, 8, 8, 8, 8, 8, 8, 8, 8, 8, 8, 8, 8, 8, 8, 8, 8, 8, 8, 8, 8, 8, 8, 8, 8, 8, 8, 8, 8, 8, 8, 8, 8, 8, 8, 8, 8, 8, 8, 8, 8, 8, 8, 8, 8, 8, 8, 8, 8, 8, 8, 8, 8, 8, 8, 8, 8, 8, 8, 8, 8, 8, 8, 8, 8, 8, 8, 8, 8, 8, 8, 8, 8, 8]⟩ : ByteArray) ((x_0 / 256) % 256)))))))) else none) else none) else (if 0 ≤ (x_0 % 256) then (if (x_0 % 256) < 256 then (some ((wrap64 (n_2 + (wrap64 ((bt (⟨#[0, 1, 2, 2, 3, 3, 3, 3, 4, 4, 4, 4, 4, 4, 4, 4, 5, 5, 5, 5, 5, 5, 5, 5, 5, 5, 5, 5, 5, 5, 5, 5, 6, 6, 6, 6, 6, 6, 6, 6, 6, 6, 6, 6, 6, 6, 6, 6, 6, 6, 6, 6, 6, 6, 6, 6, 6, 6, 6, 6, 6, 6, 6, 6, 7, 7, 7, 7, 7, 7, 7, 7, 7, 7, 7, 7, 7, 7, 7, 7, 7, 7, 7, 7, 7, 7, 7, 7, 7, 7, 7, 7, 7, 7, 7, 7, 7, 7, 7, 7, 7, 7, 7, 7, 7, 7, 7, 7, 7, 7, 7, 7, 7, 7, 7, 7, 7, 7, 7, 7, 7, 7, 7, 7, 7, 7, 7, 7, 8, 8, 8, 8, 8, 8, 8, 8, 8, 8, 8, 8, 8, 8, 8, 8, 8, 8, 8, 8, 8, 8, 8, 8, 8, 8, 8, 8, 8, 8, 8, 8, 8, 8, 8, 8, 8, 8, 8, 8, 8, 8, 8, 8, 8, 8, 8, 8, 8, 8, 8, 8, 8, 8, 8, 8, 8, 8, 8, 8, 8, 8, 8, 8, 8, 8, 8, 8, 8, 8, 8, 8, 8, 8, 8, 8, 8, 8, 8, 8, 8, 8, 8, 8, 8, 8, 8, 8, 8, 8, 8, 8, 8, 8, 8, 8, 8, 8, 8, 8, 8, 8, 8, 8, 8, 8, 8, 8, 8, 8, 8, 8, 8, 8, 8, 8, 8, 8, 8, 8, 8, 8, 8, 8, 8, 8, 8, 8]⟩ : ByteArray) (x_0 % 256)))))))) else none) else none)))
end
def bits_Len64.f (k : Nat) (a0 : Int) : Option (Int) := (if a0 ≥ 4294967296 then (bits_Len64.j0 k (a0 / 4294967296) 32) else (bits_Len64.j0 k a0 0))
def bits_Len64.Q (a0 : Int) (r : Int) : S → Prop := fun s => ∃ τ r', fin E0 Tryd.f57 0 τ s = some (r', []) ∧ r'.ro = (.i .i64 r)
def wide_Wide_Len.f (k : Nat) (a0_0 : Int) (a0_1 : Int) : Option (Int) := (if a0_0 = 0 then ((bits_Len64.f k a0_1).bind fun q2 => (some (q2))) else ((bits_Len64.f k a0_0).bind fun q3 => (some ((wrap64 (64 + q3))))))
def wide_Wide_Len.Q (a0_0 : Int) (a0_1 : Int) (r : Int) : S → Prop := fun s => ∃ τ r', fin E0 Tryd.f50 0 τ s = some (r', []) ∧ r'.ro = (.i .i64 r)
def round_split.f (k : Nat) (a0_0 : Int) (a0_1 : Int) (a1 : Int) (a2 : Bool) : Option (Bool × Bool) := (if a1 > 128 then (some (false, a2)) else ((wide_Wide_Right.f k a0_0 a0_1 (wrap64 (a1 - 1))).bind fun q2 => (some (((Go.bits .and .u64 q2.2.1 1) == 1), q2.2.2))))
def round_split.Q (a0_0 : Int) (a0_1 : Int) (a1 : Int) (a2 : Bool) (r : Bool × Bool) : S → Prop := fun s => ∃ τ r', fin E0 Tryd.f52 0 τ s = some (r', []) ∧ r'.ro = (.t [.b r.1, .b r.2])
mutual
def round_Round.j0 : Nat → Bool → Int → Bool → Int → Bool → Int → Int → Option (Int × Int)
  | 0, _, _, _, _, _, _, _ => none
  | k + 1, neg_0, exp_2, more_3, drop_10, tiny_11, h0_0, h0_1 => (if drop_10 > 0 then ((wide_Wide_Right.f k h0_0 h0_1 drop_10).bind fun q10 => ((round_split.f k h0_0 h0_1 drop_10 q10.2.2).bind fun q11 => (if q11.1 = true then (round_Round.j1 k neg_0 exp_2 more_3 drop_10 tiny_11 true true q11.2 q10.1 q10.2.1) else (if q11.2 = true then (round_Round.j1 k neg_0 exp_2 more_3 drop_10 tiny_11 true false true q10.1 q10.2.1) else (round_Round.j1 k neg_0 exp_2 more_3 drop_10 tiny_11 more_3 false false q10.1 q10.2.1))))) else (if drop_10 < 0 then (round_Round.j3 k neg_0 exp_2 drop_10 tiny_11 more_3 (!more_3) h0_0 h0_1) else (round_Round.j3 k neg_0 exp_2 drop_10 tiny_11 more_3 false h0_0 h0_1)))
def round_Round.j1 : Nat → Bool → Int → Bool → Int → Bool → Bool → Bool → Bool → Int → Int → Option (Int × Int)
  | 0, _, _, _, _, _, _, _, _, _, _ => none
  | k + 1, neg_0, exp_2, more_3, drop_10, tiny_11, lost_12, half_13, fell_15, h1_0, h1_1 => (if half_13 = true then (if fell_15 = true then (round_Round.j2 k neg_0 exp_2 drop_10 tiny_11 lost_12 true h1_0 h1_1) else (if more_3 = true then (round_Round.j2 k neg_0 exp_2 drop_10 tiny_11 lost_12 true h1_0 h1_1) else (round_Round.j2 k neg_0 exp_2 drop_10 tiny_11 lost_12 ((Go.bits .and .u64 h1_1 1) == 1) h1_0 h1_1))) else (round_Round.j2 k neg_0 exp_2 drop_10 tiny_11 lost_12 false h1_0 h1_1))
def round_Round.j3 : Nat → Bool → Int → Int → Bool → Bool → Bool → Int → Int → Option (Int × Int)
  | 0, _, _, _, _, _, _, _, _ => none
  | k + 1, neg_0, exp_2, drop_10, tiny_11, lost_12, t_91, h0_0, h0_1 => (if t_91 = true then ((wide_Wide_Left.f h0_0 h0_1 (wrap64 (-drop_10))).bind fun q19 => (round_Round.j4 k neg_0 exp_2 drop_10 tiny_11 lost_12 q19.1 q19.2)) else (if drop_10 < 0 then ((wide_Wide_Left.f h0_0 h0_1 (wrap64 (-drop_10))).bind fun q21 => (round_Round.j4 k neg_0 exp_2 drop_10 tiny_11 lost_12 q21.1 q21.2)) else (round_Round.j4 k neg_0 exp_2 drop_10 tiny_11 lost_12 h0_0 h0_1)))
def round_Round.j2 : Nat → Bool → Int → Int → Bool → Bool → Bool → Int → Int → Option (Int × Int)
  | 0, _, _, _, _, _, _, _, _ => none
  | k + 1, neg_0, exp_2, drop_10, tiny_11, lost_12, t_79, h0_0, h0_1 => (if t_79 = true then ((wide_Wide_Add.f h0_0 h0_1 0 1).bind fun q23 => (round_Round.j4 k neg_0 exp_2 drop_10 tiny_11 lost_12 q23.1 q23.2.1)) else (round_Round.j4 k neg_0 exp_2 drop_10 tiny_11 lost_12 h0_0 h0_1))
def round_Round.j4 : Nat → Bool → Int → Int → Bool → Bool → Int → Int → Option (Int × Int)
  | 0, _, _, _, _, _, _, _ => none
  | k + 1, neg_0, exp_2, drop_10, tiny_11, lost_12, h0_0, h0_1 => (if h0_1 = 9007199254740992 then (round_Round.j5 k neg_0 (wrap64 ((wrap64 (exp_2 + drop_10)) + 1)) tiny_11 lost_12 (h0_1 / 2)) else (round_Round.j5 k neg_0 (wrap64 (exp_2 + drop_10)) tiny_11 lost_12 h0_1))
def round_Round.j5 : Nat → Bool → Int → Bool → Bool → Int → Option (Int × Int)
  | 0, _, _, _, _, _ => none
  | k + 1, neg_0, exp_2, tiny_11, lost_12, m_16 => (if lost_12 = true then (if tiny_11 = true then (round_Round.j6 k neg_0 exp_2 m_16 (Go.bits .or .u8 (Go.bits .or .u8 0 1) 2)) else (round_Round.j6 k neg_0 exp_2 m_16 (Go.bits .or .u8 0 1))) else (round_Round.j6 k neg_0 exp_2 m_16 0))
def round_Round.j6 : Nat → Bool → Int → Int → Int → Option (Int × Int)
  | 0, _, _, _, _ => none
  | k + 1, neg_0, exp_2, m_16, f_17 => (if m_16 < 4503599627370496 then ((word_Make.f neg_0 0 m_16).bind fun q28 => (some (q28, f_17))) else (if (wrap64 (exp_2 + 1075)) ≥ 2047 then ((word_Make.f neg_0 2047 0).bind fun q30 => (some (q30, (Go.bits .or .u8 (Go.bits .or .u8 f_17 4) 1)))) else ((word_Make.f neg_0 (wrap64 (exp_2 + 1075)) m_16).bind fun q31 => (some (q31, f_17)))))
end
def round_Round.f (k : Nat) (a0 : Bool) (a1_0 : Int) (a1_1 : Int) (a2 : Int) (a3 : Bool) : Option (Int × Int) := ((wide_Wide_Zero.f a1_0 a1_1).bind fun q1 => (if q1 = true then (if a3 = true then ((word_Make.f a0 0 0).bind fun q4 => (some (q4, 3))) else ((word_Make.f a0 0 0).bind fun q5 => (some (q5, 0)))) else ((wide_Wide_Len.f k a1_0 a1_1).bind fun q6 => ((wide_Wide_Len.f k a1_0 a1_1).bind fun q7 => (if (wrap64 ((mx (-100000) (mn a2 100000)) + (wrap64 (q6 - 53)))) < (-1074) then (round_Round.j0 k a0 (mx (-100000) (mn a2 100000)) a3 (wrap64 ((-1074) - (mx (-100000) (mn a2 100000)))) (decide ((wrap64 ((mx (-100000) (mn a2 100000)) + q7)) < (-1021))) a1_0 a1_1) else (round_Round.j0 k a0 (mx (-100000) (mn a2 100000)) a3 (wrap64 (q6 - 53)) (decide ((wrap64 ((mx (-100000) (mn a2 100000)) + q7)) < (-1021))) a1_0 a1_1))))))
def round_Round.Q (a0 : Bool) (a1_0 : Int) (a1_1 : Int) (a2 : Int) (a3 : Bool) (r : Int × Int) : S → Prop := fun s => ∃ τ r', fin E0 Tryd.f43 0 τ s = some (r', []) ∧ r'.ro = (.t [.i .u64 r.1, .i .u8 r.2])
def wide_Wide_Sub.f (a0_0 : Int) (a0_1 : Int) (a1_0 : Int) (a1_1 : Int) : Option (Int × Int × Bool) := ((bits_Sub64.f a0_1 a1_1 0).bind fun q1 => ((bits_Sub64.f a0_0 a1_0 q1.2).bind fun q2 => (some (q2.1, q1.1, (q2.2 == 1)))))
def wide_Wide_Sub.Q (a0_0 : Int) (a0_1 : Int) (a1_0 : Int) (a1_1 : Int) (r : Int × Int × Bool) : S → Prop := fun s => ∃ τ r', fin E0 Tryd.f56 0 τ s = some (r', []) ∧ r'.ro = (.t [.a [.i .u64 r.1, .i .u64 r.2.1], .b r.2.2])
mutual
def soft_Add.j0 : Nat → Int → Int → Int → Int → Bool → Option (Int × Int)
  | 0, _, _, _, _, _ => none
  | k + 1, a_0, b_1, x_9, y_10, t_37 => (if t_37 = true then (some (9221120237041090560, 16)) else (if x_9 = 4 then (some (a_0, 0)) else (if y_10 = 4 then (some (b_1, 0)) else (if x_9 = 1 then (soft_Add.j1 k a_0 b_1 x_9 y_10 (y_10 == 1)) else (soft_Add.j1 k a_0 b_1 x_9 y_10 false)))))
def soft_Add.j1 : Nat → Int → Int → Int → Int → Bool → Option (Int × Int)
  | 0, _, _, _, _, _ => none
  | k + 1, a_0, b_1, x_9, y_10, t_57 => (if t_57 = true then (some ((Go.bits .and .u64 a_0 b_1), 0)) else (if x_9 = 1 then (some (b_1, 0)) else (if y_10 = 1 then (some (a_0, 0)) else ((word_Abs.f a_0).bind fun q14 => ((word_Abs.f b_1).bind fun q15 => (if q14 < q15 then (soft_Add.j2 k b_1 a_0) else (soft_Add.j2 k a_0 b_1)))))))
def soft_Add.j2 : Nat → Int → Int → Option (Int × Int)
  | 0, _, _ => none
  | k + 1, a_0, b_1 => ((word_Parts.f k a_0).bind fun q17 => ((word_Parts.f k b_1).bind fun q18 => ((wide_Wide_Left.f 0 q17.1 64).bind fun q19 => ((wide_Wide_Left.f 0 q18.1 64).bind fun q20 => ((wide_Wide_Right.f k q20.1 q20.2 (wrap64 (q17.2 - q18.2))).bind fun q21 => ((word_Neg.f a_0).bind fun q22 => ((word_Neg.f b_1).bind fun q23 => (if (q22 == q23) = true then ((wide_Wide_Add.f q19.1 q19.2 q21.1 q21.2.1).bind fun q25 => ((word_Neg.f a_0).bind fun q26 => ((round_Round.f k q26 q25.1 q25.2.1 (wrap64 (q17.2 - 64)) q21.2.2).bind fun q27 => (some (q27.1, q27.2))))) else (if q21.2.2 = true then ((wide_Wide_Add.f q21.1 q21.2.1 0 1).bind fun q29 => (soft_Add.j3 k a_0 q17.2 true q19.1 q19.2 q29.1 q29.2.1)) else (soft_Add.j3 k a_0 q17.2 false q19.1 q19.2 q21.1 q21.2.1))))))))))
def soft_Add.j3 : Nat → Int → Int → Bool → Int → Int → Int → Int → Option (Int × Int)
  | 0, _, _, _, _, _, _, _ => none
  | k + 1, a_0, e_12, low_17, h0_0, h0_1, h1_0, h1_1 => ((wide_Wide_Sub.f h0_0 h0_1 h1_0 h1_1).bind fun q30 => ((wide_Wide_Zero.f q30.1 q30.2.1).bind fun q31 => (if q31 = true then (soft_Add.j4 k a_0 e_12 low_17 (!low_17) q30.1 q30.2.1) else (soft_Add.j4 k a_0 e_12 low_17 false q30.1 q30.2.1))))
def soft_Add.j4 : Nat → Int → Int → Bool → Bool → Int → Int → Option (Int × Int)
  | 0, _, _, _, _, _, _ => none
  | k + 1, a_0, e_12, low_17, t_143, h0_0, h0_1 => (if t_143 = true then (some (0, 0)) else ((word_Neg.f a_0).bind fun q34 => ((round_Round.f k q34 h0_0 h0_1 (wrap64 (e_12 - 64)) low_17).bind fun q35 => (some (q35.1, q35.2)))))
end
def soft_Add.f (k : Nat) (a0 : Int) (a1 : Int) : Option (Int × Int) := ((soft_nan.f k ([a0, a1] : List Int)).bind fun q1 => (if q1.2.2 = true then (some (q1.1, q1.2.1)) else ((word_Kind.f k a0).bind fun q3 => ((word_Kind.f k a1).bind fun q4 => (if q3 = 4 then (if q4 = 4 then (soft_Add.j0 k a0 a1 q3 q4 (a0 != a1)) else (soft_Add.j0 k a0 a1 q3 q4 false)) else (soft_Add.j0 k a0 a1 q3 q4 false))))))
def soft_Add.Q (a0 : Int) (a1 : Int) (r : Int × Int) : S → Prop := fun s => ∃ τ r', fin E0 Tryd.f48 0 τ s = some (r', []) ∧ r'.ro = (.t [.i .u64 r.1, .i .u8 r.2])
def soft_Calc_note.f (s0_0 : Int) (a1 : Int) (a2 : Int) : Option (Int × Int) := (some (a1, (Go.bits .or .u8 s0_0 a2)))
def soft_Calc_note.Q (s0_0 : Int) (a1 : Int) (a2 : Int) (r : Int × Int) : S → Prop := fun s => ∃ τ r', fin E0 Tryd.f47 1 τ s = some (r', [.row [.i .u8 r.2] 0 0 true false none]) ∧ r'.ro = (.i .u64 r.1)
def soft_Calc_Add.f (k : Nat) (s0_0 : Int) (a1 : Int) (a2 : Int) : Option (Int × Int) := ((soft_Add.f k a1 a2).bind fun q1 => ((soft_Calc_note.f s0_0 q1.1 q1.2).bind fun q2 => (some (q2.1, q2.2))))
def soft_Calc_Add.Q (s0_0 : Int) (a1 : Int) (a2 : Int) (r : Int × Int) : S → Prop := fun s => ∃ τ r', fin E0 Tryd.f37 1 τ s = some (r', [.row [.i .u8 r.2] 0 0 true false none]) ∧ r'.ro = (.i .u64 r.1)
mutual
def more_Scale.j0 : Nat → Int → Int → Bool → Option (Int × Int)
  | 0, _, _, _ => none
  | k + 1, a_0, n_1, t_14 => (if t_14 = true then (some (a_0, 0)) else ((word_Parts.f k a_0).bind fun q7 => ((word_Neg.f a_0).bind fun q8 => ((round_Round.f k q8 0 q7.1 (wrap64 (q7.2 + (mx (-10000) (mn n_1 10000)))) false).bind fun q9 => (some (q9.1, q9.2))))))
end
def more_Scale.f (k : Nat) (a0 : Int) (a1 : Int) : Option (Int × Int) := ((word_Kind.f k a0).bind fun q1 => (if q1 = 5 then ((word_Signals.f k a0).bind fun q3 => (if q3 = true then (some (9221120237041090560, 16)) else (some (9221120237041090560, 0)))) else (if q1 = 4 then (more_Scale.j0 k a0 a1 true) else (more_Scale.j0 k a0 a1 (q1 == 1)))))
def more_Scale.Q (a0 : Int) (a1 : Int) (r : Int × Int) : S → Prop := fun s => ∃ τ r', fin E0 Tryd.f33 0 τ s = some (r', []) ∧ r'.ro = (.t [.i .u64 r.1, .i .u8 r.2])
mutual
def bal_Balance_level.l0 : Nat → Int → Int → Int → Int → Int → Int → List Int → List Int → List Int → Int → Int → Int → Int → Option (Bool × Int × Int × (List Int) × (List Int) × (List Int))
  | 0, _, _, _, _, _, _, _, _, _, _, _, _, _ => none
  | k + 1, i_2, col_8, row_9, k_10, h0_0, h0_1, h1, h2, h3, h4_0, h4_1, h4_2, h5 => (if k_10 < h0_1 then (if k_10 = i_2 then (bal_Balance_level.l0 k i_2 col_8 row_9 (wrap64 (k_10 + 1)) h0_0 h0_1 h1 h2 h3 h4_0 h4_1 h4_2 h5) else ((mat_Matrix_At.f h4_0 h4_1 h4_2 h1 k_10 i_2).bind fun q3 => ((word_Abs.f q3).bind fun q4 => ((soft_Calc_Add.f k h5 col_8 q4).bind fun q5 => ((mat_Matrix_At.f h4_0 h4_1 h4_2 h1 i_2 k_10).bind fun q6 => ((word_Abs.f q6).bind fun q7 => ((soft_Calc_Add.f k q5.2 row_9 q7).bind fun q8 => (bal_Balance_level.l0 k i_2 q5.1 q8.1 (wrap64 (k_10 + 1)) h0_0 h0_1 h1 h2 h3 h4_0 h4_1 h4_2 q8.2)))))))) else ((word_Kind.f k col_8).bind fun q9 => (if q9 = 3 then ((word_Kind.f k row_9).bind fun q11 => (bal_Balance_level.j1 k i_2 col_8 row_9 (q11 != 3) h0_0 h0_1 h1 h2 h3 h4_0 h4_1 h4_2)) else (bal_Balance_level.j1 k i_2 col_8 row_9 true h0_0 h0_1 h1 h2 h3 h4_0 h4_1 h4_2))))
def bal_Balance_level.j1 : Nat → Int → Int → Int → Bool → Int → Int → List Int → List Int → List Int → Int → Int → Int → Option (Bool × Int × Int × (List Int) × (List Int) × (List Int))
  | 0, _, _, _, _, _, _, _, _, _, _, _, _ => none
  | k + 1, i_2, col_8, row_9, t_55, h0_0, h0_1, h1, h2, h3, h4_0, h4_1, h4_2 => (if t_55 = true then (some (false, h0_0, h0_1, h1, h2, h3)) else ((word_Exp.f row_9).bind fun q13 => ((word_Exp.f col_8).bind fun q14 => (if 0 ≤ i_2 then (if i_2 < (h3.length : Int) then (if (mx (wrap64 ((-200) - (rd h3 i_2))) (mn (wrap64 (Int.tdiv (wrap64 (q13 - q14)) 2)) (wrap64 (200 - (rd h3 i_2))))) = 0 then (some (false, h0_0, h0_1, h1, h2, h3)) else ((mat_Matrix_Clone.f k h4_0 h4_1 h4_2 h1).bind fun q18 => (bal_Balance_level.l1 k i_2 (mx (wrap64 ((-200) - (rd h3 i_2))) (mn (wrap64 (Int.tdiv (wrap64 (q13 - q14)) 2)) (wrap64 (200 - (rd h3 i_2))))) 0 h4_0 0 h0_0 h0_1 h1 h2 h3 h4_1 h4_2 q18.1 q18.2.1 q18.2.2.1 q18.2.2.2))) else none) else none))))
def bal_Balance_level.l1 : Nat → Int → Int → Int → Int → Int → Int → Int → List Int → List Int → List Int → Int → Int → Int → Int → Int → List Int → Option (Bool × Int × Int × (List Int) × (List Int) × (List Int))
  | 0, _, _, _, _, _, _, _, _, _, _, _, _, _, _, _, _ => none
  | k + 1, i_2, p_11, all_13, t_86, t_87, h0_0, h0_1, h1, h2, h3, h4_1, h4_2, h5_0, h5_1, h5_2, h6 => (if t_87 < t_86 then (if t_87 = i_2 then (bal_Balance_level.l1 k i_2 p_11 all_13 t_86 (wrap64 (t_87 + 1)) h0_0 h0_1 h1 h2 h3 h4_1 h4_2 h5_0 h5_1 h5_2 h6) else ((mat_Matrix_At.f t_86 h4_1 h4_2 h1 t_87 i_2).bind fun q21 => ((more_Scale.f k q21 p_11).bind fun q22 => ((mat_Matrix_At.f t_86 h4_1 h4_2 h1 i_2 t_87).bind fun q23 => ((more_Scale.f k q23 (wrap64 (-p_11))).bind fun q24 => ((mat_Matrix_Set.f h5_0 h5_1 h5_2 h6 t_87 i_2 q22.1).bind fun q25 => ((mat_Matrix_Set.f h5_0 h5_1 h5_2 q25 i_2 t_87 q24.1).bind fun q26 => (bal_Balance_level.l1 k i_2 p_11 (Go.bits .or .u8 all_13 (Go.bits .or .u8 q22.2 q24.2)) t_86 (wrap64 (t_87 + 1)) h0_0 h0_1 h1 h2 h3 h4_1 h4_2 h5_0 h5_1 h5_2 q26)))))))) else (if all_13 = 0 then (if 0 ≤ i_2 then (if i_2 < (h3.length : Int) then (some (true, h0_0, h0_1, (cpy h1 h6), h2, (h3.set i_2.toNat (wrap64 ((rd h3 i_2) + p_11))))) else none) else none) else (some (false, h0_0, h0_1, h1, h2, h3))))
end
def bal_Balance_level.f (k : Nat) (l0_0 : List Int) (l0_1 : List Int) (s0_2 : Int) (s0_3 : Int) (a1_0 : Int) (a1_1 : Int) (a1_2 : Int) (l1_3 : List Int) (a2 : Int) : Option (Bool × Int × Int × (List Int) × (List Int) × (List Int)) := (bal_Balance_level.l0 k a2 0 0 s0_2 s0_2 s0_3 l1_3 l0_0 l0_1 a1_0 a1_1 a1_2 0)
def bal_Balance_level.Q (l0_0 : List Int) (l0_1 : List Int) (s0_2 : Int) (s0_3 : Int) (a1_0 : Int) (a1_1 : Int) (a1_2 : Int) (l1_3 : List Int) (a2 : Int) (r : Bool × Int × Int × (List Int) × (List Int) × (List Int)) : S → Prop := fun s => ∃ τ r', fin E0 Tryd.f27 4 τ s = some (r', [.row [.s (some (2, 0)) r.2.2.2.2.1.length, .s (some (3, 0)) r.2.2.2.2.2.length, .i .i64 r.2.1, .i .i64 r.2.2.1] 0 0 true false none, .row (r.2.2.2.1.map (V.i .u64)) 2 1 true false none, .row (r.2.2.2.2.1.map (V.i .i64)) 2 1 true false none, .row (r.2.2.2.2.2.map (V.i .i64)) 2 1 true false none]) ∧ r'.ro = (.b r.1)
mutual
def bal_Of.j0 : Nat → Bool → Int → Int → Int → List Int → Option (Int × Int × Int × (List Int) × (List Int) × (List Int) × Int × Int × Int)
  | 0, _, _, _, _, _ => none
  | k + 1, t_23, h0_0, h0_1, h0_2, h0_3 => (if t_23 = true then (some (0, 0, 0, ([] : List Int), ([] : List Int), ([] : List Int), 0, 0, 4)) else ((mat_Matrix_Finite.f k h0_0 h0_1 h0_2 h0_3).bind fun q4 => (if q4 = true then ((mat_Matrix_Clone.f k h0_0 h0_1 h0_2 h0_3).bind fun q6 => (if 0 ≤ h0_0 then (if h0_0 ≤ 35184372088832 then (bal_Of.l0 k h0_0 0 q6.1 q6.2.1 q6.2.2.1 0 q6.2.2.2 (List.replicate h0_0.toNat 0) (List.replicate h0_0.toNat 0)) else none) else none)) else (some (0, 0, 0, ([] : List Int), ([] : List Int), ([] : List Int), 0, 0, 6)))))
def bal_Of.l0 : Nat → Int → Int → Int → Int → Int → Int → List Int → List Int → List Int → Option (Int × Int × Int × (List Int) × (List Int) × (List Int) × Int × Int × Int)
  | 0, _, _, _, _, _, _, _, _, _ => none
  | k + 1, t_41, t_42, h2_0, h2_1, h2_2, h3_0, h4, h5, h6 => (if t_42 < t_41 then (if 0 ≤ t_42 then (if t_42 < (h5.length : Int) then (bal_Of.l0 k t_41 (wrap64 (t_42 + 1)) h2_0 h2_1 h2_2 h3_0 h4 (h5.set t_42.toNat t_42) h6) else none) else none) else (bal_Of.l1 k h2_0 h2_1 h2_2 h3_0 t_41 h4 h5 h6))
def bal_Of.l1 : Nat → Int → Int → Int → Int → Int → List Int → List Int → List Int → Option (Int × Int × Int × (List Int) × (List Int) × (List Int) × Int × Int × Int)
  | 0, _, _, _, _, _, _, _, _ => none
  | k + 1, h2_0, h2_1, h2_2, h3_0, h3_1, h4, h5, h6 => (bal_Of.l2 k (wrap64 (h3_1 - 1)) h2_0 h2_1 h2_2 h3_0 h3_1 h4 h5 h6)
def bal_Of.l2 : Nat → Int → Int → Int → Int → Int → Int → List Int → List Int → List Int → Option (Int × Int × Int × (List Int) × (List Int) × (List Int) × Int × Int × Int)
  | 0, _, _, _, _, _, _, _, _, _ => none
  | k + 1, i_9, h2_0, h2_1, h2_2, h3_0, h3_1, h4, h5, h6 => (if i_9 ≥ 0 then ((bal_lone.f k h2_0 h2_1 h2_2 h4 i_9 0 h3_1 false).bind fun q13 => (if q13 = true then ((bal_swap.f k h2_0 h2_1 h2_2 h4 h5 h6 h3_0 (wrap64 (h3_1 - 1)) i_9 (wrap64 (h3_1 - 1))).bind fun q15 => (bal_Of.l1 k h2_0 h2_1 h2_2 q15.2.1 q15.2.2.1 q15.1 q15.2.2.2.1 q15.2.2.2.2)) else (bal_Of.l2 k (wrap64 (i_9 - 1)) h2_0 h2_1 h2_2 h3_0 h3_1 h4 h5 h6))) else (bal_Of.l3 k h2_0 h2_1 h2_2 h3_0 h3_1 h4 h5 h6))
def bal_Of.l3 : Nat → Int → Int → Int → Int → Int → List Int → List Int → List Int → Option (Int × Int × Int × (List Int) × (List Int) × (List Int) × Int × Int × Int)
  | 0, _, _, _, _, _, _, _, _ => none
  | k + 1, h2_0, h2_1, h2_2, h3_0, h3_1, h4, h5, h6 => (bal_Of.l4 k h3_0 h2_0 h2_1 h2_2 h3_0 h3_1 h4 h5 h6)
def bal_Of.l4 : Nat → Int → Int → Int → Int → Int → Int → List Int → List Int → List Int → Option (Int × Int × Int × (List Int) × (List Int) × (List Int) × Int × Int × Int)
  | 0, _, _, _, _, _, _, _, _, _ => none
  | k + 1, i_10, h2_0, h2_1, h2_2, h3_0, h3_1, h4, h5, h6 => (if i_10 < h3_1 then ((bal_lone.f k h2_0 h2_1 h2_2 h4 i_10 h3_0 h3_1 true).bind fun q17 => (if q17 = true then ((bal_swap.f k h2_0 h2_1 h2_2 h4 h5 h6 h3_0 h3_1 i_10 h3_0).bind fun q19 => (bal_Of.l3 k h2_0 h2_1 h2_2 (wrap64 (q19.2.1 + 1)) q19.2.2.1 q19.1 q19.2.2.2.1 q19.2.2.2.2)) else (bal_Of.l4 k (wrap64 (i_10 + 1)) h2_0 h2_1 h2_2 h3_0 h3_1 h4 h5 h6))) else (bal_Of.l5 k true 0 h2_0 h2_1 h2_2 h3_0 h3_1 h4 h5 h6))
def bal_Of.l5 : Nat → Bool → Int → Int → Int → Int → Int → Int → List Int → List Int → List Int → Option (Int × Int × Int × (List Int) × (List Int) × (List Int) × Int × Int × Int)
  | 0, _, _, _, _, _, _, _, _, _, _ => none
  | k + 1, again_11, round_12, h2_0, h2_1, h2_2, h3_0, h3_1, h4, h5, h6 => (if again_11 = true then (bal_Of.j7 k round_12 (decide (round_12 < 20)) h2_0 h2_1 h2_2 h3_0 h3_1 h4 h5 h6) else (bal_Of.j7 k round_12 false h2_0 h2_1 h2_2 h3_0 h3_1 h4 h5 h6))
def bal_Of.j7 : Nat → Int → Bool → Int → Int → Int → Int → Int → List Int → List Int → List Int → Option (Int × Int × Int × (List Int) × (List Int) × (List Int) × Int × Int × Int)
  | 0, _, _, _, _, _, _, _, _, _, _ => none
  | k + 1, round_12, t_100, h2_0, h2_1, h2_2, h3_0, h3_1, h4, h5, h6 => (if t_100 = true then (bal_Of.l6 k false round_12 h3_0 h2_0 h2_1 h2_2 h3_0 h3_1 h4 h5 h6) else (some (h2_0, h2_1, h2_2, h4, h5, h6, h3_0, h3_1, 0)))
def bal_Of.l6 : Nat → Bool → Int → Int → Int → Int → Int → Int → Int → List Int → List Int → List Int → Option (Int × Int × Int × (List Int) × (List Int) × (List Int) × Int × Int × Int)
  | 0, _, _, _, _, _, _, _, _, _, _, _ => none
  | k + 1, again_11, round_12, i_13, h2_0, h2_1, h2_2, h3_0, h3_1, h4, h5, h6 => (if i_13 < h3_1 then ((bal_Balance_level.f k h5 h6 h3_0 h3_1 h2_0 h2_1 h2_2 h4 i_13).bind fun q23 => (if q23.1 = true then (bal_Of.l6 k true round_12 (wrap64 (i_13 + 1)) h2_0 h2_1 h2_2 q23.2.1 q23.2.2.1 q23.2.2.2.1 q23.2.2.2.2.1 q23.2.2.2.2.2) else (bal_Of.l6 k again_11 round_12 (wrap64 (i_13 + 1)) h2_0 h2_1 h2_2 q23.2.1 q23.2.2.1 q23.2.2.2.1 q23.2.2.2.2.1 q23.2.2.2.2.2))) else (bal_Of.l5 k again_11 (wrap64 (round_12 + 1)) h2_0 h2_1 h2_2 h3_0 h3_1 h4 h5 h6))
end
def bal_Of.f (k : Nat) (a0_0 : Int) (a0_1 : Int) (a0_2 : Int) (l0_3 : List Int) : Option (Int × Int × Int × (List Int) × (List Int) × (List Int) × Int × Int × Int) := ((mat_Matrix_Check.f k a0_0 a0_1 a0_2 l0_3).bind fun q1 => (if q1 = 0 then (bal_Of.j0 k (a0_0 != a0_1) a0_0 a0_1 a0_2 l0_3) else (bal_Of.j0 k true a0_0 a0_1 a0_2 l0_3)))
def bal_Of.Q (a0_0 : Int) (a0_1 : Int) (a0_2 : Int) (l0_3 : List Int) (r : Int × Int × Int × (List Int) × (List Int) × (List Int) × Int × Int × Int) : S → Prop := fun s => ∃ τ r', fin E0 Tryd.f8 0 τ s = some (r', [.row (r.2.2.2.1.map (V.i .u64)) 2 1 true true none, .row (r.2.2.2.2.1.map (V.i .i64)) 2 1 true true none, .row (r.2.2.2.2.2.1.map (V.i .i64)) 2 1 true true none]) ∧ r'.ro = (.t [.a [.i .i64 r.1, .i .i64 r.2.1, .i .i64 r.2.2.1, .s (some (0, 0)) r.2.2.2.1.length], .a [.s (some (1, 0)) r.2.2.2.2.1.length, .s (some (2, 0)) r.2.2.2.2.2.1.length, .i .i64 r.2.2.2.2.2.2.1, .i .i64 r.2.2.2.2.2.2.2.1], .i .i64 r.2.2.2.2.2.2.2.2])
mutual
def gimballaw16_head.j0 : Nat → Bool → List Int → List Int → Option (Bool)
  | 0, _, _, _ => none
  | k + 1, t_31, h1, h2 => (if t_31 = true then (some (false)) else (if 0 < (h1.length : Int) then (if (rd h1 0) = 0 then (if 0 < (h2.length : Int) then (if 1 < (h2.length : Int) then (some (((wrap64 ((rd h2 0) - (rd h2 1))) == 20))) else none) else none) else (if 1 < (h2.length : Int) then (if 0 < (h2.length : Int) then (some (((wrap64 ((rd h2 1) - (rd h2 0))) == 20))) else none) else none)) else none))
end
def gimballaw16_head.f (k : Nat)  : Option (Bool) := ((mat_One.f k 2).bind fun q1 => ((word_Make.f false 1043 0).bind fun q2 => ((mat_Matrix_Set.f q1.1 q1.2.1 q1.2.2.1 q1.2.2.2 0 1 q2).bind fun q3 => ((word_Make.f false 1003 0).bind fun q4 => ((mat_Matrix_Set.f q1.1 q1.2.1 q1.2.2.1 q3 1 0 q4).bind fun q5 => ((bal_Of.f k q1.1 q1.2.1 q1.2.2.1 q5).bind fun q6 => (if q6.2.2.2.2.2.2.2.2 = 0 then (if (q6.2.2.2.2.2.1.length : Int) = 2 then (gimballaw16_head.j0 k ((q6.2.2.2.2.1.length : Int) != 2) q6.2.2.2.2.1 q6.2.2.2.2.2.1) else (gimballaw16_head.j0 k true q6.2.2.2.2.1 q6.2.2.2.2.2.1)) else (gimballaw16_head.j0 k true q6.2.2.2.2.1 q6.2.2.2.2.2.1))))))))
def gimballaw16_head.Q  (r : Bool) : S → Prop := fun s => ∃ τ r', fin E0 Tryd.f5 0 τ s = some (r', []) ∧ r'.ro = (.b r)
mutual
def gimballaw16_made.l0 : Nat → List Int → Int → Int → Int → Int → Int → Int → List Int → Option (Int × Int × Int × (List Int))
  | 0, _, _, _, _, _, _, _, _ => none
  | k + 1, all_1, holes_2, t_14, t_15, h1_0, h1_1, h1_2, h2 => (if t_15 < t_14 then (if (all_1.length : Int) > 0 then (if 0 ≤ (IntKind.u64.wrap ((Go.bits .and .i64 t_15 63))) then (if (Go.bits .and .u64 (shr .u64 holes_2 (IntKind.u64.wrap ((Go.bits .and .i64 t_15 63)))) 1) = 0 then (if (all_1.length : Int) = 0 then none else (if 0 ≤ (Int.tmod t_15 (all_1.length : Int)) then (if (Int.tmod t_15 (all_1.length : Int)) < (all_1.length : Int) then (if 0 ≤ t_15 then (if t_15 < (h2.length : Int) then (gimballaw16_made.l0 k all_1 holes_2 t_14 (wrap64 (t_15 + 1)) h1_0 h1_1 h1_2 (h2.set t_15.toNat (rd all_1 (Int.tmod t_15 (all_1.length : Int))))) else none) else none) else none) else none)) else (gimballaw16_made.l0 k all_1 holes_2 t_14 (wrap64 (t_15 + 1)) h1_0 h1_1 h1_2 h2)) else none) else (gimballaw16_made.l0 k all_1 holes_2 t_14 (wrap64 (t_15 + 1)) h1_0 h1_1 h1_2 h2)) else (some (h1_0, h1_1, h1_2, h2)))
end
def gimballaw16_made.f (k : Nat) (a0 : Int) (l1 : List Int) (a2 : Int) : Option (Int × Int × Int × (List Int)) := ((mat_New.f a0 a0).bind fun q1 => (gimballaw16_made.l0 k l1 a2 (q1.2.2.2.length : Int) 0 q1.1 q1.2.1 q1.2.2.1 q1.2.2.2))
def gimballaw16_made.Q (a0 : Int) (l1 : List Int) (a2 : Int) (r : Int × Int × Int × (List Int)) : S → Prop := fun s => ∃ τ r', fin E0 Tryd.f6 0 τ s = some (r', [.row (r.2.2.2.map (V.i .u64)) 2 1 true true none]) ∧ r'.ro = (.a [.i .i64 r.1, .i .i64 r.2.1, .i .i64 r.2.2.1, .s (some (0, 0)) r.2.2.2.length])
mutual
def mat_Matrix_Same.j0 : Nat → Bool → Int → Int → Int → List Int → Int → Int → Int → List Int → Option (Bool)
  | 0, _, _, _, _, _, _, _, _, _ => none
  | k + 1, t_18, h0_0, h0_1, h0_2, h0_3, h1_0, h1_1, h1_2, h1_3 => (if t_18 = true then (some (false)) else (mat_Matrix_Same.l0 k h0_0 0 h0_0 h0_1 h0_2 h0_3 h1_0 h1_1 h1_2 h1_3))
def mat_Matrix_Same.l0 : Nat → Int → Int → Int → Int → Int → List Int → Int → Int → Int → List Int → Option (Bool)
  | 0, _, _, _, _, _, _, _, _, _, _ => none
  | k + 1, t_20, t_21, h0_0, h0_1, h0_2, h0_3, h1_0, h1_1, h1_2, h1_3 => (if t_21 < t_20 then (mat_Matrix_Same.l1 k t_21 t_20 t_21 h0_1 0 h0_0 h0_1 h0_2 h0_3 h1_0 h1_1 h1_2 h1_3) else (some (true)))
def mat_Matrix_Same.l1 : Nat → Int → Int → Int → Int → Int → Int → Int → Int → List Int → Int → Int → Int → List Int → Option (Bool)
  | 0, _, _, _, _, _, _, _, _, _, _, _, _, _ => none
  | k + 1, i_5, t_20, t_21, t_25, t_26, h0_0, h0_1, h0_2, h0_3, h1_0, h1_1, h1_2, h1_3 => (if t_26 < t_25 then ((mat_Matrix_At.f h0_0 h0_1 h0_2 h0_3 i_5 t_26).bind fun q5 => ((mat_Matrix_At.f h1_0 h1_1 h1_2 h1_3 i_5 t_26).bind fun q6 => (if q5 = q6 then (mat_Matrix_Same.l1 k i_5 t_20 t_21 t_25 (wrap64 (t_26 + 1)) h0_0 h0_1 h0_2 h0_3 h1_0 h1_1 h1_2 h1_3) else (some (false))))) else (mat_Matrix_Same.l0 k t_20 (wrap64 (t_21 + 1)) h0_0 h0_1 h0_2 h0_3 h1_0 h1_1 h1_2 h1_3))
end
def mat_Matrix_Same.f (k : Nat) (a0_0 : Int) (a0_1 : Int) (a0_2 : Int) (l0_3 : List Int) (a1_0 : Int) (a1_1 : Int) (a1_2 : Int) (l1_3 : List Int) : Option (Bool) := (if a0_0 = a1_0 then (mat_Matrix_Same.j0 k (a0_1 != a1_1) a0_0 a0_1 a0_2 l0_3 a1_0 a1_1 a1_2 l1_3) else (mat_Matrix_Same.j0 k true a0_0 a0_1 a0_2 l0_3 a1_0 a1_1 a1_2 l1_3))
def mat_Matrix_Same.Q (a0_0 : Int) (a0_1 : Int) (a0_2 : Int) (l0_3 : List Int) (a1_0 : Int) (a1_1 : Int) (a1_2 : Int) (l1_3 : List Int) (r : Bool) : S → Prop := fun s => ∃ τ r', fin E0 Tryd.f9 0 τ s = some (r', []) ∧ r'.ro = (.b r)
def bits_TrailingZeros32.f (a0 : Int) : Option (Int) := (if a0 = 0 then (some (32)) else (if 0 ≤ ((((Go.bits .and .u32 a0 ((-a0) % 4294967296)) * 125613361) % 4294967296) / 134217728) then (if ((((Go.bits .and .u32 a0 ((-a0) % 4294967296)) * 125613361) % 4294967296) / 134217728) < 32 then (some ((wrap64 ((rd tab32 ((((Go.bits .and .u32 a0 ((-a0) % 4294967296)) * 125613361) % 4294967296) / 134217728)))))) else none) else none))
def bits_TrailingZeros32.Q (a0 : Int) (r : Int) : S → Prop := fun s => ∃ τ r', fin E0 Tryd.f40 0 τ s = some (r', []) ∧ r'.ro = (.i .i64 r)
mutual
def dyad_down.l0 : Nat → List Int → Int → List Int → Int → Int → Option ((List Int))
  | 0, _, _, _, _, _ => none
  | k + 1, m_0, s_1, h0, t_12, t_13 => (if t_13 < t_12 then (if 0 ≤ t_13 then (if t_13 < (m_0.length : Int) then (if 0 ≤ s_1 then (if t_13 < (h0.length : Int) then (if (wrap64 (t_13 + 1)) < (m_0.length : Int) then (if 0 ≤ (wrap64 (t_13 + 1)) then (if 0 ≤ (wrap64 (32 - s_1)) then (dyad_down.l0 k m_0 s_1 ((h0.set t_13.toNat (shr .u32 (rd m_0 t_13) s_1)).set t_13.toNat (Go.bits .or .u32 (rd (h0.set t_13.toNat (shr .u32 (rd m_0 t_13) s_1)) t_13) (shl .u32 (rd m_0 (wrap64 (t_13 + 1))) (wrap64 (32 - s_1))))) t_12 (wrap64 (t_13 + 1))) else none) else none) else (dyad_down.l0 k m_0 s_1 (h0.set t_13.toNat (shr .u32 (rd m_0 t_13) s_1)) t_12 (wrap64 (t_13 + 1)))) else none) else none) else none) else none) else (if (h0.length : Int) > 0 then (if 0 ≤ (wrap64 ((h0.length : Int) - 1)) then (if (wrap64 ((h0.length : Int) - 1)) < (h0.length : Int) then (if (rd h0 (wrap64 ((h0.length : Int) - 1))) = 0 then (if (wrap64 ((h0.length : Int) - 1)) ≤ (wrap64 ((h0.length : Int) - 1)) then (if (wrap64 ((h0.length : Int) - 1)) ≤ (h0.length : Int) then (some ((List.take (wrap64 ((h0.length : Int) - 1)).toNat h0))) else none) else none) else (some (h0))) else none) else none) else (some (h0))))
end
def dyad_down.f (k : Nat) (l0 : List Int) (a1 : Int) : Option ((List Int)) := (if 0 ≤ (l0.length : Int) then (if (l0.length : Int) ≤ 70368744177664 then (dyad_down.l0 k l0 a1 (List.replicate (l0.length : Int).toNat 0) (l0.length : Int) 0) else none) else none)
def dyad_down.Q (l0 : List Int) (a1 : Int) (r : (List Int)) : S → Prop := fun s => ∃ τ r', fin E0 Tryd.f41 0 τ s = some (r', []) ∧ r'.ro = (.r (r.map (V.i .u32)) r.length true)
mutual
def dyad_trim.l0 : Nat → Bool → List Int → Int → Int → Option (Bool × (List Int) × Int)
  | 0, _, _, _, _ => none
  | k + 1, neg_0, m_1, e_2, n_7 => (if n_7 > 0 then (if 0 ≤ (wrap64 (n_7 - 1)) then (if (wrap64 (n_7 - 1)) < (m_1.length : Int) then (if (rd m_1 (wrap64 (n_7 - 1))) = 0 then (dyad_trim.l0 k neg_0 m_1 e_2 (wrap64 (n_7 - 1))) else (dyad_trim.j1 k neg_0 m_1 e_2 n_7)) else none) else none) else (dyad_trim.j1 k neg_0 m_1 e_2 n_7))
def dyad_trim.j1 : Nat → Bool → List Int → Int → Int → Option (Bool × (List Int) × Int)
  | 0, _, _, _, _ => none
  | k + 1, neg_0, m_1, e_2, n_7 => (if 0 ≤ n_7 then (if n_7 ≤ (m_1.length : Int) then (if n_7 = 0 then (some (false, [], 0)) else (dyad_trim.l1 k neg_0 (List.take n_7.toNat m_1) e_2 0)) else none) else none)
def dyad_trim.l1 : Nat → Bool → List Int → Int → Int → Option (Bool × (List Int) × Int)
  | 0, _, _, _, _ => none
  | k + 1, neg_0, m_1, e_2, k_8 => (if 0 ≤ k_8 then (if k_8 < (m_1.length : Int) then (if (rd m_1 k_8) = 0 then (dyad_trim.l1 k neg_0 m_1 e_2 (wrap64 (k_8 + 1))) else (if k_8 ≤ (m_1.length : Int) then (if 0 < ((List.drop k_8.toNat m_1).length : Int) then ((bits_TrailingZeros32.f (rd (List.drop k_8.toNat m_1) 0)).bind fun q13 => (if q13 > 0 then ((dyad_down.f k (List.drop k_8.toNat m_1) q13).bind fun q15 => (some (neg_0, q15, (wrap64 ((wrap64 (e_2 + (wrap64 (32 * k_8)))) + q13))))) else (some (neg_0, (List.drop k_8.toNat m_1), (wrap64 (e_2 + (wrap64 (32 * k_8)))))))) else none) else none)) else none) else none)
end
def dyad_trim.f (k : Nat) (a0 : Bool) (l1 : List Int) (a2 : Int) : Option (Bool × (List Int) × Int) := (dyad_trim.l0 k a0 l1 a2 (l1.length : Int))
def dyad_trim.Q (a0 : Bool) (l1 : List Int) (a2 : Int) (r : Bool × (List Int) × Int) : S → Prop := fun s => ∃ τ r', fin E0 Tryd.f32 0 τ s = some (r', []) ∧ r'.ro = (.a [.b r.1, .r (r.2.1.map (V.i .u32)) r.2.1.length true, .i .i64 r.2.2])
def dyad_Of.f (k : Nat) (a0 : Int) : Option (Bool × (List Int) × Int × Bool) := ((word_Finite.f a0).bind fun q1 => (if q1 = true then ((word_Parts.f k a0).bind fun q3 => ((word_Neg.f a0).bind fun q4 => ((dyad_trim.f k q4 ([(q3.1 % 4294967296), ((q3.1 / 4294967296) % 4294967296)] : List Int) q3.2).bind fun q5 => (some (q5.1, q5.2.1, q5.2.2, true))))) else (some (false, [], 0, false))))
def dyad_Of.Q (a0 : Int) (r : Bool × (List Int) × Int × Bool) : S → Prop := fun s => ∃ τ r', fin E0 Tryd.f28 0 τ s = some (r', []) ∧ r'.ro = (.t [.a [.b r.1, .r (r.2.1.map (V.i .u32)) r.2.1.length true, .i .i64 r.2.2.1], .b r.2.2.2])
def gimballaw16_exact.f (k : Nat) (a0 : Int) : Option (Bool × (List Int) × Int) := ((dyad_Of.f k a0).bind fun q1 => (some (q1.1, q1.2.1, q1.2.2.1)))
def gimballaw16_exact.Q (a0 : Int) (r : Bool × (List Int) × Int) : S → Prop := fun s => ∃ τ r', fin E0 Tryd.f11 0 τ s = some (r', []) ∧ r'.ro = (.a [.b r.1, .r (r.2.1.map (V.i .u32)) r.2.1.length true, .i .i64 r.2.2])
def dyad_Two.f (a0 : Int) : Option (Bool × (List Int) × Int) := (some (false, ([1] : List Int), (mx (-1048576) (mn a0 1048576))))
def dyad_Two.Q (a0 : Int) (r : Bool × (List Int) × Int) : S → Prop := fun s => ∃ τ r', fin E0 Tryd.f16 0 τ s = some (r', [.row (r.2.1.map (V.i .u32)) 2 1 true true none]) ∧ r'.ro = (.a [.b r.1, .s (some (0, 0)) r.2.1.length, .i .i64 r.2.2])
mutual
def dyad_Num_Mul.j0 : Nat → Bool → Bool → List Int → Int → Bool → List Int → Int → Option (Bool × (List Int) × Int)
  | 0, _, _, _, _, _, _, _ => none
  | k + 1, t_20, h0_0, h0_1, h0_2, h1_0, h1_1, h1_2 => (if t_20 = true then (some (false, [], 0)) else (if 0 ≤ (wrap64 ((h0_1.length : Int) + (h1_1.length : Int))) then (if (wrap64 ((h0_1.length : Int) + (h1_1.length : Int))) ≤ 70368744177664 then (dyad_Num_Mul.l0 k (List.replicate (wrap64 ((h0_1.length : Int) + (h1_1.length : Int))).toNat 0) h0_1 (h0_1.length : Int) 0 h0_0 h0_1 h0_2 h1_0 h1_1 h1_2) else none) else none))
def dyad_Num_Mul.l0 : Nat → List Int → List Int → Int → Int → Bool → List Int → Int → Bool → List Int → Int → Option (Bool × (List Int) × Int)
  | 0, _, _, _, _, _, _, _, _, _, _ => none
  | k + 1, h3, t_31, t_32, t_33, h0_0, h0_1, h0_2, h1_0, h1_1, h1_2 => (if t_33 < t_32 then (if 0 ≤ t_33 then (if t_33 < (t_31.length : Int) then (dyad_Num_Mul.l1 k h3 t_33 (rd t_31 t_33) 0 t_31 t_32 t_33 h1_1 (h1_1.length : Int) 0 h0_0 h0_1 h0_2 h1_0 h1_1 h1_2) else none) else none) else ((dyad_trim.f k (h0_0 != h1_0) h3 (wrap64 (h0_2 + h1_2))).bind fun q8 => (some (q8.1, q8.2.1, q8.2.2))))
def dyad_Num_Mul.l1 : Nat → List Int → Int → Int → Int → List Int → Int → Int → List Int → Int → Int → Bool → List Int → Int → Bool → List Int → Int → Option (Bool × (List Int) × Int)
  | 0, _, _, _, _, _, _, _, _, _, _, _, _, _, _, _, _ => none
  | k + 1, h3, i_6, x_7, c_8, t_31, t_32, t_33, t_39, t_40, t_41, h0_0, h0_1, h0_2, h1_0, h1_1, h1_2 => (if t_41 < t_40 then (if 0 ≤ t_41 then (if t_41 < (t_39.length : Int) then (if 0 ≤ (wrap64 (i_6 + t_41)) then (if (wrap64 (i_6 + t_41)) < (h3.length : Int) then (dyad_Num_Mul.l1 k (h3.set (wrap64 (i_6 + t_41)).toNat ((IntKind.u64.wrap (c_8 + (IntKind.u64.wrap ((IntKind.u64.wrap ((rd h3 (wrap64 (i_6 + t_41))))) + (IntKind.u64.wrap ((IntKind.u64.wrap (x_7)) * (IntKind.u64.wrap ((rd t_39 t_41))))))))) % 4294967296)) i_6 x_7 ((IntKind.u64.wrap (c_8 + (IntKind.u64.wrap ((IntKind.u64.wrap ((rd h3 (wrap64 (i_6 + t_41))))) + (IntKind.u64.wrap ((IntKind.u64.wrap (x_7)) * (IntKind.u64.wrap ((rd t_39 t_41))))))))) / 4294967296) t_31 t_32 t_33 t_39 t_40 (wrap64 (t_41 + 1)) h0_0 h0_1 h0_2 h1_0 h1_1 h1_2) else none) else none) else none) else none) else (if 0 ≤ (wrap64 (i_6 + (h1_1.length : Int))) then (if (wrap64 (i_6 + (h1_1.length : Int))) < (h3.length : Int) then (dyad_Num_Mul.l0 k (h3.set (wrap64 (i_6 + (h1_1.length : Int))).toNat (c_8 % 4294967296)) t_31 t_32 (wrap64 (t_33 + 1)) h0_0 h0_1 h0_2 h1_0 h1_1 h1_2) else none) else none))
end
def dyad_Num_Mul.f (k : Nat) (a0_0 : Bool) (l0_1 : List Int) (a0_2 : Int) (a1_0 : Bool) (l1_1 : List Int) (a1_2 : Int) : Option (Bool × (List Int) × Int) := (if (l0_1.length : Int) = 0 then (dyad_Num_Mul.j0 k true a0_0 l0_1 a0_2 a1_0 l1_1 a1_2) else (dyad_Num_Mul.j0 k ((l1_1.length : Int) == 0) a0_0 l0_1 a0_2 a1_0 l1_1 a1_2))
def dyad_Num_Mul.Q (a0_0 : Bool) (l0_1 : List Int) (a0_2 : Int) (a1_0 : Bool) (l1_1 : List Int) (a1_2 : Int) (r : Bool × (List Int) × Int) : S → Prop := fun s => ∃ τ r', fin E0 Tryd.f15 0 τ s = some (r', []) ∧ r'.ro = (.a [.b r.1, .r (r.2.1.map (V.i .u32)) r.2.1.length true, .i .i64 r.2.2])
mutual
def slices_Equal_uint32_uint32.l0 : Nat → List Int → List Int → Int → Int → Option (Bool)
  | 0, _, _, _, _ => none
  | k + 1, s1_0, s2_1, t_12, t_13 => (if t_13 < t_12 then (if 0 ≤ t_13 then (if t_13 < (s1_0.length : Int) then (if t_13 < (s2_1.length : Int) then (if (rd s1_0 t_13) = (rd s2_1 t_13) then (slices_Equal_uint32_uint32.l0 k s1_0 s2_1 t_12 (wrap64 (t_13 + 1))) else (some (false))) else none) else none) else none) else (some (true)))
end
def slices_Equal_uint32_uint32.f (k : Nat) (l0 : List Int) (l1 : List Int) : Option (Bool) := (if (l0.length : Int) = (l1.length : Int) then (slices_Equal_uint32_uint32.l0 k l0 l1 (l0.length : Int) 0) else (some (false)))
def slices_Equal_uint32_uint32.Q (l0 : List Int) (l1 : List Int) (r : Bool) : S → Prop := fun s => ∃ τ r', fin E0 Tryd.f31 0 τ s = some (r', []) ∧ r'.ro = (.b r)
def dyad_Num_Same.f (k : Nat) (a0_0 : Bool) (l0_1 : List Int) (a0_2 : Int) (a1_0 : Bool) (l1_1 : List Int) (a1_2 : Int) : Option (Bool) := (if (a0_0 == a1_0) = true then (if a0_2 = a1_2 then ((slices_Equal_uint32_uint32.f k l0_1 l1_1).bind fun q3 => (some (q3))) else (some (false))) else (some (false)))
def dyad_Num_Same.Q (a0_0 : Bool) (l0_1 : List Int) (a0_2 : Int) (a1_0 : Bool) (l1_1 : List Int) (a1_2 : Int) (r : Bool) : S → Prop := fun s => ∃ τ r', fin E0 Tryd.f14 0 τ s = some (r', []) ∧ r'.ro = (.b r)
mutual
def gimballaw16_BalSame.j0 : Nat → Int → Bool → Int → Int → Int → Int → Int → Int → Int → Int → List Int → List Int → List Int → List Int → Option (Bool)
  | 0, _, _, _, _, _, _, _, _, _, _, _, _, _, _ => none
  | k + 1, n_0, t_97, h0_0, h0_1, h0_2, h1_0, h1_1, h1_2, h2_0, h2_1, h3, h4, h5, h6 => (if t_97 = true then (some (false)) else (gimballaw16_BalSame.l0 k n_0 0 h0_0 h0_1 h0_2 h1_0 h1_1 h1_2 h2_0 h2_1 ([] : List (Int × Bool)) h3 h4 h5 h6))
def gimballaw16_BalSame.l0 : Nat → Int → Int → Int → Int → Int → Int → Int → Int → Int → Int → List (Int × Bool) → List Int → List Int → List Int → List Int → Option (Bool)
  | 0, _, _, _, _, _, _, _, _, _, _, _, _, _, _, _ => none
  | k + 1, n_0, i_13, h0_0, h0_1, h0_2, h1_0, h1_1, h1_2, h2_0, h2_1, h3, h4, h5, h6, h7 => (if i_13 < n_0 then (if 0 ≤ i_13 then (if i_13 < (h6.length : Int) then (if (rd h6 i_13) < 0 then (some (false)) else (if (rd h6 i_13) ≥ n_0 then (some (false)) else (if (mget h3 (rd h6 i_13)) = true then (some (false)) else (if i_13 < (h7.length : Int) then (if (rd h7 i_13) < (-200) then (some (false)) else (if (rd h7 i_13) > 200 then (some (false)) else (if i_13 < h2_0 then (if (rd h7 i_13) = 0 then (gimballaw16_BalSame.l0 k n_0 (wrap64 (i_13 + 1)) h0_0 h0_1 h0_2 h1_0 h1_1 h1_2 h2_0 h2_1 (mput h3 (rd h6 i_13) true) h4 h5 h6 h7) else (some (false))) else (if i_13 ≥ h2_1 then (if (rd h7 i_13) = 0 then (gimballaw16_BalSame.l0 k n_0 (wrap64 (i_13 + 1)) h0_0 h0_1 h0_2 h1_0 h1_1 h1_2 h2_0 h2_1 (mput h3 (rd h6 i_13) true) h4 h5 h6 h7) else (some (false))) else (gimballaw16_BalSame.l0 k n_0 (wrap64 (i_13 + 1)) h0_0 h0_1 h0_2 h1_0 h1_1 h1_2 h2_0 h2_1 (mput h3 (rd h6 i_13) true) h4 h5 h6 h7))))) else none)))) else none) else none) else (gimballaw16_BalSame.l1 k n_0 0 h0_0 h0_1 h0_2 h1_0 h1_1 h1_2 h2_0 h2_1 h4 h5 h6 h7))
def gimballaw16_BalSame.l1 : Nat → Int → Int → Int → Int → Int → Int → Int → Int → Int → Int → List Int → List Int → List Int → List Int → Option (Bool)
  | 0, _, _, _, _, _, _, _, _, _, _, _, _, _, _ => none
  | k + 1, n_0, i_15, h0_0, h0_1, h0_2, h1_0, h1_1, h1_2, h2_0, h2_1, h3, h4, h5, h6 => (if i_15 < n_0 then (gimballaw16_BalSame.l2 k n_0 i_15 0 h0_0 h0_1 h0_2 h1_0 h1_1 h1_2 h2_0 h2_1 h3 h4 h5 h6) else ((bal_Of.f k (-1) h0_1 h0_2 h3).bind fun q32 => ((mat_New.f 2 3).bind fun q33 => ((bal_Of.f k q33.1 q33.2.1 q33.2.2.1 q33.2.2.2).bind fun q34 => (if q32.2.2.2.2.2.2.2.2 = 4 then (some ((q34.2.2.2.2.2.2.2.2 == 4))) else (some (false)))))))
def gimballaw16_BalSame.l2 : Nat → Int → Int → Int → Int → Int → Int → Int → Int → Int → Int → Int → List Int → List Int → List Int → List Int → Option (Bool)
  | 0, _, _, _, _, _, _, _, _, _, _, _, _, _, _, _ => none
  | k + 1, n_0, i_15, k_16, h0_0, h0_1, h0_2, h1_0, h1_1, h1_2, h2_0, h2_1, h3, h4, h5, h6 => (if k_16 < n_0 then (if 0 ≤ i_15 then (if i_15 < (h5.length : Int) then (if 0 ≤ k_16 then (if k_16 < (h5.length : Int) then ((mat_Matrix_At.f h0_0 h0_1 h0_2 h3 (rd h5 i_15) (rd h5 k_16)).bind fun q41 => ((gimballaw16_exact.f k q41).bind fun q42 => ((mat_Matrix_At.f h1_0 h1_1 h1_2 h4 i_15 k_16).bind fun q43 => ((word_Finite.f q43).bind fun q44 => (if q44 = true then ((mat_Matrix_At.f h1_0 h1_1 h1_2 h4 i_15 k_16).bind fun q46 => ((gimballaw16_exact.f k q46).bind fun q47 => (if k_16 < (h6.length : Int) then (if i_15 < (h6.length : Int) then ((dyad_Two.f (wrap64 ((rd h6 k_16) - (rd h6 i_15)))).bind fun q50 => ((dyad_Num_Mul.f k q42.1 q42.2.1 q42.2.2 q50.1 q50.2.1 q50.2.2).bind fun q51 => ((dyad_Num_Same.f k q47.1 q47.2.1 q47.2.2 q51.1 q51.2.1 q51.2.2).bind fun q52 => (gimballaw16_BalSame.j4 k n_0 i_15 k_16 (!q52) h0_0 h0_1 h0_2 h1_0 h1_1 h1_2 h2_0 h2_1 h3 h4 h5 h6)))) else none) else none))) else (gimballaw16_BalSame.j4 k n_0 i_15 k_16 true h0_0 h0_1 h0_2 h1_0 h1_1 h1_2 h2_0 h2_1 h3 h4 h5 h6)))))) else none) else none) else none) else none) else (gimballaw16_BalSame.l1 k n_0 (wrap64 (i_15 + 1)) h0_0 h0_1 h0_2 h1_0 h1_1 h1_2 h2_0 h2_1 h3 h4 h5 h6))
def gimballaw16_BalSame.j4 : Nat → Int → Int → Int → Bool → Int → Int → Int → Int → Int → Int → Int → Int → List Int → List Int → List Int → List Int → Option (Bool)
  | 0, _, _, _, _, _, _, _, _, _, _, _, _, _, _, _, _ => none
  | k + 1, n_0, i_15, k_16, t_210, h0_0, h0_1, h0_2, h1_0, h1_1, h1_2, h2_0, h2_1, h3, h4, h5, h6 => (if t_210 = true then (some (false)) else ((mat_Matrix_At.f h1_0 h1_1 h1_2 h4 i_15 k_16).bind fun q54 => ((word_Abs.f q54).bind fun q55 => (if q55 = 0 then (gimballaw16_BalSame.l2 k n_0 i_15 (wrap64 (k_16 + 1)) h0_0 h0_1 h0_2 h1_0 h1_1 h1_2 h2_0 h2_1 h3 h4 h5 h6) else (if i_15 ≥ h2_1 then (if k_16 < i_15 then (some (false)) else (if k_16 < h2_0 then (if i_15 > k_16 then (some (false)) else (gimballaw16_BalSame.l2 k n_0 i_15 (wrap64 (k_16 + 1)) h0_0 h0_1 h0_2 h1_0 h1_1 h1_2 h2_0 h2_1 h3 h4 h5 h6)) else (gimballaw16_BalSame.l2 k n_0 i_15 (wrap64 (k_16 + 1)) h0_0 h0_1 h0_2 h1_0 h1_1 h1_2 h2_0 h2_1 h3 h4 h5 h6))) else (if k_16 < h2_0 then (if i_15 > k_16 then (some (false)) else (gimballaw16_BalSame.l2 k n_0 i_15 (wrap64 (k_16 + 1)) h0_0 h0_1 h0_2 h1_0 h1_1 h1_2 h2_0 h2_1 h3 h4 h5 h6)) else (gimballaw16_BalSame.l2 k n_0 i_15 (wrap64 (k_16 + 1)) h0_0 h0_1 h0_2 h1_0 h1_1 h1_2 h2_0 h2_1 h3 h4 h5 h6)))))))
end
def gimballaw16_BalSame.f (k : Nat) (a0 : Int) (l1 : List Int) (a2 : Int) : Option (Bool) := ((gimballaw16_head_ok.f).bind fun q1 => (if (l1.length : Int) > 100 then (some (true)) else ((gimballaw16_made.f k (Go.bits .and .i64 a0 7) l1 a2).bind fun q3 => ((mat_Matrix_Clone.f k q3.1 q3.2.1 q3.2.2.1 q3.2.2.2).bind fun q4 => ((bal_Of.f k q3.1 q3.2.1 q3.2.2.1 q3.2.2.2).bind fun q5 => ((mat_Matrix_Same.f k q3.1 q3.2.1 q3.2.2.1 q3.2.2.2 q4.1 q4.2.1 q4.2.2.1 q4.2.2.2).bind fun q6 => (if q6 = true then ((mat_Matrix_Finite.f k q3.1 q3.2.1 q3.2.2.1 q3.2.2.2).bind fun q8 => (if q8 = true then (if q5.2.2.2.2.2.2.2.2 = 0 then (if q5.1 = (Go.bits .and .i64 a0 7) then (if q5.2.1 = (Go.bits .and .i64 a0 7) then (if (q5.2.2.2.2.1.length : Int) = (Go.bits .and .i64 a0 7) then (if (q5.2.2.2.2.2.1.length : Int) = (Go.bits .and .i64 a0 7) then (if q5.2.2.2.2.2.2.1 < 0 then (gimballaw16_BalSame.j0 k (Go.bits .and .i64 a0 7) true q3.1 q3.2.1 q3.2.2.1 q5.1 q5.2.1 q5.2.2.1 q5.2.2.2.2.2.2.1 q5.2.2.2.2.2.2.2.1 q3.2.2.2 q5.2.2.2.1 q5.2.2.2.2.1 q5.2.2.2.2.2.1) else (if q5.2.2.2.2.2.2.1 > q5.2.2.2.2.2.2.2.1 then (gimballaw16_BalSame.j0 k (Go.bits .and .i64 a0 7) true q3.1 q3.2.1 q3.2.2.1 q5.1 q5.2.1 q5.2.2.1 q5.2.2.2.2.2.2.1 q5.2.2.2.2.2.2.2.1 q3.2.2.2 q5.2.2.2.1 q5.2.2.2.2.1 q5.2.2.2.2.2.1) else (gimballaw16_BalSame.j0 k (Go.bits .and .i64 a0 7) (decide (q5.2.2.2.2.2.2.2.1 > (Go.bits .and .i64 a0 7))) q3.1 q3.2.1 q3.2.2.1 q5.1 q5.2.1 q5.2.2.1 q5.2.2.2.2.2.2.1 q5.2.2.2.2.2.2.2.1 q3.2.2.2 q5.2.2.2.1 q5.2.2.2.2.1 q5.2.2.2.2.2.1))) else (gimballaw16_BalSame.j0 k (Go.bits .and .i64 a0 7) true q3.1 q3.2.1 q3.2.2.1 q5.1 q5.2.1 q5.2.2.1 q5.2.2.2.2.2.2.1 q5.2.2.2.2.2.2.2.1 q3.2.2.2 q5.2.2.2.1 q5.2.2.2.2.1 q5.2.2.2.2.2.1)) else (gimballaw16_BalSame.j0 k (Go.bits .and .i64 a0 7) true q3.1 q3.2.1 q3.2.2.1 q5.1 q5.2.1 q5.2.2.1 q5.2.2.2.2.2.2.1 q5.2.2.2.2.2.2.2.1 q3.2.2.2 q5.2.2.2.1 q5.2.2.2.2.1 q5.2.2.2.2.2.1)) else (gimballaw16_BalSame.j0 k (Go.bits .and .i64 a0 7) true q3.1 q3.2.1 q3.2.2.1 q5.1 q5.2.1 q5.2.2.1 q5.2.2.2.2.2.2.1 q5.2.2.2.2.2.2.2.1 q3.2.2.2 q5.2.2.2.1 q5.2.2.2.2.1 q5.2.2.2.2.2.1)) else (gimballaw16_BalSame.j0 k (Go.bits .and .i64 a0 7) true q3.1 q3.2.1 q3.2.2.1 q5.1 q5.2.1 q5.2.2.1 q5.2.2.2.2.2.2.1 q5.2.2.2.2.2.2.2.1 q3.2.2.2 q5.2.2.2.1 q5.2.2.2.2.1 q5.2.2.2.2.2.1)) else (gimballaw16_BalSame.j0 k (Go.bits .and .i64 a0 7) true q3.1 q3.2.1 q3.2.2.1 q5.1 q5.2.1 q5.2.2.1 q5.2.2.2.2.2.2.1 q5.2.2.2.2.2.2.2.1 q3.2.2.2 q5.2.2.2.1 q5.2.2.2.2.1 q5.2.2.2.2.2.1)) else (some ((q5.2.2.2.2.2.2.2.2 == 6))))) else (some (false)))))))))
def gimballaw16_BalSame.Q (a0 : Int) (l1 : List Int) (a2 : Int) (r : Bool) : S → Prop := fun s => ∃ τ r', fin E0 Tryd.f3 0 τ s = some (r', []) ∧ r'.ro = (.b r)
mutual
def bal_Balance_Back.j0 : Nat → List Int → Bool → Bool → List Int → List Int → Int → Int → Option ((List Int) × Int × Int)
  | 0, _, _, _, _, _, _, _ => none
  | k + 1, x_1, left_2, t_29, h0_0, h0_1, h0_2, h0_3 => (if t_29 = true then (some (([] : List Int), 0, 4)) else (if 0 ≤ (x_1.length : Int) then (if (x_1.length : Int) ≤ 35184372088832 then (bal_Balance_Back.l0 k x_1 left_2 (List.replicate (x_1.length : Int).toNat 0) 0 (x_1.length : Int) 0 h0_0 h0_1 h0_2 h0_3) else none) else none))
def bal_Balance_Back.l0 : Nat → List Int → Bool → List Int → Int → Int → Int → List Int → List Int → Int → Int → Option ((List Int) × Int × Int)
  | 0, _, _, _, _, _, _, _, _, _, _ => none
  | k + 1, x_1, left_2, h1, all_10, t_34, t_35, h0_0, h0_1, h0_2, h0_3 => (if t_35 < t_34 then (if 0 ≤ t_35 then (if t_35 < (x_1.length : Int) then (if t_35 < (h0_1.length : Int) then (if left_2 = true then ((more_Scale.f k (rd x_1 t_35) (wrap64 (-(mx (-20000) (mn (rd h0_1 t_35) 20000))))).bind fun q10 => (if t_35 < (h0_0.length : Int) then (if (rd h0_0 t_35) < 0 then (some (([] : List Int), 0, 1)) else (if (rd h0_0 t_35) ≥ (x_1.length : Int) then (some (([] : List Int), 0, 1)) else (if 0 ≤ (rd h0_0 t_35) then (if (rd h0_0 t_35) < (h1.length : Int) then (bal_Balance_Back.l0 k x_1 true (h1.set (rd h0_0 t_35).toNat q10.1) (Go.bits .or .u8 all_10 q10.2) t_34 (wrap64 (t_35 + 1)) h0_0 h0_1 h0_2 h0_3) else none) else none))) else none)) else ((more_Scale.f k (rd x_1 t_35) (mx (-20000) (mn (rd h0_1 t_35) 20000))).bind fun q16 => (if t_35 < (h0_0.length : Int) then (if (rd h0_0 t_35) < 0 then (some (([] : List Int), 0, 1)) else (if (rd h0_0 t_35) ≥ (x_1.length : Int) then (some (([] : List Int), 0, 1)) else (if 0 ≤ (rd h0_0 t_35) then (if (rd h0_0 t_35) < (h1.length : Int) then (bal_Balance_Back.l0 k x_1 false (h1.set (rd h0_0 t_35).toNat q16.1) (Go.bits .or .u8 all_10 q16.2) t_34 (wrap64 (t_35 + 1)) h0_0 h0_1 h0_2 h0_3) else none) else none))) else none))) else none) else none) else none) else (some (h1, all_10, 0)))
end
def bal_Balance_Back.f (k : Nat) (l0_0 : List Int) (l0_1 : List Int) (a0_2 : Int) (a0_3 : Int) (l1 : List Int) (a2 : Bool) : Option ((List Int) × Int × Int) := (if (l1.length : Int) = (l0_0.length : Int) then (bal_Balance_Back.j0 k l1 a2 ((l1.length : Int) != (l0_1.length : Int)) l0_0 l0_1 a0_2 a0_3) else (bal_Balance_Back.j0 k l1 a2 true l0_0 l0_1 a0_2 a0_3))
def bal_Balance_Back.Q (l0_0 : List Int) (l0_1 : List Int) (a0_2 : Int) (a0_3 : Int) (l1 : List Int) (a2 : Bool) (r : (List Int) × Int × Int) : S → Prop := fun s => ∃ τ r', fin E0 Tryd.f19 0 τ s = some (r', [.row (r.1.map (V.i .u64)) 2 1 true true none]) ∧ r'.ro = (.t [.s (some (0, 0)) r.1.length, .i .u8 r.2.1, .i .i64 r.2.2])
mutual
def dyad_line_1.l0 : Nat → List Int → Int → Option ((List Int))
  | 0, _, _ => none
  | k + 1, m_0, n_3 => (if n_3 > 0 then (if 0 ≤ (wrap64 (n_3 - 1)) then (if (wrap64 (n_3 - 1)) < (m_0.length : Int) then (if (rd m_0 (wrap64 (n_3 - 1))) = 0 then (dyad_line_1.l0 k m_0 (wrap64 (n_3 - 1))) else (if 0 ≤ n_3 then (if n_3 ≤ (m_0.length : Int) then (some ((List.take n_3.toNat m_0))) else none) else none)) else none) else none) else (if 0 ≤ n_3 then (if n_3 ≤ (m_0.length : Int) then (some ((List.take n_3.toNat m_0))) else none) else none))
end
def dyad_line_1.f (k : Nat) (l0 : List Int) : Option ((List Int)) := (dyad_line_1.l0 k l0 (l0.length : Int))
def dyad_line_1.Q (l0 : List Int) (r : (List Int)) : S → Prop := fun s => ∃ τ r', fin E0 Tryd.f44 0 τ s = some (r', []) ∧ r'.ro = (.r (r.map (V.i .u32)) r.length true)
mutual
def dyad_up.l0 : Nat → List Int → Int → Int → List Int → Int → Int → Option ((List Int))
  | 0, _, _, _, _, _, _ => none
  | k + 1, h0, s_6, c_7, t_21, t_22, t_23 => (if t_23 < t_22 then (if 0 ≤ t_23 then (if t_23 < (t_21.length : Int) then (if 0 ≤ s_6 then (if h0.length < 35184372088832 then (if 0 ≤ (wrap64 (32 - s_6)) then (dyad_up.l0 k (h0 ++ ([(Go.bits .or .u32 (shl .u32 (rd t_21 t_23) s_6) c_7)] : List Int)) s_6 ((shr .u64 (IntKind.u64.wrap ((rd t_21 t_23))) (wrap64 (32 - s_6))) % 4294967296) t_21 t_22 (wrap64 (t_23 + 1))) else none) else none) else none) else none) else none) else (if h0.length < 35184372088832 then (some ((h0 ++ ([c_7] : List Int)))) else none))
end
def dyad_up.f (k : Nat) (l0 : List Int) (a1 : Int) : Option ((List Int)) := (if 0 ≤ (wrap64 (Int.tdiv a1 32)) then (if (wrap64 (Int.tdiv a1 32)) ≤ (wrap64 ((wrap64 ((wrap64 (Int.tdiv a1 32)) + (l0.length : Int))) + 1)) then (if (wrap64 ((wrap64 ((wrap64 (Int.tdiv a1 32)) + (l0.length : Int))) + 1)) ≤ 70368744177664 then (dyad_up.l0 k (List.replicate (wrap64 (Int.tdiv a1 32)).toNat 0) (Int.tmod a1 32) 0 l0 (l0.length : Int) 0) else none) else none) else none)
def dyad_up.Q (l0 : List Int) (a1 : Int) (r : (List Int)) : S → Prop := fun s => ∃ τ r', fin E0 Tryd.f45 0 τ s = some (r', [.row (r.map (V.i .u32)) 2 1 true true none]) ∧ r'.ro = (.s (some (0, 0)) r.length)
mutual
def dyad_cmp.l0 : Nat → List Int → List Int → Int → Option (Int)
  | 0, _, _, _ => none
  | k + 1, a_0, b_1, i_5 => (if i_5 ≥ 0 then (if 0 ≤ i_5 then (if i_5 < (a_0.length : Int) then (if i_5 < (b_1.length : Int) then (if (rd a_0 i_5) = (rd b_1 i_5) then (dyad_cmp.l0 k a_0 b_1 (wrap64 (i_5 - 1))) else (if (rd a_0 i_5) < (rd b_1 i_5) then (some ((-1))) else (some (1)))) else none) else none) else none) else (some (0)))
end
def dyad_cmp.f (k : Nat) (l0 : List Int) (l1 : List Int) : Option (Int) := (if (l0.length : Int) = (l1.length : Int) then (dyad_cmp.l0 k l0 l1 (wrap64 ((l0.length : Int) - 1))) else (if (l0.length : Int) < (l1.length : Int) then (some ((-1))) else (some (1))))
def dyad_cmp.Q (l0 : List Int) (l1 : List Int) (r : Int) : S → Prop := fun s => ∃ τ r', fin E0 Tryd.f35 0 τ s = some (r', []) ∧ r'.ro = (.i .i64 r)
def dyad_line.f (k : Nat) (a0_0 : Bool) (l0_1 : List Int) (a0_2 : Int) (a1_0 : Bool) (l1_1 : List Int) (a1_2 : Int) : Option ((List Int) × (List Int) × Int) := ((dyad_up.f k l0_1 (wrap64 (a0_2 - (mn a0_2 a1_2)))).bind fun q1 => ((dyad_line_1.f k q1).bind fun q2 => ((dyad_up.f k l1_1 (wrap64 (a1_2 - (mn a0_2 a1_2)))).bind fun q3 => ((dyad_line_1.f k q3).bind fun q4 => (some (q2, q4, (mn a0_2 a1_2)))))))
def dyad_line.Q (a0_0 : Bool) (l0_1 : List Int) (a0_2 : Int) (a1_0 : Bool) (l1_1 : List Int) (a1_2 : Int) (r : (List Int) × (List Int) × Int) : S → Prop := fun s => ∃ τ r', fin E0 Tryd.f34 0 τ s = some (r', []) ∧ r'.ro = (.t [.r (r.1.map (V.i .u32)) r.1.length true, .r (r.2.1.map (V.i .u32)) r.2.1.length true, .i .i64 r.2.2])
mutual
def dyad_Num_Add.j0 : Nat → List Int → List Int → Int → Bool → List Int → Int → Option (Bool × (List Int) × Int)
  | 0, _, _, _, _, _, _ => none
  | k + 1, x_5, y_6, e_7, h0_0, h0_1, h0_2 => (if 0 ≤ (wrap64 ((x_5.length : Int) + 1)) then (if (wrap64 ((x_5.length : Int) + 1)) ≤ 70368744177664 then (dyad_Num_Add.l0 k x_5 y_6 e_7 (List.replicate 0 0) 0 (x_5.length : Int) 0 h0_0 h0_1 h0_2) else none) else none)
def dyad_Num_Add.l0 : Nat → List Int → List Int → Int → List Int → Int → Int → Int → Bool → List Int → Int → Option (Bool × (List Int) × Int)
  | 0, _, _, _, _, _, _, _, _, _, _ => none
  | k + 1, x_5, y_6, e_7, h2, c_9, t_49, t_50, h0_0, h0_1, h0_2 => (if t_50 < t_49 then (if 0 ≤ t_50 then (if t_50 < (x_5.length : Int) then (if t_50 < (y_6.length : Int) then (if h2.length < 35184372088832 then (dyad_Num_Add.l0 k x_5 y_6 e_7 (h2 ++ ([((IntKind.u64.wrap ((IntKind.u64.wrap (c_9 + (IntKind.u64.wrap ((rd x_5 t_50))))) + (IntKind.u64.wrap ((rd y_6 t_50))))) % 4294967296)] : List Int)) ((IntKind.u64.wrap ((IntKind.u64.wrap (c_9 + (IntKind.u64.wrap ((rd x_5 t_50))))) + (IntKind.u64.wrap ((rd y_6 t_50))))) / 4294967296) t_49 (wrap64 (t_50 + 1)) h0_0 h0_1 h0_2) else none) else (if h2.length < 35184372088832 then (dyad_Num_Add.l0 k x_5 y_6 e_7 (h2 ++ ([((IntKind.u64.wrap (c_9 + (IntKind.u64.wrap ((rd x_5 t_50))))) % 4294967296)] : List Int)) ((IntKind.u64.wrap (c_9 + (IntKind.u64.wrap ((rd x_5 t_50))))) / 4294967296) t_49 (wrap64 (t_50 + 1)) h0_0 h0_1 h0_2) else none)) else none) else none) else (if h2.length < 35184372088832 then ((dyad_trim.f k h0_0 (h2 ++ ([(c_9 % 4294967296)] : List Int)) e_7).bind fun q20 => (some (q20.1, q20.2.1, q20.2.2))) else none))
def dyad_Num_Add.j2 : Nat → List Int → List Int → Int → Bool → Option (Bool × (List Int) × Int)
  | 0, _, _, _, _ => none
  | k + 1, x_5, y_6, e_7, neg_11 => (if 0 ≤ (x_5.length : Int) then (if (x_5.length : Int) ≤ 70368744177664 then (dyad_Num_Add.l1 k x_5 y_6 e_7 neg_11 (List.replicate 0 0) 0 (x_5.length : Int) 0) else none) else none)
def dyad_Num_Add.l1 : Nat → List Int → List Int → Int → Bool → List Int → Int → Int → Int → Option (Bool × (List Int) × Int)
  | 0, _, _, _, _, _, _, _, _ => none
  | k + 1, x_5, y_6, e_7, neg_11, h1, c_13, t_106, t_107 => (if t_107 < t_106 then (if 0 ≤ t_107 then (if t_107 < (x_5.length : Int) then (if t_107 < (y_6.length : Int) then (if h1.length < 35184372088832 then (dyad_Num_Add.l1 k x_5 y_6 e_7 neg_11 (h1 ++ ([((wrap64 ((wrap64 (c_13 + (wrap64 ((rd x_5 t_107))))) - (wrap64 ((rd y_6 t_107))))) % 4294967296)] : List Int)) ((wrap64 ((wrap64 (c_13 + (wrap64 ((rd x_5 t_107))))) - (wrap64 ((rd y_6 t_107))))) / 4294967296) t_106 (wrap64 (t_107 + 1))) else none) else (if h1.length < 35184372088832 then (dyad_Num_Add.l1 k x_5 y_6 e_7 neg_11 (h1 ++ ([((wrap64 (c_13 + (wrap64 ((rd x_5 t_107))))) % 4294967296)] : List Int)) ((wrap64 (c_13 + (wrap64 ((rd x_5 t_107))))) / 4294967296) t_106 (wrap64 (t_107 + 1))) else none)) else none) else none) else ((dyad_trim.f k neg_11 h1 e_7).bind fun q27 => (some (q27.1, q27.2.1, q27.2.2))))
end
def dyad_Num_Add.f (k : Nat) (a0_0 : Bool) (l0_1 : List Int) (a0_2 : Int) (a1_0 : Bool) (l1_1 : List Int) (a1_2 : Int) : Option (Bool × (List Int) × Int) := (if (l0_1.length : Int) = 0 then (some (a1_0, l1_1, a1_2)) else (if (l1_1.length : Int) = 0 then (some (a0_0, l0_1, a0_2)) else ((dyad_line.f k a0_0 l0_1 a0_2 a1_0 l1_1 a1_2).bind fun q3 => (if (a0_0 == a1_0) = true then (if (q3.1.length : Int) < (q3.2.1.length : Int) then (dyad_Num_Add.j0 k q3.2.1 q3.1 q3.2.2 a0_0 l0_1 a0_2) else (dyad_Num_Add.j0 k q3.1 q3.2.1 q3.2.2 a0_0 l0_1 a0_2)) else ((dyad_cmp.f k q3.1 q3.2.1).bind fun q6 => (if q6 = 0 then (some (false, [], 0)) else (if q6 = (-1) then (dyad_Num_Add.j2 k q3.2.1 q3.1 q3.2.2 a1_0) else (dyad_Num_Add.j2 k q3.1 q3.2.1 q3.2.2 a0_0))))))))
def dyad_Num_Add.Q (a0_0 : Bool) (l0_1 : List Int) (a0_2 : Int) (a1_0 : Bool) (l1_1 : List Int) (a1_2 : Int) (r : Bool × (List Int) × Int) : S → Prop := fun s => ∃ τ r', fin E0 Tryd.f20 0 τ s = some (r', []) ∧ r'.ro = (.a [.b r.1, .r (r.2.1.map (V.i .u32)) r.2.1.length true, .i .i64 r.2.2])
mutual
def gimballaw16_BalVectors.j0 : Nat → Int → List Int → Int → List Int → Bool → Option (Bool)
  | 0, _, _, _, _, _ => none
  | k + 1, n_0, all_1, holes_2, v_3, t_32 => (if t_32 = true then (some (true)) else ((gimballaw16_made.f k (Go.bits .and .i64 n_0 7) all_1 holes_2).bind fun q4 => ((bal_Of.f k q4.1 q4.2.1 q4.2.2.1 q4.2.2.2).bind fun q5 => (if q5.2.2.2.2.2.2.2.2 = 0 then (gimballaw16_BalVectors.l0 k (Go.bits .and .i64 n_0 7) v_3 ([] : List Int) 0 q4.1 q4.2.1 q4.2.2.1 q5.1 q5.2.1 q5.2.2.1 q5.2.2.2.2.2.2.1 q5.2.2.2.2.2.2.2.1 q4.2.2.2 q5.2.2.2.1 q5.2.2.2.2.1 q5.2.2.2.2.2.1) else (some (true))))))
def gimballaw16_BalVectors.l0 : Nat → Int → List Int → List Int → Int → Int → Int → Int → Int → Int → Int → Int → Int → List Int → List Int → List Int → List Int → Option (Bool)
  | 0, _, _, _, _, _, _, _, _, _, _, _, _, _, _, _, _ => none
  | k + 1, n_0, v_3, h3, i_14, h0_0, h0_1, h0_2, h1_0, h1_1, h1_2, h2_0, h2_1, h4, h5, h6, h7 => (if i_14 < n_0 then (if (v_3.length : Int) > 0 then (if (v_3.length : Int) = 0 then none else (if 0 ≤ (Int.tmod i_14 (v_3.length : Int)) then (if (Int.tmod i_14 (v_3.length : Int)) < (v_3.length : Int) then ((word_Finite.f (rd v_3 (Int.tmod i_14 (v_3.length : Int)))).bind fun q12 => (if q12 = true then (if h3.length < 17592186044416 then (gimballaw16_BalVectors.l0 k n_0 v_3 (h3 ++ ([(rd v_3 (Int.tmod i_14 (v_3.length : Int)))] : List Int)) (wrap64 (i_14 + 1)) h0_0 h0_1 h0_2 h1_0 h1_1 h1_2 h2_0 h2_1 h4 h5 h6 h7) else none) else (some (true)))) else none) else none)) else ((word_Finite.f 4607182418800017408).bind fun q15 => (if q15 = true then (if h3.length < 17592186044416 then (gimballaw16_BalVectors.l0 k n_0 v_3 (h3 ++ ([4607182418800017408] : List Int)) (wrap64 (i_14 + 1)) h0_0 h0_1 h0_2 h1_0 h1_1 h1_2 h2_0 h2_1 h4 h5 h6 h7) else none) else (some (true))))) else ((bal_Balance_Back.f k h6 h7 h2_0 h2_1 h3 false).bind fun q18 => (if q18.2.2 = 0 then (gimballaw16_BalVectors.j2 k n_0 h3 q18.1 q18.2.2 (q18.2.1 != 0) h0_0 h0_1 h0_2 h1_0 h1_1 h1_2 h4 h5 h6 h7) else (gimballaw16_BalVectors.j2 k n_0 h3 q18.1 q18.2.2 true h0_0 h0_1 h0_2 h1_0 h1_1 h1_2 h4 h5 h6 h7))))
def gimballaw16_BalVectors.j2 : Nat → Int → List Int → List Int → Int → Bool → Int → Int → Int → Int → Int → Int → List Int → List Int → List Int → List Int → Option (Bool)
  | 0, _, _, _, _, _, _, _, _, _, _, _, _, _, _, _ => none
  | k + 1, n_0, h3, h4, g_18, t_82, h0_0, h0_1, h0_2, h1_0, h1_1, h1_2, h5, h6, h7, h8 => (if t_82 = true then (some ((g_18 == 0))) else (gimballaw16_BalVectors.l1 k n_0 h3 h4 0 h0_0 h0_1 h0_2 h1_0 h1_1 h1_2 h5 h6 h7 h8))
def gimballaw16_BalVectors.l1 : Nat → Int → List Int → List Int → Int → Int → Int → Int → Int → Int → Int → List Int → List Int → List Int → List Int → Option (Bool)
  | 0, _, _, _, _, _, _, _, _, _, _, _, _, _, _ => none
  | k + 1, n_0, h3, h4, i_19, h0_0, h0_1, h0_2, h1_0, h1_1, h1_2, h5, h6, h7, h8 => (if i_19 < n_0 then (gimballaw16_BalVectors.l2 k n_0 h3 h4 i_19 0 h0_0 h0_1 h0_2 h1_0 h1_1 h1_2 false [] 0 false [] 0 h5 h6 h7 h8) else (some (true)))
def gimballaw16_BalVectors.l2 : Nat → Int → List Int → List Int → Int → Int → Int → Int → Int → Int → Int → Int → Bool → List Int → Int → Bool → List Int → Int → List Int → List Int → List Int → List Int → Option (Bool)
  | 0, _, _, _, _, _, _, _, _, _, _, _, _, _, _, _, _, _, _, _, _, _ => none
  | k + 1, n_0, h3, h4, i_19, k_22, h0_0, h0_1, h0_2, h1_0, h1_1, h1_2, h5_0, h5_1, h5_2, h6_0, h6_1, h6_2, h7, h8, h9, h10 => (if k_22 < n_0 then ((mat_Matrix_At.f h1_0 h1_1 h1_2 h8 i_19 k_22).bind fun q23 => ((gimballaw16_exact.f k q23).bind fun q24 => (if 0 ≤ k_22 then (if k_22 < (h3.length : Int) then ((gimballaw16_exact.f k (rd h3 k_22)).bind fun q27 => ((dyad_Num_Mul.f k q24.1 q24.2.1 q24.2.2 q27.1 q27.2.1 q27.2.2).bind fun q28 => ((dyad_Num_Add.f k h5_0 h5_1 h5_2 q28.1 q28.2.1 q28.2.2).bind fun q29 => (if 0 ≤ i_19 then (if i_19 < (h9.length : Int) then ((mat_Matrix_At.f h0_0 h0_1 h0_2 h7 (rd h9 i_19) k_22).bind fun q32 => ((gimballaw16_exact.f k q32).bind fun q33 => (if k_22 < (h4.length : Int) then ((gimballaw16_exact.f k (rd h4 k_22)).bind fun q35 => ((dyad_Num_Mul.f k q33.1 q33.2.1 q33.2.2 q35.1 q35.2.1 q35.2.2).bind fun q36 => ((dyad_Num_Add.f k h6_0 h6_1 h6_2 q36.1 q36.2.1 q36.2.2).bind fun q37 => (gimballaw16_BalVectors.l2 k n_0 h3 h4 i_19 (wrap64 (k_22 + 1)) h0_0 h0_1 h0_2 h1_0 h1_1 h1_2 q29.1 q29.2.1 q29.2.2 q37.1 q37.2.1 q37.2.2 h7 h8 h9 h10)))) else none))) else none) else none)))) else none) else none))) else (if 0 ≤ i_19 then (if i_19 < (h10.length : Int) then ((dyad_Two.f (rd h10 i_19)).bind fun q40 => ((dyad_Num_Mul.f k h5_0 h5_1 h5_2 q40.1 q40.2.1 q40.2.2).bind fun q41 => ((dyad_Num_Same.f k q41.1 q41.2.1 q41.2.2 h6_0 h6_1 h6_2).bind fun q42 => (if q42 = true then (gimballaw16_BalVectors.l1 k n_0 h3 h4 (wrap64 (i_19 + 1)) h0_0 h0_1 h0_2 h1_0 h1_1 h1_2 h7 h8 h9 h10) else (some (false)))))) else none) else none))
end
def gimballaw16_BalVectors.f (k : Nat) (a0 : Int) (l1 : List Int) (a2 : Int) (l3 : List Int) : Option (Bool) := ((gimballaw16_head_ok.f).bind fun q1 => (if (l1.length : Int) > 100 then (gimballaw16_BalVectors.j0 k a0 l1 a2 l3 true) else (gimballaw16_BalVectors.j0 k a0 l1 a2 l3 (decide ((l3.length : Int) > 100)))))
def gimballaw16_BalVectors.Q (a0 : Int) (l1 : List Int) (a2 : Int) (l3 : List Int) (r : Bool) : S → Prop := fun s => ∃ τ r', fin E0 Tryd.f4 0 τ s = some (r', []) ∧ r'.ro = (.b r)

theorem zr26 : zeroOf E0.P 26 = .ret [.i .i64 0, .i .i64 0, .i .i64 0, .s none 0] := by kernel_rfl
theorem sz26 : szOf E0.P 26 = .ret 4 := by kernel_rfl
theorem ag26 : aggOf E0.P 26 = .ret true := by kernel_rfl
theorem sz23 : szOf E0.P 23 = .ret 1 := by kernel_rfl
theorem by23 : bytesOf E0.P 23 = .ret 8 := by kernel_rfl
theorem zr23 : zeroOf E0.P 23 = .ret [.i .u64 0] := by kernel_rfl
theorem fa26_0 : FA E0.P 26 0 0 := by exact ⟨_, _, _, rfl, rfl, rfl, rfl⟩
theorem ag3 : aggOf E0.P 3 = .ret false := by kernel_rfl
theorem sz3 : szOf E0.P 3 = .ret 1 := by kernel_rfl
theorem fa26_1 : FA E0.P 26 1 1 := by exact ⟨_, _, _, rfl, rfl, rfl, rfl⟩
theorem fa26_2 : FA E0.P 26 2 2 := by exact ⟨_, _, _, rfl, rfl, rfl, rfl⟩
theorem fa26_3 : FA E0.P 26 3 3 := by exact ⟨_, _, _, rfl, rfl, rfl, rfl⟩
theorem ag22 : aggOf E0.P 22 = .ret false := by kernel_rfl
theorem sz22 : szOf E0.P 22 = .ret 1 := by kernel_rfl
theorem zr31 : zeroOf E0.P 31 = .ret [.s none 0, .s none 0, .i .i64 0, .i .i64 0] := by kernel_rfl
theorem sz31 : szOf E0.P 31 = .ret 4 := by kernel_rfl
theorem ag31 : aggOf E0.P 31 = .ret true := by kernel_rfl
theorem ag23 : aggOf E0.P 23 = .ret false := by kernel_rfl
theorem by3 : bytesOf E0.P 3 = .ret 8 := by kernel_rfl
theorem zr3 : zeroOf E0.P 3 = .ret [.i .i64 0] := by kernel_rfl
theorem fa31_0 : FA E0.P 31 0 0 := by exact ⟨_, _, _, rfl, rfl, rfl, rfl⟩
theorem ag29 : aggOf E0.P 29 = .ret false := by kernel_rfl
theorem sz29 : szOf E0.P 29 = .ret 1 := by kernel_rfl
theorem fa31_3 : FA E0.P 31 3 3 := by exact ⟨_, _, _, rfl, rfl, rfl, rfl⟩
theorem fa31_2 : FA E0.P 31 2 2 := by exact ⟨_, _, _, rfl, rfl, rfl, rfl⟩
theorem zr75 : zeroOf E0.P 75 = .ret [.i .u8 0] := by kernel_rfl
theorem zr83 : zeroOf E0.P 83 = .ret [.i .u64 0, .i .u64 0] := by kernel_rfl
theorem ag83 : aggOf E0.P 83 = .ret true := by kernel_rfl
theorem sz83 : szOf E0.P 83 = .ret 2 := by kernel_rfl
theorem fa83_1 : FA E0.P 83 1 1 := by exact ⟨_, _, _, rfl, rfl, rfl, rfl⟩
theorem fa83_0 : FA E0.P 83 0 0 := by exact ⟨_, _, _, rfl, rfl, rfl, rfl⟩
theorem eqs83 : ∀ (x0 y0 : Int) (x1 y1 : Int), sameV E0.P 83 (.a [.i .u64 x0, .i .u64 x1]) (.a [.i .u64 y0, .i .u64 y1]) = some (x0 == y0 && (x1 == y1 && true)) := by intros; kernel_rfl
theorem fa75_0 : FA E0.P 75 0 0 := by exact ⟨_, _, _, rfl, rfl, rfl, rfl⟩
theorem ag49 : aggOf E0.P 49 = .ret false := by kernel_rfl
theorem sz49 : szOf E0.P 49 = .ret 1 := by kernel_rfl
theorem fa31_1 : FA E0.P 31 1 1 := by exact ⟨_, _, _, rfl, rfl, rfl, rfl⟩
theorem zr39 : zeroOf E0.P 39 = .ret [.b false, .s none 0, .i .i64 0] := by kernel_rfl
theorem sz67 : szOf E0.P 67 = .ret 1 := by kernel_rfl
theorem zr67 : zeroOf E0.P 67 = .ret [.i .u32 0] := by kernel_rfl
theorem ag67 : aggOf E0.P 67 = .ret false := by kernel_rfl
theorem sz39 : szOf E0.P 39 = .ret 3 := by kernel_rfl
theorem ag39 : aggOf E0.P 39 = .ret true := by kernel_rfl
theorem sz5 : szOf E0.P 5 = .ret 1 := by kernel_rfl
theorem ag5 : aggOf E0.P 5 = .ret false := by kernel_rfl
theorem by67 : bytesOf E0.P 67 = .ret 4 := by kernel_rfl
theorem fa39_1 : FA E0.P 39 1 1 := by exact ⟨_, _, _, rfl, rfl, rfl, rfl⟩
theorem ag37 : aggOf E0.P 37 = .ret false := by kernel_rfl
theorem sz37 : szOf E0.P 37 = .ret 1 := by kernel_rfl
theorem fa39_0 : FA E0.P 39 0 0 := by exact ⟨_, _, _, rfl, rfl, rfl, rfl⟩
theorem ag4 : aggOf E0.P 4 = .ret false := by kernel_rfl
theorem sz4 : szOf E0.P 4 = .ret 1 := by kernel_rfl
theorem fa39_2 : FA E0.P 39 2 2 := by exact ⟨_, _, _, rfl, rfl, rfl, rfl⟩

set_option maxHeartbeats 8000000 in
set_option maxRecDepth 100000 in
theorem mat_Matrix_in.does {a0_0 : Int} {a0_1 : Int} {a0_2 : Int} {l0_3 : List Int} {a1 : Int} {a2 : Int} {r : Bool} (H : mat_Matrix_in.f a0_0 a0_1 a0_2 l0_3 a1 a2 = some r) : Do E0 (.fn 29 [.a [.i .i64 a0_0, .i .i64 a0_1, .i .i64 a0_2, .r (l0_3.map (V.i .u64)) l0_3.length true], .i .i64 a1, .i .i64 a2] [] (.b r) []) := by
  refine fn_wpl Tryd.func29 rfl (Q := (mat_Matrix_in.Q a0_0 a0_1 a0_2 l0_3 a1 a2 r)) (fun s h => h) ?_
  unfold mat_Matrix_in.f at H
  simp only [Tryd.ntmps29, List.length, List.replicate, Nat.reduceAdd, Nat.reduceSub, List.cons_append, List.nil_append]
  refine w_seq ?_
  refine wR fun K hK => ?_
  refine g_box rfl rfl rfl (by rfl) (gU ?_)
  refine g_as rfl rfl (gT ?_)
  refine g_nil (hK _ _ _ ?_)
  refine k_seq ?_
  refine w_seq ?_
  refine wR fun K hK => ?_
  refine g_mv rfl rfl (gT ?_)
  refine g_bin rfl rfl rfl rfl rfl (gT ?_)
  refine g_mv rfl rfl (gT ?_)
  rcases its H with ⟨c1, H⟩ | ⟨c1, H⟩
  · have c1b := decide_eq_true c1; try simp only [c1b, nrm]
    refine g_mv rfl rfl (gT ?_)
    refine g_fd rfl rfl fa26_0 rfl (gT ?_)
    refine g_ldc rfl rfl ag3 sz3 rfl rfl rfl (gT ?_)
    refine g_bin rfl rfl rfl rfl rfl (gT ?_)
    refine g_pick rfl rfl rfl (gT ?_)
    refine g_mv rfl rfl (gT ?_)
    rcases its H with ⟨c2, H⟩ | ⟨c2, H⟩
    · have c2b := decide_eq_true c2; try simp only [c2b, nrm]
      refine g_mv rfl rfl (gT ?_)
      refine g_bin rfl rfl rfl rfl rfl (gT ?_)
      refine g_pick rfl rfl rfl (gT ?_)
      refine g_mv rfl rfl (gT ?_)
      rcases its H with ⟨c3, H⟩ | ⟨c3, H⟩
      · have c3b := decide_eq_true c3; try simp only [c3b, nrm]
        refine g_mv rfl rfl (gT ?_)
        refine g_fd rfl rfl fa26_1 rfl (gT ?_)
        refine g_ldc rfl rfl ag3 sz3 rfl rfl rfl (gT ?_)
        refine g_bin rfl rfl rfl rfl rfl (gT ?_)
        refine g_pick rfl rfl rfl (gT ?_)
        refine g_mv rfl rfl (gT ?_)
        rcases its H with ⟨c4, H⟩ | ⟨c4, H⟩
        · have c4b := decide_eq_true c4; try simp only [c4b, nrm]
          refine g_fd rfl rfl fa26_2 rfl (gT ?_)
          refine g_ldc rfl rfl ag3 sz3 rfl rfl rfl (gT ?_)
          refine g_bin rfl rfl rfl rfl rfl (gT ?_)
          refine g_pick rfl rfl rfl (gT ?_)
          refine g_mv rfl rfl (gT ?_)
          rcases its H with ⟨c5, H⟩ | ⟨c5, H⟩
          · have c5b := decide_eq_true c5; try simp only [c5b, nrm]
            refine g_mv rfl rfl (gT ?_)
            refine g_fd rfl rfl fa26_2 rfl (gT ?_)
            refine g_ldc rfl rfl ag3 sz3 rfl rfl rfl (gT ?_)
            refine g_bin rfl rfl rfl rfl rfl (gT ?_)
            refine g_mv rfl rfl (gT ?_)
            refine g_bin rfl rfl rfl rfl rfl (gT ?_)
            refine g_fd rfl rfl fa26_3 rfl (gT ?_)
            refine g_ldc rfl rfl ag22 sz22 rfl rfl rfl (gT ?_)
            refine g_len_r rfl rfl Tryd.underlying22 rfl (gT ?_)
            refine g_bin rfl rfl rfl rfl rfl (gT ?_)
            refine g_pick rfl rfl rfl (gT ?_)
            refine g_as rfl rfl (gT ?_)
            refine g_nil (hK _ _ _ ?_)
            refine k_seq ?_
            refine w_ret ?_
            refine fin_wp (τ := []) rfl (by decide) ?_; rw [← Option.some.inj H]; simp only [Tryd.f29]; exact gF
          · have c5b := decide_eq_false c5; try simp only [c5b, nrm]
            refine g_sk rfl rfl (gT ?_)
            refine g_sk rfl rfl (gT ?_)
            refine g_sk rfl rfl (gT ?_)
            refine g_sk rfl rfl (gT ?_)
            refine g_sk rfl rfl (gT ?_)
            refine g_sk rfl rfl (gT ?_)
            refine g_sk rfl rfl (gT ?_)
            refine g_sk rfl rfl (gT ?_)
            refine g_sk rfl rfl (gT ?_)
            refine g_sk rfl rfl (gT ?_)
            refine g_pick rfl rfl rfl (gT ?_)
            refine g_as rfl rfl (gT ?_)
            refine g_nil (hK _ _ _ ?_)
            refine k_seq ?_
            refine w_ret ?_
            refine fin_wp (τ := []) rfl (by decide) ?_; rw [← Option.some.inj H]; simp only [Tryd.f29]; exact gF
        · have c4b := decide_eq_false c4; try simp only [c4b, nrm]
          refine g_sk rfl rfl (gT ?_)
          refine g_sk rfl rfl (gT ?_)
          refine g_sk rfl rfl (gT ?_)
          refine g_pick rfl rfl rfl (gT ?_)
          refine g_mv rfl rfl (gT ?_)
          refine g_sk rfl rfl (gT ?_)
          refine g_sk rfl rfl (gT ?_)
          refine g_sk rfl rfl (gT ?_)
          refine g_sk rfl rfl (gT ?_)
          refine g_sk rfl rfl (gT ?_)
          refine g_sk rfl rfl (gT ?_)
          refine g_sk rfl rfl (gT ?_)
          refine g_sk rfl rfl (gT ?_)
          refine g_sk rfl rfl (gT ?_)
          refine g_sk rfl rfl (gT ?_)
          refine g_pick rfl rfl rfl (gT ?_)
          refine g_as rfl rfl (gT ?_)
          refine g_nil (hK _ _ _ ?_)
          refine k_seq ?_
          refine w_ret ?_
          refine fin_wp (τ := []) rfl (by decide) ?_; rw [← Option.some.inj H]; simp only [Tryd.f29]; exact gF
      · have c3b := decide_eq_false c3; try simp only [c3b, nrm]
        refine g_sk rfl rfl (gT ?_)
        refine g_sk rfl rfl (gT ?_)
        refine g_sk rfl rfl (gT ?_)
        refine g_sk rfl rfl (gT ?_)
        refine g_pick rfl rfl rfl (gT ?_)
        refine g_mv rfl rfl (gT ?_)
        refine g_sk rfl rfl (gT ?_)
        refine g_sk rfl rfl (gT ?_)
        refine g_sk rfl rfl (gT ?_)
        refine g_pick rfl rfl rfl (gT ?_)
        refine g_mv rfl rfl (gT ?_)
        refine g_sk rfl rfl (gT ?_)
        refine g_sk rfl rfl (gT ?_)
        refine g_sk rfl rfl (gT ?_)
        refine g_sk rfl rfl (gT ?_)
        refine g_sk rfl rfl (gT ?_)
        refine g_sk rfl rfl (gT ?_)
        refine g_sk rfl rfl (gT ?_)
        refine g_sk rfl rfl (gT ?_)
        refine g_sk rfl rfl (gT ?_)
        refine g_sk rfl rfl (gT ?_)
        refine g_pick rfl rfl rfl (gT ?_)
        refine g_as rfl rfl (gT ?_)
        refine g_nil (hK _ _ _ ?_)
        refine k_seq ?_
        refine w_ret ?_
        refine fin_wp (τ := []) rfl (by decide) ?_; rw [← Option.some.inj H]; simp only [Tryd.f29]; exact gF
    · have c2b := decide_eq_false c2; try simp only [c2b, nrm]
      refine g_sk rfl rfl (gT ?_)
      refine g_sk rfl rfl (gT ?_)
      refine g_pick rfl rfl rfl (gT ?_)
      refine g_mv rfl rfl (gT ?_)
      refine g_sk rfl rfl (gT ?_)
      refine g_sk rfl rfl (gT ?_)
      refine g_sk rfl rfl (gT ?_)
      refine g_sk rfl rfl (gT ?_)
      refine g_pick rfl rfl rfl (gT ?_)
      refine g_mv rfl rfl (gT ?_)
      refine g_sk rfl rfl (gT ?_)
      refine g_sk rfl rfl (gT ?_)
      refine g_sk rfl rfl (gT ?_)
      refine g_pick rfl rfl rfl (gT ?_)
      refine g_mv rfl rfl (gT ?_)
      refine g_sk rfl rfl (gT ?_)
      refine g_sk rfl rfl (gT ?_)
      refine g_sk rfl rfl (gT ?_)
      refine g_sk rfl rfl (gT ?_)
      refine g_sk rfl rfl (gT ?_)
      refine g_sk rfl rfl (gT ?_)
      refine g_sk rfl rfl (gT ?_)
      refine g_sk rfl rfl (gT ?_)
      refine g_sk rfl rfl (gT ?_)
      refine g_sk rfl rfl (gT ?_)
      refine g_pick rfl rfl rfl (gT ?_)
      refine g_as rfl rfl (gT ?_)
      refine g_nil (hK _ _ _ ?_)
      refine k_seq ?_
      refine w_ret ?_
      refine fin_wp (τ := []) rfl (by decide) ?_; rw [← Option.some.inj H]; simp only [Tryd.f29]; exact gF
  · have c1b := decide_eq_false c1; try simp only [c1b, nrm]
    refine g_sk rfl rfl (gT ?_)
    refine g_sk rfl rfl (gT ?_)
    refine g_sk rfl rfl (gT ?_)
    refine g_sk rfl rfl (gT ?_)
    refine g_pick rfl rfl rfl (gT ?_)
    refine g_mv rfl rfl (gT ?_)
    refine g_sk rfl rfl (gT ?_)
    refine g_sk rfl rfl (gT ?_)
    refine g_pick rfl rfl rfl (gT ?_)
    refine g_mv rfl rfl (gT ?_)
    refine g_sk rfl rfl (gT ?_)
    refine g_sk rfl rfl (gT ?_)
    refine g_sk rfl rfl (gT ?_)
    refine g_sk rfl rfl (gT ?_)
    refine g_pick rfl rfl rfl (gT ?_)
    refine g_mv rfl rfl (gT ?_)
    refine g_sk rfl rfl (gT ?_)
    refine g_sk rfl rfl (gT ?_)
    refine g_sk rfl rfl (gT ?_)
    refine g_pick rfl rfl rfl (gT ?_)
    refine g_mv rfl rfl (gT ?_)
    refine g_sk rfl rfl (gT ?_)
    refine g_sk rfl rfl (gT ?_)
    refine g_sk rfl rfl (gT ?_)
    refine g_sk rfl rfl (gT ?_)
    refine g_sk rfl rfl (gT ?_)
    refine g_sk rfl rfl (gT ?_)
    refine g_sk rfl rfl (gT ?_)
    refine g_sk rfl rfl (gT ?_)
    refine g_sk rfl rfl (gT ?_)
    refine g_sk rfl rfl (gT ?_)
    refine g_pick rfl rfl rfl (gT ?_)
    refine g_as rfl rfl (gT ?_)
    refine g_nil (hK _ _ _ ?_)
    refine k_seq ?_
    refine w_ret ?_
    refine fin_wp (τ := []) rfl (by decide) ?_; rw [← Option.some.inj H]; simp only [Tryd.f29]; exact gF

theorem mat_Matrix_Set.len {a0_0 : Int} {a0_1 : Int} {a0_2 : Int} {l0_3 : List Int} {a1 : Int} {a2 : Int} {a3 : Int} {r : (List Int)} (H : mat_Matrix_Set.f a0_0 a0_1 a0_2 l0_3 a1 a2 a3 = some r) : r.length = l0_3.length := by
  unfold mat_Matrix_Set.f at H
  obtain ⟨q1, hq1, H⟩ := bnd H
  rcases its H with ⟨c2, H⟩ | ⟨c2, H⟩
  · skip
    obtain ⟨c3, H⟩ := it1 H
    obtain ⟨c4, H⟩ := it1 H
    have hr_ := Option.some.inj H; clear H; subst hr_; (repeat' apply And.intro) <;> first | rfl | omega | (simp only [List.length_set, cpy_len]; done) | (simp only [List.length_set, cpy_len]; omega)
  · skip
    have hr_ := Option.some.inj H; clear H; subst hr_; (repeat' apply And.intro) <;> first | rfl | omega | (simp only [List.length_set, cpy_len]; done) | (simp only [List.length_set, cpy_len]; omega)
set_option maxHeartbeats 8000000 in
set_option maxRecDepth 100000 in
theorem mat_Matrix_Set.does {a0_0 : Int} {a0_1 : Int} {a0_2 : Int} {l0_3 : List Int} {a1 : Int} {a2 : Int} {a3 : Int} {r : (List Int)} (H : mat_Matrix_Set.f a0_0 a0_1 a0_2 l0_3 a1 a2 a3 = some r) : Do E0 (.fn 22 [.a [.i .i64 a0_0, .i .i64 a0_1, .i .i64 a0_2, .s (some (0, 0)) l0_3.length], .i .i64 a1, .i .i64 a2, .i .u64 a3] [.row (l0_3.map (V.i .u64)) 2 1 true false none] (.t []) [.row (r.map (V.i .u64)) 2 1 true false none]) := by
  refine fn_wpl Tryd.func22 rfl (Q := (mat_Matrix_Set.Q a0_0 a0_1 a0_2 l0_3 a1 a2 a3 r)) (fun s h => h) ?_
  unfold mat_Matrix_Set.f at H
  simp only [Tryd.ntmps22, List.length, List.replicate, Nat.reduceAdd, Nat.reduceSub, List.cons_append, List.nil_append]
  refine w_seq ?_
  refine wR fun K hK => ?_
  refine g_box rfl rfl rfl (by rfl) (gU ?_)
  refine g_nil (hK _ _ _ ?_)
  refine k_seq ?_
  refine w_seq ?_
  refine wR fun K hK => ?_
  refine g_lda rfl rfl ag26 sz26 rfl rfl (Nat.le_of_ble_eq_true rfl) (gT ?_)
  refine g_mv rfl rfl (gT ?_)
  refine g_mv rfl rfl (gT ?_)
  obtain ⟨q1, hq1, H⟩ := bnd H
  refine g_cs [] rfl rfl (by rfl) Tryd.func29 rfl (by decide) (mat_Matrix_in.does hq1) ⟨Nat.le_of_ble_eq_true rfl, Nat.le_of_ble_eq_true rfl⟩ ?_; refine gC ?_
  refine g_nil (hK _ _ _ ?_)
  refine k_seq ?_
  rcases its H with ⟨c2, H⟩ | ⟨c2, H⟩
  · have c2b : q1 = true := c2; try simp only [c2b, nrm]
    refine w_cond rfl (fun _ => ?_) (fun h => Bool.noConfusion h)
    refine wR fun K hK => ?_
    refine g_fd rfl rfl fa26_3 rfl (gT ?_)
    refine g_ldc rfl rfl ag22 sz22 rfl rfl rfl (gT ?_)
    refine g_mv rfl rfl (gT ?_)
    refine g_fd rfl rfl fa26_2 rfl (gT ?_)
    refine g_ldc rfl rfl ag3 sz3 rfl rfl rfl (gT ?_)
    refine g_bin rfl rfl rfl rfl rfl (gT ?_)
    refine g_mv rfl rfl (gT ?_)
    refine g_bin rfl rfl rfl rfl rfl (gT ?_)
    refine g_mv rfl rfl (gT ?_)
    obtain ⟨c3, H⟩ := it1 H
    obtain ⟨c4, H⟩ := it1 H
    refine g_ixo rfl rfl Tryd.underlying22 sz23 rfl rfl (by first | assumption | omega) (by first | assumption | omega | (simp only [List.length_set, List.length_replicate] at *; omega)) (gT ?_)
    refine g_st rfl rfl sz23 rfl rfl rfl (by rfl) (by simp only [List.length_map, List.length_set, List.length_replicate]; first | assumption | omega) (gU ?_)
    refine g_nil (hK _ _ _ ?_)
    refine k_nil (.inl rfl) ?_
    refine fin_wp (τ := [0]) rfl (by decide) ?_; rw [← Option.some.inj H]; simp only [Tryd.f22]; exact gF
  · have c2b : q1 = false := Bool.eq_false_iff.mpr c2; try simp only [c2b, nrm]
    refine w_cond rfl (fun h => Bool.noConfusion h) (fun _ => ?_)
    refine w_skip ?_
    refine k_nil (.inl rfl) ?_
    refine fin_wp (τ := [0]) rfl (by decide) ?_; rw [← Option.some.inj H]; simp only [Tryd.f22]; exact gF

set_option maxHeartbeats 8000000 in
set_option maxRecDepth 100000 in
theorem mat_New.does {a0 : Int} {a1 : Int} {r : Int × Int × Int × (List Int)} (H : mat_New.f a0 a1 = some r) : Do E0 (.fn 18 [.i .i64 a0, .i .i64 a1] [] (.a [.i .i64 r.1, .i .i64 r.2.1, .i .i64 r.2.2.1, .s (some (0, 0)) r.2.2.2.length]) [.row (r.2.2.2.map (V.i .u64)) 2 1 true true none]) := by
  refine fn_wpl Tryd.func18 rfl (Q := (mat_New.Q a0 a1 r)) (fun s h => h) ?_
  unfold mat_New.f at H
  simp only [Tryd.ntmps18, List.length, List.replicate, Nat.reduceAdd, Nat.reduceSub, List.cons_append, List.nil_append]
  refine w_seq ?_
  refine wR fun K hK => ?_
  refine g_alloc rfl rfl zr26 (gU ?_)
  refine g_nil (hK _ _ _ ?_)
  refine k_seq ?_
  refine w_seq ?_
  refine w_seq ?_
  refine wR fun K hK => ?_
  refine g_mv rfl rfl (gT ?_)
  refine g_bin rfl rfl rfl rfl rfl (gT ?_)
  refine g_mv rfl rfl (gT ?_)
  rcases its H with ⟨c1, H⟩ | ⟨c1, H⟩
  · have c1b := decide_eq_true c1; try simp only [c1b, nrm]
    refine g_sk rfl rfl (gT ?_)
    refine g_sk rfl rfl (gT ?_)
    refine g_pick rfl rfl rfl (gT ?_)
    refine g_mv rfl rfl (gT ?_)
    refine g_sk rfl rfl (gT ?_)
    refine g_sk rfl rfl (gT ?_)
    refine g_pick rfl rfl rfl (gT ?_)
    refine g_mv rfl rfl (gT ?_)
    refine g_sk rfl rfl (gT ?_)
    refine g_sk rfl rfl (gT ?_)
    refine g_pick rfl rfl rfl (gT ?_)
    refine g_nil (hK _ _ _ ?_)
    refine k_seq ?_
    refine w_cond rfl (fun _ => ?_) (fun h => Bool.noConfusion h)
    refine w_seq ?_
    refine wR fun K hK => ?_
    refine g_bd rfl rfl zr26 Tryd.underlying26 (pl := [(0, 1), (1, 1), (2, 1), (3, 1)]) (by kernel_rfl) ?_; refine gB ?_
    refine g_st rfl rfl sz26 rfl rfl rfl (by rfl) (Nat.le_of_ble_eq_true rfl) (gU ?_)
    refine g_nil (hK _ _ _ ?_)
    refine k_seq ?_
    refine w_less (.cell 0 3 2 1 rfl rfl) ?_; simp only [nrmx, nrm, List.set_cons_zero, List.set_cons_succ, Nat.reduceAdd]
    refine w_ret ?_
    refine fin_wp (τ := [68]) rfl (by decide) ?_; rw [← Option.some.inj H]; simp only [Tryd.f18, ag26, sz26, nrm, nrmw, nrmc, nrme, nrmo, nrml, nrmb, nrmx, Nat.reduceEqDiff, Nat.reduceBEq, Nat.zero_add, Nat.add_zero, Nat.mul_one, List.length_cons, List.length_nil, List.length_map, List.length_set, List.length_replicate, List.drop_zero, List.drop_succ_cons, List.drop_nil, List.take_zero, List.take_succ_cons, List.take_nil, Nat.le_refl, if_true, if_false, Option.any_none, Option.any_some, List.contains_nil, Bool.not_false, Bool.or_true, Bool.true_or, Bool.or_false, Bool.false_or, Bool.and_true, Bool.true_and, Bool.and_self, reduceCtorEq, beq_self_eq_true, List.map_cons, List.map_nil, List.append_nil, List.nil_append, List.contains_cons, List.filter_cons, List.filter_nil, List.cons_append, Bool.false_eq_true, true_and, and_true, List.getElem_toArray, List.getElem_cons_zero, List.getElem_cons_succ, Nat.reduceAdd, Nat.reduceMul, Nat.reduceLT, Nat.reduceSub, Nat.reduceLeDiff]; try (first | rfl | exact ⟨rfl, trivial⟩ | exact ⟨rfl, rfl⟩)
  · have c1b := decide_eq_false c1; try simp only [c1b, nrm]
    refine g_mv rfl rfl (gT ?_)
    refine g_bin rfl rfl rfl rfl rfl (gT ?_)
    refine g_pick rfl rfl rfl (gT ?_)
    refine g_mv rfl rfl (gT ?_)
    rcases its H with ⟨c2, H⟩ | ⟨c2, H⟩
    · have c2b := decide_eq_true c2; try simp only [c2b, nrm]
      refine g_sk rfl rfl (gT ?_)
      refine g_sk rfl rfl (gT ?_)
      refine g_pick rfl rfl rfl (gT ?_)
      refine g_mv rfl rfl (gT ?_)
      refine g_sk rfl rfl (gT ?_)
      refine g_sk rfl rfl (gT ?_)
      refine g_pick rfl rfl rfl (gT ?_)
      refine g_nil (hK _ _ _ ?_)
      refine k_seq ?_
      refine w_cond rfl (fun _ => ?_) (fun h => Bool.noConfusion h)
      refine w_seq ?_
      refine wR fun K hK => ?_
      refine g_bd rfl rfl zr26 Tryd.underlying26 (pl := [(0, 1), (1, 1), (2, 1), (3, 1)]) (by kernel_rfl) ?_; refine gB ?_
      refine g_st rfl rfl sz26 rfl rfl rfl (by rfl) (Nat.le_of_ble_eq_true rfl) (gU ?_)
      refine g_nil (hK _ _ _ ?_)
      refine k_seq ?_
      refine w_less (.cell 0 3 2 1 rfl rfl) ?_; simp only [nrmx, nrm, List.set_cons_zero, List.set_cons_succ, Nat.reduceAdd]
      refine w_ret ?_
      refine fin_wp (τ := [68]) rfl (by decide) ?_; rw [← Option.some.inj H]; simp only [Tryd.f18, ag26, sz26, nrm, nrmw, nrmc, nrme, nrmo, nrml, nrmb, nrmx, Nat.reduceEqDiff, Nat.reduceBEq, Nat.zero_add, Nat.add_zero, Nat.mul_one, List.length_cons, List.length_nil, List.length_map, List.length_set, List.length_replicate, List.drop_zero, List.drop_succ_cons, List.drop_nil, List.take_zero, List.take_succ_cons, List.take_nil, Nat.le_refl, if_true, if_false, Option.any_none, Option.any_some, List.contains_nil, Bool.not_false, Bool.or_true, Bool.true_or, Bool.or_false, Bool.false_or, Bool.and_true, Bool.true_and, Bool.and_self, reduceCtorEq, beq_self_eq_true, List.map_cons, List.map_nil, List.append_nil, List.nil_append, List.contains_cons, List.filter_cons, List.filter_nil, List.cons_append, Bool.false_eq_true, true_and, and_true, List.getElem_toArray, List.getElem_cons_zero, List.getElem_cons_succ, Nat.reduceAdd, Nat.reduceMul, Nat.reduceLT, Nat.reduceSub, Nat.reduceLeDiff]; try (first | rfl | exact ⟨rfl, trivial⟩ | exact ⟨rfl, rfl⟩)
    · have c2b := decide_eq_false c2; try simp only [c2b, nrm]
      refine g_mv rfl rfl (gT ?_)
      refine g_bin rfl rfl rfl rfl rfl (gT ?_)
      refine g_pick rfl rfl rfl (gT ?_)
      refine g_mv rfl rfl (gT ?_)
      rcases its H with ⟨c3, H⟩ | ⟨c3, H⟩
      · have c3b := decide_eq_true c3; try simp only [c3b, nrm]
        refine g_sk rfl rfl (gT ?_)
        refine g_sk rfl rfl (gT ?_)
        refine g_pick rfl rfl rfl (gT ?_)
        refine g_nil (hK _ _ _ ?_)
        refine k_seq ?_
        refine w_cond rfl (fun _ => ?_) (fun h => Bool.noConfusion h)
        refine w_seq ?_
        refine wR fun K hK => ?_
        refine g_bd rfl rfl zr26 Tryd.underlying26 (pl := [(0, 1), (1, 1), (2, 1), (3, 1)]) (by kernel_rfl) ?_; refine gB ?_
        refine g_st rfl rfl sz26 rfl rfl rfl (by rfl) (Nat.le_of_ble_eq_true rfl) (gU ?_)
        refine g_nil (hK _ _ _ ?_)
        refine k_seq ?_
        refine w_less (.cell 0 3 2 1 rfl rfl) ?_; simp only [nrmx, nrm, List.set_cons_zero, List.set_cons_succ, Nat.reduceAdd]
        refine w_ret ?_
        refine fin_wp (τ := [68]) rfl (by decide) ?_; rw [← Option.some.inj H]; simp only [Tryd.f18, ag26, sz26, nrm, nrmw, nrmc, nrme, nrmo, nrml, nrmb, nrmx, Nat.reduceEqDiff, Nat.reduceBEq, Nat.zero_add, Nat.add_zero, Nat.mul_one, List.length_cons, List.length_nil, List.length_map, List.length_set, List.length_replicate, List.drop_zero, List.drop_succ_cons, List.drop_nil, List.take_zero, List.take_succ_cons, List.take_nil, Nat.le_refl, if_true, if_false, Option.any_none, Option.any_some, List.contains_nil, Bool.not_false, Bool.or_true, Bool.true_or, Bool.or_false, Bool.false_or, Bool.and_true, Bool.true_and, Bool.and_self, reduceCtorEq, beq_self_eq_true, List.map_cons, List.map_nil, List.append_nil, List.nil_append, List.contains_cons, List.filter_cons, List.filter_nil, List.cons_append, Bool.false_eq_true, true_and, and_true, List.getElem_toArray, List.getElem_cons_zero, List.getElem_cons_succ, Nat.reduceAdd, Nat.reduceMul, Nat.reduceLT, Nat.reduceSub, Nat.reduceLeDiff]; try (first | rfl | exact ⟨rfl, trivial⟩ | exact ⟨rfl, rfl⟩)
      · have c3b := decide_eq_false c3; try simp only [c3b, nrm]
        refine g_mv rfl rfl (gT ?_)
        refine g_bin rfl rfl rfl rfl rfl (gT ?_)
        refine g_pick rfl rfl rfl (gT ?_)
        refine g_nil (hK _ _ _ ?_)
        refine k_seq ?_
        rcases its H with ⟨c4, H⟩ | ⟨c4, H⟩
        · have c4b := decide_eq_true c4; try simp only [c4b, nrm]
          refine w_cond rfl (fun _ => ?_) (fun h => Bool.noConfusion h)
          refine w_seq ?_
          refine wR fun K hK => ?_
          refine g_bd rfl rfl zr26 Tryd.underlying26 (pl := [(0, 1), (1, 1), (2, 1), (3, 1)]) (by kernel_rfl) ?_; refine gB ?_
          refine g_st rfl rfl sz26 rfl rfl rfl (by rfl) (Nat.le_of_ble_eq_true rfl) (gU ?_)
          refine g_nil (hK _ _ _ ?_)
          refine k_seq ?_
          refine w_less (.cell 0 3 2 1 rfl rfl) ?_; simp only [nrmx, nrm, List.set_cons_zero, List.set_cons_succ, Nat.reduceAdd]
          refine w_ret ?_
          refine fin_wp (τ := [68]) rfl (by decide) ?_; rw [← Option.some.inj H]; simp only [Tryd.f18, ag26, sz26, nrm, nrmw, nrmc, nrme, nrmo, nrml, nrmb, nrmx, Nat.reduceEqDiff, Nat.reduceBEq, Nat.zero_add, Nat.add_zero, Nat.mul_one, List.length_cons, List.length_nil, List.length_map, List.length_set, List.length_replicate, List.drop_zero, List.drop_succ_cons, List.drop_nil, List.take_zero, List.take_succ_cons, List.take_nil, Nat.le_refl, if_true, if_false, Option.any_none, Option.any_some, List.contains_nil, Bool.not_false, Bool.or_true, Bool.true_or, Bool.or_false, Bool.false_or, Bool.and_true, Bool.true_and, Bool.and_self, reduceCtorEq, beq_self_eq_true, List.map_cons, List.map_nil, List.append_nil, List.nil_append, List.contains_cons, List.filter_cons, List.filter_nil, List.cons_append, Bool.false_eq_true, true_and, and_true, List.getElem_toArray, List.getElem_cons_zero, List.getElem_cons_succ, Nat.reduceAdd, Nat.reduceMul, Nat.reduceLT, Nat.reduceSub, Nat.reduceLeDiff]; try (first | rfl | exact ⟨rfl, trivial⟩ | exact ⟨rfl, rfl⟩)
        · have c4b := decide_eq_false c4; try simp only [c4b, nrm]
          refine w_cond rfl (fun h => Bool.noConfusion h) (fun _ => ?_)
          refine w_skip ?_
          refine k_seq ?_
          refine w_seq ?_
          refine wR fun K hK => ?_
          refine g_mv rfl rfl (gT ?_)
          refine g_mv rfl rfl (gT ?_)
          refine g_mv rfl rfl (gT ?_)
          refine g_mv rfl rfl (gT ?_)
          refine g_mv rfl rfl (gT ?_)
          refine g_bin rfl rfl rfl rfl rfl (gT ?_)
          obtain ⟨c5, H⟩ := it1 H
          obtain ⟨c6, H⟩ := it1 H
          refine g_mk rfl rfl Tryd.underlying22 sz23 by23 zr23 rfl rfl rfl (by first | assumption | omega) (by omega) (by unfold limit; omega) (by omega) (gU ?_)
          refine g_bd rfl rfl zr26 Tryd.underlying26 (pl := [(0, 1), (1, 1), (2, 1), (3, 1)]) (by kernel_rfl) ?_; refine gB ?_
          refine g_st rfl rfl sz26 rfl rfl rfl (by rfl) (Nat.le_of_ble_eq_true rfl) (gU ?_)
          refine g_nil (hK _ _ _ ?_)
          refine k_seq ?_
          refine w_ret ?_
          refine fin_wp (τ := [84]) rfl (by decide) ?_; rw [← Option.some.inj H]; simp only [Tryd.f18, ag26, sz26, nrm, nrmw, nrmc, nrme, nrmo, nrml, nrmb, nrmx, Nat.reduceEqDiff, Nat.reduceBEq, Nat.zero_add, Nat.add_zero, Nat.mul_one, List.length_cons, List.length_nil, List.length_map, List.length_set, List.length_replicate, List.drop_zero, List.drop_succ_cons, List.drop_nil, List.take_zero, List.take_succ_cons, List.take_nil, Nat.le_refl, if_true, if_false, Option.any_none, Option.any_some, List.contains_nil, Bool.not_false, Bool.or_true, Bool.true_or, Bool.or_false, Bool.false_or, Bool.and_true, Bool.true_and, Bool.and_self, reduceCtorEq, beq_self_eq_true, List.map_cons, List.map_nil, List.append_nil, List.nil_append, List.contains_cons, List.filter_cons, List.filter_nil, List.cons_append, Bool.false_eq_true, true_and, and_true, List.getElem_toArray, List.getElem_cons_zero, List.getElem_cons_succ, Nat.reduceAdd, Nat.reduceMul, Nat.reduceLT, Nat.reduceSub, Nat.reduceLeDiff]; try (first | rfl | exact ⟨rfl, trivial⟩ | exact ⟨rfl, rfl⟩)

set_option maxHeartbeats 8000000 in
set_option maxRecDepth 100000 in
theorem mat_One.does_l {a0 : Int} (k : Nat) : (∀ (t_9 : Int) (t_10 : Int) (h0_0 : Int) (h0_1 : Int) (h0_2 : Int) (h1_0 : Int) (h1_1 : Int) (h1_2 : Int) (h2 : List Int) (r : Int × Int × Int × (List Int)), mat_One.l0 k t_9 t_10 h1_0 h1_1 h1_2 h2 = some r → wk_ E0 (mat_One.Q a0 r) (frs (bodyOf Tryd.f21) [1, 1, 0, 1, 0] []) (sub (bodyOf Tryd.f21) [1, 1, 0, 1, 0]) ⟨[.u, .u, .p (some (0, 0)), .p (some (1, 0)), .u, .u, .u, .u, .u, .i .i64 t_9, .i .i64 t_10, .u, .u, .u, .u, .u, .u, .u, .u], ofL [.row [.i .i64 h0_0, .i .i64 h0_1, .i .i64 h0_2, .s none 0] 0 0 true true none, .row [.i .i64 h1_0, .i .i64 h1_1, .i .i64 h1_2, .s (some (2, 0)) h2.length] 0 0 true true none, .row (h2.map (V.i .u64)) 2 1 true true none], 3, 0⟩) := by
  induction k with
  | zero => exact fun _ _ _ _ _ _ _ _ _ r h => by simp [mat_One.l0] at h
  | succ k ih =>
    have ih0 := ih
    refine ?_
    · intro t_9 t_10 h0_0 h0_1 h0_2 h1_0 h1_1 h1_2 h2 r H
      unfold mat_One.l0 at H
      simp only [bodyOf, Tryd.f21, frs, sub, if_true, if_false, Nat.one_ne_zero]
      refine w_loop ?_
      refine w_seq ?_
      refine wR fun K hK => ?_
      refine g_bin rfl rfl rfl rfl rfl (gT ?_)
      refine g_nil (hK _ _ _ ?_)
      refine k_seq ?_
      refine w_seq ?_
      rcases its H with ⟨c2, H⟩ | ⟨c2, H⟩
      · have c2b := decide_eq_true c2; try simp only [c2b, nrm]
        refine w_cond rfl (fun _ => ?_) (fun h => Bool.noConfusion h)
        refine w_skip ?_
        refine k_seq ?_
        refine w_seq ?_
        refine w_block ?_
        refine w_seq ?_
        refine wR fun K hK => ?_
        refine g_mv rfl rfl (gT ?_)
        refine g_as rfl rfl (gT ?_)
        refine g_nil (hK _ _ _ ?_)
        refine k_seq ?_
        refine wR fun K hK => ?_
        refine g_lda rfl rfl ag26 sz26 rfl rfl (Nat.le_of_ble_eq_true rfl) (gT ?_)
        refine g_mv rfl rfl (gT ?_)
        refine g_mv rfl rfl (gT ?_)
        obtain ⟨q3, hq3, H⟩ := bnd H
        have zq3_0 := mat_Matrix_Set.len hq3
        (try simp only [List.length_set, List.length_replicate, List.length_append, List.length_cons, List.length_nil, Nat.zero_add] at zq3_0)
        refine g_cs [2] rfl rfl (by rfl) Tryd.func22 rfl (by decide) (mat_Matrix_Set.does hq3) ⟨Nat.le_of_ble_eq_true rfl, Nat.le_of_ble_eq_true rfl⟩ ?_; simp only [nrm, nrmw, nrmc, nrme, nrmo, nrml, nrmb, nrmx, Nat.reduceEqDiff, Nat.reduceBEq, Nat.zero_add, Nat.add_zero, Nat.mul_one, List.length_cons, List.length_nil, List.length_map, List.length_set, List.length_replicate, List.drop_zero, List.drop_succ_cons, List.drop_nil, List.take_zero, List.take_succ_cons, List.take_nil, Nat.le_refl, if_true, if_false, Option.any_none, Option.any_some, List.contains_nil, Bool.not_false, Bool.or_true, Bool.true_or, Bool.or_false, Bool.false_or, Bool.and_true, Bool.true_and, Bool.and_self, reduceCtorEq, beq_self_eq_true, List.map_cons, List.map_nil, List.append_nil, List.nil_append, List.contains_cons, List.filter_cons, List.filter_nil, List.cons_append, Bool.false_eq_true, true_and, and_true, List.getElem_toArray, List.getElem_cons_zero, List.getElem_cons_succ, Nat.reduceAdd, Nat.reduceMul, Nat.reduceLT, Nat.reduceSub, Nat.reduceLeDiff, ← zq3_0]
        refine g_nil (hK _ _ _ ?_)
        refine k_block ?_
        refine k_seq ?_
        refine wR fun K hK => ?_
        refine g_bin rfl rfl rfl rfl rfl (gT ?_)
        refine g_mv rfl rfl (gT ?_)
        refine g_nil (hK _ _ _ ?_)
        refine k_loop ?_
        refine w_wk (σ := [0, 1, 2]) [2, 0, 5, 0] rfl (by decide) ?_; refine gC ?_
        exact gI (ih0 t_9 (wrap64 (t_10 + 1)) h0_0 h0_1 h0_2 h1_0 h1_1 h1_2 q3 r H)
      · have c2b := decide_eq_false c2; try simp only [c2b, nrm]
        refine w_cond rfl (fun h => Bool.noConfusion h) (fun _ => ?_)
        refine w_exit rfl ?_
        refine k_seq ?_
        refine w_seq ?_
        refine wR fun K hK => ?_
        refine g_lda rfl rfl ag26 sz26 rfl rfl (Nat.le_of_ble_eq_true rfl) (gT ?_)
        refine g_st rfl rfl sz26 rfl rfl rfl (by rfl) (Nat.le_of_ble_eq_true rfl) (gU ?_)
        refine g_nil (hK _ _ _ ?_)
        refine k_seq ?_
        refine w_ret ?_
        refine fin_wp (τ := [2]) rfl (by decide) ?_; rw [← Option.some.inj H]; simp only [Tryd.f21, ag26, sz26, nrm, nrmw, nrmc, nrme, nrmo, nrml, nrmb, nrmx, Nat.reduceEqDiff, Nat.reduceBEq, Nat.zero_add, Nat.add_zero, Nat.mul_one, List.length_cons, List.length_nil, List.length_map, List.length_set, List.length_replicate, List.drop_zero, List.drop_succ_cons, List.drop_nil, List.take_zero, List.take_succ_cons, List.take_nil, Nat.le_refl, if_true, if_false, Option.any_none, Option.any_some, List.contains_nil, Bool.not_false, Bool.or_true, Bool.true_or, Bool.or_false, Bool.false_or, Bool.and_true, Bool.true_and, Bool.and_self, reduceCtorEq, beq_self_eq_true, List.map_cons, List.map_nil, List.append_nil, List.nil_append, List.contains_cons, List.filter_cons, List.filter_nil, List.cons_append, Bool.false_eq_true, true_and, and_true, List.getElem_toArray, List.getElem_cons_zero, List.getElem_cons_succ, Nat.reduceAdd, Nat.reduceMul, Nat.reduceLT, Nat.reduceSub, Nat.reduceLeDiff]; try (first | rfl | exact ⟨rfl, trivial⟩ | exact ⟨rfl, rfl⟩)
set_option maxHeartbeats 8000000 in
set_option maxRecDepth 100000 in
theorem mat_One.does {k : Nat} {a0 : Int} {r : Int × Int × Int × (List Int)} (H : mat_One.f k a0 = some r) : Do E0 (.fn 21 [.i .i64 a0] [] (.a [.i .i64 r.1, .i .i64 r.2.1, .i .i64 r.2.2.1, .s (some (0, 0)) r.2.2.2.length]) [.row (r.2.2.2.map (V.i .u64)) 2 1 true true none]) := by
  obtain ih0 := mat_One.does_l (a0 := a0) k
  refine fn_wpl Tryd.func21 rfl (Q := (mat_One.Q a0 r)) (fun s h => h) ?_
  unfold mat_One.f at H
  simp only [Tryd.ntmps21, List.length, List.replicate, Nat.reduceAdd, Nat.reduceSub, List.cons_append, List.nil_append]
  refine w_seq ?_
  refine wR fun K hK => ?_
  refine g_alloc rfl rfl zr26 (gU ?_)
  refine g_nil (hK _ _ _ ?_)
  refine k_seq ?_
  refine w_seq ?_
  refine wR fun K hK => ?_
  refine g_mv rfl rfl (gT ?_)
  refine g_mv rfl rfl (gT ?_)
  obtain ⟨q1, hq1, H⟩ := bnd H
  refine g_cs [] rfl rfl (by rfl) Tryd.func18 rfl (by decide) (mat_New.does hq1) ⟨Nat.le_of_ble_eq_true rfl, Nat.le_of_ble_eq_true rfl⟩ ?_; refine gC ?_
  refine g_alloc rfl rfl zr26 (gU ?_)
  refine g_st rfl rfl sz26 rfl rfl rfl (by rfl) (Nat.le_of_ble_eq_true rfl) (gU ?_)
  refine g_nil (hK _ _ _ ?_)
  refine k_seq ?_
  refine w_seq ?_
  refine w_seq ?_
  refine wR fun K hK => ?_
  refine g_fd rfl rfl fa26_0 rfl (gT ?_)
  refine g_ldc rfl rfl ag3 sz3 rfl rfl rfl (gT ?_)
  refine g_mv rfl rfl (gT ?_)
  refine g_nil (hK _ _ _ ?_)
  refine k_seq ?_
  refine w_block ?_
  refine w_wk (σ := [0, 16, 12]) [2, 0, 5, 0] rfl (by decide) ?_; refine gC ?_
  exact gI (ih0 q1.1 0 0 0 0 q1.1 q1.2.1 q1.2.2.1 q1.2.2.2 r H)

set_option maxHeartbeats 8000000 in
set_option maxRecDepth 100000 in
theorem word_Make.does {a0 : Bool} {a1 : Int} {a2 : Int} {r : Int} (H : word_Make.f a0 a1 a2 = some r) : Do E0 (.fn 23 [.b a0, .i .i64 a1, .i .u64 a2] [] (.i .u64 r) []) := by
  refine fn_wpl Tryd.func23 rfl (Q := (word_Make.Q a0 a1 a2 r)) (fun s h => h) ?_
  unfold word_Make.f at H
  simp only [Tryd.ntmps23, List.length, List.replicate, Nat.reduceAdd, Nat.reduceSub, List.cons_append, List.nil_append]
  refine w_seq ?_
  refine wR fun K hK => ?_
  refine g_as rfl rfl (gT ?_)
  refine g_nil (hK _ _ _ ?_)
  refine k_seq ?_
  refine w_seq ?_
  refine wR fun K hK => ?_
  refine g_mv rfl rfl (gT ?_)
  refine g_conv rfl rfl Tryd.underlying3 Tryd.underlying23 rfl (gT ?_)
  refine g_bin rfl rfl rfl rfl rfl (gT ?_)
  refine g_shlc (p := 4503599627370496) rfl rfl rfl rfl (by decide) (by rfl) (gT ?_)
  refine g_mv rfl rfl (gT ?_)
  refine g_bin rfl rfl rfl rfl rfl (gT ?_)
  refine g_bin rfl rfl rfl rfl rfl (gT ?_)
  refine g_as rfl rfl (gT ?_)
  refine g_nil (hK _ _ _ ?_)
  refine k_seq ?_
  refine w_seq ?_
  refine w_seq ?_
  refine wR fun K hK => ?_
  refine g_mv rfl rfl (gT ?_)
  refine g_nil (hK _ _ _ ?_)
  refine k_seq ?_
  rcases its H with ⟨c1, H⟩ | ⟨c1, H⟩
  · have c1b : a0 = true := c1; try simp only [c1b, nrm]
    refine w_cond rfl (fun _ => ?_) (fun h => Bool.noConfusion h)
    refine wR fun K hK => ?_
    refine g_mv rfl rfl (gT ?_)
    refine g_bin rfl rfl rfl rfl rfl (gT ?_)
    refine g_as rfl rfl (gT ?_)
    refine g_nil (hK _ _ _ ?_)
    refine k_seq ?_
    refine w_seq ?_
    refine wR fun K hK => ?_
    refine g_mv rfl rfl (gT ?_)
    refine g_as rfl rfl (gT ?_)
    refine g_nil (hK _ _ _ ?_)
    refine k_seq ?_
    refine w_ret ?_
    refine fin_wp (τ := []) rfl (by decide) ?_; rw [← Option.some.inj H]; simp only [Tryd.f23]; exact gF
  · have c1b : a0 = false := Bool.eq_false_iff.mpr c1; try simp only [c1b, nrm]
    refine w_cond rfl (fun h => Bool.noConfusion h) (fun _ => ?_)
    refine w_skip ?_
    refine k_seq ?_
    refine w_seq ?_
    refine wR fun K hK => ?_
    refine g_mv rfl rfl (gT ?_)
    refine g_as rfl rfl (gT ?_)
    refine g_nil (hK _ _ _ ?_)
    refine k_seq ?_
    refine w_ret ?_
    refine fin_wp (τ := []) rfl (by decide) ?_; rw [← Option.some.inj H]; simp only [Tryd.f23]; exact gF

set_option maxHeartbeats 8000000 in
set_option maxRecDepth 100000 in
theorem mat_Matrix_Check.does_l {a0_0 : Int} {a0_1 : Int} {a0_2 : Int} {l0_3 : List Int} (k : Nat) : (∀ (t_3 : Bool) (h0_0 : Int) (h0_1 : Int) (h0_2 : Int) (h0_3 : List Int) (r : Int), mat_Matrix_Check.j0 k t_3 h0_0 h0_1 h0_2 h0_3 = some r → kont E0 (mat_Matrix_Check.Q a0_0 a0_1 a0_2 l0_3 r) (frs (bodyOf Tryd.f24) [1, 0, 0, 0] []) .normal ⟨[.u, .p (some (0, 0)), .u, .b t_3, .u, .u, .u, .u, .u, .u, .u, .u, .u, .u, .u, .u, .u, .u, .u, .u, .u, .u, .u, .u, .u, .u, .u, .u, .u, .u, .u, .u, .u, .u, .u, .u, .u, .u, .u, .u, .u, .u, .u, .u, .u, .u, .u, .u, .u, .u, .u, .u, .u, .u, .u, .u, .u], ofL [.row [.i .i64 h0_0, .i .i64 h0_1, .i .i64 h0_2, .r (h0_3.map (V.i .u64)) h0_3.length true] 0 0 true true none], 1, 0⟩) ∧
    (∀ (t_34 : Bool) (h0_0 : Int) (h0_1 : Int) (h0_2 : Int) (h0_3 : List Int) (r : Int), mat_Matrix_Check.j1 k t_34 h0_0 h0_1 h0_2 h0_3 = some r → kont E0 (mat_Matrix_Check.Q a0_0 a0_1 a0_2 l0_3 r) (frs (bodyOf Tryd.f24) [1, 0, 0, 1, 1, 0] []) .normal ⟨[.u, .p (some (0, 0)), .u, .u, .u, .u, .u, .u, .u, .u, .u, .u, .u, .u, .u, .u, .u, .u, .u, .u, .u, .u, .u, .u, .u, .u, .u, .u, .u, .u, .u, .u, .u, .u, .b t_34, .u, .u, .u, .u, .u, .u, .u, .u, .u, .u, .u, .u, .u, .u, .u, .u, .u, .u, .u, .u, .u, .u], ofL [.row [.i .i64 h0_0, .i .i64 h0_1, .i .i64 h0_2, .r (h0_3.map (V.i .u64)) h0_3.length true] 0 0 true true none], 1, 0⟩) := by
  induction k with
  | zero => exact ⟨fun _ _ _ _ _ r h => by simp [mat_Matrix_Check.j0] at h, fun _ _ _ _ _ r h => by simp [mat_Matrix_Check.j1] at h⟩
  | succ k ih =>
    obtain ⟨ih0, ih1⟩ := ih
    refine ⟨?_, ?_⟩
    · intro t_3 h0_0 h0_1 h0_2 h0_3 r H
      unfold mat_Matrix_Check.j0 at H
      simp only [bodyOf, Tryd.f24, frs, sub, if_true, if_false, Nat.one_ne_zero]
      refine k_seq ?_
      rcases its H with ⟨c6, H⟩ | ⟨c6, H⟩
      · have c6b : t_3 = true := c6; try simp only [c6b, nrm]
        refine w_cond rfl (fun _ => ?_) (fun h => Bool.noConfusion h)
        refine w_seq ?_
        refine wR fun K hK => ?_
        refine g_as rfl rfl (gT ?_)
        refine g_nil (hK _ _ _ ?_)
        refine k_seq ?_
        refine w_ret ?_
        refine fin_wp (τ := []) rfl (by decide) ?_; rw [← Option.some.inj H]; simp only [Tryd.f24]; exact gF
      · have c6b : t_3 = false := Bool.eq_false_iff.mpr c6; try simp only [c6b, nrm]
        refine w_cond rfl (fun h => Bool.noConfusion h) (fun _ => ?_)
        refine w_seq ?_
        refine wR fun K hK => ?_
        refine g_fd rfl rfl fa26_0 rfl (gT ?_)
        refine g_ldc rfl rfl ag3 sz3 rfl rfl rfl (gT ?_)
        refine g_bin rfl rfl rfl rfl rfl (gT ?_)
        refine g_mv rfl rfl (gT ?_)
        rcases its H with ⟨c7, H⟩ | ⟨c7, H⟩
        · have c7b := beq_iff_eq.mpr c7; have c7n := bne_eq_false_iff_eq.mpr c7; try simp only [c7b, c7n, nrm]
          refine g_sk rfl rfl (gT ?_)
          refine g_sk rfl rfl (gT ?_)
          refine g_sk rfl rfl (gT ?_)
          refine g_pick rfl rfl rfl (gT ?_)
          refine g_as rfl rfl (gT ?_)
          refine g_nil (hK _ _ _ ?_)
          refine k_wk (σ := [0]) [1, 32] rfl (by decide) rfl ?_; refine gC ?_
          exact gI (ih1 true h0_0 h0_1 h0_2 h0_3 r H)
        · have c7b := beq_eq_false_iff_ne.mpr c7; have c7n := bne_iff_ne.mpr c7; try simp only [c7b, c7n, nrm]
          refine g_fd rfl rfl fa26_1 rfl (gT ?_)
          refine g_ldc rfl rfl ag3 sz3 rfl rfl rfl (gT ?_)
          refine g_bin rfl rfl rfl rfl rfl (gT ?_)
          refine g_pick rfl rfl rfl (gT ?_)
          refine g_as rfl rfl (gT ?_)
          refine g_nil (hK _ _ _ ?_)
          refine k_wk (σ := [0]) [1, 32] rfl (by decide) rfl ?_; refine gC ?_
          exact gI (ih1 (h0_1 == 0) h0_0 h0_1 h0_2 h0_3 r H)
    · intro t_34 h0_0 h0_1 h0_2 h0_3 r H
      unfold mat_Matrix_Check.j1 at H
      simp only [bodyOf, Tryd.f24, frs, sub, if_true, if_false, Nat.one_ne_zero]
      refine k_seq ?_
      rcases its H with ⟨c8, H⟩ | ⟨c8, H⟩
      · have c8b : t_34 = true := c8; try simp only [c8b, nrm]
        refine w_cond rfl (fun _ => ?_) (fun h => Bool.noConfusion h)
        refine w_seq ?_
        refine wR fun K hK => ?_
        refine g_as rfl rfl (gT ?_)
        refine g_nil (hK _ _ _ ?_)
        refine k_seq ?_
        refine w_ret ?_
        refine fin_wp (τ := []) rfl (by decide) ?_; rw [← Option.some.inj H]; simp only [Tryd.f24]; exact gF
      · have c8b : t_34 = false := Bool.eq_false_iff.mpr c8; try simp only [c8b, nrm]
        refine w_cond rfl (fun h => Bool.noConfusion h) (fun _ => ?_)
        refine w_seq ?_
        refine wR fun K hK => ?_
        refine g_fd rfl rfl fa26_0 rfl (gT ?_)
        refine g_ldc rfl rfl ag3 sz3 rfl rfl rfl (gT ?_)
        refine g_bin rfl rfl rfl rfl rfl (gT ?_)
        refine g_fd rfl rfl fa26_2 rfl (gT ?_)
        refine g_ldc rfl rfl ag3 sz3 rfl rfl rfl (gT ?_)
        refine g_bin rfl rfl rfl rfl rfl (gT ?_)
        refine g_fd rfl rfl fa26_1 rfl (gT ?_)
        refine g_ldc rfl rfl ag3 sz3 rfl rfl rfl (gT ?_)
        refine g_bin rfl rfl rfl rfl rfl (gT ?_)
        refine g_fd rfl rfl fa26_3 rfl (gT ?_)
        refine g_ldc rfl rfl ag22 sz22 rfl rfl rfl (gT ?_)
        refine g_len_r rfl rfl Tryd.underlying22 rfl (gT ?_)
        refine g_bin rfl rfl rfl rfl rfl (gT ?_)
        refine g_as rfl rfl (gT ?_)
        refine g_nil (hK _ _ _ ?_)
        refine k_seq ?_
        rcases its H with ⟨c9, H⟩ | ⟨c9, H⟩
        · have c9b := decide_eq_true c9; try simp only [c9b, nrm]
          refine w_cond rfl (fun _ => ?_) (fun h => Bool.noConfusion h)
          refine w_seq ?_
          refine wR fun K hK => ?_
          refine g_as rfl rfl (gT ?_)
          refine g_nil (hK _ _ _ ?_)
          refine k_seq ?_
          refine w_ret ?_
          refine fin_wp (τ := []) rfl (by decide) ?_; rw [← Option.some.inj H]; simp only [Tryd.f24]; exact gF
        · have c9b := decide_eq_false c9; try simp only [c9b, nrm]
          refine w_cond rfl (fun h => Bool.noConfusion h) (fun _ => ?_)
          refine w_skip ?_
          refine k_block ?_
          refine k_seq ?_
          refine w_seq ?_
          refine wR fun K hK => ?_
          refine g_as rfl rfl (gT ?_)
          refine g_nil (hK _ _ _ ?_)
          refine k_seq ?_
          refine w_ret ?_
          refine fin_wp (τ := []) rfl (by decide) ?_; rw [← Option.some.inj H]; simp only [Tryd.f24]; exact gF
set_option maxHeartbeats 8000000 in
set_option maxRecDepth 100000 in
theorem mat_Matrix_Check.does {k : Nat} {a0_0 : Int} {a0_1 : Int} {a0_2 : Int} {l0_3 : List Int} {r : Int} (H : mat_Matrix_Check.f k a0_0 a0_1 a0_2 l0_3 = some r) : Do E0 (.fn 24 [.a [.i .i64 a0_0, .i .i64 a0_1, .i .i64 a0_2, .r (l0_3.map (V.i .u64)) l0_3.length true]] [] (.i .i64 r) []) := by
  obtain ⟨ih0, ih1⟩ := mat_Matrix_Check.does_l (a0_0 := a0_0) (a0_1 := a0_1) (a0_2 := a0_2) (l0_3 := l0_3) k
  refine fn_wpl Tryd.func24 rfl (Q := (mat_Matrix_Check.Q a0_0 a0_1 a0_2 l0_3 r)) (fun s h => h) ?_
  unfold mat_Matrix_Check.f at H
  simp only [Tryd.ntmps24, List.length, List.replicate, Nat.reduceAdd, Nat.reduceSub, List.cons_append, List.nil_append]
  refine w_seq ?_
  refine wR fun K hK => ?_
  refine g_box rfl rfl rfl (by rfl) (gU ?_)
  refine g_as rfl rfl (gT ?_)
  refine g_nil (hK _ _ _ ?_)
  refine k_seq ?_
  refine w_seq ?_
  refine w_block ?_
  refine w_seq ?_
  refine wR fun K hK => ?_
  refine g_fd rfl rfl fa26_0 rfl (gT ?_)
  refine g_ldc rfl rfl ag3 sz3 rfl rfl rfl (gT ?_)
  refine g_bin rfl rfl rfl rfl rfl (gT ?_)
  refine g_mv rfl rfl (gT ?_)
  rcases its H with ⟨c1, H⟩ | ⟨c1, H⟩
  · have c1b := decide_eq_true c1; try simp only [c1b, nrm]
    refine g_sk rfl rfl (gT ?_)
    refine g_sk rfl rfl (gT ?_)
    refine g_sk rfl rfl (gT ?_)
    refine g_pick rfl rfl rfl (gT ?_)
    refine g_mv rfl rfl (gT ?_)
    refine g_sk rfl rfl (gT ?_)
    refine g_sk rfl rfl (gT ?_)
    refine g_sk rfl rfl (gT ?_)
    refine g_pick rfl rfl rfl (gT ?_)
    refine g_mv rfl rfl (gT ?_)
    refine g_sk rfl rfl (gT ?_)
    refine g_sk rfl rfl (gT ?_)
    refine g_sk rfl rfl (gT ?_)
    refine g_pick rfl rfl rfl (gT ?_)
    refine g_mv rfl rfl (gT ?_)
    refine g_sk rfl rfl (gT ?_)
    refine g_sk rfl rfl (gT ?_)
    refine g_sk rfl rfl (gT ?_)
    refine g_sk rfl rfl (gT ?_)
    refine g_sk rfl rfl (gT ?_)
    refine g_pick rfl rfl rfl (gT ?_)
    refine g_mv rfl rfl (gT ?_)
    refine g_sk rfl rfl (gT ?_)
    refine g_sk rfl rfl (gT ?_)
    refine g_sk rfl rfl (gT ?_)
    refine g_pick rfl rfl rfl (gT ?_)
    refine g_as rfl rfl (gT ?_)
    refine g_nil (hK _ _ _ ?_)
    refine k_wk (σ := [0]) [1, 1] rfl (by decide) rfl ?_; refine gC ?_
    exact gI (ih0 true a0_0 a0_1 a0_2 l0_3 r H)
  · have c1b := decide_eq_false c1; try simp only [c1b, nrm]
    refine g_fd rfl rfl fa26_0 rfl (gT ?_)
    refine g_ldc rfl rfl ag3 sz3 rfl rfl rfl (gT ?_)
    refine g_bin rfl rfl rfl rfl rfl (gT ?_)
    refine g_pick rfl rfl rfl (gT ?_)
    refine g_mv rfl rfl (gT ?_)
    rcases its H with ⟨c2, H⟩ | ⟨c2, H⟩
    · have c2b := decide_eq_true c2; try simp only [c2b, nrm]
      refine g_sk rfl rfl (gT ?_)
      refine g_sk rfl rfl (gT ?_)
      refine g_sk rfl rfl (gT ?_)
      refine g_pick rfl rfl rfl (gT ?_)
      refine g_mv rfl rfl (gT ?_)
      refine g_sk rfl rfl (gT ?_)
      refine g_sk rfl rfl (gT ?_)
      refine g_sk rfl rfl (gT ?_)
      refine g_pick rfl rfl rfl (gT ?_)
      refine g_mv rfl rfl (gT ?_)
      refine g_sk rfl rfl (gT ?_)
      refine g_sk rfl rfl (gT ?_)
      refine g_sk rfl rfl (gT ?_)
      refine g_sk rfl rfl (gT ?_)
      refine g_sk rfl rfl (gT ?_)
      refine g_pick rfl rfl rfl (gT ?_)
      refine g_mv rfl rfl (gT ?_)
      refine g_sk rfl rfl (gT ?_)
      refine g_sk rfl rfl (gT ?_)
      refine g_sk rfl rfl (gT ?_)
      refine g_pick rfl rfl rfl (gT ?_)
      refine g_as rfl rfl (gT ?_)
      refine g_nil (hK _ _ _ ?_)
      refine k_wk (σ := [0]) [1, 1] rfl (by decide) rfl ?_; refine gC ?_
      exact gI (ih0 true a0_0 a0_1 a0_2 l0_3 r H)
    · have c2b := decide_eq_false c2; try simp only [c2b, nrm]
      refine g_fd rfl rfl fa26_1 rfl (gT ?_)
      refine g_ldc rfl rfl ag3 sz3 rfl rfl rfl (gT ?_)
      refine g_bin rfl rfl rfl rfl rfl (gT ?_)
      refine g_pick rfl rfl rfl (gT ?_)
      refine g_mv rfl rfl (gT ?_)
      rcases its H with ⟨c3, H⟩ | ⟨c3, H⟩
      · have c3b := decide_eq_true c3; try simp only [c3b, nrm]
        refine g_sk rfl rfl (gT ?_)
        refine g_sk rfl rfl (gT ?_)
        refine g_sk rfl rfl (gT ?_)
        refine g_pick rfl rfl rfl (gT ?_)
        refine g_mv rfl rfl (gT ?_)
        refine g_sk rfl rfl (gT ?_)
        refine g_sk rfl rfl (gT ?_)
        refine g_sk rfl rfl (gT ?_)
        refine g_sk rfl rfl (gT ?_)
        refine g_sk rfl rfl (gT ?_)
        refine g_pick rfl rfl rfl (gT ?_)
        refine g_mv rfl rfl (gT ?_)
        refine g_sk rfl rfl (gT ?_)
        refine g_sk rfl rfl (gT ?_)
        refine g_sk rfl rfl (gT ?_)
        refine g_pick rfl rfl rfl (gT ?_)
        refine g_as rfl rfl (gT ?_)
        refine g_nil (hK _ _ _ ?_)
        refine k_wk (σ := [0]) [1, 1] rfl (by decide) rfl ?_; refine gC ?_
        exact gI (ih0 true a0_0 a0_1 a0_2 l0_3 r H)
      · have c3b := decide_eq_false c3; try simp only [c3b, nrm]
        refine g_fd rfl rfl fa26_1 rfl (gT ?_)
        refine g_ldc rfl rfl ag3 sz3 rfl rfl rfl (gT ?_)
        refine g_bin rfl rfl rfl rfl rfl (gT ?_)
        refine g_pick rfl rfl rfl (gT ?_)
        refine g_mv rfl rfl (gT ?_)
        rcases its H with ⟨c4, H⟩ | ⟨c4, H⟩
        · have c4b := decide_eq_true c4; try simp only [c4b, nrm]
          refine g_sk rfl rfl (gT ?_)
          refine g_sk rfl rfl (gT ?_)
          refine g_sk rfl rfl (gT ?_)
          refine g_sk rfl rfl (gT ?_)
          refine g_sk rfl rfl (gT ?_)
          refine g_pick rfl rfl rfl (gT ?_)
          refine g_mv rfl rfl (gT ?_)
          refine g_sk rfl rfl (gT ?_)
          refine g_sk rfl rfl (gT ?_)
          refine g_sk rfl rfl (gT ?_)
          refine g_pick rfl rfl rfl (gT ?_)
          refine g_as rfl rfl (gT ?_)
          refine g_nil (hK _ _ _ ?_)
          refine k_wk (σ := [0]) [1, 1] rfl (by decide) rfl ?_; refine gC ?_
          exact gI (ih0 true a0_0 a0_1 a0_2 l0_3 r H)
        · have c4b := decide_eq_false c4; try simp only [c4b, nrm]
          refine g_fd rfl rfl fa26_2 rfl (gT ?_)
          refine g_ldc rfl rfl ag3 sz3 rfl rfl rfl (gT ?_)
          refine g_fd rfl rfl fa26_1 rfl (gT ?_)
          refine g_ldc rfl rfl ag3 sz3 rfl rfl rfl (gT ?_)
          refine g_bin rfl rfl rfl rfl rfl (gT ?_)
          refine g_pick rfl rfl rfl (gT ?_)
          refine g_mv rfl rfl (gT ?_)
          rcases its H with ⟨c5, H⟩ | ⟨c5, H⟩
          · have c5b := decide_eq_true c5; try simp only [c5b, nrm]
            refine g_sk rfl rfl (gT ?_)
            refine g_sk rfl rfl (gT ?_)
            refine g_sk rfl rfl (gT ?_)
            refine g_pick rfl rfl rfl (gT ?_)
            refine g_as rfl rfl (gT ?_)
            refine g_nil (hK _ _ _ ?_)
            refine k_wk (σ := [0]) [1, 1] rfl (by decide) rfl ?_; refine gC ?_
            exact gI (ih0 true a0_0 a0_1 a0_2 l0_3 r H)
          · have c5b := decide_eq_false c5; try simp only [c5b, nrm]
            refine g_fd rfl rfl fa26_2 rfl (gT ?_)
            refine g_ldc rfl rfl ag3 sz3 rfl rfl rfl (gT ?_)
            refine g_bin rfl rfl rfl rfl rfl (gT ?_)
            refine g_pick rfl rfl rfl (gT ?_)
            refine g_as rfl rfl (gT ?_)
            refine g_nil (hK _ _ _ ?_)
            refine k_wk (σ := [0]) [1, 1] rfl (by decide) rfl ?_; refine gC ?_
            exact gI (ih0 (decide (a0_2 > 1099511627776)) a0_0 a0_1 a0_2 l0_3 r H)

set_option maxHeartbeats 8000000 in
set_option maxRecDepth 100000 in
theorem mat_Matrix_At.does {a0_0 : Int} {a0_1 : Int} {a0_2 : Int} {l0_3 : List Int} {a1 : Int} {a2 : Int} {r : Int} (H : mat_Matrix_At.f a0_0 a0_1 a0_2 l0_3 a1 a2 = some r) : Do E0 (.fn 12 [.a [.i .i64 a0_0, .i .i64 a0_1, .i .i64 a0_2, .r (l0_3.map (V.i .u64)) l0_3.length true], .i .i64 a1, .i .i64 a2] [] (.i .u64 r) []) := by
  refine fn_wpl Tryd.func12 rfl (Q := (mat_Matrix_At.Q a0_0 a0_1 a0_2 l0_3 a1 a2 r)) (fun s h => h) ?_
  unfold mat_Matrix_At.f at H
  simp only [Tryd.ntmps12, List.length, List.replicate, Nat.reduceAdd, Nat.reduceSub, List.cons_append, List.nil_append]
  refine w_seq ?_
  refine wR fun K hK => ?_
  refine g_box rfl rfl rfl (by rfl) (gU ?_)
  refine g_as rfl rfl (gT ?_)
  refine g_nil (hK _ _ _ ?_)
  refine k_seq ?_
  refine w_seq ?_
  refine w_seq ?_
  refine wR fun K hK => ?_
  refine g_lda rfl rfl ag26 sz26 rfl rfl (Nat.le_of_ble_eq_true rfl) (gT ?_)
  refine g_mv rfl rfl (gT ?_)
  refine g_mv rfl rfl (gT ?_)
  obtain ⟨q1, hq1, H⟩ := bnd H
  refine g_cs [] rfl rfl (by rfl) Tryd.func29 rfl (by decide) (mat_Matrix_in.does hq1) ⟨Nat.le_of_ble_eq_true rfl, Nat.le_of_ble_eq_true rfl⟩ ?_; refine gC ?_
  refine g_un rfl rfl rfl rfl (gT ?_)
  refine g_nil (hK _ _ _ ?_)
  refine k_seq ?_
  rcases its H with ⟨c2, H⟩ | ⟨c2, H⟩
  · have c2b : q1 = true := c2; try simp only [c2b, nrm]
    refine w_cond rfl (fun h => Bool.noConfusion h) (fun _ => ?_)
    refine w_skip ?_
    refine k_seq ?_
    refine w_seq ?_
    refine wR fun K hK => ?_
    refine g_fd rfl rfl fa26_3 rfl (gT ?_)
    refine g_ldc rfl rfl ag22 sz22 rfl rfl rfl (gT ?_)
    refine g_mv rfl rfl (gT ?_)
    refine g_fd rfl rfl fa26_2 rfl (gT ?_)
    refine g_ldc rfl rfl ag3 sz3 rfl rfl rfl (gT ?_)
    refine g_bin rfl rfl rfl rfl rfl (gT ?_)
    refine g_mv rfl rfl (gT ?_)
    refine g_bin rfl rfl rfl rfl rfl (gT ?_)
    obtain ⟨c3, H⟩ := it1 H
    obtain ⟨c4, H⟩ := it1 H
    refine g_ixr rfl rfl Tryd.underlying22 sz23 rfl rfl (by first | assumption | omega) (by first | assumption | omega | (simp only [List.length_set, List.length_replicate] at *; omega)) (gT ?_)
    refine g_ldq rfl rfl ag23 sz23 rfl (by first | assumption | omega) (gT ?_)
    refine g_as rfl rfl (gT ?_)
    refine g_nil (hK _ _ _ ?_)
    refine k_seq ?_
    refine w_ret ?_
    refine fin_wp (τ := []) rfl (by decide) ?_; rw [← Option.some.inj H]; simp only [Tryd.f12]; exact gF
  · have c2b : q1 = false := Bool.eq_false_iff.mpr c2; try simp only [c2b, nrm]
    refine w_cond rfl (fun _ => ?_) (fun h => Bool.noConfusion h)
    refine w_seq ?_
    refine wR fun K hK => ?_
    refine g_as rfl rfl (gT ?_)
    refine g_nil (hK _ _ _ ?_)
    refine k_seq ?_
    refine w_ret ?_
    refine fin_wp (τ := []) rfl (by decide) ?_; rw [← Option.some.inj H]; simp only [Tryd.f12]; exact gF

set_option maxHeartbeats 8000000 in
set_option maxRecDepth 100000 in
theorem word_Exp.does {a0 : Int} {r : Int} (H : word_Exp.f a0 = some r) : Do E0 (.fn 30 [.i .u64 a0] [] (.i .i64 r) []) := by
  refine fn_wpl Tryd.func30 rfl (Q := (word_Exp.Q a0 r)) (fun s h => h) ?_
  unfold word_Exp.f at H
  simp only [Tryd.ntmps30, List.length, List.replicate, Nat.reduceAdd, Nat.reduceSub, List.cons_append, List.nil_append]
  refine w_seq ?_
  refine wR fun K hK => ?_
  refine g_as rfl rfl (gT ?_)
  refine g_nil (hK _ _ _ ?_)
  refine k_seq ?_
  refine w_seq ?_
  refine wR fun K hK => ?_
  refine g_mv rfl rfl (gT ?_)
  refine g_shrc (p := 4503599627370496) rfl rfl rfl rfl (by decide) (by rfl) (gT ?_)
  refine g_bin rfl rfl rfl rfl rfl (gT ?_)
  refine g_conv rfl rfl Tryd.underlying23 Tryd.underlying3 rfl (gT ?_)
  refine g_as rfl rfl (gT ?_)
  refine g_nil (hK _ _ _ ?_)
  refine k_seq ?_
  refine w_ret ?_
  refine fin_wp (τ := []) rfl (by decide) ?_; rw [← Option.some.inj H]; simp only [Tryd.f30]; exact gF

set_option maxHeartbeats 8000000 in
set_option maxRecDepth 100000 in
theorem word_Finite.does {a0 : Int} {r : Bool} (H : word_Finite.f a0 = some r) : Do E0 (.fn 13 [.i .u64 a0] [] (.b r) []) := by
  refine fn_wpl Tryd.func13 rfl (Q := (word_Finite.Q a0 r)) (fun s h => h) ?_
  unfold word_Finite.f at H
  simp only [Tryd.ntmps13, List.length, List.replicate, Nat.reduceAdd, Nat.reduceSub, List.cons_append, List.nil_append]
  refine w_seq ?_
  refine wR fun K hK => ?_
  refine g_as rfl rfl (gT ?_)
  refine g_nil (hK _ _ _ ?_)
  refine k_seq ?_
  refine w_seq ?_
  refine wR fun K hK => ?_
  refine g_mv rfl rfl (gT ?_)
  obtain ⟨q1, hq1, H⟩ := bnd H
  refine g_cs [] rfl rfl (by rfl) Tryd.func30 rfl (by decide) (word_Exp.does hq1) ⟨Nat.le_of_ble_eq_true rfl, Nat.le_of_ble_eq_true rfl⟩ ?_; refine gC ?_
  refine g_bin rfl rfl rfl rfl rfl (gT ?_)
  refine g_as rfl rfl (gT ?_)
  refine g_nil (hK _ _ _ ?_)
  refine k_seq ?_
  refine w_ret ?_
  refine fin_wp (τ := []) rfl (by decide) ?_; rw [← Option.some.inj H]; simp only [Tryd.f13]; exact gF

set_option maxHeartbeats 8000000 in
set_option maxRecDepth 100000 in
theorem mat_Matrix_Finite.does_l {a0_0 : Int} {a0_1 : Int} {a0_2 : Int} {l0_3 : List Int} (k : Nat) : (∀ (t_6 : Int) (t_7 : Int) (h0_0 : Int) (h0_1 : Int) (h0_2 : Int) (h0_3 : List Int) (r : Bool), mat_Matrix_Finite.l0 k t_6 t_7 h0_0 h0_1 h0_2 h0_3 = some r → wk_ E0 (mat_Matrix_Finite.Q a0_0 a0_1 a0_2 l0_3 r) (frs (bodyOf Tryd.f10) [1, 0, 1, 0] []) (sub (bodyOf Tryd.f10) [1, 0, 1, 0]) ⟨[.u, .p (some (0, 0)), .u, .u, .u, .u, .i .i64 t_6, .i .i64 t_7, .u, .u, .u, .u, .u, .u, .u, .u, .u, .u, .u, .u, .u, .u, .u], ofL [.row [.i .i64 h0_0, .i .i64 h0_1, .i .i64 h0_2, .r (h0_3.map (V.i .u64)) h0_3.length true] 0 0 true true none], 1, 0⟩) ∧
    (∀ (i_3 : Int) (t_6 : Int) (t_7 : Int) (t_11 : Int) (t_12 : Int) (h0_0 : Int) (h0_1 : Int) (h0_2 : Int) (h0_3 : List Int) (r : Bool), mat_Matrix_Finite.l1 k i_3 t_6 t_7 t_11 t_12 h0_0 h0_1 h0_2 h0_3 = some r → wk_ E0 (mat_Matrix_Finite.Q a0_0 a0_1 a0_2 l0_3 r) (frs (bodyOf Tryd.f10) [1, 0, 1, 0, 0, 1, 1, 0, 0, 1, 1, 0] []) (sub (bodyOf Tryd.f10) [1, 0, 1, 0, 0, 1, 1, 0, 0, 1, 1, 0]) ⟨[.u, .p (some (0, 0)), .u, .i .i64 i_3, .u, .u, .i .i64 t_6, .i .i64 t_7, .u, .u, .u, .i .i64 t_11, .i .i64 t_12, .u, .u, .u, .u, .u, .u, .u, .u, .u, .u], ofL [.row [.i .i64 h0_0, .i .i64 h0_1, .i .i64 h0_2, .r (h0_3.map (V.i .u64)) h0_3.length true] 0 0 true true none], 1, 0⟩) := by
  induction k with
  | zero => exact ⟨fun _ _ _ _ _ _ r h => by simp [mat_Matrix_Finite.l0] at h, fun _ _ _ _ _ _ _ _ _ r h => by simp [mat_Matrix_Finite.l1] at h⟩
  | succ k ih =>
    obtain ⟨ih0, ih1⟩ := ih
    refine ⟨?_, ?_⟩
    · intro t_6 t_7 h0_0 h0_1 h0_2 h0_3 r H
      unfold mat_Matrix_Finite.l0 at H
      simp only [bodyOf, Tryd.f10, frs, sub, if_true, if_false, Nat.one_ne_zero]
      refine w_loop ?_
      refine w_seq ?_
      refine wR fun K hK => ?_
      refine g_bin rfl rfl rfl rfl rfl (gT ?_)
      refine g_nil (hK _ _ _ ?_)
      refine k_seq ?_
      refine w_seq ?_
      rcases its H with ⟨c1, H⟩ | ⟨c1, H⟩
      · have c1b := decide_eq_true c1; try simp only [c1b, nrm]
        refine w_cond rfl (fun _ => ?_) (fun h => Bool.noConfusion h)
        refine w_skip ?_
        refine k_seq ?_
        refine w_seq ?_
        refine w_block ?_
        refine w_seq ?_
        refine wR fun K hK => ?_
        refine g_mv rfl rfl (gT ?_)
        refine g_as rfl rfl (gT ?_)
        refine g_nil (hK _ _ _ ?_)
        refine k_seq ?_
        refine w_seq ?_
        refine wR fun K hK => ?_
        refine g_fd rfl rfl fa26_1 rfl (gT ?_)
        refine g_ldc rfl rfl ag3 sz3 rfl rfl rfl (gT ?_)
        refine g_mv rfl rfl (gT ?_)
        refine g_nil (hK _ _ _ ?_)
        refine k_seq ?_
        refine w_block ?_
        refine w_wk (σ := [0]) [1, 1, 2, 0, 3, 0] rfl (by decide) ?_; refine gC ?_
        exact gI (ih1 t_7 t_6 t_7 h0_1 0 h0_0 h0_1 h0_2 h0_3 r H)
      · have c1b := decide_eq_false c1; try simp only [c1b, nrm]
        refine w_cond rfl (fun h => Bool.noConfusion h) (fun _ => ?_)
        refine w_exit rfl ?_
        refine k_seq ?_
        refine w_seq ?_
        refine wR fun K hK => ?_
        refine g_as rfl rfl (gT ?_)
        refine g_nil (hK _ _ _ ?_)
        refine k_seq ?_
        refine w_ret ?_
        refine fin_wp (τ := []) rfl (by decide) ?_; rw [← Option.some.inj H]; simp only [Tryd.f10]; exact gF
    · intro i_3 t_6 t_7 t_11 t_12 h0_0 h0_1 h0_2 h0_3 r H
      unfold mat_Matrix_Finite.l1 at H
      simp only [bodyOf, Tryd.f10, frs, sub, if_true, if_false, Nat.one_ne_zero]
      refine w_loop ?_
      refine w_seq ?_
      refine wR fun K hK => ?_
      refine g_bin rfl rfl rfl rfl rfl (gT ?_)
      refine g_nil (hK _ _ _ ?_)
      refine k_seq ?_
      refine w_seq ?_
      rcases its H with ⟨c2, H⟩ | ⟨c2, H⟩
      · have c2b := decide_eq_true c2; try simp only [c2b, nrm]
        refine w_cond rfl (fun _ => ?_) (fun h => Bool.noConfusion h)
        refine w_skip ?_
        refine k_seq ?_
        refine w_seq ?_
        refine w_block ?_
        refine w_seq ?_
        refine wR fun K hK => ?_
        refine g_mv rfl rfl (gT ?_)
        refine g_as rfl rfl (gT ?_)
        refine g_nil (hK _ _ _ ?_)
        refine k_seq ?_
        refine w_seq ?_
        refine wR fun K hK => ?_
        refine g_lda rfl rfl ag26 sz26 rfl rfl (Nat.le_of_ble_eq_true rfl) (gT ?_)
        refine g_mv rfl rfl (gT ?_)
        refine g_mv rfl rfl (gT ?_)
        obtain ⟨q3, hq3, H⟩ := bnd H
        refine g_cs [] rfl rfl (by rfl) Tryd.func12 rfl (by decide) (mat_Matrix_At.does hq3) ⟨Nat.le_of_ble_eq_true rfl, Nat.le_of_ble_eq_true rfl⟩ ?_; refine gC ?_
        obtain ⟨q4, hq4, H⟩ := bnd H
        refine g_cs [] rfl rfl (by rfl) Tryd.func13 rfl (by decide) (word_Finite.does hq4) ⟨Nat.le_of_ble_eq_true rfl, Nat.le_of_ble_eq_true rfl⟩ ?_; refine gC ?_
        refine g_un rfl rfl rfl rfl (gT ?_)
        refine g_nil (hK _ _ _ ?_)
        refine k_seq ?_
        rcases its H with ⟨c5, H⟩ | ⟨c5, H⟩
        · have c5b : q4 = true := c5; try simp only [c5b, nrm]
          refine w_cond rfl (fun h => Bool.noConfusion h) (fun _ => ?_)
          refine w_skip ?_
          refine k_block ?_
          refine k_seq ?_
          refine wR fun K hK => ?_
          refine g_bin rfl rfl rfl rfl rfl (gT ?_)
          refine g_mv rfl rfl (gT ?_)
          refine g_nil (hK _ _ _ ?_)
          refine k_loop ?_
          refine w_wk (σ := [0]) [1, 1, 2, 0, 3, 0] rfl (by decide) ?_; refine gC ?_
          exact gI (ih1 i_3 t_6 t_7 t_11 (wrap64 (t_12 + 1)) h0_0 h0_1 h0_2 h0_3 r H)
        · have c5b : q4 = false := Bool.eq_false_iff.mpr c5; try simp only [c5b, nrm]
          refine w_cond rfl (fun _ => ?_) (fun h => Bool.noConfusion h)
          refine w_seq ?_
          refine wR fun K hK => ?_
          refine g_as rfl rfl (gT ?_)
          refine g_nil (hK _ _ _ ?_)
          refine k_seq ?_
          refine w_ret ?_
          refine fin_wp (τ := []) rfl (by decide) ?_; rw [← Option.some.inj H]; simp only [Tryd.f10]; exact gF
      · have c2b := decide_eq_false c2; try simp only [c2b, nrm]
        refine w_cond rfl (fun h => Bool.noConfusion h) (fun _ => ?_)
        refine w_exit rfl ?_
        refine k_block ?_
        refine k_seq ?_
        refine wR fun K hK => ?_
        refine g_bin rfl rfl rfl rfl rfl (gT ?_)
        refine g_mv rfl rfl (gT ?_)
        refine g_nil (hK _ _ _ ?_)
        refine k_loop ?_
        refine w_wk (σ := [0]) [1, 4, 0] rfl (by decide) ?_; refine gC ?_
        exact gI (ih0 t_6 (wrap64 (t_7 + 1)) h0_0 h0_1 h0_2 h0_3 r H)
set_option maxHeartbeats 8000000 in
set_option maxRecDepth 100000 in
theorem mat_Matrix_Finite.does {k : Nat} {a0_0 : Int} {a0_1 : Int} {a0_2 : Int} {l0_3 : List Int} {r : Bool} (H : mat_Matrix_Finite.f k a0_0 a0_1 a0_2 l0_3 = some r) : Do E0 (.fn 10 [.a [.i .i64 a0_0, .i .i64 a0_1, .i .i64 a0_2, .r (l0_3.map (V.i .u64)) l0_3.length true]] [] (.b r) []) := by
  obtain ⟨ih0, ih1⟩ := mat_Matrix_Finite.does_l (a0_0 := a0_0) (a0_1 := a0_1) (a0_2 := a0_2) (l0_3 := l0_3) k
  refine fn_wpl Tryd.func10 rfl (Q := (mat_Matrix_Finite.Q a0_0 a0_1 a0_2 l0_3 r)) (fun s h => h) ?_
  unfold mat_Matrix_Finite.f at H
  simp only [Tryd.ntmps10, List.length, List.replicate, Nat.reduceAdd, Nat.reduceSub, List.cons_append, List.nil_append]
  refine w_seq ?_
  refine wR fun K hK => ?_
  refine g_box rfl rfl rfl (by rfl) (gU ?_)
  refine g_as rfl rfl (gT ?_)
  refine g_nil (hK _ _ _ ?_)
  refine k_seq ?_
  refine w_seq ?_
  refine w_seq ?_
  refine wR fun K hK => ?_
  refine g_fd rfl rfl fa26_0 rfl (gT ?_)
  refine g_ldc rfl rfl ag3 sz3 rfl rfl rfl (gT ?_)
  refine g_mv rfl rfl (gT ?_)
  refine g_nil (hK _ _ _ ?_)
  refine k_seq ?_
  refine w_block ?_
  refine w_wk (σ := [0]) [1, 4, 0] rfl (by decide) ?_; refine gC ?_
  exact gI (ih0 a0_0 0 a0_0 a0_1 a0_2 l0_3 r H)

set_option maxHeartbeats 8000000 in
set_option maxRecDepth 100000 in
theorem mat_Matrix_Clone.does_l {a0_0 : Int} {a0_1 : Int} {a0_2 : Int} {l0_3 : List Int} (k : Nat) : (∀ (t_12 : Int) (t_13 : Int) (h0_0 : Int) (h0_1 : Int) (h0_2 : Int) (h0_3 : List Int) (h1_0 : Int) (h1_1 : Int) (h1_2 : Int) (h2_0 : Int) (h2_1 : Int) (h2_2 : Int) (h3 : List Int) (r : Int × Int × Int × (List Int)), mat_Matrix_Clone.l0 k t_12 t_13 h0_0 h0_1 h0_2 h0_3 h2_0 h2_1 h2_2 h3 = some r → wk_ E0 (mat_Matrix_Clone.Q a0_0 a0_1 a0_2 l0_3 r) (frs (bodyOf Tryd.f7) [1, 1, 0, 1, 0] []) (sub (bodyOf Tryd.f7) [1, 1, 0, 1, 0]) ⟨[.u, .p (some (0, 0)), .p (some (1, 0)), .p (some (2, 0)), .u, .u, .u, .u, .u, .u, .u, .u, .i .i64 t_12, .i .i64 t_13, .u, .u, .u, .u, .u, .u, .u, .u, .u, .u, .u, .u, .u, .u, .u, .u, .u, .u], ofL [.row [.i .i64 h0_0, .i .i64 h0_1, .i .i64 h0_2, .r (h0_3.map (V.i .u64)) h0_3.length true] 0 0 true true none, .row [.i .i64 h1_0, .i .i64 h1_1, .i .i64 h1_2, .s none 0] 0 0 true true none, .row [.i .i64 h2_0, .i .i64 h2_1, .i .i64 h2_2, .s (some (3, 0)) h3.length] 0 0 true true none, .row (h3.map (V.i .u64)) 2 1 true true none], 4, 0⟩) ∧
    (∀ (i_4 : Int) (t_12 : Int) (t_13 : Int) (t_17 : Int) (t_18 : Int) (h0_0 : Int) (h0_1 : Int) (h0_2 : Int) (h0_3 : List Int) (h1_0 : Int) (h1_1 : Int) (h1_2 : Int) (h2_0 : Int) (h2_1 : Int) (h2_2 : Int) (h3 : List Int) (r : Int × Int × Int × (List Int)), mat_Matrix_Clone.l1 k i_4 t_12 t_13 t_17 t_18 h0_0 h0_1 h0_2 h0_3 h2_0 h2_1 h2_2 h3 = some r → wk_ E0 (mat_Matrix_Clone.Q a0_0 a0_1 a0_2 l0_3 r) (frs (bodyOf Tryd.f7) [1, 1, 0, 1, 0, 0, 1, 1, 0, 0, 1, 1, 0] []) (sub (bodyOf Tryd.f7) [1, 1, 0, 1, 0, 0, 1, 1, 0, 0, 1, 1, 0]) ⟨[.u, .p (some (0, 0)), .p (some (1, 0)), .p (some (2, 0)), .i .i64 i_4, .u, .u, .u, .u, .u, .u, .u, .i .i64 t_12, .i .i64 t_13, .u, .u, .u, .i .i64 t_17, .i .i64 t_18, .u, .u, .u, .u, .u, .u, .u, .u, .u, .u, .u, .u, .u], ofL [.row [.i .i64 h0_0, .i .i64 h0_1, .i .i64 h0_2, .r (h0_3.map (V.i .u64)) h0_3.length true] 0 0 true true none, .row [.i .i64 h1_0, .i .i64 h1_1, .i .i64 h1_2, .s none 0] 0 0 true true none, .row [.i .i64 h2_0, .i .i64 h2_1, .i .i64 h2_2, .s (some (3, 0)) h3.length] 0 0 true true none, .row (h3.map (V.i .u64)) 2 1 true true none], 4, 0⟩) := by
  induction k with
  | zero => exact ⟨fun _ _ _ _ _ _ _ _ _ _ _ _ _ r h => by simp [mat_Matrix_Clone.l0] at h, fun _ _ _ _ _ _ _ _ _ _ _ _ _ _ _ _ r h => by simp [mat_Matrix_Clone.l1] at h⟩
  | succ k ih =>
    obtain ⟨ih0, ih1⟩ := ih
    refine ⟨?_, ?_⟩
    · intro t_12 t_13 h0_0 h0_1 h0_2 h0_3 h1_0 h1_1 h1_2 h2_0 h2_1 h2_2 h3 r H
      unfold mat_Matrix_Clone.l0 at H
      simp only [bodyOf, Tryd.f7, frs, sub, if_true, if_false, Nat.one_ne_zero]
      refine w_loop ?_
      refine w_seq ?_
      refine wR fun K hK => ?_
      refine g_bin rfl rfl rfl rfl rfl (gT ?_)
      refine g_nil (hK _ _ _ ?_)
      refine k_seq ?_
      refine w_seq ?_
      rcases its H with ⟨c2, H⟩ | ⟨c2, H⟩
      · have c2b := decide_eq_true c2; try simp only [c2b, nrm]
        refine w_cond rfl (fun _ => ?_) (fun h => Bool.noConfusion h)
        refine w_skip ?_
        refine k_seq ?_
        refine w_seq ?_
        refine w_block ?_
        refine w_seq ?_
        refine wR fun K hK => ?_
        refine g_mv rfl rfl (gT ?_)
        refine g_as rfl rfl (gT ?_)
        refine g_nil (hK _ _ _ ?_)
        refine k_seq ?_
        refine w_seq ?_
        refine wR fun K hK => ?_
        refine g_fd rfl rfl fa26_1 rfl (gT ?_)
        refine g_ldc rfl rfl ag3 sz3 rfl rfl rfl (gT ?_)
        refine g_mv rfl rfl (gT ?_)
        refine g_nil (hK _ _ _ ?_)
        refine k_seq ?_
        refine w_block ?_
        refine w_wk (σ := [0, 1, 2, 3]) [1, 0, 0, 0, 7, 0, 3, 0] rfl (by decide) ?_; refine gC ?_
        exact gI (ih1 t_13 t_12 t_13 h2_1 0 h0_0 h0_1 h0_2 h0_3 h1_0 h1_1 h1_2 h2_0 h2_1 h2_2 h3 r H)
      · have c2b := decide_eq_false c2; try simp only [c2b, nrm]
        refine w_cond rfl (fun h => Bool.noConfusion h) (fun _ => ?_)
        refine w_exit rfl ?_
        refine k_seq ?_
        refine w_seq ?_
        refine wR fun K hK => ?_
        refine g_lda rfl rfl ag26 sz26 rfl rfl (Nat.le_of_ble_eq_true rfl) (gT ?_)
        refine g_st rfl rfl sz26 rfl rfl rfl (by rfl) (Nat.le_of_ble_eq_true rfl) (gU ?_)
        refine g_nil (hK _ _ _ ?_)
        refine k_seq ?_
        refine w_ret ?_
        refine fin_wp (τ := [3]) rfl (by decide) ?_; rw [← Option.some.inj H]; simp only [Tryd.f7, ag26, sz26, nrm, nrmw, nrmc, nrme, nrmo, nrml, nrmb, nrmx, Nat.reduceEqDiff, Nat.reduceBEq, Nat.zero_add, Nat.add_zero, Nat.mul_one, List.length_cons, List.length_nil, List.length_map, List.length_set, List.length_replicate, List.drop_zero, List.drop_succ_cons, List.drop_nil, List.take_zero, List.take_succ_cons, List.take_nil, Nat.le_refl, if_true, if_false, Option.any_none, Option.any_some, List.contains_nil, Bool.not_false, Bool.or_true, Bool.true_or, Bool.or_false, Bool.false_or, Bool.and_true, Bool.true_and, Bool.and_self, reduceCtorEq, beq_self_eq_true, List.map_cons, List.map_nil, List.append_nil, List.nil_append, List.contains_cons, List.filter_cons, List.filter_nil, List.cons_append, Bool.false_eq_true, true_and, and_true, List.getElem_toArray, List.getElem_cons_zero, List.getElem_cons_succ, Nat.reduceAdd, Nat.reduceMul, Nat.reduceLT, Nat.reduceSub, Nat.reduceLeDiff]; try (first | rfl | exact ⟨rfl, trivial⟩ | exact ⟨rfl, rfl⟩)
    · intro i_4 t_12 t_13 t_17 t_18 h0_0 h0_1 h0_2 h0_3 h1_0 h1_1 h1_2 h2_0 h2_1 h2_2 h3 r H
      unfold mat_Matrix_Clone.l1 at H
      simp only [bodyOf, Tryd.f7, frs, sub, if_true, if_false, Nat.one_ne_zero]
      refine w_loop ?_
      refine w_seq ?_
      refine wR fun K hK => ?_
      refine g_bin rfl rfl rfl rfl rfl (gT ?_)
      refine g_nil (hK _ _ _ ?_)
      refine k_seq ?_
      refine w_seq ?_
      rcases its H with ⟨c3, H⟩ | ⟨c3, H⟩
      · have c3b := decide_eq_true c3; try simp only [c3b, nrm]
        refine w_cond rfl (fun _ => ?_) (fun h => Bool.noConfusion h)
        refine w_skip ?_
        refine k_seq ?_
        refine w_seq ?_
        refine w_block ?_
        refine w_seq ?_
        refine wR fun K hK => ?_
        refine g_mv rfl rfl (gT ?_)
        refine g_as rfl rfl (gT ?_)
        refine g_nil (hK _ _ _ ?_)
        refine k_seq ?_
        refine wD fun K hK => ?_
        refine g_lda rfl rfl ag26 sz26 rfl rfl (Nat.le_of_ble_eq_true rfl) (gT ?_)
        refine g_mv rfl rfl (gT ?_)
        refine g_mv rfl rfl (gT ?_)
        refine g_lda rfl rfl ag26 sz26 rfl rfl (Nat.le_of_ble_eq_true rfl) (gT ?_)
        refine g_mv rfl rfl (gT ?_)
        refine g_mv rfl rfl (gT ?_)
        obtain ⟨q4, hq4, H⟩ := bnd H
        refine g_cs [] rfl rfl (by rfl) Tryd.func12 rfl (by decide) (mat_Matrix_At.does hq4) ⟨Nat.le_of_ble_eq_true rfl, Nat.le_of_ble_eq_true rfl⟩ ?_; refine gC ?_
        obtain ⟨q5, hq5, H⟩ := bnd H
        have zq5_0 := mat_Matrix_Set.len hq5
        (try simp only [List.length_set, List.length_replicate, List.length_append, List.length_cons, List.length_nil, Nat.zero_add] at zq5_0)
        refine g_cs [3] rfl rfl (by rfl) Tryd.func22 rfl (by decide) (mat_Matrix_Set.does hq5) ⟨Nat.le_of_ble_eq_true rfl, Nat.le_of_ble_eq_true rfl⟩ ?_; simp only [nrm, nrmw, nrmc, nrme, nrmo, nrml, nrmb, nrmx, Nat.reduceEqDiff, Nat.reduceBEq, Nat.zero_add, Nat.add_zero, Nat.mul_one, List.length_cons, List.length_nil, List.length_map, List.length_set, List.length_replicate, List.drop_zero, List.drop_succ_cons, List.drop_nil, List.take_zero, List.take_succ_cons, List.take_nil, Nat.le_refl, if_true, if_false, Option.any_none, Option.any_some, List.contains_nil, Bool.not_false, Bool.or_true, Bool.true_or, Bool.or_false, Bool.false_or, Bool.and_true, Bool.true_and, Bool.and_self, reduceCtorEq, beq_self_eq_true, List.map_cons, List.map_nil, List.append_nil, List.nil_append, List.contains_cons, List.filter_cons, List.filter_nil, List.cons_append, Bool.false_eq_true, true_and, and_true, List.getElem_toArray, List.getElem_cons_zero, List.getElem_cons_succ, Nat.reduceAdd, Nat.reduceMul, Nat.reduceLT, Nat.reduceSub, Nat.reduceLeDiff, ← zq5_0]
        refine g_nil (hK _ _ _ (by kernel_rfl) ?_)
        refine k_block ?_
        refine k_seq ?_
        refine wR fun K hK => ?_
        refine g_bin rfl rfl rfl rfl rfl (gT ?_)
        refine g_mv rfl rfl (gT ?_)
        refine g_nil (hK _ _ _ ?_)
        refine k_loop ?_
        refine w_wk (σ := [0, 1, 2, 3]) [1, 0, 0, 0, 7, 0, 3, 0] rfl (by decide) ?_; refine gC ?_
        exact gI (ih1 i_4 t_12 t_13 t_17 (wrap64 (t_18 + 1)) h0_0 h0_1 h0_2 h0_3 h1_0 h1_1 h1_2 h2_0 h2_1 h2_2 q5 r H)
      · have c3b := decide_eq_false c3; try simp only [c3b, nrm]
        refine w_cond rfl (fun h => Bool.noConfusion h) (fun _ => ?_)
        refine w_exit rfl ?_
        refine k_block ?_
        refine k_seq ?_
        refine wR fun K hK => ?_
        refine g_bin rfl rfl rfl rfl rfl (gT ?_)
        refine g_mv rfl rfl (gT ?_)
        refine g_nil (hK _ _ _ ?_)
        refine k_loop ?_
        refine w_wk (σ := [0, 1, 2, 3]) [1, 0, 0, 8, 0] rfl (by decide) ?_; refine gC ?_
        exact gI (ih0 t_12 (wrap64 (t_13 + 1)) h0_0 h0_1 h0_2 h0_3 h1_0 h1_1 h1_2 h2_0 h2_1 h2_2 h3 r H)
set_option maxHeartbeats 8000000 in
set_option maxRecDepth 100000 in
theorem mat_Matrix_Clone.does {k : Nat} {a0_0 : Int} {a0_1 : Int} {a0_2 : Int} {l0_3 : List Int} {r : Int × Int × Int × (List Int)} (H : mat_Matrix_Clone.f k a0_0 a0_1 a0_2 l0_3 = some r) : Do E0 (.fn 7 [.a [.i .i64 a0_0, .i .i64 a0_1, .i .i64 a0_2, .r (l0_3.map (V.i .u64)) l0_3.length true]] [] (.a [.i .i64 r.1, .i .i64 r.2.1, .i .i64 r.2.2.1, .s (some (0, 0)) r.2.2.2.length]) [.row (r.2.2.2.map (V.i .u64)) 2 1 true true none]) := by
  obtain ⟨ih0, ih1⟩ := mat_Matrix_Clone.does_l (a0_0 := a0_0) (a0_1 := a0_1) (a0_2 := a0_2) (l0_3 := l0_3) k
  refine fn_wpl Tryd.func7 rfl (Q := (mat_Matrix_Clone.Q a0_0 a0_1 a0_2 l0_3 r)) (fun s h => h) ?_
  unfold mat_Matrix_Clone.f at H
  simp only [Tryd.ntmps7, List.length, List.replicate, Nat.reduceAdd, Nat.reduceSub, List.cons_append, List.nil_append]
  refine w_seq ?_
  refine wR fun K hK => ?_
  refine g_box rfl rfl rfl (by rfl) (gU ?_)
  refine g_alloc rfl rfl zr26 (gU ?_)
  refine g_nil (hK _ _ _ ?_)
  refine k_seq ?_
  refine w_seq ?_
  refine wR fun K hK => ?_
  refine g_fd rfl rfl fa26_0 rfl (gT ?_)
  refine g_ldc rfl rfl ag3 sz3 rfl rfl rfl (gT ?_)
  refine g_fd rfl rfl fa26_1 rfl (gT ?_)
  refine g_ldc rfl rfl ag3 sz3 rfl rfl rfl (gT ?_)
  obtain ⟨q1, hq1, H⟩ := bnd H
  refine g_cs [] rfl rfl (by rfl) Tryd.func18 rfl (by decide) (mat_New.does hq1) ⟨Nat.le_of_ble_eq_true rfl, Nat.le_of_ble_eq_true rfl⟩ ?_; refine gC ?_
  refine g_alloc rfl rfl zr26 (gU ?_)
  refine g_st rfl rfl sz26 rfl rfl rfl (by rfl) (Nat.le_of_ble_eq_true rfl) (gU ?_)
  refine g_nil (hK _ _ _ ?_)
  refine k_seq ?_
  refine w_seq ?_
  refine w_seq ?_
  refine wR fun K hK => ?_
  refine g_fd rfl rfl fa26_0 rfl (gT ?_)
  refine g_ldc rfl rfl ag3 sz3 rfl rfl rfl (gT ?_)
  refine g_mv rfl rfl (gT ?_)
  refine g_nil (hK _ _ _ ?_)
  refine k_seq ?_
  refine w_block ?_
  refine w_wk (σ := [0, 4, 28, 24]) [1, 0, 0, 8, 0] rfl (by decide) ?_; refine gC ?_
  exact gI (ih0 q1.1 0 a0_0 a0_1 a0_2 l0_3 0 0 0 q1.1 q1.2.1 q1.2.2.1 q1.2.2.2 r H)

set_option maxHeartbeats 8000000 in
set_option maxRecDepth 100000 in
theorem word_Frac.does {a0 : Int} {r : Int} (H : word_Frac.f a0 = some r) : Do E0 (.fn 46 [.i .u64 a0] [] (.i .u64 r) []) := by
  refine fn_wpl Tryd.func46 rfl (Q := (word_Frac.Q a0 r)) (fun s h => h) ?_
  unfold word_Frac.f at H
  simp only [Tryd.ntmps46, List.length, List.replicate, Nat.reduceAdd, Nat.reduceSub, List.cons_append, List.nil_append]
  refine w_seq ?_
  refine wR fun K hK => ?_
  refine g_as rfl rfl (gT ?_)
  refine g_nil (hK _ _ _ ?_)
  refine k_seq ?_
  refine w_seq ?_
  refine wR fun K hK => ?_
  refine g_mv rfl rfl (gT ?_)
  refine g_bin rfl rfl rfl rfl rfl (gT ?_)
  refine g_as rfl rfl (gT ?_)
  refine g_nil (hK _ _ _ ?_)
  refine k_seq ?_
  refine w_ret ?_
  refine fin_wp (τ := []) rfl (by decide) ?_; rw [← Option.some.inj H]; simp only [Tryd.f46]; exact gF

set_option maxHeartbeats 8000000 in
set_option maxRecDepth 100000 in
theorem word_Kind.does_l {a0 : Int} (k : Nat) : (∀ (e_3 : Int) (f_4 : Int) (t_9 : Bool) (r : Int), word_Kind.j0 k e_3 f_4 t_9 = some r → kont E0 (word_Kind.Q a0 r) (frs (bodyOf Tryd.f36) [1, 0, 1, 0, 0] []) .normal ⟨[.u, .u, .u, .i .i64 e_3, .i .u64 f_4, .u, .u, .u, .u, .b t_9, .u, .u, .u, .u, .u, .u, .u, .u, .u, .u, .u, .u, .u, .u, .u], ofL [], 0, 0⟩) := by
  induction k with
  | zero => exact fun _ _ _ r h => by simp [word_Kind.j0] at h
  | succ k ih =>
    have ih0 := ih
    refine ?_
    · intro e_3 f_4 t_9 r H
      unfold word_Kind.j0 at H
      simp only [bodyOf, Tryd.f36, frs, sub, if_true, if_false, Nat.one_ne_zero]
      refine k_seq ?_
      rcases its H with ⟨c4, H⟩ | ⟨c4, H⟩
      · have c4b : t_9 = true := c4; try simp only [c4b, nrm]
        refine w_cond rfl (fun _ => ?_) (fun h => Bool.noConfusion h)
        refine w_seq ?_
        refine wR fun K hK => ?_
        refine g_as rfl rfl (gT ?_)
        refine g_nil (hK _ _ _ ?_)
        refine k_seq ?_
        refine w_ret ?_
        refine fin_wp (τ := []) rfl (by decide) ?_; rw [← Option.some.inj H]; simp only [Tryd.f36]; exact gF
      · have c4b : t_9 = false := Bool.eq_false_iff.mpr c4; try simp only [c4b, nrm]
        refine w_cond rfl (fun h => Bool.noConfusion h) (fun _ => ?_)
        refine w_seq ?_
        refine wR fun K hK => ?_
        refine g_mv rfl rfl (gT ?_)
        refine g_bin rfl rfl rfl rfl rfl (gT ?_)
        refine g_as rfl rfl (gT ?_)
        refine g_nil (hK _ _ _ ?_)
        refine k_seq ?_
        rcases its H with ⟨c5, H⟩ | ⟨c5, H⟩
        · have c5b := beq_iff_eq.mpr c5; have c5n := bne_eq_false_iff_eq.mpr c5; try simp only [c5b, c5n, nrm]
          refine w_cond rfl (fun _ => ?_) (fun h => Bool.noConfusion h)
          refine w_seq ?_
          refine wR fun K hK => ?_
          refine g_as rfl rfl (gT ?_)
          refine g_nil (hK _ _ _ ?_)
          refine k_seq ?_
          refine w_ret ?_
          refine fin_wp (τ := []) rfl (by decide) ?_; rw [← Option.some.inj H]; simp only [Tryd.f36]; exact gF
        · have c5b := beq_eq_false_iff_ne.mpr c5; have c5n := bne_iff_ne.mpr c5; try simp only [c5b, c5n, nrm]
          refine w_cond rfl (fun h => Bool.noConfusion h) (fun _ => ?_)
          refine w_seq ?_
          refine wR fun K hK => ?_
          refine g_mv rfl rfl (gT ?_)
          refine g_bin rfl rfl rfl rfl rfl (gT ?_)
          refine g_as rfl rfl (gT ?_)
          refine g_nil (hK _ _ _ ?_)
          refine k_seq ?_
          rcases its H with ⟨c6, H⟩ | ⟨c6, H⟩
          · have c6b := decide_eq_true c6; try simp only [c6b, nrm]
            refine w_cond rfl (fun _ => ?_) (fun h => Bool.noConfusion h)
            refine w_seq ?_
            refine wR fun K hK => ?_
            refine g_as rfl rfl (gT ?_)
            refine g_nil (hK _ _ _ ?_)
            refine k_seq ?_
            refine w_ret ?_
            refine fin_wp (τ := []) rfl (by decide) ?_; rw [← Option.some.inj H]; simp only [Tryd.f36]; exact gF
          · have c6b := decide_eq_false c6; try simp only [c6b, nrm]
            refine w_cond rfl (fun h => Bool.noConfusion h) (fun _ => ?_)
            refine w_seq ?_
            refine wR fun K hK => ?_
            refine g_mv rfl rfl (gT ?_)
            refine g_bin rfl rfl rfl rfl rfl (gT ?_)
            refine g_as rfl rfl (gT ?_)
            refine g_nil (hK _ _ _ ?_)
            refine k_seq ?_
            rcases its H with ⟨c7, H⟩ | ⟨c7, H⟩
            · have c7b := beq_iff_eq.mpr c7; have c7n := bne_eq_false_iff_eq.mpr c7; try simp only [c7b, c7n, nrm]
              refine w_cond rfl (fun _ => ?_) (fun h => Bool.noConfusion h)
              refine w_seq ?_
              refine wR fun K hK => ?_
              refine g_as rfl rfl (gT ?_)
              refine g_nil (hK _ _ _ ?_)
              refine k_seq ?_
              refine w_ret ?_
              refine fin_wp (τ := []) rfl (by decide) ?_; rw [← Option.some.inj H]; simp only [Tryd.f36]; exact gF
            · have c7b := beq_eq_false_iff_ne.mpr c7; have c7n := bne_iff_ne.mpr c7; try simp only [c7b, c7n, nrm]
              refine w_cond rfl (fun h => Bool.noConfusion h) (fun _ => ?_)
              refine w_skip ?_
              refine k_block ?_
              refine k_seq ?_
              refine w_seq ?_
              refine wR fun K hK => ?_
              refine g_as rfl rfl (gT ?_)
              refine g_nil (hK _ _ _ ?_)
              refine k_seq ?_
              refine w_ret ?_
              refine fin_wp (τ := []) rfl (by decide) ?_; rw [← Option.some.inj H]; simp only [Tryd.f36]; exact gF
set_option maxHeartbeats 8000000 in
set_option maxRecDepth 100000 in
theorem word_Kind.does {k : Nat} {a0 : Int} {r : Int} (H : word_Kind.f k a0 = some r) : Do E0 (.fn 36 [.i .u64 a0] [] (.i .i64 r) []) := by
  obtain ih0 := word_Kind.does_l (a0 := a0) k
  refine fn_wpl Tryd.func36 rfl (Q := (word_Kind.Q a0 r)) (fun s h => h) ?_
  unfold word_Kind.f at H
  simp only [Tryd.ntmps36, List.length, List.replicate, Nat.reduceAdd, Nat.reduceSub, List.cons_append, List.nil_append]
  refine w_seq ?_
  refine wR fun K hK => ?_
  refine g_as rfl rfl (gT ?_)
  refine g_nil (hK _ _ _ ?_)
  refine k_seq ?_
  refine w_seq ?_
  refine w_seq ?_
  refine wR fun K hK => ?_
  refine g_mv rfl rfl (gT ?_)
  obtain ⟨q1, hq1, H⟩ := bnd H
  refine g_cs [] rfl rfl (by rfl) Tryd.func30 rfl (by decide) (word_Exp.does hq1) ⟨Nat.le_of_ble_eq_true rfl, Nat.le_of_ble_eq_true rfl⟩ ?_; refine gC ?_
  refine g_mv rfl rfl (gT ?_)
  obtain ⟨q2, hq2, H⟩ := bnd H
  refine g_cs [] rfl rfl (by rfl) Tryd.func46 rfl (by decide) (word_Frac.does hq2) ⟨Nat.le_of_ble_eq_true rfl, Nat.le_of_ble_eq_true rfl⟩ ?_; refine gC ?_
  refine g_as rfl rfl (gT ?_)
  refine g_as rfl rfl (gT ?_)
  refine g_nil (hK _ _ _ ?_)
  refine k_seq ?_
  refine w_block ?_
  refine w_seq ?_
  refine wR fun K hK => ?_
  refine g_mv rfl rfl (gT ?_)
  refine g_bin rfl rfl rfl rfl rfl (gT ?_)
  refine g_mv rfl rfl (gT ?_)
  rcases its H with ⟨c3, H⟩ | ⟨c3, H⟩
  · have c3b := beq_iff_eq.mpr c3; have c3n := bne_eq_false_iff_eq.mpr c3; try simp only [c3b, c3n, nrm]
    refine g_mv rfl rfl (gT ?_)
    refine g_bin rfl rfl rfl rfl rfl (gT ?_)
    refine g_pick rfl rfl rfl (gT ?_)
    refine g_as rfl rfl (gT ?_)
    refine g_nil (hK _ _ _ ?_)
    refine k_wk (σ := []) [3, 0, 4] rfl (by decide) rfl ?_; refine gC ?_
    exact gI (ih0 q1 q2 (q2 == 0) r H)
  · have c3b := beq_eq_false_iff_ne.mpr c3; have c3n := bne_iff_ne.mpr c3; try simp only [c3b, c3n, nrm]
    refine g_sk rfl rfl (gT ?_)
    refine g_sk rfl rfl (gT ?_)
    refine g_pick rfl rfl rfl (gT ?_)
    refine g_as rfl rfl (gT ?_)
    refine g_nil (hK _ _ _ ?_)
    refine k_wk (σ := []) [3, 0, 4] rfl (by decide) rfl ?_; refine gC ?_
    exact gI (ih0 q1 q2 false r H)

set_option maxHeartbeats 8000000 in
set_option maxRecDepth 100000 in
theorem bal_lone.does_l {a0_0 : Int} {a0_1 : Int} {a0_2 : Int} {l0_3 : List Int} {a1 : Int} {a2 : Int} {a3 : Int} {a4 : Bool} (k : Nat) : (∀ (i_1 : Int) (hi_3 : Int) (column_4 : Bool) (k_11 : Int) (h0_0 : Int) (h0_1 : Int) (h0_2 : Int) (h0_3 : List Int) (r : Bool), bal_lone.l0 k i_1 hi_3 column_4 k_11 h0_0 h0_1 h0_2 h0_3 = some r → wk_ E0 (bal_lone.Q a0_0 a0_1 a0_2 l0_3 a1 a2 a3 a4 r) (frs (bodyOf Tryd.f25) [1, 0, 1, 0] []) (sub (bodyOf Tryd.f25) [1, 0, 1, 0]) ⟨[.u, .i .i64 i_1, .u, .i .i64 hi_3, .b column_4, .p (some (0, 0)), .u, .u, .u, .u, .u, .i .i64 k_11, .u, .u, .u, .u, .u, .u, .u, .u, .u, .u, .u, .u, .u, .u, .u, .u, .u, .u, .u, .u, .u, .u, .u, .u], ofL [.row [.i .i64 h0_0, .i .i64 h0_1, .i .i64 h0_2, .r (h0_3.map (V.i .u64)) h0_3.length true] 0 0 true true none], 1, 0⟩) := by
  induction k with
  | zero => exact fun _ _ _ _ _ _ _ _ r h => by simp [bal_lone.l0] at h
  | succ k ih =>
    have ih0 := ih
    refine ?_
    · intro i_1 hi_3 column_4 k_11 h0_0 h0_1 h0_2 h0_3 r H
      unfold bal_lone.l0 at H
      simp only [bodyOf, Tryd.f25, frs, sub, if_true, if_false, Nat.one_ne_zero]
      refine w_loop ?_
      refine w_seq ?_
      refine w_seq ?_
      refine wR fun K hK => ?_
      refine g_mv rfl rfl (gT ?_)
      refine g_mv rfl rfl (gT ?_)
      refine g_bin rfl rfl rfl rfl rfl (gT ?_)
      refine g_nil (hK _ _ _ ?_)
      refine k_seq ?_
      rcases its H with ⟨c1, H⟩ | ⟨c1, H⟩
      · have c1b := decide_eq_true c1; try simp only [c1b, nrm]
        refine w_cond rfl (fun _ => ?_) (fun h => Bool.noConfusion h)
        refine w_skip ?_
        refine k_seq ?_
        refine w_seq ?_
        refine w_block ?_
        refine w_seq ?_
        refine wR fun K hK => ?_
        refine g_lda rfl rfl ag26 sz26 rfl rfl (Nat.le_of_ble_eq_true rfl) (gT ?_)
        refine g_mv rfl rfl (gT ?_)
        refine g_mv rfl rfl (gT ?_)
        obtain ⟨q2, hq2, H⟩ := bnd H
        refine g_cs [] rfl rfl (by rfl) Tryd.func12 rfl (by decide) (mat_Matrix_At.does hq2) ⟨Nat.le_of_ble_eq_true rfl, Nat.le_of_ble_eq_true rfl⟩ ?_; refine gC ?_
        refine g_as rfl rfl (gT ?_)
        refine g_nil (hK _ _ _ ?_)
        refine k_seq ?_
        refine w_seq ?_
        refine w_seq ?_
        refine wR fun K hK => ?_
        refine g_mv rfl rfl (gT ?_)
        refine g_nil (hK _ _ _ ?_)
        refine k_seq ?_
        rcases its H with ⟨c3, H⟩ | ⟨c3, H⟩
        · have c3b : column_4 = true := c3; try simp only [c3b, nrm]
          refine w_cond rfl (fun _ => ?_) (fun h => Bool.noConfusion h)
          refine wR fun K hK => ?_
          refine g_lda rfl rfl ag26 sz26 rfl rfl (Nat.le_of_ble_eq_true rfl) (gT ?_)
          refine g_mv rfl rfl (gT ?_)
          refine g_mv rfl rfl (gT ?_)
          obtain ⟨q4, hq4, H⟩ := bnd H
          refine g_cs [] rfl rfl (by rfl) Tryd.func12 rfl (by decide) (mat_Matrix_At.does hq4) ⟨Nat.le_of_ble_eq_true rfl, Nat.le_of_ble_eq_true rfl⟩ ?_; refine gC ?_
          refine g_as rfl rfl (gT ?_)
          refine g_nil (hK _ _ _ ?_)
          refine k_seq ?_
          refine w_seq ?_
          refine wR fun K hK => ?_
          refine g_mv rfl rfl (gT ?_)
          refine g_mv rfl rfl (gT ?_)
          refine g_bin rfl rfl rfl rfl rfl (gT ?_)
          refine g_mv rfl rfl (gT ?_)
          rcases its H with ⟨c5, H⟩ | ⟨c5, H⟩
          · have c5b := beq_iff_eq.mpr c5; have c5n := bne_eq_false_iff_eq.mpr c5; try simp only [c5b, c5n, nrm]
            refine g_sk rfl rfl (gT ?_)
            refine g_sk rfl rfl (gT ?_)
            refine g_sk rfl rfl (gT ?_)
            refine g_pick rfl rfl rfl (gT ?_)
            refine g_nil (hK _ _ _ ?_)
            refine k_seq ?_
            refine w_cond rfl (fun h => Bool.noConfusion h) (fun _ => ?_)
            refine w_skip ?_
            refine k_block ?_
            refine k_seq ?_
            refine wR fun K hK => ?_
            refine g_mv rfl rfl (gT ?_)
            refine g_bin rfl rfl rfl rfl rfl (gT ?_)
            refine g_as rfl rfl (gT ?_)
            refine g_nil (hK _ _ _ ?_)
            refine k_loop ?_
            refine w_wk (σ := [0]) [1, 1, 0, 0, 5] rfl (by decide) ?_; refine gC ?_
            exact gI (ih0 i_1 hi_3 true (wrap64 (k_11 + 1)) h0_0 h0_1 h0_2 h0_3 r H)
          · have c5b := beq_eq_false_iff_ne.mpr c5; have c5n := bne_iff_ne.mpr c5; try simp only [c5b, c5n, nrm]
            refine g_mv rfl rfl (gT ?_)
            obtain ⟨q6, hq6, H⟩ := bnd H
            refine g_cs [] rfl rfl (by rfl) Tryd.func36 rfl (by decide) (word_Kind.does hq6) ⟨Nat.le_of_ble_eq_true rfl, Nat.le_of_ble_eq_true rfl⟩ ?_; refine gC ?_
            refine g_bin rfl rfl rfl rfl rfl (gT ?_)
            refine g_pick rfl rfl rfl (gT ?_)
            refine g_nil (hK _ _ _ ?_)
            refine k_seq ?_
            rcases its H with ⟨c7, H⟩ | ⟨c7, H⟩
            · have c7b := beq_iff_eq.mpr c7; have c7n := bne_eq_false_iff_eq.mpr c7; try simp only [c7b, c7n, nrm]
              refine w_cond rfl (fun h => Bool.noConfusion h) (fun _ => ?_)
              refine w_skip ?_
              refine k_block ?_
              refine k_seq ?_
              refine wR fun K hK => ?_
              refine g_mv rfl rfl (gT ?_)
              refine g_bin rfl rfl rfl rfl rfl (gT ?_)
              refine g_as rfl rfl (gT ?_)
              refine g_nil (hK _ _ _ ?_)
              refine k_loop ?_
              refine w_wk (σ := [0]) [1, 1, 0, 0, 5] rfl (by decide) ?_; refine gC ?_
              exact gI (ih0 i_1 hi_3 true (wrap64 (k_11 + 1)) h0_0 h0_1 h0_2 h0_3 r H)
            · have c7b := beq_eq_false_iff_ne.mpr c7; have c7n := bne_iff_ne.mpr c7; try simp only [c7b, c7n, nrm]
              refine w_cond rfl (fun _ => ?_) (fun h => Bool.noConfusion h)
              refine w_seq ?_
              refine wR fun K hK => ?_
              refine g_as rfl rfl (gT ?_)
              refine g_nil (hK _ _ _ ?_)
              refine k_seq ?_
              refine w_ret ?_
              refine fin_wp (τ := []) rfl (by decide) ?_; rw [← Option.some.inj H]; simp only [Tryd.f25]; exact gF
        · have c3b : column_4 = false := Bool.eq_false_iff.mpr c3; try simp only [c3b, nrm]
          refine w_cond rfl (fun h => Bool.noConfusion h) (fun _ => ?_)
          refine w_skip ?_
          refine k_seq ?_
          refine w_seq ?_
          refine wR fun K hK => ?_
          refine g_mv rfl rfl (gT ?_)
          refine g_mv rfl rfl (gT ?_)
          refine g_bin rfl rfl rfl rfl rfl (gT ?_)
          refine g_mv rfl rfl (gT ?_)
          rcases its H with ⟨c8, H⟩ | ⟨c8, H⟩
          · have c8b := beq_iff_eq.mpr c8; have c8n := bne_eq_false_iff_eq.mpr c8; try simp only [c8b, c8n, nrm]
            refine g_sk rfl rfl (gT ?_)
            refine g_sk rfl rfl (gT ?_)
            refine g_sk rfl rfl (gT ?_)
            refine g_pick rfl rfl rfl (gT ?_)
            refine g_nil (hK _ _ _ ?_)
            refine k_seq ?_
            refine w_cond rfl (fun h => Bool.noConfusion h) (fun _ => ?_)
            refine w_skip ?_
            refine k_block ?_
            refine k_seq ?_
            refine wR fun K hK => ?_
            refine g_mv rfl rfl (gT ?_)
            refine g_bin rfl rfl rfl rfl rfl (gT ?_)
            refine g_as rfl rfl (gT ?_)
            refine g_nil (hK _ _ _ ?_)
            refine k_loop ?_
            refine w_wk (σ := [0]) [1, 1, 0, 0, 5] rfl (by decide) ?_; refine gC ?_
            exact gI (ih0 i_1 hi_3 false (wrap64 (k_11 + 1)) h0_0 h0_1 h0_2 h0_3 r H)
          · have c8b := beq_eq_false_iff_ne.mpr c8; have c8n := bne_iff_ne.mpr c8; try simp only [c8b, c8n, nrm]
            refine g_mv rfl rfl (gT ?_)
            obtain ⟨q9, hq9, H⟩ := bnd H
            refine g_cs [] rfl rfl (by rfl) Tryd.func36 rfl (by decide) (word_Kind.does hq9) ⟨Nat.le_of_ble_eq_true rfl, Nat.le_of_ble_eq_true rfl⟩ ?_; refine gC ?_
            refine g_bin rfl rfl rfl rfl rfl (gT ?_)
            refine g_pick rfl rfl rfl (gT ?_)
            refine g_nil (hK _ _ _ ?_)
            refine k_seq ?_
            rcases its H with ⟨c10, H⟩ | ⟨c10, H⟩
            · have c10b := beq_iff_eq.mpr c10; have c10n := bne_eq_false_iff_eq.mpr c10; try simp only [c10b, c10n, nrm]
              refine w_cond rfl (fun h => Bool.noConfusion h) (fun _ => ?_)
              refine w_skip ?_
              refine k_block ?_
              refine k_seq ?_
              refine wR fun K hK => ?_
              refine g_mv rfl rfl (gT ?_)
              refine g_bin rfl rfl rfl rfl rfl (gT ?_)
              refine g_as rfl rfl (gT ?_)
              refine g_nil (hK _ _ _ ?_)
              refine k_loop ?_
              refine w_wk (σ := [0]) [1, 1, 0, 0, 5] rfl (by decide) ?_; refine gC ?_
              exact gI (ih0 i_1 hi_3 false (wrap64 (k_11 + 1)) h0_0 h0_1 h0_2 h0_3 r H)
            · have c10b := beq_eq_false_iff_ne.mpr c10; have c10n := bne_iff_ne.mpr c10; try simp only [c10b, c10n, nrm]
              refine w_cond rfl (fun _ => ?_) (fun h => Bool.noConfusion h)
              refine w_seq ?_
              refine wR fun K hK => ?_
              refine g_as rfl rfl (gT ?_)
              refine g_nil (hK _ _ _ ?_)
              refine k_seq ?_
              refine w_ret ?_
              refine fin_wp (τ := []) rfl (by decide) ?_; rw [← Option.some.inj H]; simp only [Tryd.f25]; exact gF
      · have c1b := decide_eq_false c1; try simp only [c1b, nrm]
        refine w_cond rfl (fun h => Bool.noConfusion h) (fun _ => ?_)
        refine w_exit rfl ?_
        refine k_seq ?_
        refine w_seq ?_
        refine wR fun K hK => ?_
        refine g_as rfl rfl (gT ?_)
        refine g_nil (hK _ _ _ ?_)
        refine k_seq ?_
        refine w_ret ?_
        refine fin_wp (τ := []) rfl (by decide) ?_; rw [← Option.some.inj H]; simp only [Tryd.f25]; exact gF
set_option maxHeartbeats 8000000 in
set_option maxRecDepth 100000 in
theorem bal_lone.does {k : Nat} {a0_0 : Int} {a0_1 : Int} {a0_2 : Int} {l0_3 : List Int} {a1 : Int} {a2 : Int} {a3 : Int} {a4 : Bool} {r : Bool} (H : bal_lone.f k a0_0 a0_1 a0_2 l0_3 a1 a2 a3 a4 = some r) : Do E0 (.fn 25 [.a [.i .i64 a0_0, .i .i64 a0_1, .i .i64 a0_2, .r (l0_3.map (V.i .u64)) l0_3.length true], .i .i64 a1, .i .i64 a2, .i .i64 a3, .b a4] [] (.b r) []) := by
  obtain ih0 := bal_lone.does_l (a0_0 := a0_0) (a0_1 := a0_1) (a0_2 := a0_2) (l0_3 := l0_3) (a1 := a1) (a2 := a2) (a3 := a3) (a4 := a4) k
  refine fn_wpl Tryd.func25 rfl (Q := (bal_lone.Q a0_0 a0_1 a0_2 l0_3 a1 a2 a3 a4 r)) (fun s h => h) ?_
  unfold bal_lone.f at H
  simp only [Tryd.ntmps25, List.length, List.replicate, Nat.reduceAdd, Nat.reduceSub, List.cons_append, List.nil_append]
  refine w_seq ?_
  refine wR fun K hK => ?_
  refine g_box rfl rfl rfl (by rfl) (gU ?_)
  refine g_as rfl rfl (gT ?_)
  refine g_nil (hK _ _ _ ?_)
  refine k_seq ?_
  refine w_seq ?_
  refine w_seq ?_
  refine wR fun K hK => ?_
  refine g_mv rfl rfl (gT ?_)
  refine g_as rfl rfl (gT ?_)
  refine g_nil (hK _ _ _ ?_)
  refine k_seq ?_
  refine w_block ?_
  refine w_wk (σ := [0]) [1, 1, 0, 0, 5] rfl (by decide) ?_; refine gC ?_
  exact gI (ih0 a1 a3 a4 a2 a0_0 a0_1 a0_2 l0_3 r H)

theorem bal_swap.len_l (k : Nat) : (∀ (i_2 : Int) (k_3 : Int) (t_44 : Int) (t_45 : Int) (h0 : List Int) (h1_0 : Int) (h1_1 : Int) (h2 : List Int) (h3 : List Int) (h4_0 : Int) (h4_2 : Int) (r : (List Int) × Int × Int × (List Int) × (List Int)), bal_swap.l0 k i_2 k_3 t_44 t_45 h0 h1_0 h1_1 h2 h3 h4_0 h4_2 = some r → r.1.length = h0.length ∧ r.2.2.2.1.length = h2.length ∧ r.2.2.2.2.length = h3.length) ∧
    (∀ (i_2 : Int) (k_3 : Int) (t_68 : Int) (t_69 : Int) (h0 : List Int) (h1_0 : Int) (h1_1 : Int) (h2 : List Int) (h3 : List Int) (h4_1 : Int) (h4_2 : Int) (r : (List Int) × Int × Int × (List Int) × (List Int)), bal_swap.l1 k i_2 k_3 t_68 t_69 h0 h1_0 h1_1 h2 h3 h4_1 h4_2 = some r → r.1.length = h0.length ∧ r.2.2.2.1.length = h2.length ∧ r.2.2.2.2.length = h3.length) := by
  induction k with
  | zero => exact ⟨fun _ _ _ _ _ _ _ _ _ _ _ r h => by simp [bal_swap.l0] at h, fun _ _ _ _ _ _ _ _ _ _ _ r h => by simp [bal_swap.l1] at h⟩
  | succ k ih =>
    obtain ⟨ih0, ih1⟩ := ih
    refine ⟨?_, ?_⟩
    · intro i_2 k_3 t_44 t_45 h0 h1_0 h1_1 h2 h3 h4_0 h4_2 r H
      unfold bal_swap.l0 at H
      rcases its H with ⟨c6, H⟩ | ⟨c6, H⟩
      · skip
        obtain ⟨q7, hq7, H⟩ := bnd H
        obtain ⟨q8, hq8, H⟩ := bnd H
        obtain ⟨q9, hq9, H⟩ := bnd H
        have zq9_0 := mat_Matrix_Set.len hq9
        (try simp only [List.length_set, List.length_replicate, List.length_append, List.length_cons, List.length_nil, Nat.zero_add] at zq9_0)
        obtain ⟨q10, hq10, H⟩ := bnd H
        have zq10_0 := mat_Matrix_Set.len hq10
        (try simp only [List.length_set, List.length_replicate, List.length_append, List.length_cons, List.length_nil, Nat.zero_add] at zq10_0)
        have ih_ := ih0 i_2 k_3 t_44 (wrap64 (t_45 + 1)) q10 h1_0 h1_1 h2 h3 h4_0 h4_2 r H; first | exact ih_ | omega | (simp only [List.length_set, List.length_append, List.length_replicate] at ih_ ⊢; omega)
      · skip
        have ih_ := ih1 i_2 k_3 h4_0 0 h0 h1_0 h1_1 h2 h3 t_44 h4_2 r H; first | exact ih_ | omega | (simp only [List.length_set, List.length_append, List.length_replicate] at ih_ ⊢; omega)
    · intro i_2 k_3 t_68 t_69 h0 h1_0 h1_1 h2 h3 h4_1 h4_2 r H
      unfold bal_swap.l1 at H
      rcases its H with ⟨c11, H⟩ | ⟨c11, H⟩
      · skip
        obtain ⟨q12, hq12, H⟩ := bnd H
        obtain ⟨q13, hq13, H⟩ := bnd H
        obtain ⟨q14, hq14, H⟩ := bnd H
        have zq14_0 := mat_Matrix_Set.len hq14
        (try simp only [List.length_set, List.length_replicate, List.length_append, List.length_cons, List.length_nil, Nat.zero_add] at zq14_0)
        obtain ⟨q15, hq15, H⟩ := bnd H
        have zq15_0 := mat_Matrix_Set.len hq15
        (try simp only [List.length_set, List.length_replicate, List.length_append, List.length_cons, List.length_nil, Nat.zero_add] at zq15_0)
        have ih_ := ih1 i_2 k_3 t_68 (wrap64 (t_69 + 1)) q15 h1_0 h1_1 h2 h3 h4_1 h4_2 r H; first | exact ih_ | omega | (simp only [List.length_set, List.length_append, List.length_replicate] at ih_ ⊢; omega)
      · skip
        have hr_ := Option.some.inj H; clear H; subst hr_; (repeat' apply And.intro) <;> first | rfl | omega | (simp only [List.length_set, cpy_len]; done) | (simp only [List.length_set, cpy_len]; omega)
theorem bal_swap.len {k : Nat} {a0_0 : Int} {a0_1 : Int} {a0_2 : Int} {l0_3 : List Int} {l1_0 : List Int} {l1_1 : List Int} {s1_2 : Int} {s1_3 : Int} {a2 : Int} {a3 : Int} {r : (List Int) × Int × Int × (List Int) × (List Int)} (H : bal_swap.f k a0_0 a0_1 a0_2 l0_3 l1_0 l1_1 s1_2 s1_3 a2 a3 = some r) : r.1.length = l0_3.length ∧ r.2.2.2.1.length = l1_0.length ∧ r.2.2.2.2.length = l1_1.length := by
  obtain ⟨ih0, ih1⟩ := bal_swap.len_l k
  unfold bal_swap.f at H
  rcases its H with ⟨c1, H⟩ | ⟨c1, H⟩
  · skip
    have hr_ := Option.some.inj H; clear H; subst hr_; (repeat' apply And.intro) <;> first | rfl | omega | (simp only [List.length_set, cpy_len]; done) | (simp only [List.length_set, cpy_len]; omega)
  · skip
    obtain ⟨c2, H⟩ := it1 H
    obtain ⟨c3, H⟩ := it1 H
    obtain ⟨c4, H⟩ := it1 H
    obtain ⟨c5, H⟩ := it1 H
    have ih_ := ih0 a2 a3 a0_1 0 l0_3 s1_2 s1_3 ((l1_0.set a2.toNat (rd l1_0 a3)).set a3.toNat (rd l1_0 a2)) l1_1 a0_0 a0_2 r H; first | exact ih_ | omega | (simp only [List.length_set, List.length_append, List.length_replicate] at ih_ ⊢; omega)
set_option maxHeartbeats 8000000 in
set_option maxRecDepth 100000 in
theorem bal_swap.does_l {a0_0 : Int} {a0_1 : Int} {a0_2 : Int} {l0_3 : List Int} {l1_0 : List Int} {l1_1 : List Int} {s1_2 : Int} {s1_3 : Int} {a2 : Int} {a3 : Int} (k : Nat) : (∀ (i_2 : Int) (k_3 : Int) (t_44 : Int) (t_45 : Int) (h0 : List Int) (h1_0 : Int) (h1_1 : Int) (h2 : List Int) (h3 : List Int) (h4_0 : Int) (h4_2 : Int) (r : (List Int) × Int × Int × (List Int) × (List Int)), bal_swap.l0 k i_2 k_3 t_44 t_45 h0 h1_0 h1_1 h2 h3 h4_0 h4_2 = some r → wk_ E0 (bal_swap.Q a0_0 a0_1 a0_2 l0_3 l1_0 l1_1 s1_2 s1_3 a2 a3 r) (frs (bodyOf Tryd.f26) [1, 1, 1, 0, 1, 0] []) (sub (bodyOf Tryd.f26) [1, 1, 1, 0, 1, 0]) ⟨[.u, .u, .i .i64 i_2, .i .i64 k_3, .p (some (4, 0)), .u, .u, .u, .u, .u, .u, .u, .u, .u, .u, .u, .u, .u, .u, .u, .u, .u, .u, .u, .u, .u, .u, .u, .u, .u, .u, .u, .u, .u, .u, .u, .u, .u, .u, .u, .u, .u, .u, .u, .i .i64 t_44, .i .i64 t_45, .u, .u, .u, .u, .u, .u, .u, .u, .u, .u, .u, .u, .u, .u, .u, .u, .u, .u, .u, .u, .u, .u, .u, .u, .u, .u, .u, .u, .u, .u, .u, .u, .u, .u, .u, .u, .u, .u, .u, .u, .u, .u, .u, .u, .u], ofL [.row (h0.map (V.i .u64)) 2 1 true false none, .row [.s (some (2, 0)) h2.length, .s (some (3, 0)) h3.length, .i .i64 h1_0, .i .i64 h1_1] 0 0 true false none, .row (h2.map (V.i .i64)) 2 1 true false none, .row (h3.map (V.i .i64)) 2 1 true false none, .row [.i .i64 h4_0, .i .i64 t_44, .i .i64 h4_2, .s (some (0, 0)) h0.length] 0 0 true true none], 5, 4⟩) ∧
    (∀ (i_2 : Int) (k_3 : Int) (t_68 : Int) (t_69 : Int) (h0 : List Int) (h1_0 : Int) (h1_1 : Int) (h2 : List Int) (h3 : List Int) (h4_1 : Int) (h4_2 : Int) (r : (List Int) × Int × Int × (List Int) × (List Int)), bal_swap.l1 k i_2 k_3 t_68 t_69 h0 h1_0 h1_1 h2 h3 h4_1 h4_2 = some r → wk_ E0 (bal_swap.Q a0_0 a0_1 a0_2 l0_3 l1_0 l1_1 s1_2 s1_3 a2 a3 r) (frs (bodyOf Tryd.f26) [1, 1, 1, 1, 1, 0] []) (sub (bodyOf Tryd.f26) [1, 1, 1, 1, 1, 0]) ⟨[.u, .u, .i .i64 i_2, .i .i64 k_3, .p (some (4, 0)), .u, .u, .u, .u, .u, .u, .u, .u, .u, .u, .u, .u, .u, .u, .u, .u, .u, .u, .u, .u, .u, .u, .u, .u, .u, .u, .u, .u, .u, .u, .u, .u, .u, .u, .u, .u, .u, .u, .u, .u, .u, .u, .u, .u, .u, .u, .u, .u, .u, .u, .u, .u, .u, .u, .u, .u, .u, .u, .u, .u, .u, .u, .u, .i .i64 t_68, .i .i64 t_69, .u, .u, .u, .u, .u, .u, .u, .u, .u, .u, .u, .u, .u, .u, .u, .u, .u, .u, .u, .u, .u], ofL [.row (h0.map (V.i .u64)) 2 1 true false none, .row [.s (some (2, 0)) h2.length, .s (some (3, 0)) h3.length, .i .i64 h1_0, .i .i64 h1_1] 0 0 true false none, .row (h2.map (V.i .i64)) 2 1 true false none, .row (h3.map (V.i .i64)) 2 1 true false none, .row [.i .i64 t_68, .i .i64 h4_1, .i .i64 h4_2, .s (some (0, 0)) h0.length] 0 0 true true none], 5, 4⟩) := by
  induction k with
  | zero => exact ⟨fun _ _ _ _ _ _ _ _ _ _ _ r h => by simp [bal_swap.l0] at h, fun _ _ _ _ _ _ _ _ _ _ _ r h => by simp [bal_swap.l1] at h⟩
  | succ k ih =>
    obtain ⟨ih0, ih1⟩ := ih
    refine ⟨?_, ?_⟩
    · intro i_2 k_3 t_44 t_45 h0 h1_0 h1_1 h2 h3 h4_0 h4_2 r H
      unfold bal_swap.l0 at H
      simp only [bodyOf, Tryd.f26, frs, sub, if_true, if_false, Nat.one_ne_zero]
      refine w_loop ?_
      refine w_seq ?_
      refine wR fun K hK => ?_
      refine g_bin rfl rfl rfl rfl rfl (gT ?_)
      refine g_nil (hK _ _ _ ?_)
      refine k_seq ?_
      refine w_seq ?_
      rcases its H with ⟨c6, H⟩ | ⟨c6, H⟩
      · have c6b := decide_eq_true c6; try simp only [c6b, nrm]
        refine w_cond rfl (fun _ => ?_) (fun h => Bool.noConfusion h)
        refine w_skip ?_
        refine k_seq ?_
        refine w_seq ?_
        refine w_block ?_
        refine w_seq ?_
        refine wR fun K hK => ?_
        refine g_mv rfl rfl (gT ?_)
        refine g_as rfl rfl (gT ?_)
        refine g_nil (hK _ _ _ ?_)
        refine k_seq ?_
        refine w_seq ?_
        refine wD fun K hK => ?_
        refine g_lda rfl rfl ag26 sz26 rfl rfl (Nat.le_of_ble_eq_true rfl) (gT ?_)
        refine g_mv rfl rfl (gT ?_)
        refine g_mv rfl rfl (gT ?_)
        obtain ⟨q7, hq7, H⟩ := bnd H
        refine g_cs [] rfl rfl (by rfl) Tryd.func12 rfl (by decide) (mat_Matrix_At.does hq7) ⟨Nat.le_of_ble_eq_true rfl, Nat.le_of_ble_eq_true rfl⟩ ?_; refine gC ?_
        refine g_lda rfl rfl ag26 sz26 rfl rfl (Nat.le_of_ble_eq_true rfl) (gT ?_)
        refine g_mv rfl rfl (gT ?_)
        refine g_mv rfl rfl (gT ?_)
        obtain ⟨q8, hq8, H⟩ := bnd H
        refine g_cs [] rfl rfl (by rfl) Tryd.func12 rfl (by decide) (mat_Matrix_At.does hq8) ⟨Nat.le_of_ble_eq_true rfl, Nat.le_of_ble_eq_true rfl⟩ ?_; refine gC ?_
        refine g_as rfl rfl (gT ?_)
        refine g_as rfl rfl (gT ?_)
        refine g_nil (hK _ _ _ (by kernel_rfl) ?_)
        refine k_seq ?_
        refine w_seq ?_
        refine wR fun K hK => ?_
        refine g_lda rfl rfl ag26 sz26 rfl rfl (Nat.le_of_ble_eq_true rfl) (gT ?_)
        refine g_mv rfl rfl (gT ?_)
        refine g_mv rfl rfl (gT ?_)
        refine g_mv rfl rfl (gT ?_)
        obtain ⟨q9, hq9, H⟩ := bnd H
        have zq9_0 := mat_Matrix_Set.len hq9
        (try simp only [List.length_set, List.length_replicate, List.length_append, List.length_cons, List.length_nil, Nat.zero_add] at zq9_0)
        refine g_cs [0] rfl rfl (by rfl) Tryd.func22 rfl (by decide) (mat_Matrix_Set.does hq9) ⟨Nat.le_of_ble_eq_true rfl, Nat.le_of_ble_eq_true rfl⟩ ?_; simp only [nrm, nrmw, nrmc, nrme, nrmo, nrml, nrmb, nrmx, Nat.reduceEqDiff, Nat.reduceBEq, Nat.zero_add, Nat.add_zero, Nat.mul_one, List.length_cons, List.length_nil, List.length_map, List.length_set, List.length_replicate, List.drop_zero, List.drop_succ_cons, List.drop_nil, List.take_zero, List.take_succ_cons, List.take_nil, Nat.le_refl, if_true, if_false, Option.any_none, Option.any_some, List.contains_nil, Bool.not_false, Bool.or_true, Bool.true_or, Bool.or_false, Bool.false_or, Bool.and_true, Bool.true_and, Bool.and_self, reduceCtorEq, beq_self_eq_true, List.map_cons, List.map_nil, List.append_nil, List.nil_append, List.contains_cons, List.filter_cons, List.filter_nil, List.cons_append, Bool.false_eq_true, true_and, and_true, List.getElem_toArray, List.getElem_cons_zero, List.getElem_cons_succ, Nat.reduceAdd, Nat.reduceMul, Nat.reduceLT, Nat.reduceSub, Nat.reduceLeDiff, ← zq9_0]
        refine g_nil (hK _ _ _ ?_)
        refine k_seq ?_
        refine wR fun K hK => ?_
        refine g_lda rfl rfl ag26 sz26 rfl rfl (Nat.le_of_ble_eq_true rfl) (gT ?_)
        refine g_mv rfl rfl (gT ?_)
        refine g_mv rfl rfl (gT ?_)
        refine g_mv rfl rfl (gT ?_)
        obtain ⟨q10, hq10, H⟩ := bnd H
        have zq10_0 := mat_Matrix_Set.len hq10
        (try simp only [List.length_set, List.length_replicate, List.length_append, List.length_cons, List.length_nil, Nat.zero_add] at zq10_0)
        refine g_cs [0] rfl rfl (by rfl) Tryd.func22 rfl (by decide) (mat_Matrix_Set.does hq10) ⟨Nat.le_of_ble_eq_true rfl, Nat.le_of_ble_eq_true rfl⟩ ?_; simp only [nrm, nrmw, nrmc, nrme, nrmo, nrml, nrmb, nrmx, Nat.reduceEqDiff, Nat.reduceBEq, Nat.zero_add, Nat.add_zero, Nat.mul_one, List.length_cons, List.length_nil, List.length_map, List.length_set, List.length_replicate, List.drop_zero, List.drop_succ_cons, List.drop_nil, List.take_zero, List.take_succ_cons, List.take_nil, Nat.le_refl, if_true, if_false, Option.any_none, Option.any_some, List.contains_nil, Bool.not_false, Bool.or_true, Bool.true_or, Bool.or_false, Bool.false_or, Bool.and_true, Bool.true_and, Bool.and_self, reduceCtorEq, beq_self_eq_true, List.map_cons, List.map_nil, List.append_nil, List.nil_append, List.contains_cons, List.filter_cons, List.filter_nil, List.cons_append, Bool.false_eq_true, true_and, and_true, List.getElem_toArray, List.getElem_cons_zero, List.getElem_cons_succ, Nat.reduceAdd, Nat.reduceMul, Nat.reduceLT, Nat.reduceSub, Nat.reduceLeDiff, ← zq10_0]
        refine g_nil (hK _ _ _ ?_)
        refine k_block ?_
        refine k_seq ?_
        refine wR fun K hK => ?_
        refine g_bin rfl rfl rfl rfl rfl (gT ?_)
        refine g_mv rfl rfl (gT ?_)
        refine g_nil (hK _ _ _ ?_)
        refine k_loop ?_
        refine w_wk (σ := [0, 1, 2, 3, 4]) [2, 0, 0, 39, 0] rfl (by decide) ?_; refine gC ?_
        exact gI (ih0 i_2 k_3 t_44 (wrap64 (t_45 + 1)) q10 h1_0 h1_1 h2 h3 h4_0 h4_2 r H)
      · have c6b := decide_eq_false c6; try simp only [c6b, nrm]
        refine w_cond rfl (fun h => Bool.noConfusion h) (fun _ => ?_)
        refine w_exit rfl ?_
        refine k_seq ?_
        refine w_seq ?_
        refine wR fun K hK => ?_
        refine g_fd rfl rfl fa26_0 rfl (gT ?_)
        refine g_ldc rfl rfl ag3 sz3 rfl rfl rfl (gT ?_)
        refine g_mv rfl rfl (gT ?_)
        refine g_nil (hK _ _ _ ?_)
        refine k_seq ?_
        refine w_block ?_
        refine w_wk (σ := [0, 1, 2, 3, 4]) [2, 0, 0, 63, 0] rfl (by decide) ?_; refine gC ?_
        exact gI (ih1 i_2 k_3 h4_0 0 h0 h1_0 h1_1 h2 h3 t_44 h4_2 r H)
    · intro i_2 k_3 t_68 t_69 h0 h1_0 h1_1 h2 h3 h4_1 h4_2 r H
      unfold bal_swap.l1 at H
      simp only [bodyOf, Tryd.f26, frs, sub, if_true, if_false, Nat.one_ne_zero]
      refine w_loop ?_
      refine w_seq ?_
      refine wR fun K hK => ?_
      refine g_bin rfl rfl rfl rfl rfl (gT ?_)
      refine g_nil (hK _ _ _ ?_)
      refine k_seq ?_
      refine w_seq ?_
      rcases its H with ⟨c11, H⟩ | ⟨c11, H⟩
      · have c11b := decide_eq_true c11; try simp only [c11b, nrm]
        refine w_cond rfl (fun _ => ?_) (fun h => Bool.noConfusion h)
        refine w_skip ?_
        refine k_seq ?_
        refine w_seq ?_
        refine w_block ?_
        refine w_seq ?_
        refine wR fun K hK => ?_
        refine g_mv rfl rfl (gT ?_)
        refine g_as rfl rfl (gT ?_)
        refine g_nil (hK _ _ _ ?_)
        refine k_seq ?_
        refine w_seq ?_
        refine wD fun K hK => ?_
        refine g_lda rfl rfl ag26 sz26 rfl rfl (Nat.le_of_ble_eq_true rfl) (gT ?_)
        refine g_mv rfl rfl (gT ?_)
        refine g_mv rfl rfl (gT ?_)
        obtain ⟨q12, hq12, H⟩ := bnd H
        refine g_cs [] rfl rfl (by rfl) Tryd.func12 rfl (by decide) (mat_Matrix_At.does hq12) ⟨Nat.le_of_ble_eq_true rfl, Nat.le_of_ble_eq_true rfl⟩ ?_; refine gC ?_
        refine g_lda rfl rfl ag26 sz26 rfl rfl (Nat.le_of_ble_eq_true rfl) (gT ?_)
        refine g_mv rfl rfl (gT ?_)
        refine g_mv rfl rfl (gT ?_)
        obtain ⟨q13, hq13, H⟩ := bnd H
        refine g_cs [] rfl rfl (by rfl) Tryd.func12 rfl (by decide) (mat_Matrix_At.does hq13) ⟨Nat.le_of_ble_eq_true rfl, Nat.le_of_ble_eq_true rfl⟩ ?_; refine gC ?_
        refine g_as rfl rfl (gT ?_)
        refine g_as rfl rfl (gT ?_)
        refine g_nil (hK _ _ _ (by kernel_rfl) ?_)
        refine k_seq ?_
        refine w_seq ?_
        refine wR fun K hK => ?_
        refine g_lda rfl rfl ag26 sz26 rfl rfl (Nat.le_of_ble_eq_true rfl) (gT ?_)
        refine g_mv rfl rfl (gT ?_)
        refine g_mv rfl rfl (gT ?_)
        refine g_mv rfl rfl (gT ?_)
        obtain ⟨q14, hq14, H⟩ := bnd H
        have zq14_0 := mat_Matrix_Set.len hq14
        (try simp only [List.length_set, List.length_replicate, List.length_append, List.length_cons, List.length_nil, Nat.zero_add] at zq14_0)
        refine g_cs [0] rfl rfl (by rfl) Tryd.func22 rfl (by decide) (mat_Matrix_Set.does hq14) ⟨Nat.le_of_ble_eq_true rfl, Nat.le_of_ble_eq_true rfl⟩ ?_; simp only [nrm, nrmw, nrmc, nrme, nrmo, nrml, nrmb, nrmx, Nat.reduceEqDiff, Nat.reduceBEq, Nat.zero_add, Nat.add_zero, Nat.mul_one, List.length_cons, List.length_nil, List.length_map, List.length_set, List.length_replicate, List.drop_zero, List.drop_succ_cons, List.drop_nil, List.take_zero, List.take_succ_cons, List.take_nil, Nat.le_refl, if_true, if_false, Option.any_none, Option.any_some, List.contains_nil, Bool.not_false, Bool.or_true, Bool.true_or, Bool.or_false, Bool.false_or, Bool.and_true, Bool.true_and, Bool.and_self, reduceCtorEq, beq_self_eq_true, List.map_cons, List.map_nil, List.append_nil, List.nil_append, List.contains_cons, List.filter_cons, List.filter_nil, List.cons_append, Bool.false_eq_true, true_and, and_true, List.getElem_toArray, List.getElem_cons_zero, List.getElem_cons_succ, Nat.reduceAdd, Nat.reduceMul, Nat.reduceLT, Nat.reduceSub, Nat.reduceLeDiff, ← zq14_0]
        refine g_nil (hK _ _ _ ?_)
        refine k_seq ?_
        refine wR fun K hK => ?_
        refine g_lda rfl rfl ag26 sz26 rfl rfl (Nat.le_of_ble_eq_true rfl) (gT ?_)
        refine g_mv rfl rfl (gT ?_)
        refine g_mv rfl rfl (gT ?_)
        refine g_mv rfl rfl (gT ?_)
        obtain ⟨q15, hq15, H⟩ := bnd H
        have zq15_0 := mat_Matrix_Set.len hq15
        (try simp only [List.length_set, List.length_replicate, List.length_append, List.length_cons, List.length_nil, Nat.zero_add] at zq15_0)
        refine g_cs [0] rfl rfl (by rfl) Tryd.func22 rfl (by decide) (mat_Matrix_Set.does hq15) ⟨Nat.le_of_ble_eq_true rfl, Nat.le_of_ble_eq_true rfl⟩ ?_; simp only [nrm, nrmw, nrmc, nrme, nrmo, nrml, nrmb, nrmx, Nat.reduceEqDiff, Nat.reduceBEq, Nat.zero_add, Nat.add_zero, Nat.mul_one, List.length_cons, List.length_nil, List.length_map, List.length_set, List.length_replicate, List.drop_zero, List.drop_succ_cons, List.drop_nil, List.take_zero, List.take_succ_cons, List.take_nil, Nat.le_refl, if_true, if_false, Option.any_none, Option.any_some, List.contains_nil, Bool.not_false, Bool.or_true, Bool.true_or, Bool.or_false, Bool.false_or, Bool.and_true, Bool.true_and, Bool.and_self, reduceCtorEq, beq_self_eq_true, List.map_cons, List.map_nil, List.append_nil, List.nil_append, List.contains_cons, List.filter_cons, List.filter_nil, List.cons_append, Bool.false_eq_true, true_and, and_true, List.getElem_toArray, List.getElem_cons_zero, List.getElem_cons_succ, Nat.reduceAdd, Nat.reduceMul, Nat.reduceLT, Nat.reduceSub, Nat.reduceLeDiff, ← zq15_0]
        refine g_nil (hK _ _ _ ?_)
        refine k_block ?_
        refine k_seq ?_
        refine wR fun K hK => ?_
        refine g_bin rfl rfl rfl rfl rfl (gT ?_)
        refine g_mv rfl rfl (gT ?_)
        refine g_nil (hK _ _ _ ?_)
        refine k_loop ?_
        refine w_wk (σ := [0, 1, 2, 3, 4]) [2, 0, 0, 63, 0] rfl (by decide) ?_; refine gC ?_
        exact gI (ih1 i_2 k_3 t_68 (wrap64 (t_69 + 1)) q15 h1_0 h1_1 h2 h3 h4_1 h4_2 r H)
      · have c11b := decide_eq_false c11; try simp only [c11b, nrm]
        refine w_cond rfl (fun h => Bool.noConfusion h) (fun _ => ?_)
        refine w_exit rfl ?_
        refine k_nil (.inl rfl) ?_
        refine fin_wp (τ := [0, 1, 2, 3]) rfl (by decide) ?_; rw [← Option.some.inj H]; simp only [Tryd.f26]; exact gF
set_option maxHeartbeats 8000000 in
set_option maxRecDepth 100000 in
theorem bal_swap.does {k : Nat} {a0_0 : Int} {a0_1 : Int} {a0_2 : Int} {l0_3 : List Int} {l1_0 : List Int} {l1_1 : List Int} {s1_2 : Int} {s1_3 : Int} {a2 : Int} {a3 : Int} {r : (List Int) × Int × Int × (List Int) × (List Int)} (H : bal_swap.f k a0_0 a0_1 a0_2 l0_3 l1_0 l1_1 s1_2 s1_3 a2 a3 = some r) : Do E0 (.fn 26 [.a [.i .i64 a0_0, .i .i64 a0_1, .i .i64 a0_2, .s (some (0, 0)) l0_3.length], .p (some (1, 0)), .i .i64 a2, .i .i64 a3] [.row (l0_3.map (V.i .u64)) 2 1 true false none, .row [.s (some (2, 0)) l1_0.length, .s (some (3, 0)) l1_1.length, .i .i64 s1_2, .i .i64 s1_3] 0 0 true false none, .row (l1_0.map (V.i .i64)) 2 1 true false none, .row (l1_1.map (V.i .i64)) 2 1 true false none] (.t []) [.row (r.1.map (V.i .u64)) 2 1 true false none, .row [.s (some (2, 0)) r.2.2.2.1.length, .s (some (3, 0)) r.2.2.2.2.length, .i .i64 r.2.1, .i .i64 r.2.2.1] 0 0 true false none, .row (r.2.2.2.1.map (V.i .i64)) 2 1 true false none, .row (r.2.2.2.2.map (V.i .i64)) 2 1 true false none]) := by
  obtain ⟨ih0, ih1⟩ := bal_swap.does_l (a0_0 := a0_0) (a0_1 := a0_1) (a0_2 := a0_2) (l0_3 := l0_3) (l1_0 := l1_0) (l1_1 := l1_1) (s1_2 := s1_2) (s1_3 := s1_3) (a2 := a2) (a3 := a3) k
  refine fn_wpl Tryd.func26 rfl (Q := (bal_swap.Q a0_0 a0_1 a0_2 l0_3 l1_0 l1_1 s1_2 s1_3 a2 a3 r)) (fun s h => h) ?_
  unfold bal_swap.f at H
  simp only [Tryd.ntmps26, List.length, List.replicate, Nat.reduceAdd, Nat.reduceSub, List.cons_append, List.nil_append]
  refine w_seq ?_
  refine wR fun K hK => ?_
  refine g_box rfl rfl rfl (by rfl) (gU ?_)
  refine g_nil (hK _ _ _ ?_)
  refine k_seq ?_
  refine w_seq ?_
  refine w_seq ?_
  refine wR fun K hK => ?_
  refine g_mv rfl rfl (gT ?_)
  refine g_mv rfl rfl (gT ?_)
  refine g_bin rfl rfl rfl rfl rfl (gT ?_)
  refine g_nil (hK _ _ _ ?_)
  refine k_seq ?_
  rcases its H with ⟨c1, H⟩ | ⟨c1, H⟩
  · have c1b := beq_iff_eq.mpr c1; have c1n := bne_eq_false_iff_eq.mpr c1; try simp only [c1b, c1n, nrm]
    refine w_cond rfl (fun _ => ?_) (fun h => Bool.noConfusion h)
    refine w_ret ?_
    refine fin_wp (τ := [0, 1, 2, 3]) rfl (by decide) ?_; rw [← Option.some.inj H]; simp only [Tryd.f26]; exact gF
  · have c1b := beq_eq_false_iff_ne.mpr c1; have c1n := bne_iff_ne.mpr c1; try simp only [c1b, c1n, nrm]
    refine w_cond rfl (fun h => Bool.noConfusion h) (fun _ => ?_)
    refine w_skip ?_
    refine k_seq ?_
    refine w_seq ?_
    refine wD fun K hK => ?_
    refine g_mv rfl rfl (gT ?_)
    refine g_nc rfl rfl rfl (gT ?_)
    refine g_fd rfl rfl fa31_0 rfl (gT ?_)
    refine g_ldc rfl rfl ag29 sz29 rfl rfl rfl (gT ?_)
    refine g_mv rfl rfl (gT ?_)
    refine g_mv rfl rfl (gT ?_)
    refine g_nc rfl rfl rfl (gT ?_)
    refine g_fd rfl rfl fa31_0 rfl (gT ?_)
    refine g_ldc rfl rfl ag29 sz29 rfl rfl rfl (gT ?_)
    refine g_mv rfl rfl (gT ?_)
    refine g_mv rfl rfl (gT ?_)
    refine g_nc rfl rfl rfl (gT ?_)
    refine g_fd rfl rfl fa31_0 rfl (gT ?_)
    refine g_ldc rfl rfl ag29 sz29 rfl rfl rfl (gT ?_)
    refine g_mv rfl rfl (gT ?_)
    obtain ⟨c2, H⟩ := it1 H
    obtain ⟨c3, H⟩ := it1 H
    refine g_ixo rfl rfl Tryd.underlying29 sz3 rfl rfl (by first | assumption | omega) (by first | assumption | omega | (simp only [List.length_set, List.length_replicate] at *; omega)) (gT ?_)
    refine g_ldo rfl rfl ag3 sz3 rfl rfl (by first | assumption | omega | (simp only [List.length_set, List.length_replicate] at *; omega)) (gT ?_)
    refine g_mv rfl rfl (gT ?_)
    refine g_nc rfl rfl rfl (gT ?_)
    refine g_fd rfl rfl fa31_0 rfl (gT ?_)
    refine g_ldc rfl rfl ag29 sz29 rfl rfl rfl (gT ?_)
    refine g_mv rfl rfl (gT ?_)
    obtain ⟨c4, H⟩ := it1 H
    obtain ⟨c5, H⟩ := it1 H
    refine g_ixo rfl rfl Tryd.underlying29 sz3 rfl rfl (by first | assumption | omega) (by first | assumption | omega | (simp only [List.length_set, List.length_replicate] at *; omega)) (gT ?_)
    refine g_ldo rfl rfl ag3 sz3 rfl rfl (by first | assumption | omega | (simp only [List.length_set, List.length_replicate] at *; omega)) (gT ?_)
    refine g_ixo rfl rfl Tryd.underlying29 sz3 rfl rfl (by first | assumption | omega) (by first | assumption | omega | (simp only [List.length_set, List.length_replicate] at *; omega)) (gT ?_)
    refine g_st rfl rfl sz3 rfl rfl rfl (by rfl) (by simp only [List.length_map, List.length_set, List.length_replicate]; first | assumption | omega) (gU ?_)
    refine g_ixo rfl rfl Tryd.underlying29 sz3 rfl rfl (by first | assumption | omega) (by first | assumption | omega | (simp only [List.length_set, List.length_replicate] at *; omega)) (gT ?_)
    refine g_st rfl rfl sz3 rfl rfl rfl (by rfl) (by simp only [List.length_map, List.length_set, List.length_replicate]; first | assumption | omega) (gU ?_)
    refine g_nil (hK _ _ _ (by kernel_rfl) ?_)
    refine k_seq ?_
    refine w_seq ?_
    refine w_seq ?_
    refine wR fun K hK => ?_
    refine g_fd rfl rfl fa26_1 rfl (gT ?_)
    refine g_ldc rfl rfl ag3 sz3 rfl rfl rfl (gT ?_)
    refine g_mv rfl rfl (gT ?_)
    refine g_nil (hK _ _ _ ?_)
    refine k_seq ?_
    refine w_block ?_
    refine w_wk (σ := [0, 1, 2, 3, 4]) [2, 0, 0, 39, 0] rfl (by decide) ?_; refine gC ?_
    exact gI (ih0 a2 a3 a0_1 0 l0_3 s1_2 s1_3 ((l1_0.set a2.toNat (rd l1_0 a3)).set a3.toNat (rd l1_0 a2)) l1_1 a0_0 a0_2 r H)

set_option maxHeartbeats 8000000 in
set_option maxRecDepth 100000 in
theorem word_Abs.does {a0 : Int} {r : Int} (H : word_Abs.f a0 = some r) : Do E0 (.fn 17 [.i .u64 a0] [] (.i .u64 r) []) := by
  refine fn_wpl Tryd.func17 rfl (Q := (word_Abs.Q a0 r)) (fun s h => h) ?_
  unfold word_Abs.f at H
  simp only [Tryd.ntmps17, List.length, List.replicate, Nat.reduceAdd, Nat.reduceSub, List.cons_append, List.nil_append]
  refine w_seq ?_
  refine wR fun K hK => ?_
  refine g_as rfl rfl (gT ?_)
  refine g_nil (hK _ _ _ ?_)
  refine k_seq ?_
  refine w_seq ?_
  refine wR fun K hK => ?_
  refine g_mv rfl rfl (gT ?_)
  refine g_bin rfl rfl rfl rfl rfl (gT ?_)
  refine g_as rfl rfl (gT ?_)
  refine g_nil (hK _ _ _ ?_)
  refine k_seq ?_
  refine w_ret ?_
  refine fin_wp (τ := []) rfl (by decide) ?_; rw [← Option.some.inj H]; simp only [Tryd.f17]; exact gF

set_option maxHeartbeats 8000000 in
set_option maxRecDepth 100000 in
theorem word_Signals.does {k : Nat} {a0 : Int} {r : Bool} (H : word_Signals.f k a0 = some r) : Do E0 (.fn 42 [.i .u64 a0] [] (.b r) []) := by
  refine fn_wpl Tryd.func42 rfl (Q := (word_Signals.Q a0 r)) (fun s h => h) ?_
  unfold word_Signals.f at H
  simp only [Tryd.ntmps42, List.length, List.replicate, Nat.reduceAdd, Nat.reduceSub, List.cons_append, List.nil_append]
  refine w_seq ?_
  refine wR fun K hK => ?_
  refine g_as rfl rfl (gT ?_)
  refine g_nil (hK _ _ _ ?_)
  refine k_seq ?_
  refine w_seq ?_
  refine wR fun K hK => ?_
  refine g_mv rfl rfl (gT ?_)
  obtain ⟨q1, hq1, H⟩ := bnd H
  refine g_cs [] rfl rfl (by rfl) Tryd.func36 rfl (by decide) (word_Kind.does hq1) ⟨Nat.le_of_ble_eq_true rfl, Nat.le_of_ble_eq_true rfl⟩ ?_; refine gC ?_
  refine g_bin rfl rfl rfl rfl rfl (gT ?_)
  refine g_mv rfl rfl (gT ?_)
  rcases its H with ⟨c2, H⟩ | ⟨c2, H⟩
  · have c2b := beq_iff_eq.mpr c2; have c2n := bne_eq_false_iff_eq.mpr c2; try simp only [c2b, c2n, nrm]
    refine g_mv rfl rfl (gT ?_)
    refine g_shrc (p := 2251799813685248) rfl rfl rfl rfl (by decide) (by rfl) (gT ?_)
    refine g_bin rfl rfl rfl rfl rfl (gT ?_)
    refine g_bin rfl rfl rfl rfl rfl (gT ?_)
    refine g_pick rfl rfl rfl (gT ?_)
    refine g_as rfl rfl (gT ?_)
    refine g_nil (hK _ _ _ ?_)
    refine k_seq ?_
    refine w_ret ?_
    refine fin_wp (τ := []) rfl (by decide) ?_; rw [← Option.some.inj H]; simp only [Tryd.f42]; exact gF
  · have c2b := beq_eq_false_iff_ne.mpr c2; have c2n := bne_iff_ne.mpr c2; try simp only [c2b, c2n, nrm]
    refine g_sk rfl rfl (gT ?_)
    refine g_sk rfl rfl (gT ?_)
    refine g_sk rfl rfl (gT ?_)
    refine g_sk rfl rfl (gT ?_)
    refine g_pick rfl rfl rfl (gT ?_)
    refine g_as rfl rfl (gT ?_)
    refine g_nil (hK _ _ _ ?_)
    refine k_seq ?_
    refine w_ret ?_
    refine fin_wp (τ := []) rfl (by decide) ?_; rw [← Option.some.inj H]; simp only [Tryd.f42]; exact gF

set_option maxHeartbeats 8000000 in
set_option maxRecDepth 100000 in
theorem soft_nan.does_l {l0 : List Int} (k : Nat) : (∀ (f_5 : Int) (is_6 : Bool) (t_9 : List Int) (t_10 : Int) (t_11 : Int) (r : Int × Int × Bool), soft_nan.l0 k f_5 is_6 t_9 t_10 t_11 = some r → wk_ E0 (soft_nan.Q l0 r) (frs (bodyOf Tryd.f55) [1, 1, 1, 0, 1, 0] []) (sub (bodyOf Tryd.f55) [1, 1, 1, 0, 1, 0]) ⟨[.u, .u, .u, .u, .u, .i .u8 f_5, .b is_6, .u, .u, .r (t_9.map (V.i .u64)) t_9.length true, .i .i64 t_10, .i .i64 t_11, .u, .u, .u, .u, .u, .u, .u, .u, .u, .u, .u], ofL [], 0, 0⟩) := by
  induction k with
  | zero => exact fun _ _ _ _ _ r h => by simp [soft_nan.l0] at h
  | succ k ih =>
    have ih0 := ih
    refine ?_
    · intro f_5 is_6 t_9 t_10 t_11 r H
      unfold soft_nan.l0 at H
      simp only [bodyOf, Tryd.f55, frs, sub, if_true, if_false, Nat.one_ne_zero]
      refine w_loop ?_
      refine w_seq ?_
      refine wR fun K hK => ?_
      refine g_bin rfl rfl rfl rfl rfl (gT ?_)
      refine g_nil (hK _ _ _ ?_)
      refine k_seq ?_
      refine w_seq ?_
      rcases its H with ⟨c1, H⟩ | ⟨c1, H⟩
      · have c1b := decide_eq_true c1; try simp only [c1b, nrm]
        refine w_cond rfl (fun _ => ?_) (fun h => Bool.noConfusion h)
        refine w_skip ?_
        refine k_seq ?_
        refine w_seq ?_
        refine w_block ?_
        refine w_seq ?_
        refine wR fun K hK => ?_
        obtain ⟨c2, H⟩ := it1 H
        obtain ⟨c3, H⟩ := it1 H
        refine g_ixr rfl rfl Tryd.underlying22 sz23 rfl rfl (by first | assumption | omega) (by first | assumption | omega | (simp only [List.length_set, List.length_replicate] at *; omega)) (gT ?_)
        refine g_ldq rfl rfl ag23 sz23 rfl (by first | assumption | omega) (gT ?_)
        refine g_as rfl rfl (gT ?_)
        refine g_nil (hK _ _ _ ?_)
        refine k_seq ?_
        refine w_seq ?_
        refine wR fun K hK => ?_
        refine g_mv rfl rfl (gT ?_)
        obtain ⟨q4, hq4, H⟩ := bnd H
        refine g_cs [] rfl rfl (by rfl) Tryd.func36 rfl (by decide) (word_Kind.does hq4) ⟨Nat.le_of_ble_eq_true rfl, Nat.le_of_ble_eq_true rfl⟩ ?_; refine gC ?_
        refine g_bin rfl rfl rfl rfl rfl (gT ?_)
        refine g_nil (hK _ _ _ ?_)
        refine k_seq ?_
        rcases its H with ⟨c5, H⟩ | ⟨c5, H⟩
        · have c5b := beq_iff_eq.mpr c5; have c5n := bne_eq_false_iff_eq.mpr c5; try simp only [c5b, c5n, nrm]
          refine w_cond rfl (fun _ => ?_) (fun h => Bool.noConfusion h)
          refine w_seq ?_
          refine wR fun K hK => ?_
          refine g_as rfl rfl (gT ?_)
          refine g_nil (hK _ _ _ ?_)
          refine k_seq ?_
          refine w_seq ?_
          refine wR fun K hK => ?_
          refine g_mv rfl rfl (gT ?_)
          obtain ⟨q6, hq6, H⟩ := bnd H
          refine g_cs [] rfl rfl (by rfl) Tryd.func42 rfl (by decide) (word_Signals.does hq6) ⟨Nat.le_of_ble_eq_true rfl, Nat.le_of_ble_eq_true rfl⟩ ?_; refine gC ?_
          refine g_nil (hK _ _ _ ?_)
          refine k_seq ?_
          rcases its H with ⟨c7, H⟩ | ⟨c7, H⟩
          · have c7b : q6 = true := c7; try simp only [c7b, nrm]
            refine w_cond rfl (fun _ => ?_) (fun h => Bool.noConfusion h)
            refine wR fun K hK => ?_
            refine g_as rfl rfl (gT ?_)
            refine g_nil (hK _ _ _ ?_)
            refine k_block ?_
            refine k_seq ?_
            refine wR fun K hK => ?_
            refine g_bin rfl rfl rfl rfl rfl (gT ?_)
            refine g_mv rfl rfl (gT ?_)
            refine g_nil (hK _ _ _ ?_)
            refine k_loop ?_
            refine w_wk (σ := []) [5, 0, 2, 0, 0] rfl (by decide) ?_; refine gC ?_
            exact gI (ih0 16 true t_9 t_10 (wrap64 (t_11 + 1)) r H)
          · have c7b : q6 = false := Bool.eq_false_iff.mpr c7; try simp only [c7b, nrm]
            refine w_cond rfl (fun h => Bool.noConfusion h) (fun _ => ?_)
            refine w_skip ?_
            refine k_block ?_
            refine k_seq ?_
            refine wR fun K hK => ?_
            refine g_bin rfl rfl rfl rfl rfl (gT ?_)
            refine g_mv rfl rfl (gT ?_)
            refine g_nil (hK _ _ _ ?_)
            refine k_loop ?_
            refine w_wk (σ := []) [5, 0, 2, 0, 0] rfl (by decide) ?_; refine gC ?_
            exact gI (ih0 f_5 true t_9 t_10 (wrap64 (t_11 + 1)) r H)
        · have c5b := beq_eq_false_iff_ne.mpr c5; have c5n := bne_iff_ne.mpr c5; try simp only [c5b, c5n, nrm]
          refine w_cond rfl (fun h => Bool.noConfusion h) (fun _ => ?_)
          refine w_skip ?_
          refine k_block ?_
          refine k_seq ?_
          refine wR fun K hK => ?_
          refine g_bin rfl rfl rfl rfl rfl (gT ?_)
          refine g_mv rfl rfl (gT ?_)
          refine g_nil (hK _ _ _ ?_)
          refine k_loop ?_
          refine w_wk (σ := []) [5, 0, 2, 0, 0] rfl (by decide) ?_; refine gC ?_
          exact gI (ih0 f_5 is_6 t_9 t_10 (wrap64 (t_11 + 1)) r H)
      · have c1b := decide_eq_false c1; try simp only [c1b, nrm]
        refine w_cond rfl (fun h => Bool.noConfusion h) (fun _ => ?_)
        refine w_exit rfl ?_
        refine k_seq ?_
        refine w_seq ?_
        refine wR fun K hK => ?_
        refine g_mv rfl rfl (gT ?_)
        refine g_mv rfl rfl (gT ?_)
        refine g_as rfl rfl (gT ?_)
        refine g_as rfl rfl (gT ?_)
        refine g_as rfl rfl (gT ?_)
        refine g_nil (hK _ _ _ ?_)
        refine k_seq ?_
        refine w_ret ?_
        refine fin_wp (τ := []) rfl (by decide) ?_; rw [← Option.some.inj H]; simp only [Tryd.f55]; exact gF
set_option maxHeartbeats 8000000 in
set_option maxRecDepth 100000 in
theorem soft_nan.does {k : Nat} {l0 : List Int} {r : Int × Int × Bool} (H : soft_nan.f k l0 = some r) : Do E0 (.fn 55 [.r (l0.map (V.i .u64)) l0.length true] [] (.t [.i .u64 r.1, .i .u8 r.2.1, .b r.2.2]) []) := by
  obtain ih0 := soft_nan.does_l (l0 := l0) k
  refine fn_wpl Tryd.func55 rfl (Q := (soft_nan.Q l0 r)) (fun s h => h) ?_
  unfold soft_nan.f at H
  simp only [Tryd.ntmps55, List.length, List.replicate, Nat.reduceAdd, Nat.reduceSub, List.cons_append, List.nil_append]
  refine w_seq ?_
  refine wR fun K hK => ?_
  refine g_as rfl rfl (gT ?_)
  refine g_as rfl rfl (gT ?_)
  refine g_as rfl rfl (gT ?_)
  refine g_nil (hK _ _ _ ?_)
  refine k_seq ?_
  refine w_seq ?_
  refine wR fun K hK => ?_
  refine g_as rfl rfl (gT ?_)
  refine g_nil (hK _ _ _ ?_)
  refine k_seq ?_
  refine w_seq ?_
  refine wR fun K hK => ?_
  refine g_as rfl rfl (gT ?_)
  refine g_nil (hK _ _ _ ?_)
  refine k_seq ?_
  refine w_seq ?_
  refine w_seq ?_
  refine wR fun K hK => ?_
  refine g_mv rfl rfl (gT ?_)
  refine g_len_r rfl rfl Tryd.underlying22 rfl (gT ?_)
  refine g_mv rfl rfl (gT ?_)
  refine g_nil (hK _ _ _ ?_)
  refine k_seq ?_
  refine w_block ?_
  refine w_wk (σ := []) [5, 0, 2, 0, 0] rfl (by decide) ?_; refine gC ?_
  exact gI (ih0 0 false l0 (l0.length : Int) 0 r H)

set_option maxHeartbeats 8000000 in
set_option maxRecDepth 100000 in
theorem word_Parts.does {k : Nat} {a0 : Int} {r : Int × Int} (H : word_Parts.f k a0 = some r) : Do E0 (.fn 38 [.i .u64 a0] [] (.t [.i .u64 r.1, .i .i64 r.2]) []) := by
  refine fn_wpl Tryd.func38 rfl (Q := (word_Parts.Q a0 r)) (fun s h => h) ?_
  unfold word_Parts.f at H
  simp only [Tryd.ntmps38, List.length, List.replicate, Nat.reduceAdd, Nat.reduceSub, List.cons_append, List.nil_append]
  refine w_seq ?_
  refine wR fun K hK => ?_
  refine g_as rfl rfl (gT ?_)
  refine g_as rfl rfl (gT ?_)
  refine g_nil (hK _ _ _ ?_)
  refine k_seq ?_
  refine w_seq ?_
  refine w_seq ?_
  refine wR fun K hK => ?_
  refine g_mv rfl rfl (gT ?_)
  obtain ⟨q1, hq1, H⟩ := bnd H
  refine g_cs [] rfl rfl (by rfl) Tryd.func36 rfl (by decide) (word_Kind.does hq1) ⟨Nat.le_of_ble_eq_true rfl, Nat.le_of_ble_eq_true rfl⟩ ?_; refine gC ?_
  refine g_nil (hK _ _ _ ?_)
  refine k_seq ?_
  refine w_block ?_
  refine w_seq ?_
  refine wR fun K hK => ?_
  refine g_bin rfl rfl rfl rfl rfl (gT ?_)
  refine g_as rfl rfl (gT ?_)
  refine g_nil (hK _ _ _ ?_)
  refine k_seq ?_
  rcases its H with ⟨c2, H⟩ | ⟨c2, H⟩
  · have c2b := beq_iff_eq.mpr c2; have c2n := bne_eq_false_iff_eq.mpr c2; try simp only [c2b, c2n, nrm]
    refine w_cond rfl (fun _ => ?_) (fun h => Bool.noConfusion h)
    refine w_seq ?_
    refine wR fun K hK => ?_
    refine g_mv rfl rfl (gT ?_)
    obtain ⟨q3, hq3, H⟩ := bnd H
    refine g_cs [] rfl rfl (by rfl) Tryd.func46 rfl (by decide) (word_Frac.does hq3) ⟨Nat.le_of_ble_eq_true rfl, Nat.le_of_ble_eq_true rfl⟩ ?_; refine gC ?_
    refine g_as rfl rfl (gT ?_)
    refine g_as rfl rfl (gT ?_)
    refine g_nil (hK _ _ _ ?_)
    refine k_seq ?_
    refine w_ret ?_
    refine fin_wp (τ := []) rfl (by decide) ?_; rw [← Option.some.inj H]; simp only [Tryd.f38]; exact gF
  · have c2b := beq_eq_false_iff_ne.mpr c2; have c2n := bne_iff_ne.mpr c2; try simp only [c2b, c2n, nrm]
    refine w_cond rfl (fun h => Bool.noConfusion h) (fun _ => ?_)
    refine w_seq ?_
    refine wR fun K hK => ?_
    refine g_bin rfl rfl rfl rfl rfl (gT ?_)
    refine g_as rfl rfl (gT ?_)
    refine g_nil (hK _ _ _ ?_)
    refine k_seq ?_
    rcases its H with ⟨c4, H⟩ | ⟨c4, H⟩
    · have c4b := beq_iff_eq.mpr c4; have c4n := bne_eq_false_iff_eq.mpr c4; try simp only [c4b, c4n, nrm]
      refine w_cond rfl (fun _ => ?_) (fun h => Bool.noConfusion h)
      refine w_seq ?_
      refine wR fun K hK => ?_
      refine g_mv rfl rfl (gT ?_)
      obtain ⟨q5, hq5, H⟩ := bnd H
      refine g_cs [] rfl rfl (by rfl) Tryd.func46 rfl (by decide) (word_Frac.does hq5) ⟨Nat.le_of_ble_eq_true rfl, Nat.le_of_ble_eq_true rfl⟩ ?_; refine gC ?_
      refine g_bin rfl rfl rfl rfl rfl (gT ?_)
      refine g_mv rfl rfl (gT ?_)
      obtain ⟨q6, hq6, H⟩ := bnd H
      refine g_cs [] rfl rfl (by rfl) Tryd.func30 rfl (by decide) (word_Exp.does hq6) ⟨Nat.le_of_ble_eq_true rfl, Nat.le_of_ble_eq_true rfl⟩ ?_; refine gC ?_
      refine g_bin rfl rfl rfl rfl rfl (gT ?_)
      refine g_as rfl rfl (gT ?_)
      refine g_as rfl rfl (gT ?_)
      refine g_nil (hK _ _ _ ?_)
      refine k_seq ?_
      refine w_ret ?_
      refine fin_wp (τ := []) rfl (by decide) ?_; rw [← Option.some.inj H]; simp only [Tryd.f38]; exact gF
    · have c4b := beq_eq_false_iff_ne.mpr c4; have c4n := bne_iff_ne.mpr c4; try simp only [c4b, c4n, nrm]
      refine w_cond rfl (fun h => Bool.noConfusion h) (fun _ => ?_)
      refine w_skip ?_
      refine k_block ?_
      refine k_seq ?_
      refine w_seq ?_
      refine wR fun K hK => ?_
      refine g_as rfl rfl (gT ?_)
      refine g_as rfl rfl (gT ?_)
      refine g_nil (hK _ _ _ ?_)
      refine k_seq ?_
      refine w_ret ?_
      refine fin_wp (τ := []) rfl (by decide) ?_; rw [← Option.some.inj H]; simp only [Tryd.f38]; exact gF

set_option maxHeartbeats 8000000 in
set_option maxRecDepth 100000 in
theorem wide_Wide_Left.does {a0_0 : Int} {a0_1 : Int} {a1 : Int} {r : Int × Int} (H : wide_Wide_Left.f a0_0 a0_1 a1 = some r) : Do E0 (.fn 54 [.a [.i .u64 a0_0, .i .u64 a0_1], .i .i64 a1] [] (.a [.i .u64 r.1, .i .u64 r.2]) []) := by
  refine fn_wpl Tryd.func54 rfl (Q := (wide_Wide_Left.Q a0_0 a0_1 a1 r)) (fun s h => h) ?_
  unfold wide_Wide_Left.f at H
  simp only [Tryd.ntmps54, List.length, List.replicate, Nat.reduceAdd, Nat.reduceSub, List.cons_append, List.nil_append]
  refine w_seq ?_
  refine wR fun K hK => ?_
  refine g_box rfl rfl rfl (by rfl) (gU ?_)
  refine g_alloc rfl rfl zr83 (gU ?_)
  refine g_nil (hK _ _ _ ?_)
  refine k_seq ?_
  refine w_seq ?_
  refine w_block ?_
  refine w_seq ?_
  refine wR fun K hK => ?_
  refine g_mv rfl rfl (gT ?_)
  refine g_bin rfl rfl rfl rfl rfl (gT ?_)
  refine g_as rfl rfl (gT ?_)
  refine g_nil (hK _ _ _ ?_)
  refine k_seq ?_
  rcases its H with ⟨c1, H⟩ | ⟨c1, H⟩
  · have c1b := decide_eq_true c1; try simp only [c1b, nrm]
    refine w_cond rfl (fun _ => ?_) (fun h => Bool.noConfusion h)
    refine w_seq ?_
    refine wR fun K hK => ?_
    refine g_lda rfl rfl ag83 sz83 rfl rfl (Nat.le_of_ble_eq_true rfl) (gT ?_)
    refine g_st rfl rfl sz83 rfl rfl rfl (by rfl) (Nat.le_of_ble_eq_true rfl) (gU ?_)
    refine g_nil (hK _ _ _ ?_)
    refine k_seq ?_
    refine w_ret ?_
    refine fin_wp (τ := []) rfl (by decide) ?_; rw [← Option.some.inj H]; simp only [Tryd.f54, ag83, sz83, nrm, nrmw, nrmc, nrme, nrmo, nrml, nrmb, nrmx, Nat.reduceEqDiff, Nat.reduceBEq, Nat.zero_add, Nat.add_zero, Nat.mul_one, List.length_cons, List.length_nil, List.length_map, List.length_set, List.length_replicate, List.drop_zero, List.drop_succ_cons, List.drop_nil, List.take_zero, List.take_succ_cons, List.take_nil, Nat.le_refl, if_true, if_false, Option.any_none, Option.any_some, List.contains_nil, Bool.not_false, Bool.or_true, Bool.true_or, Bool.or_false, Bool.false_or, Bool.and_true, Bool.true_and, Bool.and_self, reduceCtorEq, beq_self_eq_true, List.map_cons, List.map_nil, List.append_nil, List.nil_append, List.contains_cons, List.filter_cons, List.filter_nil, List.cons_append, Bool.false_eq_true, true_and, and_true, List.getElem_toArray, List.getElem_cons_zero, List.getElem_cons_succ, Nat.reduceAdd, Nat.reduceMul, Nat.reduceLT, Nat.reduceSub, Nat.reduceLeDiff]; try (first | rfl | exact ⟨rfl, trivial⟩ | exact ⟨rfl, rfl⟩)
  · have c1b := decide_eq_false c1; try simp only [c1b, nrm]
    refine w_cond rfl (fun h => Bool.noConfusion h) (fun _ => ?_)
    refine w_seq ?_
    refine wR fun K hK => ?_
    refine g_mv rfl rfl (gT ?_)
    refine g_bin rfl rfl rfl rfl rfl (gT ?_)
    refine g_as rfl rfl (gT ?_)
    refine g_nil (hK _ _ _ ?_)
    refine k_seq ?_
    rcases its H with ⟨c2, H⟩ | ⟨c2, H⟩
    · have c2b := decide_eq_true c2; try simp only [c2b, nrm]
      refine w_cond rfl (fun _ => ?_) (fun h => Bool.noConfusion h)
      refine w_seq ?_
      refine wR fun K hK => ?_
      refine g_bd rfl rfl zr83 Tryd.underlying83 (pl := [(0, 1), (1, 1)]) (by kernel_rfl) ?_; refine gB ?_
      refine g_st rfl rfl sz83 rfl rfl rfl (by rfl) (Nat.le_of_ble_eq_true rfl) (gU ?_)
      refine g_nil (hK _ _ _ ?_)
      refine k_seq ?_
      refine w_ret ?_
      refine fin_wp (τ := []) rfl (by decide) ?_; rw [← Option.some.inj H]; simp only [Tryd.f54, ag83, sz83, nrm, nrmw, nrmc, nrme, nrmo, nrml, nrmb, nrmx, Nat.reduceEqDiff, Nat.reduceBEq, Nat.zero_add, Nat.add_zero, Nat.mul_one, List.length_cons, List.length_nil, List.length_map, List.length_set, List.length_replicate, List.drop_zero, List.drop_succ_cons, List.drop_nil, List.take_zero, List.take_succ_cons, List.take_nil, Nat.le_refl, if_true, if_false, Option.any_none, Option.any_some, List.contains_nil, Bool.not_false, Bool.or_true, Bool.true_or, Bool.or_false, Bool.false_or, Bool.and_true, Bool.true_and, Bool.and_self, reduceCtorEq, beq_self_eq_true, List.map_cons, List.map_nil, List.append_nil, List.nil_append, List.contains_cons, List.filter_cons, List.filter_nil, List.cons_append, Bool.false_eq_true, true_and, and_true, List.getElem_toArray, List.getElem_cons_zero, List.getElem_cons_succ, Nat.reduceAdd, Nat.reduceMul, Nat.reduceLT, Nat.reduceSub, Nat.reduceLeDiff]; try (first | rfl | exact ⟨rfl, trivial⟩ | exact ⟨rfl, rfl⟩)
    · have c2b := decide_eq_false c2; try simp only [c2b, nrm]
      refine w_cond rfl (fun h => Bool.noConfusion h) (fun _ => ?_)
      refine w_seq ?_
      refine wR fun K hK => ?_
      refine g_mv rfl rfl (gT ?_)
      refine g_bin rfl rfl rfl rfl rfl (gT ?_)
      refine g_as rfl rfl (gT ?_)
      refine g_nil (hK _ _ _ ?_)
      refine k_seq ?_
      rcases its H with ⟨c3, H⟩ | ⟨c3, H⟩
      · have c3b := decide_eq_true c3; try simp only [c3b, nrm]
        refine w_cond rfl (fun _ => ?_) (fun h => Bool.noConfusion h)
        refine w_seq ?_
        refine wR fun K hK => ?_
        refine g_fd rfl rfl fa83_1 rfl (gT ?_)
        refine g_ldc rfl rfl ag23 sz23 rfl rfl rfl (gT ?_)
        refine g_mv rfl rfl (gT ?_)
        refine g_bin rfl rfl rfl rfl rfl (gT ?_)
        obtain ⟨c4, H⟩ := it1 H
        refine g_shl rfl rfl rfl rfl (by omega) (gT ?_)
        refine g_bd rfl rfl zr83 Tryd.underlying83 (pl := [(0, 1), (1, 1)]) (by kernel_rfl) ?_; refine gB ?_
        refine g_st rfl rfl sz83 rfl rfl rfl (by rfl) (Nat.le_of_ble_eq_true rfl) (gU ?_)
        refine g_nil (hK _ _ _ ?_)
        refine k_seq ?_
        refine w_ret ?_
        refine fin_wp (τ := []) rfl (by decide) ?_; rw [← Option.some.inj H]; simp only [Tryd.f54, ag83, sz83, nrm, nrmw, nrmc, nrme, nrmo, nrml, nrmb, nrmx, Nat.reduceEqDiff, Nat.reduceBEq, Nat.zero_add, Nat.add_zero, Nat.mul_one, List.length_cons, List.length_nil, List.length_map, List.length_set, List.length_replicate, List.drop_zero, List.drop_succ_cons, List.drop_nil, List.take_zero, List.take_succ_cons, List.take_nil, Nat.le_refl, if_true, if_false, Option.any_none, Option.any_some, List.contains_nil, Bool.not_false, Bool.or_true, Bool.true_or, Bool.or_false, Bool.false_or, Bool.and_true, Bool.true_and, Bool.and_self, reduceCtorEq, beq_self_eq_true, List.map_cons, List.map_nil, List.append_nil, List.nil_append, List.contains_cons, List.filter_cons, List.filter_nil, List.cons_append, Bool.false_eq_true, true_and, and_true, List.getElem_toArray, List.getElem_cons_zero, List.getElem_cons_succ, Nat.reduceAdd, Nat.reduceMul, Nat.reduceLT, Nat.reduceSub, Nat.reduceLeDiff]; try (first | rfl | exact ⟨rfl, trivial⟩ | exact ⟨rfl, rfl⟩)
      · have c3b := decide_eq_false c3; try simp only [c3b, nrm]
        refine w_cond rfl (fun h => Bool.noConfusion h) (fun _ => ?_)
        refine w_skip ?_
        refine k_block ?_
        refine k_seq ?_
        refine w_seq ?_
        refine wD fun K hK => ?_
        refine g_fd rfl rfl fa83_0 rfl (gT ?_)
        refine g_ldc rfl rfl ag23 sz23 rfl rfl rfl (gT ?_)
        refine g_mv rfl rfl (gT ?_)
        obtain ⟨c5, H⟩ := it1 H
        refine g_shl rfl rfl rfl rfl (by omega) (gT ?_)
        refine g_fd rfl rfl fa83_1 rfl (gT ?_)
        refine g_ldc rfl rfl ag23 sz23 rfl rfl rfl (gT ?_)
        refine g_mv rfl rfl (gT ?_)
        refine g_bin rfl rfl rfl rfl rfl (gT ?_)
        obtain ⟨c6, H⟩ := it1 H
        refine g_shr rfl rfl rfl rfl (by omega) (gT ?_)
        refine g_bin rfl rfl rfl rfl rfl (gT ?_)
        refine g_fd rfl rfl fa83_1 rfl (gT ?_)
        refine g_ldc rfl rfl ag23 sz23 rfl rfl rfl (gT ?_)
        refine g_mv rfl rfl (gT ?_)
        refine g_shl rfl rfl rfl rfl (by omega) (gT ?_)
        refine g_bd rfl rfl zr83 Tryd.underlying83 (pl := [(0, 1), (1, 1)]) (by kernel_rfl) ?_; refine gB ?_
        refine g_st rfl rfl sz83 rfl rfl rfl (by rfl) (Nat.le_of_ble_eq_true rfl) (gU ?_)
        refine g_nil (hK _ _ _ (by kernel_rfl) ?_)
        refine k_seq ?_
        refine w_ret ?_
        refine fin_wp (τ := []) rfl (by decide) ?_; rw [← Option.some.inj H]; simp only [Tryd.f54, ag83, sz83, nrm, nrmw, nrmc, nrme, nrmo, nrml, nrmb, nrmx, Nat.reduceEqDiff, Nat.reduceBEq, Nat.zero_add, Nat.add_zero, Nat.mul_one, List.length_cons, List.length_nil, List.length_map, List.length_set, List.length_replicate, List.drop_zero, List.drop_succ_cons, List.drop_nil, List.take_zero, List.take_succ_cons, List.take_nil, Nat.le_refl, if_true, if_false, Option.any_none, Option.any_some, List.contains_nil, Bool.not_false, Bool.or_true, Bool.true_or, Bool.or_false, Bool.false_or, Bool.and_true, Bool.true_and, Bool.and_self, reduceCtorEq, beq_self_eq_true, List.map_cons, List.map_nil, List.append_nil, List.nil_append, List.contains_cons, List.filter_cons, List.filter_nil, List.cons_append, Bool.false_eq_true, true_and, and_true, List.getElem_toArray, List.getElem_cons_zero, List.getElem_cons_succ, Nat.reduceAdd, Nat.reduceMul, Nat.reduceLT, Nat.reduceSub, Nat.reduceLeDiff]; try (first | rfl | exact ⟨rfl, trivial⟩ | exact ⟨rfl, rfl⟩)

set_option maxHeartbeats 8000000 in
set_option maxRecDepth 100000 in
theorem wide_Wide_Zero.does {a0_0 : Int} {a0_1 : Int} {r : Bool} (H : wide_Wide_Zero.f a0_0 a0_1 = some r) : Do E0 (.fn 49 [.a [.i .u64 a0_0, .i .u64 a0_1]] [] (.b r) []) := by
  refine fn_wpl Tryd.func49 rfl (Q := (wide_Wide_Zero.Q a0_0 a0_1 r)) (fun s h => h) ?_
  unfold wide_Wide_Zero.f at H
  simp only [Tryd.ntmps49, List.length, List.replicate, Nat.reduceAdd, Nat.reduceSub, List.cons_append, List.nil_append]
  refine w_seq ?_
  refine wR fun K hK => ?_
  refine g_box rfl rfl rfl (by rfl) (gU ?_)
  refine g_as rfl rfl (gT ?_)
  refine g_nil (hK _ _ _ ?_)
  refine k_seq ?_
  refine w_seq ?_
  refine wR fun K hK => ?_
  refine g_fd rfl rfl fa83_0 rfl (gT ?_)
  refine g_ldc rfl rfl ag23 sz23 rfl rfl rfl (gT ?_)
  refine g_fd rfl rfl fa83_1 rfl (gT ?_)
  refine g_ldc rfl rfl ag23 sz23 rfl rfl rfl (gT ?_)
  refine g_bin rfl rfl rfl rfl rfl (gT ?_)
  refine g_bin rfl rfl rfl rfl rfl (gT ?_)
  refine g_as rfl rfl (gT ?_)
  refine g_nil (hK _ _ _ ?_)
  refine k_seq ?_
  refine w_ret ?_
  refine fin_wp (τ := []) rfl (by decide) ?_; rw [← Option.some.inj H]; simp only [Tryd.f49]; exact gF

set_option maxHeartbeats 8000000 in
set_option maxRecDepth 100000 in
theorem wide_Wide_Right.does_l {a0_0 : Int} {a0_1 : Int} {a1 : Int} (k : Nat) : (∀ (n_1 : Int) (h0_0 : Int) (h0_1 : Int) (h1_0 : Int) (h1_1 : Int) (h2_0 : Int) (h2_1 : Int) (r : Int × Int × Bool), wide_Wide_Right.j0 k n_1 h0_0 h0_1 h2_0 h2_1 = some r → kont E0 (wide_Wide_Right.Q a0_0 a0_1 a1 r) (frs (bodyOf Tryd.f51) [1, 1, 0] []) .normal ⟨[.u, .i .i64 n_1, .p (some (0, 0)), .u, .p (some (1, 0)), .u, .p (some (2, 0)), .u, .u, .u, .u, .u, .u, .u, .u, .u, .u, .u, .u, .u, .u, .u, .u, .u, .u, .u, .u, .u, .u, .u, .u, .u, .u, .u, .u, .u, .u, .u, .u, .u, .u, .u, .u, .u, .u, .u, .u, .u, .u, .u, .u, .u, .u], ofL [.row [.i .u64 h0_0, .i .u64 h0_1] 0 0 true true none, .row [.i .u64 h1_0, .i .u64 h1_1] 0 0 true true none, .row [.i .u64 h2_0, .i .u64 h2_1] 0 0 true true none], 3, 0⟩) := by
  induction k with
  | zero => exact fun _ _ _ _ _ _ _ r h => by simp [wide_Wide_Right.j0] at h
  | succ k ih =>
    have ih0 := ih
    refine ?_
    · intro n_1 h0_0 h0_1 h1_0 h1_1 h2_0 h2_1 r H
      unfold wide_Wide_Right.j0 at H
      simp only [bodyOf, Tryd.f51, frs, sub, if_true, if_false, Nat.one_ne_zero]
      refine k_seq ?_
      refine w_seq ?_
      refine wD fun K hK => ?_
      refine g_lda rfl rfl ag83 sz83 rfl rfl (Nat.le_of_ble_eq_true rfl) (gT ?_)
      refine g_lda rfl rfl ag83 sz83 rfl rfl (Nat.le_of_ble_eq_true rfl) (gT ?_)
      refine g_mv rfl rfl (gT ?_)
      obtain ⟨q7, hq7, H⟩ := bnd H
      refine g_cs [] rfl rfl (by rfl) Tryd.func54 rfl (by decide) (wide_Wide_Left.does hq7) ⟨Nat.le_of_ble_eq_true rfl, Nat.le_of_ble_eq_true rfl⟩ ?_; refine gC ?_
      refine g_lda rfl rfl ag83 sz83 rfl rfl (Nat.le_of_ble_eq_true rfl) (gT ?_)
      refine g_same rfl rfl (c := .b (!(q7.1 == h0_0) || (!(q7.2 == h0_1)))) (by simp only [nrm]; simp only [binV, eqs83, Go.Rk.Rd.of, Go.Rk.Rd.bind, Bool.and_true, Bool.not_and]) (gT ?_)
      refine g_mv rfl rfl (gT ?_)
      rcases its H with ⟨c8, H⟩ | ⟨c8, H⟩
      · have c8b : (!(q7.1 == h0_0) || (!(q7.2 == h0_1))) = true := c8; try simp only [c8b, nrm]
        refine g_sk rfl rfl (gT ?_)
        refine g_sk rfl rfl (gT ?_)
        refine g_sk rfl rfl (gT ?_)
        refine g_sk rfl rfl (gT ?_)
        refine g_sk rfl rfl (gT ?_)
        refine g_sk rfl rfl (gT ?_)
        refine g_sk rfl rfl (gT ?_)
        refine g_pick rfl rfl rfl (gT ?_)
        refine g_st rfl rfl sz83 rfl rfl rfl (by rfl) (Nat.le_of_ble_eq_true rfl) (gU ?_)
        refine g_as rfl rfl (gT ?_)
        refine g_nil (hK _ _ _ (by kernel_rfl) ?_)
        refine k_seq ?_
        refine w_ret ?_
        refine fin_wp (τ := []) rfl (by decide) ?_; rw [← Option.some.inj H]; simp only [Tryd.f51, ag83, sz83, nrm, nrmw, nrmc, nrme, nrmo, nrml, nrmb, nrmx, Nat.reduceEqDiff, Nat.reduceBEq, Nat.zero_add, Nat.add_zero, Nat.mul_one, List.length_cons, List.length_nil, List.length_map, List.length_set, List.length_replicate, List.drop_zero, List.drop_succ_cons, List.drop_nil, List.take_zero, List.take_succ_cons, List.take_nil, Nat.le_refl, if_true, if_false, Option.any_none, Option.any_some, List.contains_nil, Bool.not_false, Bool.or_true, Bool.true_or, Bool.or_false, Bool.false_or, Bool.and_true, Bool.true_and, Bool.and_self, reduceCtorEq, beq_self_eq_true, List.map_cons, List.map_nil, List.append_nil, List.nil_append, List.contains_cons, List.filter_cons, List.filter_nil, List.cons_append, Bool.false_eq_true, true_and, and_true, List.getElem_toArray, List.getElem_cons_zero, List.getElem_cons_succ, Nat.reduceAdd, Nat.reduceMul, Nat.reduceLT, Nat.reduceSub, Nat.reduceLeDiff]; try (first | rfl | exact ⟨rfl, trivial⟩ | exact ⟨rfl, rfl⟩)
      · have c8b : (!(q7.1 == h0_0) || (!(q7.2 == h0_1))) = false := Bool.eq_false_iff.mpr c8; try simp only [c8b, nrm]
        refine g_mv rfl rfl (gT ?_)
        refine g_bin rfl rfl rfl rfl rfl (gT ?_)
        refine g_mv rfl rfl (gT ?_)
        rcases its H with ⟨c9, H⟩ | ⟨c9, H⟩
        · have c9b := decide_eq_true c9; try simp only [c9b, nrm]
          refine g_lda rfl rfl ag83 sz83 rfl rfl (Nat.le_of_ble_eq_true rfl) (gT ?_)
          obtain ⟨q10, hq10, H⟩ := bnd H
          refine g_cs [] rfl rfl (by rfl) Tryd.func49 rfl (by decide) (wide_Wide_Zero.does hq10) ⟨Nat.le_of_ble_eq_true rfl, Nat.le_of_ble_eq_true rfl⟩ ?_; refine gC ?_
          refine g_un rfl rfl rfl rfl (gT ?_)
          refine g_pick rfl rfl rfl (gT ?_)
          refine g_pick rfl rfl rfl (gT ?_)
          refine g_st rfl rfl sz83 rfl rfl rfl (by rfl) (Nat.le_of_ble_eq_true rfl) (gU ?_)
          refine g_as rfl rfl (gT ?_)
          refine g_nil (hK _ _ _ (by kernel_rfl) ?_)
          refine k_seq ?_
          refine w_ret ?_
          refine fin_wp (τ := []) rfl (by decide) ?_; rw [← Option.some.inj H]; simp only [Tryd.f51, ag83, sz83, nrm, nrmw, nrmc, nrme, nrmo, nrml, nrmb, nrmx, Nat.reduceEqDiff, Nat.reduceBEq, Nat.zero_add, Nat.add_zero, Nat.mul_one, List.length_cons, List.length_nil, List.length_map, List.length_set, List.length_replicate, List.drop_zero, List.drop_succ_cons, List.drop_nil, List.take_zero, List.take_succ_cons, List.take_nil, Nat.le_refl, if_true, if_false, Option.any_none, Option.any_some, List.contains_nil, Bool.not_false, Bool.or_true, Bool.true_or, Bool.or_false, Bool.false_or, Bool.and_true, Bool.true_and, Bool.and_self, reduceCtorEq, beq_self_eq_true, List.map_cons, List.map_nil, List.append_nil, List.nil_append, List.contains_cons, List.filter_cons, List.filter_nil, List.cons_append, Bool.false_eq_true, true_and, and_true, List.getElem_toArray, List.getElem_cons_zero, List.getElem_cons_succ, Nat.reduceAdd, Nat.reduceMul, Nat.reduceLT, Nat.reduceSub, Nat.reduceLeDiff]; try (first | rfl | exact ⟨rfl, trivial⟩ | exact ⟨rfl, rfl⟩)
        · have c9b := decide_eq_false c9; try simp only [c9b, nrm]
          refine g_sk rfl rfl (gT ?_)
          refine g_sk rfl rfl (gT ?_)
          refine g_sk rfl rfl (gT ?_)
          refine g_pick rfl rfl rfl (gT ?_)
          refine g_pick rfl rfl rfl (gT ?_)
          refine g_st rfl rfl sz83 rfl rfl rfl (by rfl) (Nat.le_of_ble_eq_true rfl) (gU ?_)
          refine g_as rfl rfl (gT ?_)
          refine g_nil (hK _ _ _ (by kernel_rfl) ?_)
          refine k_seq ?_
          refine w_ret ?_
          refine fin_wp (τ := []) rfl (by decide) ?_; rw [← Option.some.inj H]; simp only [Tryd.f51, ag83, sz83, nrm, nrmw, nrmc, nrme, nrmo, nrml, nrmb, nrmx, Nat.reduceEqDiff, Nat.reduceBEq, Nat.zero_add, Nat.add_zero, Nat.mul_one, List.length_cons, List.length_nil, List.length_map, List.length_set, List.length_replicate, List.drop_zero, List.drop_succ_cons, List.drop_nil, List.take_zero, List.take_succ_cons, List.take_nil, Nat.le_refl, if_true, if_false, Option.any_none, Option.any_some, List.contains_nil, Bool.not_false, Bool.or_true, Bool.true_or, Bool.or_false, Bool.false_or, Bool.and_true, Bool.true_and, Bool.and_self, reduceCtorEq, beq_self_eq_true, List.map_cons, List.map_nil, List.append_nil, List.nil_append, List.contains_cons, List.filter_cons, List.filter_nil, List.cons_append, Bool.false_eq_true, true_and, and_true, List.getElem_toArray, List.getElem_cons_zero, List.getElem_cons_succ, Nat.reduceAdd, Nat.reduceMul, Nat.reduceLT, Nat.reduceSub, Nat.reduceLeDiff]; try (first | rfl | exact ⟨rfl, trivial⟩ | exact ⟨rfl, rfl⟩)
set_option maxHeartbeats 8000000 in
set_option maxRecDepth 100000 in
theorem wide_Wide_Right.does {k : Nat} {a0_0 : Int} {a0_1 : Int} {a1 : Int} {r : Int × Int × Bool} (H : wide_Wide_Right.f k a0_0 a0_1 a1 = some r) : Do E0 (.fn 51 [.a [.i .u64 a0_0, .i .u64 a0_1], .i .i64 a1] [] (.t [.a [.i .u64 r.1, .i .u64 r.2.1], .b r.2.2]) []) := by
  obtain ih0 := wide_Wide_Right.does_l (a0_0 := a0_0) (a0_1 := a0_1) (a1 := a1) k
  refine fn_wpl Tryd.func51 rfl (Q := (wide_Wide_Right.Q a0_0 a0_1 a1 r)) (fun s h => h) ?_
  unfold wide_Wide_Right.f at H
  simp only [Tryd.ntmps51, List.length, List.replicate, Nat.reduceAdd, Nat.reduceSub, List.cons_append, List.nil_append]
  refine w_seq ?_
  refine wR fun K hK => ?_
  refine g_box rfl rfl rfl (by rfl) (gU ?_)
  refine g_alloc rfl rfl zr83 (gU ?_)
  refine g_as rfl rfl (gT ?_)
  refine g_nil (hK _ _ _ ?_)
  refine k_seq ?_
  refine w_seq ?_
  refine wR fun K hK => ?_
  refine g_alloc rfl rfl zr83 (gU ?_)
  refine g_nil (hK _ _ _ ?_)
  refine k_seq ?_
  refine w_seq ?_
  refine w_block ?_
  refine w_seq ?_
  refine wR fun K hK => ?_
  refine g_mv rfl rfl (gT ?_)
  refine g_bin rfl rfl rfl rfl rfl (gT ?_)
  refine g_as rfl rfl (gT ?_)
  refine g_nil (hK _ _ _ ?_)
  refine k_seq ?_
  rcases its H with ⟨c1, H⟩ | ⟨c1, H⟩
  · have c1b := decide_eq_true c1; try simp only [c1b, nrm]
    refine w_cond rfl (fun _ => ?_) (fun h => Bool.noConfusion h)
    refine w_seq ?_
    refine wR fun K hK => ?_
    refine g_lda rfl rfl ag83 sz83 rfl rfl (Nat.le_of_ble_eq_true rfl) (gT ?_)
    refine g_st rfl rfl sz83 rfl rfl rfl (by rfl) (Nat.le_of_ble_eq_true rfl) (gU ?_)
    refine g_as rfl rfl (gT ?_)
    refine g_nil (hK _ _ _ ?_)
    refine k_seq ?_
    refine w_ret ?_
    refine fin_wp (τ := []) rfl (by decide) ?_; rw [← Option.some.inj H]; simp only [Tryd.f51, ag83, sz83, nrm, nrmw, nrmc, nrme, nrmo, nrml, nrmb, nrmx, Nat.reduceEqDiff, Nat.reduceBEq, Nat.zero_add, Nat.add_zero, Nat.mul_one, List.length_cons, List.length_nil, List.length_map, List.length_set, List.length_replicate, List.drop_zero, List.drop_succ_cons, List.drop_nil, List.take_zero, List.take_succ_cons, List.take_nil, Nat.le_refl, if_true, if_false, Option.any_none, Option.any_some, List.contains_nil, Bool.not_false, Bool.or_true, Bool.true_or, Bool.or_false, Bool.false_or, Bool.and_true, Bool.true_and, Bool.and_self, reduceCtorEq, beq_self_eq_true, List.map_cons, List.map_nil, List.append_nil, List.nil_append, List.contains_cons, List.filter_cons, List.filter_nil, List.cons_append, Bool.false_eq_true, true_and, and_true, List.getElem_toArray, List.getElem_cons_zero, List.getElem_cons_succ, Nat.reduceAdd, Nat.reduceMul, Nat.reduceLT, Nat.reduceSub, Nat.reduceLeDiff]; try (first | rfl | exact ⟨rfl, trivial⟩ | exact ⟨rfl, rfl⟩)
  · have c1b := decide_eq_false c1; try simp only [c1b, nrm]
    refine w_cond rfl (fun h => Bool.noConfusion h) (fun _ => ?_)
    refine w_seq ?_
    refine wR fun K hK => ?_
    refine g_mv rfl rfl (gT ?_)
    refine g_bin rfl rfl rfl rfl rfl (gT ?_)
    refine g_as rfl rfl (gT ?_)
    refine g_nil (hK _ _ _ ?_)
    refine k_seq ?_
    rcases its H with ⟨c2, H⟩ | ⟨c2, H⟩
    · have c2b := decide_eq_true c2; try simp only [c2b, nrm]
      refine w_cond rfl (fun _ => ?_) (fun h => Bool.noConfusion h)
      refine w_skip ?_
      refine k_block ?_
      refine k_wk (σ := [0, 4, 12]) [1, 0, 1, 1] rfl (by decide) rfl ?_; refine gC ?_
      exact gI (ih0 a1 a0_0 a0_1 0 0 0 0 r H)
    · have c2b := decide_eq_false c2; try simp only [c2b, nrm]
      refine w_cond rfl (fun h => Bool.noConfusion h) (fun _ => ?_)
      refine w_seq ?_
      refine wR fun K hK => ?_
      refine g_mv rfl rfl (gT ?_)
      refine g_bin rfl rfl rfl rfl rfl (gT ?_)
      refine g_as rfl rfl (gT ?_)
      refine g_nil (hK _ _ _ ?_)
      refine k_seq ?_
      rcases its H with ⟨c3, H⟩ | ⟨c3, H⟩
      · have c3b := decide_eq_true c3; try simp only [c3b, nrm]
        refine w_cond rfl (fun _ => ?_) (fun h => Bool.noConfusion h)
        refine wR fun K hK => ?_
        refine g_fd rfl rfl fa83_0 rfl (gT ?_)
        refine g_ldc rfl rfl ag23 sz23 rfl rfl rfl (gT ?_)
        refine g_mv rfl rfl (gT ?_)
        refine g_bin rfl rfl rfl rfl rfl (gT ?_)
        obtain ⟨c4, H⟩ := it1 H
        refine g_shr rfl rfl rfl rfl (by omega) (gT ?_)
        refine g_bd rfl rfl zr83 Tryd.underlying83 (pl := [(0, 1), (1, 1)]) (by kernel_rfl) ?_; refine gB ?_
        refine g_st rfl rfl sz83 rfl rfl rfl (by rfl) (Nat.le_of_ble_eq_true rfl) (gU ?_)
        refine g_nil (hK _ _ _ ?_)
        refine k_block ?_
        refine k_wk (σ := [0, 4, 12]) [1, 0, 1, 1] rfl (by decide) rfl ?_; refine gC ?_
        exact gI (ih0 a1 a0_0 a0_1 0 0 0 (shr .u64 a0_0 (wrap64 (a1 - 64))) r H)
      · have c3b := decide_eq_false c3; try simp only [c3b, nrm]
        refine w_cond rfl (fun h => Bool.noConfusion h) (fun _ => ?_)
        refine wD fun K hK => ?_
        refine g_fd rfl rfl fa83_0 rfl (gT ?_)
        refine g_ldc rfl rfl ag23 sz23 rfl rfl rfl (gT ?_)
        refine g_mv rfl rfl (gT ?_)
        obtain ⟨c5, H⟩ := it1 H
        refine g_shr rfl rfl rfl rfl (by omega) (gT ?_)
        refine g_fd rfl rfl fa83_0 rfl (gT ?_)
        refine g_ldc rfl rfl ag23 sz23 rfl rfl rfl (gT ?_)
        refine g_mv rfl rfl (gT ?_)
        refine g_bin rfl rfl rfl rfl rfl (gT ?_)
        obtain ⟨c6, H⟩ := it1 H
        refine g_shl rfl rfl rfl rfl (by omega) (gT ?_)
        refine g_fd rfl rfl fa83_1 rfl (gT ?_)
        refine g_ldc rfl rfl ag23 sz23 rfl rfl rfl (gT ?_)
        refine g_mv rfl rfl (gT ?_)
        refine g_shr rfl rfl rfl rfl (by omega) (gT ?_)
        refine g_bin rfl rfl rfl rfl rfl (gT ?_)
        refine g_bd rfl rfl zr83 Tryd.underlying83 (pl := [(0, 1), (1, 1)]) (by kernel_rfl) ?_; refine gB ?_
        refine g_st rfl rfl sz83 rfl rfl rfl (by rfl) (Nat.le_of_ble_eq_true rfl) (gU ?_)
        refine g_nil (hK _ _ _ (by kernel_rfl) ?_)
        refine k_block ?_
        refine k_wk (σ := [0, 4, 12]) [1, 0, 1, 1] rfl (by decide) rfl ?_; refine gC ?_
        exact gI (ih0 a1 a0_0 a0_1 0 0 (shr .u64 a0_0 a1) (Go.bits .or .u64 (shl .u64 a0_0 (wrap64 (64 - a1))) (shr .u64 a0_1 a1)) r H)

set_option maxHeartbeats 8000000 in
set_option maxRecDepth 100000 in
theorem word_Neg.does {a0 : Int} {r : Bool} (H : word_Neg.f a0 = some r) : Do E0 (.fn 39 [.i .u64 a0] [] (.b r) []) := by
  refine fn_wpl Tryd.func39 rfl (Q := (word_Neg.Q a0 r)) (fun s h => h) ?_
  unfold word_Neg.f at H
  simp only [Tryd.ntmps39, List.length, List.replicate, Nat.reduceAdd, Nat.reduceSub, List.cons_append, List.nil_append]
  refine w_seq ?_
  refine wR fun K hK => ?_
  refine g_as rfl rfl (gT ?_)
  refine g_nil (hK _ _ _ ?_)
  refine k_seq ?_
  refine w_seq ?_
  refine wR fun K hK => ?_
  refine g_mv rfl rfl (gT ?_)
  refine g_shrc (p := 9223372036854775808) rfl rfl rfl rfl (by decide) (by rfl) (gT ?_)
  refine g_bin rfl rfl rfl rfl rfl (gT ?_)
  refine g_as rfl rfl (gT ?_)
  refine g_nil (hK _ _ _ ?_)
  refine k_seq ?_
  refine w_ret ?_
  refine fin_wp (τ := []) rfl (by decide) ?_; rw [← Option.some.inj H]; simp only [Tryd.f39]; exact gF

set_option maxHeartbeats 8000000 in
set_option maxRecDepth 100000 in
theorem wide_Wide_Add.does {a0_0 : Int} {a0_1 : Int} {a1_0 : Int} {a1_1 : Int} {r : Int × Int × Bool} (H : wide_Wide_Add.f a0_0 a0_1 a1_0 a1_1 = some r) : Do E0 (.fn 53 [.a [.i .u64 a0_0, .i .u64 a0_1], .a [.i .u64 a1_0, .i .u64 a1_1]] [] (.t [.a [.i .u64 r.1, .i .u64 r.2.1], .b r.2.2]) []) := by
  refine fn_wpl Tryd.func53 rfl (Q := (wide_Wide_Add.Q a0_0 a0_1 a1_0 a1_1 r)) (fun s h => h) ?_
  unfold wide_Wide_Add.f at H
  simp only [Tryd.ntmps53, List.length, List.replicate, Nat.reduceAdd, Nat.reduceSub, List.cons_append, List.nil_append]
  refine w_seq ?_
  refine wR fun K hK => ?_
  refine g_box rfl rfl rfl (by rfl) (gU ?_)
  refine g_box rfl rfl rfl (by rfl) (gU ?_)
  refine g_alloc rfl rfl zr83 (gU ?_)
  refine g_as rfl rfl (gT ?_)
  refine g_nil (hK _ _ _ ?_)
  refine k_seq ?_
  refine w_seq ?_
  refine wR fun K hK => ?_
  refine g_fd rfl rfl fa83_1 rfl (gT ?_)
  refine g_ldc rfl rfl ag23 sz23 rfl rfl rfl (gT ?_)
  refine g_fd rfl rfl fa83_1 rfl (gT ?_)
  refine g_ldc rfl rfl ag23 sz23 rfl rfl rfl (gT ?_)
  obtain ⟨q1, hq1, H⟩ := bnd H
  refine g_ex rfl rfl Tryd.func58 rfl (bits_Add64.ext hq1) (gT ?_)
  refine g_mv rfl rfl (gT ?_)
  refine g_ext rfl rfl rfl (Nat.le_of_ble_eq_true rfl) (gT ?_)
  refine g_ext rfl rfl rfl (Nat.le_of_ble_eq_true rfl) (gT ?_)
  refine g_as rfl rfl (gT ?_)
  refine g_as rfl rfl (gT ?_)
  refine g_nil (hK _ _ _ ?_)
  refine k_seq ?_
  refine w_seq ?_
  refine wR fun K hK => ?_
  refine g_fd rfl rfl fa83_0 rfl (gT ?_)
  refine g_ldc rfl rfl ag23 sz23 rfl rfl rfl (gT ?_)
  refine g_fd rfl rfl fa83_0 rfl (gT ?_)
  refine g_ldc rfl rfl ag23 sz23 rfl rfl rfl (gT ?_)
  refine g_mv rfl rfl (gT ?_)
  obtain ⟨q2, hq2, H⟩ := bnd H
  refine g_ex rfl rfl Tryd.func58 rfl (bits_Add64.ext hq2) (gT ?_)
  refine g_mv rfl rfl (gT ?_)
  refine g_ext rfl rfl rfl (Nat.le_of_ble_eq_true rfl) (gT ?_)
  refine g_ext rfl rfl rfl (Nat.le_of_ble_eq_true rfl) (gT ?_)
  refine g_as rfl rfl (gT ?_)
  refine g_as rfl rfl (gT ?_)
  refine g_nil (hK _ _ _ ?_)
  refine k_seq ?_
  refine w_seq ?_
  refine wR fun K hK => ?_
  refine g_mv rfl rfl (gT ?_)
  refine g_mv rfl rfl (gT ?_)
  refine g_bd rfl rfl zr83 Tryd.underlying83 (pl := [(0, 1), (1, 1)]) (by kernel_rfl) ?_; refine gB ?_
  refine g_mv rfl rfl (gT ?_)
  refine g_bin rfl rfl rfl rfl rfl (gT ?_)
  refine g_st rfl rfl sz83 rfl rfl rfl (by rfl) (Nat.le_of_ble_eq_true rfl) (gU ?_)
  refine g_as rfl rfl (gT ?_)
  refine g_nil (hK _ _ _ ?_)
  refine k_seq ?_
  refine w_ret ?_
  refine fin_wp (τ := []) rfl (by decide) ?_; rw [← Option.some.inj H]; simp only [Tryd.f53, ag83, sz83, nrm, nrmw, nrmc, nrme, nrmo, nrml, nrmb, nrmx, Nat.reduceEqDiff, Nat.reduceBEq, Nat.zero_add, Nat.add_zero, Nat.mul_one, List.length_cons, List.length_nil, List.length_map, List.length_set, List.length_replicate, List.drop_zero, List.drop_succ_cons, List.drop_nil, List.take_zero, List.take_succ_cons, List.take_nil, Nat.le_refl, if_true, if_false, Option.any_none, Option.any_some, List.contains_nil, Bool.not_false, Bool.or_true, Bool.true_or, Bool.or_false, Bool.false_or, Bool.and_true, Bool.true_and, Bool.and_self, reduceCtorEq, beq_self_eq_true, List.map_cons, List.map_nil, List.append_nil, List.nil_append, List.contains_cons, List.filter_cons, List.filter_nil, List.cons_append, Bool.false_eq_true, true_and, and_true, List.getElem_toArray, List.getElem_cons_zero, List.getElem_cons_succ, Nat.reduceAdd, Nat.reduceMul, Nat.reduceLT, Nat.reduceSub, Nat.reduceLeDiff]; try (first | rfl | exact ⟨rfl, trivial⟩ | exact ⟨rfl, rfl⟩)

set_option maxHeartbeats 8000000 in
set_option maxRecDepth 100000 in
theorem bits_Len64.does_l {a0 : Int} (k : Nat) : (∀ (x_0 : Int) (n_2 : Int) (r : Int), bits_Len64.j0 k x_0 n_2 = some r → kont E0 (bits_Len64.Q a0 r) (frs (bodyOf Tryd.f57) [1, 0, 1] []) .normal ⟨[.i .u64 x_0, .u, .i .i64 n_2, .u, .u, .u, .u, .u, .u, .u, .u, .u, .u, .u, .u, .u, .u, .u, .u, .u, .u, .u, .u, .u, .u], ofL [], 0, 0⟩) := by
  induction k with
  | zero => exact fun _ _ r h => by simp [bits_Len64.j0] at h
  | succ k ih =>
    have ih0 := ih
    refine ?_
    · intro x_0 n_2 r H
      unfold bits_Len64.j0 at H
      simp only [bodyOf, Tryd.f57, frs, sub, if_true, if_false, Nat.one_ne_zero]
      refine k_seq ?_
      refine w_seq ?_
      refine w_seq ?_
      refine wR fun K hK => ?_
      refine g_mv rfl rfl (gT ?_)
      refine g_bin rfl rfl rfl rfl rfl (gT ?_)
      refine g_nil (hK _ _ _ ?_)
      refine k_seq ?_
      rcases its H with ⟨c2, H⟩ | ⟨c2, H⟩
      · have c2b := decide_eq_true c2; try simp only [c2b, nrm]
        refine w_cond rfl (fun _ => ?_) (fun h => Bool.noConfusion h)
        refine w_seq ?_
        refine wR fun K hK => ?_
        refine g_mv rfl rfl (gT ?_)
        refine g_shrc (p := 65536) rfl rfl rfl rfl (by decide) (by rfl) (gT ?_)
        refine g_as rfl rfl (gT ?_)
        refine g_nil (hK _ _ _ ?_)
        refine k_seq ?_
        refine wR fun K hK => ?_
        refine g_mv rfl rfl (gT ?_)
        refine g_bin rfl rfl rfl rfl rfl (gT ?_)
        refine g_as rfl rfl (gT ?_)
        refine g_nil (hK _ _ _ ?_)
        refine k_seq ?_
        refine w_seq ?_
        refine w_seq ?_
        refine wR fun K hK => ?_
        refine g_mv rfl rfl (gT ?_)
        refine g_bin rfl rfl rfl rfl rfl (gT ?_)
        refine g_nil (hK _ _ _ ?_)
        refine k_seq ?_
        rcases its H with ⟨c3, H⟩ | ⟨c3, H⟩
        · have c3b := decide_eq_true c3; try simp only [c3b, nrm]
          refine w_cond rfl (fun _ => ?_) (fun h => Bool.noConfusion h)
          refine w_seq ?_
          refine wR fun K hK => ?_
          refine g_mv rfl rfl (gT ?_)
          refine g_shrc (p := 256) rfl rfl rfl rfl (by decide) (by rfl) (gT ?_)
          refine g_as rfl rfl (gT ?_)
          refine g_nil (hK _ _ _ ?_)
          refine k_seq ?_
          refine wR fun K hK => ?_
          refine g_mv rfl rfl (gT ?_)
          refine g_bin rfl rfl rfl rfl rfl (gT ?_)
          refine g_as rfl rfl (gT ?_)
          refine g_nil (hK _ _ _ ?_)
          refine k_seq ?_
          refine w_seq ?_
          refine wR fun K hK => ?_
          refine g_mv rfl rfl (gT ?_)
          refine g_mv rfl rfl (gT ?_)
          refine g_conv rfl rfl Tryd.underlying23 Tryd.underlying5 rfl (gT ?_)
          obtain ⟨c4, H⟩ := it1 H
          obtain ⟨c5, H⟩ := it1 H
          refine g_ixt rfl rfl Tryd.underlying9 rfl rfl (by first | assumption | omega) (by show _ < 256; omega) (v := bt _ _) (bt_at _ _ _) (gT ?_)
          refine g_conv rfl rfl Tryd.underlying5 Tryd.underlying3 rfl (gT ?_)
          refine g_bin rfl rfl rfl rfl rfl (gT ?_)
          refine g_as rfl rfl (gT ?_)
          refine g_nil (hK _ _ _ ?_)
          refine k_seq ?_
          refine w_ret ?_
          refine fin_wp (τ := []) rfl (by decide) ?_; rw [← Option.some.inj H]; simp only [Tryd.f57]; exact gF
        · have c3b := decide_eq_false c3; try simp only [c3b, nrm]
          refine w_cond rfl (fun h => Bool.noConfusion h) (fun _ => ?_)
          refine w_skip ?_
          refine k_seq ?_
          refine w_seq ?_
          refine wR fun K hK => ?_
          refine g_mv rfl rfl (gT ?_)
          refine g_mv rfl rfl (gT ?_)
          refine g_conv rfl rfl Tryd.underlying23 Tryd.underlying5 rfl (gT ?_)
          obtain ⟨c6, H⟩ := it1 H
          obtain ⟨c7, H⟩ := it1 H
          refine g_ixt rfl rfl Tryd.underlying9 rfl rfl (by first | assumption | omega) (by show _ < 256; omega) (v := bt _ _) (bt_at _ _ _) (gT ?_)
          refine g_conv rfl rfl Tryd.underlying5 Tryd.underlying3 rfl (gT ?_)
          refine g_bin rfl rfl rfl rfl rfl (gT ?_)
          refine g_as rfl rfl (gT ?_)
          refine g_nil (hK _ _ _ ?_)
          refine k_seq ?_
          refine w_ret ?_
          refine fin_wp (τ := []) rfl (by decide) ?_; rw [← Option.some.inj H]; simp only [Tryd.f57]; exact gF
      · have c2b := decide_eq_false c2; try simp only [c2b, nrm]
        refine w_cond rfl (fun h => Bool.noConfusion h) (fun _ => ?_)
        refine w_skip ?_
        refine k_seq ?_
        refine w_seq ?_
        refine w_seq ?_
        refine wR fun K hK => ?_
        refine g_mv rfl rfl (gT ?_)
        refine g_bin rfl rfl rfl rfl rfl (gT ?_)
        refine g_nil (hK _ _ _ ?_)
        refine k_seq ?_
        rcases its H with ⟨c8, H⟩ | ⟨c8, H⟩
        · have c8b := decide_eq_true c8; try simp only [c8b, nrm]
          refine w_cond rfl (fun _ => ?_) (fun h => Bool.noConfusion h)
          refine w_seq ?_
          refine wR fun K hK => ?_
          refine g_mv rfl rfl (gT ?_)
          refine g_shrc (p := 256) rfl rfl rfl rfl (by decide) (by rfl) (gT ?_)
          refine g_as rfl rfl (gT ?_)
          refine g_nil (hK _ _ _ ?_)
          refine k_seq ?_
          refine wR fun K hK => ?_
          refine g_mv rfl rfl (gT ?_)
          refine g_bin rfl rfl rfl rfl rfl (gT ?_)
          refine g_as rfl rfl (gT ?_)
          refine g_nil (hK _ _ _ ?_)
          refine k_seq ?_
          refine w_seq ?_
          refine wR fun K hK => ?_
          refine g_mv rfl rfl (gT ?_)
          refine g_mv rfl rfl (gT ?_)
          refine g_conv rfl rfl Tryd.underlying23 Tryd.underlying5 rfl (gT ?_)
          obtain ⟨c9, H⟩ := it1 H
          obtain ⟨c10, H⟩ := it1 H
          refine g_ixt rfl rfl Tryd.underlying9 rfl rfl (by first | assumption | omega) (by show _ < 256; omega) (v := bt _ _) (bt_at _ _ _) (gT ?_)
          refine g_conv rfl rfl Tryd.underlying5 Tryd.underlying3 rfl (gT ?_)
          refine g_bin rfl rfl rfl rfl rfl (gT ?_)
          refine g_as rfl rfl (gT ?_)
          refine g_nil (hK _ _ _ ?_)
          refine k_seq ?_
          refine w_ret ?_
          refine fin_wp (τ := []) rfl (by decide) ?_; rw [← Option.some.inj H]; simp only [Tryd.f57]; exact gF
        · have c8b := decide_eq_false c8; try simp only [c8b, nrm]
          refine w_cond rfl (fun h => Bool.noConfusion h) (fun _ => ?_)
          refine w_skip ?_
          refine k_seq ?_
          refine w_seq ?_
          refine wR fun K hK => ?_
          refine g_mv rfl rfl (gT ?_)
          refine g_mv rfl rfl (gT ?_)
          refine g_conv rfl rfl Tryd.underlying23 Tryd.underlying5 rfl (gT ?_)
          obtain ⟨c11, H⟩ := it1 H
          obtain ⟨c12, H⟩ := it1 H
          refine g_ixt rfl rfl Tryd.underlying9 rfl rfl (by first | assumption | omega) (by show _ < 256; omega) (v := bt _ _) (bt_at _ _ _) (gT ?_)
          refine g_conv rfl rfl Tryd.underlying5 Tryd.underlying3 rfl (gT ?_)
          refine g_bin rfl rfl rfl rfl rfl (gT ?_)
          refine g_as rfl rfl (gT ?_)
          refine g_nil (hK _ _ _ ?_)
          refine k_seq ?_
          refine w_ret ?_
          refine fin_wp (τ := []) rfl (by decide) ?_; rw [← Option.some.inj H]; simp only [Tryd.f57]; exact gF
set_option maxHeartbeats 8000000 in
set_option maxRecDepth 100000 in
theorem bits_Len64.does {k : Nat} {a0 : Int} {r : Int} (H : bits_Len64.f k a0 = some r) : Do E0 (.fn 57 [.i .u64 a0] [] (.i .i64 r) []) := by
  obtain ih0 := bits_Len64.does_l (a0 := a0) k
  refine fn_wpl Tryd.func57 rfl (Q := (bits_Len64.Q a0 r)) (fun s h => h) ?_
  unfold bits_Len64.f at H
  simp only [Tryd.ntmps57, List.length, List.replicate, Nat.reduceAdd, Nat.reduceSub, List.cons_append, List.nil_append]
  refine w_seq ?_
  refine wR fun K hK => ?_
  refine g_as rfl rfl (gT ?_)
  refine g_nil (hK _ _ _ ?_)
  refine k_seq ?_
  refine w_seq ?_
  refine w_seq ?_
  refine wR fun K hK => ?_
  refine g_mv rfl rfl (gT ?_)
  refine g_bin rfl rfl rfl rfl rfl (gT ?_)
  refine g_nil (hK _ _ _ ?_)
  refine k_seq ?_
  rcases its H with ⟨c1, H⟩ | ⟨c1, H⟩
  · have c1b := decide_eq_true c1; try simp only [c1b, nrm]
    refine w_cond rfl (fun _ => ?_) (fun h => Bool.noConfusion h)
    refine w_seq ?_
    refine wR fun K hK => ?_
    refine g_mv rfl rfl (gT ?_)
    refine g_shrc (p := 4294967296) rfl rfl rfl rfl (by decide) (by rfl) (gT ?_)
    refine g_as rfl rfl (gT ?_)
    refine g_nil (hK _ _ _ ?_)
    refine k_seq ?_
    refine wR fun K hK => ?_
    refine g_as rfl rfl (gT ?_)
    refine g_nil (hK _ _ _ ?_)
    refine k_wk (σ := []) [0, 1] rfl (by decide) rfl ?_; refine gC ?_
    exact gI (ih0 (a0 / 4294967296) 32 r H)
  · have c1b := decide_eq_false c1; try simp only [c1b, nrm]
    refine w_cond rfl (fun h => Bool.noConfusion h) (fun _ => ?_)
    refine w_skip ?_
    refine k_wk (σ := []) [0, 1] rfl (by decide) rfl ?_; refine gC ?_
    exact gI (ih0 a0 0 r H)

set_option maxHeartbeats 8000000 in
set_option maxRecDepth 100000 in
theorem wide_Wide_Len.does {k : Nat} {a0_0 : Int} {a0_1 : Int} {r : Int} (H : wide_Wide_Len.f k a0_0 a0_1 = some r) : Do E0 (.fn 50 [.a [.i .u64 a0_0, .i .u64 a0_1]] [] (.i .i64 r) []) := by
  refine fn_wpl Tryd.func50 rfl (Q := (wide_Wide_Len.Q a0_0 a0_1 r)) (fun s h => h) ?_
  unfold wide_Wide_Len.f at H
  simp only [Tryd.ntmps50, List.length, List.replicate, Nat.reduceAdd, Nat.reduceSub, List.cons_append, List.nil_append]
  refine w_seq ?_
  refine wR fun K hK => ?_
  refine g_box rfl rfl rfl (by rfl) (gU ?_)
  refine g_as rfl rfl (gT ?_)
  refine g_nil (hK _ _ _ ?_)
  refine k_seq ?_
  refine w_seq ?_
  refine w_seq ?_
  refine wR fun K hK => ?_
  refine g_fd rfl rfl fa83_0 rfl (gT ?_)
  refine g_ldc rfl rfl ag23 sz23 rfl rfl rfl (gT ?_)
  refine g_bin rfl rfl rfl rfl rfl (gT ?_)
  refine g_nil (hK _ _ _ ?_)
  refine k_seq ?_
  rcases its H with ⟨c1, H⟩ | ⟨c1, H⟩
  · have c1b := beq_iff_eq.mpr c1; have c1n := bne_eq_false_iff_eq.mpr c1; try simp only [c1b, c1n, nrm]
    refine w_cond rfl (fun h => Bool.noConfusion h) (fun _ => ?_)
    refine w_skip ?_
    refine k_seq ?_
    refine w_seq ?_
    refine wR fun K hK => ?_
    refine g_fd rfl rfl fa83_1 rfl (gT ?_)
    refine g_ldc rfl rfl ag23 sz23 rfl rfl rfl (gT ?_)
    obtain ⟨q2, hq2, H⟩ := bnd H
    refine g_cs [] rfl rfl (by rfl) Tryd.func57 rfl (by decide) (bits_Len64.does hq2) ⟨Nat.le_of_ble_eq_true rfl, Nat.le_of_ble_eq_true rfl⟩ ?_; refine gC ?_
    refine g_as rfl rfl (gT ?_)
    refine g_nil (hK _ _ _ ?_)
    refine k_seq ?_
    refine w_ret ?_
    refine fin_wp (τ := []) rfl (by decide) ?_; rw [← Option.some.inj H]; simp only [Tryd.f50]; exact gF
  · have c1b := beq_eq_false_iff_ne.mpr c1; have c1n := bne_iff_ne.mpr c1; try simp only [c1b, c1n, nrm]
    refine w_cond rfl (fun _ => ?_) (fun h => Bool.noConfusion h)
    refine w_seq ?_
    refine wR fun K hK => ?_
    refine g_fd rfl rfl fa83_0 rfl (gT ?_)
    refine g_ldc rfl rfl ag23 sz23 rfl rfl rfl (gT ?_)
    obtain ⟨q3, hq3, H⟩ := bnd H
    refine g_cs [] rfl rfl (by rfl) Tryd.func57 rfl (by decide) (bits_Len64.does hq3) ⟨Nat.le_of_ble_eq_true rfl, Nat.le_of_ble_eq_true rfl⟩ ?_; refine gC ?_
    refine g_bin rfl rfl rfl rfl rfl (gT ?_)
    refine g_as rfl rfl (gT ?_)
    refine g_nil (hK _ _ _ ?_)
    refine k_seq ?_
    refine w_ret ?_
    refine fin_wp (τ := []) rfl (by decide) ?_; rw [← Option.some.inj H]; simp only [Tryd.f50]; exact gF

set_option maxHeartbeats 8000000 in
set_option maxRecDepth 100000 in
theorem round_split.does {k : Nat} {a0_0 : Int} {a0_1 : Int} {a1 : Int} {a2 : Bool} {r : Bool × Bool} (H : round_split.f k a0_0 a0_1 a1 a2 = some r) : Do E0 (.fn 52 [.a [.i .u64 a0_0, .i .u64 a0_1], .i .i64 a1, .b a2] [] (.t [.b r.1, .b r.2]) []) := by
  refine fn_wpl Tryd.func52 rfl (Q := (round_split.Q a0_0 a0_1 a1 a2 r)) (fun s h => h) ?_
  unfold round_split.f at H
  simp only [Tryd.ntmps52, List.length, List.replicate, Nat.reduceAdd, Nat.reduceSub, List.cons_append, List.nil_append]
  refine w_seq ?_
  refine wR fun K hK => ?_
  refine g_box rfl rfl rfl (by rfl) (gU ?_)
  refine g_as rfl rfl (gT ?_)
  refine g_as rfl rfl (gT ?_)
  refine g_nil (hK _ _ _ ?_)
  refine k_seq ?_
  refine w_seq ?_
  refine w_seq ?_
  refine wR fun K hK => ?_
  refine g_mv rfl rfl (gT ?_)
  refine g_bin rfl rfl rfl rfl rfl (gT ?_)
  refine g_nil (hK _ _ _ ?_)
  refine k_seq ?_
  rcases its H with ⟨c1, H⟩ | ⟨c1, H⟩
  · have c1b := decide_eq_true c1; try simp only [c1b, nrm]
    refine w_cond rfl (fun _ => ?_) (fun h => Bool.noConfusion h)
    refine w_seq ?_
    refine wR fun K hK => ?_
    refine g_mv rfl rfl (gT ?_)
    refine g_as rfl rfl (gT ?_)
    refine g_as rfl rfl (gT ?_)
    refine g_nil (hK _ _ _ ?_)
    refine k_seq ?_
    refine w_ret ?_
    refine fin_wp (τ := []) rfl (by decide) ?_; rw [← Option.some.inj H]; simp only [Tryd.f52]; exact gF
  · have c1b := decide_eq_false c1; try simp only [c1b, nrm]
    refine w_cond rfl (fun h => Bool.noConfusion h) (fun _ => ?_)
    refine w_skip ?_
    refine k_seq ?_
    refine w_seq ?_
    refine wR fun K hK => ?_
    refine g_lda rfl rfl ag83 sz83 rfl rfl (Nat.le_of_ble_eq_true rfl) (gT ?_)
    refine g_mv rfl rfl (gT ?_)
    refine g_bin rfl rfl rfl rfl rfl (gT ?_)
    obtain ⟨q2, hq2, H⟩ := bnd H
    refine g_cs [] rfl rfl (by rfl) Tryd.func51 rfl (by decide) (wide_Wide_Right.does hq2) ⟨Nat.le_of_ble_eq_true rfl, Nat.le_of_ble_eq_true rfl⟩ ?_; refine gC ?_
    refine g_mv rfl rfl (gT ?_)
    refine g_ext rfl rfl rfl (Nat.le_of_ble_eq_true rfl) (gT ?_)
    refine g_ext rfl rfl rfl (Nat.le_of_ble_eq_true rfl) (gT ?_)
    refine g_alloc rfl rfl zr83 (gU ?_)
    refine g_st rfl rfl sz83 rfl rfl rfl (by rfl) (Nat.le_of_ble_eq_true rfl) (gU ?_)
    refine g_as rfl rfl (gT ?_)
    refine g_nil (hK _ _ _ ?_)
    refine k_seq ?_
    refine w_seq ?_
    refine wR fun K hK => ?_
    refine g_fd rfl rfl fa83_1 rfl (gT ?_)
    refine g_ldc rfl rfl ag23 sz23 rfl rfl rfl (gT ?_)
    refine g_bin rfl rfl rfl rfl rfl (gT ?_)
    refine g_bin rfl rfl rfl rfl rfl (gT ?_)
    refine g_as rfl rfl (gT ?_)
    refine g_nil (hK _ _ _ ?_)
    refine k_seq ?_
    refine w_seq ?_
    refine wR fun K hK => ?_
    refine g_mv rfl rfl (gT ?_)
    refine g_mv rfl rfl (gT ?_)
    refine g_as rfl rfl (gT ?_)
    refine g_as rfl rfl (gT ?_)
    refine g_nil (hK _ _ _ ?_)
    refine k_seq ?_
    refine w_ret ?_
    refine fin_wp (τ := []) rfl (by decide) ?_; rw [← Option.some.inj H]; simp only [Tryd.f52]; exact gF

end Go.Proofs.YtlhpejbmjbcmaaaDoor.F

/- Texts of this claim, one behind the other: the functions, and that the machine does what they say. -/
import Derived.RowKit
import Derived.WalkKit
import Derived.KernelRfl
import Derived.Test.YtnjobojkoaknpaaProg
import Derived.Test.YtnjobojkoaknpaaRun1
set_option linter.constructorNameAsVariable false
set_option linter.unusedSimpArgs false
set_option linter.unusedVariables false
set_option linter.unusedSectionVars false
namespace Go.Proofs.YtnjobojkoaknpaaW.PrintWords
open Go Go.RowKit
def rd (xs : List Int) (i : Int) : Int := xs.getD i.toNat 0
def bt (s : ByteArray) (i : Int) : Int := if h : i.toNat < s.size then ((s[i.toNat]'h).toNat : Int) else 0
theorem bt_at (x : ByteArray) (j : Int) (h : j.toNat < x.size) : ((x[j.toNat]'h).toNat : Int) = bt x j := by unfold bt; rw [dif_pos h]
def Ev {α : Type} (g : Nat → Option α) (r : α) : Prop := ∃ K, ∀ k, K ≤ k → g k = some r
theorem Ev.now {α : Type} (r : α) : Ev (fun _ => some r) r := ⟨0, fun _ _ => rfl⟩
theorem Ev.rounds {α : Type} {g : Nat → Option α} {r : α} (h : Ev g r) : ∃ k, g k = some r := h.elim fun K h => ⟨K, h K (Nat.le_refl K)⟩
theorem Ev.bind {α β : Type} {g : Nat → Option α} {f : Nat → α → Option β} {a : α} {r : β} (h : Ev g a) (k : Ev (fun n => f n a) r) : Ev (fun n => (g n).bind (f n)) r := by
  obtain ⟨K, h⟩ := h; obtain ⟨L, k⟩ := k
  exact ⟨K + L, fun n hn => by show (g n).bind (f n) = some r; rw [h n (by omega)]; exact k n (by omega)⟩
def mx (a b : Int) : Int := if a < b then b else a
def mn (a b : Int) : Int := if b < a then b else a
def shl (k : IntKind) (x y : Int) : Int := k.wrap (x * 2 ^ min y.toNat k.bits)
def shr (k : IntKind) (x y : Int) : Int := x / 2 ^ min y.toNat k.bits
end Go.Proofs.YtnjobojkoaknpaaW.PrintWords
namespace Go.Proofs.YtnjobojkoaknpaaW.PrintLast
end Go.Proofs.YtnjobojkoaknpaaW.PrintLast
namespace Go.Proofs.YtnjobojkoaknpaaW.PrintMore
end Go.Proofs.YtnjobojkoaknpaaW.PrintMore
namespace Go.Proofs.Ytnjobojkoaknpaa.F
open Go Go.RowKit Go.Proofs.YtnjobojkoaknpaaW.PrintWords
open Go.Rk hiding Rd
def addX : List V → Option V
  | [.i .u64 x, .i .u64 y, .i .u64 c] => if 0 ≤ x ∧ 0 ≤ y ∧ 0 ≤ c ∧ c ≤ 1 then some (.t [.i .u64 ((x + y + c) % 18446744073709551616), .i .u64 ((x + y + c) / 18446744073709551616)]) else none
  | _ => none
def subX : List V → Option V
  | [.i .u64 x, .i .u64 y, .i .u64 c] => if 0 ≤ x ∧ 0 ≤ y ∧ y < 18446744073709551616 ∧ 0 ≤ c ∧ c ≤ 1 then some (.t [.i .u64 ((x - y - c) % 18446744073709551616), .i .u64 (if x < y + c then 1 else 0)]) else none
  | _ => none

noncomputable def E0 : Env := { P := Try.prog, G := fun _ => [], ext := fun f l => if f = 51 then addX l else if f = 60 then subX l else none }
def bits_Add64.f (a0 a1 a2 : Int) : Option (Int × Int) := if 0 ≤ a0 then (if 0 ≤ a1 then (if 0 ≤ a2 then (if a2 ≤ 1 then (some ((a0 + a1 + a2) % 18446744073709551616, (a0 + a1 + a2) / 18446744073709551616)) else none) else none) else none) else none
def bits_Sub64.f (a0 a1 a2 : Int) : Option (Int × Int) := if 0 ≤ a0 ∧ 0 ≤ a1 ∧ a1 < 18446744073709551616 ∧ 0 ≤ a2 ∧ a2 ≤ 1 then (some ((a0 - a1 - a2) % 18446744073709551616, if a0 < a1 + a2 then 1 else 0)) else none
theorem bits_Add64.ext {a0 a1 a2 : Int} {r : Int × Int} (H : bits_Add64.f a0 a1 a2 = some r) : E0.ext 51 [.i .u64 a0, .i .u64 a1, .i .u64 a2] = some (.t [.i .u64 r.1, .i .u64 r.2]) := by
  unfold bits_Add64.f at H
  obtain ⟨c1, H⟩ := it1 H; obtain ⟨c2, H⟩ := it1 H; obtain ⟨c3, H⟩ := it1 H; obtain ⟨c4, H⟩ := it1 H
  cases H
  simp only [E0, if_true]
  exact if_pos ⟨c1, c2, c3, c4⟩
theorem bits_Sub64.ext {a0 a1 a2 : Int} {r : Int × Int} (H : bits_Sub64.f a0 a1 a2 = some r) : E0.ext 60 [.i .u64 a0, .i .u64 a1, .i .u64 a2] = some (.t [.i .u64 r.1, .i .u64 r.2]) := by
  unfold bits_Sub64.f at H
  obtain ⟨⟨c1, c2, c5, c3, c4⟩, H⟩ := it1 H
  cases H
  simp only [E0, show (60 = 51) = False from by simp, if_false, if_true]
  exact if_pos ⟨c1, c2, c5, c3, c4⟩
theorem nrmw : (∀ n, IntKind.i64.wrap n = wrap64 n) ∧ (∀ n, IntKind.u32.wrap n = n % 4294967296) ∧ (∀ n, IntKind.u8.wrap n = n % 256) ∧ (∀ k x y, shlI k x y = shl k x y) ∧ (∀ k x y, shrI k x y = shr k x y) ∧
    (∀ xs j, List.getD xs (Int.toNat j) 0 = rd xs j) ∧ (∀ x, (0 : Int) - x = -x) := by
  refine ⟨fun n => by unfold Go.RowKit.wrap64; exact IntKind.wrap_i64 n, fun n => by simp [IntKind.wrap, IntKind.signed, IntKind.bits], fun n => by simp [IntKind.wrap, IntKind.signed, IntKind.bits], fun _ _ _ => rfl, fun _ _ _ => rfl, fun _ _ => rfl, Int.zero_sub⟩
theorem gN {p q : Prop} (h : q) (e : p = q := by first | (simp only [nrm, nrmw, nrmb, if_true, if_false, Bool.false_eq_true, Nat.zero_add, Nat.add_zero, List.length_cons, List.length_nil, List.length_map, List.length_replicate, List.length_set, List.drop_zero, List.drop_succ_cons, List.take_zero, List.take_succ_cons, Nat.reduceAdd, Nat.reduceMul, Nat.reduceSub]; rfl) | rfl) : p := e ▸ h
theorem gC {p q : Prop} (h : q) (e : p = q := by first | (simp only [nrm, nrmw, nrmc, nrme, nrmo, nrml, nrmb, nrmx, Nat.reduceEqDiff, Nat.reduceBEq, Nat.zero_add, Nat.add_zero, Nat.mul_one, List.length_cons, List.length_nil, List.length_map, List.length_set, List.length_replicate, List.drop_zero, List.drop_succ_cons, List.drop_nil, List.take_zero, List.take_succ_cons, List.take_nil, Nat.le_refl, if_true, if_false, Option.any_none, Option.any_some, List.contains_nil, Bool.not_false, Bool.or_true, Bool.true_or, Bool.or_false, Bool.false_or, Bool.and_true, Bool.true_and, Bool.and_self, reduceCtorEq, beq_self_eq_true, List.map_cons, List.map_nil, List.append_nil, List.nil_append, List.filter_cons, List.filter_nil, List.cons_append, Bool.false_eq_true, true_and, and_true, List.getElem_toArray, List.getElem_cons_zero, List.getElem_cons_succ, Nat.reduceAdd, Nat.reduceMul, Nat.reduceLT, Nat.reduceSub, Nat.reduceLeDiff]; rfl) | rfl) : p := e ▸ h
theorem gT {E : Env} {os : Array Oper} {sl : Nat} {is : List Nat} {t t' : List V} {h : Hp} {tr : Tr} {K : List V → Hp → Tr → Prop} (hk : gD E os sl is t' h tr K)
    (e : t = t' := by first | (simp only [nrm, nrmw, nrmb, nrmx, if_true, if_false, Bool.false_eq_true, Nat.zero_add, Nat.add_zero, List.length_cons, List.length_nil, List.length_map, List.length_replicate, List.length_set, List.drop_zero, List.drop_succ_cons, List.take_zero, List.take_succ_cons, Nat.reduceAdd, Nat.reduceMul, Nat.reduceSub]; rfl) | rfl) : gD E os sl is t h tr K := e ▸ hk
theorem gU {E : Env} {os : Array Oper} {sl : Nat} {is : List Nat} {t t' : List V} {h h' : Hp} {tr : Tr} {K : List V → Hp → Tr → Prop} (hk : gD E os sl is t' h' tr K)
    (e : t = t' := by first | (simp only [nrm, nrmw, nrmb, nrmx, if_true, if_false, Bool.false_eq_true, Nat.zero_add, Nat.add_zero, List.length_cons, List.length_nil, List.length_map, List.length_replicate, List.length_set, List.drop_zero, List.drop_succ_cons, List.take_zero, List.take_succ_cons, Nat.reduceAdd, Nat.reduceMul, Nat.reduceSub]; rfl) | rfl) (e2 : h = h' := by first | (simp only [nrm, nrmw, nrmb, nrmx, if_true, if_false, Bool.false_eq_true, Nat.zero_add, Nat.add_zero, List.length_cons, List.length_nil, List.length_map, List.length_replicate, List.length_set, List.drop_zero, List.drop_succ_cons, List.take_zero, List.take_succ_cons, Nat.reduceAdd, Nat.reduceMul, Nat.reduceSub]; rfl) | rfl) : gD E os sl is t h tr K := by subst e e2; exact hk
theorem gB {p q : Prop} (h : q) (e : p = q := by first | (simp only [nrm, nrmb, nrmc, nrmf, List.map_cons, List.map_nil, List.zip_cons_cons, List.zip_nil_right, List.zip_nil_left, List.getElem?_cons_zero, List.getElem?_cons_succ, List.length_cons, List.length_nil, Nat.reduceAdd, Nat.reduceMul, Nat.reduceLeDiff, Nat.zero_add, Nat.add_zero, Nat.le_refl, and_self, if_true, List.cons_append, List.nil_append, List.all_cons, List.all_nil, Bool.and_true, Bool.and_self]; simp only [nrm, nrmw, nrmb, if_true, if_false, Bool.false_eq_true, Nat.zero_add, Nat.add_zero, List.length_cons, List.length_nil, List.length_map, List.length_replicate, List.length_set, List.drop_zero, List.drop_succ_cons, List.take_zero, List.take_succ_cons, Nat.reduceAdd, Nat.reduceMul, Nat.reduceSub]; rfl) | (simp only [nrm, nrmb, nrmc, nrmf, List.map_cons, List.map_nil, List.zip_cons_cons, List.zip_nil_right, List.zip_nil_left, List.getElem?_cons_zero, List.getElem?_cons_succ, List.length_cons, List.length_nil, Nat.reduceAdd, Nat.reduceMul, Nat.reduceLeDiff, Nat.zero_add, Nat.add_zero, Nat.le_refl, and_self, if_true, List.cons_append, List.nil_append, List.all_cons, List.all_nil, Bool.and_true, Bool.and_self]; rfl)) : p := e ▸ h
theorem gI {p q : Prop} (h : p) (e : p = q := by first | with_reducible rfl | (simp only [nrm, nrmw, nrmb, if_true, if_false, Bool.false_eq_true, Nat.zero_add, Nat.add_zero, List.length_cons, List.length_nil, List.length_map, List.length_replicate, List.length_set, List.drop_zero, List.drop_succ_cons, List.take_zero, List.take_succ_cons, Nat.reduceAdd, Nat.reduceMul, Nat.reduceSub] <;> rfl) | (simp only [nrm, nrmw, nrmc, nrme, nrmo, nrml, nrmb, nrmx, Nat.reduceEqDiff, Nat.reduceBEq, Nat.zero_add, Nat.add_zero, Nat.mul_one, List.length_cons, List.length_nil, List.length_map, List.length_set, List.length_replicate, List.drop_zero, List.drop_succ_cons, List.drop_nil, List.take_zero, List.take_succ_cons, List.take_nil, Nat.le_refl, if_true, if_false, Option.any_none, Option.any_some, List.contains_nil, Bool.not_false, Bool.or_true, Bool.true_or, Bool.or_false, Bool.false_or, Bool.and_true, Bool.true_and, Bool.and_self, reduceCtorEq, beq_self_eq_true, List.map_cons, List.map_nil, List.append_nil, List.nil_append, List.filter_cons, List.filter_nil, List.cons_append, Bool.false_eq_true, true_and, and_true, List.getElem_toArray, List.getElem_cons_zero, List.getElem_cons_succ, Nat.reduceAdd, Nat.reduceMul, Nat.reduceLT, Nat.reduceSub, Nat.reduceLeDiff] <;> rfl) | rfl) : q := e ▸ h
theorem gF {p : Prop} (e : p := by simp only [nrm, nrmw, nrmc, nrme, nrmo, nrml, nrmb, nrmx, Nat.reduceEqDiff, Nat.reduceBEq, Nat.zero_add, Nat.add_zero, Nat.mul_one, List.length_cons, List.length_nil, List.length_map, List.length_set, List.length_replicate, List.drop_zero, List.drop_succ_cons, List.drop_nil, List.take_zero, List.take_succ_cons, List.take_nil, Nat.le_refl, if_true, if_false, Option.any_none, Option.any_some, List.contains_nil, Bool.not_false, Bool.or_true, Bool.true_or, Bool.or_false, Bool.false_or, Bool.and_true, Bool.true_and, Bool.and_self, reduceCtorEq, beq_self_eq_true, List.map_cons, List.map_nil, List.append_nil, List.nil_append, List.filter_cons, List.filter_nil, List.cons_append, Bool.false_eq_true, true_and, and_true, List.getElem_toArray, List.getElem_cons_zero, List.getElem_cons_succ, Nat.reduceAdd, Nat.reduceMul, Nat.reduceLT, Nat.reduceSub, Nat.reduceLeDiff] <;> first | rfl | exact ⟨rfl, trivial⟩ | exact ⟨rfl, rfl⟩) : p := e
section
variable {E : Env} {Q : S → Prop} {ks : List Fm} {s : S}
/-- A region; what follows it is a letter. -/
theorem wR {id os n is} (h : ∀ K : List V → Hp → Tr → Prop, (∀ t' h' tr, kont E Q ks .normal ⟨t', h', n, s.a⟩ → K t' h' tr) → gD E os s.n is s.t s.h [] K) (e1 : List.range os.size = is := by first | (simp only [Array.size, List.length, List.range, List.range.loop, nrm, Nat.reduceAdd, Nat.reduceMul]; rfl) | rfl) (e2 : s.n + 4 * os.size = n := by first | (simp only [Array.size, List.length, List.range, List.range.loop, nrm, Nat.reduceAdd, Nat.reduceMul]; rfl) | rfl) : wk_ E Q ks (.region id os false) s := by
  subst e1 e2; exact w_reg (h _ fun t' h' tr hk => hk)
theorem wD {id os n is} (h : ∀ K : List V → Hp → Tr → Prop, (∀ t' h' tr, indep os (pres os) tr = true → kont E Q ks .normal ⟨t', h', n, s.a⟩ → K t' h' tr) → gD E os s.n is s.t s.h [] K) (e1 : List.range os.size = is := by first | (simp only [Array.size, List.length, List.range, List.range.loop, nrm, Nat.reduceAdd, Nat.reduceMul]; rfl) | rfl) (e2 : s.n + 4 * os.size = n := by first | (simp only [Array.size, List.length, List.range, List.range.loop, nrm, Nat.reduceAdd, Nat.reduceMul]; rfl) | rfl) : wk_ E Q ks (.region id os true) s := by
  subst e1 e2; exact w_drw (h _ fun t' h' tr hi hk => ⟨hi, hk⟩)
end
end Go.Proofs.Ytnjobojkoaknpaa.F
namespace Go.Proofs.Ytnjobojkoaknpaa.F
open Go Go.RowKit Go.Proofs.YtnjobojkoaknpaaW.PrintWords
open Go.Rk hiding Rd
set_option linter.unusedVariables false
set_option linter.unusedSimpArgs false
set_option maxRecDepth 100000
def gimballaw12_head_ok.f : Option Unit := some ()
def mat_New.f (a0 : Int) (a1 : Int) : Option (Int × Int × Int × (List Int)) := (if a0 < 0 then (some (0, 0, 0, ([] : List Int))) else (if a1 < 0 then (some (0, 0, 0, ([] : List Int))) else (if a0 > 4096 then (some (0, 0, 0, ([] : List Int))) else (if a1 > 4096 then (some (0, 0, 0, ([] : List Int))) else (if 0 ≤ (wrap64 (a0 * a1)) then (if (wrap64 (a0 * a1)) ≤ 35184372088832 then (some (a0, a1, a1, (List.replicate (wrap64 (a0 * a1)).toNat 0))) else none) else none)))))
def mat_New.Q (a0 : Int) (a1 : Int) (r : Int × Int × Int × (List Int)) : S → Prop := fun s => ∃ τ r', fin E0 Try.f17 0 τ s = some (r', [.row (r.2.2.2.map (V.i .u64)) 2 1 true true none]) ∧ r'.ro = (.a [.i .i64 r.1, .i .i64 r.2.1, .i .i64 r.2.2.1, .s (some (0, 0)) r.2.2.2.length])
def mat_Matrix_in.f (a0_0 : Int) (a0_1 : Int) (a0_2 : Int) (l0_3 : List Int) (a1 : Int) (a2 : Int) : Option (Bool) := (if a1 ≥ 0 then (if a1 < a0_0 then (if a2 ≥ 0 then (if a2 < a0_1 then (if a0_2 ≥ 0 then (some ((decide ((wrap64 ((wrap64 (a1 * a0_2)) + a2)) < (l0_3.length : Int))))) else (some (false))) else (some (false))) else (some (false))) else (some (false))) else (some (false)))
def mat_Matrix_in.Q (a0_0 : Int) (a0_1 : Int) (a0_2 : Int) (l0_3 : List Int) (a1 : Int) (a2 : Int) (r : Bool) : S → Prop := fun s => ∃ τ r', fin E0 Try.f29 0 τ s = some (r', []) ∧ r'.ro = (.b r)
def mat_Matrix_Set.f (a0_0 : Int) (a0_1 : Int) (a0_2 : Int) (l0_3 : List Int) (a1 : Int) (a2 : Int) (a3 : Int) : Option ((List Int)) := ((mat_Matrix_in.f a0_0 a0_1 a0_2 l0_3 a1 a2).bind fun q1 => (if q1 = true then (if 0 ≤ (wrap64 ((wrap64 (a1 * a0_2)) + a2)) then (if (wrap64 ((wrap64 (a1 * a0_2)) + a2)) < (l0_3.length : Int) then (some ((l0_3.set (wrap64 ((wrap64 (a1 * a0_2)) + a2)).toNat a3))) else none) else none) else (some (l0_3))))
def mat_Matrix_Set.Q (a0_0 : Int) (a0_1 : Int) (a0_2 : Int) (l0_3 : List Int) (a1 : Int) (a2 : Int) (a3 : Int) (r : (List Int)) : S → Prop := fun s => ∃ τ r', fin E0 Try.f20 1 τ s = some (r', [.row (r.map (V.i .u64)) 2 1 true false none]) ∧ r'.ro = (.t [])
mutual
def mat_Matrix_Check.j0 : Nat → Bool → Int → Int → Int → List Int → Option (Int)
  | 0, _, _, _, _, _ => none
  | k + 1, t_3, h0_0, h0_1, h0_2, h0_3 => (if t_3 = true then (some (4)) else (if h0_0 = 0 then (mat_Matrix_Check.j1 k true h0_0 h0_1 h0_2 h0_3) else (mat_Matrix_Check.j1 k (h0_1 == 0) h0_0 h0_1 h0_2 h0_3)))
def mat_Matrix_Check.j1 : Nat → Bool → Int → Int → Int → List Int → Option (Int)
  | 0, _, _, _, _, _ => none
  | k + 1, t_34, h0_0, h0_1, h0_2, h0_3 => (if t_34 = true then (some (0)) else (if (wrap64 ((wrap64 ((wrap64 (h0_0 - 1)) * h0_2)) + h0_1)) > (h0_3.length : Int) then (some (4)) else (some (0))))
end
def mat_Matrix_Check.f (k : Nat) (a0_0 : Int) (a0_1 : Int) (a0_2 : Int) (l0_3 : List Int) : Option (Int) := (if a0_0 < 0 then (mat_Matrix_Check.j0 k true a0_0 a0_1 a0_2 l0_3) else (if a0_0 > 4096 then (mat_Matrix_Check.j0 k true a0_0 a0_1 a0_2 l0_3) else (if a0_1 < 0 then (mat_Matrix_Check.j0 k true a0_0 a0_1 a0_2 l0_3) else (if a0_1 > 4096 then (mat_Matrix_Check.j0 k true a0_0 a0_1 a0_2 l0_3) else (if a0_2 < a0_1 then (mat_Matrix_Check.j0 k true a0_0 a0_1 a0_2 l0_3) else (mat_Matrix_Check.j0 k (decide (a0_2 > 1099511627776)) a0_0 a0_1 a0_2 l0_3))))))
def mat_Matrix_Check.Q (a0_0 : Int) (a0_1 : Int) (a0_2 : Int) (l0_3 : List Int) (r : Int) : S → Prop := fun s => ∃ τ r', fin E0 Try.f26 0 τ s = some (r', []) ∧ r'.ro = (.i .i64 r)
def mat_Matrix_At.f (a0_0 : Int) (a0_1 : Int) (a0_2 : Int) (l0_3 : List Int) (a1 : Int) (a2 : Int) : Option (Int) := ((mat_Matrix_in.f a0_0 a0_1 a0_2 l0_3 a1 a2).bind fun q1 => (if q1 = true then (if 0 ≤ (wrap64 ((wrap64 (a1 * a0_2)) + a2)) then (if (wrap64 ((wrap64 (a1 * a0_2)) + a2)) < (l0_3.length : Int) then (some ((rd l0_3 (wrap64 ((wrap64 (a1 * a0_2)) + a2))))) else none) else none) else (some (9221120237041090560))))
def mat_Matrix_At.Q (a0_0 : Int) (a0_1 : Int) (a0_2 : Int) (l0_3 : List Int) (a1 : Int) (a2 : Int) (r : Int) : S → Prop := fun s => ∃ τ r', fin E0 Try.f11 0 τ s = some (r', []) ∧ r'.ro = (.i .u64 r)
def word_Exp.f (a0 : Int) : Option (Int) := (some ((wrap64 ((Go.bits .and .u64 (a0 / 4503599627370496) 2047)))))
def word_Exp.Q (a0 : Int) (r : Int) : S → Prop := fun s => ∃ τ r', fin E0 Try.f22 0 τ s = some (r', []) ∧ r'.ro = (.i .i64 r)
def word_Frac.f (a0 : Int) : Option (Int) := (some ((Go.bits .and .u64 a0 4503599627370495)))
def word_Frac.Q (a0 : Int) (r : Int) : S → Prop := fun s => ∃ τ r', fin E0 Try.f41 0 τ s = some (r', []) ∧ r'.ro = (.i .u64 r)
mutual
def word_Kind.j0 : Nat → Int → Int → Bool → Option (Int)
  | 0, _, _, _ => none
  | k + 1, e_3, f_4, t_9 => (if t_9 = true then (some (1)) else (if e_3 = 0 then (some (2)) else (if e_3 < 2047 then (some (3)) else (if f_4 = 0 then (some (4)) else (some (5))))))
end
def word_Kind.f (k : Nat) (a0 : Int) : Option (Int) := ((word_Exp.f a0).bind fun q1 => ((word_Frac.f a0).bind fun q2 => (if q1 = 0 then (word_Kind.j0 k q1 q2 (q2 == 0)) else (word_Kind.j0 k q1 q2 false))))
def word_Kind.Q (a0 : Int) (r : Int) : S → Prop := fun s => ∃ τ r', fin E0 Try.f27 0 τ s = some (r', []) ∧ r'.ro = (.i .i64 r)
def solve_of.f  : Option (Unit) := (some ())
def solve_of.Q  (r : Unit) : S → Prop := fun s => ∃ τ r', fin E0 Try.f28 0 τ s = some (r', []) ∧ r'.ro = (.a [.f 42 [] []])
def solve_of_1.f (a0 : Int) (a1 : Int) : Option (Int × Int) := (some ((wrap64 (a0 + 1)), a1))
def solve_of_1.Q (a0 : Int) (a1 : Int) (r : Int × Int) : S → Prop := fun s => ∃ τ r', fin E0 Try.f42 0 τ s = some (r', []) ∧ r'.ro = (.t [.i .i64 r.1, .i .i64 r.2])
def solve_of_v2.f  : Option (Unit) := (some ())
def solve_of_v2.Q  (r : Unit) : S → Prop := fun s => ∃ τ r', fin E0 Try.f28 0 τ s = some (r', []) ∧ r'.ro = (.a [.f 43 [] []])
def solve_of_2.f (a0 : Int) (a1 : Int) : Option (Int × Int) := (some (0, a0))
def solve_of_2.Q (a0 : Int) (a1 : Int) (r : Int × Int) : S → Prop := fun s => ∃ τ r', fin E0 Try.f43 0 τ s = some (r', []) ∧ r'.ro = (.t [.i .i64 r.1, .i .i64 r.2])
def word_Signals.f (k : Nat) (a0 : Int) : Option (Bool) := ((word_Kind.f k a0).bind fun q1 => (if q1 = 5 then (some (((Go.bits .and .u64 (a0 / 2251799813685248) 1) == 0))) else (some (false))))
def word_Signals.Q (a0 : Int) (r : Bool) : S → Prop := fun s => ∃ τ r', fin E0 Try.f56 0 τ s = some (r', []) ∧ r'.ro = (.b r)
mutual
def soft_nan.l0 : Nat → Int → Bool → List Int → Int → Int → Option (Int × Int × Bool)
  | 0, _, _, _, _, _ => none
  | k + 1, f_5, is_6, t_9, t_10, t_11 => (if t_11 < t_10 then (if 0 ≤ t_11 then (if t_11 < (t_9.length : Int) then ((word_Kind.f k (rd t_9 t_11)).bind fun q4 => (if q4 = 5 then ((word_Signals.f k (rd t_9 t_11)).bind fun q6 => (if q6 = true then (soft_nan.l0 k 16 true t_9 t_10 (wrap64 (t_11 + 1))) else (soft_nan.l0 k f_5 true t_9 t_10 (wrap64 (t_11 + 1))))) else (soft_nan.l0 k f_5 is_6 t_9 t_10 (wrap64 (t_11 + 1))))) else none) else none) else (some (9221120237041090560, f_5, is_6)))
end
def soft_nan.f (k : Nat) (l0 : List Int) : Option (Int × Int × Bool) := (soft_nan.l0 k 0 false l0 (l0.length : Int) 0)
def soft_nan.Q (l0 : List Int) (r : Int × Int × Bool) : S → Prop := fun s => ∃ τ r', fin E0 Try.f45 0 τ s = some (r', []) ∧ r'.ro = (.t [.i .u64 r.1, .i .u8 r.2.1, .b r.2.2])
def word_Neg.f (a0 : Int) : Option (Bool) := (some (((a0 / 9223372036854775808) == 1)))
def word_Neg.Q (a0 : Int) (r : Bool) : S → Prop := fun s => ∃ τ r', fin E0 Try.f39 0 τ s = some (r', []) ∧ r'.ro = (.b r)
def word_Make.f (a0 : Bool) (a1 : Int) (a2 : Int) : Option (Int) := (if a0 = true then (some ((Go.bits .or .u64 (Go.bits .or .u64 (IntKind.u64.wrap ((Go.bits .and .u64 (IntKind.u64.wrap (a1)) 2047) * 4503599627370496)) (Go.bits .and .u64 a2 4503599627370495)) 9223372036854775808))) else (some ((Go.bits .or .u64 (IntKind.u64.wrap ((Go.bits .and .u64 (IntKind.u64.wrap (a1)) 2047) * 4503599627370496)) (Go.bits .and .u64 a2 4503599627370495)))))
def word_Make.Q (a0 : Bool) (a1 : Int) (a2 : Int) (r : Int) : S → Prop := fun s => ∃ τ r', fin E0 Try.f46 0 τ s = some (r', []) ∧ r'.ro = (.i .u64 r)
def word_Parts.f (k : Nat) (a0 : Int) : Option (Int × Int) := ((word_Kind.f k a0).bind fun q1 => (if q1 = 2 then ((word_Frac.f a0).bind fun q3 => (some (q3, (-1074)))) else (if q1 = 3 then ((word_Frac.f a0).bind fun q5 => ((word_Exp.f a0).bind fun q6 => (some ((Go.bits .or .u64 q5 4503599627370496), (wrap64 (q6 - 1075)))))) else (some (0, 0)))))
def word_Parts.Q (a0 : Int) (r : Int × Int) : S → Prop := fun s => ∃ τ r', fin E0 Try.f47 0 τ s = some (r', []) ∧ r'.ro = (.t [.i .u64 r.1, .i .i64 r.2])
def bits_Mul64.f (a0 : Int) (a1 : Int) : Option (Int × Int) := (some ((IntKind.u64.wrap ((IntKind.u64.wrap ((IntKind.u64.wrap ((a0 / 4294967296) * (a1 / 4294967296))) + ((IntKind.u64.wrap ((IntKind.u64.wrap ((a0 / 4294967296) * (Go.bits .and .u64 a1 4294967295))) + ((IntKind.u64.wrap ((Go.bits .and .u64 a0 4294967295) * (Go.bits .and .u64 a1 4294967295))) / 4294967296))) / 4294967296))) + ((IntKind.u64.wrap ((Go.bits .and .u64 (IntKind.u64.wrap ((IntKind.u64.wrap ((a0 / 4294967296) * (Go.bits .and .u64 a1 4294967295))) + ((IntKind.u64.wrap ((Go.bits .and .u64 a0 4294967295) * (Go.bits .and .u64 a1 4294967295))) / 4294967296))) 4294967295) + (IntKind.u64.wrap ((Go.bits .and .u64 a0 4294967295) * (a1 / 4294967296))))) / 4294967296))), (IntKind.u64.wrap (a0 * a1))))
def bits_Mul64.Q (a0 : Int) (a1 : Int) (r : Int × Int) : S → Prop := fun s => ∃ τ r', fin E0 Try.f57 0 τ s = some (r', []) ∧ r'.ro = (.t [.i .u64 r.1, .i .u64 r.2])
def wide_Mul.f (a0 : Int) (a1 : Int) : Option (Int × Int) := ((bits_Mul64.f a0 a1).bind fun q1 => (some (q1.1, q1.2)))
def wide_Mul.Q (a0 : Int) (a1 : Int) (r : Int × Int) : S → Prop := fun s => ∃ τ r', fin E0 Try.f48 0 τ s = some (r', []) ∧ r'.ro = (.a [.i .u64 r.1, .i .u64 r.2])
def wide_Wide_Zero.f (a0_0 : Int) (a0_1 : Int) : Option (Bool) := (some (((Go.bits .or .u64 a0_0 a0_1) == 0)))
def wide_Wide_Zero.Q (a0_0 : Int) (a0_1 : Int) (r : Bool) : S → Prop := fun s => ∃ τ r', fin E0 Try.f52 0 τ s = some (r', []) ∧ r'.ro = (.b r)
mutual
def bits_Len64.j0 : Nat → Int → Int → Option (Int)
  | 0, _, _ => none
  | k + 1, x_0, n_2 => (if x_0 ≥ 65536 then (if (x_0 / 65536) ≥ 256 then (if 0 ≤ (((x_0 / 65536) / 256) % 256) then (if (((x_0 / 65536) / 256) % 256) < 256 then (some ((wrap64 ((wrap64 ((wrap64 (n_2 + 16)) + 8)) + (wrap64 ((bt (⟨#[0, 1, 2, 2, 3, 3, 3, 3, 4, 4, 4, 4, 4, 4, 4, 4, 5, 5, 5, 5, 5, 5, 5, 5, 5, 5, 5, 5, 5, 5, 5, 5, 6, 6, 6, 6, 6, 6, 6, 6, 6, 6, 6, 6, 6, 6, 6, 6, 6, 6, 6, 6, 6, 6, 6, 6, 6, 6, 6, 6, 6, 6, 6, 6, 7, 7, 7, 7, 7, 7, 7, 7, 7, 7, 7, 7, 7, 7, 7, 7, 7, 7, 7, 7, 7, 7, 7, 7, 7, 7, 7, 7, 7, 7, 7, 7, 7, 7, 7, 7, 7, 7, 7, 7, 7, 7, 7, 7, 7, 7, 7, 7, 7, 7, 7, 7, 7, 7, 7, 7, 7, 7, 7, 7, 7, 7, 7, 7, 8, 8, 8, 8, 8, 8, 8, 8, 8, 8, 8, 8, 8, 8, 8, 8, 8, 8, 8, 8, 8, 8, 8, 8, 8, 8, 8, 8, 8, 8, 8, 8, 8, 8, 8, 8, 8, 8, 8, 8, 8, 8, 8, 8, 8, 8, 8, 8, 8, 8, 8, 8, 8, 8, 8, 8, 8, 8, 8, 8, 8, 8, 8, 8, 8, 8, 8, 8, 8, 8, 8, 8, 8, 8, 8, 8, 8, 8, 8, 8, 8, 8, 8, 8, 8, 8, 8, 8, 8, 8, 8, 8, 8, 8, 8, 8, 8, 8, 8, 8, 8, 8, 8, 8, 8, 8, 8, 8, 8, 8, 8, 8, 8, 8, 8, 8, 8, 8, 8, 8, 8, 8, 8, 8, 8, 8, 8, 8]⟩ : ByteArray) (((x_0 / 65536) / 256) % 256)))))))) else none) else none) else (if 0 ≤ ((x_0 / 65536) % 256) then (if ((x_0 / 65536) % 256) < 256 then (some ((wrap64 ((wrap64 (n_2 + 16)) + (wrap64 ((bt (⟨#[0, 1, 2, 2, 3, 3, 3, 3, 4, 4, 4, 4, 4, 4, 4, 4, 5, 5, 5, 5, 5, 5, 5, 5, 5, 5, 5, 5, 5, 5, 5, 5, 6, 6, 6, 6, 6, 6, 6, 6, 6, 6, 6, 6, 6, 6, 6, 6, 6, 6, 6, 6, 6, 6, 6, 6, 6, 6, 6, 6, 6, 6, 6, 6, 7, 7, 7, 7, 7, 7, 7, 7, 7, 7, 7, 7, 7, 7, 7, 7, 7, 7, 7, 7, 7, 7, 7, 7, 7, 7, 7, 7, 7, 7, 7, 7, 7, 7, 7, 7, 7, 7, 7, 7, 7, 7, 7, 7, 7, 7, 7, 7, 7, 7, 7, 7, 7, 7, 7, 7, 7, 7, 7, 7, 7, 7, 7, 7, 8, 8, 8, 8, 8, 8, 8, 8, 8, 8, 8, 8, 8, 8, 8, 8, 8, 8, 8, 8, 8, 8, 8, 8, 8, 8, 8, 8, 8, 8, 8, 8, 8, 8, 8, 8, 8, 8, 8, 8, 8, 8, 8, 8, 8, 8, 8, 8, 8, 8, 8, 8, 8, 8, 8, 8, 8, 8, 8, 8, 8, 8, 8, 8, 8, 8, 8, 8, 8, 8, 8, 8, 8, 8, 8, 8, 8, 8, 8, 8, 8, 8, 8, 8, 8, 8, 8, 8, 8, 8, 8, 8, 8, 8, 8, 8, 8, 8, 8, 8, 8, 8, 8, 8, 8, 8, 8, 8, 8, 8, 8, 8, 8, 8, 8, 8, 8, 8, 8, 8, 8, 8, 8, 8, 8, 8, 8, 8]⟩ : ByteArray) ((x_0 / 65536) % 256)))))))) else none) else none)) else (if x_0 ≥ 256 then (if 0 ≤ ((x_0 / 256) % 256) then (if ((x_0 / 256) % 256) < 256 then (some ((wrap64 ((wrap64 (n_2 + 8)) + (wrap64 ((bt (⟨#[0, 1, 2, 2, 3, 3, 3, 3, 4, 4, 4, 4, 4, 4, 4, 4, 5, 5, 5, 5, 5, 5, 5, 5, 5, 5, 5, 5, 5, 5, 5, 5, 6, 6, 6, 6, 6, 6, 6, 6, 6, 6, 6, 6, 6, 6, 6, 6, 6, 6, 6, 6, 6, 6, 6, 6, 6, 6, 6, 6, 6, 6, 6, 6, 7, 7, 7, 7, 7, 7, 7, 7, 7, 7, 7, 7, 7, 7, 7, 7, 7, 7, 7, 7, 7, 7, 7, 7, 7, 7, 7, 7, 7, 7, 7, 7, 7, 7, 7, 7, 7, 7, 7, 7, 7, 7, 7, 7, 7, 7, 7, 7, 7, 7, 7, 7, 7, 7, 7, 7, 7, 7, 7, 7, 7, 7, 7, 7, 8, 8, 8, 8, 8, 8, 8, 8, 8, 8, 8, 8, 8, 8, 8, 8, 8, 8, 8, 8, 8, 8, 8, 8, 8, 8, 8, 8, 8, 8, 8, 8, 8, 8, 8, 8, 8, 8, 8, 8, 8, 8, 8, 8, 8, 8, 8, 8, 8, 8, 8, 8, 8, 8, 8, 8, 8, 8, 8, 8, 8, 8, 8, 8, 8, 8, 8, 8, 8, 8, 8, 8, 8, 8, 8, 8, 8, 8, 8, 8, 8, 8, 8, 8, 8, 8, 8, 8, 8, 8, 8, 8, 8, 8, 8, 8, 8, 8, 8, 8, 8, 8, 8, 8, 8, 8, 8, 8, 8, 8, 8, 8, 8, 8, 8, 8, 8, 8, 8, 8, 8, 8, 8, 8, 8, 8, 8, 8]⟩ : ByteArray) ((x_0 / 256) % 256)))))))) else none) else none) else (if 0 ≤ (x_0 % 256) then (if (x_0 % 256) < 256 then (some ((wrap64 (n_2 + (wrap64 ((bt (⟨#[0, 1, 2, 2, 3, 3, 3, 3, 4, 4, 4, 4, 4, 4, 4, 4, 5, 5, 5, 5, 5, 5, 5, 5, 5, 5, 5, 5, 5, 5, 5, 5, 6, 6, 6, 6, 6, 6, 6, 6, 6, 6, 6, 6, 6, 6, 6, 6, 6, 6, 6, 6, 6, 6, 6, 6, 6, 6, 6, 6, 6, 6, 6, 6, 7, 7, 7, 7, 7, 7, 7, 7, 7, 7, 7, 7, 7, 7, 7, 7, 7, 7, 7, 7, 7, 7, 7, 7, 7, 7, 7, 7, 7, 7, 7, 7, 7, 7, 7, 7, 7, 7, 7, 7, 7, 7, 7, 7, 7, 7, 7, 7, 7, 7, 7, 7, 7, 7, 7, 7, 7, 7, 7, 7, 7, 7, 7, 7, 8, 8, 8, 8, 8, 8, 8, 8, 8, 8, 8, 8, 8, 8, 8, 8, 8, 8, 8, 8, 8, 8, 8, 8, 8, 8, 8, 8, 8, 8, 8, 8, 8, 8, 8, 8, 8, 8, 8, 8, 8, 8, 8, 8, 8, 8, 8, 8, 8, 8, 8, 8, 8, 8, 8, 8, 8, 8, 8, 8, 8, 8, 8, 8, 8, 8, 8, 8, 8, 8, 8, 8, 8, 8, 8, 8, 8, 8, 8, 8, 8, 8, 8, 8, 8, 8, 8, 8, 8, 8, 8, 8, 8, 8, 8, 8, 8, 8, 8, 8, 8, 8, 8, 8, 8, 8, 8, 8, 8, 8, 8, 8, 8, 8, 8, 8, 8, 8, 8, 8, 8, 8, 8, 8, 8, 8, 8, 8]⟩ : ByteArray) (x_0 % 256)))))))) else none) else none)))
end
def bits_Len64.f (k : Nat) (a0 : Int) : Option (Int) := (if a0 ≥ 4294967296 then (bits_Len64.j0 k (a0 / 4294967296) 32) else (bits_Len64.j0 k a0 0))
def bits_Len64.Q (a0 : Int) (r : Int) : S → Prop := fun s => ∃ τ r', fin E0 Try.f58 0 τ s = some (r', []) ∧ r'.ro = (.i .i64 r)
def wide_Wide_Len.f (k : Nat) (a0_0 : Int) (a0_1 : Int) : Option (Int) := (if a0_0 = 0 then ((bits_Len64.f k a0_1).bind fun q2 => (some (q2))) else ((bits_Len64.f k a0_0).bind fun q3 => (some ((wrap64 (64 + q3))))))
def wide_Wide_Len.Q (a0_0 : Int) (a0_1 : Int) (r : Int) : S → Prop := fun s => ∃ τ r', fin E0 Try.f49 0 τ s = some (r', []) ∧ r'.ro = (.i .i64 r)
def wide_Wide_Left.f (a0_0 : Int) (a0_1 : Int) (a1 : Int) : Option (Int × Int) := (if a1 ≤ 0 then (some (a0_0, a0_1)) else (if a1 ≥ 128 then (some (0, 0)) else (if a1 ≥ 64 then (if 0 ≤ (wrap64 (a1 - 64)) then (some ((shl .u64 a0_1 (wrap64 (a1 - 64))), 0)) else none) else (if 0 ≤ a1 then (if 0 ≤ (wrap64 (64 - a1)) then (some ((Go.bits .or .u64 (shl .u64 a0_0 a1) (shr .u64 a0_1 (wrap64 (64 - a1)))), (shl .u64 a0_1 a1))) else none) else none))))
def wide_Wide_Left.Q (a0_0 : Int) (a0_1 : Int) (a1 : Int) (r : Int × Int) : S → Prop := fun s => ∃ τ r', fin E0 Try.f35 0 τ s = some (r', []) ∧ r'.ro = (.a [.i .u64 r.1, .i .u64 r.2])
mutual
def wide_Wide_Right.j0 : Nat → Int → Int → Int → Int → Int → Option (Int × Int × Bool)
  | 0, _, _, _, _, _ => none
  | k + 1, n_1, h0_0, h0_1, h2_0, h2_1 => ((wide_Wide_Left.f h2_0 h2_1 n_1).bind fun q7 => (if (!(q7.1 == h0_0) || (!(q7.2 == h0_1))) = true then (some (h2_0, h2_1, true)) else (if n_1 ≥ 128 then ((wide_Wide_Zero.f h0_0 h0_1).bind fun q10 => (some (h2_0, h2_1, (!q10)))) else (some (h2_0, h2_1, false)))))
end
def wide_Wide_Right.f (k : Nat) (a0_0 : Int) (a0_1 : Int) (a1 : Int) : Option (Int × Int × Bool) := (if a1 ≤ 0 then (some (a0_0, a0_1, false)) else (if a1 ≥ 128 then (wide_Wide_Right.j0 k a1 a0_0 a0_1 0 0) else (if a1 ≥ 64 then (if 0 ≤ (wrap64 (a1 - 64)) then (wide_Wide_Right.j0 k a1 a0_0 a0_1 0 (shr .u64 a0_0 (wrap64 (a1 - 64)))) else none) else (if 0 ≤ a1 then (if 0 ≤ (wrap64 (64 - a1)) then (wide_Wide_Right.j0 k a1 a0_0 a0_1 (shr .u64 a0_0 a1) (Go.bits .or .u64 (shl .u64 a0_0 (wrap64 (64 - a1))) (shr .u64 a0_1 a1))) else none) else none))))
def wide_Wide_Right.Q (a0_0 : Int) (a0_1 : Int) (a1 : Int) (r : Int × Int × Bool) : S → Prop := fun s => ∃ τ r', fin E0 Try.f53 0 τ s = some (r', []) ∧ r'.ro = (.t [.a [.i .u64 r.1, .i .u64 r.2.1], .b r.2.2])
def round_split.f (k : Nat) (a0_0 : Int) (a0_1 : Int) (a1 : Int) (a2 : Bool) : Option (Bool × Bool) := (if a1 > 128 then (some (false, a2)) else ((wide_Wide_Right.f k a0_0 a0_1 (wrap64 (a1 - 1))).bind fun q2 => (some (((Go.bits .and .u64 q2.2.1 1) == 1), q2.2.2))))
def round_split.Q (a0_0 : Int) (a0_1 : Int) (a1 : Int) (a2 : Bool) (r : Bool × Bool) : S → Prop := fun s => ∃ τ r', fin E0 Try.f54 0 τ s = some (r', []) ∧ r'.ro = (.t [.b r.1, .b r.2])
def wide_Wide_Add.f (a0_0 : Int) (a0_1 : Int) (a1_0 : Int) (a1_1 : Int) : Option (Int × Int × Bool) := ((bits_Add64.f a0_1 a1_1 0).bind fun q1 => ((bits_Add64.f a0_0 a1_0 q1.2).bind fun q2 => (some (q2.1, q1.1, (q2.2 == 1)))))
def wide_Wide_Add.Q (a0_0 : Int) (a0_1 : Int) (a1_0 : Int) (a1_1 : Int) (r : Int × Int × Bool) : S → Prop := fun s => ∃ τ r', fin E0 Try.f34 0 τ s = some (r', []) ∧ r'.ro = (.t [.a [.i .u64 r.1, .i .u64 r.2.1], .b r.2.2])
mutual
def round_Round.j0 : Nat → Bool → Int → Bool → Int → Bool → Int → Int → Option (Int × Int)
  | 0, _, _, _, _, _, _, _ => none
  | k + 1, neg_0, exp_2, more_3, drop_10, tiny_11, h0_0, h0_1 => (if drop_10 > 0 then ((wide_Wide_Right.f k h0_0 h0_1 drop_10).bind fun q10 => ((round_split.f k h0_0 h0_1 drop_10 q10.2.2).bind fun q11 => (if q11.1 = true then (round_Round.j1 k neg_0 exp_2 more_3 drop_10 tiny_11 true true q11.2 q10.1 q10.2.1) else (if q11.2 = true then (round_Round.j1 k neg_0 exp_2 more_3 drop_10 tiny_11 true false true q10.1 q10.2.1) else (round_Round.j1 k neg_0 exp_2 more_3 drop_10 tiny_11 more_3 false false q10.1 q10.2.1))))) else (if drop_10 < 0 then (round_Round.j3 k neg_0 exp_2 drop_10 tiny_11 more_3 (!more_3) h0_0 h0_1) else (round_Round.j3 k neg_0 exp_2 drop_10 tiny_11 more_3 false h0_0 h0_1)))
def round_Round.j1 : Nat → Bool → Int → Bool → Int → Bool → Bool → Bool → Bool → Int → Int → Option (Int × Int)
  | 0, _, _, _, _, _, _, _, _, _, _ => none
  | k + 1, neg_0, exp_2, more_3, drop_10, tiny_11, lost_12, half_13, fell_15, h1_0, h1_1 => (if half_13 = true then (if fell_15 = true then (round_Round.j2 k neg_0 exp_2 drop_10 tiny_11 lost_12 true h1_0 h1_1) else (if more_3 = true then (round_Round.j2 k neg_0 exp_2 drop_10 tiny_11 lost_12 true h1_0 h1_1) else (round_Round.j2 k neg_0 exp_2 drop_10 tiny_11 lost_12 ((Go.bits .and .u64 h1_1 1) == 1) h1_0 h1_1))) else (round_Round.j2 k neg_0 exp_2 drop_10 tiny_11 lost_12 false h1_0 h1_1))
def round_Round.j3 : Nat → Bool → Int → Int → Bool → Bool → Bool → Int → Int → Option (Int × Int)
  | 0, _, _, _, _, _, _, _, _ => none
  | k + 1, neg_0, exp_2, drop_10, tiny_11, lost_12, t_91, h0_0, h0_1 => (if t_91 = true then ((wide_Wide_Left.f h0_0 h0_1 (wrap64 (-drop_10))).bind fun q19 => (round_Round.j4 k neg_0 exp_2 drop_10 tiny_11 lost_12 q19.1 q19.2)) else (if drop_10 < 0 then ((wide_Wide_Left.f h0_0 h0_1 (wrap64 (-drop_10))).bind fun q21 => (round_Round.j4 k neg_0 exp_2 drop_10 tiny_11 lost_12 q21.1 q21.2)) else (round_Round.j4 k neg_0 exp_2 drop_10 tiny_11 lost_12 h0_0 h0_1)))
def round_Round.j2 : Nat → Bool → Int → Int → Bool → Bool → Bool → Int → Int → Option (Int × Int)
  | 0, _, _, _, _, _, _, _, _ => none
  | k + 1, neg_0, exp_2, drop_10, tiny_11, lost_12, t_79, h0_0, h0_1 => (if t_79 = true then ((wide_Wide_Add.f h0_0 h0_1 0 1).bind fun q23 => (round_Round.j4 k neg_0 exp_2 drop_10 tiny_11 lost_12 q23.1 q23.2.1)) else (round_Round.j4 k neg_0 exp_2 drop_10 tiny_11 lost_12 h0_0 h0_1))
def round_Round.j4 : Nat → Bool → Int → Int → Bool → Bool → Int → Int → Option (Int × Int)
  | 0, _, _, _, _, _, _, _ => none
  | k + 1, neg_0, exp_2, drop_10, tiny_11, lost_12, h0_0, h0_1 => (if h0_1 = 9007199254740992 then (round_Round.j5 k neg_0 (wrap64 ((wrap64 (exp_2 + drop_10)) + 1)) tiny_11 lost_12 (h0_1 / 2)) else (round_Round.j5 k neg_0 (wrap64 (exp_2 + drop_10)) tiny_11 lost_12 h0_1))
def round_Round.j5 : Nat → Bool → Int → Bool → Bool → Int → Option (Int × Int)
  | 0, _, _, _, _, _ => none
  | k + 1, neg_0, exp_2, tiny_11, lost_12, m_16 => (if lost_12 = true then (if tiny_11 = true then (round_Round.j6 k neg_0 exp_2 m_16 (Go.bits .or .u8 (Go.bits .or .u8 0 1) 2)) else (round_Round.j6 k neg_0 exp_2 m_16 (Go.bits .or .u8 0 1))) else (round_Round.j6 k neg_0 exp_2 m_16 0))
def round_Round.j6 : Nat → Bool → Int → Int → Int → Option (Int × Int)
  | 0, _, _, _, _ => none
  | k + 1, neg_0, exp_2, m_16, f_17 => (if m_16 < 4503599627370496 then ((word_Make.f neg_0 0 m_16).bind fun q28 => (some (q28, f_17))) else (if (wrap64 (exp_2 + 1075)) ≥ 2047 then ((word_Make.f neg_0 2047 0).bind fun q30 => (some (q30, (Go.bits .or .u8 (Go.bits .or .u8 f_17 4) 1)))) else ((word_Make.f neg_0 (wrap64 (exp_2 + 1075)) m_16).bind fun q31 => (some (q31, f_17)))))
end
def round_Round.f (k : Nat) (a0 : Bool) (a1_0 : Int) (a1_1 : Int) (a2 : Int) (a3 : Bool) : Option (Int × Int) := ((wide_Wide_Zero.f a1_0 a1_1).bind fun q1 => (if q1 = true then (if a3 = true then ((word_Make.f a0 0 0).bind fun q4 => (some (q4, 3))) else ((word_Make.f a0 0 0).bind fun q5 => (some (q5, 0)))) else ((wide_Wide_Len.f k a1_0 a1_1).bind fun q6 => ((wide_Wide_Len.f k a1_0 a1_1).bind fun q7 => (if (wrap64 ((mx (-100000) (mn a2 100000)) + (wrap64 (q6 - 53)))) < (-1074) then (round_Round.j0 k a0 (mx (-100000) (mn a2 100000)) a3 (wrap64 ((-1074) - (mx (-100000) (mn a2 100000)))) (decide ((wrap64 ((mx (-100000) (mn a2 100000)) + q7)) < (-1021))) a1_0 a1_1) else (round_Round.j0 k a0 (mx (-100000) (mn a2 100000)) a3 (wrap64 (q6 - 53)) (decide ((wrap64 ((mx (-100000) (mn a2 100000)) + q7)) < (-1021))) a1_0 a1_1))))))
def round_Round.Q (a0 : Bool) (a1_0 : Int) (a1_1 : Int) (a2 : Int) (a3 : Bool) (r : Int × Int) : S → Prop := fun s => ∃ τ r', fin E0 Try.f36 0 τ s = some (r', []) ∧ r'.ro = (.t [.i .u64 r.1, .i .u8 r.2])
mutual
def soft_Mul.j0 : Nat → Int → Int → Bool → Int → Int → Bool → Option (Int × Int)
  | 0, _, _, _, _, _, _ => none
  | k + 1, a_0, b_1, neg_9, x_10, y_11, t_36 => (if t_36 = true then (some (9221120237041090560, 16)) else (if x_10 = 4 then (soft_Mul.j1 k a_0 b_1 neg_9 true) else (soft_Mul.j1 k a_0 b_1 neg_9 (y_11 == 4))))
def soft_Mul.j1 : Nat → Int → Int → Bool → Bool → Option (Int × Int)
  | 0, _, _, _, _ => none
  | k + 1, a_0, b_1, neg_9, t_51 => (if t_51 = true then ((word_Make.f neg_9 2047 0).bind fun q14 => (some (q14, 0))) else ((word_Parts.f k a_0).bind fun q15 => ((word_Parts.f k b_1).bind fun q16 => ((wide_Mul.f q15.1 q16.1).bind fun q17 => ((round_Round.f k neg_9 q17.1 q17.2 (wrap64 (q15.2 + q16.2)) false).bind fun q18 => (some (q18.1, q18.2)))))))
end
def soft_Mul.f (k : Nat) (a0 : Int) (a1 : Int) : Option (Int × Int) := ((soft_nan.f k ([a0, a1] : List Int)).bind fun q1 => (if q1.2.2 = true then (some (q1.1, q1.2.1)) else ((word_Neg.f a0).bind fun q3 => ((word_Neg.f a1).bind fun q4 => ((word_Kind.f k a0).bind fun q5 => ((word_Kind.f k a1).bind fun q6 => (if q5 = 4 then (if q6 = 1 then (soft_Mul.j0 k a0 a1 (q3 != q4) q5 q6 true) else (if q5 = 1 then (soft_Mul.j0 k a0 a1 (q3 != q4) q5 q6 (q6 == 4)) else (soft_Mul.j0 k a0 a1 (q3 != q4) q5 q6 false))) else (if q5 = 1 then (soft_Mul.j0 k a0 a1 (q3 != q4) q5 q6 (q6 == 4)) else (soft_Mul.j0 k a0 a1 (q3 != q4) q5 q6 false)))))))))
def soft_Mul.Q (a0 : Int) (a1 : Int) (r : Int × Int) : S → Prop := fun s => ∃ τ r', fin E0 Try.f32 0 τ s = some (r', []) ∧ r'.ro = (.t [.i .u64 r.1, .i .u8 r.2])
def soft_Calc_note_nil.f (a1 : Int) (a2 : Int) : Option (Int) := (some (a1))
def soft_Calc_note_nil.Q (a1 : Int) (a2 : Int) (r : Int) : S → Prop := fun s => ∃ τ r', fin E0 Try.f30 0 τ s = some (r', []) ∧ r'.ro = (.i .u64 r)
def soft_Calc_Mul_nil.f (k : Nat) (a1 : Int) (a2 : Int) : Option (Int) := ((soft_Mul.f k a1 a2).bind fun q1 => ((soft_Calc_note_nil.f q1.1 q1.2).bind fun q2 => (some (q2))))
def soft_Calc_Mul_nil.Q (a1 : Int) (a2 : Int) (r : Int) : S → Prop := fun s => ∃ τ r', fin E0 Try.f14 0 τ s = some (r', []) ∧ r'.ro = (.i .u64 r)
def word_Flip.f (a0 : Int) : Option (Int) := (some ((Go.bits .xor .u64 a0 9223372036854775808)))
def word_Flip.Q (a0 : Int) (r : Int) : S → Prop := fun s => ∃ τ r', fin E0 Try.f44 0 τ s = some (r', []) ∧ r'.ro = (.i .u64 r)
def word_Abs.f (a0 : Int) : Option (Int) := (some ((Go.bits .andNot .u64 a0 9223372036854775808)))
def word_Abs.Q (a0 : Int) (r : Int) : S → Prop := fun s => ∃ τ r', fin E0 Try.f10 0 τ s = some (r', []) ∧ r'.ro = (.i .u64 r)
def wide_Wide_Sub.f (a0_0 : Int) (a0_1 : Int) (a1_0 : Int) (a1_1 : Int) : Option (Int × Int × Bool) := ((bits_Sub64.f a0_1 a1_1 0).bind fun q1 => ((bits_Sub64.f a0_0 a1_0 q1.2).bind fun q2 => (some (q2.1, q1.1, (q2.2 == 1)))))
def wide_Wide_Sub.Q (a0_0 : Int) (a0_1 : Int) (a1_0 : Int) (a1_1 : Int) (r : Int × Int × Bool) : S → Prop := fun s => ∃ τ r', fin E0 Try.f55 0 τ s = some (r', []) ∧ r'.ro = (.t [.a [.i .u64 r.1, .i .u64 r.2.1], .b r.2.2])
mutual
def soft_Add.j0 : Nat → Int → Int → Int → Int → Bool → Option (Int × Int)
  | 0, _, _, _, _, _ => none
  | k + 1, a_0, b_1, x_9, y_10, t_37 => (if t_37 = true then (some (9221120237041090560, 16)) else (if x_9 = 4 then (some (a_0, 0)) else (if y_10 = 4 then (some (b_1, 0)) else (if x_9 = 1 then (soft_Add.j1 k a_0 b_1 x_9 y_10 (y_10 == 1)) else (soft_Add.j1 k a_0 b_1 x_9 y_10 false)))))
def soft_Add.j1 : Nat → Int → Int → Int → Int → Bool → Option (Int × Int)
  | 0, _, _, _, _, _ => none
  | k + 1, a_0, b_1, x_9, y_10, t_57 => (if t_57 = true then (some ((Go.bits .and .u64 a_0 b_1), 0)) else (if x_9 = 1 then (some (b_1, 0)) else (if y_10 = 1 then (some (a_0, 0)) else ((word_Abs.f a_0).bind fun q14 => ((word_Abs.f b_1).bind fun q15 => (if q14 < q15 then (soft_Add.j2 k b_1 a_0) else (soft_Add.j2 k a_0 b_1)))))))
def soft_Add.j2 : Nat → Int → Int → Option (Int × Int)
  | 0, _, _ => none
  | k + 1, a_0, b_1 => ((word_Parts.f k a_0).bind fun q17 => ((word_Parts.f k b_1).bind fun q18 => ((wide_Wide_Left.f 0 q17.1 64).bind fun q19 => ((wide_Wide_Left.f 0 q18.1 64).bind fun q20 => ((wide_Wide_Right.f k q20.1 q20.2 (wrap64 (q17.2 - q18.2))).bind fun q21 => ((word_Neg.f a_0).bind fun q22 => ((word_Neg.f b_1).bind fun q23 => (if (q22 == q23) = true then ((wide_Wide_Add.f q19.1 q19.2 q21.1 q21.2.1).bind fun q25 => ((word_Neg.f a_0).bind fun q26 => ((round_Round.f k q26 q25.1 q25.2.1 (wrap64 (q17.2 - 64)) q21.2.2).bind fun q27 => (some (q27.1, q27.2))))) else (if q21.2.2 = true then ((wide_Wide_Add.f q21.1 q21.2.1 0 1).bind fun q29 => (soft_Add.j3 k a_0 q17.2 true q19.1 q19.2 q29.1 q29.2.1)) else (soft_Add.j3 k a_0 q17.2 false q19.1 q19.2 q21.1 q21.2.1))))))))))
def soft_Add.j3 : Nat → Int → Int → Bool → Int → Int → Int → Int → Option (Int × Int)
  | 0, _, _, _, _, _, _, _ => none
  | k + 1, a_0, e_12, low_17, h0_0, h0_1, h1_0, h1_1 => ((wide_Wide_Sub.f h0_0 h0_1 h1_0 h1_1).bind fun q30 => ((wide_Wide_Zero.f q30.1 q30.2.1).bind fun q31 => (if q31 = true then (soft_Add.j4 k a_0 e_12 low_17 (!low_17) q30.1 q30.2.1) else (soft_Add.j4 k a_0 e_12 low_17 false q30.1 q30.2.1))))
def soft_Add.j4 : Nat → Int → Int → Bool → Bool → Int → Int → Option (Int × Int)
  | 0, _, _, _, _, _, _ => none
  | k + 1, a_0, e_12, low_17, t_143, h0_0, h0_1 => (if t_143 = true then (some (0, 0)) else ((word_Neg.f a_0).bind fun q34 => ((round_Round.f k q34 h0_0 h0_1 (wrap64 (e_12 - 64)) low_17).bind fun q35 => (some (q35.1, q35.2)))))
end
def soft_Add.f (k : Nat) (a0 : Int) (a1 : Int) : Option (Int × Int) := ((soft_nan.f k ([a0, a1] : List Int)).bind fun q1 => (if q1.2.2 = true then (some (q1.1, q1.2.1)) else ((word_Kind.f k a0).bind fun q3 => ((word_Kind.f k a1).bind fun q4 => (if q3 = 4 then (if q4 = 4 then (soft_Add.j0 k a0 a1 q3 q4 (a0 != a1)) else (soft_Add.j0 k a0 a1 q3 q4 false)) else (soft_Add.j0 k a0 a1 q3 q4 false))))))
def soft_Add.Q (a0 : Int) (a1 : Int) (r : Int × Int) : S → Prop := fun s => ∃ τ r', fin E0 Try.f37 0 τ s = some (r', []) ∧ r'.ro = (.t [.i .u64 r.1, .i .u8 r.2])
def soft_Sub.f (k : Nat) (a0 : Int) (a1 : Int) : Option (Int × Int) := ((word_Flip.f a1).bind fun q1 => ((soft_Add.f k a0 q1).bind fun q2 => (some (q2.1, q2.2))))
def soft_Sub.Q (a0 : Int) (a1 : Int) (r : Int × Int) : S → Prop := fun s => ∃ τ r', fin E0 Try.f31 0 τ s = some (r', []) ∧ r'.ro = (.t [.i .u64 r.1, .i .u8 r.2])
def soft_Calc_Sub_nil.f (k : Nat) (a1 : Int) (a2 : Int) : Option (Int) := ((soft_Sub.f k a1 a2).bind fun q1 => ((soft_Calc_note_nil.f q1.1 q1.2).bind fun q2 => (some (q2))))
def soft_Calc_Sub_nil.Q (a1 : Int) (a2 : Int) (r : Int) : S → Prop := fun s => ∃ τ r', fin E0 Try.f13 0 τ s = some (r', []) ∧ r'.ro = (.i .u64 r)
def bits_LeadingZeros64.f (k : Nat) (a0 : Int) : Option (Int) := ((bits_Len64.f k a0).bind fun q1 => (some ((wrap64 (64 - q1)))))
def bits_LeadingZeros64.Q (a0 : Int) (r : Int) : S → Prop := fun s => ∃ τ r', fin E0 Try.f61 0 τ s = some (r', []) ∧ r'.ro = (.i .i64 r)
mutual
def bits_Div64.l0 : Nat → Int → Int → Int → Int → Int → Int → Int → Int → Int → Option (Int × Int)
  | 0, _, _, _, _, _, _, _, _, _ => none
  | k + 1, y_2, s_8, yn1_9, yn0_10, un32_11, un1_13, un0_14, q1_15, rhat_16 => (if q1_15 ≥ 4294967296 then (bits_Div64.j1 k y_2 s_8 yn1_9 yn0_10 un32_11 un1_13 un0_14 q1_15 rhat_16 true) else (bits_Div64.j1 k y_2 s_8 yn1_9 yn0_10 un32_11 un1_13 un0_14 q1_15 rhat_16 (decide ((IntKind.u64.wrap (q1_15 * yn0_10)) > (IntKind.u64.wrap ((IntKind.u64.wrap (4294967296 * rhat_16)) + un1_13))))))
def bits_Div64.j1 : Nat → Int → Int → Int → Int → Int → Int → Int → Int → Int → Bool → Option (Int × Int)
  | 0, _, _, _, _, _, _, _, _, _, _ => none
  | k + 1, y_2, s_8, yn1_9, yn0_10, un32_11, un1_13, un0_14, q1_15, rhat_16, t_78 => (if t_78 = true then (if (IntKind.u64.wrap (rhat_16 + yn1_9)) ≥ 4294967296 then (bits_Div64.j2 k y_2 s_8 yn1_9 yn0_10 un32_11 un1_13 un0_14 (IntKind.u64.wrap (q1_15 - 1))) else (bits_Div64.l0 k y_2 s_8 yn1_9 yn0_10 un32_11 un1_13 un0_14 (IntKind.u64.wrap (q1_15 - 1)) (IntKind.u64.wrap (rhat_16 + yn1_9)))) else (bits_Div64.j2 k y_2 s_8 yn1_9 yn0_10 un32_11 un1_13 un0_14 q1_15))
def bits_Div64.j2 : Nat → Int → Int → Int → Int → Int → Int → Int → Int → Option (Int × Int)
  | 0, _, _, _, _, _, _, _, _ => none
  | k + 1, y_2, s_8, yn1_9, yn0_10, un32_11, un1_13, un0_14, q1_15 => (if yn1_9 = 0 then none else (bits_Div64.l1 k y_2 s_8 yn1_9 yn0_10 un0_14 q1_15 (IntKind.u64.wrap ((IntKind.u64.wrap ((IntKind.u64.wrap ((IntKind.u64.wrap (un32_11 * 4294967296)) + un1_13)) - (IntKind.u64.wrap (q1_15 * y_2)))) - (IntKind.u64.wrap ((IntKind.u64.wrap (Int.tdiv (IntKind.u64.wrap ((IntKind.u64.wrap ((IntKind.u64.wrap (un32_11 * 4294967296)) + un1_13)) - (IntKind.u64.wrap (q1_15 * y_2)))) yn1_9)) * yn1_9)))) (IntKind.u64.wrap ((IntKind.u64.wrap ((IntKind.u64.wrap (un32_11 * 4294967296)) + un1_13)) - (IntKind.u64.wrap (q1_15 * y_2)))) (IntKind.u64.wrap (Int.tdiv (IntKind.u64.wrap ((IntKind.u64.wrap ((IntKind.u64.wrap (un32_11 * 4294967296)) + un1_13)) - (IntKind.u64.wrap (q1_15 * y_2)))) yn1_9))))
def bits_Div64.l1 : Nat → Int → Int → Int → Int → Int → Int → Int → Int → Int → Option (Int × Int)
  | 0, _, _, _, _, _, _, _, _, _ => none
  | k + 1, y_2, s_8, yn1_9, yn0_10, un0_14, q1_15, rhat_16, un21_17, q0_18 => (if q0_18 ≥ 4294967296 then (bits_Div64.j4 k y_2 s_8 yn1_9 yn0_10 un0_14 q1_15 rhat_16 un21_17 q0_18 true) else (bits_Div64.j4 k y_2 s_8 yn1_9 yn0_10 un0_14 q1_15 rhat_16 un21_17 q0_18 (decide ((IntKind.u64.wrap (q0_18 * yn0_10)) > (IntKind.u64.wrap ((IntKind.u64.wrap (4294967296 * rhat_16)) + un0_14))))))
def bits_Div64.j4 : Nat → Int → Int → Int → Int → Int → Int → Int → Int → Int → Bool → Option (Int × Int)
  | 0, _, _, _, _, _, _, _, _, _, _ => none
  | k + 1, y_2, s_8, yn1_9, yn0_10, un0_14, q1_15, rhat_16, un21_17, q0_18, t_113 => (if t_113 = true then (if (IntKind.u64.wrap (rhat_16 + yn1_9)) ≥ 4294967296 then (if 0 ≤ s_8 then (some ((IntKind.u64.wrap ((IntKind.u64.wrap (q1_15 * 4294967296)) + (IntKind.u64.wrap (q0_18 - 1)))), (shr .u64 (IntKind.u64.wrap ((IntKind.u64.wrap ((IntKind.u64.wrap (un21_17 * 4294967296)) + un0_14)) - (IntKind.u64.wrap ((IntKind.u64.wrap (q0_18 - 1)) * y_2)))) s_8))) else none) else (bits_Div64.l1 k y_2 s_8 yn1_9 yn0_10 un0_14 q1_15 (IntKind.u64.wrap (rhat_16 + yn1_9)) un21_17 (IntKind.u64.wrap (q0_18 - 1)))) else (if 0 ≤ s_8 then (some ((IntKind.u64.wrap ((IntKind.u64.wrap (q1_15 * 4294967296)) + q0_18)), (shr .u64 (IntKind.u64.wrap ((IntKind.u64.wrap ((IntKind.u64.wrap (un21_17 * 4294967296)) + un0_14)) - (IntKind.u64.wrap (q0_18 * y_2)))) s_8))) else none))
end
def bits_Div64.f (k : Nat) (a0 : Int) (a1 : Int) (a2 : Int) : Option (Int × Int) := (if a2 = 0 then none else (if a2 ≤ a0 then none else (if a0 = 0 then (if a2 = 0 then none else (some ((IntKind.u64.wrap (Int.tdiv a1 a2)), (Int.tmod a1 a2)))) else ((bits_LeadingZeros64.f k a2).bind fun q5 => (if 0 ≤ (IntKind.u64.wrap (q5)) then (if 0 ≤ (IntKind.u64.wrap (64 - (IntKind.u64.wrap (q5)))) then (if ((shl .u64 a2 (IntKind.u64.wrap (q5))) / 4294967296) = 0 then none else (bits_Div64.l0 k (shl .u64 a2 (IntKind.u64.wrap (q5))) (IntKind.u64.wrap (q5)) ((shl .u64 a2 (IntKind.u64.wrap (q5))) / 4294967296) (Go.bits .and .u64 (shl .u64 a2 (IntKind.u64.wrap (q5))) 4294967295) (Go.bits .or .u64 (shl .u64 a0 (IntKind.u64.wrap (q5))) (shr .u64 a1 (IntKind.u64.wrap (64 - (IntKind.u64.wrap (q5)))))) ((shl .u64 a1 (IntKind.u64.wrap (q5))) / 4294967296) (Go.bits .and .u64 (shl .u64 a1 (IntKind.u64.wrap (q5))) 4294967295) (IntKind.u64.wrap (Int.tdiv (Go.bits .or .u64 (shl .u64 a0 (IntKind.u64.wrap (q5))) (shr .u64 a1 (IntKind.u64.wrap (64 - (IntKind.u64.wrap (q5)))))) ((shl .u64 a2 (IntKind.u64.wrap (q5))) / 4294967296))) (IntKind.u64.wrap ((Go.bits .or .u64 (shl .u64 a0 (IntKind.u64.wrap (q5))) (shr .u64 a1 (IntKind.u64.wrap (64 - (IntKind.u64.wrap (q5)))))) - (IntKind.u64.wrap ((IntKind.u64.wrap (Int.tdiv (Go.bits .or .u64 (shl .u64 a0 (IntKind.u64.wrap (q5))) (shr .u64 a1 (IntKind.u64.wrap (64 - (IntKind.u64.wrap (q5)))))) ((shl .u64 a2 (IntKind.u64.wrap (q5))) / 4294967296))) * ((shl .u64 a2 (IntKind.u64.wrap (q5))) / 4294967296))))))) else none) else none)))))
def bits_Div64.Q (a0 : Int) (a1 : Int) (a2 : Int) (r : Int × Int) : S → Prop := fun s => ∃ τ r', fin E0 Try.f59 0 τ s = some (r', []) ∧ r'.ro = (.t [.i .u64 r.1, .i .u64 r.2])
def wide_Wide_Div.f (k : Nat) (a0_0 : Int) (a0_1 : Int) (a1 : Int) : Option (Int × Int × Bool) := (if a0_0 ≥ a1 then (some (0, 0, false)) else ((bits_Div64.f k a0_0 a0_1 a1).bind fun q2 => (some (q2.1, q2.2, true))))
def wide_Wide_Div.Q (a0_0 : Int) (a0_1 : Int) (a1 : Int) (r : Int × Int × Bool) : S → Prop := fun s => ∃ τ r', fin E0 Try.f50 0 τ s = some (r', []) ∧ r'.ro = (.t [.i .u64 r.1, .i .u64 r.2.1, .b r.2.2])
mutual
def soft_Div.j0 : Nat → Int → Int → Bool → Int → Int → Bool → Option (Int × Int)
  | 0, _, _, _, _, _, _ => none
  | k + 1, a_0, b_1, neg_9, x_10, y_11, t_42 => (if t_42 = true then (some (9221120237041090560, 16)) else (if x_10 = 4 then ((word_Make.f neg_9 2047 0).bind fun q13 => (some (q13, 0))) else (if y_11 = 4 then (soft_Div.j1 k a_0 b_1 neg_9 y_11 true) else (soft_Div.j1 k a_0 b_1 neg_9 y_11 (x_10 == 1)))))
def soft_Div.j1 : Nat → Int → Int → Bool → Int → Bool → Option (Int × Int)
  | 0, _, _, _, _, _ => none
  | k + 1, a_0, b_1, neg_9, y_11, t_62 => (if t_62 = true then ((word_Make.f neg_9 0 0).bind fun q16 => (some (q16, 0))) else (if y_11 = 1 then ((word_Make.f neg_9 2047 0).bind fun q18 => (some (q18, 8))) else ((word_Parts.f k a_0).bind fun q19 => ((word_Parts.f k b_1).bind fun q20 => ((wide_Wide_Len.f k 0 q19.1).bind fun q21 => ((wide_Wide_Len.f k 0 q20.1).bind fun q22 => (if 0 ≤ (wrap64 ((wrap64 (53 - q21)) + 10)) then (if 0 ≤ (wrap64 (64 - q22)) then ((wide_Wide_Div.f k (shl .u64 q19.1 (wrap64 ((wrap64 (53 - q21)) + 10))) 0 (shl .u64 q20.1 (wrap64 (64 - q22)))).bind fun q25 => ((round_Round.f k neg_9 0 q25.1 (wrap64 ((wrap64 ((wrap64 ((wrap64 (q19.2 - (wrap64 (53 - q21)))) - 10)) - 64)) - (wrap64 (q20.2 - (wrap64 (64 - q22)))))) (q25.2.1 != 0)).bind fun q26 => (some (q26.1, q26.2)))) else none) else none)))))))
end
def soft_Div.f (k : Nat) (a0 : Int) (a1 : Int) : Option (Int × Int) := ((soft_nan.f k ([a0, a1] : List Int)).bind fun q1 => (if q1.2.2 = true then (some (q1.1, q1.2.1)) else ((word_Neg.f a0).bind fun q3 => ((word_Neg.f a1).bind fun q4 => ((word_Kind.f k a0).bind fun q5 => ((word_Kind.f k a1).bind fun q6 => (if q5 = 4 then (if q6 = 4 then (soft_Div.j0 k a0 a1 (q3 != q4) q5 q6 true) else (if q5 = 1 then (soft_Div.j0 k a0 a1 (q3 != q4) q5 q6 (q6 == 1)) else (soft_Div.j0 k a0 a1 (q3 != q4) q5 q6 false))) else (if q5 = 1 then (soft_Div.j0 k a0 a1 (q3 != q4) q5 q6 (q6 == 1)) else (soft_Div.j0 k a0 a1 (q3 != q4) q5 q6 false)))))))))
def soft_Div.Q (a0 : Int) (a1 : Int) (r : Int × Int) : S → Prop := fun s => ∃ τ r', fin E0 Try.f33 0 τ s = some (r', []) ∧ r'.ro = (.t [.i .u64 r.1, .i .u8 r.2])
def soft_Calc_Div_nil.f (k : Nat) (a1 : Int) (a2 : Int) : Option (Int) := ((soft_Div.f k a1 a2).bind fun q1 => ((soft_Calc_note_nil.f q1.1 q1.2).bind fun q2 => (some (q2))))
def soft_Calc_Div_nil.Q (a1 : Int) (a2 : Int) (r : Int) : S → Prop := fun s => ∃ τ r', fin E0 Try.f15 0 τ s = some (r', []) ∧ r'.ro = (.i .u64 r)
mutual
def solve_Trsv_nil.j0 : Nat → Bool → Bool → List Int → Bool → Int → Int → Int → List Int → Option ((List Int) × Int)
  | 0, _, _, _, _, _, _, _, _ => none
  | k + 1, upper_2, unit_3, b_4, t_36, h0_0, h0_1, h0_2, h0_3 => (if t_36 = true then (some (([] : List Int), 4)) else (solve_Trsv_nil.l0 k upper_2 unit_3 b_4 (b_4.length : Int) (b_4.length : Int) 0 h0_0 h0_1 h0_2 h0_3))
def solve_Trsv_nil.l0 : Nat → Bool → Bool → List Int → Int → Int → Int → Int → Int → Int → List Int → Option ((List Int) × Int)
  | 0, _, _, _, _, _, _, _, _, _, _ => none
  | k + 1, upper_2, unit_3, b_4, n_12, t_39, t_40, h0_0, h0_1, h0_2, h0_3 => (if t_40 < t_39 then (if unit_3 = true then (solve_Trsv_nil.l0 k upper_2 true b_4 n_12 t_39 (wrap64 (t_40 + 1)) h0_0 h0_1 h0_2 h0_3) else ((mat_Matrix_At.f h0_0 h0_1 h0_2 h0_3 t_40 t_40).bind fun q7 => ((word_Kind.f k q7).bind fun q8 => (if q8 = 1 then (some (([] : List Int), 7)) else (solve_Trsv_nil.l0 k upper_2 false b_4 n_12 t_39 (wrap64 (t_40 + 1)) h0_0 h0_1 h0_2 h0_3))))) else (if b_4.length ≤ 17592186044416 then (solve_Trsv_nil.l1 k upper_2 unit_3 n_12 b_4 n_12 0 h0_0 h0_1 h0_2 h0_3) else none))
def solve_Trsv_nil.l1 : Nat → Bool → Bool → Int → List Int → Int → Int → Int → Int → Int → List Int → Option ((List Int) × Int)
  | 0, _, _, _, _, _, _, _, _, _, _ => none
  | k + 1, upper_2, unit_3, n_12, h1, t_56, t_57, h0_0, h0_1, h0_2, h0_3 => (if t_57 < t_56 then (if upper_2 = true then (solve_Trsv_nil.j3 k true unit_3 n_12 h1 (wrap64 ((wrap64 (n_12 - 1)) - t_57)) t_56 t_57 h0_0 h0_1 h0_2 h0_3) else (solve_Trsv_nil.j3 k false unit_3 n_12 h1 t_57 t_56 t_57 h0_0 h0_1 h0_2 h0_3)) else (some (h1, 0)))
def solve_Trsv_nil.j3 : Nat → Bool → Bool → Int → List Int → Int → Int → Int → Int → Int → Int → List Int → Option ((List Int) × Int)
  | 0, _, _, _, _, _, _, _, _, _, _, _ => none
  | k + 1, upper_2, unit_3, n_12, h1, i_16, t_56, t_57, h0_0, h0_1, h0_2, h0_3 => (if upper_2 = true then ((solve_of.f).bind fun q14 => ((solve_of_1.f i_16 n_12).bind fun q15 => (solve_Trsv_nil.l2 k true unit_3 n_12 h1 i_16 q15.2 q15.1 t_56 t_57 h0_0 h0_1 h0_2 h0_3))) else ((solve_of_v2.f).bind fun q16 => ((solve_of_2.f i_16 n_12).bind fun q17 => (solve_Trsv_nil.l2 k false unit_3 n_12 h1 i_16 q17.2 q17.1 t_56 t_57 h0_0 h0_1 h0_2 h0_3))))
def solve_Trsv_nil.l2 : Nat → Bool → Bool → Int → List Int → Int → Int → Int → Int → Int → Int → Int → Int → List Int → Option ((List Int) × Int)
  | 0, _, _, _, _, _, _, _, _, _, _, _, _, _ => none
  | k + 1, upper_2, unit_3, n_12, h1, i_16, hi_18, k_19, t_56, t_57, h0_0, h0_1, h0_2, h0_3 => (if k_19 < hi_18 then (if 0 ≤ i_16 then (if i_16 < (h1.length : Int) then ((mat_Matrix_At.f h0_0 h0_1 h0_2 h0_3 i_16 k_19).bind fun q21 => (if 0 ≤ k_19 then (if k_19 < (h1.length : Int) then ((soft_Calc_Mul_nil.f k q21 (rd h1 k_19)).bind fun q24 => ((soft_Calc_Sub_nil.f k (rd h1 i_16) q24).bind fun q25 => (solve_Trsv_nil.l2 k upper_2 unit_3 n_12 (h1.set i_16.toNat q25) i_16 hi_18 (wrap64 (k_19 + 1)) t_56 t_57 h0_0 h0_1 h0_2 h0_3))) else none) else none)) else none) else none) else (if unit_3 = true then (solve_Trsv_nil.l1 k upper_2 true n_12 h1 t_56 (wrap64 (t_57 + 1)) h0_0 h0_1 h0_2 h0_3) else (if 0 ≤ i_16 then (if i_16 < (h1.length : Int) then ((mat_Matrix_At.f h0_0 h0_1 h0_2 h0_3 i_16 i_16).bind fun q29 => ((soft_Calc_Div_nil.f k (rd h1 i_16) q29).bind fun q30 => (solve_Trsv_nil.l1 k upper_2 false n_12 (h1.set i_16.toNat q30) t_56 (wrap64 (t_57 + 1)) h0_0 h0_1 h0_2 h0_3))) else none) else none)))
end
def solve_Trsv_nil.f (k : Nat) (a1_0 : Int) (a1_1 : Int) (a1_2 : Int) (l1_3 : List Int) (a2 : Bool) (a3 : Bool) (l4 : List Int) : Option ((List Int) × Int) := ((mat_Matrix_Check.f k a1_0 a1_1 a1_2 l1_3).bind fun q1 => (if q1 = 0 then (if a1_0 = a1_1 then (solve_Trsv_nil.j0 k a2 a3 l4 (a1_1 != (l4.length : Int)) a1_0 a1_1 a1_2 l1_3) else (solve_Trsv_nil.j0 k a2 a3 l4 true a1_0 a1_1 a1_2 l1_3)) else (solve_Trsv_nil.j0 k a2 a3 l4 true a1_0 a1_1 a1_2 l1_3)))
def solve_Trsv_nil.Q (a1_0 : Int) (a1_1 : Int) (a1_2 : Int) (l1_3 : List Int) (a2 : Bool) (a3 : Bool) (l4 : List Int) (r : (List Int) × Int) : S → Prop := fun s => ∃ τ r', fin E0 Try.f9 0 τ s = some (r', [.row (r.1.map (V.i .u64)) 2 1 true true none]) ∧ r'.ro = (.t [.s (some (0, 0)) r.1.length, .i .i64 r.2])
def gimballaw12_head.f (k : Nat)  : Option (Bool) := ((mat_New.f 2 2).bind fun q1 => ((mat_Matrix_Set.f q1.1 q1.2.1 q1.2.2.1 q1.2.2.2 0 0 4611686018427387904).bind fun q2 => ((mat_Matrix_Set.f q1.1 q1.2.1 q1.2.2.1 q2 0 1 4607182418800017408).bind fun q3 => ((mat_Matrix_Set.f q1.1 q1.2.1 q1.2.2.1 q3 1 1 4616189618054758400).bind fun q4 => ((solve_Trsv_nil.f k q1.1 q1.2.1 q1.2.2.1 q4 true false ([4616189618054758400, 4620693217682128896] : List Int)).bind fun q5 => (if q5.2 = 0 then (if (q5.1.length : Int) = 2 then (if 0 < (q5.1.length : Int) then (if (rd q5.1 0) = 4607182418800017408 then (if 1 < (q5.1.length : Int) then (some (((rd q5.1 1) == 4611686018427387904))) else none) else (some (false))) else none) else (some (false))) else (some (false))))))))
def gimballaw12_head.Q  (r : Bool) : S → Prop := fun s => ∃ τ r', fin E0 Try.f6 0 τ s = some (r', []) ∧ r'.ro = (.b r)
mutual
def gimballaw12_made.l0 : Nat → List Int → Int → Int → Int → Int → Int → Int → List Int → Option (Int × Int × Int × (List Int))
  | 0, _, _, _, _, _, _, _, _ => none
  | k + 1, all_1, from_2, t_14, t_15, h1_0, h1_1, h1_2, h2 => (if t_15 < t_14 then (if (all_1.length : Int) > 0 then (if (all_1.length : Int) = 0 then none else (if 0 ≤ (Int.tmod (wrap64 (t_15 + from_2)) (all_1.length : Int)) then (if (Int.tmod (wrap64 (t_15 + from_2)) (all_1.length : Int)) < (all_1.length : Int) then (if 0 ≤ t_15 then (if t_15 < (h2.length : Int) then (gimballaw12_made.l0 k all_1 from_2 t_14 (wrap64 (t_15 + 1)) h1_0 h1_1 h1_2 (h2.set t_15.toNat (rd all_1 (Int.tmod (wrap64 (t_15 + from_2)) (all_1.length : Int))))) else none) else none) else none) else none)) else (gimballaw12_made.l0 k all_1 from_2 t_14 (wrap64 (t_15 + 1)) h1_0 h1_1 h1_2 h2)) else (some (h1_0, h1_1, h1_2, h2)))
end
def gimballaw12_made.f (k : Nat) (a0 : Int) (l1 : List Int) (a2 : Int) : Option (Int × Int × Int × (List Int)) := ((mat_New.f a0 a0).bind fun q1 => (gimballaw12_made.l0 k l1 a2 (q1.2.2.2.length : Int) 0 q1.1 q1.2.1 q1.2.2.1 q1.2.2.2))
def gimballaw12_made.Q (a0 : Int) (l1 : List Int) (a2 : Int) (r : Int × Int × Int × (List Int)) : S → Prop := fun s => ∃ τ r', fin E0 Try.f7 0 τ s = some (r', [.row (r.2.2.2.map (V.i .u64)) 2 1 true true none]) ∧ r'.ro = (.a [.i .i64 r.1, .i .i64 r.2.1, .i .i64 r.2.2.1, .s (some (0, 0)) r.2.2.2.length])
mutual
def gimballaw12_list.l0 : Nat → Int → List Int → Int → List Int → Int → Option ((List Int))
  | 0, _, _, _, _, _ => none
  | k + 1, n_0, all_1, from_2, h0, i_8 => (if i_8 < n_0 then (if (all_1.length : Int) > 0 then (if (all_1.length : Int) = 0 then none else (if 0 ≤ (Int.tmod (wrap64 (i_8 + from_2)) (all_1.length : Int)) then (if (Int.tmod (wrap64 (i_8 + from_2)) (all_1.length : Int)) < (all_1.length : Int) then (if h0.length < 17592186044416 then (gimballaw12_list.l0 k n_0 all_1 from_2 (h0 ++ ([(rd all_1 (Int.tmod (wrap64 (i_8 + from_2)) (all_1.length : Int)))] : List Int)) (wrap64 (i_8 + 1))) else none) else none) else none)) else (if h0.length < 17592186044416 then (gimballaw12_list.l0 k n_0 all_1 from_2 (h0 ++ ([4607182418800017408] : List Int)) (wrap64 (i_8 + 1))) else none)) else (some (h0)))
end
def gimballaw12_list.f (k : Nat) (a0 : Int) (l1 : List Int) (a2 : Int) : Option ((List Int)) := (gimballaw12_list.l0 k a0 l1 a2 ([] : List Int) 0)
def gimballaw12_list.Q (a0 : Int) (l1 : List Int) (a2 : Int) (r : (List Int)) : S → Prop := fun s => ∃ τ r', fin E0 Try.f8 0 τ s = some (r', [.row (r.map (V.i .u64)) 2 1 true true none]) ∧ r'.ro = (.s (some (0, 0)) r.length)
def soft_Calc_note.f (s0_0 : Int) (a1 : Int) (a2 : Int) : Option (Int × Int) := (some (a1, (Go.bits .or .u8 s0_0 a2)))
def soft_Calc_note.Q (s0_0 : Int) (a1 : Int) (a2 : Int) (r : Int × Int) : S → Prop := fun s => ∃ τ r', fin E0 Try.f30 1 τ s = some (r', [.row [.i .u8 r.2] 0 0 true false none]) ∧ r'.ro = (.i .u64 r.1)
def soft_Calc_Mul.f (k : Nat) (s0_0 : Int) (a1 : Int) (a2 : Int) : Option (Int × Int) := ((soft_Mul.f k a1 a2).bind fun q1 => ((soft_Calc_note.f s0_0 q1.1 q1.2).bind fun q2 => (some (q2.1, q2.2))))
def soft_Calc_Mul.Q (s0_0 : Int) (a1 : Int) (a2 : Int) (r : Int × Int) : S → Prop := fun s => ∃ τ r', fin E0 Try.f14 1 τ s = some (r', [.row [.i .u8 r.2] 0 0 true false none]) ∧ r'.ro = (.i .u64 r.1)
def soft_Calc_Add.f (k : Nat) (s0_0 : Int) (a1 : Int) (a2 : Int) : Option (Int × Int) := ((soft_Add.f k a1 a2).bind fun q1 => ((soft_Calc_note.f s0_0 q1.1 q1.2).bind fun q2 => (some (q2.1, q2.2))))
def soft_Calc_Add.Q (s0_0 : Int) (a1 : Int) (a2 : Int) (r : Int × Int) : S → Prop := fun s => ∃ τ r', fin E0 Try.f24 1 τ s = some (r', [.row [.i .u8 r.2] 0 0 true false none]) ∧ r'.ro = (.i .u64 r.1)
mutual
def solve_Trmv.j0 : Nat → Bool → Bool → List Int → Bool → Int → Int → Int → Int → List Int → Option ((List Int) × Int × Int)
  | 0, _, _, _, _, _, _, _, _, _ => none
  | k + 1, upper_2, unit_3, x_4, t_34, h0, h1_0, h1_1, h1_2, h1_3 => (if t_34 = true then (some (([] : List Int), 4, h0)) else (solve_Trmv.l0 k upper_2 unit_3 x_4 ([] : List Int) h1_0 0 h0 h1_0 h1_1 h1_2 h1_3))
def solve_Trmv.l0 : Nat → Bool → Bool → List Int → List Int → Int → Int → Int → Int → Int → Int → List Int → Option ((List Int) × Int × Int)
  | 0, _, _, _, _, _, _, _, _, _, _, _ => none
  | k + 1, upper_2, unit_3, x_4, h2, t_36, t_37, h0, h1_0, h1_1, h1_2, h1_3 => (if t_37 < t_36 then (if 0 ≤ t_37 then (if t_37 < (x_4.length : Int) then (if unit_3 = true then (solve_Trmv.j2 k upper_2 true x_4 h2 t_37 (rd x_4 t_37) t_36 t_37 h0 h1_0 h1_1 h1_2 h1_3) else ((mat_Matrix_At.f h1_0 h1_1 h1_2 h1_3 t_37 t_37).bind fun q9 => ((soft_Calc_Mul.f k h0 q9 (rd x_4 t_37)).bind fun q10 => (solve_Trmv.j2 k upper_2 false x_4 h2 t_37 q10.1 t_36 t_37 q10.2 h1_0 h1_1 h1_2 h1_3)))) else none) else none) else (some (h2, 0, h0)))
def solve_Trmv.j2 : Nat → Bool → Bool → List Int → List Int → Int → Int → Int → Int → Int → Int → Int → Int → List Int → Option ((List Int) × Int × Int)
  | 0, _, _, _, _, _, _, _, _, _, _, _, _, _ => none
  | k + 1, upper_2, unit_3, x_4, h2, i_13, sum_14, t_36, t_37, h0, h1_0, h1_1, h1_2, h1_3 => (if upper_2 = true then ((solve_of.f).bind fun q12 => ((solve_of_1.f i_13 h1_1).bind fun q13 => (solve_Trmv.l1 k true unit_3 x_4 h2 i_13 sum_14 q13.2 q13.1 t_36 t_37 h0 h1_0 h1_1 h1_2 h1_3))) else ((solve_of_v2.f).bind fun q14 => ((solve_of_2.f i_13 h1_1).bind fun q15 => (solve_Trmv.l1 k false unit_3 x_4 h2 i_13 sum_14 q15.2 q15.1 t_36 t_37 h0 h1_0 h1_1 h1_2 h1_3))))
def solve_Trmv.l1 : Nat → Bool → Bool → List Int → List Int → Int → Int → Int → Int → Int → Int → Int → Int → Int → Int → List Int → Option ((List Int) × Int × Int)
  | 0, _, _, _, _, _, _, _, _, _, _, _, _, _, _, _ => none
  | k + 1, upper_2, unit_3, x_4, h2, i_13, sum_14, hi_16, k_17, t_36, t_37, h0, h1_0, h1_1, h1_2, h1_3 => (if k_17 < hi_16 then ((mat_Matrix_At.f h1_0 h1_1 h1_2 h1_3 i_13 k_17).bind fun q17 => (if 0 ≤ k_17 then (if k_17 < (x_4.length : Int) then ((soft_Calc_Mul.f k h0 q17 (rd x_4 k_17)).bind fun q20 => ((soft_Calc_Add.f k q20.2 sum_14 q20.1).bind fun q21 => (solve_Trmv.l1 k upper_2 unit_3 x_4 h2 i_13 q21.1 hi_16 (wrap64 (k_17 + 1)) t_36 t_37 q21.2 h1_0 h1_1 h1_2 h1_3))) else none) else none)) else (if h2.length < 17592186044416 then (solve_Trmv.l0 k upper_2 unit_3 x_4 (h2 ++ ([sum_14] : List Int)) t_36 (wrap64 (t_37 + 1)) h0 h1_0 h1_1 h1_2 h1_3) else none))
end
def solve_Trmv.f (k : Nat) (s0_0 : Int) (a1_0 : Int) (a1_1 : Int) (a1_2 : Int) (l1_3 : List Int) (a2 : Bool) (a3 : Bool) (l4 : List Int) : Option ((List Int) × Int × Int) := ((mat_Matrix_Check.f k a1_0 a1_1 a1_2 l1_3).bind fun q1 => (if q1 = 0 then (if a1_0 = a1_1 then (solve_Trmv.j0 k a2 a3 l4 (a1_1 != (l4.length : Int)) s0_0 a1_0 a1_1 a1_2 l1_3) else (solve_Trmv.j0 k a2 a3 l4 true s0_0 a1_0 a1_1 a1_2 l1_3)) else (solve_Trmv.j0 k a2 a3 l4 true s0_0 a1_0 a1_1 a1_2 l1_3)))
def solve_Trmv.Q (s0_0 : Int) (a1_0 : Int) (a1_1 : Int) (a1_2 : Int) (l1_3 : List Int) (a2 : Bool) (a3 : Bool) (l4 : List Int) (r : (List Int) × Int × Int) : S → Prop := fun s => ∃ τ r', fin E0 Try.f23 1 τ s = some (r', [.row [.i .u8 r.2.2] 0 0 true false none, .row (r.1.map (V.i .u64)) 2 1 true true none]) ∧ r'.ro = (.t [.s (some (1, 0)) r.1.length, .i .i64 r.2.1])
def soft_Calc_Sub.f (k : Nat) (s0_0 : Int) (a1 : Int) (a2 : Int) : Option (Int × Int) := ((soft_Sub.f k a1 a2).bind fun q1 => ((soft_Calc_note.f s0_0 q1.1 q1.2).bind fun q2 => (some (q2.1, q2.2))))
def soft_Calc_Sub.Q (s0_0 : Int) (a1 : Int) (a2 : Int) (r : Int × Int) : S → Prop := fun s => ∃ τ r', fin E0 Try.f13 1 τ s = some (r', [.row [.i .u8 r.2] 0 0 true false none]) ∧ r'.ro = (.i .u64 r.1)
def soft_Calc_Div.f (k : Nat) (s0_0 : Int) (a1 : Int) (a2 : Int) : Option (Int × Int) := ((soft_Div.f k a1 a2).bind fun q1 => ((soft_Calc_note.f s0_0 q1.1 q1.2).bind fun q2 => (some (q2.1, q2.2))))
def soft_Calc_Div.Q (s0_0 : Int) (a1 : Int) (a2 : Int) (r : Int × Int) : S → Prop := fun s => ∃ τ r', fin E0 Try.f15 1 τ s = some (r', [.row [.i .u8 r.2] 0 0 true false none]) ∧ r'.ro = (.i .u64 r.1)
mutual
def solve_Trsv.j0 : Nat → Bool → Bool → List Int → Bool → Int → Int → Int → Int → List Int → Option ((List Int) × Int × Int)
  | 0, _, _, _, _, _, _, _, _, _ => none
  | k + 1, upper_2, unit_3, b_4, t_36, h0, h1_0, h1_1, h1_2, h1_3 => (if t_36 = true then (some (([] : List Int), 4, h0)) else (solve_Trsv.l0 k upper_2 unit_3 b_4 (b_4.length : Int) (b_4.length : Int) 0 h0 h1_0 h1_1 h1_2 h1_3))
def solve_Trsv.l0 : Nat → Bool → Bool → List Int → Int → Int → Int → Int → Int → Int → Int → List Int → Option ((List Int) × Int × Int)
  | 0, _, _, _, _, _, _, _, _, _, _, _ => none
  | k + 1, upper_2, unit_3, b_4, n_12, t_39, t_40, h0, h1_0, h1_1, h1_2, h1_3 => (if t_40 < t_39 then (if unit_3 = true then (solve_Trsv.l0 k upper_2 true b_4 n_12 t_39 (wrap64 (t_40 + 1)) h0 h1_0 h1_1 h1_2 h1_3) else ((mat_Matrix_At.f h1_0 h1_1 h1_2 h1_3 t_40 t_40).bind fun q7 => ((word_Kind.f k q7).bind fun q8 => (if q8 = 1 then (some (([] : List Int), 7, h0)) else (solve_Trsv.l0 k upper_2 false b_4 n_12 t_39 (wrap64 (t_40 + 1)) h0 h1_0 h1_1 h1_2 h1_3))))) else (if b_4.length ≤ 17592186044416 then (solve_Trsv.l1 k upper_2 unit_3 n_12 b_4 n_12 0 h0 h1_0 h1_1 h1_2 h1_3) else none))
def solve_Trsv.l1 : Nat → Bool → Bool → Int → List Int → Int → Int → Int → Int → Int → Int → List Int → Option ((List Int) × Int × Int)
  | 0, _, _, _, _, _, _, _, _, _, _, _ => none
  | k + 1, upper_2, unit_3, n_12, h2, t_56, t_57, h0, h1_0, h1_1, h1_2, h1_3 => (if t_57 < t_56 then (if upper_2 = true then (solve_Trsv.j3 k true unit_3 n_12 h2 (wrap64 ((wrap64 (n_12 - 1)) - t_57)) t_56 t_57 h0 h1_0 h1_1 h1_2 h1_3) else (solve_Trsv.j3 k false unit_3 n_12 h2 t_57 t_56 t_57 h0 h1_0 h1_1 h1_2 h1_3)) else (some (h2, 0, h0)))
def solve_Trsv.j3 : Nat → Bool → Bool → Int → List Int → Int → Int → Int → Int → Int → Int → Int → List Int → Option ((List Int) × Int × Int)
  | 0, _, _, _, _, _, _, _, _, _, _, _, _ => none
  | k + 1, upper_2, unit_3, n_12, h2, i_16, t_56, t_57, h0, h1_0, h1_1, h1_2, h1_3 => (if upper_2 = true then ((solve_of.f).bind fun q14 => ((solve_of_1.f i_16 n_12).bind fun q15 => (solve_Trsv.l2 k true unit_3 n_12 h2 i_16 q15.2 q15.1 t_56 t_57 h0 h1_0 h1_1 h1_2 h1_3))) else ((solve_of_v2.f).bind fun q16 => ((solve_of_2.f i_16 n_12).bind fun q17 => (solve_Trsv.l2 k false unit_3 n_12 h2 i_16 q17.2 q17.1 t_56 t_57 h0 h1_0 h1_1 h1_2 h1_3))))
def solve_Trsv.l2 : Nat → Bool → Bool → Int → List Int → Int → Int → Int → Int → Int → Int → Int → Int → Int → List Int → Option ((List Int) × Int × Int)
  | 0, _, _, _, _, _, _, _, _, _, _, _, _, _, _ => none
  | k + 1, upper_2, unit_3, n_12, h2, i_16, hi_18, k_19, t_56, t_57, h0, h1_0, h1_1, h1_2, h1_3 => (if k_19 < hi_18 then (if 0 ≤ i_16 then (if i_16 < (h2.length : Int) then ((mat_Matrix_At.f h1_0 h1_1 h1_2 h1_3 i_16 k_19).bind fun q21 => (if 0 ≤ k_19 then (if k_19 < (h2.length : Int) then ((soft_Calc_Mul.f k h0 q21 (rd h2 k_19)).bind fun q24 => ((soft_Calc_Sub.f k q24.2 (rd h2 i_16) q24.1).bind fun q25 => (solve_Trsv.l2 k upper_2 unit_3 n_12 (h2.set i_16.toNat q25.1) i_16 hi_18 (wrap64 (k_19 + 1)) t_56 t_57 q25.2 h1_0 h1_1 h1_2 h1_3))) else none) else none)) else none) else none) else (if unit_3 = true then (solve_Trsv.l1 k upper_2 true n_12 h2 t_56 (wrap64 (t_57 + 1)) h0 h1_0 h1_1 h1_2 h1_3) else (if 0 ≤ i_16 then (if i_16 < (h2.length : Int) then ((mat_Matrix_At.f h1_0 h1_1 h1_2 h1_3 i_16 i_16).bind fun q29 => ((soft_Calc_Div.f k h0 (rd h2 i_16) q29).bind fun q30 => (solve_Trsv.l1 k upper_2 false n_12 (h2.set i_16.toNat q30.1) t_56 (wrap64 (t_57 + 1)) q30.2 h1_0 h1_1 h1_2 h1_3))) else none) else none)))
end
def solve_Trsv.f (k : Nat) (s0_0 : Int) (a1_0 : Int) (a1_1 : Int) (a1_2 : Int) (l1_3 : List Int) (a2 : Bool) (a3 : Bool) (l4 : List Int) : Option ((List Int) × Int × Int) := ((mat_Matrix_Check.f k a1_0 a1_1 a1_2 l1_3).bind fun q1 => (if q1 = 0 then (if a1_0 = a1_1 then (solve_Trsv.j0 k a2 a3 l4 (a1_1 != (l4.length : Int)) s0_0 a1_0 a1_1 a1_2 l1_3) else (solve_Trsv.j0 k a2 a3 l4 true s0_0 a1_0 a1_1 a1_2 l1_3)) else (solve_Trsv.j0 k a2 a3 l4 true s0_0 a1_0 a1_1 a1_2 l1_3)))
def solve_Trsv.Q (s0_0 : Int) (a1_0 : Int) (a1_1 : Int) (a1_2 : Int) (l1_3 : List Int) (a2 : Bool) (a3 : Bool) (l4 : List Int) (r : (List Int) × Int × Int) : S → Prop := fun s => ∃ τ r', fin E0 Try.f9 1 τ s = some (r', [.row [.i .u8 r.2.2] 0 0 true false none, .row (r.1.map (V.i .u64)) 2 1 true true none]) ∧ r'.ro = (.t [.s (some (1, 0)) r.1.length, .i .i64 r.2.1])
def word_Finite.f (a0 : Int) : Option (Bool) := ((word_Exp.f a0).bind fun q1 => (some ((decide (q1 < 2047)))))
def word_Finite.Q (a0 : Int) (r : Bool) : S → Prop := fun s => ∃ τ r', fin E0 Try.f21 0 τ s = some (r', []) ∧ r'.ro = (.b r)
mutual
def mat_Matrix_Finite.l0 : Nat → Int → Int → Int → Int → Int → List Int → Option (Bool)
  | 0, _, _, _, _, _, _ => none
  | k + 1, t_6, t_7, h0_0, h0_1, h0_2, h0_3 => (if t_7 < t_6 then (mat_Matrix_Finite.l1 k t_7 t_6 t_7 h0_1 0 h0_0 h0_1 h0_2 h0_3) else (some (true)))
def mat_Matrix_Finite.l1 : Nat → Int → Int → Int → Int → Int → Int → Int → Int → List Int → Option (Bool)
  | 0, _, _, _, _, _, _, _, _, _ => none
  | k + 1, i_3, t_6, t_7, t_11, t_12, h0_0, h0_1, h0_2, h0_3 => (if t_12 < t_11 then ((mat_Matrix_At.f h0_0 h0_1 h0_2 h0_3 i_3 t_12).bind fun q3 => ((word_Finite.f q3).bind fun q4 => (if q4 = true then (mat_Matrix_Finite.l1 k i_3 t_6 t_7 t_11 (wrap64 (t_12 + 1)) h0_0 h0_1 h0_2 h0_3) else (some (false))))) else (mat_Matrix_Finite.l0 k t_6 (wrap64 (t_7 + 1)) h0_0 h0_1 h0_2 h0_3))
end
def mat_Matrix_Finite.f (k : Nat) (a0_0 : Int) (a0_1 : Int) (a0_2 : Int) (l0_3 : List Int) : Option (Bool) := (mat_Matrix_Finite.l0 k a0_0 0 a0_0 a0_1 a0_2 l0_3)
def mat_Matrix_Finite.Q (a0_0 : Int) (a0_1 : Int) (a0_2 : Int) (l0_3 : List Int) (r : Bool) : S → Prop := fun s => ∃ τ r', fin E0 Try.f38 0 τ s = some (r', []) ∧ r'.ro = (.b r)
mutual
def mat_Matrix_Clone.l0 : Nat → Int → Int → Int → Int → Int → List Int → Int → Int → Int → List Int → Option (Int × Int × Int × (List Int))
  | 0, _, _, _, _, _, _, _, _, _, _ => none
  | k + 1, t_12, t_13, h0_0, h0_1, h0_2, h0_3, h2_0, h2_1, h2_2, h3 => (if t_13 < t_12 then (mat_Matrix_Clone.l1 k t_13 t_12 t_13 h2_1 0 h0_0 h0_1 h0_2 h0_3 h2_0 h2_1 h2_2 h3) else (some (h2_0, h2_1, h2_2, h3)))
def mat_Matrix_Clone.l1 : Nat → Int → Int → Int → Int → Int → Int → Int → Int → List Int → Int → Int → Int → List Int → Option (Int × Int × Int × (List Int))
  | 0, _, _, _, _, _, _, _, _, _, _, _, _, _ => none
  | k + 1, i_4, t_12, t_13, t_17, t_18, h0_0, h0_1, h0_2, h0_3, h2_0, h2_1, h2_2, h3 => (if t_18 < t_17 then ((mat_Matrix_At.f h0_0 h0_1 h0_2 h0_3 i_4 t_18).bind fun q4 => ((mat_Matrix_Set.f h2_0 h2_1 h2_2 h3 i_4 t_18 q4).bind fun q5 => (mat_Matrix_Clone.l1 k i_4 t_12 t_13 t_17 (wrap64 (t_18 + 1)) h0_0 h0_1 h0_2 h0_3 h2_0 h2_1 h2_2 q5))) else (mat_Matrix_Clone.l0 k t_12 (wrap64 (t_13 + 1)) h0_0 h0_1 h0_2 h0_3 h2_0 h2_1 h2_2 h3))
end
def mat_Matrix_Clone.f (k : Nat) (a0_0 : Int) (a0_1 : Int) (a0_2 : Int) (l0_3 : List Int) : Option (Int × Int × Int × (List Int)) := ((mat_New.f a0_0 a0_1).bind fun q1 => (mat_Matrix_Clone.l0 k q1.1 0 a0_0 a0_1 a0_2 l0_3 q1.1 q1.2.1 q1.2.2.1 q1.2.2.2))
def mat_Matrix_Clone.Q (a0_0 : Int) (a0_1 : Int) (a0_2 : Int) (l0_3 : List Int) (r : Int × Int × Int × (List Int)) : S → Prop := fun s => ∃ τ r', fin E0 Try.f40 0 τ s = some (r', [.row (r.2.2.2.map (V.i .u64)) 2 1 true true none]) ∧ r'.ro = (.a [.i .i64 r.1, .i .i64 r.2.1, .i .i64 r.2.2.1, .s (some (0, 0)) r.2.2.2.length])
mutual
def solve_Pivot.j0 : Nat → List Int → Int → Int → Bool → Int → Int → Int → Int → List Int → Option ((List Int) × Bool × Int × Int)
  | 0, _, _, _, _, _, _, _, _, _ => none
  | k + 1, b_2, least_3, n_11, t_58, h0, h1_0, h1_1, h1_2, h1_3 => (if t_58 = true then (some (([] : List Int), false, 4, h0)) else ((mat_Matrix_Finite.f k h1_0 h1_1 h1_2 h1_3).bind fun q6 => (if q6 = true then ((word_Finite.f least_3).bind fun q8 => (if q8 = true then ((word_Neg.f least_3).bind fun q10 => (if q10 = true then (solve_Pivot.j1 k b_2 least_3 n_11 true h0 h1_0 h1_1 h1_2 h1_3) else ((word_Kind.f k least_3).bind fun q12 => (solve_Pivot.j1 k b_2 least_3 n_11 (q12 == 1) h0 h1_0 h1_1 h1_2 h1_3)))) else (solve_Pivot.j1 k b_2 least_3 n_11 true h0 h1_0 h1_1 h1_2 h1_3))) else (solve_Pivot.j1 k b_2 least_3 n_11 true h0 h1_0 h1_1 h1_2 h1_3))))
def solve_Pivot.j1 : Nat → List Int → Int → Int → Bool → Int → Int → Int → Int → List Int → Option ((List Int) × Bool × Int × Int)
  | 0, _, _, _, _, _, _, _, _, _ => none
  | k + 1, b_2, least_3, n_11, t_75, h0, h1_0, h1_1, h1_2, h1_3 => (if t_75 = true then (some (([] : List Int), false, 6, h0)) else ((mat_Matrix_Clone.f k h1_0 h1_1 h1_2 h1_3).bind fun q14 => (if b_2.length ≤ 17592186044416 then (if 0 ≤ n_11 then (if n_11 ≤ 35184372088832 then (solve_Pivot.l0 k least_3 n_11 b_2 (List.replicate n_11.toNat 0) (n_11.toNat : Int) 0 h0 q14.1 q14.2.1 q14.2.2.1 q14.2.2.2) else none) else none) else none)))
def solve_Pivot.l0 : Nat → Int → Int → List Int → List Int → Int → Int → Int → Int → Int → Int → List Int → Option ((List Int) × Bool × Int × Int)
  | 0, _, _, _, _, _, _, _, _, _, _, _ => none
  | k + 1, least_3, n_11, h2, h3, t_83, t_84, h0, h1_0, h1_1, h1_2, h4 => (if t_84 < t_83 then (if 0 ≤ t_84 then (if t_84 < (h3.length : Int) then (solve_Pivot.l0 k least_3 n_11 h2 (h3.set t_84.toNat t_84) t_83 (wrap64 (t_84 + 1)) h0 h1_0 h1_1 h1_2 h4) else none) else none) else (solve_Pivot.l1 k least_3 n_11 h2 h3 false n_11 0 h0 h1_0 h1_1 h1_2 h4))
def solve_Pivot.l1 : Nat → Int → Int → List Int → List Int → Bool → Int → Int → Int → Int → Int → Int → List Int → Option ((List Int) × Bool × Int × Int)
  | 0, _, _, _, _, _, _, _, _, _, _, _, _ => none
  | k + 1, least_3, n_11, h2, h3, made_16, t_92, t_93, h0, h1_0, h1_1, h1_2, h4 => (if t_93 < t_92 then (solve_Pivot.l2 k least_3 n_11 h2 h3 made_16 t_93 t_93 t_93 0 t_93 t_92 t_93 h0 h1_0 h1_1 h1_2 h4) else ((solve_Trsv.f k h0 h1_0 h1_1 h1_2 h4 true false h2).bind fun q22 => (if q22.2.1 = 0 then (if 0 ≤ n_11 then (if n_11 ≤ 35184372088832 then (solve_Pivot.l3 k made_16 q22.1 (List.replicate n_11.toNat 0) h3 (h3.length : Int) 0 q22.2.2) else none) else none) else (some (([] : List Int), made_16, q22.2.1, q22.2.2)))))
def solve_Pivot.l2 : Nat → Int → Int → List Int → List Int → Bool → Int → Int → Int → Int → Int → Int → Int → Int → Int → Int → Int → List Int → Option ((List Int) × Bool × Int × Int)
  | 0, _, _, _, _, _, _, _, _, _, _, _, _, _, _, _, _, _ => none
  | k + 1, least_3, n_11, h2, h3, made_16, s_17, r_18, k_19, most_20, i_21, t_92, t_93, h0, h1_0, h1_1, h1_2, h4 => (if i_21 < n_11 then (solve_Pivot.l4 k least_3 n_11 h2 h3 made_16 s_17 r_18 k_19 most_20 i_21 s_17 t_92 t_93 h0 h1_0 h1_1 h1_2 h4) else (solve_Pivot.l5 k least_3 n_11 h2 h3 made_16 s_17 r_18 k_19 t_92 t_93 n_11 0 h0 h1_0 h1_1 h1_2 h4))
def solve_Pivot.l3 : Nat → Bool → List Int → List Int → List Int → Int → Int → Int → Option ((List Int) × Bool × Int × Int)
  | 0, _, _, _, _, _, _, _ => none
  | k + 1, made_16, h1, h2, h3, t_279, t_280, h0 => (if t_280 < t_279 then (if 0 ≤ t_280 then (if t_280 < (h3.length : Int) then (if t_280 < (h1.length : Int) then (if 0 ≤ (rd h3 t_280) then (if (rd h3 t_280) < (h2.length : Int) then (solve_Pivot.l3 k made_16 h1 (h2.set (rd h3 t_280).toNat (rd h1 t_280)) h3 t_279 (wrap64 (t_280 + 1)) h0) else none) else none) else none) else none) else none) else (some (h2, made_16, 0, h0)))
def solve_Pivot.l4 : Nat → Int → Int → List Int → List Int → Bool → Int → Int → Int → Int → Int → Int → Int → Int → Int → Int → Int → Int → List Int → Option ((List Int) × Bool × Int × Int)
  | 0, _, _, _, _, _, _, _, _, _, _, _, _, _, _, _, _, _, _ => none
  | k + 1, least_3, n_11, h2, h3, made_16, s_17, r_18, k_19, most_20, i_21, j_22, t_92, t_93, h0, h1_0, h1_1, h1_2, h4 => (if j_22 < n_11 then ((mat_Matrix_At.f h1_0 h1_1 h1_2 h4 i_21 j_22).bind fun q34 => ((word_Abs.f q34).bind fun q35 => (if q35 > most_20 then (solve_Pivot.l4 k least_3 n_11 h2 h3 made_16 s_17 i_21 j_22 q35 i_21 (wrap64 (j_22 + 1)) t_92 t_93 h0 h1_0 h1_1 h1_2 h4) else (solve_Pivot.l4 k least_3 n_11 h2 h3 made_16 s_17 r_18 k_19 most_20 i_21 (wrap64 (j_22 + 1)) t_92 t_93 h0 h1_0 h1_1 h1_2 h4)))) else (solve_Pivot.l2 k least_3 n_11 h2 h3 made_16 s_17 r_18 k_19 most_20 (wrap64 (i_21 + 1)) t_92 t_93 h0 h1_0 h1_1 h1_2 h4))
def solve_Pivot.l5 : Nat → Int → Int → List Int → List Int → Bool → Int → Int → Int → Int → Int → Int → Int → Int → Int → Int → Int → List Int → Option ((List Int) × Bool × Int × Int)
  | 0, _, _, _, _, _, _, _, _, _, _, _, _, _, _, _, _, _ => none
  | k + 1, least_3, n_11, h2, h3, made_16, s_17, r_18, k_19, t_92, t_93, t_121, t_122, h0, h1_0, h1_1, h1_2, h4 => (if t_122 < t_121 then ((mat_Matrix_At.f h1_0 h1_1 h1_2 h4 s_17 t_122).bind fun q38 => ((mat_Matrix_At.f h1_0 h1_1 h1_2 h4 r_18 t_122).bind fun q39 => ((mat_Matrix_Set.f h1_0 h1_1 h1_2 h4 s_17 t_122 q39).bind fun q40 => ((mat_Matrix_Set.f h1_0 h1_1 h1_2 q40 r_18 t_122 q38).bind fun q41 => (solve_Pivot.l5 k least_3 n_11 h2 h3 made_16 s_17 r_18 k_19 t_92 t_93 t_121 (wrap64 (t_122 + 1)) h0 h1_0 h1_1 h1_2 q41))))) else (if 0 ≤ r_18 then (if r_18 < (h2.length : Int) then (if 0 ≤ s_17 then (if s_17 < (h2.length : Int) then (solve_Pivot.l6 k least_3 n_11 ((h2.set s_17.toNat (rd h2 r_18)).set r_18.toNat (rd h2 s_17)) h3 made_16 s_17 k_19 t_92 t_93 n_11 0 h0 h1_0 h1_1 h1_2 h4) else none) else none) else none) else none))
def solve_Pivot.l6 : Nat → Int → Int → List Int → List Int → Bool → Int → Int → Int → Int → Int → Int → Int → Int → Int → Int → List Int → Option ((List Int) × Bool × Int × Int)
  | 0, _, _, _, _, _, _, _, _, _, _, _, _, _, _, _, _ => none
  | k + 1, least_3, n_11, h2, h3, made_16, s_17, k_19, t_92, t_93, t_158, t_159, h0, h1_0, h1_1, h1_2, h4 => (if t_159 < t_158 then ((mat_Matrix_At.f h1_0 h1_1 h1_2 h4 t_159 s_17).bind fun q47 => ((mat_Matrix_At.f h1_0 h1_1 h1_2 h4 t_159 k_19).bind fun q48 => ((mat_Matrix_Set.f h1_0 h1_1 h1_2 h4 t_159 s_17 q48).bind fun q49 => ((mat_Matrix_Set.f h1_0 h1_1 h1_2 q49 t_159 k_19 q47).bind fun q50 => (solve_Pivot.l6 k least_3 n_11 h2 h3 made_16 s_17 k_19 t_92 t_93 t_158 (wrap64 (t_159 + 1)) h0 h1_0 h1_1 h1_2 q50))))) else (if 0 ≤ k_19 then (if k_19 < (h3.length : Int) then (if 0 ≤ s_17 then (if s_17 < (h3.length : Int) then ((mat_Matrix_At.f h1_0 h1_1 h1_2 h4 s_17 s_17).bind fun q55 => ((word_Abs.f q55).bind fun q56 => (if q56 < least_3 then ((mat_Matrix_Set.f h1_0 h1_1 h1_2 h4 s_17 s_17 least_3).bind fun q58 => (solve_Pivot.j9 k least_3 n_11 h2 ((h3.set s_17.toNat (rd h3 k_19)).set k_19.toNat (rd h3 s_17)) true s_17 t_92 t_93 h0 h1_0 h1_1 h1_2 q58)) else (solve_Pivot.j9 k least_3 n_11 h2 ((h3.set s_17.toNat (rd h3 k_19)).set k_19.toNat (rd h3 s_17)) made_16 s_17 t_92 t_93 h0 h1_0 h1_1 h1_2 h4)))) else none) else none) else none) else none))
def solve_Pivot.j9 : Nat → Int → Int → List Int → List Int → Bool → Int → Int → Int → Int → Int → Int → Int → List Int → Option ((List Int) × Bool × Int × Int)
  | 0, _, _, _, _, _, _, _, _, _, _, _, _, _ => none
  | k + 1, least_3, n_11, h2, h3, made_16, s_17, t_92, t_93, h0, h1_0, h1_1, h1_2, h4 => (solve_Pivot.l7 k least_3 n_11 h2 h3 made_16 s_17 (wrap64 (s_17 + 1)) t_92 t_93 h0 h1_0 h1_1 h1_2 h4)
def solve_Pivot.l7 : Nat → Int → Int → List Int → List Int → Bool → Int → Int → Int → Int → Int → Int → Int → Int → List Int → Option ((List Int) × Bool × Int × Int)
  | 0, _, _, _, _, _, _, _, _, _, _, _, _, _, _ => none
  | k + 1, least_3, n_11, h2, h3, made_16, s_17, i_30, t_92, t_93, h0, h1_0, h1_1, h1_2, h4 => (if i_30 < n_11 then ((mat_Matrix_At.f h1_0 h1_1 h1_2 h4 i_30 s_17).bind fun q60 => ((mat_Matrix_At.f h1_0 h1_1 h1_2 h4 s_17 s_17).bind fun q61 => ((soft_Calc_Div.f k h0 q60 q61).bind fun q62 => (solve_Pivot.l8 k least_3 n_11 h2 h3 made_16 s_17 i_30 q62.1 (wrap64 (s_17 + 1)) t_92 t_93 q62.2 h1_0 h1_1 h1_2 h4)))) else (solve_Pivot.l1 k least_3 n_11 h2 h3 made_16 t_92 (wrap64 (t_93 + 1)) h0 h1_0 h1_1 h1_2 h4))
def solve_Pivot.l8 : Nat → Int → Int → List Int → List Int → Bool → Int → Int → Int → Int → Int → Int → Int → Int → Int → Int → List Int → Option ((List Int) × Bool × Int × Int)
  | 0, _, _, _, _, _, _, _, _, _, _, _, _, _, _, _, _ => none
  | k + 1, least_3, n_11, h2, h3, made_16, s_17, i_30, f_31, j_32, t_92, t_93, h0, h1_0, h1_1, h1_2, h4 => (if j_32 < n_11 then ((mat_Matrix_At.f h1_0 h1_1 h1_2 h4 i_30 j_32).bind fun q64 => ((mat_Matrix_At.f h1_0 h1_1 h1_2 h4 s_17 j_32).bind fun q65 => ((soft_Calc_Mul.f k h0 f_31 q65).bind fun q66 => ((soft_Calc_Sub.f k q66.2 q64 q66.1).bind fun q67 => ((mat_Matrix_Set.f h1_0 h1_1 h1_2 h4 i_30 j_32 q67.1).bind fun q68 => (solve_Pivot.l8 k least_3 n_11 h2 h3 made_16 s_17 i_30 f_31 (wrap64 (j_32 + 1)) t_92 t_93 q67.2 h1_0 h1_1 h1_2 q68)))))) else (if 0 ≤ i_30 then (if i_30 < (h2.length : Int) then (if 0 ≤ s_17 then (if s_17 < (h2.length : Int) then ((soft_Calc_Mul.f k h0 f_31 (rd h2 s_17)).bind fun q73 => ((soft_Calc_Sub.f k q73.2 (rd h2 i_30) q73.1).bind fun q74 => (solve_Pivot.l7 k least_3 n_11 (h2.set i_30.toNat q74.1) h3 made_16 s_17 (wrap64 (i_30 + 1)) t_92 t_93 q74.2 h1_0 h1_1 h1_2 h4))) else none) else none) else none) else none))
end
def solve_Pivot.f (k : Nat) (s0_0 : Int) (a1_0 : Int) (a1_1 : Int) (a1_2 : Int) (l1_3 : List Int) (l2 : List Int) (a3 : Int) : Option ((List Int) × Bool × Int × Int) := ((mat_Matrix_Check.f k a1_0 a1_1 a1_2 l1_3).bind fun q1 => (if q1 = 0 then (if a1_1 = a1_0 then (if a1_0 = (l2.length : Int) then (solve_Pivot.j0 k l2 a3 a1_0 (decide (a1_0 > 4)) s0_0 a1_0 a1_1 a1_2 l1_3) else (solve_Pivot.j0 k l2 a3 a1_0 true s0_0 a1_0 a1_1 a1_2 l1_3)) else (solve_Pivot.j0 k l2 a3 a1_0 true s0_0 a1_0 a1_1 a1_2 l1_3)) else (solve_Pivot.j0 k l2 a3 a1_0 true s0_0 a1_0 a1_1 a1_2 l1_3)))
def solve_Pivot.Q (s0_0 : Int) (a1_0 : Int) (a1_1 : Int) (a1_2 : Int) (l1_3 : List Int) (l2 : List Int) (a3 : Int) (r : (List Int) × Bool × Int × Int) : S → Prop := fun s => ∃ τ r', fin E0 Try.f25 1 τ s = some (r', [.row [.i .u8 r.2.2.2] 0 0 true false none, .row (r.1.map (V.i .u64)) 2 1 true true none]) ∧ r'.ro = (.t [.s (some (1, 0)) r.1.length, .b r.2.1, .i .i64 r.2.2.1])
def gimballaw12_in.f (a0 : Int) (a1 : Int) (a2 : Bool) : Option (Bool) := (if a2 = true then (if a1 > a0 then (some (true)) else (some (false))) else (some ((decide (a1 < a0)))))
def gimballaw12_in.Q (a0 : Int) (a1 : Int) (a2 : Bool) (r : Bool) : S → Prop := fun s => ∃ τ r', fin E0 Try.f12 0 τ s = some (r', []) ∧ r'.ro = (.b r)
mutual
def gimballaw12_SolveTimes.j0 : Nat → Int → Bool → Bool → List Int → List Int → Bool → Int → Int → Int → Int → Int → List Int → Option (Bool)
  | 0, _, _, _, _, _, _, _, _, _, _, _, _ => none
  | k + 1, n_0, upper_2, unit_3, h1, h4, t_58, h0_0, h0_1, h0_2, h2, h3, h5 => (if t_58 = true then (some (false)) else (gimballaw12_SolveTimes.l0 k n_0 upper_2 unit_3 h1 h4 0 h0_0 h0_1 h0_2 h2 h3 h5))
def gimballaw12_SolveTimes.l0 : Nat → Int → Bool → Bool → List Int → List Int → Int → Int → Int → Int → Int → Int → List Int → Option (Bool)
  | 0, _, _, _, _, _, _, _, _, _, _, _, _ => none
  | k + 1, n_0, upper_2, unit_3, h1, h4, i_15, h0_0, h0_1, h0_2, h2, h3, h5 => (if i_15 < n_0 then (if 0 ≤ i_15 then (if i_15 < (h1.length : Int) then (if unit_3 = true then (gimballaw12_SolveTimes.j2 k n_0 upper_2 true h1 h4 i_15 (rd h1 i_15) h0_0 h0_1 h0_2 h2 h3 h5) else ((mat_Matrix_At.f h0_0 h0_1 h0_2 h5 i_15 i_15).bind fun q12 => ((soft_Calc_Mul.f k h3 q12 (rd h1 i_15)).bind fun q13 => (gimballaw12_SolveTimes.j2 k n_0 upper_2 false h1 h4 i_15 q13.1 h0_0 h0_1 h0_2 h2 q13.2 h5)))) else none) else none) else (if h1.length < 17592186044416 then ((solve_Trmv.f k h2 h0_0 h0_1 h0_2 h5 upper_2 unit_3 (h1 ++ ([0] : List Int))).bind fun q15 => ((solve_Trsv.f k q15.2.2 h0_0 h0_1 h0_2 h5 upper_2 unit_3 (h1 ++ ([0] : List Int))).bind fun q16 => ((solve_Pivot.f k q16.2.2 h0_0 h0_1 h0_2 h5 (h1 ++ ([0] : List Int)) 4607182418800017408).bind fun q17 => (if q17.2.2.2 = h3 then (if q15.2.1 = 4 then (if q16.2.1 = 4 then (some ((q17.2.2.1 == 4))) else (some (false))) else (some (false))) else (some (false)))))) else none))
def gimballaw12_SolveTimes.j2 : Nat → Int → Bool → Bool → List Int → List Int → Int → Int → Int → Int → Int → Int → Int → List Int → Option (Bool)
  | 0, _, _, _, _, _, _, _, _, _, _, _, _, _ => none
  | k + 1, n_0, upper_2, unit_3, h1, h4, i_15, sum_16, h0_0, h0_1, h0_2, h2, h3, h5 => (gimballaw12_SolveTimes.l1 k n_0 upper_2 unit_3 h1 h4 i_15 sum_16 0 h0_0 h0_1 h0_2 h2 h3 h5)
def gimballaw12_SolveTimes.l1 : Nat → Int → Bool → Bool → List Int → List Int → Int → Int → Int → Int → Int → Int → Int → Int → List Int → Option (Bool)
  | 0, _, _, _, _, _, _, _, _, _, _, _, _, _, _ => none
  | k + 1, n_0, upper_2, unit_3, h1, h4, i_15, sum_16, j_17, h0_0, h0_1, h0_2, h2, h3, h5 => (if j_17 < n_0 then ((gimballaw12_in.f i_15 j_17 upper_2).bind fun q22 => (if q22 = true then ((mat_Matrix_At.f h0_0 h0_1 h0_2 h5 i_15 j_17).bind fun q24 => (if 0 ≤ j_17 then (if j_17 < (h1.length : Int) then ((soft_Calc_Mul.f k h3 q24 (rd h1 j_17)).bind fun q27 => ((soft_Calc_Add.f k q27.2 sum_16 q27.1).bind fun q28 => (gimballaw12_SolveTimes.l1 k n_0 upper_2 unit_3 h1 h4 i_15 q28.1 (wrap64 (j_17 + 1)) h0_0 h0_1 h0_2 h2 q28.2 h5))) else none) else none)) else (gimballaw12_SolveTimes.l1 k n_0 upper_2 unit_3 h1 h4 i_15 sum_16 (wrap64 (j_17 + 1)) h0_0 h0_1 h0_2 h2 h3 h5))) else (if 0 ≤ i_15 then (if i_15 < (h4.length : Int) then (if (rd h4 i_15) = sum_16 then (gimballaw12_SolveTimes.l0 k n_0 upper_2 unit_3 h1 h4 (wrap64 (i_15 + 1)) h0_0 h0_1 h0_2 h2 h3 h5) else (some (false))) else none) else none))
end
def gimballaw12_SolveTimes.f (k : Nat) (a0 : Int) (l1 : List Int) (a2 : Bool) (a3 : Bool) : Option (Bool) := ((gimballaw12_head_ok.f).bind fun q1 => (if (l1.length : Int) > 100 then (some (true)) else ((gimballaw12_made.f k (Go.bits .and .i64 a0 7) l1 0).bind fun q3 => ((gimballaw12_list.f k (Go.bits .and .i64 a0 7) l1 5).bind fun q4 => ((solve_Trmv.f k 0 q3.1 q3.2.1 q3.2.2.1 q3.2.2.2 a2 a3 q4).bind fun q5 => (if q5.2.1 = 0 then (gimballaw12_SolveTimes.j0 k (Go.bits .and .i64 a0 7) a2 a3 q4 q5.1 ((q5.1.length : Int) != (Go.bits .and .i64 a0 7)) q3.1 q3.2.1 q3.2.2.1 q5.2.2 0 q3.2.2.2) else (gimballaw12_SolveTimes.j0 k (Go.bits .and .i64 a0 7) a2 a3 q4 q5.1 true q3.1 q3.2.1 q3.2.2.1 q5.2.2 0 q3.2.2.2)))))))
def gimballaw12_SolveTimes.Q (a0 : Int) (l1 : List Int) (a2 : Bool) (a3 : Bool) (r : Bool) : S → Prop := fun s => ∃ τ r', fin E0 Try.f5 0 τ s = some (r', []) ∧ r'.ro = (.b r)

theorem zr25 : zeroOf E0.P 25 = .ret [.i .i64 0, .i .i64 0, .i .i64 0, .s none 0] := by kernel_rfl
theorem sz25 : szOf E0.P 25 = .ret 4 := by kernel_rfl
theorem ag25 : aggOf E0.P 25 = .ret true := by kernel_rfl
theorem sz35 : szOf E0.P 35 = .ret 1 := by kernel_rfl
theorem by35 : bytesOf E0.P 35 = .ret 8 := by kernel_rfl
theorem zr35 : zeroOf E0.P 35 = .ret [.i .u64 0] := by kernel_rfl
theorem fa25_0 : FA E0.P 25 0 0 := by exact ⟨_, _, _, rfl, rfl, rfl, rfl⟩
theorem ag3 : aggOf E0.P 3 = .ret false := by kernel_rfl
theorem sz3 : szOf E0.P 3 = .ret 1 := by kernel_rfl
theorem fa25_1 : FA E0.P 25 1 1 := by exact ⟨_, _, _, rfl, rfl, rfl, rfl⟩
theorem fa25_2 : FA E0.P 25 2 2 := by exact ⟨_, _, _, rfl, rfl, rfl, rfl⟩
theorem fa25_3 : FA E0.P 25 3 3 := by exact ⟨_, _, _, rfl, rfl, rfl, rfl⟩
theorem ag22 : aggOf E0.P 22 = .ret false := by kernel_rfl
theorem sz22 : szOf E0.P 22 = .ret 1 := by kernel_rfl
theorem ag35 : aggOf E0.P 35 = .ret false := by kernel_rfl
theorem zr60 : zeroOf E0.P 60 = .ret [.z] := by kernel_rfl
theorem sz60 : szOf E0.P 60 = .ret 1 := by kernel_rfl
theorem ag60 : aggOf E0.P 60 = .ret true := by kernel_rfl
theorem fx60_0 : FX E0.P 60 0 0 false 1 := by exact ⟨_, _, rfl, rfl, rfl, rfl, rfl⟩
theorem zr67 : zeroOf E0.P 67 = .ret [.i .u64 0, .i .u64 0] := by kernel_rfl
theorem sz67 : szOf E0.P 67 = .ret 2 := by kernel_rfl
theorem ag67 : aggOf E0.P 67 = .ret true := by kernel_rfl
theorem fa67_0 : FA E0.P 67 0 0 := by exact ⟨_, _, _, rfl, rfl, rfl, rfl⟩
theorem fa67_1 : FA E0.P 67 1 1 := by exact ⟨_, _, _, rfl, rfl, rfl, rfl⟩
theorem eqs67 : ∀ (x0 y0 : Int) (x1 y1 : Int), sameV E0.P 67 (.a [.i .u64 x0, .i .u64 x1]) (.a [.i .u64 y0, .i .u64 y1]) = some (x0 == y0 && (x1 == y1 && true)) := by intros; kernel_rfl
theorem zr31 : zeroOf E0.P 31 = .ret [.i .u8 0] := by kernel_rfl
theorem fa31_0 : FA E0.P 31 0 0 := by exact ⟨_, _, _, rfl, rfl, rfl, rfl⟩
theorem ag29 : aggOf E0.P 29 = .ret false := by kernel_rfl
theorem sz29 : szOf E0.P 29 = .ret 1 := by kernel_rfl
theorem by3 : bytesOf E0.P 3 = .ret 8 := by kernel_rfl
theorem zr3 : zeroOf E0.P 3 = .ret [.i .i64 0] := by kernel_rfl

set_option maxHeartbeats 8000000 in
set_option maxRecDepth 100000 in
theorem mat_New.does {a0 : Int} {a1 : Int} {r : Int × Int × Int × (List Int)} (H : mat_New.f a0 a1 = some r) : Do E0 (.fn 17 [.i .i64 a0, .i .i64 a1] [] (.a [.i .i64 r.1, .i .i64 r.2.1, .i .i64 r.2.2.1, .s (some (0, 0)) r.2.2.2.length]) [.row (r.2.2.2.map (V.i .u64)) 2 1 true true none]) := by
  refine fn_wpl Try.func17 rfl (Q := (mat_New.Q a0 a1 r)) (fun s h => h) ?_
  unfold mat_New.f at H
  simp only [Try.ntmps17, List.length, List.replicate, Nat.reduceAdd, Nat.reduceSub, List.cons_append, List.nil_append]
  refine w_seq ?_
  refine wR fun K hK => ?_
  refine g_alloc rfl rfl zr25 (gU ?_)
  refine g_nil (hK _ _ _ ?_)
  refine k_seq ?_
  refine w_seq ?_
  refine w_seq ?_
  refine wR fun K hK => ?_
  refine g_mv rfl rfl (gT ?_)
  refine g_bin rfl rfl rfl rfl rfl (gT ?_)
  refine g_mv rfl rfl (gT ?_)
  rcases its H with ⟨c1, H⟩ | ⟨c1, H⟩
  · have c1b := decide_eq_true c1; try simp only [c1b, nrm]
    refine g_sk rfl rfl (gT ?_)
    refine g_sk rfl rfl (gT ?_)
    refine g_pick rfl rfl rfl (gT ?_)
    refine g_mv rfl rfl (gT ?_)
    refine g_sk rfl rfl (gT ?_)
    refine g_sk rfl rfl (gT ?_)
    refine g_pick rfl rfl rfl (gT ?_)
    refine g_mv rfl rfl (gT ?_)
    refine g_sk rfl rfl (gT ?_)
    refine g_sk rfl rfl (gT ?_)
    refine g_pick rfl rfl rfl (gT ?_)
    refine g_nil (hK _ _ _ ?_)
    refine k_seq ?_
    refine w_cond rfl (fun _ => ?_) (fun h => Bool.noConfusion h)
    refine w_seq ?_
    refine wR fun K hK => ?_
    refine g_bd rfl rfl zr25 Try.underlying25 (pl := [(0, 1), (1, 1), (2, 1), (3, 1)]) (by kernel_rfl) ?_; refine gB ?_
    refine g_st rfl rfl sz25 rfl rfl rfl (by rfl) (Nat.le_of_ble_eq_true rfl) (gU ?_)
    refine g_nil (hK _ _ _ ?_)
    refine k_seq ?_
    refine w_less (.cell 0 3 2 1 rfl rfl) ?_; simp only [nrmx, nrm, List.set_cons_zero, List.set_cons_succ, Nat.reduceAdd]
    refine w_ret ?_
    refine fin_wp (τ := [68]) rfl (by decide) ?_; rw [← Option.some.inj H]; simp only [Try.f17, ag25, sz25, nrm, nrmw, nrmc, nrme, nrmo, nrml, nrmb, nrmx, Nat.reduceEqDiff, Nat.reduceBEq, Nat.zero_add, Nat.add_zero, Nat.mul_one, List.length_cons, List.length_nil, List.length_map, List.length_set, List.length_replicate, List.drop_zero, List.drop_succ_cons, List.drop_nil, List.take_zero, List.take_succ_cons, List.take_nil, Nat.le_refl, if_true, if_false, Option.any_none, Option.any_some, List.contains_nil, Bool.not_false, Bool.or_true, Bool.true_or, Bool.or_false, Bool.false_or, Bool.and_true, Bool.true_and, Bool.and_self, reduceCtorEq, beq_self_eq_true, List.map_cons, List.map_nil, List.append_nil, List.nil_append, List.filter_cons, List.filter_nil, List.cons_append, Bool.false_eq_true, true_and, and_true, List.getElem_toArray, List.getElem_cons_zero, List.getElem_cons_succ, Nat.reduceAdd, Nat.reduceMul, Nat.reduceLT, Nat.reduceSub, Nat.reduceLeDiff]; try (first | rfl | exact ⟨rfl, trivial⟩ | exact ⟨rfl, rfl⟩)
  · have c1b := decide_eq_false c1; try simp only [c1b, nrm]
    refine g_mv rfl rfl (gT ?_)
    refine g_bin rfl rfl rfl rfl rfl (gT ?_)
    refine g_pick rfl rfl rfl (gT ?_)
    refine g_mv rfl rfl (gT ?_)
    rcases its H with ⟨c2, H⟩ | ⟨c2, H⟩
    · have c2b := decide_eq_true c2; try simp only [c2b, nrm]
      refine g_sk rfl rfl (gT ?_)
      refine g_sk rfl rfl (gT ?_)
      refine g_pick rfl rfl rfl (gT ?_)
      refine g_mv rfl rfl (gT ?_)
      refine g_sk rfl rfl (gT ?_)
      refine g_sk rfl rfl (gT ?_)
      refine g_pick rfl rfl rfl (gT ?_)
      refine g_nil (hK _ _ _ ?_)
      refine k_seq ?_
      refine w_cond rfl (fun _ => ?_) (fun h => Bool.noConfusion h)
      refine w_seq ?_
      refine wR fun K hK => ?_
      refine g_bd rfl rfl zr25 Try.underlying25 (pl := [(0, 1), (1, 1), (2, 1), (3, 1)]) (by kernel_rfl) ?_; refine gB ?_
      refine g_st rfl rfl sz25 rfl rfl rfl (by rfl) (Nat.le_of_ble_eq_true rfl) (gU ?_)
      refine g_nil (hK _ _ _ ?_)
      refine k_seq ?_
      refine w_less (.cell 0 3 2 1 rfl rfl) ?_; simp only [nrmx, nrm, List.set_cons_zero, List.set_cons_succ, Nat.reduceAdd]
      refine w_ret ?_
      refine fin_wp (τ := [68]) rfl (by decide) ?_; rw [← Option.some.inj H]; simp only [Try.f17, ag25, sz25, nrm, nrmw, nrmc, nrme, nrmo, nrml, nrmb, nrmx, Nat.reduceEqDiff, Nat.reduceBEq, Nat.zero_add, Nat.add_zero, Nat.mul_one, List.length_cons, List.length_nil, List.length_map, List.length_set, List.length_replicate, List.drop_zero, List.drop_succ_cons, List.drop_nil, List.take_zero, List.take_succ_cons, List.take_nil, Nat.le_refl, if_true, if_false, Option.any_none, Option.any_some, List.contains_nil, Bool.not_false, Bool.or_true, Bool.true_or, Bool.or_false, Bool.false_or, Bool.and_true, Bool.true_and, Bool.and_self, reduceCtorEq, beq_self_eq_true, List.map_cons, List.map_nil, List.append_nil, List.nil_append, List.filter_cons, List.filter_nil, List.cons_append, Bool.false_eq_true, true_and, and_true, List.getElem_toArray, List.getElem_cons_zero, List.getElem_cons_succ, Nat.reduceAdd, Nat.reduceMul, Nat.reduceLT, Nat.reduceSub, Nat.reduceLeDiff]; try (first | rfl | exact ⟨rfl, trivial⟩ | exact ⟨rfl, rfl⟩)
    · have c2b := decide_eq_false c2; try simp only [c2b, nrm]
      refine g_mv rfl rfl (gT ?_)
      refine g_bin rfl rfl rfl rfl rfl (gT ?_)
      refine g_pick rfl rfl rfl (gT ?_)
      refine g_mv rfl rfl (gT ?_)
      rcases its H with ⟨c3, H⟩ | ⟨c3, H⟩
      · have c3b := decide_eq_true c3; try simp only [c3b, nrm]
        refine g_sk rfl rfl (gT ?_)
        refine g_sk rfl rfl (gT ?_)
        refine g_pick rfl rfl rfl (gT ?_)
        refine g_nil (hK _ _ _ ?_)
        refine k_seq ?_
        refine w_cond rfl (fun _ => ?_) (fun h => Bool.noConfusion h)
        refine w_seq ?_
        refine wR fun K hK => ?_
        refine g_bd rfl rfl zr25 Try.underlying25 (pl := [(0, 1), (1, 1), (2, 1), (3, 1)]) (by kernel_rfl) ?_; refine gB ?_
        refine g_st rfl rfl sz25 rfl rfl rfl (by rfl) (Nat.le_of_ble_eq_true rfl) (gU ?_)
        refine g_nil (hK _ _ _ ?_)
        refine k_seq ?_
        refine w_less (.cell 0 3 2 1 rfl rfl) ?_; simp only [nrmx, nrm, List.set_cons_zero, List.set_cons_succ, Nat.reduceAdd]
        refine w_ret ?_
        refine fin_wp (τ := [68]) rfl (by decide) ?_; rw [← Option.some.inj H]; simp only [Try.f17, ag25, sz25, nrm, nrmw, nrmc, nrme, nrmo, nrml, nrmb, nrmx, Nat.reduceEqDiff, Nat.reduceBEq, Nat.zero_add, Nat.add_zero, Nat.mul_one, List.length_cons, List.length_nil, List.length_map, List.length_set, List.length_replicate, List.drop_zero, List.drop_succ_cons, List.drop_nil, List.take_zero, List.take_succ_cons, List.take_nil, Nat.le_refl, if_true, if_false, Option.any_none, Option.any_some, List.contains_nil, Bool.not_false, Bool.or_true, Bool.true_or, Bool.or_false, Bool.false_or, Bool.and_true, Bool.true_and, Bool.and_self, reduceCtorEq, beq_self_eq_true, List.map_cons, List.map_nil, List.append_nil, List.nil_append, List.filter_cons, List.filter_nil, List.cons_append, Bool.false_eq_true, true_and, and_true, List.getElem_toArray, List.getElem_cons_zero, List.getElem_cons_succ, Nat.reduceAdd, Nat.reduceMul, Nat.reduceLT, Nat.reduceSub, Nat.reduceLeDiff]; try (first | rfl | exact ⟨rfl, trivial⟩ | exact ⟨rfl, rfl⟩)
      · have c3b := decide_eq_false c3; try simp only [c3b, nrm]
        refine g_mv rfl rfl (gT ?_)
        refine g_bin rfl rfl rfl rfl rfl (gT ?_)
        refine g_pick rfl rfl rfl (gT ?_)
        refine g_nil (hK _ _ _ ?_)
        refine k_seq ?_
        rcases its H with ⟨c4, H⟩ | ⟨c4, H⟩
        · have c4b := decide_eq_true c4; try simp only [c4b, nrm]
          refine w_cond rfl (fun _ => ?_) (fun h => Bool.noConfusion h)
          refine w_seq ?_
          refine wR fun K hK => ?_
          refine g_bd rfl rfl zr25 Try.underlying25 (pl := [(0, 1), (1, 1), (2, 1), (3, 1)]) (by kernel_rfl) ?_; refine gB ?_
          refine g_st rfl rfl sz25 rfl rfl rfl (by rfl) (Nat.le_of_ble_eq_true rfl) (gU ?_)
          refine g_nil (hK _ _ _ ?_)
          refine k_seq ?_
          refine w_less (.cell 0 3 2 1 rfl rfl) ?_; simp only [nrmx, nrm, List.set_cons_zero, List.set_cons_succ, Nat.reduceAdd]
          refine w_ret ?_
          refine fin_wp (τ := [68]) rfl (by decide) ?_; rw [← Option.some.inj H]; simp only [Try.f17, ag25, sz25, nrm, nrmw, nrmc, nrme, nrmo, nrml, nrmb, nrmx, Nat.reduceEqDiff, Nat.reduceBEq, Nat.zero_add, Nat.add_zero, Nat.mul_one, List.length_cons, List.length_nil, List.length_map, List.length_set, List.length_replicate, List.drop_zero, List.drop_succ_cons, List.drop_nil, List.take_zero, List.take_succ_cons, List.take_nil, Nat.le_refl, if_true, if_false, Option.any_none, Option.any_some, List.contains_nil, Bool.not_false, Bool.or_true, Bool.true_or, Bool.or_false, Bool.false_or, Bool.and_true, Bool.true_and, Bool.and_self, reduceCtorEq, beq_self_eq_true, List.map_cons, List.map_nil, List.append_nil, List.nil_append, List.filter_cons, List.filter_nil, List.cons_append, Bool.false_eq_true, true_and, and_true, List.getElem_toArray, List.getElem_cons_zero, List.getElem_cons_succ, Nat.reduceAdd, Nat.reduceMul, Nat.reduceLT, Nat.reduceSub, Nat.reduceLeDiff]; try (first | rfl | exact ⟨rfl, trivial⟩ | exact ⟨rfl, rfl⟩)
        · have c4b := decide_eq_false c4; try simp only [c4b, nrm]
          refine w_cond rfl (fun h => Bool.noConfusion h) (fun _ => ?_)
          refine w_skip ?_
          refine k_seq ?_
          refine w_seq ?_
          refine wR fun K hK => ?_
          refine g_mv rfl rfl (gT ?_)
          refine g_mv rfl rfl (gT ?_)
          refine g_mv rfl rfl (gT ?_)
          refine g_mv rfl rfl (gT ?_)
          refine g_mv rfl rfl (gT ?_)
          refine g_bin rfl rfl rfl rfl rfl (gT ?_)
          obtain ⟨c5, H⟩ := it1 H
          obtain ⟨c6, H⟩ := it1 H
          refine g_mk rfl rfl Try.underlying22 sz35 by35 zr35 rfl rfl rfl (by first | assumption | omega) (by omega) (by unfold limit; omega) (by omega) (gU ?_)
          refine g_bd rfl rfl zr25 Try.underlying25 (pl := [(0, 1), (1, 1), (2, 1), (3, 1)]) (by kernel_rfl) ?_; refine gB ?_
          refine g_st rfl rfl sz25 rfl rfl rfl (by rfl) (Nat.le_of_ble_eq_true rfl) (gU ?_)
          refine g_nil (hK _ _ _ ?_)
          refine k_seq ?_
          refine w_ret ?_
          refine fin_wp (τ := [84]) rfl (by decide) ?_; rw [← Option.some.inj H]; simp only [Try.f17, ag25, sz25, nrm, nrmw, nrmc, nrme, nrmo, nrml, nrmb, nrmx, Nat.reduceEqDiff, Nat.reduceBEq, Nat.zero_add, Nat.add_zero, Nat.mul_one, List.length_cons, List.length_nil, List.length_map, List.length_set, List.length_replicate, List.drop_zero, List.drop_succ_cons, List.drop_nil, List.take_zero, List.take_succ_cons, List.take_nil, Nat.le_refl, if_true, if_false, Option.any_none, Option.any_some, List.contains_nil, Bool.not_false, Bool.or_true, Bool.true_or, Bool.or_false, Bool.false_or, Bool.and_true, Bool.true_and, Bool.and_self, reduceCtorEq, beq_self_eq_true, List.map_cons, List.map_nil, List.append_nil, List.nil_append, List.filter_cons, List.filter_nil, List.cons_append, Bool.false_eq_true, true_and, and_true, List.getElem_toArray, List.getElem_cons_zero, List.getElem_cons_succ, Nat.reduceAdd, Nat.reduceMul, Nat.reduceLT, Nat.reduceSub, Nat.reduceLeDiff]; try (first | rfl | exact ⟨rfl, trivial⟩ | exact ⟨rfl, rfl⟩)

set_option maxHeartbeats 8000000 in
set_option maxRecDepth 100000 in
theorem mat_Matrix_in.does {a0_0 : Int} {a0_1 : Int} {a0_2 : Int} {l0_3 : List Int} {a1 : Int} {a2 : Int} {r : Bool} (H : mat_Matrix_in.f a0_0 a0_1 a0_2 l0_3 a1 a2 = some r) : Do E0 (.fn 29 [.a [.i .i64 a0_0, .i .i64 a0_1, .i .i64 a0_2, .r (l0_3.map (V.i .u64)) l0_3.length true], .i .i64 a1, .i .i64 a2] [] (.b r) []) := by
  refine fn_wpl Try.func29 rfl (Q := (mat_Matrix_in.Q a0_0 a0_1 a0_2 l0_3 a1 a2 r)) (fun s h => h) ?_
  unfold mat_Matrix_in.f at H
  simp only [Try.ntmps29, List.length, List.replicate, Nat.reduceAdd, Nat.reduceSub, List.cons_append, List.nil_append]
  refine w_seq ?_
  refine wR fun K hK => ?_
  refine g_box rfl rfl rfl (by rfl) (gU ?_)
  refine g_as rfl rfl (gT ?_)
  refine g_nil (hK _ _ _ ?_)
  refine k_seq ?_
  refine w_seq ?_
  refine wR fun K hK => ?_
  refine g_mv rfl rfl (gT ?_)
  refine g_bin rfl rfl rfl rfl rfl (gT ?_)
  refine g_mv rfl rfl (gT ?_)
  rcases its H with ⟨c1, H⟩ | ⟨c1, H⟩
  · have c1b := decide_eq_true c1; try simp only [c1b, nrm]
    refine g_mv rfl rfl (gT ?_)
    refine g_fd rfl rfl fa25_0 rfl (gT ?_)
    refine g_ldc rfl rfl ag3 sz3 rfl rfl rfl (gT ?_)
    refine g_bin rfl rfl rfl rfl rfl (gT ?_)
    refine g_pick rfl rfl rfl (gT ?_)
    refine g_mv rfl rfl (gT ?_)
    rcases its H with ⟨c2, H⟩ | ⟨c2, H⟩
    · have c2b := decide_eq_true c2; try simp only [c2b, nrm]
      refine g_mv rfl rfl (gT ?_)
      refine g_bin rfl rfl rfl rfl rfl (gT ?_)
      refine g_pick rfl rfl rfl (gT ?_)
      refine g_mv rfl rfl (gT ?_)
      rcases its H with ⟨c3, H⟩ | ⟨c3, H⟩
      · have c3b := decide_eq_true c3; try simp only [c3b, nrm]
        refine g_mv rfl rfl (gT ?_)
        refine g_fd rfl rfl fa25_1 rfl (gT ?_)
        refine g_ldc rfl rfl ag3 sz3 rfl rfl rfl (gT ?_)
        refine g_bin rfl rfl rfl rfl rfl (gT ?_)
        refine g_pick rfl rfl rfl (gT ?_)
        refine g_mv rfl rfl (gT ?_)
        rcases its H with ⟨c4, H⟩ | ⟨c4, H⟩
        · have c4b := decide_eq_true c4; try simp only [c4b, nrm]
          refine g_fd rfl rfl fa25_2 rfl (gT ?_)
          refine g_ldc rfl rfl ag3 sz3 rfl rfl rfl (gT ?_)
          refine g_bin rfl rfl rfl rfl rfl (gT ?_)
          refine g_pick rfl rfl rfl (gT ?_)
          refine g_mv rfl rfl (gT ?_)
          rcases its H with ⟨c5, H⟩ | ⟨c5, H⟩
          · have c5b := decide_eq_true c5; try simp only [c5b, nrm]
            refine g_mv rfl rfl (gT ?_)
            refine g_fd rfl rfl fa25_2 rfl (gT ?_)
            refine g_ldc rfl rfl ag3 sz3 rfl rfl rfl (gT ?_)
            refine g_bin rfl rfl rfl rfl rfl (gT ?_)
            refine g_mv rfl rfl (gT ?_)
            refine g_bin rfl rfl rfl rfl rfl (gT ?_)
            refine g_fd rfl rfl fa25_3 rfl (gT ?_)
            refine g_ldc rfl rfl ag22 sz22 rfl rfl rfl (gT ?_)
            refine g_len_r rfl rfl Try.underlying22 rfl (gT ?_)
            refine g_bin rfl rfl rfl rfl rfl (gT ?_)
            refine g_pick rfl rfl rfl (gT ?_)
            refine g_as rfl rfl (gT ?_)
            refine g_nil (hK _ _ _ ?_)
            refine k_seq ?_
            refine w_ret ?_
            refine fin_wp (τ := []) rfl (by decide) ?_; rw [← Option.some.inj H]; simp only [Try.f29]; exact gF
          · have c5b := decide_eq_false c5; try simp only [c5b, nrm]
            refine g_sk rfl rfl (gT ?_)
            refine g_sk rfl rfl (gT ?_)
            refine g_sk rfl rfl (gT ?_)
            refine g_sk rfl rfl (gT ?_)
            refine g_sk rfl rfl (gT ?_)
            refine g_sk rfl rfl (gT ?_)
            refine g_sk rfl rfl (gT ?_)
            refine g_sk rfl rfl (gT ?_)
            refine g_sk rfl rfl (gT ?_)
            refine g_sk rfl rfl (gT ?_)
            refine g_pick rfl rfl rfl (gT ?_)
            refine g_as rfl rfl (gT ?_)
            refine g_nil (hK _ _ _ ?_)
            refine k_seq ?_
            refine w_ret ?_
            refine fin_wp (τ := []) rfl (by decide) ?_; rw [← Option.some.inj H]; simp only [Try.f29]; exact gF
        · have c4b := decide_eq_false c4; try simp only [c4b, nrm]
          refine g_sk rfl rfl (gT ?_)
          refine g_sk rfl rfl (gT ?_)
          refine g_sk rfl rfl (gT ?_)
          refine g_pick rfl rfl rfl (gT ?_)
          refine g_mv rfl rfl (gT ?_)
          refine g_sk rfl rfl (gT ?_)
          refine g_sk rfl rfl (gT ?_)
          refine g_sk rfl rfl (gT ?_)
          refine g_sk rfl rfl (gT ?_)
          refine g_sk rfl rfl (gT ?_)
          refine g_sk rfl rfl (gT ?_)
          refine g_sk rfl rfl (gT ?_)
          refine g_sk rfl rfl (gT ?_)
          refine g_sk rfl rfl (gT ?_)
          refine g_sk rfl rfl (gT ?_)
          refine g_pick rfl rfl rfl (gT ?_)
          refine g_as rfl rfl (gT ?_)
          refine g_nil (hK _ _ _ ?_)
          refine k_seq ?_
          refine w_ret ?_
          refine fin_wp (τ := []) rfl (by decide) ?_; rw [← Option.some.inj H]; simp only [Try.f29]; exact gF
      · have c3b := decide_eq_false c3; try simp only [c3b, nrm]
        refine g_sk rfl rfl (gT ?_)
        refine g_sk rfl rfl (gT ?_)
        refine g_sk rfl rfl (gT ?_)
        refine g_sk rfl rfl (gT ?_)
        refine g_pick rfl rfl rfl (gT ?_)
        refine g_mv rfl rfl (gT ?_)
        refine g_sk rfl rfl (gT ?_)
        refine g_sk rfl rfl (gT ?_)
        refine g_sk rfl rfl (gT ?_)
        refine g_pick rfl rfl rfl (gT ?_)
        refine g_mv rfl rfl (gT ?_)
        refine g_sk rfl rfl (gT ?_)
        refine g_sk rfl rfl (gT ?_)
        refine g_sk rfl rfl (gT ?_)
        refine g_sk rfl rfl (gT ?_)
        refine g_sk rfl rfl (gT ?_)
        refine g_sk rfl rfl (gT ?_)
        refine g_sk rfl rfl (gT ?_)
        refine g_sk rfl rfl (gT ?_)
        refine g_sk rfl rfl (gT ?_)
        refine g_sk rfl rfl (gT ?_)
        refine g_pick rfl rfl rfl (gT ?_)
        refine g_as rfl rfl (gT ?_)
        refine g_nil (hK _ _ _ ?_)
        refine k_seq ?_
        refine w_ret ?_
        refine fin_wp (τ := []) rfl (by decide) ?_; rw [← Option.some.inj H]; simp only [Try.f29]; exact gF
    · have c2b := decide_eq_false c2; try simp only [c2b, nrm]
      refine g_sk rfl rfl (gT ?_)
      refine g_sk rfl rfl (gT ?_)
      refine g_pick rfl rfl rfl (gT ?_)
      refine g_mv rfl rfl (gT ?_)
      refine g_sk rfl rfl (gT ?_)
      refine g_sk rfl rfl (gT ?_)
      refine g_sk rfl rfl (gT ?_)
      refine g_sk rfl rfl (gT ?_)
      refine g_pick rfl rfl rfl (gT ?_)
      refine g_mv rfl rfl (gT ?_)
      refine g_sk rfl rfl (gT ?_)
      refine g_sk rfl rfl (gT ?_)
      refine g_sk rfl rfl (gT ?_)
      refine g_pick rfl rfl rfl (gT ?_)
      refine g_mv rfl rfl (gT ?_)
      refine g_sk rfl rfl (gT ?_)
      refine g_sk rfl rfl (gT ?_)
      refine g_sk rfl rfl (gT ?_)
      refine g_sk rfl rfl (gT ?_)
      refine g_sk rfl rfl (gT ?_)
      refine g_sk rfl rfl (gT ?_)
      refine g_sk rfl rfl (gT ?_)
      refine g_sk rfl rfl (gT ?_)
      refine g_sk rfl rfl (gT ?_)
      refine g_sk rfl rfl (gT ?_)
      refine g_pick rfl rfl rfl (gT ?_)
      refine g_as rfl rfl (gT ?_)
      refine g_nil (hK _ _ _ ?_)
      refine k_seq ?_
      refine w_ret ?_
      refine fin_wp (τ := []) rfl (by decide) ?_; rw [← Option.some.inj H]; simp only [Try.f29]; exact gF
  · have c1b := decide_eq_false c1; try simp only [c1b, nrm]
    refine g_sk rfl rfl (gT ?_)
    refine g_sk rfl rfl (gT ?_)
    refine g_sk rfl rfl (gT ?_)
    refine g_sk rfl rfl (gT ?_)
    refine g_pick rfl rfl rfl (gT ?_)
    refine g_mv rfl rfl (gT ?_)
    refine g_sk rfl rfl (gT ?_)
    refine g_sk rfl rfl (gT ?_)
    refine g_pick rfl rfl rfl (gT ?_)
    refine g_mv rfl rfl (gT ?_)
    refine g_sk rfl rfl (gT ?_)
    refine g_sk rfl rfl (gT ?_)
    refine g_sk rfl rfl (gT ?_)
    refine g_sk rfl rfl (gT ?_)
    refine g_pick rfl rfl rfl (gT ?_)
    refine g_mv rfl rfl (gT ?_)
    refine g_sk rfl rfl (gT ?_)
    refine g_sk rfl rfl (gT ?_)
    refine g_sk rfl rfl (gT ?_)
    refine g_pick rfl rfl rfl (gT ?_)
    refine g_mv rfl rfl (gT ?_)
    refine g_sk rfl rfl (gT ?_)
    refine g_sk rfl rfl (gT ?_)
    refine g_sk rfl rfl (gT ?_)
    refine g_sk rfl rfl (gT ?_)
    refine g_sk rfl rfl (gT ?_)
    refine g_sk rfl rfl (gT ?_)
    refine g_sk rfl rfl (gT ?_)
    refine g_sk rfl rfl (gT ?_)
    refine g_sk rfl rfl (gT ?_)
    refine g_sk rfl rfl (gT ?_)
    refine g_pick rfl rfl rfl (gT ?_)
    refine g_as rfl rfl (gT ?_)
    refine g_nil (hK _ _ _ ?_)
    refine k_seq ?_
    refine w_ret ?_
    refine fin_wp (τ := []) rfl (by decide) ?_; rw [← Option.some.inj H]; simp only [Try.f29]; exact gF

theorem mat_Matrix_Set.len {a0_0 : Int} {a0_1 : Int} {a0_2 : Int} {l0_3 : List Int} {a1 : Int} {a2 : Int} {a3 : Int} {r : (List Int)} (H : mat_Matrix_Set.f a0_0 a0_1 a0_2 l0_3 a1 a2 a3 = some r) : r.length = l0_3.length := by
  unfold mat_Matrix_Set.f at H
  obtain ⟨q1, hq1, H⟩ := bnd H
  rcases its H with ⟨c2, H⟩ | ⟨c2, H⟩
  · skip
    obtain ⟨c3, H⟩ := it1 H
    obtain ⟨c4, H⟩ := it1 H
    have hr_ := Option.some.inj H; clear H; subst hr_; (repeat' apply And.intro) <;> first | rfl | omega | (simp only [List.length_set, cpy_len]; done) | (simp only [List.length_set, cpy_len]; omega)
  · skip
    have hr_ := Option.some.inj H; clear H; subst hr_; (repeat' apply And.intro) <;> first | rfl | omega | (simp only [List.length_set, cpy_len]; done) | (simp only [List.length_set, cpy_len]; omega)
set_option maxHeartbeats 8000000 in
set_option maxRecDepth 100000 in
theorem mat_Matrix_Set.does {a0_0 : Int} {a0_1 : Int} {a0_2 : Int} {l0_3 : List Int} {a1 : Int} {a2 : Int} {a3 : Int} {r : (List Int)} (H : mat_Matrix_Set.f a0_0 a0_1 a0_2 l0_3 a1 a2 a3 = some r) : Do E0 (.fn 20 [.a [.i .i64 a0_0, .i .i64 a0_1, .i .i64 a0_2, .s (some (0, 0)) l0_3.length], .i .i64 a1, .i .i64 a2, .i .u64 a3] [.row (l0_3.map (V.i .u64)) 2 1 true false none] (.t []) [.row (r.map (V.i .u64)) 2 1 true false none]) := by
  refine fn_wpl Try.func20 rfl (Q := (mat_Matrix_Set.Q a0_0 a0_1 a0_2 l0_3 a1 a2 a3 r)) (fun s h => h) ?_
  unfold mat_Matrix_Set.f at H
  simp only [Try.ntmps20, List.length, List.replicate, Nat.reduceAdd, Nat.reduceSub, List.cons_append, List.nil_append]
  refine w_seq ?_
  refine wR fun K hK => ?_
  refine g_box rfl rfl rfl (by rfl) (gU ?_)
  refine g_nil (hK _ _ _ ?_)
  refine k_seq ?_
  refine w_seq ?_
  refine wR fun K hK => ?_
  refine g_lda rfl rfl ag25 sz25 rfl rfl (Nat.le_of_ble_eq_true rfl) (gT ?_)
  refine g_mv rfl rfl (gT ?_)
  refine g_mv rfl rfl (gT ?_)
  obtain ⟨q1, hq1, H⟩ := bnd H
  refine g_cs [] rfl rfl (by rfl) Try.func29 rfl (by decide) (mat_Matrix_in.does hq1) ⟨Nat.le_of_ble_eq_true rfl, Nat.le_of_ble_eq_true rfl⟩ ?_; refine gC ?_
  refine g_nil (hK _ _ _ ?_)
  refine k_seq ?_
  rcases its H with ⟨c2, H⟩ | ⟨c2, H⟩
  · have c2b : q1 = true := c2; try simp only [c2b, nrm]
    refine w_cond rfl (fun _ => ?_) (fun h => Bool.noConfusion h)
    refine wR fun K hK => ?_
    refine g_fd rfl rfl fa25_3 rfl (gT ?_)
    refine g_ldc rfl rfl ag22 sz22 rfl rfl rfl (gT ?_)
    refine g_mv rfl rfl (gT ?_)
    refine g_fd rfl rfl fa25_2 rfl (gT ?_)
    refine g_ldc rfl rfl ag3 sz3 rfl rfl rfl (gT ?_)
    refine g_bin rfl rfl rfl rfl rfl (gT ?_)
    refine g_mv rfl rfl (gT ?_)
    refine g_bin rfl rfl rfl rfl rfl (gT ?_)
    refine g_mv rfl rfl (gT ?_)
    obtain ⟨c3, H⟩ := it1 H
    obtain ⟨c4, H⟩ := it1 H
    refine g_ixo rfl rfl Try.underlying22 sz35 rfl rfl (by first | assumption | omega) (by first | assumption | omega | (simp only [List.length_set, List.length_replicate] at *; omega)) (gT ?_)
    refine g_st rfl rfl sz35 rfl rfl rfl (by rfl) (by simp only [List.length_map, List.length_set, List.length_replicate]; first | assumption | omega) (gU ?_)
    refine g_nil (hK _ _ _ ?_)
    refine k_nil (.inl rfl) ?_
    refine fin_wp (τ := [0]) rfl (by decide) ?_; rw [← Option.some.inj H]; simp only [Try.f20]; exact gF
  · have c2b : q1 = false := Bool.eq_false_iff.mpr c2; try simp only [c2b, nrm]
    refine w_cond rfl (fun h => Bool.noConfusion h) (fun _ => ?_)
    refine w_skip ?_
    refine k_nil (.inl rfl) ?_
    refine fin_wp (τ := [0]) rfl (by decide) ?_; rw [← Option.some.inj H]; simp only [Try.f20]; exact gF

set_option maxHeartbeats 8000000 in
set_option maxRecDepth 100000 in
theorem mat_Matrix_Check.does_l {a0_0 : Int} {a0_1 : Int} {a0_2 : Int} {l0_3 : List Int} (k : Nat) : (∀ (t_3 : Bool) (h0_0 : Int) (h0_1 : Int) (h0_2 : Int) (h0_3 : List Int) (r : Int), mat_Matrix_Check.j0 k t_3 h0_0 h0_1 h0_2 h0_3 = some r → kont E0 (mat_Matrix_Check.Q a0_0 a0_1 a0_2 l0_3 r) (frs (bodyOf Try.f26) [1, 0, 0, 0] []) .normal ⟨[.u, .p (some (0, 0)), .u, .b t_3, .u, .u, .u, .u, .u, .u, .u, .u, .u, .u, .u, .u, .u, .u, .u, .u, .u, .u, .u, .u, .u, .u, .u, .u, .u, .u, .u, .u, .u, .u, .u, .u, .u, .u, .u, .u, .u, .u, .u, .u, .u, .u, .u, .u, .u, .u, .u, .u, .u, .u, .u, .u, .u], ofL [.row [.i .i64 h0_0, .i .i64 h0_1, .i .i64 h0_2, .r (h0_3.map (V.i .u64)) h0_3.length true] 0 0 true true none], 1, 0⟩) ∧
    (∀ (t_34 : Bool) (h0_0 : Int) (h0_1 : Int) (h0_2 : Int) (h0_3 : List Int) (r : Int), mat_Matrix_Check.j1 k t_34 h0_0 h0_1 h0_2 h0_3 = some r → kont E0 (mat_Matrix_Check.Q a0_0 a0_1 a0_2 l0_3 r) (frs (bodyOf Try.f26) [1, 0, 0, 1, 1, 0] []) .normal ⟨[.u, .p (some (0, 0)), .u, .u, .u, .u, .u, .u, .u, .u, .u, .u, .u, .u, .u, .u, .u, .u, .u, .u, .u, .u, .u, .u, .u, .u, .u, .u, .u, .u, .u, .u, .u, .u, .b t_34, .u, .u, .u, .u, .u, .u, .u, .u, .u, .u, .u, .u, .u, .u, .u, .u, .u, .u, .u, .u, .u, .u], ofL [.row [.i .i64 h0_0, .i .i64 h0_1, .i .i64 h0_2, .r (h0_3.map (V.i .u64)) h0_3.length true] 0 0 true true none], 1, 0⟩) := by
  induction k with
  | zero => exact ⟨fun _ _ _ _ _ r h => by simp [mat_Matrix_Check.j0] at h, fun _ _ _ _ _ r h => by simp [mat_Matrix_Check.j1] at h⟩
  | succ k ih =>
    obtain ⟨ih0, ih1⟩ := ih
    refine ⟨?_, ?_⟩
    · intro t_3 h0_0 h0_1 h0_2 h0_3 r H
      unfold mat_Matrix_Check.j0 at H
      simp only [bodyOf, Try.f26, frs, sub, if_true, if_false, Nat.one_ne_zero]
      refine k_seq ?_
      rcases its H with ⟨c6, H⟩ | ⟨c6, H⟩
      · have c6b : t_3 = true := c6; try simp only [c6b, nrm]
        refine w_cond rfl (fun _ => ?_) (fun h => Bool.noConfusion h)
        refine w_seq ?_
        refine wR fun K hK => ?_
        refine g_as rfl rfl (gT ?_)
        refine g_nil (hK _ _ _ ?_)
        refine k_seq ?_
        refine w_ret ?_
        refine fin_wp (τ := []) rfl (by decide) ?_; rw [← Option.some.inj H]; simp only [Try.f26]; exact gF
      · have c6b : t_3 = false := Bool.eq_false_iff.mpr c6; try simp only [c6b, nrm]
        refine w_cond rfl (fun h => Bool.noConfusion h) (fun _ => ?_)
        refine w_seq ?_
        refine wR fun K hK => ?_
        refine g_fd rfl rfl fa25_0 rfl (gT ?_)
        refine g_ldc rfl rfl ag3 sz3 rfl rfl rfl (gT ?_)
        refine g_bin rfl rfl rfl rfl rfl (gT ?_)
        refine g_mv rfl rfl (gT ?_)
        rcases its H with ⟨c7, H⟩ | ⟨c7, H⟩
        · have c7b := beq_iff_eq.mpr c7; have c7n := bne_eq_false_iff_eq.mpr c7; try simp only [c7b, c7n, nrm]
          refine g_sk rfl rfl (gT ?_)
          refine g_sk rfl rfl (gT ?_)
          refine g_sk rfl rfl (gT ?_)
          refine g_pick rfl rfl rfl (gT ?_)
          refine g_as rfl rfl (gT ?_)
          refine g_nil (hK _ _ _ ?_)
          refine k_wk (σ := [0]) [1, 32] rfl (by decide) rfl ?_; refine gC ?_
          exact gI (ih1 true h0_0 h0_1 h0_2 h0_3 r H)
        · have c7b := beq_eq_false_iff_ne.mpr c7; have c7n := bne_iff_ne.mpr c7; try simp only [c7b, c7n, nrm]
          refine g_fd rfl rfl fa25_1 rfl (gT ?_)
          refine g_ldc rfl rfl ag3 sz3 rfl rfl rfl (gT ?_)
          refine g_bin rfl rfl rfl rfl rfl (gT ?_)
          refine g_pick rfl rfl rfl (gT ?_)
          refine g_as rfl rfl (gT ?_)
          refine g_nil (hK _ _ _ ?_)
          refine k_wk (σ := [0]) [1, 32] rfl (by decide) rfl ?_; refine gC ?_
          exact gI (ih1 (h0_1 == 0) h0_0 h0_1 h0_2 h0_3 r H)
    · intro t_34 h0_0 h0_1 h0_2 h0_3 r H
      unfold mat_Matrix_Check.j1 at H
      simp only [bodyOf, Try.f26, frs, sub, if_true, if_false, Nat.one_ne_zero]
      refine k_seq ?_
      rcases its H with ⟨c8, H⟩ | ⟨c8, H⟩
      · have c8b : t_34 = true := c8; try simp only [c8b, nrm]
        refine w_cond rfl (fun _ => ?_) (fun h => Bool.noConfusion h)
        refine w_seq ?_
        refine wR fun K hK => ?_
        refine g_as rfl rfl (gT ?_)
        refine g_nil (hK _ _ _ ?_)
        refine k_seq ?_
        refine w_ret ?_
        refine fin_wp (τ := []) rfl (by decide) ?_; rw [← Option.some.inj H]; simp only [Try.f26]; exact gF
      · have c8b : t_34 = false := Bool.eq_false_iff.mpr c8; try simp only [c8b, nrm]
        refine w_cond rfl (fun h => Bool.noConfusion h) (fun _ => ?_)
        refine w_seq ?_
        refine wR fun K hK => ?_
        refine g_fd rfl rfl fa25_0 rfl (gT ?_)
        refine g_ldc rfl rfl ag3 sz3 rfl rfl rfl (gT ?_)
        refine g_bin rfl rfl rfl rfl rfl (gT ?_)
        refine g_fd rfl rfl fa25_2 rfl (gT ?_)
        refine g_ldc rfl rfl ag3 sz3 rfl rfl rfl (gT ?_)
        refine g_bin rfl rfl rfl rfl rfl (gT ?_)
        refine g_fd rfl rfl fa25_1 rfl (gT ?_)
        refine g_ldc rfl rfl ag3 sz3 rfl rfl rfl (gT ?_)
        refine g_bin rfl rfl rfl rfl rfl (gT ?_)
        refine g_fd rfl rfl fa25_3 rfl (gT ?_)
        refine g_ldc rfl rfl ag22 sz22 rfl rfl rfl (gT ?_)
        refine g_len_r rfl rfl Try.underlying22 rfl (gT ?_)
        refine g_bin rfl rfl rfl rfl rfl (gT ?_)
        refine g_as rfl rfl (gT ?_)
        refine g_nil (hK _ _ _ ?_)
        refine k_seq ?_
        rcases its H with ⟨c9, H⟩ | ⟨c9, H⟩
        · have c9b := decide_eq_true c9; try simp only [c9b, nrm]
          refine w_cond rfl (fun _ => ?_) (fun h => Bool.noConfusion h)
          refine w_seq ?_
          refine wR fun K hK => ?_
          refine g_as rfl rfl (gT ?_)
          refine g_nil (hK _ _ _ ?_)
          refine k_seq ?_
          refine w_ret ?_
          refine fin_wp (τ := []) rfl (by decide) ?_; rw [← Option.some.inj H]; simp only [Try.f26]; exact gF
        · have c9b := decide_eq_false c9; try simp only [c9b, nrm]
          refine w_cond rfl (fun h => Bool.noConfusion h) (fun _ => ?_)
          refine w_skip ?_
          refine k_block ?_
          refine k_seq ?_
          refine w_seq ?_
          refine wR fun K hK => ?_
          refine g_as rfl rfl (gT ?_)
          refine g_nil (hK _ _ _ ?_)
          refine k_seq ?_
          refine w_ret ?_
          refine fin_wp (τ := []) rfl (by decide) ?_; rw [← Option.some.inj H]; simp only [Try.f26]; exact gF
set_option maxHeartbeats 8000000 in
set_option maxRecDepth 100000 in
theorem mat_Matrix_Check.does {k : Nat} {a0_0 : Int} {a0_1 : Int} {a0_2 : Int} {l0_3 : List Int} {r : Int} (H : mat_Matrix_Check.f k a0_0 a0_1 a0_2 l0_3 = some r) : Do E0 (.fn 26 [.a [.i .i64 a0_0, .i .i64 a0_1, .i .i64 a0_2, .r (l0_3.map (V.i .u64)) l0_3.length true]] [] (.i .i64 r) []) := by
  obtain ⟨ih0, ih1⟩ := mat_Matrix_Check.does_l (a0_0 := a0_0) (a0_1 := a0_1) (a0_2 := a0_2) (l0_3 := l0_3) k
  refine fn_wpl Try.func26 rfl (Q := (mat_Matrix_Check.Q a0_0 a0_1 a0_2 l0_3 r)) (fun s h => h) ?_
  unfold mat_Matrix_Check.f at H
  simp only [Try.ntmps26, List.length, List.replicate, Nat.reduceAdd, Nat.reduceSub, List.cons_append, List.nil_append]
  refine w_seq ?_
  refine wR fun K hK => ?_
  refine g_box rfl rfl rfl (by rfl) (gU ?_)
  refine g_as rfl rfl (gT ?_)
  refine g_nil (hK _ _ _ ?_)
  refine k_seq ?_
  refine w_seq ?_
  refine w_block ?_
  refine w_seq ?_
  refine wR fun K hK => ?_
  refine g_fd rfl rfl fa25_0 rfl (gT ?_)
  refine g_ldc rfl rfl ag3 sz3 rfl rfl rfl (gT ?_)
  refine g_bin rfl rfl rfl rfl rfl (gT ?_)
  refine g_mv rfl rfl (gT ?_)
  rcases its H with ⟨c1, H⟩ | ⟨c1, H⟩
  · have c1b := decide_eq_true c1; try simp only [c1b, nrm]
    refine g_sk rfl rfl (gT ?_)
    refine g_sk rfl rfl (gT ?_)
    refine g_sk rfl rfl (gT ?_)
    refine g_pick rfl rfl rfl (gT ?_)
    refine g_mv rfl rfl (gT ?_)
    refine g_sk rfl rfl (gT ?_)
    refine g_sk rfl rfl (gT ?_)
    refine g_sk rfl rfl (gT ?_)
    refine g_pick rfl rfl rfl (gT ?_)
    refine g_mv rfl rfl (gT ?_)
    refine g_sk rfl rfl (gT ?_)
    refine g_sk rfl rfl (gT ?_)
    refine g_sk rfl rfl (gT ?_)
    refine g_pick rfl rfl rfl (gT ?_)
    refine g_mv rfl rfl (gT ?_)
    refine g_sk rfl rfl (gT ?_)
    refine g_sk rfl rfl (gT ?_)
    refine g_sk rfl rfl (gT ?_)
    refine g_sk rfl rfl (gT ?_)
    refine g_sk rfl rfl (gT ?_)
    refine g_pick rfl rfl rfl (gT ?_)
    refine g_mv rfl rfl (gT ?_)
    refine g_sk rfl rfl (gT ?_)
    refine g_sk rfl rfl (gT ?_)
    refine g_sk rfl rfl (gT ?_)
    refine g_pick rfl rfl rfl (gT ?_)
    refine g_as rfl rfl (gT ?_)
    refine g_nil (hK _ _ _ ?_)
    refine k_wk (σ := [0]) [1, 1] rfl (by decide) rfl ?_; refine gC ?_
    exact gI (ih0 true a0_0 a0_1 a0_2 l0_3 r H)
  · have c1b := decide_eq_false c1; try simp only [c1b, nrm]
    refine g_fd rfl rfl fa25_0 rfl (gT ?_)
    refine g_ldc rfl rfl ag3 sz3 rfl rfl rfl (gT ?_)
    refine g_bin rfl rfl rfl rfl rfl (gT ?_)
    refine g_pick rfl rfl rfl (gT ?_)
    refine g_mv rfl rfl (gT ?_)
    rcases its H with ⟨c2, H⟩ | ⟨c2, H⟩
    · have c2b := decide_eq_true c2; try simp only [c2b, nrm]
      refine g_sk rfl rfl (gT ?_)
      refine g_sk rfl rfl (gT ?_)
      refine g_sk rfl rfl (gT ?_)
      refine g_pick rfl rfl rfl (gT ?_)
      refine g_mv rfl rfl (gT ?_)
      refine g_sk rfl rfl (gT ?_)
      refine g_sk rfl rfl (gT ?_)
      refine g_sk rfl rfl (gT ?_)
      refine g_pick rfl rfl rfl (gT ?_)
      refine g_mv rfl rfl (gT ?_)
      refine g_sk rfl rfl (gT ?_)
      refine g_sk rfl rfl (gT ?_)
      refine g_sk rfl rfl (gT ?_)
      refine g_sk rfl rfl (gT ?_)
      refine g_sk rfl rfl (gT ?_)
      refine g_pick rfl rfl rfl (gT ?_)
      refine g_mv rfl rfl (gT ?_)
      refine g_sk rfl rfl (gT ?_)
      refine g_sk rfl rfl (gT ?_)
      refine g_sk rfl rfl (gT ?_)
      refine g_pick rfl rfl rfl (gT ?_)
      refine g_as rfl rfl (gT ?_)
      refine g_nil (hK _ _ _ ?_)
      refine k_wk (σ := [0]) [1, 1] rfl (by decide) rfl ?_; refine gC ?_
      exact gI (ih0 true a0_0 a0_1 a0_2 l0_3 r H)
    · have c2b := decide_eq_false c2; try simp only [c2b, nrm]
      refine g_fd rfl rfl fa25_1 rfl (gT ?_)
      refine g_ldc rfl rfl ag3 sz3 rfl rfl rfl (gT ?_)
      refine g_bin rfl rfl rfl rfl rfl (gT ?_)
      refine g_pick rfl rfl rfl (gT ?_)
      refine g_mv rfl rfl (gT ?_)
      rcases its H with ⟨c3, H⟩ | ⟨c3, H⟩
      · have c3b := decide_eq_true c3; try simp only [c3b, nrm]
        refine g_sk rfl rfl (gT ?_)
        refine g_sk rfl rfl (gT ?_)
        refine g_sk rfl rfl (gT ?_)
        refine g_pick rfl rfl rfl (gT ?_)
        refine g_mv rfl rfl (gT ?_)
        refine g_sk rfl rfl (gT ?_)
        refine g_sk rfl rfl (gT ?_)
        refine g_sk rfl rfl (gT ?_)
        refine g_sk rfl rfl (gT ?_)
        refine g_sk rfl rfl (gT ?_)
        refine g_pick rfl rfl rfl (gT ?_)
        refine g_mv rfl rfl (gT ?_)
        refine g_sk rfl rfl (gT ?_)
        refine g_sk rfl rfl (gT ?_)
        refine g_sk rfl rfl (gT ?_)
        refine g_pick rfl rfl rfl (gT ?_)
        refine g_as rfl rfl (gT ?_)
        refine g_nil (hK _ _ _ ?_)
        refine k_wk (σ := [0]) [1, 1] rfl (by decide) rfl ?_; refine gC ?_
        exact gI (ih0 true a0_0 a0_1 a0_2 l0_3 r H)
      · have c3b := decide_eq_false c3; try simp only [c3b, nrm]
        refine g_fd rfl rfl fa25_1 rfl (gT ?_)
        refine g_ldc rfl rfl ag3 sz3 rfl rfl rfl (gT ?_)
        refine g_bin rfl rfl rfl rfl rfl (gT ?_)
        refine g_pick rfl rfl rfl (gT ?_)
        refine g_mv rfl rfl (gT ?_)
        rcases its H with ⟨c4, H⟩ | ⟨c4, H⟩
        · have c4b := decide_eq_true c4; try simp only [c4b, nrm]
          refine g_sk rfl rfl (gT ?_)
          refine g_sk rfl rfl (gT ?_)
          refine g_sk rfl rfl (gT ?_)
          refine g_sk rfl rfl (gT ?_)
          refine g_sk rfl rfl (gT ?_)
          refine g_pick rfl rfl rfl (gT ?_)
          refine g_mv rfl rfl (gT ?_)
          refine g_sk rfl rfl (gT ?_)
          refine g_sk rfl rfl (gT ?_)
          refine g_sk rfl rfl (gT ?_)
          refine g_pick rfl rfl rfl (gT ?_)
          refine g_as rfl rfl (gT ?_)
          refine g_nil (hK _ _ _ ?_)
          refine k_wk (σ := [0]) [1, 1] rfl (by decide) rfl ?_; refine gC ?_
          exact gI (ih0 true a0_0 a0_1 a0_2 l0_3 r H)
        · have c4b := decide_eq_false c4; try simp only [c4b, nrm]
          refine g_fd rfl rfl fa25_2 rfl (gT ?_)
          refine g_ldc rfl rfl ag3 sz3 rfl rfl rfl (gT ?_)
          refine g_fd rfl rfl fa25_1 rfl (gT ?_)
          refine g_ldc rfl rfl ag3 sz3 rfl rfl rfl (gT ?_)
          refine g_bin rfl rfl rfl rfl rfl (gT ?_)
          refine g_pick rfl rfl rfl (gT ?_)
          refine g_mv rfl rfl (gT ?_)
          rcases its H with ⟨c5, H⟩ | ⟨c5, H⟩
          · have c5b := decide_eq_true c5; try simp only [c5b, nrm]
            refine g_sk rfl rfl (gT ?_)
            refine g_sk rfl rfl (gT ?_)
            refine g_sk rfl rfl (gT ?_)
            refine g_pick rfl rfl rfl (gT ?_)
            refine g_as rfl rfl (gT ?_)
            refine g_nil (hK _ _ _ ?_)
            refine k_wk (σ := [0]) [1, 1] rfl (by decide) rfl ?_; refine gC ?_
            exact gI (ih0 true a0_0 a0_1 a0_2 l0_3 r H)
          · have c5b := decide_eq_false c5; try simp only [c5b, nrm]
            refine g_fd rfl rfl fa25_2 rfl (gT ?_)
            refine g_ldc rfl rfl ag3 sz3 rfl rfl rfl (gT ?_)
            refine g_bin rfl rfl rfl rfl rfl (gT ?_)
            refine g_pick rfl rfl rfl (gT ?_)
            refine g_as rfl rfl (gT ?_)
            refine g_nil (hK _ _ _ ?_)
            refine k_wk (σ := [0]) [1, 1] rfl (by decide) rfl ?_; refine gC ?_
            exact gI (ih0 (decide (a0_2 > 1099511627776)) a0_0 a0_1 a0_2 l0_3 r H)

set_option maxHeartbeats 8000000 in
set_option maxRecDepth 100000 in
theorem mat_Matrix_At.does {a0_0 : Int} {a0_1 : Int} {a0_2 : Int} {l0_3 : List Int} {a1 : Int} {a2 : Int} {r : Int} (H : mat_Matrix_At.f a0_0 a0_1 a0_2 l0_3 a1 a2 = some r) : Do E0 (.fn 11 [.a [.i .i64 a0_0, .i .i64 a0_1, .i .i64 a0_2, .r (l0_3.map (V.i .u64)) l0_3.length true], .i .i64 a1, .i .i64 a2] [] (.i .u64 r) []) := by
  refine fn_wpl Try.func11 rfl (Q := (mat_Matrix_At.Q a0_0 a0_1 a0_2 l0_3 a1 a2 r)) (fun s h => h) ?_
  unfold mat_Matrix_At.f at H
  simp only [Try.ntmps11, List.length, List.replicate, Nat.reduceAdd, Nat.reduceSub, List.cons_append, List.nil_append]
  refine w_seq ?_
  refine wR fun K hK => ?_
  refine g_box rfl rfl rfl (by rfl) (gU ?_)
  refine g_as rfl rfl (gT ?_)
  refine g_nil (hK _ _ _ ?_)
  refine k_seq ?_
  refine w_seq ?_
  refine w_seq ?_
  refine wR fun K hK => ?_
  refine g_lda rfl rfl ag25 sz25 rfl rfl (Nat.le_of_ble_eq_true rfl) (gT ?_)
  refine g_mv rfl rfl (gT ?_)
  refine g_mv rfl rfl (gT ?_)
  obtain ⟨q1, hq1, H⟩ := bnd H
  refine g_cs [] rfl rfl (by rfl) Try.func29 rfl (by decide) (mat_Matrix_in.does hq1) ⟨Nat.le_of_ble_eq_true rfl, Nat.le_of_ble_eq_true rfl⟩ ?_; refine gC ?_
  refine g_un rfl rfl rfl rfl (gT ?_)
  refine g_nil (hK _ _ _ ?_)
  refine k_seq ?_
  rcases its H with ⟨c2, H⟩ | ⟨c2, H⟩
  · have c2b : q1 = true := c2; try simp only [c2b, nrm]
    refine w_cond rfl (fun h => Bool.noConfusion h) (fun _ => ?_)
    refine w_skip ?_
    refine k_seq ?_
    refine w_seq ?_
    refine wR fun K hK => ?_
    refine g_fd rfl rfl fa25_3 rfl (gT ?_)
    refine g_ldc rfl rfl ag22 sz22 rfl rfl rfl (gT ?_)
    refine g_mv rfl rfl (gT ?_)
    refine g_fd rfl rfl fa25_2 rfl (gT ?_)
    refine g_ldc rfl rfl ag3 sz3 rfl rfl rfl (gT ?_)
    refine g_bin rfl rfl rfl rfl rfl (gT ?_)
    refine g_mv rfl rfl (gT ?_)
    refine g_bin rfl rfl rfl rfl rfl (gT ?_)
    obtain ⟨c3, H⟩ := it1 H
    obtain ⟨c4, H⟩ := it1 H
    refine g_ixr rfl rfl Try.underlying22 sz35 rfl rfl (by first | assumption | omega) (by first | assumption | omega | (simp only [List.length_set, List.length_replicate] at *; omega)) (gT ?_)
    refine g_ldq rfl rfl ag35 sz35 rfl (by first | assumption | omega) (gT ?_)
    refine g_as rfl rfl (gT ?_)
    refine g_nil (hK _ _ _ ?_)
    refine k_seq ?_
    refine w_ret ?_
    refine fin_wp (τ := []) rfl (by decide) ?_; rw [← Option.some.inj H]; simp only [Try.f11]; exact gF
  · have c2b : q1 = false := Bool.eq_false_iff.mpr c2; try simp only [c2b, nrm]
    refine w_cond rfl (fun _ => ?_) (fun h => Bool.noConfusion h)
    refine w_seq ?_
    refine wR fun K hK => ?_
    refine g_as rfl rfl (gT ?_)
    refine g_nil (hK _ _ _ ?_)
    refine k_seq ?_
    refine w_ret ?_
    refine fin_wp (τ := []) rfl (by decide) ?_; rw [← Option.some.inj H]; simp only [Try.f11]; exact gF

set_option maxHeartbeats 8000000 in
set_option maxRecDepth 100000 in
theorem word_Exp.does {a0 : Int} {r : Int} (H : word_Exp.f a0 = some r) : Do E0 (.fn 22 [.i .u64 a0] [] (.i .i64 r) []) := by
  refine fn_wpl Try.func22 rfl (Q := (word_Exp.Q a0 r)) (fun s h => h) ?_
  unfold word_Exp.f at H
  simp only [Try.ntmps22, List.length, List.replicate, Nat.reduceAdd, Nat.reduceSub, List.cons_append, List.nil_append]
  refine w_seq ?_
  refine wR fun K hK => ?_
  refine g_as rfl rfl (gT ?_)
  refine g_nil (hK _ _ _ ?_)
  refine k_seq ?_
  refine w_seq ?_
  refine wR fun K hK => ?_
  refine g_mv rfl rfl (gT ?_)
  refine g_shrc (p := 4503599627370496) rfl rfl rfl rfl (by decide) (by rfl) (gT ?_)
  refine g_bin rfl rfl rfl rfl rfl (gT ?_)
  refine g_conv rfl rfl Try.underlying35 Try.underlying3 rfl (gT ?_)
  refine g_as rfl rfl (gT ?_)
  refine g_nil (hK _ _ _ ?_)
  refine k_seq ?_
  refine w_ret ?_
  refine fin_wp (τ := []) rfl (by decide) ?_; rw [← Option.some.inj H]; simp only [Try.f22]; exact gF

set_option maxHeartbeats 8000000 in
set_option maxRecDepth 100000 in
theorem word_Frac.does {a0 : Int} {r : Int} (H : word_Frac.f a0 = some r) : Do E0 (.fn 41 [.i .u64 a0] [] (.i .u64 r) []) := by
  refine fn_wpl Try.func41 rfl (Q := (word_Frac.Q a0 r)) (fun s h => h) ?_
  unfold word_Frac.f at H
  simp only [Try.ntmps41, List.length, List.replicate, Nat.reduceAdd, Nat.reduceSub, List.cons_append, List.nil_append]
  refine w_seq ?_
  refine wR fun K hK => ?_
  refine g_as rfl rfl (gT ?_)
  refine g_nil (hK _ _ _ ?_)
  refine k_seq ?_
  refine w_seq ?_
  refine wR fun K hK => ?_
  refine g_mv rfl rfl (gT ?_)
  refine g_bin rfl rfl rfl rfl rfl (gT ?_)
  refine g_as rfl rfl (gT ?_)
  refine g_nil (hK _ _ _ ?_)
  refine k_seq ?_
  refine w_ret ?_
  refine fin_wp (τ := []) rfl (by decide) ?_; rw [← Option.some.inj H]; simp only [Try.f41]; exact gF

set_option maxHeartbeats 8000000 in
set_option maxRecDepth 100000 in
theorem word_Kind.does_l {a0 : Int} (k : Nat) : (∀ (e_3 : Int) (f_4 : Int) (t_9 : Bool) (r : Int), word_Kind.j0 k e_3 f_4 t_9 = some r → kont E0 (word_Kind.Q a0 r) (frs (bodyOf Try.f27) [1, 0, 1, 0, 0] []) .normal ⟨[.u, .u, .u, .i .i64 e_3, .i .u64 f_4, .u, .u, .u, .u, .b t_9, .u, .u, .u, .u, .u, .u, .u, .u, .u, .u, .u, .u, .u, .u, .u], ofL [], 0, 0⟩) := by
  induction k with
  | zero => exact fun _ _ _ r h => by simp [word_Kind.j0] at h
  | succ k ih =>
    have ih0 := ih
    refine ?_
    · intro e_3 f_4 t_9 r H
      unfold word_Kind.j0 at H
      simp only [bodyOf, Try.f27, frs, sub, if_true, if_false, Nat.one_ne_zero]
      refine k_seq ?_
      rcases its H with ⟨c4, H⟩ | ⟨c4, H⟩
      · have c4b : t_9 = true := c4; try simp only [c4b, nrm]
        refine w_cond rfl (fun _ => ?_) (fun h => Bool.noConfusion h)
        refine w_seq ?_
        refine wR fun K hK => ?_
        refine g_as rfl rfl (gT ?_)
        refine g_nil (hK _ _ _ ?_)
        refine k_seq ?_
        refine w_ret ?_
        refine fin_wp (τ := []) rfl (by decide) ?_; rw [← Option.some.inj H]; simp only [Try.f27]; exact gF
      · have c4b : t_9 = false := Bool.eq_false_iff.mpr c4; try simp only [c4b, nrm]
        refine w_cond rfl (fun h => Bool.noConfusion h) (fun _ => ?_)
        refine w_seq ?_
        refine wR fun K hK => ?_
        refine g_mv rfl rfl (gT ?_)
        refine g_bin rfl rfl rfl rfl rfl (gT ?_)
        refine g_as rfl rfl (gT ?_)
        refine g_nil (hK _ _ _ ?_)
        refine k_seq ?_
        rcases its H with ⟨c5, H⟩ | ⟨c5, H⟩
        · have c5b := beq_iff_eq.mpr c5; have c5n := bne_eq_false_iff_eq.mpr c5; try simp only [c5b, c5n, nrm]
          refine w_cond rfl (fun _ => ?_) (fun h => Bool.noConfusion h)
          refine w_seq ?_
          refine wR fun K hK => ?_
          refine g_as rfl rfl (gT ?_)
          refine g_nil (hK _ _ _ ?_)
          refine k_seq ?_
          refine w_ret ?_
          refine fin_wp (τ := []) rfl (by decide) ?_; rw [← Option.some.inj H]; simp only [Try.f27]; exact gF
        · have c5b := beq_eq_false_iff_ne.mpr c5; have c5n := bne_iff_ne.mpr c5; try simp only [c5b, c5n, nrm]
          refine w_cond rfl (fun h => Bool.noConfusion h) (fun _ => ?_)
          refine w_seq ?_
          refine wR fun K hK => ?_
          refine g_mv rfl rfl (gT ?_)
          refine g_bin rfl rfl rfl rfl rfl (gT ?_)
          refine g_as rfl rfl (gT ?_)
          refine g_nil (hK _ _ _ ?_)
          refine k_seq ?_
          rcases its H with ⟨c6, H⟩ | ⟨c6, H⟩
          · have c6b := decide_eq_true c6; try simp only [c6b, nrm]
            refine w_cond rfl (fun _ => ?_) (fun h => Bool.noConfusion h)
            refine w_seq ?_
            refine wR fun K hK => ?_
            refine g_as rfl rfl (gT ?_)
            refine g_nil (hK _ _ _ ?_)
            refine k_seq ?_
            refine w_ret ?_
            refine fin_wp (τ := []) rfl (by decide) ?_; rw [← Option.some.inj H]; simp only [Try.f27]; exact gF
          · have c6b := decide_eq_false c6; try simp only [c6b, nrm]
            refine w_cond rfl (fun h => Bool.noConfusion h) (fun _ => ?_)
            refine w_seq ?_
            refine wR fun K hK => ?_
            refine g_mv rfl rfl (gT ?_)
            refine g_bin rfl rfl rfl rfl rfl (gT ?_)
            refine g_as rfl rfl (gT ?_)
            refine g_nil (hK _ _ _ ?_)
            refine k_seq ?_
            rcases its H with ⟨c7, H⟩ | ⟨c7, H⟩
            · have c7b := beq_iff_eq.mpr c7; have c7n := bne_eq_false_iff_eq.mpr c7; try simp only [c7b, c7n, nrm]
              refine w_cond rfl (fun _ => ?_) (fun h => Bool.noConfusion h)
              refine w_seq ?_
              refine wR fun K hK => ?_
              refine g_as rfl rfl (gT ?_)
              refine g_nil (hK _ _ _ ?_)
              refine k_seq ?_
              refine w_ret ?_
              refine fin_wp (τ := []) rfl (by decide) ?_; rw [← Option.some.inj H]; simp only [Try.f27]; exact gF
            · have c7b := beq_eq_false_iff_ne.mpr c7; have c7n := bne_iff_ne.mpr c7; try simp only [c7b, c7n, nrm]
              refine w_cond rfl (fun h => Bool.noConfusion h) (fun _ => ?_)
              refine w_skip ?_
              refine k_block ?_
              refine k_seq ?_
              refine w_seq ?_
              refine wR fun K hK => ?_
              refine g_as rfl rfl (gT ?_)
              refine g_nil (hK _ _ _ ?_)
              refine k_seq ?_
              refine w_ret ?_
              refine fin_wp (τ := []) rfl (by decide) ?_; rw [← Option.some.inj H]; simp only [Try.f27]; exact gF
set_option maxHeartbeats 8000000 in
set_option maxRecDepth 100000 in
theorem word_Kind.does {k : Nat} {a0 : Int} {r : Int} (H : word_Kind.f k a0 = some r) : Do E0 (.fn 27 [.i .u64 a0] [] (.i .i64 r) []) := by
  obtain ih0 := word_Kind.does_l (a0 := a0) k
  refine fn_wpl Try.func27 rfl (Q := (word_Kind.Q a0 r)) (fun s h => h) ?_
  unfold word_Kind.f at H
  simp only [Try.ntmps27, List.length, List.replicate, Nat.reduceAdd, Nat.reduceSub, List.cons_append, List.nil_append]
  refine w_seq ?_
  refine wR fun K hK => ?_
  refine g_as rfl rfl (gT ?_)
  refine g_nil (hK _ _ _ ?_)
  refine k_seq ?_
  refine w_seq ?_
  refine w_seq ?_
  refine wR fun K hK => ?_
  refine g_mv rfl rfl (gT ?_)
  obtain ⟨q1, hq1, H⟩ := bnd H
  refine g_cs [] rfl rfl (by rfl) Try.func22 rfl (by decide) (word_Exp.does hq1) ⟨Nat.le_of_ble_eq_true rfl, Nat.le_of_ble_eq_true rfl⟩ ?_; refine gC ?_
  refine g_mv rfl rfl (gT ?_)
  obtain ⟨q2, hq2, H⟩ := bnd H
  refine g_cs [] rfl rfl (by rfl) Try.func41 rfl (by decide) (word_Frac.does hq2) ⟨Nat.le_of_ble_eq_true rfl, Nat.le_of_ble_eq_true rfl⟩ ?_; refine gC ?_
  refine g_as rfl rfl (gT ?_)
  refine g_as rfl rfl (gT ?_)
  refine g_nil (hK _ _ _ ?_)
  refine k_seq ?_
  refine w_block ?_
  refine w_seq ?_
  refine wR fun K hK => ?_
  refine g_mv rfl rfl (gT ?_)
  refine g_bin rfl rfl rfl rfl rfl (gT ?_)
  refine g_mv rfl rfl (gT ?_)
  rcases its H with ⟨c3, H⟩ | ⟨c3, H⟩
  · have c3b := beq_iff_eq.mpr c3; have c3n := bne_eq_false_iff_eq.mpr c3; try simp only [c3b, c3n, nrm]
    refine g_mv rfl rfl (gT ?_)
    refine g_bin rfl rfl rfl rfl rfl (gT ?_)
    refine g_pick rfl rfl rfl (gT ?_)
    refine g_as rfl rfl (gT ?_)
    refine g_nil (hK _ _ _ ?_)
    refine k_wk (σ := []) [3, 0, 4] rfl (by decide) rfl ?_; refine gC ?_
    exact gI (ih0 q1 q2 (q2 == 0) r H)
  · have c3b := beq_eq_false_iff_ne.mpr c3; have c3n := bne_iff_ne.mpr c3; try simp only [c3b, c3n, nrm]
    refine g_sk rfl rfl (gT ?_)
    refine g_sk rfl rfl (gT ?_)
    refine g_pick rfl rfl rfl (gT ?_)
    refine g_as rfl rfl (gT ?_)
    refine g_nil (hK _ _ _ ?_)
    refine k_wk (σ := []) [3, 0, 4] rfl (by decide) rfl ?_; refine gC ?_
    exact gI (ih0 q1 q2 false r H)

set_option maxHeartbeats 8000000 in
set_option maxRecDepth 100000 in
theorem solve_of.does {r : Unit} (H : solve_of.f  = some r) : Do E0 (.fn 28 [.b true] [] (.a [.f 42 [] []]) []) := by
  refine fn_wpl Try.func28 rfl (Q := (solve_of.Q  r)) (fun s h => h) ?_
  unfold solve_of.f at H
  simp only [Try.ntmps28, List.length, List.replicate, Nat.reduceAdd, Nat.reduceSub, List.cons_append, List.nil_append]
  refine w_seq ?_
  refine wR fun K hK => ?_
  refine g_alloc rfl rfl zr60 (gU ?_)
  refine g_nil (hK _ _ _ ?_)
  refine k_seq ?_
  refine w_seq ?_
  refine w_seq ?_
  refine wR fun K hK => ?_
  refine g_mv rfl rfl (gT ?_)
  refine g_nil (hK _ _ _ ?_)
  refine k_seq ?_
  refine w_cond rfl (fun _ => ?_) (fun h => Bool.noConfusion h)
  refine w_seq ?_
  refine wR fun K hK => ?_
  refine g_bd rfl rfl zr60 Try.underlying60 (pl := [(0, 1)]) (by kernel_rfl) ?_; refine gB ?_
  refine g_st rfl rfl sz60 rfl rfl rfl (by rfl) (Nat.le_of_ble_eq_true rfl) (gU ?_)
  refine g_nil (hK _ _ _ ?_)
  refine k_seq ?_
  refine w_ret ?_
  refine fin_wp (τ := []) rfl (by decide) ?_; simp only [Try.f28, ag60, sz60, nrm, nrmw, nrmc, nrme, nrmo, nrml, nrmb, nrmx, Nat.reduceEqDiff, Nat.reduceBEq, Nat.zero_add, Nat.add_zero, Nat.mul_one, List.length_cons, List.length_nil, List.length_map, List.length_set, List.length_replicate, List.drop_zero, List.drop_succ_cons, List.drop_nil, List.take_zero, List.take_succ_cons, List.take_nil, Nat.le_refl, if_true, if_false, Option.any_none, Option.any_some, List.contains_nil, Bool.not_false, Bool.or_true, Bool.true_or, Bool.or_false, Bool.false_or, Bool.and_true, Bool.true_and, Bool.and_self, reduceCtorEq, beq_self_eq_true, List.map_cons, List.map_nil, List.append_nil, List.nil_append, List.filter_cons, List.filter_nil, List.cons_append, Bool.false_eq_true, true_and, and_true, List.getElem_toArray, List.getElem_cons_zero, List.getElem_cons_succ, Nat.reduceAdd, Nat.reduceMul, Nat.reduceLT, Nat.reduceSub, Nat.reduceLeDiff]; try (first | rfl | exact ⟨rfl, trivial⟩ | exact ⟨rfl, rfl⟩)

set_option maxHeartbeats 8000000 in
set_option maxRecDepth 100000 in
theorem solve_of_1.does {a0 : Int} {a1 : Int} {r : Int × Int} (H : solve_of_1.f a0 a1 = some r) : Do E0 (.fn 42 [.i .i64 a0, .i .i64 a1] [] (.t [.i .i64 r.1, .i .i64 r.2]) []) := by
  refine fn_wpl Try.func42 rfl (Q := (solve_of_1.Q a0 a1 r)) (fun s h => h) ?_
  unfold solve_of_1.f at H
  simp only [Try.ntmps42, List.length, List.replicate, Nat.reduceAdd, Nat.reduceSub, List.cons_append, List.nil_append]
  refine w_seq ?_
  refine wR fun K hK => ?_
  refine g_as rfl rfl (gT ?_)
  refine g_as rfl rfl (gT ?_)
  refine g_nil (hK _ _ _ ?_)
  refine k_seq ?_
  refine w_seq ?_
  refine wR fun K hK => ?_
  refine g_mv rfl rfl (gT ?_)
  refine g_bin rfl rfl rfl rfl rfl (gT ?_)
  refine g_mv rfl rfl (gT ?_)
  refine g_as rfl rfl (gT ?_)
  refine g_as rfl rfl (gT ?_)
  refine g_nil (hK _ _ _ ?_)
  refine k_seq ?_
  refine w_ret ?_
  refine fin_wp (τ := []) rfl (by decide) ?_; rw [← Option.some.inj H]; simp only [Try.f42]; exact gF

set_option maxHeartbeats 8000000 in
set_option maxRecDepth 100000 in
theorem solve_of_v2.does {r : Unit} (H : solve_of_v2.f  = some r) : Do E0 (.fn 28 [.b false] [] (.a [.f 43 [] []]) []) := by
  refine fn_wpl Try.func28 rfl (Q := (solve_of_v2.Q  r)) (fun s h => h) ?_
  unfold solve_of_v2.f at H
  simp only [Try.ntmps28, List.length, List.replicate, Nat.reduceAdd, Nat.reduceSub, List.cons_append, List.nil_append]
  refine w_seq ?_
  refine wR fun K hK => ?_
  refine g_alloc rfl rfl zr60 (gU ?_)
  refine g_nil (hK _ _ _ ?_)
  refine k_seq ?_
  refine w_seq ?_
  refine w_seq ?_
  refine wR fun K hK => ?_
  refine g_mv rfl rfl (gT ?_)
  refine g_nil (hK _ _ _ ?_)
  refine k_seq ?_
  refine w_cond rfl (fun h => Bool.noConfusion h) (fun _ => ?_)
  refine w_skip ?_
  refine k_seq ?_
  refine w_seq ?_
  refine wR fun K hK => ?_
  refine g_bd rfl rfl zr60 Try.underlying60 (pl := [(0, 1)]) (by kernel_rfl) ?_; refine gB ?_
  refine g_st rfl rfl sz60 rfl rfl rfl (by rfl) (Nat.le_of_ble_eq_true rfl) (gU ?_)
  refine g_nil (hK _ _ _ ?_)
  refine k_seq ?_
  refine w_ret ?_
  refine fin_wp (τ := []) rfl (by decide) ?_; simp only [Try.f28, ag60, sz60, nrm, nrmw, nrmc, nrme, nrmo, nrml, nrmb, nrmx, Nat.reduceEqDiff, Nat.reduceBEq, Nat.zero_add, Nat.add_zero, Nat.mul_one, List.length_cons, List.length_nil, List.length_map, List.length_set, List.length_replicate, List.drop_zero, List.drop_succ_cons, List.drop_nil, List.take_zero, List.take_succ_cons, List.take_nil, Nat.le_refl, if_true, if_false, Option.any_none, Option.any_some, List.contains_nil, Bool.not_false, Bool.or_true, Bool.true_or, Bool.or_false, Bool.false_or, Bool.and_true, Bool.true_and, Bool.and_self, reduceCtorEq, beq_self_eq_true, List.map_cons, List.map_nil, List.append_nil, List.nil_append, List.filter_cons, List.filter_nil, List.cons_append, Bool.false_eq_true, true_and, and_true, List.getElem_toArray, List.getElem_cons_zero, List.getElem_cons_succ, Nat.reduceAdd, Nat.reduceMul, Nat.reduceLT, Nat.reduceSub, Nat.reduceLeDiff]; try (first | rfl | exact ⟨rfl, trivial⟩ | exact ⟨rfl, rfl⟩)

set_option maxHeartbeats 8000000 in
set_option maxRecDepth 100000 in
theorem solve_of_2.does {a0 : Int} {a1 : Int} {r : Int × Int} (H : solve_of_2.f a0 a1 = some r) : Do E0 (.fn 43 [.i .i64 a0, .i .i64 a1] [] (.t [.i .i64 r.1, .i .i64 r.2]) []) := by
  refine fn_wpl Try.func43 rfl (Q := (solve_of_2.Q a0 a1 r)) (fun s h => h) ?_
  unfold solve_of_2.f at H
  simp only [Try.ntmps43, List.length, List.replicate, Nat.reduceAdd, Nat.reduceSub, List.cons_append, List.nil_append]
  refine w_seq ?_
  refine wR fun K hK => ?_
  refine g_as rfl rfl (gT ?_)
  refine g_as rfl rfl (gT ?_)
  refine g_nil (hK _ _ _ ?_)
  refine k_seq ?_
  refine w_seq ?_
  refine wR fun K hK => ?_
  refine g_mv rfl rfl (gT ?_)
  refine g_as rfl rfl (gT ?_)
  refine g_as rfl rfl (gT ?_)
  refine g_nil (hK _ _ _ ?_)
  refine k_seq ?_
  refine w_ret ?_
  refine fin_wp (τ := []) rfl (by decide) ?_; rw [← Option.some.inj H]; simp only [Try.f43]; exact gF

set_option maxHeartbeats 8000000 in
set_option maxRecDepth 100000 in
theorem word_Signals.does {k : Nat} {a0 : Int} {r : Bool} (H : word_Signals.f k a0 = some r) : Do E0 (.fn 56 [.i .u64 a0] [] (.b r) []) := by
  refine fn_wpl Try.func56 rfl (Q := (word_Signals.Q a0 r)) (fun s h => h) ?_
  unfold word_Signals.f at H
  simp only [Try.ntmps56, List.length, List.replicate, Nat.reduceAdd, Nat.reduceSub, List.cons_append, List.nil_append]
  refine w_seq ?_
  refine wR fun K hK => ?_
  refine g_as rfl rfl (gT ?_)
  refine g_nil (hK _ _ _ ?_)
  refine k_seq ?_
  refine w_seq ?_
  refine wR fun K hK => ?_
  refine g_mv rfl rfl (gT ?_)
  obtain ⟨q1, hq1, H⟩ := bnd H
  refine g_cs [] rfl rfl (by rfl) Try.func27 rfl (by decide) (word_Kind.does hq1) ⟨Nat.le_of_ble_eq_true rfl, Nat.le_of_ble_eq_true rfl⟩ ?_; refine gC ?_
  refine g_bin rfl rfl rfl rfl rfl (gT ?_)
  refine g_mv rfl rfl (gT ?_)
  rcases its H with ⟨c2, H⟩ | ⟨c2, H⟩
  · have c2b := beq_iff_eq.mpr c2; have c2n := bne_eq_false_iff_eq.mpr c2; try simp only [c2b, c2n, nrm]
    refine g_mv rfl rfl (gT ?_)
    refine g_shrc (p := 2251799813685248) rfl rfl rfl rfl (by decide) (by rfl) (gT ?_)
    refine g_bin rfl rfl rfl rfl rfl (gT ?_)
    refine g_bin rfl rfl rfl rfl rfl (gT ?_)
    refine g_pick rfl rfl rfl (gT ?_)
    refine g_as rfl rfl (gT ?_)
    refine g_nil (hK _ _ _ ?_)
    refine k_seq ?_
    refine w_ret ?_
    refine fin_wp (τ := []) rfl (by decide) ?_; rw [← Option.some.inj H]; simp only [Try.f56]; exact gF
  · have c2b := beq_eq_false_iff_ne.mpr c2; have c2n := bne_iff_ne.mpr c2; try simp only [c2b, c2n, nrm]
    refine g_sk rfl rfl (gT ?_)
    refine g_sk rfl rfl (gT ?_)
    refine g_sk rfl rfl (gT ?_)
    refine g_sk rfl rfl (gT ?_)
    refine g_pick rfl rfl rfl (gT ?_)
    refine g_as rfl rfl (gT ?_)
    refine g_nil (hK _ _ _ ?_)
    refine k_seq ?_
    refine w_ret ?_
    refine fin_wp (τ := []) rfl (by decide) ?_; rw [← Option.some.inj H]; simp only [Try.f56]; exact gF

set_option maxHeartbeats 8000000 in
set_option maxRecDepth 100000 in
theorem soft_nan.does_l {l0 : List Int} (k : Nat) : (∀ (f_5 : Int) (is_6 : Bool) (t_9 : List Int) (t_10 : Int) (t_11 : Int) (r : Int × Int × Bool), soft_nan.l0 k f_5 is_6 t_9 t_10 t_11 = some r → wk_ E0 (soft_nan.Q l0 r) (frs (bodyOf Try.f45) [1, 1, 1, 0, 1, 0] []) (sub (bodyOf Try.f45) [1, 1, 1, 0, 1, 0]) ⟨[.u, .u, .u, .u, .u, .i .u8 f_5, .b is_6, .u, .u, .r (t_9.map (V.i .u64)) t_9.length true, .i .i64 t_10, .i .i64 t_11, .u, .u, .u, .u, .u, .u, .u, .u, .u, .u, .u], ofL [], 0, 0⟩) := by
  induction k with
  | zero => exact fun _ _ _ _ _ r h => by simp [soft_nan.l0] at h
  | succ k ih =>
    have ih0 := ih
    refine ?_
    · intro f_5 is_6 t_9 t_10 t_11 r H
      unfold soft_nan.l0 at H
      simp only [bodyOf, Try.f45, frs, sub, if_true, if_false, Nat.one_ne_zero]
      refine w_loop ?_
      refine w_seq ?_
      refine wR fun K hK => ?_
      refine g_bin rfl rfl rfl rfl rfl (gT ?_)
      refine g_nil (hK _ _ _ ?_)
      refine k_seq ?_
      refine w_seq ?_
      rcases its H with ⟨c1, H⟩ | ⟨c1, H⟩
      · have c1b := decide_eq_true c1; try simp only [c1b, nrm]
        refine w_cond rfl (fun _ => ?_) (fun h => Bool.noConfusion h)
        refine w_skip ?_
        refine k_seq ?_
        refine w_seq ?_
        refine w_block ?_
        refine w_seq ?_
        refine wR fun K hK => ?_
        obtain ⟨c2, H⟩ := it1 H
        obtain ⟨c3, H⟩ := it1 H
        refine g_ixr rfl rfl Try.underlying22 sz35 rfl rfl (by first | assumption | omega) (by first | assumption | omega | (simp only [List.length_set, List.length_replicate] at *; omega)) (gT ?_)
        refine g_ldq rfl rfl ag35 sz35 rfl (by first | assumption | omega) (gT ?_)
        refine g_as rfl rfl (gT ?_)
        refine g_nil (hK _ _ _ ?_)
        refine k_seq ?_
        refine w_seq ?_
        refine wR fun K hK => ?_
        refine g_mv rfl rfl (gT ?_)
        obtain ⟨q4, hq4, H⟩ := bnd H
        refine g_cs [] rfl rfl (by rfl) Try.func27 rfl (by decide) (word_Kind.does hq4) ⟨Nat.le_of_ble_eq_true rfl, Nat.le_of_ble_eq_true rfl⟩ ?_; refine gC ?_
        refine g_bin rfl rfl rfl rfl rfl (gT ?_)
        refine g_nil (hK _ _ _ ?_)
        refine k_seq ?_
        rcases its H with ⟨c5, H⟩ | ⟨c5, H⟩
        · have c5b := beq_iff_eq.mpr c5; have c5n := bne_eq_false_iff_eq.mpr c5; try simp only [c5b, c5n, nrm]
          refine w_cond rfl (fun _ => ?_) (fun h => Bool.noConfusion h)
          refine w_seq ?_
          refine wR fun K hK => ?_
          refine g_as rfl rfl (gT ?_)
          refine g_nil (hK _ _ _ ?_)
          refine k_seq ?_
          refine w_seq ?_
          refine wR fun K hK => ?_
          refine g_mv rfl rfl (gT ?_)
          obtain ⟨q6, hq6, H⟩ := bnd H
          refine g_cs [] rfl rfl (by rfl) Try.func56 rfl (by decide) (word_Signals.does hq6) ⟨Nat.le_of_ble_eq_true rfl, Nat.le_of_ble_eq_true rfl⟩ ?_; refine gC ?_
          refine g_nil (hK _ _ _ ?_)
          refine k_seq ?_
          rcases its H with ⟨c7, H⟩ | ⟨c7, H⟩
          · have c7b : q6 = true := c7; try simp only [c7b, nrm]
            refine w_cond rfl (fun _ => ?_) (fun h => Bool.noConfusion h)
            refine wR fun K hK => ?_
            refine g_as rfl rfl (gT ?_)
            refine g_nil (hK _ _ _ ?_)
            refine k_block ?_
            refine k_seq ?_
            refine wR fun K hK => ?_
            refine g_bin rfl rfl rfl rfl rfl (gT ?_)
            refine g_mv rfl rfl (gT ?_)
            refine g_nil (hK _ _ _ ?_)
            refine k_loop ?_
            refine w_wk (σ := []) [5, 0, 2, 0, 0] rfl (by decide) ?_; refine gC ?_
            exact gI (ih0 16 true t_9 t_10 (wrap64 (t_11 + 1)) r H)
          · have c7b : q6 = false := Bool.eq_false_iff.mpr c7; try simp only [c7b, nrm]
            refine w_cond rfl (fun h => Bool.noConfusion h) (fun _ => ?_)
            refine w_skip ?_
            refine k_block ?_
            refine k_seq ?_
            refine wR fun K hK => ?_
            refine g_bin rfl rfl rfl rfl rfl (gT ?_)
            refine g_mv rfl rfl (gT ?_)
            refine g_nil (hK _ _ _ ?_)
            refine k_loop ?_
            refine w_wk (σ := []) [5, 0, 2, 0, 0] rfl (by decide) ?_; refine gC ?_
            exact gI (ih0 f_5 true t_9 t_10 (wrap64 (t_11 + 1)) r H)
        · have c5b := beq_eq_false_iff_ne.mpr c5; have c5n := bne_iff_ne.mpr c5; try simp only [c5b, c5n, nrm]
          refine w_cond rfl (fun h => Bool.noConfusion h) (fun _ => ?_)
          refine w_skip ?_
          refine k_block ?_
          refine k_seq ?_
          refine wR fun K hK => ?_
          refine g_bin rfl rfl rfl rfl rfl (gT ?_)
          refine g_mv rfl rfl (gT ?_)
          refine g_nil (hK _ _ _ ?_)
          refine k_loop ?_
          refine w_wk (σ := []) [5, 0, 2, 0, 0] rfl (by decide) ?_; refine gC ?_
          exact gI (ih0 f_5 is_6 t_9 t_10 (wrap64 (t_11 + 1)) r H)
      · have c1b := decide_eq_false c1; try simp only [c1b, nrm]
        refine w_cond rfl (fun h => Bool.noConfusion h) (fun _ => ?_)
        refine w_exit rfl ?_
        refine k_seq ?_
        refine w_seq ?_
        refine wR fun K hK => ?_
        refine g_mv rfl rfl (gT ?_)
        refine g_mv rfl rfl (gT ?_)
        refine g_as rfl rfl (gT ?_)
        refine g_as rfl rfl (gT ?_)
        refine g_as rfl rfl (gT ?_)
        refine g_nil (hK _ _ _ ?_)
        refine k_seq ?_
        refine w_ret ?_
        refine fin_wp (τ := []) rfl (by decide) ?_; rw [← Option.some.inj H]; simp only [Try.f45]; exact gF
set_option maxHeartbeats 8000000 in
set_option maxRecDepth 100000 in
theorem soft_nan.does {k : Nat} {l0 : List Int} {r : Int × Int × Bool} (H : soft_nan.f k l0 = some r) : Do E0 (.fn 45 [.r (l0.map (V.i .u64)) l0.length true] [] (.t [.i .u64 r.1, .i .u8 r.2.1, .b r.2.2]) []) := by
  obtain ih0 := soft_nan.does_l (l0 := l0) k
  refine fn_wpl Try.func45 rfl (Q := (soft_nan.Q l0 r)) (fun s h => h) ?_
  unfold soft_nan.f at H
  simp only [Try.ntmps45, List.length, List.replicate, Nat.reduceAdd, Nat.reduceSub, List.cons_append, List.nil_append]
  refine w_seq ?_
  refine wR fun K hK => ?_
  refine g_as rfl rfl (gT ?_)
  refine g_as rfl rfl (gT ?_)
  refine g_as rfl rfl (gT ?_)
  refine g_nil (hK _ _ _ ?_)
  refine k_seq ?_
  refine w_seq ?_
  refine wR fun K hK => ?_
  refine g_as rfl rfl (gT ?_)
  refine g_nil (hK _ _ _ ?_)
  refine k_seq ?_
  refine w_seq ?_
  refine wR fun K hK => ?_
  refine g_as rfl rfl (gT ?_)
  refine g_nil (hK _ _ _ ?_)
  refine k_seq ?_
  refine w_seq ?_
  refine w_seq ?_
  refine wR fun K hK => ?_
  refine g_mv rfl rfl (gT ?_)
  refine g_len_r rfl rfl Try.underlying22 rfl (gT ?_)
  refine g_mv rfl rfl (gT ?_)
  refine g_nil (hK _ _ _ ?_)
  refine k_seq ?_
  refine w_block ?_
  refine w_wk (σ := []) [5, 0, 2, 0, 0] rfl (by decide) ?_; refine gC ?_
  exact gI (ih0 0 false l0 (l0.length : Int) 0 r H)

set_option maxHeartbeats 8000000 in
set_option maxRecDepth 100000 in
theorem word_Neg.does {a0 : Int} {r : Bool} (H : word_Neg.f a0 = some r) : Do E0 (.fn 39 [.i .u64 a0] [] (.b r) []) := by
  refine fn_wpl Try.func39 rfl (Q := (word_Neg.Q a0 r)) (fun s h => h) ?_
  unfold word_Neg.f at H
  simp only [Try.ntmps39, List.length, List.replicate, Nat.reduceAdd, Nat.reduceSub, List.cons_append, List.nil_append]
  refine w_seq ?_
  refine wR fun K hK => ?_
  refine g_as rfl rfl (gT ?_)
  refine g_nil (hK _ _ _ ?_)
  refine k_seq ?_
  refine w_seq ?_
  refine wR fun K hK => ?_
  refine g_mv rfl rfl (gT ?_)
  refine g_shrc (p := 9223372036854775808) rfl rfl rfl rfl (by decide) (by rfl) (gT ?_)
  refine g_bin rfl rfl rfl rfl rfl (gT ?_)
  refine g_as rfl rfl (gT ?_)
  refine g_nil (hK _ _ _ ?_)
  refine k_seq ?_
  refine w_ret ?_
  refine fin_wp (τ := []) rfl (by decide) ?_; rw [← Option.some.inj H]; simp only [Try.f39]; exact gF

set_option maxHeartbeats 8000000 in
set_option maxRecDepth 100000 in
theorem word_Make.does {a0 : Bool} {a1 : Int} {a2 : Int} {r : Int} (H : word_Make.f a0 a1 a2 = some r) : Do E0 (.fn 46 [.b a0, .i .i64 a1, .i .u64 a2] [] (.i .u64 r) []) := by
  refine fn_wpl Try.func46 rfl (Q := (word_Make.Q a0 a1 a2 r)) (fun s h => h) ?_
  unfold word_Make.f at H
  simp only [Try.ntmps46, List.length, List.replicate, Nat.reduceAdd, Nat.reduceSub, List.cons_append, List.nil_append]
  refine w_seq ?_
  refine wR fun K hK => ?_
  refine g_as rfl rfl (gT ?_)
  refine g_nil (hK _ _ _ ?_)
  refine k_seq ?_
  refine w_seq ?_
  refine wR fun K hK => ?_
  refine g_mv rfl rfl (gT ?_)
  refine g_conv rfl rfl Try.underlying3 Try.underlying35 rfl (gT ?_)
  refine g_bin rfl rfl rfl rfl rfl (gT ?_)
  refine g_shlc (p := 4503599627370496) rfl rfl rfl rfl (by decide) (by rfl) (gT ?_)
  refine g_mv rfl rfl (gT ?_)
  refine g_bin rfl rfl rfl rfl rfl (gT ?_)
  refine g_bin rfl rfl rfl rfl rfl (gT ?_)
  refine g_as rfl rfl (gT ?_)
  refine g_nil (hK _ _ _ ?_)
  refine k_seq ?_
  refine w_seq ?_
  refine w_seq ?_
  refine wR fun K hK => ?_
  refine g_mv rfl rfl (gT ?_)
  refine g_nil (hK _ _ _ ?_)
  refine k_seq ?_
  rcases its H with ⟨c1, H⟩ | ⟨c1, H⟩
  · have c1b : a0 = true := c1; try simp only [c1b, nrm]
    refine w_cond rfl (fun _ => ?_) (fun h => Bool.noConfusion h)
    refine wR fun K hK => ?_
    refine g_mv rfl rfl (gT ?_)
    refine g_bin rfl rfl rfl rfl rfl (gT ?_)
    refine g_as rfl rfl (gT ?_)
    refine g_nil (hK _ _ _ ?_)
    refine k_seq ?_
    refine w_seq ?_
    refine wR fun K hK => ?_
    refine g_mv rfl rfl (gT ?_)
    refine g_as rfl rfl (gT ?_)
    refine g_nil (hK _ _ _ ?_)
    refine k_seq ?_
    refine w_ret ?_
    refine fin_wp (τ := []) rfl (by decide) ?_; rw [← Option.some.inj H]; simp only [Try.f46]; exact gF
  · have c1b : a0 = false := Bool.eq_false_iff.mpr c1; try simp only [c1b, nrm]
    refine w_cond rfl (fun h => Bool.noConfusion h) (fun _ => ?_)
    refine w_skip ?_
    refine k_seq ?_
    refine w_seq ?_
    refine wR fun K hK => ?_
    refine g_mv rfl rfl (gT ?_)
    refine g_as rfl rfl (gT ?_)
    refine g_nil (hK _ _ _ ?_)
    refine k_seq ?_
    refine w_ret ?_
    refine fin_wp (τ := []) rfl (by decide) ?_; rw [← Option.some.inj H]; simp only [Try.f46]; exact gF

set_option maxHeartbeats 8000000 in
set_option maxRecDepth 100000 in
theorem word_Parts.does {k : Nat} {a0 : Int} {r : Int × Int} (H : word_Parts.f k a0 = some r) : Do E0 (.fn 47 [.i .u64 a0] [] (.t [.i .u64 r.1, .i .i64 r.2]) []) := by
  refine fn_wpl Try.func47 rfl (Q := (word_Parts.Q a0 r)) (fun s h => h) ?_
  unfold word_Parts.f at H
  simp only [Try.ntmps47, List.length, List.replicate, Nat.reduceAdd, Nat.reduceSub, List.cons_append, List.nil_append]
  refine w_seq ?_
  refine wR fun K hK => ?_
  refine g_as rfl rfl (gT ?_)
  refine g_as rfl rfl (gT ?_)
  refine g_nil (hK _ _ _ ?_)
  refine k_seq ?_
  refine w_seq ?_
  refine w_seq ?_
  refine wR fun K hK => ?_
  refine g_mv rfl rfl (gT ?_)
  obtain ⟨q1, hq1, H⟩ := bnd H
  refine g_cs [] rfl rfl (by rfl) Try.func27 rfl (by decide) (word_Kind.does hq1) ⟨Nat.le_of_ble_eq_true rfl, Nat.le_of_ble_eq_true rfl⟩ ?_; refine gC ?_
  refine g_nil (hK _ _ _ ?_)
  refine k_seq ?_
  refine w_block ?_
  refine w_seq ?_
  refine wR fun K hK => ?_
  refine g_bin rfl rfl rfl rfl rfl (gT ?_)
  refine g_as rfl rfl (gT ?_)
  refine g_nil (hK _ _ _ ?_)
  refine k_seq ?_
  rcases its H with ⟨c2, H⟩ | ⟨c2, H⟩
  · have c2b := beq_iff_eq.mpr c2; have c2n := bne_eq_false_iff_eq.mpr c2; try simp only [c2b, c2n, nrm]
    refine w_cond rfl (fun _ => ?_) (fun h => Bool.noConfusion h)
    refine w_seq ?_
    refine wR fun K hK => ?_
    refine g_mv rfl rfl (gT ?_)
    obtain ⟨q3, hq3, H⟩ := bnd H
    refine g_cs [] rfl rfl (by rfl) Try.func41 rfl (by decide) (word_Frac.does hq3) ⟨Nat.le_of_ble_eq_true rfl, Nat.le_of_ble_eq_true rfl⟩ ?_; refine gC ?_
    refine g_as rfl rfl (gT ?_)
    refine g_as rfl rfl (gT ?_)
    refine g_nil (hK _ _ _ ?_)
    refine k_seq ?_
    refine w_ret ?_
    refine fin_wp (τ := []) rfl (by decide) ?_; rw [← Option.some.inj H]; simp only [Try.f47]; exact gF
  · have c2b := beq_eq_false_iff_ne.mpr c2; have c2n := bne_iff_ne.mpr c2; try simp only [c2b, c2n, nrm]
    refine w_cond rfl (fun h => Bool.noConfusion h) (fun _ => ?_)
    refine w_seq ?_
    refine wR fun K hK => ?_
    refine g_bin rfl rfl rfl rfl rfl (gT ?_)
    refine g_as rfl rfl (gT ?_)
    refine g_nil (hK _ _ _ ?_)
    refine k_seq ?_
    rcases its H with ⟨c4, H⟩ | ⟨c4, H⟩
    · have c4b := beq_iff_eq.mpr c4; have c4n := bne_eq_false_iff_eq.mpr c4; try simp only [c4b, c4n, nrm]
      refine w_cond rfl (fun _ => ?_) (fun h => Bool.noConfusion h)
      refine w_seq ?_
      refine wR fun K hK => ?_
      refine g_mv rfl rfl (gT ?_)
      obtain ⟨q5, hq5, H⟩ := bnd H
      refine g_cs [] rfl rfl (by rfl) Try.func41 rfl (by decide) (word_Frac.does hq5) ⟨Nat.le_of_ble_eq_true rfl, Nat.le_of_ble_eq_true rfl⟩ ?_; refine gC ?_
      refine g_bin rfl rfl rfl rfl rfl (gT ?_)
      refine g_mv rfl rfl (gT ?_)
      obtain ⟨q6, hq6, H⟩ := bnd H
      refine g_cs [] rfl rfl (by rfl) Try.func22 rfl (by decide) (word_Exp.does hq6) ⟨Nat.le_of_ble_eq_true rfl, Nat.le_of_ble_eq_true rfl⟩ ?_; refine gC ?_
      refine g_bin rfl rfl rfl rfl rfl (gT ?_)
      refine g_as rfl rfl (gT ?_)
      refine g_as rfl rfl (gT ?_)
      refine g_nil (hK _ _ _ ?_)
      refine k_seq ?_
      refine w_ret ?_
      refine fin_wp (τ := []) rfl (by decide) ?_; rw [← Option.some.inj H]; simp only [Try.f47]; exact gF
    · have c4b := beq_eq_false_iff_ne.mpr c4; have c4n := bne_iff_ne.mpr c4; try simp only [c4b, c4n, nrm]
      refine w_cond rfl (fun h => Bool.noConfusion h) (fun _ => ?_)
      refine w_skip ?_
      refine k_block ?_
      refine k_seq ?_
      refine w_seq ?_
      refine wR fun K hK => ?_
      refine g_as rfl rfl (gT ?_)
      refine g_as rfl rfl (gT ?_)
      refine g_nil (hK _ _ _ ?_)
      refine k_seq ?_
      refine w_ret ?_
      refine fin_wp (τ := []) rfl (by decide) ?_; rw [← Option.some.inj H]; simp only [Try.f47]; exact gF

set_option maxHeartbeats 8000000 in
set_option maxRecDepth 100000 in
theorem bits_Mul64.does {a0 : Int} {a1 : Int} {r : Int × Int} (H : bits_Mul64.f a0 a1 = some r) : Do E0 (.fn 57 [.i .u64 a0, .i .u64 a1] [] (.t [.i .u64 r.1, .i .u64 r.2]) []) := by
  refine fn_wpl Try.func57 rfl (Q := (bits_Mul64.Q a0 a1 r)) (fun s h => h) ?_
  unfold bits_Mul64.f at H
  simp only [Try.ntmps57, List.length, List.replicate, Nat.reduceAdd, Nat.reduceSub, List.cons_append, List.nil_append]
  refine w_seq ?_
  refine wR fun K hK => ?_
  refine g_as rfl rfl (gT ?_)
  refine g_as rfl rfl (gT ?_)
  refine g_nil (hK _ _ _ ?_)
  refine k_seq ?_
  refine w_seq ?_
  refine wR fun K hK => ?_
  refine g_mv rfl rfl (gT ?_)
  refine g_bin rfl rfl rfl rfl rfl (gT ?_)
  refine g_as rfl rfl (gT ?_)
  refine g_nil (hK _ _ _ ?_)
  refine k_seq ?_
  refine w_seq ?_
  refine wR fun K hK => ?_
  refine g_mv rfl rfl (gT ?_)
  refine g_shrc (p := 4294967296) rfl rfl rfl rfl (by decide) (by rfl) (gT ?_)
  refine g_as rfl rfl (gT ?_)
  refine g_nil (hK _ _ _ ?_)
  refine k_seq ?_
  refine w_seq ?_
  refine wR fun K hK => ?_
  refine g_mv rfl rfl (gT ?_)
  refine g_bin rfl rfl rfl rfl rfl (gT ?_)
  refine g_as rfl rfl (gT ?_)
  refine g_nil (hK _ _ _ ?_)
  refine k_seq ?_
  refine w_seq ?_
  refine wR fun K hK => ?_
  refine g_mv rfl rfl (gT ?_)
  refine g_shrc (p := 4294967296) rfl rfl rfl rfl (by decide) (by rfl) (gT ?_)
  refine g_as rfl rfl (gT ?_)
  refine g_nil (hK _ _ _ ?_)
  refine k_seq ?_
  refine w_seq ?_
  refine wR fun K hK => ?_
  refine g_mv rfl rfl (gT ?_)
  refine g_mv rfl rfl (gT ?_)
  refine g_bin rfl rfl rfl rfl rfl (gT ?_)
  refine g_as rfl rfl (gT ?_)
  refine g_nil (hK _ _ _ ?_)
  refine k_seq ?_
  refine w_seq ?_
  refine wR fun K hK => ?_
  refine g_mv rfl rfl (gT ?_)
  refine g_mv rfl rfl (gT ?_)
  refine g_bin rfl rfl rfl rfl rfl (gT ?_)
  refine g_mv rfl rfl (gT ?_)
  refine g_shrc (p := 4294967296) rfl rfl rfl rfl (by decide) (by rfl) (gT ?_)
  refine g_bin rfl rfl rfl rfl rfl (gT ?_)
  refine g_as rfl rfl (gT ?_)
  refine g_nil (hK _ _ _ ?_)
  refine k_seq ?_
  refine w_seq ?_
  refine wR fun K hK => ?_
  refine g_mv rfl rfl (gT ?_)
  refine g_bin rfl rfl rfl rfl rfl (gT ?_)
  refine g_as rfl rfl (gT ?_)
  refine g_nil (hK _ _ _ ?_)
  refine k_seq ?_
  refine w_seq ?_
  refine wR fun K hK => ?_
  refine g_mv rfl rfl (gT ?_)
  refine g_shrc (p := 4294967296) rfl rfl rfl rfl (by decide) (by rfl) (gT ?_)
  refine g_as rfl rfl (gT ?_)
  refine g_nil (hK _ _ _ ?_)
  refine k_seq ?_
  refine w_seq ?_
  refine wR fun K hK => ?_
  refine g_mv rfl rfl (gT ?_)
  refine g_mv rfl rfl (gT ?_)
  refine g_mv rfl rfl (gT ?_)
  refine g_bin rfl rfl rfl rfl rfl (gT ?_)
  refine g_bin rfl rfl rfl rfl rfl (gT ?_)
  refine g_as rfl rfl (gT ?_)
  refine g_nil (hK _ _ _ ?_)
  refine k_seq ?_
  refine w_seq ?_
  refine wR fun K hK => ?_
  refine g_mv rfl rfl (gT ?_)
  refine g_mv rfl rfl (gT ?_)
  refine g_bin rfl rfl rfl rfl rfl (gT ?_)
  refine g_mv rfl rfl (gT ?_)
  refine g_bin rfl rfl rfl rfl rfl (gT ?_)
  refine g_mv rfl rfl (gT ?_)
  refine g_shrc (p := 4294967296) rfl rfl rfl rfl (by decide) (by rfl) (gT ?_)
  refine g_bin rfl rfl rfl rfl rfl (gT ?_)
  refine g_as rfl rfl (gT ?_)
  refine g_nil (hK _ _ _ ?_)
  refine k_seq ?_
  refine w_seq ?_
  refine wR fun K hK => ?_
  refine g_mv rfl rfl (gT ?_)
  refine g_mv rfl rfl (gT ?_)
  refine g_bin rfl rfl rfl rfl rfl (gT ?_)
  refine g_as rfl rfl (gT ?_)
  refine g_nil (hK _ _ _ ?_)
  refine k_seq ?_
  refine w_ret ?_
  refine fin_wp (τ := []) rfl (by decide) ?_; rw [← Option.some.inj H]; simp only [Try.f57]; exact gF

set_option maxHeartbeats 8000000 in
set_option maxRecDepth 100000 in
theorem wide_Mul.does {a0 : Int} {a1 : Int} {r : Int × Int} (H : wide_Mul.f a0 a1 = some r) : Do E0 (.fn 48 [.i .u64 a0, .i .u64 a1] [] (.a [.i .u64 r.1, .i .u64 r.2]) []) := by
  refine fn_wpl Try.func48 rfl (Q := (wide_Mul.Q a0 a1 r)) (fun s h => h) ?_
  unfold wide_Mul.f at H
  simp only [Try.ntmps48, List.length, List.replicate, Nat.reduceAdd, Nat.reduceSub, List.cons_append, List.nil_append]
  refine w_seq ?_
  refine wR fun K hK => ?_
  refine g_alloc rfl rfl zr67 (gU ?_)
  refine g_nil (hK _ _ _ ?_)
  refine k_seq ?_
  refine w_seq ?_
  refine wR fun K hK => ?_
  refine g_mv rfl rfl (gT ?_)
  refine g_mv rfl rfl (gT ?_)
  obtain ⟨q1, hq1, H⟩ := bnd H
  refine g_cs [] rfl rfl (by rfl) Try.func57 rfl (by decide) (bits_Mul64.does hq1) ⟨Nat.le_of_ble_eq_true rfl, Nat.le_of_ble_eq_true rfl⟩ ?_; refine gC ?_
  refine g_mv rfl rfl (gT ?_)
  refine g_ext rfl rfl rfl (Nat.le_of_ble_eq_true rfl) (gT ?_)
  refine g_ext rfl rfl rfl (Nat.le_of_ble_eq_true rfl) (gT ?_)
  refine g_as rfl rfl (gT ?_)
  refine g_as rfl rfl (gT ?_)
  refine g_nil (hK _ _ _ ?_)
  refine k_seq ?_
  refine w_seq ?_
  refine wR fun K hK => ?_
  refine g_mv rfl rfl (gT ?_)
  refine g_mv rfl rfl (gT ?_)
  refine g_bd rfl rfl zr67 Try.underlying67 (pl := [(0, 1), (1, 1)]) (by kernel_rfl) ?_; refine gB ?_
  refine g_st rfl rfl sz67 rfl rfl rfl (by rfl) (Nat.le_of_ble_eq_true rfl) (gU ?_)
  refine g_nil (hK _ _ _ ?_)
  refine k_seq ?_
  refine w_ret ?_
  refine fin_wp (τ := []) rfl (by decide) ?_; rw [← Option.some.inj H]; simp only [Try.f48, ag67, sz67, nrm, nrmw, nrmc, nrme, nrmo, nrml, nrmb, nrmx, Nat.reduceEqDiff, Nat.reduceBEq, Nat.zero_add, Nat.add_zero, Nat.mul_one, List.length_cons, List.length_nil, List.length_map, List.length_set, List.length_replicate, List.drop_zero, List.drop_succ_cons, List.drop_nil, List.take_zero, List.take_succ_cons, List.take_nil, Nat.le_refl, if_true, if_false, Option.any_none, Option.any_some, List.contains_nil, Bool.not_false, Bool.or_true, Bool.true_or, Bool.or_false, Bool.false_or, Bool.and_true, Bool.true_and, Bool.and_self, reduceCtorEq, beq_self_eq_true, List.map_cons, List.map_nil, List.append_nil, List.nil_append, List.filter_cons, List.filter_nil, List.cons_append, Bool.false_eq_true, true_and, and_true, List.getElem_toArray, List.getElem_cons_zero, List.getElem_cons_succ, Nat.reduceAdd, Nat.reduceMul, Nat.reduceLT, Nat.reduceSub, Nat.reduceLeDiff]; try (first | rfl | exact ⟨rfl, trivial⟩ | exact ⟨rfl, rfl⟩)

set_option maxHeartbeats 8000000 in
set_option maxRecDepth 100000 in
theorem wide_Wide_Zero.does {a0_0 : Int} {a0_1 : Int} {r : Bool} (H : wide_Wide_Zero.f a0_0 a0_1 = some r) : Do E0 (.fn 52 [.a [.i .u64 a0_0, .i .u64 a0_1]] [] (.b r) []) := by
  refine fn_wpl Try.func52 rfl (Q := (wide_Wide_Zero.Q a0_0 a0_1 r)) (fun s h => h) ?_
  unfold wide_Wide_Zero.f at H
  simp only [Try.ntmps52, List.length, List.replicate, Nat.reduceAdd, Nat.reduceSub, List.cons_append, List.nil_append]
  refine w_seq ?_
  refine wR fun K hK => ?_
  refine g_box rfl rfl rfl (by rfl) (gU ?_)
  refine g_as rfl rfl (gT ?_)
  refine g_nil (hK _ _ _ ?_)
  refine k_seq ?_
  refine w_seq ?_
  refine wR fun K hK => ?_
  refine g_fd rfl rfl fa67_0 rfl (gT ?_)
  refine g_ldc rfl rfl ag35 sz35 rfl rfl rfl (gT ?_)
  refine g_fd rfl rfl fa67_1 rfl (gT ?_)
  refine g_ldc rfl rfl ag35 sz35 rfl rfl rfl (gT ?_)
  refine g_bin rfl rfl rfl rfl rfl (gT ?_)
  refine g_bin rfl rfl rfl rfl rfl (gT ?_)
  refine g_as rfl rfl (gT ?_)
  refine g_nil (hK _ _ _ ?_)
  refine k_seq ?_
  refine w_ret ?_
  refine fin_wp (τ := []) rfl (by decide) ?_; rw [← Option.some.inj H]; simp only [Try.f52]; exact gF

set_option maxHeartbeats 8000000 in
set_option maxRecDepth 100000 in
theorem bits_Len64.does_l {a0 : Int} (k : Nat) : (∀ (x_0 : Int) (n_2 : Int) (r : Int), bits_Len64.j0 k x_0 n_2 = some r → kont E0 (bits_Len64.Q a0 r) (frs (bodyOf Try.f58) [1, 0, 1] []) .normal ⟨[.i .u64 x_0, .u, .i .i64 n_2, .u, .u, .u, .u, .u, .u, .u, .u, .u, .u, .u, .u, .u, .u, .u, .u, .u, .u, .u, .u, .u, .u], ofL [], 0, 0⟩) := by
  induction k with
  | zero => exact fun _ _ r h => by simp [bits_Len64.j0] at h
  | succ k ih =>
    have ih0 := ih
    refine ?_
    · intro x_0 n_2 r H
      unfold bits_Len64.j0 at H
      simp only [bodyOf, Try.f58, frs, sub, if_true, if_false, Nat.one_ne_zero]
      refine k_seq ?_
      refine w_seq ?_
      refine w_seq ?_
      refine wR fun K hK => ?_
      refine g_mv rfl rfl (gT ?_)
      refine g_bin rfl rfl rfl rfl rfl (gT ?_)
      refine g_nil (hK _ _ _ ?_)
      refine k_seq ?_
      rcases its H with ⟨c2, H⟩ | ⟨c2, H⟩
      · have c2b := decide_eq_true c2; try simp only [c2b, nrm]
        refine w_cond rfl (fun _ => ?_) (fun h => Bool.noConfusion h)
        refine w_seq ?_
        refine wR fun K hK => ?_
        refine g_mv rfl rfl (gT ?_)
        refine g_shrc (p := 65536) rfl rfl rfl rfl (by decide) (by rfl) (gT ?_)
        refine g_as rfl rfl (gT ?_)
        refine g_nil (hK _ _ _ ?_)
        refine k_seq ?_
        refine wR fun K hK => ?_
        refine g_mv rfl rfl (gT ?_)
        refine g_bin rfl rfl rfl rfl rfl (gT ?_)
        refine g_as rfl rfl (gT ?_)
        refine g_nil (hK _ _ _ ?_)
        refine k_seq ?_
        refine w_seq ?_
        refine w_seq ?_
        refine wR fun K hK => ?_
        refine g_mv rfl rfl (gT ?_)
        refine g_bin rfl rfl rfl rfl rfl (gT ?_)
        refine g_nil (hK _ _ _ ?_)
        refine k_seq ?_
        rcases its H with ⟨c3, H⟩ | ⟨c3, H⟩
        · have c3b := decide_eq_true c3; try simp only [c3b, nrm]
          refine w_cond rfl (fun _ => ?_) (fun h => Bool.noConfusion h)
          refine w_seq ?_
          refine wR fun K hK => ?_
          refine g_mv rfl rfl (gT ?_)
          refine g_shrc (p := 256) rfl rfl rfl rfl (by decide) (by rfl) (gT ?_)
          refine g_as rfl rfl (gT ?_)
          refine g_nil (hK _ _ _ ?_)
          refine k_seq ?_
          refine wR fun K hK => ?_
          refine g_mv rfl rfl (gT ?_)
          refine g_bin rfl rfl rfl rfl rfl (gT ?_)
          refine g_as rfl rfl (gT ?_)
          refine g_nil (hK _ _ _ ?_)
          refine k_seq ?_
          refine w_seq ?_
          refine wR fun K hK => ?_
          refine g_mv rfl rfl (gT ?_)
          refine g_mv rfl rfl (gT ?_)
          refine g_conv rfl rfl Try.underlying35 Try.underlying5 rfl (gT ?_)
          obtain ⟨c4, H⟩ := it1 H
          obtain ⟨c5, H⟩ := it1 H
          refine g_ixt rfl rfl Try.underlying9 rfl rfl (by first | assumption | omega) (by show _ < 256; omega) (v := bt _ _) (bt_at _ _ _) (gT ?_)
          refine g_conv rfl rfl Try.underlying5 Try.underlying3 rfl (gT ?_)
          refine g_bin rfl rfl rfl rfl rfl (gT ?_)
          refine g_as rfl rfl (gT ?_)
          refine g_nil (hK _ _ _ ?_)
          refine k_seq ?_
          refine w_ret ?_
          refine fin_wp (τ := []) rfl (by decide) ?_; rw [← Option.some.inj H]; simp only [Try.f58]; exact gF
        · have c3b := decide_eq_false c3; try simp only [c3b, nrm]
          refine w_cond rfl (fun h => Bool.noConfusion h) (fun _ => ?_)
          refine w_skip ?_
          refine k_seq ?_
          refine w_seq ?_
          refine wR fun K hK => ?_
          refine g_mv rfl rfl (gT ?_)
          refine g_mv rfl rfl (gT ?_)
          refine g_conv rfl rfl Try.underlying35 Try.underlying5 rfl (gT ?_)
          obtain ⟨c6, H⟩ := it1 H
          obtain ⟨c7, H⟩ := it1 H
          refine g_ixt rfl rfl Try.underlying9 rfl rfl (by first | assumption | omega) (by show _ < 256; omega) (v := bt _ _) (bt_at _ _ _) (gT ?_)
          refine g_conv rfl rfl Try.underlying5 Try.underlying3 rfl (gT ?_)
          refine g_bin rfl rfl rfl rfl rfl (gT ?_)
          refine g_as rfl rfl (gT ?_)
          refine g_nil (hK _ _ _ ?_)
          refine k_seq ?_
          refine w_ret ?_
          refine fin_wp (τ := []) rfl (by decide) ?_; rw [← Option.some.inj H]; simp only [Try.f58]; exact gF
      · have c2b := decide_eq_false c2; try simp only [c2b, nrm]
        refine w_cond rfl (fun h => Bool.noConfusion h) (fun _ => ?_)
        refine w_skip ?_
        refine k_seq ?_
        refine w_seq ?_
        refine w_seq ?_
        refine wR fun K hK => ?_
        refine g_mv rfl rfl (gT ?_)
        refine g_bin rfl rfl rfl rfl rfl (gT ?_)
        refine g_nil (hK _ _ _ ?_)
        refine k_seq ?_
        rcases its H with ⟨c8, H⟩ | ⟨c8, H⟩
        · have c8b := decide_eq_true c8; try simp only [c8b, nrm]
          refine w_cond rfl (fun _ => ?_) (fun h => Bool.noConfusion h)
          refine w_seq ?_
          refine wR fun K hK => ?_
          refine g_mv rfl rfl (gT ?_)
          refine g_shrc (p := 256) rfl rfl rfl rfl (by decide) (by rfl) (gT ?_)
          refine g_as rfl rfl (gT ?_)
          refine g_nil (hK _ _ _ ?_)
          refine k_seq ?_
          refine wR fun K hK => ?_
          refine g_mv rfl rfl (gT ?_)
          refine g_bin rfl rfl rfl rfl rfl (gT ?_)
          refine g_as rfl rfl (gT ?_)
          refine g_nil (hK _ _ _ ?_)
          refine k_seq ?_
          refine w_seq ?_
          refine wR fun K hK => ?_
          refine g_mv rfl rfl (gT ?_)
          refine g_mv rfl rfl (gT ?_)
          refine g_conv rfl rfl Try.underlying35 Try.underlying5 rfl (gT ?_)
          obtain ⟨c9, H⟩ := it1 H
          obtain ⟨c10, H⟩ := it1 H
          refine g_ixt rfl rfl Try.underlying9 rfl rfl (by first | assumption | omega) (by show _ < 256; omega) (v := bt _ _) (bt_at _ _ _) (gT ?_)
          refine g_conv rfl rfl Try.underlying5 Try.underlying3 rfl (gT ?_)
          refine g_bin rfl rfl rfl rfl rfl (gT ?_)
          refine g_as rfl rfl (gT ?_)
          refine g_nil (hK _ _ _ ?_)
          refine k_seq ?_
          refine w_ret ?_
          refine fin_wp (τ := []) rfl (by decide) ?_; rw [← Option.some.inj H]; simp only [Try.f58]; exact gF
        · have c8b := decide_eq_false c8; try simp only [c8b, nrm]
          refine w_cond rfl (fun h => Bool.noConfusion h) (fun _ => ?_)
          refine w_skip ?_
          refine k_seq ?_
          refine w_seq ?_
          refine wR fun K hK => ?_
          refine g_mv rfl rfl (gT ?_)
          refine g_mv rfl rfl (gT ?_)
          refine g_conv rfl rfl Try.underlying35 Try.underlying5 rfl (gT ?_)
          obtain ⟨c11, H⟩ := it1 H
          obtain ⟨c12, H⟩ := it1 H
          refine g_ixt rfl rfl Try.underlying9 rfl rfl (by first | assumption | omega) (by show _ < 256; omega) (v := bt _ _) (bt_at _ _ _) (gT ?_)
          refine g_conv rfl rfl Try.underlying5 Try.underlying3 rfl (gT ?_)
          refine g_bin rfl rfl rfl rfl rfl (gT ?_)
          refine g_as rfl rfl (gT ?_)
          refine g_nil (hK _ _ _ ?_)
          refine k_seq ?_
          refine w_ret ?_
          refine fin_wp (τ := []) rfl (by decide) ?_; rw [← Option.some.inj H]; simp only [Try.f58]; exact gF
set_option maxHeartbeats 8000000 in
set_option maxRecDepth 100000 in
theorem bits_Len64.does {k : Nat} {a0 : Int} {r : Int} (H : bits_Len64.f k a0 = some r) : Do E0 (.fn 58 [.i .u64 a0] [] (.i .i64 r) []) := by
  obtain ih0 := bits_Len64.does_l (a0 := a0) k
  refine fn_wpl Try.func58 rfl (Q := (bits_Len64.Q a0 r)) (fun s h => h) ?_
  unfold bits_Len64.f at H
  simp only [Try.ntmps58, List.length, List.replicate, Nat.reduceAdd, Nat.reduceSub, List.cons_append, List.nil_append]
  refine w_seq ?_
  refine wR fun K hK => ?_
  refine g_as rfl rfl (gT ?_)
  refine g_nil (hK _ _ _ ?_)
  refine k_seq ?_
  refine w_seq ?_
  refine w_seq ?_
  refine wR fun K hK => ?_
  refine g_mv rfl rfl (gT ?_)
  refine g_bin rfl rfl rfl rfl rfl (gT ?_)
  refine g_nil (hK _ _ _ ?_)
  refine k_seq ?_
  rcases its H with ⟨c1, H⟩ | ⟨c1, H⟩
  · have c1b := decide_eq_true c1; try simp only [c1b, nrm]
    refine w_cond rfl (fun _ => ?_) (fun h => Bool.noConfusion h)
    refine w_seq ?_
    refine wR fun K hK => ?_
    refine g_mv rfl rfl (gT ?_)
    refine g_shrc (p := 4294967296) rfl rfl rfl rfl (by decide) (by rfl) (gT ?_)
    refine g_as rfl rfl (gT ?_)
    refine g_nil (hK _ _ _ ?_)
    refine k_seq ?_
    refine wR fun K hK => ?_
    refine g_as rfl rfl (gT ?_)
    refine g_nil (hK _ _ _ ?_)
    refine k_wk (σ := []) [0, 1] rfl (by decide) rfl ?_; refine gC ?_
    exact gI (ih0 (a0 / 4294967296) 32 r H)
  · have c1b := decide_eq_false c1; try simp only [c1b, nrm]
    refine w_cond rfl (fun h => Bool.noConfusion h) (fun _ => ?_)
    refine w_skip ?_
    refine k_wk (σ := []) [0, 1] rfl (by decide) rfl ?_; refine gC ?_
    exact gI (ih0 a0 0 r H)

set_option maxHeartbeats 8000000 in
set_option maxRecDepth 100000 in
theorem wide_Wide_Len.does {k : Nat} {a0_0 : Int} {a0_1 : Int} {r : Int} (H : wide_Wide_Len.f k a0_0 a0_1 = some r) : Do E0 (.fn 49 [.a [.i .u64 a0_0, .i .u64 a0_1]] [] (.i .i64 r) []) := by
  refine fn_wpl Try.func49 rfl (Q := (wide_Wide_Len.Q a0_0 a0_1 r)) (fun s h => h) ?_
  unfold wide_Wide_Len.f at H
  simp only [Try.ntmps49, List.length, List.replicate, Nat.reduceAdd, Nat.reduceSub, List.cons_append, List.nil_append]
  refine w_seq ?_
  refine wR fun K hK => ?_
  refine g_box rfl rfl rfl (by rfl) (gU ?_)
  refine g_as rfl rfl (gT ?_)
  refine g_nil (hK _ _ _ ?_)
  refine k_seq ?_
  refine w_seq ?_
  refine w_seq ?_
  refine wR fun K hK => ?_
  refine g_fd rfl rfl fa67_0 rfl (gT ?_)
  refine g_ldc rfl rfl ag35 sz35 rfl rfl rfl (gT ?_)
  refine g_bin rfl rfl rfl rfl rfl (gT ?_)
  refine g_nil (hK _ _ _ ?_)
  refine k_seq ?_
  rcases its H with ⟨c1, H⟩ | ⟨c1, H⟩
  · have c1b := beq_iff_eq.mpr c1; have c1n := bne_eq_false_iff_eq.mpr c1; try simp only [c1b, c1n, nrm]
    refine w_cond rfl (fun h => Bool.noConfusion h) (fun _ => ?_)
    refine w_skip ?_
    refine k_seq ?_
    refine w_seq ?_
    refine wR fun K hK => ?_
    refine g_fd rfl rfl fa67_1 rfl (gT ?_)
    refine g_ldc rfl rfl ag35 sz35 rfl rfl rfl (gT ?_)
    obtain ⟨q2, hq2, H⟩ := bnd H
    refine g_cs [] rfl rfl (by rfl) Try.func58 rfl (by decide) (bits_Len64.does hq2) ⟨Nat.le_of_ble_eq_true rfl, Nat.le_of_ble_eq_true rfl⟩ ?_; refine gC ?_
    refine g_as rfl rfl (gT ?_)
    refine g_nil (hK _ _ _ ?_)
    refine k_seq ?_
    refine w_ret ?_
    refine fin_wp (τ := []) rfl (by decide) ?_; rw [← Option.some.inj H]; simp only [Try.f49]; exact gF
  · have c1b := beq_eq_false_iff_ne.mpr c1; have c1n := bne_iff_ne.mpr c1; try simp only [c1b, c1n, nrm]
    refine w_cond rfl (fun _ => ?_) (fun h => Bool.noConfusion h)
    refine w_seq ?_
    refine wR fun K hK => ?_
    refine g_fd rfl rfl fa67_0 rfl (gT ?_)
    refine g_ldc rfl rfl ag35 sz35 rfl rfl rfl (gT ?_)
    obtain ⟨q3, hq3, H⟩ := bnd H
    refine g_cs [] rfl rfl (by rfl) Try.func58 rfl (by decide) (bits_Len64.does hq3) ⟨Nat.le_of_ble_eq_true rfl, Nat.le_of_ble_eq_true rfl⟩ ?_; refine gC ?_
    refine g_bin rfl rfl rfl rfl rfl (gT ?_)
    refine g_as rfl rfl (gT ?_)
    refine g_nil (hK _ _ _ ?_)
    refine k_seq ?_
    refine w_ret ?_
    refine fin_wp (τ := []) rfl (by decide) ?_; rw [← Option.some.inj H]; simp only [Try.f49]; exact gF

set_option maxHeartbeats 8000000 in
set_option maxRecDepth 100000 in
theorem wide_Wide_Left.does {a0_0 : Int} {a0_1 : Int} {a1 : Int} {r : Int × Int} (H : wide_Wide_Left.f a0_0 a0_1 a1 = some r) : Do E0 (.fn 35 [.a [.i .u64 a0_0, .i .u64 a0_1], .i .i64 a1] [] (.a [.i .u64 r.1, .i .u64 r.2]) []) := by
  refine fn_wpl Try.func35 rfl (Q := (wide_Wide_Left.Q a0_0 a0_1 a1 r)) (fun s h => h) ?_
  unfold wide_Wide_Left.f at H
  simp only [Try.ntmps35, List.length, List.replicate, Nat.reduceAdd, Nat.reduceSub, List.cons_append, List.nil_append]
  refine w_seq ?_
  refine wR fun K hK => ?_
  refine g_box rfl rfl rfl (by rfl) (gU ?_)
  refine g_alloc rfl rfl zr67 (gU ?_)
  refine g_nil (hK _ _ _ ?_)
  refine k_seq ?_
  refine w_seq ?_
  refine w_block ?_
  refine w_seq ?_
  refine wR fun K hK => ?_
  refine g_mv rfl rfl (gT ?_)
  refine g_bin rfl rfl rfl rfl rfl (gT ?_)
  refine g_as rfl rfl (gT ?_)
  refine g_nil (hK _ _ _ ?_)
  refine k_seq ?_
  rcases its H with ⟨c1, H⟩ | ⟨c1, H⟩
  · have c1b := decide_eq_true c1; try simp only [c1b, nrm]
    refine w_cond rfl (fun _ => ?_) (fun h => Bool.noConfusion h)
    refine w_seq ?_
    refine wR fun K hK => ?_
    refine g_lda rfl rfl ag67 sz67 rfl rfl (Nat.le_of_ble_eq_true rfl) (gT ?_)
    refine g_st rfl rfl sz67 rfl rfl rfl (by rfl) (Nat.le_of_ble_eq_true rfl) (gU ?_)
    refine g_nil (hK _ _ _ ?_)
    refine k_seq ?_
    refine w_ret ?_
    refine fin_wp (τ := []) rfl (by decide) ?_; rw [← Option.some.inj H]; simp only [Try.f35, ag67, sz67, nrm, nrmw, nrmc, nrme, nrmo, nrml, nrmb, nrmx, Nat.reduceEqDiff, Nat.reduceBEq, Nat.zero_add, Nat.add_zero, Nat.mul_one, List.length_cons, List.length_nil, List.length_map, List.length_set, List.length_replicate, List.drop_zero, List.drop_succ_cons, List.drop_nil, List.take_zero, List.take_succ_cons, List.take_nil, Nat.le_refl, if_true, if_false, Option.any_none, Option.any_some, List.contains_nil, Bool.not_false, Bool.or_true, Bool.true_or, Bool.or_false, Bool.false_or, Bool.and_true, Bool.true_and, Bool.and_self, reduceCtorEq, beq_self_eq_true, List.map_cons, List.map_nil, List.append_nil, List.nil_append, List.filter_cons, List.filter_nil, List.cons_append, Bool.false_eq_true, true_and, and_true, List.getElem_toArray, List.getElem_cons_zero, List.getElem_cons_succ, Nat.reduceAdd, Nat.reduceMul, Nat.reduceLT, Nat.reduceSub, Nat.reduceLeDiff]; try (first | rfl | exact ⟨rfl, trivial⟩ | exact ⟨rfl, rfl⟩)
  · have c1b := decide_eq_false c1; try simp only [c1b, nrm]
    refine w_cond rfl (fun h => Bool.noConfusion h) (fun _ => ?_)
    refine w_seq ?_
    refine wR fun K hK => ?_
    refine g_mv rfl rfl (gT ?_)
    refine g_bin rfl rfl rfl rfl rfl (gT ?_)
    refine g_as rfl rfl (gT ?_)
    refine g_nil (hK _ _ _ ?_)
    refine k_seq ?_
    rcases its H with ⟨c2, H⟩ | ⟨c2, H⟩
    · have c2b := decide_eq_true c2; try simp only [c2b, nrm]
      refine w_cond rfl (fun _ => ?_) (fun h => Bool.noConfusion h)
      refine w_seq ?_
      refine wR fun K hK => ?_
      refine g_bd rfl rfl zr67 Try.underlying67 (pl := [(0, 1), (1, 1)]) (by kernel_rfl) ?_; refine gB ?_
      refine g_st rfl rfl sz67 rfl rfl rfl (by rfl) (Nat.le_of_ble_eq_true rfl) (gU ?_)
      refine g_nil (hK _ _ _ ?_)
      refine k_seq ?_
      refine w_ret ?_
      refine fin_wp (τ := []) rfl (by decide) ?_; rw [← Option.some.inj H]; simp only [Try.f35, ag67, sz67, nrm, nrmw, nrmc, nrme, nrmo, nrml, nrmb, nrmx, Nat.reduceEqDiff, Nat.reduceBEq, Nat.zero_add, Nat.add_zero, Nat.mul_one, List.length_cons, List.length_nil, List.length_map, List.length_set, List.length_replicate, List.drop_zero, List.drop_succ_cons, List.drop_nil, List.take_zero, List.take_succ_cons, List.take_nil, Nat.le_refl, if_true, if_false, Option.any_none, Option.any_some, List.contains_nil, Bool.not_false, Bool.or_true, Bool.true_or, Bool.or_false, Bool.false_or, Bool.and_true, Bool.true_and, Bool.and_self, reduceCtorEq, beq_self_eq_true, List.map_cons, List.map_nil, List.append_nil, List.nil_append, List.filter_cons, List.filter_nil, List.cons_append, Bool.false_eq_true, true_and, and_true, List.getElem_toArray, List.getElem_cons_zero, List.getElem_cons_succ, Nat.reduceAdd, Nat.reduceMul, Nat.reduceLT, Nat.reduceSub, Nat.reduceLeDiff]; try (first | rfl | exact ⟨rfl, trivial⟩ | exact ⟨rfl, rfl⟩)
    · have c2b := decide_eq_false c2; try simp only [c2b, nrm]
      refine w_cond rfl (fun h => Bool.noConfusion h) (fun _ => ?_)
      refine w_seq ?_
      refine wR fun K hK => ?_
      refine g_mv rfl rfl (gT ?_)
      refine g_bin rfl rfl rfl rfl rfl (gT ?_)
      refine g_as rfl rfl (gT ?_)
      refine g_nil (hK _ _ _ ?_)
      refine k_seq ?_
      rcases its H with ⟨c3, H⟩ | ⟨c3, H⟩
      · have c3b := decide_eq_true c3; try simp only [c3b, nrm]
        refine w_cond rfl (fun _ => ?_) (fun h => Bool.noConfusion h)
        refine w_seq ?_
        refine wR fun K hK => ?_
        refine g_fd rfl rfl fa67_1 rfl (gT ?_)
        refine g_ldc rfl rfl ag35 sz35 rfl rfl rfl (gT ?_)
        refine g_mv rfl rfl (gT ?_)
        refine g_bin rfl rfl rfl rfl rfl (gT ?_)
        obtain ⟨c4, H⟩ := it1 H
        refine g_shl rfl rfl rfl rfl (by omega) (gT ?_)
        refine g_bd rfl rfl zr67 Try.underlying67 (pl := [(0, 1), (1, 1)]) (by kernel_rfl) ?_; refine gB ?_
        refine g_st rfl rfl sz67 rfl rfl rfl (by rfl) (Nat.le_of_ble_eq_true rfl) (gU ?_)
        refine g_nil (hK _ _ _ ?_)
        refine k_seq ?_
        refine w_ret ?_
        refine fin_wp (τ := []) rfl (by decide) ?_; rw [← Option.some.inj H]; simp only [Try.f35, ag67, sz67, nrm, nrmw, nrmc, nrme, nrmo, nrml, nrmb, nrmx, Nat.reduceEqDiff, Nat.reduceBEq, Nat.zero_add, Nat.add_zero, Nat.mul_one, List.length_cons, List.length_nil, List.length_map, List.length_set, List.length_replicate, List.drop_zero, List.drop_succ_cons, List.drop_nil, List.take_zero, List.take_succ_cons, List.take_nil, Nat.le_refl, if_true, if_false, Option.any_none, Option.any_some, List.contains_nil, Bool.not_false, Bool.or_true, Bool.true_or, Bool.or_false, Bool.false_or, Bool.and_true, Bool.true_and, Bool.and_self, reduceCtorEq, beq_self_eq_true, List.map_cons, List.map_nil, List.append_nil, List.nil_append, List.filter_cons, List.filter_nil, List.cons_append, Bool.false_eq_true, true_and, and_true, List.getElem_toArray, List.getElem_cons_zero, List.getElem_cons_succ, Nat.reduceAdd, Nat.reduceMul, Nat.reduceLT, Nat.reduceSub, Nat.reduceLeDiff]; try (first | rfl | exact ⟨rfl, trivial⟩ | exact ⟨rfl, rfl⟩)
      · have c3b := decide_eq_false c3; try simp only [c3b, nrm]
        refine w_cond rfl (fun h => Bool.noConfusion h) (fun _ => ?_)
        refine w_skip ?_
        refine k_block ?_
        refine k_seq ?_
        refine w_seq ?_
        refine wD fun K hK => ?_
        refine g_fd rfl rfl fa67_0 rfl (gT ?_)
        refine g_ldc rfl rfl ag35 sz35 rfl rfl rfl (gT ?_)
        refine g_mv rfl rfl (gT ?_)
        obtain ⟨c5, H⟩ := it1 H
        refine g_shl rfl rfl rfl rfl (by omega) (gT ?_)
        refine g_fd rfl rfl fa67_1 rfl (gT ?_)
        refine g_ldc rfl rfl ag35 sz35 rfl rfl rfl (gT ?_)
        refine g_mv rfl rfl (gT ?_)
        refine g_bin rfl rfl rfl rfl rfl (gT ?_)
        obtain ⟨c6, H⟩ := it1 H
        refine g_shr rfl rfl rfl rfl (by omega) (gT ?_)
        refine g_bin rfl rfl rfl rfl rfl (gT ?_)
        refine g_fd rfl rfl fa67_1 rfl (gT ?_)
        refine g_ldc rfl rfl ag35 sz35 rfl rfl rfl (gT ?_)
        refine g_mv rfl rfl (gT ?_)
        refine g_shl rfl rfl rfl rfl (by omega) (gT ?_)
        refine g_bd rfl rfl zr67 Try.underlying67 (pl := [(0, 1), (1, 1)]) (by kernel_rfl) ?_; refine gB ?_
        refine g_st rfl rfl sz67 rfl rfl rfl (by rfl) (Nat.le_of_ble_eq_true rfl) (gU ?_)
        refine g_nil (hK _ _ _ (by kernel_rfl) ?_)
        refine k_seq ?_
        refine w_ret ?_
        refine fin_wp (τ := []) rfl (by decide) ?_; rw [← Option.some.inj H]; simp only [Try.f35, ag67, sz67, nrm, nrmw, nrmc, nrme, nrmo, nrml, nrmb, nrmx, Nat.reduceEqDiff, Nat.reduceBEq, Nat.zero_add, Nat.add_zero, Nat.mul_one, List.length_cons, List.length_nil, List.length_map, List.length_set, List.length_replicate, List.drop_zero, List.drop_succ_cons, List.drop_nil, List.take_zero, List.take_succ_cons, List.take_nil, Nat.le_refl, if_true, if_false, Option.any_none, Option.any_some, List.contains_nil, Bool.not_false, Bool.or_true, Bool.true_or, Bool.or_false, Bool.false_or, Bool.and_true, Bool.true_and, Bool.and_self, reduceCtorEq, beq_self_eq_true, List.map_cons, List.map_nil, List.append_nil, List.nil_append, List.filter_cons, List.filter_nil, List.cons_append, Bool.false_eq_true, true_and, and_true, List.getElem_toArray, List.getElem_cons_zero, List.getElem_cons_succ, Nat.reduceAdd, Nat.reduceMul, Nat.reduceLT, Nat.reduceSub, Nat.reduceLeDiff]; try (first | rfl | exact ⟨rfl, trivial⟩ | exact ⟨rfl, rfl⟩)

set_option maxHeartbeats 8000000 in
set_option maxRecDepth 100000 in
theorem wide_Wide_Right.does_l {a0_0 : Int} {a0_1 : Int} {a1 : Int} (k : Nat) : (∀ (n_1 : Int) (h0_0 : Int) (h0_1 : Int) (h1_0 : Int) (h1_1 : Int) (h2_0 : Int) (h2_1 : Int) (r : Int × Int × Bool), wide_Wide_Right.j0 k n_1 h0_0 h0_1 h2_0 h2_1 = some r → kont E0 (wide_Wide_Right.Q a0_0 a0_1 a1 r) (frs (bodyOf Try.f53) [1, 1, 0] []) .normal ⟨[.u, .i .i64 n_1, .p (some (0, 0)), .u, .p (some (1, 0)), .u, .p (some (2, 0)), .u, .u, .u, .u, .u, .u, .u, .u, .u, .u, .u, .u, .u, .u, .u, .u, .u, .u, .u, .u, .u, .u, .u, .u, .u, .u, .u, .u, .u, .u, .u, .u, .u, .u, .u, .u, .u, .u, .u, .u, .u, .u, .u, .u, .u, .u], ofL [.row [.i .u64 h0_0, .i .u64 h0_1] 0 0 true true none, .row [.i .u64 h1_0, .i .u64 h1_1] 0 0 true true none, .row [.i .u64 h2_0, .i .u64 h2_1] 0 0 true true none], 3, 0⟩) := by
  induction k with
  | zero => exact fun _ _ _ _ _ _ _ r h => by simp [wide_Wide_Right.j0] at h
  | succ k ih =>
    have ih0 := ih
    refine ?_
    · intro n_1 h0_0 h0_1 h1_0 h1_1 h2_0 h2_1 r H
      unfold wide_Wide_Right.j0 at H
      simp only [bodyOf, Try.f53, frs, sub, if_true, if_false, Nat.one_ne_zero]
      refine k_seq ?_
      refine w_seq ?_
      refine wD fun K hK => ?_
      refine g_lda rfl rfl ag67 sz67 rfl rfl (Nat.le_of_ble_eq_true rfl) (gT ?_)
      refine g_lda rfl rfl ag67 sz67 rfl rfl (Nat.le_of_ble_eq_true rfl) (gT ?_)
      refine g_mv rfl rfl (gT ?_)
      obtain ⟨q7, hq7, H⟩ := bnd H
      refine g_cs [] rfl rfl (by rfl) Try.func35 rfl (by decide) (wide_Wide_Left.does hq7) ⟨Nat.le_of_ble_eq_true rfl, Nat.le_of_ble_eq_true rfl⟩ ?_; refine gC ?_
      refine g_lda rfl rfl ag67 sz67 rfl rfl (Nat.le_of_ble_eq_true rfl) (gT ?_)
      refine g_same rfl rfl (c := .b (!(q7.1 == h0_0) || (!(q7.2 == h0_1)))) (by simp only [nrm]; simp only [binV, eqs67, Go.Rk.Rd.of, Go.Rk.Rd.bind, Bool.and_true, Bool.not_and]) (gT ?_)
      refine g_mv rfl rfl (gT ?_)
      rcases its H with ⟨c8, H⟩ | ⟨c8, H⟩
      · have c8b : (!(q7.1 == h0_0) || (!(q7.2 == h0_1))) = true := c8; try simp only [c8b, nrm]
        refine g_sk rfl rfl (gT ?_)
        refine g_sk rfl rfl (gT ?_)
        refine g_sk rfl rfl (gT ?_)
        refine g_sk rfl rfl (gT ?_)
        refine g_sk rfl rfl (gT ?_)
        refine g_sk rfl rfl (gT ?_)
        refine g_sk rfl rfl (gT ?_)
        refine g_pick rfl rfl rfl (gT ?_)
        refine g_st rfl rfl sz67 rfl rfl rfl (by rfl) (Nat.le_of_ble_eq_true rfl) (gU ?_)
        refine g_as rfl rfl (gT ?_)
        refine g_nil (hK _ _ _ (by kernel_rfl) ?_)
        refine k_seq ?_
        refine w_ret ?_
        refine fin_wp (τ := []) rfl (by decide) ?_; rw [← Option.some.inj H]; simp only [Try.f53, ag67, sz67, nrm, nrmw, nrmc, nrme, nrmo, nrml, nrmb, nrmx, Nat.reduceEqDiff, Nat.reduceBEq, Nat.zero_add, Nat.add_zero, Nat.mul_one, List.length_cons, List.length_nil, List.length_map, List.length_set, List.length_replicate, List.drop_zero, List.drop_succ_cons, List.drop_nil, List.take_zero, List.take_succ_cons, List.take_nil, Nat.le_refl, if_true, if_false, Option.any_none, Option.any_some, List.contains_nil, Bool.not_false, Bool.or_true, Bool.true_or, Bool.or_false, Bool.false_or, Bool.and_true, Bool.true_and, Bool.and_self, reduceCtorEq, beq_self_eq_true, List.map_cons, List.map_nil, List.append_nil, List.nil_append, List.filter_cons, List.filter_nil, List.cons_append, Bool.false_eq_true, true_and, and_true, List.getElem_toArray, List.getElem_cons_zero, List.getElem_cons_succ, Nat.reduceAdd, Nat.reduceMul, Nat.reduceLT, Nat.reduceSub, Nat.reduceLeDiff]; try (first | rfl | exact ⟨rfl, trivial⟩ | exact ⟨rfl, rfl⟩)
      · have c8b : (!(q7.1 == h0_0) || (!(q7.2 == h0_1))) = false := Bool.eq_false_iff.mpr c8; try simp only [c8b, nrm]
        refine g_mv rfl rfl (gT ?_)
        refine g_bin rfl rfl rfl rfl rfl (gT ?_)
        refine g_mv rfl rfl (gT ?_)
        rcases its H with ⟨c9, H⟩ | ⟨c9, H⟩
        · have c9b := decide_eq_true c9; try simp only [c9b, nrm]
          refine g_lda rfl rfl ag67 sz67 rfl rfl (Nat.le_of_ble_eq_true rfl) (gT ?_)
          obtain ⟨q10, hq10, H⟩ := bnd H
          refine g_cs [] rfl rfl (by rfl) Try.func52 rfl (by decide) (wide_Wide_Zero.does hq10) ⟨Nat.le_of_ble_eq_true rfl, Nat.le_of_ble_eq_true rfl⟩ ?_; refine gC ?_
          refine g_un rfl rfl rfl rfl (gT ?_)
          refine g_pick rfl rfl rfl (gT ?_)
          refine g_pick rfl rfl rfl (gT ?_)
          refine g_st rfl rfl sz67 rfl rfl rfl (by rfl) (Nat.le_of_ble_eq_true rfl) (gU ?_)
          refine g_as rfl rfl (gT ?_)
          refine g_nil (hK _ _ _ (by kernel_rfl) ?_)
          refine k_seq ?_
          refine w_ret ?_
          refine fin_wp (τ := []) rfl (by decide) ?_; rw [← Option.some.inj H]; simp only [Try.f53, ag67, sz67, nrm, nrmw, nrmc, nrme, nrmo, nrml, nrmb, nrmx, Nat.reduceEqDiff, Nat.reduceBEq, Nat.zero_add, Nat.add_zero, Nat.mul_one, List.length_cons, List.length_nil, List.length_map, List.length_set, List.length_replicate, List.drop_zero, List.drop_succ_cons, List.drop_nil, List.take_zero, List.take_succ_cons, List.take_nil, Nat.le_refl, if_true, if_false, Option.any_none, Option.any_some, List.contains_nil, Bool.not_false, Bool.or_true, Bool.true_or, Bool.or_false, Bool.false_or, Bool.and_true, Bool.true_and, Bool.and_self, reduceCtorEq, beq_self_eq_true, List.map_cons, List.map_nil, List.append_nil, List.nil_append, List.filter_cons, List.filter_nil, List.cons_append, Bool.false_eq_true, true_and, and_true, List.getElem_toArray, List.getElem_cons_zero, List.getElem_cons_succ, Nat.reduceAdd, Nat.reduceMul, Nat.reduceLT, Nat.reduceSub, Nat.reduceLeDiff]; try (first | rfl | exact ⟨rfl, trivial⟩ | exact ⟨rfl, rfl⟩)
        · have c9b := decide_eq_false c9; try simp only [c9b, nrm]
          refine g_sk rfl rfl (gT ?_)
          refine g_sk rfl rfl (gT ?_)
          refine g_sk rfl rfl (gT ?_)
          refine g_pick rfl rfl rfl (gT ?_)
          refine g_pick rfl rfl rfl (gT ?_)
          refine g_st rfl rfl sz67 rfl rfl rfl (by rfl) (Nat.le_of_ble_eq_true rfl) (gU ?_)
          refine g_as rfl rfl (gT ?_)
          refine g_nil (hK _ _ _ (by kernel_rfl) ?_)
          refine k_seq ?_
          refine w_ret ?_
          refine fin_wp (τ := []) rfl (by decide) ?_; rw [← Option.some.inj H]; simp only [Try.f53, ag67, sz67, nrm, nrmw, nrmc, nrme, nrmo, nrml, nrmb, nrmx, Nat.reduceEqDiff, Nat.reduceBEq, Nat.zero_add, Nat.add_zero, Nat.mul_one, List.length_cons, List.length_nil, List.length_map, List.length_set, List.length_replicate, List.drop_zero, List.drop_succ_cons, List.drop_nil, List.take_zero, List.take_succ_cons, List.take_nil, Nat.le_refl, if_true, if_false, Option.any_none, Option.any_some, List.contains_nil, Bool.not_false, Bool.or_true, Bool.true_or, Bool.or_false, Bool.false_or, Bool.and_true, Bool.true_and, Bool.and_self, reduceCtorEq, beq_self_eq_true, List.map_cons, List.map_nil, List.append_nil, List.nil_append, List.filter_cons, List.filter_nil, List.cons_append, Bool.false_eq_true, true_and, and_true, List.getElem_toArray, List.getElem_cons_zero, List.getElem_cons_succ, Nat.reduceAdd, Nat.reduceMul, Nat.reduceLT, Nat.reduceSub, Nat.reduceLeDiff]; try (first | rfl | exact ⟨rfl, trivial⟩ | exact ⟨rfl, rfl⟩)
set_option maxHeartbeats 8000000 in
set_option maxRecDepth 100000 in
theorem wide_Wide_Right.does {k : Nat} {a0_0 : Int} {a0_1 : Int} {a1 : Int} {r : Int × Int × Bool} (H : wide_Wide_Right.f k a0_0 a0_1 a1 = some r) : Do E0 (.fn 53 [.a [.i .u64 a0_0, .i .u64 a0_1], .i .i64 a1] [] (.t [.a [.i .u64 r.1, .i .u64 r.2.1], .b r.2.2]) []) := by
  obtain ih0 := wide_Wide_Right.does_l (a0_0 := a0_0) (a0_1 := a0_1) (a1 := a1) k
  refine fn_wpl Try.func53 rfl (Q := (wide_Wide_Right.Q a0_0 a0_1 a1 r)) (fun s h => h) ?_
  unfold wide_Wide_Right.f at H
  simp only [Try.ntmps53, List.length, List.replicate, Nat.reduceAdd, Nat.reduceSub, List.cons_append, List.nil_append]
  refine w_seq ?_
  refine wR fun K hK => ?_
  refine g_box rfl rfl rfl (by rfl) (gU ?_)
  refine g_alloc rfl rfl zr67 (gU ?_)
  refine g_as rfl rfl (gT ?_)
  refine g_nil (hK _ _ _ ?_)
  refine k_seq ?_
  refine w_seq ?_
  refine wR fun K hK => ?_
  refine g_alloc rfl rfl zr67 (gU ?_)
  refine g_nil (hK _ _ _ ?_)
  refine k_seq ?_
  refine w_seq ?_
  refine w_block ?_
  refine w_seq ?_
  refine wR fun K hK => ?_
  refine g_mv rfl rfl (gT ?_)
  refine g_bin rfl rfl rfl rfl rfl (gT ?_)
  refine g_as rfl rfl (gT ?_)
  refine g_nil (hK _ _ _ ?_)
  refine k_seq ?_
  rcases its H with ⟨c1, H⟩ | ⟨c1, H⟩
  · have c1b := decide_eq_true c1; try simp only [c1b, nrm]
    refine w_cond rfl (fun _ => ?_) (fun h => Bool.noConfusion h)
    refine w_seq ?_
    refine wR fun K hK => ?_
    refine g_lda rfl rfl ag67 sz67 rfl rfl (Nat.le_of_ble_eq_true rfl) (gT ?_)
    refine g_st rfl rfl sz67 rfl rfl rfl (by rfl) (Nat.le_of_ble_eq_true rfl) (gU ?_)
    refine g_as rfl rfl (gT ?_)
    refine g_nil (hK _ _ _ ?_)
    refine k_seq ?_
    refine w_ret ?_
    refine fin_wp (τ := []) rfl (by decide) ?_; rw [← Option.some.inj H]; simp only [Try.f53, ag67, sz67, nrm, nrmw, nrmc, nrme, nrmo, nrml, nrmb, nrmx, Nat.reduceEqDiff, Nat.reduceBEq, Nat.zero_add, Nat.add_zero, Nat.mul_one, List.length_cons, List.length_nil, List.length_map, List.length_set, List.length_replicate, List.drop_zero, List.drop_succ_cons, List.drop_nil, List.take_zero, List.take_succ_cons, List.take_nil, Nat.le_refl, if_true, if_false, Option.any_none, Option.any_some, List.contains_nil, Bool.not_false, Bool.or_true, Bool.true_or, Bool.or_false, Bool.false_or, Bool.and_true, Bool.true_and, Bool.and_self, reduceCtorEq, beq_self_eq_true, List.map_cons, List.map_nil, List.append_nil, List.nil_append, List.filter_cons, List.filter_nil, List.cons_append, Bool.false_eq_true, true_and, and_true, List.getElem_toArray, List.getElem_cons_zero, List.getElem_cons_succ, Nat.reduceAdd, Nat.reduceMul, Nat.reduceLT, Nat.reduceSub, Nat.reduceLeDiff]; try (first | rfl | exact ⟨rfl, trivial⟩ | exact ⟨rfl, rfl⟩)
  · have c1b := decide_eq_false c1; try simp only [c1b, nrm]
    refine w_cond rfl (fun h => Bool.noConfusion h) (fun _ => ?_)
    refine w_seq ?_
    refine wR fun K hK => ?_
    refine g_mv rfl rfl (gT ?_)
    refine g_bin rfl rfl rfl rfl rfl (gT ?_)
    refine g_as rfl rfl (gT ?_)
    refine g_nil (hK _ _ _ ?_)
    refine k_seq ?_
    rcases its H with ⟨c2, H⟩ | ⟨c2, H⟩
    · have c2b := decide_eq_true c2; try simp only [c2b, nrm]
      refine w_cond rfl (fun _ => ?_) (fun h => Bool.noConfusion h)
      refine w_skip ?_
      refine k_block ?_
      refine k_wk (σ := [0, 4, 12]) [1, 0, 1, 1] rfl (by decide) rfl ?_; refine gC ?_
      exact gI (ih0 a1 a0_0 a0_1 0 0 0 0 r H)
    · have c2b := decide_eq_false c2; try simp only [c2b, nrm]
      refine w_cond rfl (fun h => Bool.noConfusion h) (fun _ => ?_)
      refine w_seq ?_
      refine wR fun K hK => ?_
      refine g_mv rfl rfl (gT ?_)
      refine g_bin rfl rfl rfl rfl rfl (gT ?_)
      refine g_as rfl rfl (gT ?_)
      refine g_nil (hK _ _ _ ?_)
      refine k_seq ?_
      rcases its H with ⟨c3, H⟩ | ⟨c3, H⟩
      · have c3b := decide_eq_true c3; try simp only [c3b, nrm]
        refine w_cond rfl (fun _ => ?_) (fun h => Bool.noConfusion h)
        refine wR fun K hK => ?_
        refine g_fd rfl rfl fa67_0 rfl (gT ?_)
        refine g_ldc rfl rfl ag35 sz35 rfl rfl rfl (gT ?_)
        refine g_mv rfl rfl (gT ?_)
        refine g_bin rfl rfl rfl rfl rfl (gT ?_)
        obtain ⟨c4, H⟩ := it1 H
        refine g_shr rfl rfl rfl rfl (by omega) (gT ?_)
        refine g_bd rfl rfl zr67 Try.underlying67 (pl := [(0, 1), (1, 1)]) (by kernel_rfl) ?_; refine gB ?_
        refine g_st rfl rfl sz67 rfl rfl rfl (by rfl) (Nat.le_of_ble_eq_true rfl) (gU ?_)
        refine g_nil (hK _ _ _ ?_)
        refine k_block ?_
        refine k_wk (σ := [0, 4, 12]) [1, 0, 1, 1] rfl (by decide) rfl ?_; refine gC ?_
        exact gI (ih0 a1 a0_0 a0_1 0 0 0 (shr .u64 a0_0 (wrap64 (a1 - 64))) r H)
      · have c3b := decide_eq_false c3; try simp only [c3b, nrm]
        refine w_cond rfl (fun h => Bool.noConfusion h) (fun _ => ?_)
        refine wD fun K hK => ?_
        refine g_fd rfl rfl fa67_0 rfl (gT ?_)
        refine g_ldc rfl rfl ag35 sz35 rfl rfl rfl (gT ?_)
        refine g_mv rfl rfl (gT ?_)
        obtain ⟨c5, H⟩ := it1 H
        refine g_shr rfl rfl rfl rfl (by omega) (gT ?_)
        refine g_fd rfl rfl fa67_0 rfl (gT ?_)
        refine g_ldc rfl rfl ag35 sz35 rfl rfl rfl (gT ?_)
        refine g_mv rfl rfl (gT ?_)
        refine g_bin rfl rfl rfl rfl rfl (gT ?_)
        obtain ⟨c6, H⟩ := it1 H
        refine g_shl rfl rfl rfl rfl (by omega) (gT ?_)
        refine g_fd rfl rfl fa67_1 rfl (gT ?_)
        refine g_ldc rfl rfl ag35 sz35 rfl rfl rfl (gT ?_)
        refine g_mv rfl rfl (gT ?_)
        refine g_shr rfl rfl rfl rfl (by omega) (gT ?_)
        refine g_bin rfl rfl rfl rfl rfl (gT ?_)
        refine g_bd rfl rfl zr67 Try.underlying67 (pl := [(0, 1), (1, 1)]) (by kernel_rfl) ?_; refine gB ?_
        refine g_st rfl rfl sz67 rfl rfl rfl (by rfl) (Nat.le_of_ble_eq_true rfl) (gU ?_)
        refine g_nil (hK _ _ _ (by kernel_rfl) ?_)
        refine k_block ?_
        refine k_wk (σ := [0, 4, 12]) [1, 0, 1, 1] rfl (by decide) rfl ?_; refine gC ?_
        exact gI (ih0 a1 a0_0 a0_1 0 0 (shr .u64 a0_0 a1) (Go.bits .or .u64 (shl .u64 a0_0 (wrap64 (64 - a1))) (shr .u64 a0_1 a1)) r H)

set_option maxHeartbeats 8000000 in
set_option maxRecDepth 100000 in
theorem round_split.does {k : Nat} {a0_0 : Int} {a0_1 : Int} {a1 : Int} {a2 : Bool} {r : Bool × Bool} (H : round_split.f k a0_0 a0_1 a1 a2 = some r) : Do E0 (.fn 54 [.a [.i .u64 a0_0, .i .u64 a0_1], .i .i64 a1, .b a2] [] (.t [.b r.1, .b r.2]) []) := by
  refine fn_wpl Try.func54 rfl (Q := (round_split.Q a0_0 a0_1 a1 a2 r)) (fun s h => h) ?_
  unfold round_split.f at H
  simp only [Try.ntmps54, List.length, List.replicate, Nat.reduceAdd, Nat.reduceSub, List.cons_append, List.nil_append]
  refine w_seq ?_
  refine wR fun K hK => ?_
  refine g_box rfl rfl rfl (by rfl) (gU ?_)
  refine g_as rfl rfl (gT ?_)
  refine g_as rfl rfl (gT ?_)
  refine g_nil (hK _ _ _ ?_)
  refine k_seq ?_
  refine w_seq ?_
  refine w_seq ?_
  refine wR fun K hK => ?_
  refine g_mv rfl rfl (gT ?_)
  refine g_bin rfl rfl rfl rfl rfl (gT ?_)
  refine g_nil (hK _ _ _ ?_)
  refine k_seq ?_
  rcases its H with ⟨c1, H⟩ | ⟨c1, H⟩
  · have c1b := decide_eq_true c1; try simp only [c1b, nrm]
    refine w_cond rfl (fun _ => ?_) (fun h => Bool.noConfusion h)
    refine w_seq ?_
    refine wR fun K hK => ?_
    refine g_mv rfl rfl (gT ?_)
    refine g_as rfl rfl (gT ?_)
    refine g_as rfl rfl (gT ?_)
    refine g_nil (hK _ _ _ ?_)
    refine k_seq ?_
    refine w_ret ?_
    refine fin_wp (τ := []) rfl (by decide) ?_; rw [← Option.some.inj H]; simp only [Try.f54]; exact gF
  · have c1b := decide_eq_false c1; try simp only [c1b, nrm]
    refine w_cond rfl (fun h => Bool.noConfusion h) (fun _ => ?_)
    refine w_skip ?_
    refine k_seq ?_
    refine w_seq ?_
    refine wR fun K hK => ?_
    refine g_lda rfl rfl ag67 sz67 rfl rfl (Nat.le_of_ble_eq_true rfl) (gT ?_)
    refine g_mv rfl rfl (gT ?_)
    refine g_bin rfl rfl rfl rfl rfl (gT ?_)
    obtain ⟨q2, hq2, H⟩ := bnd H
    refine g_cs [] rfl rfl (by rfl) Try.func53 rfl (by decide) (wide_Wide_Right.does hq2) ⟨Nat.le_of_ble_eq_true rfl, Nat.le_of_ble_eq_true rfl⟩ ?_; refine gC ?_
    refine g_mv rfl rfl (gT ?_)
    refine g_ext rfl rfl rfl (Nat.le_of_ble_eq_true rfl) (gT ?_)
    refine g_ext rfl rfl rfl (Nat.le_of_ble_eq_true rfl) (gT ?_)
    refine g_alloc rfl rfl zr67 (gU ?_)
    refine g_st rfl rfl sz67 rfl rfl rfl (by rfl) (Nat.le_of_ble_eq_true rfl) (gU ?_)
    refine g_as rfl rfl (gT ?_)
    refine g_nil (hK _ _ _ ?_)
    refine k_seq ?_
    refine w_seq ?_
    refine wR fun K hK => ?_
    refine g_fd rfl rfl fa67_1 rfl (gT ?_)
    refine g_ldc rfl rfl ag35 sz35 rfl rfl rfl (gT ?_)
    refine g_bin rfl rfl rfl rfl rfl (gT ?_)
    refine g_bin rfl rfl rfl rfl rfl (gT ?_)
    refine g_as rfl rfl (gT ?_)
    refine g_nil (hK _ _ _ ?_)
    refine k_seq ?_
    refine w_seq ?_
    refine wR fun K hK => ?_
    refine g_mv rfl rfl (gT ?_)
    refine g_mv rfl rfl (gT ?_)
    refine g_as rfl rfl (gT ?_)
    refine g_as rfl rfl (gT ?_)
    refine g_nil (hK _ _ _ ?_)
    refine k_seq ?_
    refine w_ret ?_
    refine fin_wp (τ := []) rfl (by decide) ?_; rw [← Option.some.inj H]; simp only [Try.f54]; exact gF

set_option maxHeartbeats 8000000 in
set_option maxRecDepth 100000 in
theorem wide_Wide_Add.does {a0_0 : Int} {a0_1 : Int} {a1_0 : Int} {a1_1 : Int} {r : Int × Int × Bool} (H : wide_Wide_Add.f a0_0 a0_1 a1_0 a1_1 = some r) : Do E0 (.fn 34 [.a [.i .u64 a0_0, .i .u64 a0_1], .a [.i .u64 a1_0, .i .u64 a1_1]] [] (.t [.a [.i .u64 r.1, .i .u64 r.2.1], .b r.2.2]) []) := by
  refine fn_wpl Try.func34 rfl (Q := (wide_Wide_Add.Q a0_0 a0_1 a1_0 a1_1 r)) (fun s h => h) ?_
  unfold wide_Wide_Add.f at H
  simp only [Try.ntmps34, List.length, List.replicate, Nat.reduceAdd, Nat.reduceSub, List.cons_append, List.nil_append]
  refine w_seq ?_
  refine wR fun K hK => ?_
  refine g_box rfl rfl rfl (by rfl) (gU ?_)
  refine g_box rfl rfl rfl (by rfl) (gU ?_)
  refine g_alloc rfl rfl zr67 (gU ?_)
  refine g_as rfl rfl (gT ?_)
  refine g_nil (hK _ _ _ ?_)
  refine k_seq ?_
  refine w_seq ?_
  refine wR fun K hK => ?_
  refine g_fd rfl rfl fa67_1 rfl (gT ?_)
  refine g_ldc rfl rfl ag35 sz35 rfl rfl rfl (gT ?_)
  refine g_fd rfl rfl fa67_1 rfl (gT ?_)
  refine g_ldc rfl rfl ag35 sz35 rfl rfl rfl (gT ?_)
  obtain ⟨q1, hq1, H⟩ := bnd H
  refine g_ex rfl rfl Try.func51 rfl (bits_Add64.ext hq1) (gT ?_)
  refine g_mv rfl rfl (gT ?_)
  refine g_ext rfl rfl rfl (Nat.le_of_ble_eq_true rfl) (gT ?_)
  refine g_ext rfl rfl rfl (Nat.le_of_ble_eq_true rfl) (gT ?_)
  refine g_as rfl rfl (gT ?_)
  refine g_as rfl rfl (gT ?_)
  refine g_nil (hK _ _ _ ?_)
  refine k_seq ?_
  refine w_seq ?_
  refine wR fun K hK => ?_
  refine g_fd rfl rfl fa67_0 rfl (gT ?_)
  refine g_ldc rfl rfl ag35 sz35 rfl rfl rfl (gT ?_)
  refine g_fd rfl rfl fa67_0 rfl (gT ?_)
  refine g_ldc rfl rfl ag35 sz35 rfl rfl rfl (gT ?_)
  refine g_mv rfl rfl (gT ?_)
  obtain ⟨q2, hq2, H⟩ := bnd H
  refine g_ex rfl rfl Try.func51 rfl (bits_Add64.ext hq2) (gT ?_)
  refine g_mv rfl rfl (gT ?_)
  refine g_ext rfl rfl rfl (Nat.le_of_ble_eq_true rfl) (gT ?_)
  refine g_ext rfl rfl rfl (Nat.le_of_ble_eq_true rfl) (gT ?_)
  refine g_as rfl rfl (gT ?_)
  refine g_as rfl rfl (gT ?_)
  refine g_nil (hK _ _ _ ?_)
  refine k_seq ?_
  refine w_seq ?_
  refine wR fun K hK => ?_
  refine g_mv rfl rfl (gT ?_)
  refine g_mv rfl rfl (gT ?_)
  refine g_bd rfl rfl zr67 Try.underlying67 (pl := [(0, 1), (1, 1)]) (by kernel_rfl) ?_; refine gB ?_
  refine g_mv rfl rfl (gT ?_)
  refine g_bin rfl rfl rfl rfl rfl (gT ?_)
  refine g_st rfl rfl sz67 rfl rfl rfl (by rfl) (Nat.le_of_ble_eq_true rfl) (gU ?_)
  refine g_as rfl rfl (gT ?_)
  refine g_nil (hK _ _ _ ?_)
  refine k_seq ?_
  refine w_ret ?_
  refine fin_wp (τ := []) rfl (by decide) ?_; rw [← Option.some.inj H]; simp only [Try.f34, ag67, sz67, nrm, nrmw, nrmc, nrme, nrmo, nrml, nrmb, nrmx, Nat.reduceEqDiff, Nat.reduceBEq, Nat.zero_add, Nat.add_zero, Nat.mul_one, List.length_cons, List.length_nil, List.length_map, List.length_set, List.length_replicate, List.drop_zero, List.drop_succ_cons, List.drop_nil, List.take_zero, List.take_succ_cons, List.take_nil, Nat.le_refl, if_true, if_false, Option.any_none, Option.any_some, List.contains_nil, Bool.not_false, Bool.or_true, Bool.true_or, Bool.or_false, Bool.false_or, Bool.and_true, Bool.true_and, Bool.and_self, reduceCtorEq, beq_self_eq_true, List.map_cons, List.map_nil, List.append_nil, List.nil_append, List.filter_cons, List.filter_nil, List.cons_append, Bool.false_eq_true, true_and, and_true, List.getElem_toArray, List.getElem_cons_zero, List.getElem_cons_succ, Nat.reduceAdd, Nat.reduceMul, Nat.reduceLT, Nat.reduceSub, Nat.reduceLeDiff]; try (first | rfl | exact ⟨rfl, trivial⟩ | exact ⟨rfl, rfl⟩)

set_option maxHeartbeats 8000000 in
set_option maxRecDepth 100000 in
theorem round_Round.does_l {a0 : Bool} {a1_0 : Int} {a1_1 : Int} {a2 : Int} {a3 : Bool} (k : Nat) : (∀ (neg_0 : Bool) (exp_2 : Int) (more_3 : Bool) (drop_10 : Int) (tiny_11 : Bool) (h0_0 : Int) (h0_1 : Int) (r : Int × Int), round_Round.j0 k neg_0 exp_2 more_3 drop_10 tiny_11 h0_0 h0_1 = some r → kont E0 (round_Round.Q a0 a1_0 a1_1 a2 a3 r) (frs (bodyOf Try.f36) [1, 1, 1, 1, 1, 0, 1] []) .normal ⟨[.b neg_0, .u, .i .i64 exp_2, .b more_3, .u, .p (some (0, 0)), .u, .u, .u, .u, .i .i64 drop_10, .b tiny_11, .u, .u, .u, .u, .u, .u, .u, .u, .u, .u, .u, .u, .u, .u, .u, .u, .u, .u, .u, .u, .u, .u, .u, .u, .u, .u, .u, .u, .u, .u, .u, .u, .u, .u, .u, .u, .u, .u, .u, .u, .u, .u, .u, .u, .u, .u, .u, .u, .u, .u, .u, .u, .u, .u, .u, .u, .u, .u, .u, .u, .u, .u, .u, .u, .u, .u, .u, .u, .u, .u, .u, .u, .u, .u, .u, .u, .u, .u, .u, .u, .u, .u, .u, .u, .u, .u, .u, .u, .u, .u, .u, .u, .u, .u, .u, .u, .u, .u, .u, .u, .u, .u, .u, .u, .u, .u, .u, .u, .u, .u, .u, .u, .u, .u, .u, .u, .u, .u, .u, .u, .u, .u, .u, .u, .u, .u, .u, .u, .u], ofL [.row [.i .u64 h0_0, .i .u64 h0_1] 0 0 true true none], 1, 0⟩) ∧
    (∀ (neg_0 : Bool) (exp_2 : Int) (more_3 : Bool) (drop_10 : Int) (tiny_11 : Bool) (lost_12 : Bool) (half_13 : Bool) (fell_15 : Bool) (h0_0 : Int) (h0_1 : Int) (h1_0 : Int) (h1_1 : Int) (r : Int × Int), round_Round.j1 k neg_0 exp_2 more_3 drop_10 tiny_11 lost_12 half_13 fell_15 h1_0 h1_1 = some r → kont E0 (round_Round.Q a0 a1_0 a1_1 a2 a3 r) (frs (bodyOf Try.f36) [1, 1, 1, 1, 1, 1, 1, 0, 1, 0, 1, 1, 1, 0] []) .normal ⟨[.b neg_0, .u, .i .i64 exp_2, .b more_3, .u, .p (some (0, 0)), .u, .u, .u, .u, .i .i64 drop_10, .b tiny_11, .b lost_12, .b half_13, .p (some (1, 0)), .b fell_15, .u, .u, .u, .u, .u, .u, .u, .u, .u, .u, .u, .u, .u, .u, .u, .u, .u, .u, .u, .u, .u, .u, .u, .u, .u, .u, .u, .u, .u, .u, .u, .u, .u, .u, .u, .u, .u, .u, .u, .u, .u, .u, .u, .u, .u, .u, .u, .u, .u, .u, .u, .u, .u, .u, .u, .u, .u, .u, .u, .u, .u, .u, .u, .u, .u, .u, .u, .u, .u, .u, .u, .u, .u, .u, .u, .u, .u, .u, .u, .u, .u, .u, .u, .u, .u, .u, .u, .u, .u, .u, .u, .u, .u, .u, .u, .u, .u, .u, .u, .u, .u, .u, .u, .u, .u, .u, .u, .u, .u, .u, .u, .u, .u, .u, .u, .u, .u, .u, .u, .u, .u, .u, .u, .u, .u], ofL [.row [.i .u64 h0_0, .i .u64 h0_1] 0 0 true true none, .row [.i .u64 h1_0, .i .u64 h1_1] 0 0 true true none], 2, 0⟩) ∧
    (∀ (neg_0 : Bool) (exp_2 : Int) (drop_10 : Int) (tiny_11 : Bool) (lost_12 : Bool) (t_91 : Bool) (h0_0 : Int) (h0_1 : Int) (r : Int × Int), round_Round.j3 k neg_0 exp_2 drop_10 tiny_11 lost_12 t_91 h0_0 h0_1 = some r → kont E0 (round_Round.Q a0 a1_0 a1_1 a2 a3 r) (frs (bodyOf Try.f36) [1, 1, 1, 1, 1, 1, 1, 0, 1, 1, 0] []) .normal ⟨[.b neg_0, .u, .i .i64 exp_2, .u, .u, .p (some (0, 0)), .u, .u, .u, .u, .i .i64 drop_10, .b tiny_11, .b lost_12, .u, .u, .u, .u, .u, .u, .u, .u, .u, .u, .u, .u, .u, .u, .u, .u, .u, .u, .u, .u, .u, .u, .u, .u, .u, .u, .u, .u, .u, .u, .u, .u, .u, .u, .u, .u, .u, .u, .u, .u, .u, .u, .u, .u, .u, .u, .u, .u, .u, .u, .u, .u, .u, .u, .u, .u, .u, .u, .u, .u, .u, .u, .u, .u, .u, .u, .u, .u, .u, .u, .u, .u, .u, .u, .u, .u, .u, .u, .b t_91, .u, .u, .u, .u, .u, .u, .u, .u, .u, .u, .u, .u, .u, .u, .u, .u, .u, .u, .u, .u, .u, .u, .u, .u, .u, .u, .u, .u, .u, .u, .u, .u, .u, .u, .u, .u, .u, .u, .u, .u, .u, .u, .u, .u, .u, .u, .u, .u, .u], ofL [.row [.i .u64 h0_0, .i .u64 h0_1] 0 0 true true none], 1, 0⟩) ∧
    (∀ (neg_0 : Bool) (exp_2 : Int) (drop_10 : Int) (tiny_11 : Bool) (lost_12 : Bool) (t_79 : Bool) (h0_0 : Int) (h0_1 : Int) (r : Int × Int), round_Round.j2 k neg_0 exp_2 drop_10 tiny_11 lost_12 t_79 h0_0 h0_1 = some r → kont E0 (round_Round.Q a0 a1_0 a1_1 a2 a3 r) (frs (bodyOf Try.f36) [1, 1, 1, 1, 1, 1, 1, 0, 1, 0, 1, 1, 1, 1, 1, 0] []) .normal ⟨[.b neg_0, .u, .i .i64 exp_2, .u, .u, .p (some (0, 0)), .u, .u, .u, .u, .i .i64 drop_10, .b tiny_11, .b lost_12, .u, .u, .u, .u, .u, .u, .u, .u, .u, .u, .u, .u, .u, .u, .u, .u, .u, .u, .u, .u, .u, .u, .u, .u, .u, .u, .u, .u, .u, .u, .u, .u, .u, .u, .u, .u, .u, .u, .u, .u, .u, .u, .u, .u, .u, .u, .u, .u, .u, .u, .u, .u, .u, .u, .u, .u, .u, .u, .u, .u, .u, .u, .u, .u, .u, .u, .b t_79, .u, .u, .u, .u, .u, .u, .u, .u, .u, .u, .u, .u, .u, .u, .u, .u, .u, .u, .u, .u, .u, .u, .u, .u, .u, .u, .u, .u, .u, .u, .u, .u, .u, .u, .u, .u, .u, .u, .u, .u, .u, .u, .u, .u, .u, .u, .u, .u, .u, .u, .u, .u, .u, .u, .u, .u, .u, .u, .u, .u, .u], ofL [.row [.i .u64 h0_0, .i .u64 h0_1] 0 0 true true none], 1, 0⟩) ∧
    (∀ (neg_0 : Bool) (exp_2 : Int) (drop_10 : Int) (tiny_11 : Bool) (lost_12 : Bool) (h0_0 : Int) (h0_1 : Int) (r : Int × Int), round_Round.j4 k neg_0 exp_2 drop_10 tiny_11 lost_12 h0_0 h0_1 = some r → kont E0 (round_Round.Q a0 a1_0 a1_1 a2 a3 r) (frs (bodyOf Try.f36) [1, 1, 1, 1, 1, 1, 1, 0, 1] []) .normal ⟨[.b neg_0, .u, .i .i64 exp_2, .u, .u, .p (some (0, 0)), .u, .u, .u, .u, .i .i64 drop_10, .b tiny_11, .b lost_12, .u, .u, .u, .u, .u, .u, .u, .u, .u, .u, .u, .u, .u, .u, .u, .u, .u, .u, .u, .u, .u, .u, .u, .u, .u, .u, .u, .u, .u, .u, .u, .u, .u, .u, .u, .u, .u, .u, .u, .u, .u, .u, .u, .u, .u, .u, .u, .u, .u, .u, .u, .u, .u, .u, .u, .u, .u, .u, .u, .u, .u, .u, .u, .u, .u, .u, .u, .u, .u, .u, .u, .u, .u, .u, .u, .u, .u, .u, .u, .u, .u, .u, .u, .u, .u, .u, .u, .u, .u, .u, .u, .u, .u, .u, .u, .u, .u, .u, .u, .u, .u, .u, .u, .u, .u, .u, .u, .u, .u, .u, .u, .u, .u, .u, .u, .u, .u, .u, .u, .u, .u, .u, .u, .u, .u, .u, .u, .u], ofL [.row [.i .u64 h0_0, .i .u64 h0_1] 0 0 true true none], 1, 0⟩) ∧
    (∀ (neg_0 : Bool) (exp_2 : Int) (tiny_11 : Bool) (lost_12 : Bool) (m_16 : Int) (r : Int × Int), round_Round.j5 k neg_0 exp_2 tiny_11 lost_12 m_16 = some r → kont E0 (round_Round.Q a0 a1_0 a1_1 a2 a3 r) (frs (bodyOf Try.f36) [1, 1, 1, 1, 1, 1, 1, 1, 1, 1, 0, 1] []) .normal ⟨[.b neg_0, .u, .i .i64 exp_2, .u, .u, .u, .u, .u, .u, .u, .u, .b tiny_11, .b lost_12, .u, .u, .u, .i .u64 m_16, .u, .u, .u, .u, .u, .u, .u, .u, .u, .u, .u, .u, .u, .u, .u, .u, .u, .u, .u, .u, .u, .u, .u, .u, .u, .u, .u, .u, .u, .u, .u, .u, .u, .u, .u, .u, .u, .u, .u, .u, .u, .u, .u, .u, .u, .u, .u, .u, .u, .u, .u, .u, .u, .u, .u, .u, .u, .u, .u, .u, .u, .u, .u, .u, .u, .u, .u, .u, .u, .u, .u, .u, .u, .u, .u, .u, .u, .u, .u, .u, .u, .u, .u, .u, .u, .u, .u, .u, .u, .u, .u, .u, .u, .u, .u, .u, .u, .u, .u, .u, .u, .u, .u, .u, .u, .u, .u, .u, .u, .u, .u, .u, .u, .u, .u, .u, .u, .u, .u, .u, .u, .u, .u, .u], ofL [], 0, 0⟩) ∧
    (∀ (neg_0 : Bool) (exp_2 : Int) (m_16 : Int) (f_17 : Int) (r : Int × Int), round_Round.j6 k neg_0 exp_2 m_16 f_17 = some r → kont E0 (round_Round.Q a0 a1_0 a1_1 a2 a3 r) (frs (bodyOf Try.f36) [1, 1, 1, 1, 1, 1, 1, 1, 1, 1, 1, 1, 0, 1] []) .normal ⟨[.b neg_0, .u, .i .i64 exp_2, .u, .u, .u, .u, .u, .u, .u, .u, .u, .u, .u, .u, .u, .i .u64 m_16, .i .u8 f_17, .u, .u, .u, .u, .u, .u, .u, .u, .u, .u, .u, .u, .u, .u, .u, .u, .u, .u, .u, .u, .u, .u, .u, .u, .u, .u, .u, .u, .u, .u, .u, .u, .u, .u, .u, .u, .u, .u, .u, .u, .u, .u, .u, .u, .u, .u, .u, .u, .u, .u, .u, .u, .u, .u, .u, .u, .u, .u, .u, .u, .u, .u, .u, .u, .u, .u, .u, .u, .u, .u, .u, .u, .u, .u, .u, .u, .u, .u, .u, .u, .u, .u, .u, .u, .u, .u, .u, .u, .u, .u, .u, .u, .u, .u, .u, .u, .u, .u, .u, .u, .u, .u, .u, .u, .u, .u, .u, .u, .u, .u, .u, .u, .u, .u, .u, .u, .u, .u, .u, .u, .u, .u, .u], ofL [], 0, 0⟩) := by
  induction k with
  | zero => exact ⟨fun _ _ _ _ _ _ _ r h => by simp [round_Round.j0] at h, fun _ _ _ _ _ _ _ _ _ _ _ _ r h => by simp [round_Round.j1] at h, fun _ _ _ _ _ _ _ _ r h => by simp [round_Round.j3] at h, fun _ _ _ _ _ _ _ _ r h => by simp [round_Round.j2] at h, fun _ _ _ _ _ _ _ r h => by simp [round_Round.j4] at h, fun _ _ _ _ _ r h => by simp [round_Round.j5] at h, fun _ _ _ _ r h => by simp [round_Round.j6] at h⟩
  | succ k ih =>
    obtain ⟨ih0, ih1, ih2, ih3, ih4, ih5, ih6⟩ := ih
    refine ⟨?_, ?_, ?_, ?_, ?_, ?_, ?_⟩
    · intro neg_0 exp_2 more_3 drop_10 tiny_11 h0_0 h0_1 r H
      unfold round_Round.j0 at H
      simp only [bodyOf, Try.f36, frs, sub, if_true, if_false, Nat.one_ne_zero]
      refine k_seq ?_
      refine w_seq ?_
      refine wR fun K hK => ?_
      refine g_mv rfl rfl (gT ?_)
      refine g_as rfl rfl (gT ?_)
      refine g_nil (hK _ _ _ ?_)
      refine k_seq ?_
      refine w_seq ?_
      refine w_seq ?_
      refine wR fun K hK => ?_
      refine g_mv rfl rfl (gT ?_)
      refine g_bin rfl rfl rfl rfl rfl (gT ?_)
      refine g_nil (hK _ _ _ ?_)
      refine k_seq ?_
      rcases its H with ⟨c9, H⟩ | ⟨c9, H⟩
      · have c9b := decide_eq_true c9; try simp only [c9b, nrm]
        refine w_cond rfl (fun _ => ?_) (fun h => Bool.noConfusion h)
        refine w_seq ?_
        refine wR fun K hK => ?_
        refine g_as rfl rfl (gT ?_)
        refine g_nil (hK _ _ _ ?_)
        refine k_seq ?_
        refine w_seq ?_
        refine wR fun K hK => ?_
        refine g_lda rfl rfl ag67 sz67 rfl rfl (Nat.le_of_ble_eq_true rfl) (gT ?_)
        refine g_mv rfl rfl (gT ?_)
        obtain ⟨q10, hq10, H⟩ := bnd H
        refine g_cs [] rfl rfl (by rfl) Try.func53 rfl (by decide) (wide_Wide_Right.does hq10) ⟨Nat.le_of_ble_eq_true rfl, Nat.le_of_ble_eq_true rfl⟩ ?_; refine gC ?_
        refine g_mv rfl rfl (gT ?_)
        refine g_ext rfl rfl rfl (Nat.le_of_ble_eq_true rfl) (gT ?_)
        refine g_ext rfl rfl rfl (Nat.le_of_ble_eq_true rfl) (gT ?_)
        refine g_alloc rfl rfl zr67 (gU ?_)
        refine g_st rfl rfl sz67 rfl rfl rfl (by rfl) (Nat.le_of_ble_eq_true rfl) (gU ?_)
        refine g_as rfl rfl (gT ?_)
        refine g_nil (hK _ _ _ ?_)
        refine k_seq ?_
        refine w_seq ?_
        refine wR fun K hK => ?_
        refine g_lda rfl rfl ag67 sz67 rfl rfl (Nat.le_of_ble_eq_true rfl) (gT ?_)
        refine g_mv rfl rfl (gT ?_)
        refine g_mv rfl rfl (gT ?_)
        obtain ⟨q11, hq11, H⟩ := bnd H
        refine g_cs [] rfl rfl (by rfl) Try.func54 rfl (by decide) (round_split.does hq11) ⟨Nat.le_of_ble_eq_true rfl, Nat.le_of_ble_eq_true rfl⟩ ?_; refine gC ?_
        refine g_mv rfl rfl (gT ?_)
        refine g_ext rfl rfl rfl (Nat.le_of_ble_eq_true rfl) (gT ?_)
        refine g_ext rfl rfl rfl (Nat.le_of_ble_eq_true rfl) (gT ?_)
        refine g_as rfl rfl (gT ?_)
        refine g_as rfl rfl (gT ?_)
        refine g_nil (hK _ _ _ ?_)
        refine k_seq ?_
        refine w_seq ?_
        refine wR fun K hK => ?_
        refine g_mv rfl rfl (gT ?_)
        refine g_mv rfl rfl (gT ?_)
        rcases its H with ⟨c12, H⟩ | ⟨c12, H⟩
        · have c12b : q11.1 = true := c12; try simp only [c12b, nrm]
          refine g_sk rfl rfl (gT ?_)
          refine g_pick rfl rfl rfl (gT ?_)
          refine g_mv rfl rfl (gT ?_)
          refine g_sk rfl rfl (gT ?_)
          refine g_pick rfl rfl rfl (gT ?_)
          refine g_as rfl rfl (gT ?_)
          refine g_nil (hK _ _ _ ?_)
          refine k_wk (σ := [0, 45]) [0, 1, 0, 1, 4, 0, 0, 0, 0, 0] rfl (by decide) rfl ?_; refine gC ?_
          exact gI (ih1 neg_0 exp_2 more_3 drop_10 tiny_11 true true q11.2 h0_0 h0_1 q10.1 q10.2.1 r H)
        · have c12b : q11.1 = false := Bool.eq_false_iff.mpr c12; try simp only [c12b, nrm]
          refine g_mv rfl rfl (gT ?_)
          refine g_pick rfl rfl rfl (gT ?_)
          refine g_mv rfl rfl (gT ?_)
          rcases its H with ⟨c13, H⟩ | ⟨c13, H⟩
          · have c13b : q11.2 = true := c13; try simp only [c13b, nrm]
            refine g_sk rfl rfl (gT ?_)
            refine g_pick rfl rfl rfl (gT ?_)
            refine g_as rfl rfl (gT ?_)
            refine g_nil (hK _ _ _ ?_)
            refine k_wk (σ := [0, 45]) [0, 1, 0, 1, 4, 0, 0, 0, 0, 0] rfl (by decide) rfl ?_; refine gC ?_
            exact gI (ih1 neg_0 exp_2 more_3 drop_10 tiny_11 true false true h0_0 h0_1 q10.1 q10.2.1 r H)
          · have c13b : q11.2 = false := Bool.eq_false_iff.mpr c13; try simp only [c13b, nrm]
            refine g_mv rfl rfl (gT ?_)
            refine g_pick rfl rfl rfl (gT ?_)
            refine g_as rfl rfl (gT ?_)
            refine g_nil (hK _ _ _ ?_)
            refine k_wk (σ := [0, 45]) [0, 1, 0, 1, 4, 0, 0, 0, 0, 0] rfl (by decide) rfl ?_; refine gC ?_
            exact gI (ih1 neg_0 exp_2 more_3 drop_10 tiny_11 more_3 false false h0_0 h0_1 q10.1 q10.2.1 r H)
      · have c9b := decide_eq_false c9; try simp only [c9b, nrm]
        refine w_cond rfl (fun h => Bool.noConfusion h) (fun _ => ?_)
        refine w_seq ?_
        refine wR fun K hK => ?_
        refine g_mv rfl rfl (gT ?_)
        refine g_bin rfl rfl rfl rfl rfl (gT ?_)
        refine g_mv rfl rfl (gT ?_)
        rcases its H with ⟨c14, H⟩ | ⟨c14, H⟩
        · have c14b := decide_eq_true c14; try simp only [c14b, nrm]
          refine g_mv rfl rfl (gT ?_)
          refine g_un rfl rfl rfl rfl (gT ?_)
          refine g_pick rfl rfl rfl (gT ?_)
          refine g_nil (hK _ _ _ ?_)
          refine k_wk (σ := [0]) [0, 1, 2, 4, 0, 0, 78] rfl (by decide) rfl ?_; refine gC ?_
          exact gI (ih2 neg_0 exp_2 drop_10 tiny_11 more_3 (!more_3) h0_0 h0_1 r H)
        · have c14b := decide_eq_false c14; try simp only [c14b, nrm]
          refine g_sk rfl rfl (gT ?_)
          refine g_sk rfl rfl (gT ?_)
          refine g_pick rfl rfl rfl (gT ?_)
          refine g_nil (hK _ _ _ ?_)
          refine k_wk (σ := [0]) [0, 1, 2, 4, 0, 0, 78] rfl (by decide) rfl ?_; refine gC ?_
          exact gI (ih2 neg_0 exp_2 drop_10 tiny_11 more_3 false h0_0 h0_1 r H)
    · intro neg_0 exp_2 more_3 drop_10 tiny_11 lost_12 half_13 fell_15 h0_0 h0_1 h1_0 h1_1 r H
      unfold round_Round.j1 at H
      simp only [bodyOf, Try.f36, frs, sub, if_true, if_false, Nat.one_ne_zero]
      refine k_seq ?_
      refine w_seq ?_
      refine wR fun K hK => ?_
      refine g_lda rfl rfl ag67 sz67 rfl rfl (Nat.le_of_ble_eq_true rfl) (gT ?_)
      refine g_st rfl rfl sz67 rfl rfl rfl (by rfl) (Nat.le_of_ble_eq_true rfl) (gU ?_)
      refine g_nil (hK _ _ _ ?_)
      refine k_seq ?_
      refine w_seq ?_
      refine wR fun K hK => ?_
      refine g_mv rfl rfl (gT ?_)
      refine g_mv rfl rfl (gT ?_)
      rcases its H with ⟨c15, H⟩ | ⟨c15, H⟩
      · have c15b : half_13 = true := c15; try simp only [c15b, nrm]
        refine g_mv rfl rfl (gT ?_)
        refine g_mv rfl rfl (gT ?_)
        rcases its H with ⟨c16, H⟩ | ⟨c16, H⟩
        · have c16b : fell_15 = true := c16; try simp only [c16b, nrm]
          refine g_sk rfl rfl (gT ?_)
          refine g_pick rfl rfl rfl (gT ?_)
          refine g_mv rfl rfl (gT ?_)
          refine g_sk rfl rfl (gT ?_)
          refine g_sk rfl rfl (gT ?_)
          refine g_sk rfl rfl (gT ?_)
          refine g_sk rfl rfl (gT ?_)
          refine g_pick rfl rfl rfl (gT ?_)
          refine g_pick rfl rfl rfl (gT ?_)
          refine g_nil (hK _ _ _ ?_)
          refine k_wk (σ := [0]) [0, 1, 2, 4, 0, 0, 66] rfl (by decide) rfl ?_; refine gC ?_
          exact gI (ih3 neg_0 exp_2 drop_10 tiny_11 lost_12 true h1_0 h1_1 r H)
        · have c16b : fell_15 = false := Bool.eq_false_iff.mpr c16; try simp only [c16b, nrm]
          refine g_mv rfl rfl (gT ?_)
          refine g_pick rfl rfl rfl (gT ?_)
          refine g_mv rfl rfl (gT ?_)
          rcases its H with ⟨c17, H⟩ | ⟨c17, H⟩
          · have c17b : more_3 = true := c17; try simp only [c17b, nrm]
            refine g_sk rfl rfl (gT ?_)
            refine g_sk rfl rfl (gT ?_)
            refine g_sk rfl rfl (gT ?_)
            refine g_sk rfl rfl (gT ?_)
            refine g_pick rfl rfl rfl (gT ?_)
            refine g_pick rfl rfl rfl (gT ?_)
            refine g_nil (hK _ _ _ ?_)
            refine k_wk (σ := [0]) [0, 1, 2, 4, 0, 0, 66] rfl (by decide) rfl ?_; refine gC ?_
            exact gI (ih3 neg_0 exp_2 drop_10 tiny_11 lost_12 true h1_0 h1_1 r H)
          · have c17b : more_3 = false := Bool.eq_false_iff.mpr c17; try simp only [c17b, nrm]
            refine g_fd rfl rfl fa67_1 rfl (gT ?_)
            refine g_ldc rfl rfl ag35 sz35 rfl rfl rfl (gT ?_)
            refine g_bin rfl rfl rfl rfl rfl (gT ?_)
            refine g_bin rfl rfl rfl rfl rfl (gT ?_)
            refine g_pick rfl rfl rfl (gT ?_)
            refine g_pick rfl rfl rfl (gT ?_)
            refine g_nil (hK _ _ _ ?_)
            refine k_wk (σ := [0]) [0, 1, 2, 4, 0, 0, 66] rfl (by decide) rfl ?_; refine gC ?_
            exact gI (ih3 neg_0 exp_2 drop_10 tiny_11 lost_12 ((Go.bits .and .u64 h1_1 1) == 1) h1_0 h1_1 r H)
      · have c15b : half_13 = false := Bool.eq_false_iff.mpr c15; try simp only [c15b, nrm]
        refine g_sk rfl rfl (gT ?_)
        refine g_sk rfl rfl (gT ?_)
        refine g_sk rfl rfl (gT ?_)
        refine g_sk rfl rfl (gT ?_)
        refine g_sk rfl rfl (gT ?_)
        refine g_sk rfl rfl (gT ?_)
        refine g_sk rfl rfl (gT ?_)
        refine g_sk rfl rfl (gT ?_)
        refine g_sk rfl rfl (gT ?_)
        refine g_sk rfl rfl (gT ?_)
        refine g_pick rfl rfl rfl (gT ?_)
        refine g_nil (hK _ _ _ ?_)
        refine k_wk (σ := [0]) [0, 1, 2, 4, 0, 0, 66] rfl (by decide) rfl ?_; refine gC ?_
        exact gI (ih3 neg_0 exp_2 drop_10 tiny_11 lost_12 false h1_0 h1_1 r H)
    · intro neg_0 exp_2 drop_10 tiny_11 lost_12 t_91 h0_0 h0_1 r H
      unfold round_Round.j3 at H
      simp only [bodyOf, Try.f36, frs, sub, if_true, if_false, Nat.one_ne_zero]
      refine k_seq ?_
      rcases its H with ⟨c18, H⟩ | ⟨c18, H⟩
      · have c18b : t_91 = true := c18; try simp only [c18b, nrm]
        refine w_cond rfl (fun _ => ?_) (fun h => Bool.noConfusion h)
        refine wR fun K hK => ?_
        refine g_lda rfl rfl ag67 sz67 rfl rfl (Nat.le_of_ble_eq_true rfl) (gT ?_)
        refine g_mv rfl rfl (gT ?_)
        refine g_un rfl rfl rfl rfl (gT ?_)
        obtain ⟨q19, hq19, H⟩ := bnd H
        refine g_cs [] rfl rfl (by rfl) Try.func35 rfl (by decide) (wide_Wide_Left.does hq19) ⟨Nat.le_of_ble_eq_true rfl, Nat.le_of_ble_eq_true rfl⟩ ?_; refine gC ?_
        refine g_st rfl rfl sz67 rfl rfl rfl (by rfl) (Nat.le_of_ble_eq_true rfl) (gU ?_)
        refine g_nil (hK _ _ _ ?_)
        refine k_wk (σ := [0]) [0, 1, 2, 4, 0, 0] rfl (by decide) rfl ?_; refine gC ?_
        exact gI (ih4 neg_0 exp_2 drop_10 tiny_11 lost_12 q19.1 q19.2 r H)
      · have c18b : t_91 = false := Bool.eq_false_iff.mpr c18; try simp only [c18b, nrm]
        refine w_cond rfl (fun h => Bool.noConfusion h) (fun _ => ?_)
        refine w_seq ?_
        refine wR fun K hK => ?_
        refine g_mv rfl rfl (gT ?_)
        refine g_bin rfl rfl rfl rfl rfl (gT ?_)
        refine g_nil (hK _ _ _ ?_)
        refine k_seq ?_
        rcases its H with ⟨c20, H⟩ | ⟨c20, H⟩
        · have c20b := decide_eq_true c20; try simp only [c20b, nrm]
          refine w_cond rfl (fun _ => ?_) (fun h => Bool.noConfusion h)
          refine wR fun K hK => ?_
          refine g_lda rfl rfl ag67 sz67 rfl rfl (Nat.le_of_ble_eq_true rfl) (gT ?_)
          refine g_mv rfl rfl (gT ?_)
          refine g_un rfl rfl rfl rfl (gT ?_)
          obtain ⟨q21, hq21, H⟩ := bnd H
          refine g_cs [] rfl rfl (by rfl) Try.func35 rfl (by decide) (wide_Wide_Left.does hq21) ⟨Nat.le_of_ble_eq_true rfl, Nat.le_of_ble_eq_true rfl⟩ ?_; refine gC ?_
          refine g_st rfl rfl sz67 rfl rfl rfl (by rfl) (Nat.le_of_ble_eq_true rfl) (gU ?_)
          refine g_nil (hK _ _ _ ?_)
          refine k_wk (σ := [0]) [0, 1, 2, 4, 0, 0] rfl (by decide) rfl ?_; refine gC ?_
          exact gI (ih4 neg_0 exp_2 drop_10 tiny_11 lost_12 q21.1 q21.2 r H)
        · have c20b := decide_eq_false c20; try simp only [c20b, nrm]
          refine w_cond rfl (fun h => Bool.noConfusion h) (fun _ => ?_)
          refine w_skip ?_
          refine k_wk (σ := [0]) [0, 1, 2, 4, 0, 0] rfl (by decide) rfl ?_; refine gC ?_
          exact gI (ih4 neg_0 exp_2 drop_10 tiny_11 lost_12 h0_0 h0_1 r H)
    · intro neg_0 exp_2 drop_10 tiny_11 lost_12 t_79 h0_0 h0_1 r H
      unfold round_Round.j2 at H
      simp only [bodyOf, Try.f36, frs, sub, if_true, if_false, Nat.one_ne_zero]
      refine k_seq ?_
      rcases its H with ⟨c22, H⟩ | ⟨c22, H⟩
      · have c22b : t_79 = true := c22; try simp only [c22b, nrm]
        refine w_cond rfl (fun _ => ?_) (fun h => Bool.noConfusion h)
        refine wR fun K hK => ?_
        refine g_lda rfl rfl ag67 sz67 rfl rfl (Nat.le_of_ble_eq_true rfl) (gT ?_)
        refine g_bd rfl rfl zr67 Try.underlying67 (pl := [(0, 1), (1, 1)]) (by kernel_rfl) ?_; refine gB ?_
        obtain ⟨q23, hq23, H⟩ := bnd H
        refine g_cs [] rfl rfl (by rfl) Try.func34 rfl (by decide) (wide_Wide_Add.does hq23) ⟨Nat.le_of_ble_eq_true rfl, Nat.le_of_ble_eq_true rfl⟩ ?_; refine gC ?_
        refine g_mv rfl rfl (gT ?_)
        refine g_ext rfl rfl rfl (Nat.le_of_ble_eq_true rfl) (gT ?_)
        refine g_ext rfl rfl rfl (Nat.le_of_ble_eq_true rfl) (gT ?_)
        refine g_st rfl rfl sz67 rfl rfl rfl (by rfl) (Nat.le_of_ble_eq_true rfl) (gU ?_)
        refine g_nil (hK _ _ _ ?_)
        refine k_wk (σ := [0]) [0, 1, 2, 4, 0, 0] rfl (by decide) rfl ?_; refine gC ?_
        exact gI (ih4 neg_0 exp_2 drop_10 tiny_11 lost_12 q23.1 q23.2.1 r H)
      · have c22b : t_79 = false := Bool.eq_false_iff.mpr c22; try simp only [c22b, nrm]
        refine w_cond rfl (fun h => Bool.noConfusion h) (fun _ => ?_)
        refine w_skip ?_
        refine k_wk (σ := [0]) [0, 1, 2, 4, 0, 0] rfl (by decide) rfl ?_; refine gC ?_
        exact gI (ih4 neg_0 exp_2 drop_10 tiny_11 lost_12 h0_0 h0_1 r H)
    · intro neg_0 exp_2 drop_10 tiny_11 lost_12 h0_0 h0_1 r H
      unfold round_Round.j4 at H
      simp only [bodyOf, Try.f36, frs, sub, if_true, if_false, Nat.one_ne_zero]
      refine k_seq ?_
      refine w_seq ?_
      refine wR fun K hK => ?_
      refine g_mv rfl rfl (gT ?_)
      refine g_mv rfl rfl (gT ?_)
      refine g_bin rfl rfl rfl rfl rfl (gT ?_)
      refine g_as rfl rfl (gT ?_)
      refine g_nil (hK _ _ _ ?_)
      refine k_seq ?_
      refine w_seq ?_
      refine wR fun K hK => ?_
      refine g_fd rfl rfl fa67_1 rfl (gT ?_)
      refine g_ldc rfl rfl ag35 sz35 rfl rfl rfl (gT ?_)
      refine g_as rfl rfl (gT ?_)
      refine g_nil (hK _ _ _ ?_)
      refine k_seq ?_
      refine w_seq ?_
      refine w_seq ?_
      refine wR fun K hK => ?_
      refine g_mv rfl rfl (gT ?_)
      refine g_bin rfl rfl rfl rfl rfl (gT ?_)
      refine g_nil (hK _ _ _ ?_)
      refine k_seq ?_
      rcases its H with ⟨c24, H⟩ | ⟨c24, H⟩
      · have c24b := beq_iff_eq.mpr c24; have c24n := bne_eq_false_iff_eq.mpr c24; try simp only [c24b, c24n, nrm]
        refine w_cond rfl (fun _ => ?_) (fun h => Bool.noConfusion h)
        refine wR fun K hK => ?_
        refine g_mv rfl rfl (gT ?_)
        refine g_shrc (p := 2) rfl rfl rfl rfl (by decide) (by rfl) (gT ?_)
        refine g_mv rfl rfl (gT ?_)
        refine g_bin rfl rfl rfl rfl rfl (gT ?_)
        refine g_as rfl rfl (gT ?_)
        refine g_as rfl rfl (gT ?_)
        refine g_nil (hK _ _ _ ?_)
        refine k_wk (σ := []) [0, 1, 8, 0, 3] rfl (by decide) rfl ?_; refine gC ?_
        exact gI (ih5 neg_0 (wrap64 ((wrap64 (exp_2 + drop_10)) + 1)) tiny_11 lost_12 (h0_1 / 2) r H)
      · have c24b := beq_eq_false_iff_ne.mpr c24; have c24n := bne_iff_ne.mpr c24; try simp only [c24b, c24n, nrm]
        refine w_cond rfl (fun h => Bool.noConfusion h) (fun _ => ?_)
        refine w_skip ?_
        refine k_wk (σ := []) [0, 1, 8, 0, 3] rfl (by decide) rfl ?_; refine gC ?_
        exact gI (ih5 neg_0 (wrap64 (exp_2 + drop_10)) tiny_11 lost_12 h0_1 r H)
    · intro neg_0 exp_2 tiny_11 lost_12 m_16 r H
      unfold round_Round.j5 at H
      simp only [bodyOf, Try.f36, frs, sub, if_true, if_false, Nat.one_ne_zero]
      refine k_seq ?_
      refine w_seq ?_
      refine wR fun K hK => ?_
      refine g_as rfl rfl (gT ?_)
      refine g_nil (hK _ _ _ ?_)
      refine k_seq ?_
      refine w_seq ?_
      refine w_seq ?_
      refine wR fun K hK => ?_
      refine g_mv rfl rfl (gT ?_)
      refine g_nil (hK _ _ _ ?_)
      refine k_seq ?_
      rcases its H with ⟨c25, H⟩ | ⟨c25, H⟩
      · have c25b : lost_12 = true := c25; try simp only [c25b, nrm]
        refine w_cond rfl (fun _ => ?_) (fun h => Bool.noConfusion h)
        refine w_seq ?_
        refine wR fun K hK => ?_
        refine g_mv rfl rfl (gT ?_)
        refine g_bin rfl rfl rfl rfl rfl (gT ?_)
        refine g_as rfl rfl (gT ?_)
        refine g_nil (hK _ _ _ ?_)
        refine k_seq ?_
        refine w_seq ?_
        refine wR fun K hK => ?_
        refine g_mv rfl rfl (gT ?_)
        refine g_nil (hK _ _ _ ?_)
        refine k_seq ?_
        rcases its H with ⟨c26, H⟩ | ⟨c26, H⟩
        · have c26b : tiny_11 = true := c26; try simp only [c26b, nrm]
          refine w_cond rfl (fun _ => ?_) (fun h => Bool.noConfusion h)
          refine wR fun K hK => ?_
          refine g_mv rfl rfl (gT ?_)
          refine g_bin rfl rfl rfl rfl rfl (gT ?_)
          refine g_as rfl rfl (gT ?_)
          refine g_nil (hK _ _ _ ?_)
          refine k_wk (σ := []) [0, 1, 13, 0] rfl (by decide) rfl ?_; refine gC ?_
          exact gI (ih6 neg_0 exp_2 m_16 (Go.bits .or .u8 (Go.bits .or .u8 0 1) 2) r H)
        · have c26b : tiny_11 = false := Bool.eq_false_iff.mpr c26; try simp only [c26b, nrm]
          refine w_cond rfl (fun h => Bool.noConfusion h) (fun _ => ?_)
          refine w_skip ?_
          refine k_wk (σ := []) [0, 1, 13, 0] rfl (by decide) rfl ?_; refine gC ?_
          exact gI (ih6 neg_0 exp_2 m_16 (Go.bits .or .u8 0 1) r H)
      · have c25b : lost_12 = false := Bool.eq_false_iff.mpr c25; try simp only [c25b, nrm]
        refine w_cond rfl (fun h => Bool.noConfusion h) (fun _ => ?_)
        refine w_skip ?_
        refine k_wk (σ := []) [0, 1, 13, 0] rfl (by decide) rfl ?_; refine gC ?_
        exact gI (ih6 neg_0 exp_2 m_16 0 r H)
    · intro neg_0 exp_2 m_16 f_17 r H
      unfold round_Round.j6 at H
      simp only [bodyOf, Try.f36, frs, sub, if_true, if_false, Nat.one_ne_zero]
      refine k_seq ?_
      refine w_seq ?_
      refine w_block ?_
      refine w_seq ?_
      refine wR fun K hK => ?_
      refine g_mv rfl rfl (gT ?_)
      refine g_bin rfl rfl rfl rfl rfl (gT ?_)
      refine g_as rfl rfl (gT ?_)
      refine g_nil (hK _ _ _ ?_)
      refine k_seq ?_
      rcases its H with ⟨c27, H⟩ | ⟨c27, H⟩
      · have c27b := decide_eq_true c27; try simp only [c27b, nrm]
        refine w_cond rfl (fun _ => ?_) (fun h => Bool.noConfusion h)
        refine w_seq ?_
        refine wR fun K hK => ?_
        refine g_mv rfl rfl (gT ?_)
        refine g_mv rfl rfl (gT ?_)
        obtain ⟨q28, hq28, H⟩ := bnd H
        refine g_cs [] rfl rfl (by rfl) Try.func46 rfl (by decide) (word_Make.does hq28) ⟨Nat.le_of_ble_eq_true rfl, Nat.le_of_ble_eq_true rfl⟩ ?_; refine gC ?_
        refine g_mv rfl rfl (gT ?_)
        refine g_as rfl rfl (gT ?_)
        refine g_as rfl rfl (gT ?_)
        refine g_nil (hK _ _ _ ?_)
        refine k_seq ?_
        refine w_ret ?_
        refine fin_wp (τ := []) rfl (by decide) ?_; rw [← Option.some.inj H]; simp only [Try.f36]; exact gF
      · have c27b := decide_eq_false c27; try simp only [c27b, nrm]
        refine w_cond rfl (fun h => Bool.noConfusion h) (fun _ => ?_)
        refine w_seq ?_
        refine wR fun K hK => ?_
        refine g_mv rfl rfl (gT ?_)
        refine g_bin rfl rfl rfl rfl rfl (gT ?_)
        refine g_bin rfl rfl rfl rfl rfl (gT ?_)
        refine g_as rfl rfl (gT ?_)
        refine g_nil (hK _ _ _ ?_)
        refine k_seq ?_
        rcases its H with ⟨c29, H⟩ | ⟨c29, H⟩
        · have c29b := decide_eq_true c29; try simp only [c29b, nrm]
          refine w_cond rfl (fun _ => ?_) (fun h => Bool.noConfusion h)
          refine w_seq ?_
          refine wR fun K hK => ?_
          refine g_mv rfl rfl (gT ?_)
          obtain ⟨q30, hq30, H⟩ := bnd H
          refine g_cs [] rfl rfl (by rfl) Try.func46 rfl (by decide) (word_Make.does hq30) ⟨Nat.le_of_ble_eq_true rfl, Nat.le_of_ble_eq_true rfl⟩ ?_; refine gC ?_
          refine g_mv rfl rfl (gT ?_)
          refine g_bin rfl rfl rfl rfl rfl (gT ?_)
          refine g_bin rfl rfl rfl rfl rfl (gT ?_)
          refine g_as rfl rfl (gT ?_)
          refine g_as rfl rfl (gT ?_)
          refine g_nil (hK _ _ _ ?_)
          refine k_seq ?_
          refine w_ret ?_
          refine fin_wp (τ := []) rfl (by decide) ?_; rw [← Option.some.inj H]; simp only [Try.f36]; exact gF
        · have c29b := decide_eq_false c29; try simp only [c29b, nrm]
          refine w_cond rfl (fun h => Bool.noConfusion h) (fun _ => ?_)
          refine w_skip ?_
          refine k_block ?_
          refine k_seq ?_
          refine w_seq ?_
          refine wR fun K hK => ?_
          refine g_mv rfl rfl (gT ?_)
          refine g_mv rfl rfl (gT ?_)
          refine g_bin rfl rfl rfl rfl rfl (gT ?_)
          refine g_mv rfl rfl (gT ?_)
          obtain ⟨q31, hq31, H⟩ := bnd H
          refine g_cs [] rfl rfl (by rfl) Try.func46 rfl (by decide) (word_Make.does hq31) ⟨Nat.le_of_ble_eq_true rfl, Nat.le_of_ble_eq_true rfl⟩ ?_; refine gC ?_
          refine g_mv rfl rfl (gT ?_)
          refine g_as rfl rfl (gT ?_)
          refine g_as rfl rfl (gT ?_)
          refine g_nil (hK _ _ _ ?_)
          refine k_seq ?_
          refine w_ret ?_
          refine fin_wp (τ := []) rfl (by decide) ?_; rw [← Option.some.inj H]; simp only [Try.f36]; exact gF
set_option maxHeartbeats 8000000 in
set_option maxRecDepth 100000 in
theorem round_Round.does {k : Nat} {a0 : Bool} {a1_0 : Int} {a1_1 : Int} {a2 : Int} {a3 : Bool} {r : Int × Int} (H : round_Round.f k a0 a1_0 a1_1 a2 a3 = some r) : Do E0 (.fn 36 [.b a0, .a [.i .u64 a1_0, .i .u64 a1_1], .i .i64 a2, .b a3] [] (.t [.i .u64 r.1, .i .u8 r.2]) []) := by
  obtain ⟨ih0, ih1, ih2, ih3, ih4, ih5, ih6⟩ := round_Round.does_l (a0 := a0) (a1_0 := a1_0) (a1_1 := a1_1) (a2 := a2) (a3 := a3) k
  refine fn_wpl Try.func36 rfl (Q := (round_Round.Q a0 a1_0 a1_1 a2 a3 r)) (fun s h => h) ?_
  unfold round_Round.f at H
  simp only [Try.ntmps36, List.length, List.replicate, Nat.reduceAdd, Nat.reduceSub, List.cons_append, List.nil_append]
  refine w_seq ?_
  refine wR fun K hK => ?_
  refine g_box rfl rfl rfl (by rfl) (gU ?_)
  refine g_as rfl rfl (gT ?_)
  refine g_as rfl rfl (gT ?_)
  refine g_nil (hK _ _ _ ?_)
  refine k_seq ?_
  refine w_seq ?_
  refine wR fun K hK => ?_
  refine g_mv rfl rfl (gT ?_)
  refine g_min rfl rfl rfl rfl (m := mn _ _) rfl (gT ?_)
  refine g_max rfl rfl rfl rfl (m := mx _ _) rfl (gT ?_)
  refine g_as rfl rfl (gT ?_)
  refine g_nil (hK _ _ _ ?_)
  refine k_seq ?_
  refine w_seq ?_
  refine w_seq ?_
  refine wR fun K hK => ?_
  refine g_lda rfl rfl ag67 sz67 rfl rfl (Nat.le_of_ble_eq_true rfl) (gT ?_)
  obtain ⟨q1, hq1, H⟩ := bnd H
  refine g_cs [] rfl rfl (by rfl) Try.func52 rfl (by decide) (wide_Wide_Zero.does hq1) ⟨Nat.le_of_ble_eq_true rfl, Nat.le_of_ble_eq_true rfl⟩ ?_; refine gC ?_
  refine g_nil (hK _ _ _ ?_)
  refine k_seq ?_
  rcases its H with ⟨c2, H⟩ | ⟨c2, H⟩
  · have c2b : q1 = true := c2; try simp only [c2b, nrm]
    refine w_cond rfl (fun _ => ?_) (fun h => Bool.noConfusion h)
    refine w_seq ?_
    refine w_seq ?_
    refine wR fun K hK => ?_
    refine g_mv rfl rfl (gT ?_)
    refine g_un rfl rfl rfl rfl (gT ?_)
    refine g_nil (hK _ _ _ ?_)
    refine k_seq ?_
    rcases its H with ⟨c3, H⟩ | ⟨c3, H⟩
    · have c3b : a3 = true := c3; try simp only [c3b, nrm]
      refine w_cond rfl (fun h => Bool.noConfusion h) (fun _ => ?_)
      refine w_skip ?_
      refine k_seq ?_
      refine w_seq ?_
      refine wR fun K hK => ?_
      refine g_mv rfl rfl (gT ?_)
      obtain ⟨q4, hq4, H⟩ := bnd H
      refine g_cs [] rfl rfl (by rfl) Try.func46 rfl (by decide) (word_Make.does hq4) ⟨Nat.le_of_ble_eq_true rfl, Nat.le_of_ble_eq_true rfl⟩ ?_; refine gC ?_
      refine g_as rfl rfl (gT ?_)
      refine g_as rfl rfl (gT ?_)
      refine g_nil (hK _ _ _ ?_)
      refine k_seq ?_
      refine w_ret ?_
      refine fin_wp (τ := []) rfl (by decide) ?_; rw [← Option.some.inj H]; simp only [Try.f36]; exact gF
    · have c3b : a3 = false := Bool.eq_false_iff.mpr c3; try simp only [c3b, nrm]
      refine w_cond rfl (fun _ => ?_) (fun h => Bool.noConfusion h)
      refine w_seq ?_
      refine wR fun K hK => ?_
      refine g_mv rfl rfl (gT ?_)
      obtain ⟨q5, hq5, H⟩ := bnd H
      refine g_cs [] rfl rfl (by rfl) Try.func46 rfl (by decide) (word_Make.does hq5) ⟨Nat.le_of_ble_eq_true rfl, Nat.le_of_ble_eq_true rfl⟩ ?_; refine gC ?_
      refine g_as rfl rfl (gT ?_)
      refine g_as rfl rfl (gT ?_)
      refine g_nil (hK _ _ _ ?_)
      refine k_seq ?_
      refine w_ret ?_
      refine fin_wp (τ := []) rfl (by decide) ?_; rw [← Option.some.inj H]; simp only [Try.f36]; exact gF
  · have c2b : q1 = false := Bool.eq_false_iff.mpr c2; try simp only [c2b, nrm]
    refine w_cond rfl (fun h => Bool.noConfusion h) (fun _ => ?_)
    refine w_skip ?_
    refine k_seq ?_
    refine w_seq ?_
    refine wR fun K hK => ?_
    refine g_lda rfl rfl ag67 sz67 rfl rfl (Nat.le_of_ble_eq_true rfl) (gT ?_)
    obtain ⟨q6, hq6, H⟩ := bnd H
    refine g_cs [] rfl rfl (by rfl) Try.func49 rfl (by decide) (wide_Wide_Len.does hq6) ⟨Nat.le_of_ble_eq_true rfl, Nat.le_of_ble_eq_true rfl⟩ ?_; refine gC ?_
    refine g_bin rfl rfl rfl rfl rfl (gT ?_)
    refine g_as rfl rfl (gT ?_)
    refine g_nil (hK _ _ _ ?_)
    refine k_seq ?_
    refine w_seq ?_
    refine wR fun K hK => ?_
    refine g_mv rfl rfl (gT ?_)
    refine g_lda rfl rfl ag67 sz67 rfl rfl (Nat.le_of_ble_eq_true rfl) (gT ?_)
    obtain ⟨q7, hq7, H⟩ := bnd H
    refine g_cs [] rfl rfl (by rfl) Try.func49 rfl (by decide) (wide_Wide_Len.does hq7) ⟨Nat.le_of_ble_eq_true rfl, Nat.le_of_ble_eq_true rfl⟩ ?_; refine gC ?_
    refine g_bin rfl rfl rfl rfl rfl (gT ?_)
    refine g_bin rfl rfl rfl rfl rfl (gT ?_)
    refine g_as rfl rfl (gT ?_)
    refine g_nil (hK _ _ _ ?_)
    refine k_seq ?_
    refine w_seq ?_
    refine w_seq ?_
    refine wR fun K hK => ?_
    refine g_mv rfl rfl (gT ?_)
    refine g_mv rfl rfl (gT ?_)
    refine g_bin rfl rfl rfl rfl rfl (gT ?_)
    refine g_bin rfl rfl rfl rfl rfl (gT ?_)
    refine g_nil (hK _ _ _ ?_)
    refine k_seq ?_
    rcases its H with ⟨c8, H⟩ | ⟨c8, H⟩
    · have c8b := decide_eq_true c8; try simp only [c8b, nrm]
      refine w_cond rfl (fun _ => ?_) (fun h => Bool.noConfusion h)
      refine wR fun K hK => ?_
      refine g_mv rfl rfl (gT ?_)
      refine g_bin rfl rfl rfl rfl rfl (gT ?_)
      refine g_as rfl rfl (gT ?_)
      refine g_nil (hK _ _ _ ?_)
      refine k_wk (σ := [0]) [0, 1, 0, 1, 4, 0] rfl (by decide) rfl ?_; refine gC ?_
      exact gI (ih0 a0 (mx (-100000) (mn a2 100000)) a3 (wrap64 ((-1074) - (mx (-100000) (mn a2 100000)))) (decide ((wrap64 ((mx (-100000) (mn a2 100000)) + q7)) < (-1021))) a1_0 a1_1 r H)
    · have c8b := decide_eq_false c8; try simp only [c8b, nrm]
      refine w_cond rfl (fun h => Bool.noConfusion h) (fun _ => ?_)
      refine w_skip ?_
      refine k_wk (σ := [0]) [0, 1, 0, 1, 4, 0] rfl (by decide) rfl ?_; refine gC ?_
      exact gI (ih0 a0 (mx (-100000) (mn a2 100000)) a3 (wrap64 (q6 - 53)) (decide ((wrap64 ((mx (-100000) (mn a2 100000)) + q7)) < (-1021))) a1_0 a1_1 r H)

set_option maxHeartbeats 8000000 in
set_option maxRecDepth 100000 in
theorem soft_Mul.does_l {a0 : Int} {a1 : Int} (k : Nat) : (∀ (a_0 : Int) (b_1 : Int) (neg_9 : Bool) (x_10 : Int) (y_11 : Int) (t_36 : Bool) (r : Int × Int), soft_Mul.j0 k a_0 b_1 neg_9 x_10 y_11 t_36 = some r → kont E0 (soft_Mul.Q a0 a1 r) (frs (bodyOf Try.f32) [1, 1, 1, 1, 0, 0, 0] []) .normal ⟨[.i .u64 a_0, .i .u64 b_1, .u, .u, .u, .u, .u, .u, .u, .b neg_9, .i .i64 x_10, .i .i64 y_11, .u, .u, .u, .u, .u, .u, .u, .u, .u, .u, .u, .u, .u, .u, .u, .u, .u, .u, .u, .u, .u, .u, .u, .u, .b t_36, .u, .u, .u, .u, .u, .u, .u, .u, .u, .u, .u, .u, .u, .u, .u, .u, .u, .u, .u, .u, .u, .u, .u, .u, .u, .u, .u, .u, .u, .u, .u, .u, .u, .u, .u, .u, .u, .u, .u, .u, .u, .u, .u], ofL [], 0, 0⟩) ∧
    (∀ (a_0 : Int) (b_1 : Int) (neg_9 : Bool) (t_51 : Bool) (r : Int × Int), soft_Mul.j1 k a_0 b_1 neg_9 t_51 = some r → kont E0 (soft_Mul.Q a0 a1 r) (frs (bodyOf Try.f32) [1, 1, 1, 1, 0, 0, 1, 1, 0] []) .normal ⟨[.i .u64 a_0, .i .u64 b_1, .u, .u, .u, .u, .u, .u, .u, .b neg_9, .u, .u, .u, .u, .u, .u, .u, .u, .u, .u, .u, .u, .u, .u, .u, .u, .u, .u, .u, .u, .u, .u, .u, .u, .u, .u, .u, .u, .u, .u, .u, .u, .u, .u, .u, .u, .u, .u, .u, .u, .u, .b t_51, .u, .u, .u, .u, .u, .u, .u, .u, .u, .u, .u, .u, .u, .u, .u, .u, .u, .u, .u, .u, .u, .u, .u, .u, .u, .u, .u, .u], ofL [], 0, 0⟩) := by
  induction k with
  | zero => exact ⟨fun _ _ _ _ _ _ r h => by simp [soft_Mul.j0] at h, fun _ _ _ _ r h => by simp [soft_Mul.j1] at h⟩
  | succ k ih =>
    obtain ⟨ih0, ih1⟩ := ih
    refine ⟨?_, ?_⟩
    · intro a_0 b_1 neg_9 x_10 y_11 t_36 r H
      unfold soft_Mul.j0 at H
      simp only [bodyOf, Try.f32, frs, sub, if_true, if_false, Nat.one_ne_zero]
      refine k_seq ?_
      rcases its H with ⟨c11, H⟩ | ⟨c11, H⟩
      · have c11b : t_36 = true := c11; try simp only [c11b, nrm]
        refine w_cond rfl (fun _ => ?_) (fun h => Bool.noConfusion h)
        refine w_seq ?_
        refine wR fun K hK => ?_
        refine g_as rfl rfl (gT ?_)
        refine g_as rfl rfl (gT ?_)
        refine g_nil (hK _ _ _ ?_)
        refine k_seq ?_
        refine w_ret ?_
        refine fin_wp (τ := []) rfl (by decide) ?_; rw [← Option.some.inj H]; simp only [Try.f32]; exact gF
      · have c11b : t_36 = false := Bool.eq_false_iff.mpr c11; try simp only [c11b, nrm]
        refine w_cond rfl (fun h => Bool.noConfusion h) (fun _ => ?_)
        refine w_seq ?_
        refine wR fun K hK => ?_
        refine g_mv rfl rfl (gT ?_)
        refine g_bin rfl rfl rfl rfl rfl (gT ?_)
        refine g_mv rfl rfl (gT ?_)
        rcases its H with ⟨c12, H⟩ | ⟨c12, H⟩
        · have c12b := beq_iff_eq.mpr c12; have c12n := bne_eq_false_iff_eq.mpr c12; try simp only [c12b, c12n, nrm]
          refine g_sk rfl rfl (gT ?_)
          refine g_sk rfl rfl (gT ?_)
          refine g_pick rfl rfl rfl (gT ?_)
          refine g_as rfl rfl (gT ?_)
          refine g_nil (hK _ _ _ ?_)
          refine k_wk (σ := []) [0, 0, 7, 41] rfl (by decide) rfl ?_; refine gC ?_
          exact gI (ih1 a_0 b_1 neg_9 true r H)
        · have c12b := beq_eq_false_iff_ne.mpr c12; have c12n := bne_iff_ne.mpr c12; try simp only [c12b, c12n, nrm]
          refine g_mv rfl rfl (gT ?_)
          refine g_bin rfl rfl rfl rfl rfl (gT ?_)
          refine g_pick rfl rfl rfl (gT ?_)
          refine g_as rfl rfl (gT ?_)
          refine g_nil (hK _ _ _ ?_)
          refine k_wk (σ := []) [0, 0, 7, 41] rfl (by decide) rfl ?_; refine gC ?_
          exact gI (ih1 a_0 b_1 neg_9 (y_11 == 4) r H)
    · intro a_0 b_1 neg_9 t_51 r H
      unfold soft_Mul.j1 at H
      simp only [bodyOf, Try.f32, frs, sub, if_true, if_false, Nat.one_ne_zero]
      refine k_seq ?_
      rcases its H with ⟨c13, H⟩ | ⟨c13, H⟩
      · have c13b : t_51 = true := c13; try simp only [c13b, nrm]
        refine w_cond rfl (fun _ => ?_) (fun h => Bool.noConfusion h)
        refine w_seq ?_
        refine wR fun K hK => ?_
        refine g_mv rfl rfl (gT ?_)
        obtain ⟨q14, hq14, H⟩ := bnd H
        refine g_cs [] rfl rfl (by rfl) Try.func46 rfl (by decide) (word_Make.does hq14) ⟨Nat.le_of_ble_eq_true rfl, Nat.le_of_ble_eq_true rfl⟩ ?_; refine gC ?_
        refine g_as rfl rfl (gT ?_)
        refine g_as rfl rfl (gT ?_)
        refine g_nil (hK _ _ _ ?_)
        refine k_seq ?_
        refine w_ret ?_
        refine fin_wp (τ := []) rfl (by decide) ?_; rw [← Option.some.inj H]; simp only [Try.f32]; exact gF
      · have c13b : t_51 = false := Bool.eq_false_iff.mpr c13; try simp only [c13b, nrm]
        refine w_cond rfl (fun h => Bool.noConfusion h) (fun _ => ?_)
        refine w_skip ?_
        refine k_block ?_
        refine k_seq ?_
        refine w_seq ?_
        refine wR fun K hK => ?_
        refine g_mv rfl rfl (gT ?_)
        obtain ⟨q15, hq15, H⟩ := bnd H
        refine g_cs [] rfl rfl (by rfl) Try.func47 rfl (by decide) (word_Parts.does hq15) ⟨Nat.le_of_ble_eq_true rfl, Nat.le_of_ble_eq_true rfl⟩ ?_; refine gC ?_
        refine g_mv rfl rfl (gT ?_)
        refine g_ext rfl rfl rfl (Nat.le_of_ble_eq_true rfl) (gT ?_)
        refine g_ext rfl rfl rfl (Nat.le_of_ble_eq_true rfl) (gT ?_)
        refine g_as rfl rfl (gT ?_)
        refine g_as rfl rfl (gT ?_)
        refine g_nil (hK _ _ _ ?_)
        refine k_seq ?_
        refine w_seq ?_
        refine wR fun K hK => ?_
        refine g_mv rfl rfl (gT ?_)
        obtain ⟨q16, hq16, H⟩ := bnd H
        refine g_cs [] rfl rfl (by rfl) Try.func47 rfl (by decide) (word_Parts.does hq16) ⟨Nat.le_of_ble_eq_true rfl, Nat.le_of_ble_eq_true rfl⟩ ?_; refine gC ?_
        refine g_mv rfl rfl (gT ?_)
        refine g_ext rfl rfl rfl (Nat.le_of_ble_eq_true rfl) (gT ?_)
        refine g_ext rfl rfl rfl (Nat.le_of_ble_eq_true rfl) (gT ?_)
        refine g_as rfl rfl (gT ?_)
        refine g_as rfl rfl (gT ?_)
        refine g_nil (hK _ _ _ ?_)
        refine k_seq ?_
        refine w_seq ?_
        refine wR fun K hK => ?_
        refine g_mv rfl rfl (gT ?_)
        refine g_mv rfl rfl (gT ?_)
        refine g_mv rfl rfl (gT ?_)
        obtain ⟨q17, hq17, H⟩ := bnd H
        refine g_cs [] rfl rfl (by rfl) Try.func48 rfl (by decide) (wide_Mul.does hq17) ⟨Nat.le_of_ble_eq_true rfl, Nat.le_of_ble_eq_true rfl⟩ ?_; refine gC ?_
        refine g_mv rfl rfl (gT ?_)
        refine g_mv rfl rfl (gT ?_)
        refine g_bin rfl rfl rfl rfl rfl (gT ?_)
        obtain ⟨q18, hq18, H⟩ := bnd H
        refine g_cs [] rfl rfl (by rfl) Try.func36 rfl (by decide) (round_Round.does hq18) ⟨Nat.le_of_ble_eq_true rfl, Nat.le_of_ble_eq_true rfl⟩ ?_; refine gC ?_
        refine g_ext rfl rfl rfl (Nat.le_of_ble_eq_true rfl) (gT ?_)
        refine g_ext rfl rfl rfl (Nat.le_of_ble_eq_true rfl) (gT ?_)
        refine g_as rfl rfl (gT ?_)
        refine g_as rfl rfl (gT ?_)
        refine g_nil (hK _ _ _ ?_)
        refine k_seq ?_
        refine w_ret ?_
        refine fin_wp (τ := []) rfl (by decide) ?_; rw [← Option.some.inj H]; simp only [Try.f32]; exact gF
set_option maxHeartbeats 8000000 in
set_option maxRecDepth 100000 in
theorem soft_Mul.does {k : Nat} {a0 : Int} {a1 : Int} {r : Int × Int} (H : soft_Mul.f k a0 a1 = some r) : Do E0 (.fn 32 [.i .u64 a0, .i .u64 a1] [] (.t [.i .u64 r.1, .i .u8 r.2]) []) := by
  obtain ⟨ih0, ih1⟩ := soft_Mul.does_l (a0 := a0) (a1 := a1) k
  refine fn_wpl Try.func32 rfl (Q := (soft_Mul.Q a0 a1 r)) (fun s h => h) ?_
  unfold soft_Mul.f at H
  simp only [Try.ntmps32, List.length, List.replicate, Nat.reduceAdd, Nat.reduceSub, List.cons_append, List.nil_append]
  refine w_seq ?_
  refine wR fun K hK => ?_
  refine g_as rfl rfl (gT ?_)
  refine g_as rfl rfl (gT ?_)
  refine g_nil (hK _ _ _ ?_)
  refine k_seq ?_
  refine w_seq ?_
  refine w_seq ?_
  refine wR fun K hK => ?_
  refine g_mv rfl rfl (gT ?_)
  refine g_mv rfl rfl (gT ?_)
  refine g_bsl (k := .u64) (xs := [a0, a1]) rfl rfl Try.underlying22 sz35 zr35 (by decide) rfl rfl rfl (gU ?_)
  obtain ⟨q1, hq1, H⟩ := bnd H
  refine g_cs [] rfl rfl (by rfl) Try.func45 rfl (by decide) (soft_nan.does hq1) ⟨Nat.le_of_ble_eq_true rfl, Nat.le_of_ble_eq_true rfl⟩ ?_; refine gC ?_
  refine g_mv rfl rfl (gT ?_)
  refine g_ext rfl rfl rfl (Nat.le_of_ble_eq_true rfl) (gT ?_)
  refine g_ext rfl rfl rfl (Nat.le_of_ble_eq_true rfl) (gT ?_)
  refine g_ext rfl rfl rfl (Nat.le_of_ble_eq_true rfl) (gT ?_)
  refine g_as rfl rfl (gT ?_)
  refine g_as rfl rfl (gT ?_)
  refine g_as rfl rfl (gT ?_)
  refine g_nil (hK _ _ _ ?_)
  refine k_seq ?_
  refine w_seq ?_
  refine wR fun K hK => ?_
  refine g_mv rfl rfl (gT ?_)
  refine g_nil (hK _ _ _ ?_)
  refine k_seq ?_
  rcases its H with ⟨c2, H⟩ | ⟨c2, H⟩
  · have c2b : q1.2.2 = true := c2; try simp only [c2b, nrm]
    refine w_cond rfl (fun _ => ?_) (fun h => Bool.noConfusion h)
    refine w_seq ?_
    refine wR fun K hK => ?_
    refine g_mv rfl rfl (gT ?_)
    refine g_mv rfl rfl (gT ?_)
    refine g_as rfl rfl (gT ?_)
    refine g_as rfl rfl (gT ?_)
    refine g_nil (hK _ _ _ ?_)
    refine k_seq ?_
    refine w_ret ?_
    refine fin_wp (τ := []) rfl (by decide) ?_; rw [← Option.some.inj H]; simp only [Try.f32]; exact gF
  · have c2b : q1.2.2 = false := Bool.eq_false_iff.mpr c2; try simp only [c2b, nrm]
    refine w_cond rfl (fun h => Bool.noConfusion h) (fun _ => ?_)
    refine w_skip ?_
    refine k_seq ?_
    refine w_seq ?_
    refine wR fun K hK => ?_
    refine g_mv rfl rfl (gT ?_)
    obtain ⟨q3, hq3, H⟩ := bnd H
    refine g_cs [] rfl rfl (by rfl) Try.func39 rfl (by decide) (word_Neg.does hq3) ⟨Nat.le_of_ble_eq_true rfl, Nat.le_of_ble_eq_true rfl⟩ ?_; refine gC ?_
    refine g_mv rfl rfl (gT ?_)
    obtain ⟨q4, hq4, H⟩ := bnd H
    refine g_cs [] rfl rfl (by rfl) Try.func39 rfl (by decide) (word_Neg.does hq4) ⟨Nat.le_of_ble_eq_true rfl, Nat.le_of_ble_eq_true rfl⟩ ?_; refine gC ?_
    refine g_neb rfl rfl Try.underlying4 rfl rfl (gT ?_)
    refine g_as rfl rfl (gT ?_)
    refine g_nil (hK _ _ _ ?_)
    refine k_seq ?_
    refine w_seq ?_
    refine wR fun K hK => ?_
    refine g_mv rfl rfl (gT ?_)
    obtain ⟨q5, hq5, H⟩ := bnd H
    refine g_cs [] rfl rfl (by rfl) Try.func27 rfl (by decide) (word_Kind.does hq5) ⟨Nat.le_of_ble_eq_true rfl, Nat.le_of_ble_eq_true rfl⟩ ?_; refine gC ?_
    refine g_mv rfl rfl (gT ?_)
    obtain ⟨q6, hq6, H⟩ := bnd H
    refine g_cs [] rfl rfl (by rfl) Try.func27 rfl (by decide) (word_Kind.does hq6) ⟨Nat.le_of_ble_eq_true rfl, Nat.le_of_ble_eq_true rfl⟩ ?_; refine gC ?_
    refine g_as rfl rfl (gT ?_)
    refine g_as rfl rfl (gT ?_)
    refine g_nil (hK _ _ _ ?_)
    refine k_seq ?_
    refine w_seq ?_
    refine w_block ?_
    refine w_seq ?_
    refine wR fun K hK => ?_
    refine g_mv rfl rfl (gT ?_)
    refine g_bin rfl rfl rfl rfl rfl (gT ?_)
    refine g_mv rfl rfl (gT ?_)
    rcases its H with ⟨c7, H⟩ | ⟨c7, H⟩
    · have c7b := beq_iff_eq.mpr c7; have c7n := bne_eq_false_iff_eq.mpr c7; try simp only [c7b, c7n, nrm]
      refine g_mv rfl rfl (gT ?_)
      refine g_bin rfl rfl rfl rfl rfl (gT ?_)
      refine g_pick rfl rfl rfl (gT ?_)
      refine g_mv rfl rfl (gT ?_)
      rcases its H with ⟨c8, H⟩ | ⟨c8, H⟩
      · have c8b := beq_iff_eq.mpr c8; have c8n := bne_eq_false_iff_eq.mpr c8; try simp only [c8b, c8n, nrm]
        refine g_sk rfl rfl (gT ?_)
        refine g_sk rfl rfl (gT ?_)
        refine g_sk rfl rfl (gT ?_)
        refine g_sk rfl rfl (gT ?_)
        refine g_sk rfl rfl (gT ?_)
        refine g_sk rfl rfl (gT ?_)
        refine g_pick rfl rfl rfl (gT ?_)
        refine g_as rfl rfl (gT ?_)
        refine g_nil (hK _ _ _ ?_)
        refine k_wk (σ := []) [0, 0, 7, 0, 0, 24] rfl (by decide) rfl ?_; refine gC ?_
        exact gI (ih0 a0 a1 (q3 != q4) q5 q6 true r H)
      · have c8b := beq_eq_false_iff_ne.mpr c8; have c8n := bne_iff_ne.mpr c8; try simp only [c8b, c8n, nrm]
        refine g_mv rfl rfl (gT ?_)
        refine g_bin rfl rfl rfl rfl rfl (gT ?_)
        refine g_mv rfl rfl (gT ?_)
        rcases its H with ⟨c9, H⟩ | ⟨c9, H⟩
        · have c9b := beq_iff_eq.mpr c9; have c9n := bne_eq_false_iff_eq.mpr c9; try simp only [c9b, c9n, nrm]
          refine g_mv rfl rfl (gT ?_)
          refine g_bin rfl rfl rfl rfl rfl (gT ?_)
          refine g_pick rfl rfl rfl (gT ?_)
          refine g_pick rfl rfl rfl (gT ?_)
          refine g_as rfl rfl (gT ?_)
          refine g_nil (hK _ _ _ ?_)
          refine k_wk (σ := []) [0, 0, 7, 0, 0, 24] rfl (by decide) rfl ?_; refine gC ?_
          exact gI (ih0 a0 a1 (q3 != q4) q5 q6 (q6 == 4) r H)
        · have c9b := beq_eq_false_iff_ne.mpr c9; have c9n := bne_iff_ne.mpr c9; try simp only [c9b, c9n, nrm]
          refine g_sk rfl rfl (gT ?_)
          refine g_sk rfl rfl (gT ?_)
          refine g_pick rfl rfl rfl (gT ?_)
          refine g_pick rfl rfl rfl (gT ?_)
          refine g_as rfl rfl (gT ?_)
          refine g_nil (hK _ _ _ ?_)
          refine k_wk (σ := []) [0, 0, 7, 0, 0, 24] rfl (by decide) rfl ?_; refine gC ?_
          exact gI (ih0 a0 a1 (q3 != q4) q5 q6 false r H)
    · have c7b := beq_eq_false_iff_ne.mpr c7; have c7n := bne_iff_ne.mpr c7; try simp only [c7b, c7n, nrm]
      refine g_sk rfl rfl (gT ?_)
      refine g_sk rfl rfl (gT ?_)
      refine g_pick rfl rfl rfl (gT ?_)
      refine g_mv rfl rfl (gT ?_)
      refine g_mv rfl rfl (gT ?_)
      refine g_bin rfl rfl rfl rfl rfl (gT ?_)
      refine g_mv rfl rfl (gT ?_)
      rcases its H with ⟨c10, H⟩ | ⟨c10, H⟩
      · have c10b := beq_iff_eq.mpr c10; have c10n := bne_eq_false_iff_eq.mpr c10; try simp only [c10b, c10n, nrm]
        refine g_mv rfl rfl (gT ?_)
        refine g_bin rfl rfl rfl rfl rfl (gT ?_)
        refine g_pick rfl rfl rfl (gT ?_)
        refine g_pick rfl rfl rfl (gT ?_)
        refine g_as rfl rfl (gT ?_)
        refine g_nil (hK _ _ _ ?_)
        refine k_wk (σ := []) [0, 0, 7, 0, 0, 24] rfl (by decide) rfl ?_; refine gC ?_
        exact gI (ih0 a0 a1 (q3 != q4) q5 q6 (q6 == 4) r H)
      · have c10b := beq_eq_false_iff_ne.mpr c10; have c10n := bne_iff_ne.mpr c10; try simp only [c10b, c10n, nrm]
        refine g_sk rfl rfl (gT ?_)
        refine g_sk rfl rfl (gT ?_)
        refine g_pick rfl rfl rfl (gT ?_)
        refine g_pick rfl rfl rfl (gT ?_)
        refine g_as rfl rfl (gT ?_)
        refine g_nil (hK _ _ _ ?_)
        refine k_wk (σ := []) [0, 0, 7, 0, 0, 24] rfl (by decide) rfl ?_; refine gC ?_
        exact gI (ih0 a0 a1 (q3 != q4) q5 q6 false r H)

set_option maxHeartbeats 8000000 in
set_option maxRecDepth 100000 in
theorem soft_Calc_note_nil.does {a1 : Int} {a2 : Int} {r : Int} (H : soft_Calc_note_nil.f a1 a2 = some r) : Do E0 (.fn 30 [.p none, .i .u64 a1, .i .u8 a2] [] (.i .u64 r) []) := by
  refine fn_wpl Try.func30 rfl (Q := (soft_Calc_note_nil.Q a1 a2 r)) (fun s h => h) ?_
  unfold soft_Calc_note_nil.f at H
  simp only [Try.ntmps30, List.length, List.replicate, Nat.reduceAdd, Nat.reduceSub, List.cons_append, List.nil_append]
  refine w_seq ?_
  refine wR fun K hK => ?_
  refine g_as rfl rfl (gT ?_)
  refine g_nil (hK _ _ _ ?_)
  refine k_seq ?_
  refine w_seq ?_
  refine w_seq ?_
  refine wR fun K hK => ?_
  refine g_mv rfl rfl (gT ?_)
  refine g_same rfl rfl (c := .b false) (by simp only [nrm]; simp only [binV, sameV, V.same, Go.Rk.Rd.of, Go.Rk.Rd.bind, Try.underlying28]; rfl) (gT ?_)
  refine g_nil (hK _ _ _ ?_)
  refine k_seq ?_
  refine w_cond rfl (fun h => Bool.noConfusion h) (fun _ => ?_)
  refine w_skip ?_
  refine k_seq ?_
  refine w_seq ?_
  refine wR fun K hK => ?_
  refine g_mv rfl rfl (gT ?_)
  refine g_as rfl rfl (gT ?_)
  refine g_nil (hK _ _ _ ?_)
  refine k_seq ?_
  refine w_ret ?_
  refine fin_wp (τ := []) rfl (by decide) ?_; rw [← Option.some.inj H]; simp only [Try.f30]; exact gF

set_option maxHeartbeats 8000000 in
set_option maxRecDepth 100000 in
theorem soft_Calc_Mul_nil.does {k : Nat} {a1 : Int} {a2 : Int} {r : Int} (H : soft_Calc_Mul_nil.f k a1 a2 = some r) : Do E0 (.fn 14 [.p none, .i .u64 a1, .i .u64 a2] [] (.i .u64 r) []) := by
  refine fn_wpl Try.func14 rfl (Q := (soft_Calc_Mul_nil.Q a1 a2 r)) (fun s h => h) ?_
  unfold soft_Calc_Mul_nil.f at H
  simp only [Try.ntmps14, List.length, List.replicate, Nat.reduceAdd, Nat.reduceSub, List.cons_append, List.nil_append]
  refine w_seq ?_
  refine wR fun K hK => ?_
  refine g_as rfl rfl (gT ?_)
  refine g_nil (hK _ _ _ ?_)
  refine k_seq ?_
  refine w_seq ?_
  refine wR fun K hK => ?_
  refine g_mv rfl rfl (gT ?_)
  refine g_mv rfl rfl (gT ?_)
  refine g_mv rfl rfl (gT ?_)
  obtain ⟨q1, hq1, H⟩ := bnd H
  refine g_cs [] rfl rfl (by rfl) Try.func32 rfl (by decide) (soft_Mul.does hq1) ⟨Nat.le_of_ble_eq_true rfl, Nat.le_of_ble_eq_true rfl⟩ ?_; refine gC ?_
  refine g_ext rfl rfl rfl (Nat.le_of_ble_eq_true rfl) (gT ?_)
  refine g_ext rfl rfl rfl (Nat.le_of_ble_eq_true rfl) (gT ?_)
  obtain ⟨q2, hq2, H⟩ := bnd H
  refine g_cs [] rfl rfl (by rfl) Try.func30 rfl (by decide) (soft_Calc_note_nil.does hq2) ⟨Nat.le_of_ble_eq_true rfl, Nat.le_of_ble_eq_true rfl⟩ ?_; refine gC ?_
  refine g_as rfl rfl (gT ?_)
  refine g_nil (hK _ _ _ ?_)
  refine k_seq ?_
  refine w_ret ?_
  refine fin_wp (τ := []) rfl (by decide) ?_; rw [← Option.some.inj H]; simp only [Try.f14]; exact gF

set_option maxHeartbeats 8000000 in
set_option maxRecDepth 100000 in
theorem word_Flip.does {a0 : Int} {r : Int} (H : word_Flip.f a0 = some r) : Do E0 (.fn 44 [.i .u64 a0] [] (.i .u64 r) []) := by
  refine fn_wpl Try.func44 rfl (Q := (word_Flip.Q a0 r)) (fun s h => h) ?_
  unfold word_Flip.f at H
  simp only [Try.ntmps44, List.length, List.replicate, Nat.reduceAdd, Nat.reduceSub, List.cons_append, List.nil_append]
  refine w_seq ?_
  refine wR fun K hK => ?_
  refine g_as rfl rfl (gT ?_)
  refine g_nil (hK _ _ _ ?_)
  refine k_seq ?_
  refine w_seq ?_
  refine wR fun K hK => ?_
  refine g_mv rfl rfl (gT ?_)
  refine g_bin rfl rfl rfl rfl rfl (gT ?_)
  refine g_as rfl rfl (gT ?_)
  refine g_nil (hK _ _ _ ?_)
  refine k_seq ?_
  refine w_ret ?_
  refine fin_wp (τ := []) rfl (by decide) ?_; rw [← Option.some.inj H]; simp only [Try.f44]; exact gF

set_option maxHeartbeats 8000000 in
set_option maxRecDepth 100000 in
theorem word_Abs.does {a0 : Int} {r : Int} (H : word_Abs.f a0 = some r) : Do E0 (.fn 10 [.i .u64 a0] [] (.i .u64 r) []) := by
  refine fn_wpl Try.func10 rfl (Q := (word_Abs.Q a0 r)) (fun s h => h) ?_
  unfold word_Abs.f at H
  simp only [Try.ntmps10, List.length, List.replicate, Nat.reduceAdd, Nat.reduceSub, List.cons_append, List.nil_append]
  refine w_seq ?_
  refine wR fun K hK => ?_
  refine g_as rfl rfl (gT ?_)
  refine g_nil (hK _ _ _ ?_)
  refine k_seq ?_
  refine w_seq ?_
  refine wR fun K hK => ?_
  refine g_mv rfl rfl (gT ?_)
  refine g_bin rfl rfl rfl rfl rfl (gT ?_)
  refine g_as rfl rfl (gT ?_)
  refine g_nil (hK _ _ _ ?_)
  refine k_seq ?_
  refine w_ret ?_
  refine fin_wp (τ := []) rfl (by decide) ?_; rw [← Option.some.inj H]; simp only [Try.f10]; exact gF

set_option maxHeartbeats 8000000 in
set_option maxRecDepth 100000 in
theorem wide_Wide_Sub.does {a0_0 : Int} {a0_1 : Int} {a1_0 : Int} {a1_1 : Int} {r : Int × Int × Bool} (H : wide_Wide_Sub.f a0_0 a0_1 a1_0 a1_1 = some r) : Do E0 (.fn 55 [.a [.i .u64 a0_0, .i .u64 a0_1], .a [.i .u64 a1_0, .i .u64 a1_1]] [] (.t [.a [.i .u64 r.1, .i .u64 r.2.1], .b r.2.2]) []) := by
  refine fn_wpl Try.func55 rfl (Q := (wide_Wide_Sub.Q a0_0 a0_1 a1_0 a1_1 r)) (fun s h => h) ?_
  unfold wide_Wide_Sub.f at H
  simp only [Try.ntmps55, List.length, List.replicate, Nat.reduceAdd, Nat.reduceSub, List.cons_append, List.nil_append]
  refine w_seq ?_
  refine wR fun K hK => ?_
  refine g_box rfl rfl rfl (by rfl) (gU ?_)
  refine g_box rfl rfl rfl (by rfl) (gU ?_)
  refine g_alloc rfl rfl zr67 (gU ?_)
  refine g_as rfl rfl (gT ?_)
  refine g_nil (hK _ _ _ ?_)
  refine k_seq ?_
  refine w_seq ?_
  refine wR fun K hK => ?_
  refine g_fd rfl rfl fa67_1 rfl (gT ?_)
  refine g_ldc rfl rfl ag35 sz35 rfl rfl rfl (gT ?_)
  refine g_fd rfl rfl fa67_1 rfl (gT ?_)
  refine g_ldc rfl rfl ag35 sz35 rfl rfl rfl (gT ?_)
  obtain ⟨q1, hq1, H⟩ := bnd H
  refine g_ex rfl rfl Try.func60 rfl (bits_Sub64.ext hq1) (gT ?_)
  refine g_mv rfl rfl (gT ?_)
  refine g_ext rfl rfl rfl (Nat.le_of_ble_eq_true rfl) (gT ?_)
  refine g_ext rfl rfl rfl (Nat.le_of_ble_eq_true rfl) (gT ?_)
  refine g_as rfl rfl (gT ?_)
  refine g_as rfl rfl (gT ?_)
  refine g_nil (hK _ _ _ ?_)
  refine k_seq ?_
  refine w_seq ?_
  refine wR fun K hK => ?_
  refine g_fd rfl rfl fa67_0 rfl (gT ?_)
  refine g_ldc rfl rfl ag35 sz35 rfl rfl rfl (gT ?_)
  refine g_fd rfl rfl fa67_0 rfl (gT ?_)
  refine g_ldc rfl rfl ag35 sz35 rfl rfl rfl (gT ?_)
  refine g_mv rfl rfl (gT ?_)
  obtain ⟨q2, hq2, H⟩ := bnd H
  refine g_ex rfl rfl Try.func60 rfl (bits_Sub64.ext hq2) (gT ?_)
  refine g_mv rfl rfl (gT ?_)
  refine g_ext rfl rfl rfl (Nat.le_of_ble_eq_true rfl) (gT ?_)
  refine g_ext rfl rfl rfl (Nat.le_of_ble_eq_true rfl) (gT ?_)
  refine g_as rfl rfl (gT ?_)
  refine g_as rfl rfl (gT ?_)
  refine g_nil (hK _ _ _ ?_)
  refine k_seq ?_
  refine w_seq ?_
  refine wR fun K hK => ?_
  refine g_mv rfl rfl (gT ?_)
  refine g_mv rfl rfl (gT ?_)
  refine g_bd rfl rfl zr67 Try.underlying67 (pl := [(0, 1), (1, 1)]) (by kernel_rfl) ?_; refine gB ?_
  refine g_mv rfl rfl (gT ?_)
  refine g_bin rfl rfl rfl rfl rfl (gT ?_)
  refine g_st rfl rfl sz67 rfl rfl rfl (by rfl) (Nat.le_of_ble_eq_true rfl) (gU ?_)
  refine g_as rfl rfl (gT ?_)
  refine g_nil (hK _ _ _ ?_)
  refine k_seq ?_
  refine w_ret ?_
  refine fin_wp (τ := []) rfl (by decide) ?_; rw [← Option.some.inj H]; simp only [Try.f55, ag67, sz67, nrm, nrmw, nrmc, nrme, nrmo, nrml, nrmb, nrmx, Nat.reduceEqDiff, Nat.reduceBEq, Nat.zero_add, Nat.add_zero, Nat.mul_one, List.length_cons, List.length_nil, List.length_map, List.length_set, List.length_replicate, List.drop_zero, List.drop_succ_cons, List.drop_nil, List.take_zero, List.take_succ_cons, List.take_nil, Nat.le_refl, if_true, if_false, Option.any_none, Option.any_some, List.contains_nil, Bool.not_false, Bool.or_true, Bool.true_or, Bool.or_false, Bool.false_or, Bool.and_true, Bool.true_and, Bool.and_self, reduceCtorEq, beq_self_eq_true, List.map_cons, List.map_nil, List.append_nil, List.nil_append, List.filter_cons, List.filter_nil, List.cons_append, Bool.false_eq_true, true_and, and_true, List.getElem_toArray, List.getElem_cons_zero, List.getElem_cons_succ, Nat.reduceAdd, Nat.reduceMul, Nat.reduceLT, Nat.reduceSub, Nat.reduceLeDiff]; try (first | rfl | exact ⟨rfl, trivial⟩ | exact ⟨rfl, rfl⟩)

end Go.Proofs.Ytnjobojkoaknpaa.F

/- A triangle's list without a memory of flags: what solve.Trsv makes, number by number. -/
import Derived.Test.YtnjobojkoaknpaaTQuo
import Derived.Test.YtnjobojkoaknpaaTSub
import Derived.Test.YtnjobojkoaknpaaTWords
import Derived.Test.YtnjobojkoaknpaaTCheck
import Derived.Test.YtnjobojkoaknpaaFx9
namespace Gim
open Go Go.RowKit Go.Proofs.YtnjobojkoaknpaaW.PrintWords Go.Proofs.YtnjobojkoaknpaaW.PrintLast Go.Proofs.YtnjobojkoaknpaaW.PrintMore Go.Proofs.Ytnjobojkoaknpaa.F
set_option linter.unusedVariables false
set_option linter.unusedSectionVars false

noncomputable def mns (a b : Int) : Int := av a (flip b)
noncomputable def quo (a b : Int) : Int := (dP a b).1
theorem mns_U {a b : Int} (ha : U a) (hb : U b) : U (mns a b) := av_U ha (U_flip hb)
theorem quo_U {a b : Int} (ha : U a) (hb : U b) : U (quo a b) := (dP_R ha hb).rangeU
theorem nMu {a b : Int} (ha : U a) (hb : U b) : Ev (fun k => soft_Calc_Mul_nil.f k a b) (mv a b) := by
  unfold soft_Calc_Mul_nil.f
  exact Ev.bind (mP_ev ha hb) (Ev.call rfl (Ev.now _))
theorem nSu {a b : Int} (ha : U a) (hb : U b) : Ev (fun k => soft_Calc_Sub_nil.f k a b) (mns a b) := by
  unfold soft_Calc_Sub_nil.f
  exact Ev.bind (sub_of_add hb (aP_ev ha (U_flip hb))) (Ev.call rfl (Ev.now _))
theorem nDi {a b : Int} (ha : U a) (hb : U b) : Ev (fun k => soft_Calc_Div_nil.f k a b) (quo a b) := by
  unfold soft_Calc_Div_nil.f
  exact Ev.bind (dP_ev ha hb) (Ev.call rfl (Ev.now _))
/-- One number less a product. -/
noncomputable def nStep (A : Nat → Nat → Int) (i k : Nat) (l : List Int) : List Int := l.set i (mns (rd l (i : Int)) (mv (A i k) (rd l (k : Int))))
noncomputable def nRow (A : Nat → Nat → Int) (i : Nat) : Nat → Nat → List Int → List Int
  | _, 0, s => s
  | lo, m + 1, s => nRow A i (lo + 1) m (nStep A i lo s)
noncomputable def nDiv (A : Nat → Nat → Int) (one : Bool) (i : Nat) (s : List Int) : List Int := if one = true then s else s.set i (quo (rd s (i : Int)) (A i i))
def rowOf (n : Nat) (up : Bool) (s : Nat) : Nat := if up = true then n - 1 - s else s
def loOf (up : Bool) (i : Nat) : Nat := if up = true then i + 1 else 0
def cntOf (n : Nat) (up : Bool) (i : Nat) : Nat := if up = true then n - (i + 1) else i
noncomputable def nOne (n : Nat) (A : Nat → Nat → Int) (up one : Bool) (s : Nat) (x : List Int) : List Int :=
  nDiv A one (rowOf n up s) (nRow A (rowOf n up s) (loOf up (rowOf n up s)) (cntOf n up (rowOf n up s)) x)
noncomputable def nRun (n : Nat) (A : Nat → Nat → Int) (up one : Bool) : Nat → Nat → List Int → List Int
  | _, 0, x => x
  | s, m + 1, x => nRun n A up one (s + 1) m (nOne n A up one s x)
theorem rowOf_lt {n : Nat} {up : Bool} {s : Nat} (h : s < n) : rowOf n up s < n := by unfold rowOf; split <;> omega
section
variable {n : Nat} {A : Nat → Nat → Int} (hA : ∀ i k, U (A i k))
include hA
theorem rdU {l : List Int} (hl : Words n l) {i : Nat} (hi : i < n) : U (rd l (i : Int)) := hl.2 _ (rd_mem (by omega) (by rw [hl.1]; omega))
theorem nStep_W {i k : Nat} (hi : i < n) (hk : k < n) {s : List Int} (h : Words n s) : Words n (nStep A i k s) :=
  h.set _ (mns_U (rdU hA h hi) (mv_U (hA i k) (rdU hA h hk)))
theorem nRow_W {i : Nat} (hi : i < n) : ∀ m lo (s : List Int), lo + m ≤ n → Words n s → Words n (nRow A i lo m s)
  | 0, lo, s, _, h => h
  | m + 1, lo, s, hm, h => nRow_W hi m (lo + 1) _ (by omega) (nStep_W hA hi (by omega) h)
theorem nDiv_W {i : Nat} (hi : i < n) {one : Bool} {s : List Int} (h : Words n s) : Words n (nDiv A one i s) := by
  unfold nDiv
  split
  · exact h
  · exact h.set _ (quo_U (rdU hA h hi) (hA i i))
theorem nOne_W {up one : Bool} {s : Nat} (hs : s < n) {x : List Int} (h : Words n x) : Words n (nOne n A up one s x) := by
  have hi := rowOf_lt (up := up) hs
  refine nDiv_W hA hi (nRow_W hA hi _ _ _ ?_ h)
  unfold loOf cntOf
  split <;> omega
theorem nRun_W {up one : Bool} : ∀ m s (x : List Int), s + m ≤ n → Words n x → Words n (nRun n A up one s m x)
  | 0, s, x, _, h => h
  | m + 1, s, x, hm, h => nRun_W m (s + 1) _ (by omega) (nOne_W hA (by omega) h)
end
section
variable {n : Nat} (hn : n ≤ 100) {d : List Int} (wd : Words (n * n) d)
include hn wd
theorem at_UU (i k : Nat) : U (at4 n n n d i k) := at_U wd.2 _ _
theorem trsvn_l2 {up one : Bool} {i hi s : Nat} (h1 : i < n) (h2 : hi ≤ n) : ∀ m lo (l : List Int), lo + m = hi → Words n l → ∀ {r : List Int × Int},
    Ev (fun K => solve_Trsv_nil.l2 K up one n (nRow (fun i k => at4 n n n d i k) i lo m l) i hi hi n s n n n d) r →
    Ev (fun K => solve_Trsv_nil.l2 K up one n l i hi lo n s n n n d) r := by
  intro m
  induction m with
  | zero =>
    intro lo l hm hl r h
    obtain rfl : lo = hi := by omega
    exact h
  | succ m ih =>
    intro lo l hm hl r h
    have lk : lo < n := by omega
    have hA := at_UU hn wd
    have e1 := nMu (hA i lo) (rdU hA hl lk)
    have e2 := nSu (rdU hA hl h1) (mv_U (hA i lo) (rdU hA hl lk))
    have W := nStep_W hA (s := l) h1 lk hl
    have hh := ih (lo + 1) _ (by omega) W h
    refine Ev.succ ?_
    simp only [solve_Trsv_nil.l2]
    rw [w64 (x := (lo : Int) + 1) (by omega) (by omega), at_eq (Sm.nat (by omega) (by omega))]
    have hlen := hl.1
    exact Ev.pos (by omega) (Ev.pos (by omega) (Ev.pos (by omega) (Ev.call rfl (Ev.pos (by omega) (Ev.pos (by omega) (Ev.bind e1 (Ev.bind e2 hh)))))))
theorem trsvn_l1 {up one : Bool} : ∀ m s (l : List Int), s + m = n → Words n l →
    Ev (fun K => solve_Trsv_nil.l1 K up one n l n s n n n d) (nRun n (fun i k => at4 n n n d i k) up one s m l, 0) := by
  intro m
  induction m with
  | zero =>
    intro s l hm hl
    refine Ev.succ ?_
    simp only [solve_Trsv_nil.l1]
    exact Ev.neg (by omega) (Ev.now _)
  | succ m ih =>
    intro s l hm hl
    have hA := at_UU hn wd
    have hs : s < n := by omega
    have hi := rowOf_lt (up := up) hs
    have W1 : Words n (nRow (fun i k => at4 n n n d i k) (rowOf n up s) (loOf up (rowOf n up s)) (cntOf n up (rowOf n up s)) l) := by
      refine nRow_W hA hi _ _ _ ?_ hl
      unfold loOf cntOf
      split <;> omega
    have W2 : Words n (nOne n (fun i k => at4 n n n d i k) up one s l) := nOne_W hA hs hl
    have hh := ih (s + 1) (nOne n (fun i k => at4 n n n d i k) up one s l) (by omega) W2
    have fin_ : Ev (fun K => solve_Trsv_nil.j3 K up one n l (rowOf n up s : Nat) n s n n n d) (nRun n (fun i k => at4 n n n d i k) up one s (m + 1) l, 0) := by
      have go : Ev (fun K => solve_Trsv_nil.l2 K up one n l (rowOf n up s : Nat) (loOf up (rowOf n up s) + cntOf n up (rowOf n up s) : Nat) (loOf up (rowOf n up s) : Nat) n s n n n d)
          (nRun n (fun i k => at4 n n n d i k) up one s (m + 1) l, 0) := by
        refine trsvn_l2 hn wd hi ?_ _ _ l rfl hl ?_
        · unfold loOf cntOf; split <;> omega
        · refine Ev.succ ?_
          simp only [solve_Trsv_nil.l2]
          rw [w64 (x := (s : Int) + 1) (by omega) (by omega)]
          refine Ev.neg (by omega) ?_
          have hlen := W1.1
          cases one
          · rw [at_eq (Sm.nat (by omega) (by omega))]
            refine Ev.neg (by simp) (Ev.pos (by omega) (Ev.pos (by omega) (Ev.call rfl (Ev.bind (nDi (rdU hA W1 hi) (hA _ _)) hh))))
          · exact Ev.pos rfl hh
      refine Ev.succ ?_
      simp only [solve_Trsv_nil.j3]
      cases up
      · refine Ev.neg (by simp) (Ev.call rfl (Ev.call rfl (Ev.succ ?_)))
        simp only [solve_Trsv_nil.j4]
        have e : loOf false (rowOf n false s) + cntOf n false (rowOf n false s) = rowOf n false s := by simp [loOf, cntOf]
        rw [e] at go
        exact go
      · refine Ev.pos rfl (Ev.call rfl (Ev.call rfl (Ev.succ ?_)))
        simp only [solve_Trsv_nil.j4]
        have e : loOf true (rowOf n true s) + cntOf n true (rowOf n true s) = n := by simp only [loOf, cntOf, if_true]; omega
        rw [e] at go
        rw [w64 (by omega) (by omega)]
        exact go
    refine Ev.succ ?_
    simp only [solve_Trsv_nil.l1]
    refine Ev.pos (by omega) ?_
    cases up
    · exact Ev.neg (by simp) fin_
    · refine Ev.pos rfl ?_
      have e : wrap64 (wrap64 ((n : Int) - 1) - (s : Int)) = ((rowOf n true s : Nat) : Int) := by
        rw [w64 (x := (n : Int) - 1) (by omega) (by omega), w64 (by omega) (by omega)]
        simp only [rowOf, if_true]
        omega
      rw [e]
      exact fin_
/-- Where a number stands that can't be divided by. -/
def bad (n : Nat) (d : List Int) (one : Bool) (i : Nat) : Prop := one = false ∧ mag (at4 n n n d i i) = 0
theorem trsvn_l0_ok {up one : Bool} {b : List Int} {r : List Int × Int} : ∀ m i, i + m = n → (∀ j, i ≤ j → j < n → ¬ bad n d one j) →
    Ev (fun K => solve_Trsv_nil.l0 K up one b n n n n n n d) r → Ev (fun K => solve_Trsv_nil.l0 K up one b n n i n n n d) r := by
  intro m
  induction m with
  | zero => intro i h1 h2 h; obtain rfl : i = n := by omega
            exact h
  | succ m ih =>
    intro i h1 h2 h
    have hh := ih (i + 1) (by omega) (fun j a c => h2 j (by omega) c) h
    have nb := h2 i (by omega) (by omega)
    refine Ev.succ ?_
    simp only [solve_Trsv_nil.l0]
    rw [w64 (x := (i : Int) + 1) (by omega) (by omega), at_eq (Sm.nat (by omega) (by omega))]
    refine Ev.pos (by omega) ?_
    cases one
    · refine Ev.neg (by simp) (Ev.call rfl (Ev.bind (word_Kind_ev (at_UU hn wd i i)) (Ev.neg ?_ hh)))
      intro k1
      exact nb ⟨rfl, kind1.mp k1⟩
    · exact Ev.pos rfl hh
theorem trsvn_l0_no {up one : Bool} {b : List Int} : ∀ m i, i + m = n → (∃ j, i ≤ j ∧ j < n ∧ bad n d one j) →
    Ev (fun K => solve_Trsv_nil.l0 K up one b n n i n n n d) ([], 7) := by
  intro m
  induction m with
  | zero => intro i h1 h2; obtain ⟨j, h3, h4, _⟩ := h2; omega
  | succ m ih =>
    intro i h1 h2
    refine Ev.succ ?_
    simp only [solve_Trsv_nil.l0]
    rw [w64 (x := (i : Int) + 1) (by omega) (by omega), at_eq (Sm.nat (by omega) (by omega))]
    refine Ev.pos (by omega) ?_
    have o : one = false := by obtain ⟨j, _, _, h5⟩ := h2; exact h5.1
    subst o
    refine Ev.neg (by simp) (Ev.call rfl (Ev.bind (word_Kind_ev (at_UU hn wd i i)) ?_))
    by_cases c : mag (at4 n n n d i i) = 0
    · exact Ev.pos (kind1.mpr c) (Ev.now _)
    · refine Ev.neg (fun k1 => c (kind1.mp k1)) (ih (i + 1) (by omega) ?_)
      obtain ⟨j, h3, h4, h5⟩ := h2
      refine ⟨j, ?_, h4, h5⟩
      rcases Nat.lt_or_eq_of_le h3 with h6 | h6
      · omega
      · subst h6; exact absurd h5.2 c
/-- WHAT A TRIANGLE, TIMES THAT, IS A LIST. -/
theorem trsvn_ev {up one : Bool} {b : List Int} (wb : Words n b) (h : ∀ j, j < n → ¬ bad n d one j) :
    Ev (fun K => solve_Trsv_nil.f K n n n d up one b) (nRun n (fun i k => at4 n n n d i k) up one 0 n b, 0) := by
  have hlen := wb.1
  have ne : ((n : Int) != (b.length : Int)) = false := by rw [hlen]; simp
  unfold solve_Trsv_nil.f
  refine Ev.bind (check_dense (by omega) (by omega) wd.1) (Ev.pos rfl (Ev.pos rfl (Ev.succ ?_)))
  simp only [solve_Trsv_nil.j0]
  rw [ne, hlen]
  refine Ev.neg (by simp) (trsvn_l0_ok hn wd n 0 (by omega) (fun j _ c => h j c) (Ev.succ ?_))
  simp only [solve_Trsv_nil.l0]
  rw [List.nil_append]
  refine Ev.neg (by omega) (Ev.pos (by simp only [List.length_nil]; omega) ?_)
  exact trsvn_l1 hn wd n 0 b (by omega) wb
theorem trsvn_no {up one : Bool} {b : List Int} (wb : Words n b) (h : ∃ j, j < n ∧ bad n d one j) :
    Ev (fun K => solve_Trsv_nil.f K n n n d up one b) ([], 7) := by
  have hlen := wb.1
  have ne : ((n : Int) != (b.length : Int)) = false := by rw [hlen]; simp
  obtain ⟨j, h1, h2⟩ := h
  unfold solve_Trsv_nil.f
  refine Ev.bind (check_dense (by omega) (by omega) wd.1) (Ev.pos rfl (Ev.pos rfl (Ev.succ ?_)))
  simp only [solve_Trsv_nil.j0]
  rw [ne, hlen]
  exact Ev.neg (by simp) (trsvn_l0_no hn wd n 0 (by omega) ⟨j, by omega, h1, h2⟩)
end
end Gim

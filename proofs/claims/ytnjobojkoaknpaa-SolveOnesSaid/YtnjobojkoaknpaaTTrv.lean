/- A triangle times a list without a memory of flags: what solve.Trmv makes, number by number. -/
import Derived.Test.YtnjobojkoaknpaaTTriN
import Derived.Test.YtnjobojkoaknpaaTCnt
import Derived.Test.YtnjobojkoaknpaaFx16
import Derived.Test.YtnjobojkoaknpaaFx15
namespace Gim
open Go Go.RowKit Go.Proofs.YtnjobojkoaknpaaW.PrintWords Go.Proofs.YtnjobojkoaknpaaW.PrintLast Go.Proofs.YtnjobojkoaknpaaW.PrintMore Go.Proofs.Ytnjobojkoaknpaa.F
set_option linter.unusedVariables false
set_option linter.unusedSectionVars false

theorem nAd {a b : Int} (ha : U a) (hb : U b) : Ev (fun k => soft_Calc_Add_nil.f k a b) (av a b) := by
  unfold soft_Calc_Add_nil.f
  exact Ev.bind (aP_ev ha hb) (Ev.call rfl (Ev.now _))
/-- A sum, products added one behind the other. -/
noncomputable def vSum (g x : Nat → Int) : Nat → Nat → Int → Int
  | _, 0, s => s
  | lo, m + 1, s => vSum g x (lo + 1) m (av s (mv (g lo) (x lo)))
theorem vSum_U {g x : Nat → Int} (hg : ∀ i, U (g i)) (hx : ∀ i, U (x i)) : ∀ m lo s, U s → U (vSum g x lo m s)
  | 0, lo, s, h => h
  | m + 1, lo, s, h => vSum_U hg hx m (lo + 1) _ (av_U h (mv_U (hg lo) (hx lo)))
/-- One of the numbers of a triangle times a list. -/
noncomputable def vOne (n : Nat) (A : Nat → Nat → Int) (up one : Bool) (x : Nat → Int) (i : Nat) : Int :=
  vSum (A i) x (loOf up i) (cntOf n up i) (if one = true then x i else mv (A i i) (x i))
section
variable {n : Nat} (hn : n ≤ 100) {d : List Int} (wd : Words (n * n) d) {x : List Int} (wx : Words n x)
include hn wd wx
theorem xU (i : Nat) : U (rd x (i : Int)) := rd_U wx.2 i
theorem trmv_l1 {up one : Bool} {o : List Int} {i hi : Nat} (h1 : i < n) (h2 : hi ≤ n) {r : List Int × Int} : ∀ m lo (s : Int), lo + m = hi → U s →
    Ev (fun K => solve_Trmv_nil.l1 K up one x o i (vSum (fun k => at4 n n n d i k) (fun k => rd x (k : Int)) lo m s) hi hi n i n n n d) r →
    Ev (fun K => solve_Trmv_nil.l1 K up one x o i s hi lo n i n n n d) r := by
  intro m
  induction m with
  | zero =>
    intro lo s hm hs h
    obtain rfl : lo = hi := by omega
    exact h
  | succ m ih =>
    intro lo s hm hs h
    have hU := xU hn wd wx
    have hA : U (at4 n n n d i lo) := at_U wd.2 _ _
    have hh := ih (lo + 1) _ (by omega) (av_U hs (mv_U hA (hU lo))) h
    have hlen := wx.1
    refine Ev.succ ?_
    simp only [solve_Trmv_nil.l1]
    rw [w64 (x := (lo : Int) + 1) (by omega) (by omega), at_eq (Sm.nat (by omega) (by omega))]
    exact Ev.pos (by omega) (Ev.call rfl (Ev.pos (by omega) (Ev.pos (by omega) (Ev.bind (nMu hA (hU lo)) (Ev.bind (nAd hs (mv_U hA (hU lo))) hh)))))
theorem trmv_l0 {up one : Bool} : ∀ m i, i + m = n →
    Ev (fun K => solve_Trmv_nil.l0 K up one x (cnt i (vOne n (fun i k => at4 n n n d i k) up one (fun k => rd x (k : Int)))) n i n n n d)
      (cnt n (vOne n (fun i k => at4 n n n d i k) up one (fun k => rd x (k : Int))), 0) := by
  intro m
  induction m with
  | zero =>
    intro i hm
    obtain rfl : i = n := by omega
    refine Ev.succ ?_
    simp only [solve_Trmv_nil.l0]
    exact Ev.neg (by omega) (Ev.now _)
  | succ m ih =>
    intro i hm
    have hi : i < n := by omega
    have hh := ih (i + 1) (by omega)
    have hlen := wx.1
    have hU := xU hn wd wx
    have hA : ∀ k : Nat, U (at4 n n n d i k) := fun k => at_U wd.2 _ _
    have us : U (if one = true then rd x (i : Int) else mv (at4 n n n d i i) (rd x (i : Int))) := by
      split
      · exact hU i
      · exact mv_U (hA i) (hU i)
    have go : Ev (fun K => solve_Trmv_nil.l1 K up one x (cnt i (vOne n (fun i k => at4 n n n d i k) up one (fun k => rd x (k : Int)))) i (if one = true then rd x (i : Int) else mv (at4 n n n d i i) (rd x (i : Int)))
        (loOf up i + cntOf n up i : Nat) (loOf up i : Nat) n i n n n d) (cnt n (vOne n (fun i k => at4 n n n d i k) up one (fun k => rd x (k : Int))), 0) := by
      refine trmv_l1 hn wd wx hi ?_ (cntOf n up i) (loOf up i) _ rfl us ?_
      · unfold loOf cntOf; split <;> omega
      · refine Ev.succ ?_
        simp only [solve_Trmv_nil.l1]
        rw [w64 (x := (i : Int) + 1) (by omega) (by omega)]
        refine Ev.neg (by omega) (Ev.pos (by rw [cnt_len]; omega) ?_)
        rw [cnt_succ] at hh
        exact hh
    have mid : Ev (fun K => solve_Trmv_nil.j2 K up one x (cnt i (vOne n (fun i k => at4 n n n d i k) up one (fun k => rd x (k : Int)))) i (if one = true then rd x (i : Int) else mv (at4 n n n d i i) (rd x (i : Int)))
        n i n n n d) (cnt n (vOne n (fun i k => at4 n n n d i k) up one (fun k => rd x (k : Int))), 0) := by
      refine Ev.succ ?_
      simp only [solve_Trmv_nil.j2]
      cases up
      · refine Ev.neg (by simp) (Ev.call rfl (Ev.call rfl (Ev.succ ?_)))
        simp only [solve_Trmv_nil.j3]
        have e : loOf false i + cntOf n false i = i := by simp [loOf, cntOf]
        rw [e] at go
        exact go
      · refine Ev.pos rfl (Ev.call rfl (Ev.call rfl (Ev.succ ?_)))
        simp only [solve_Trmv_nil.j3]
        have e : loOf true i + cntOf n true i = n := by simp only [loOf, cntOf, if_true]; omega
        rw [e] at go
        rw [w64 (by omega) (by omega)]
        exact go
    refine Ev.succ ?_
    simp only [solve_Trmv_nil.l0]
    rw [at_eq (Sm.nat (by omega) (by omega))]
    refine Ev.pos (by omega) (Ev.pos (by omega) (Ev.pos (by omega) ?_))
    cases one
    · exact Ev.neg (by simp) (Ev.call rfl (Ev.bind (nMu (hA i) (hU i)) mid))
    · exact Ev.pos rfl mid
/-- A TRIANGLE TIMES A LIST. -/
theorem trmv_ev {up one : Bool} : Ev (fun K => solve_Trmv_nil.f K n n n d up one x) (cnt n (vOne n (fun i k => at4 n n n d i k) up one (fun k => rd x (k : Int))), 0) := by
  have hlen := wx.1
  have ne : ((n : Int) != (x.length : Int)) = false := by rw [hlen]; simp
  unfold solve_Trmv_nil.f
  refine Ev.bind (check_dense (by omega) (by omega) wd.1) (Ev.pos rfl (Ev.pos rfl (Ev.succ ?_)))
  simp only [solve_Trmv_nil.j0]
  rw [ne]
  exact Ev.neg (by simp) (trmv_l0 hn wd wx n 0 (by omega))
end
end Gim

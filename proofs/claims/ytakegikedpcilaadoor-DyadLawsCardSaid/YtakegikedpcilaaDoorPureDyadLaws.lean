/- DyadLaws: sums and products of exact numbers don't hang on order or place; for every input. -/
import Derived.Test.YtakegikedpcilaaDoorTDyF
import Derived.Test.YtakegikedpcilaaDoorTDyI
import Derived.Test.YtakegikedpcilaaDoorFx9
import Derived.Test.YtakegikedpcilaaDoorFx21
namespace Go.Proofs.YtakegikedpcilaaDoor.Pure
open Gim Go Go.RowKit Go.Proofs.YtakegikedpcilaaDoorW.PrintWords Go.Proofs.YtakegikedpcilaaDoorW.PrintLast Go.Proofs.YtakegikedpcilaaDoorW.PrintMore Go.Proofs.YtakegikedpcilaaDoor.F
set_option linter.unusedVariables false

theorem head_ok : gimballaw07_head.f 300 = some true := by decide +kernel
theorem head_ev : Ev (fun k => gimballaw07_head.f k) true := Ev.of (fun k => gimballaw07_head.mono k) head_ok
theorem of_any {a E : Int} (hE : E = 1074) (ha : U a) : ∃ x r l f, Ev (fun K => gimballaw07_of.f K a) (r, l, f) ∧ Nm E x r l f := by
  by_cases fa : fin a
  · obtain ⟨r, l, f, ev, nm⟩ := law_of_ev hE ha fa
    exact ⟨_, r, l, f, ev, nm⟩
  · exact ⟨0, _, _, _, law_of_none ha fa, Nm.zero (by omega)⟩
theorem fin_ev {c : Bool} {g : Nat → Option Bool} (h : Ev g c) (hc : c = true) : Ev g true := hc ▸ h
theorem same_true {E E' : Int} {x y : Rat} {n n' : Bool} {m m' : List Int} {e e' : Int} (hE0 : 0 ≤ E) (hE : E ≤ 1000000) (a : Nm E x n m e) (b : Nm E' y n' m' e') (h : x = y) : Ev (fun K => dyad_Num_Same.f K n m e n' m' e') true :=
  fin_ev (same_ev hE0 hE a b) (decide_eq_true h)
theorem rsgn_zero {x : Rat} : rsgn x = 0 ↔ x = 0 := by
  unfold rsgn
  constructor
  · intro h
    split at h
    · assumption
    · split at h <;> omega
  · intro h; rw [if_pos h]
theorem rsgn_neg (x : Rat) : rsgn (-x) = -rsgn x := by
  unfold rsgn
  by_cases h : x = 0
  · rw [if_pos h, if_pos (by grind)]; rfl
  · rw [if_neg h, if_neg (by grind)]
    by_cases c : x < 0
    · rw [if_pos c, if_neg (by grind)]; rfl
    · rw [if_neg c, if_pos (by grind)]
theorem rsgn_le (x : Rat) : -1 ≤ rsgn x ∧ rsgn x ≤ 1 := by
  unfold rsgn
  split
  · omega
  · split <;> omega
theorem wneg (x : Rat) : wrap64 (-rsgn x) = -rsgn x := by
  have := rsgn_le x
  exact w64 (by omega) (by omega)
theorem DyadLaws : gimballaw07_DyadLaws.Pure := by
  intro a b c wa wb wc
  obtain ⟨E, hE⟩ : ∃ E : Int, E = 1074 := ⟨_, rfl⟩
  obtain ⟨x, x1, x2, x3, ex, nx⟩ := of_any hE (U_of_wf wa)
  obtain ⟨y, y1, y2, y3, ey, ny⟩ := of_any hE (U_of_wf wb)
  obtain ⟨z, z1, z2, z3, ez, nz⟩ := of_any hE (U_of_wf wc)
  obtain ⟨_, _, _, s1, n1⟩ := num_add_ev (by omega) (by omega) nx ny
  obtain ⟨_, _, _, s2, n2⟩ := num_mul_ev (by omega) (by omega) (by omega) (by omega) n1 nz
  obtain ⟨_, _, _, s3, n3⟩ := num_mul_ev (by omega) (by omega) (by omega) (by omega) nz nx
  obtain ⟨_, _, _, s4, n4⟩ := num_mul_ev (by omega) (by omega) (by omega) (by omega) ny nz
  obtain ⟨_, _, _, s5, n5⟩ := num_add_ev (by omega) (by omega) n3 n4
  have q1 := same_true (by omega) (by omega) n2 n5 (by grind)
  obtain ⟨_, _, _, s6, n6⟩ := num_add_ev (by omega) (by omega) n1 (nz.mono (show E ≤ E + 1 by omega))
  obtain ⟨_, _, _, s7, n7⟩ := num_add_ev (by omega) (by omega) nz nx
  obtain ⟨_, _, _, s8, n8⟩ := num_add_ev (by omega) (by omega) (ny.mono (show E ≤ E + 1 by omega)) n7
  have q2 := same_true (by omega) (by omega) n6 n8 (by grind)
  obtain ⟨_, _, _, s9, n9⟩ := num_sub_ev (by omega) (by omega) nx ny
  obtain ⟨_, _, _, s10, n10⟩ := num_add_ev (by omega) (by omega) n9 (ny.mono (show E ≤ E + 1 by omega))
  have q3 := same_true (by omega) (by omega) n10 nx (by grind)
  obtain ⟨_, _, _, s11, n11⟩ := num_sub_ev (by omega) (by omega) nx nx
  have g11 := sign_eq n11
  have c1 := num_cmp_ev (by omega) (by omega) nx ny
  have c2 := num_cmp_ev (by omega) (by omega) ny nx
  have q4 := same_ev (by omega) (by omega) nx ny
  obtain ⟨e12, n12⟩ := abs_ev nx
  have g12 := sign_eq n12
  obtain ⟨_, e13, n13⟩ := neg_ev nx
  obtain ⟨_, e14, n14⟩ := neg_ev n13
  have q5 := same_true (by omega) (by omega) n14 nx (by grind)
  have g13 := sign_eq n13
  have gx := sign_eq nx
  obtain ⟨_, _, _, s15, n15⟩ := num_add_ev (by omega) (by omega) nx nx
  obtain ⟨_, _, _, s16, n16⟩ := int_ev (z := 2) (by decide) (by decide)
  obtain ⟨_, _, _, s17, n17⟩ := num_mul_ev (by omega) (by omega) (by omega) (by omega) nx n16
  have q6 := same_true (by omega) (by omega) n15 n17 (by rw [show ((2 : Int) : Rat) = 2 from rfl]; grind)
  apply Ev.rounds
  unfold gimballaw07_DyadLaws.f
  refine Ev.bind head_ev (Ev.pos rfl (Ev.bind ex (Ev.bind ey (Ev.bind ez (Ev.bind s1 (Ev.bind s2 (Ev.bind s3 (Ev.bind s4 (Ev.bind s5 (Ev.bind q1 (Ev.pos rfl ?_)))))))))))
  refine Ev.bind s1 (Ev.bind s6 (Ev.bind s7 (Ev.bind s8 (Ev.bind q2 (Ev.pos rfl (Ev.bind s9 (Ev.bind s10 (Ev.bind q3 (Ev.pos rfl (Ev.bind s11 (Ev.call g11 (Ev.pos (rsgn_zero.mpr (by grind)) ?_))))))))))))
  refine Ev.bind c1 (Ev.bind c2 (Ev.pos ?_ (Ev.bind c1 (Ev.bind q4 (Ev.pos ?_ ?_)))))
  · rw [wneg, ← rsgn_neg]; congr 1; grind
  · have : (rsgn (x - y) == 0) = decide (x = y) := by
      rw [Bool.eq_iff_iff, beq_iff_eq, rsgn_zero, decide_eq_true_eq]
      constructor <;> intro h <;> grind
    rw [this]; simp
  refine Ev.call e12 (Ev.call g12 (Ev.pos ?_ (Ev.call e13 (Ev.call e14 (Ev.bind q5 (Ev.pos rfl (Ev.call e13 (Ev.call g13 (Ev.call gx (Ev.pos ?_ ?_))))))))))
  · have h := rabs_nonneg x
    show rsgn (rabs x) ≥ 0
    unfold rsgn
    split
    · omega
    · rw [if_neg (by grind)]; omega
  · rw [wneg, rsgn_neg]
  refine Ev.bind s15 (Ev.bind s16 (Ev.bind s17 (Ev.bind q6 (Ev.succ ?_))))
  simp only [gimballaw07_DyadLaws.j0]
  exact Ev.now _
end Go.Proofs.YtakegikedpcilaaDoor.Pure

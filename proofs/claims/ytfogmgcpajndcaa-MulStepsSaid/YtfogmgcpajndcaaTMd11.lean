/- A matrix of patterns, again and again (gimballaw11.made): its sizes, and that it holds words. -/
import Derived.Test.YtfogmgcpajndcaaTMat
import Derived.Test.YtfogmgcpajndcaaTWords
import Derived.Test.YtfogmgcpajndcaaFx8
namespace Gim
open Go Go.RowKit Go.Proofs.YtfogmgcpajndcaaW.PrintWords Go.Proofs.YtfogmgcpajndcaaW.PrintLast Go.Proofs.YtfogmgcpajndcaaW.PrintMore Go.Proofs.Ytfogmgcpajndcaa.F
set_option linter.unusedVariables false

theorem made11_l0 {R C : Nat} (hR : R ≤ 100) (hC : C ≤ 100) {all : List Int} (ha : ∀ x ∈ all, U x) (hl : all.length ≤ 100) {from_ : Int} (f0 : 0 ≤ from_) (f1 : from_ ≤ 10) :
    ∀ t x : Nat, R * C - x = t → x ≤ R * C → ∀ d, Words (R * C) d → ∃ d', Words (R * C) d' ∧ Ev (fun K => gimballaw11_made.l0 K all from_ ((R * C : Nat) : Int) x R C C d) ((R : Int), (C : Int), (C : Int), d') := by
  have hRC : R * C ≤ 10000 := Nat.mul_le_mul hR hC
  intro t
  induction t with
  | zero =>
    intro x h1 h2 d hd
    obtain rfl : x = R * C := by omega
    refine ⟨d, hd, Ev.succ ?_⟩
    simp only [gimballaw11_made.l0]
    exact Ev.neg (by omega) (Ev.now _)
  | succ t ih =>
    intro x h1 h2 d hd
    have hlen := hd.1
    have ew : wrap64 ((x : Int) + 1) = ((x + 1 : Nat) : Int) := by rw [w64 (by omega) (by omega)]; rfl
    have a1 : (x : Int) < ((R * C : Nat) : Int) := by omega
    have a2 : (0 : Int) ≤ (x : Int) := by omega
    have a3 : (x : Int) < (d.length : Int) := by omega
    by_cases c : (all.length : Int) > 0
    · have a4 : ¬ (all.length : Int) = 0 := by omega
      have i0 : 0 ≤ Int.tmod (wrap64 ((x : Int) + from_)) (all.length : Int) := by
        rw [w64 (by omega) (by omega)]; exact Int.tmod_nonneg _ (by omega)
      have i1 : Int.tmod (wrap64 ((x : Int) + from_)) (all.length : Int) < (all.length : Int) := by
        rw [w64 (by omega) (by omega)]; exact Int.tmod_lt_of_pos _ c
      have hu := ha _ (rd_mem i0 i1)
      obtain ⟨d', hd', ev⟩ := ih (x + 1) (by omega) (by omega) (d.set (x : Int).toNat (rd all (Int.tmod (wrap64 ((x : Int) + from_)) (all.length : Int)))) (hd.set _ hu)
      refine ⟨d', hd', Ev.succ ?_⟩
      simp only [gimballaw11_made.l0]
      rw [ew]
      exact Ev.pos a1 (Ev.pos c (Ev.neg a4 (Ev.pos i0 (Ev.pos i1 (Ev.pos a2 (Ev.pos a3 ev))))))
    · obtain ⟨d', hd', ev⟩ := ih (x + 1) (by omega) (by omega) d hd
      refine ⟨d', hd', Ev.succ ?_⟩
      simp only [gimballaw11_made.l0]
      rw [ew]
      exact Ev.pos a1 (Ev.neg c ev)
theorem made11_ev {R C : Nat} (hR : R ≤ 100) (hC : C ≤ 100) {all : List Int} (ha : ∀ x ∈ all, U x) (hl : all.length ≤ 100) {from_ : Int} (f0 : 0 ≤ from_) (f1 : from_ ≤ 10) :
    ∃ d, Words (R * C) d ∧ Ev (fun K => gimballaw11_made.f K R C all from_) ((R : Int), (C : Int), (C : Int), d) := by
  obtain ⟨d, hd, ev⟩ := made11_l0 hR hC ha hl f0 f1 (R * C) 0 (by omega) (by omega) _ (Words.zeros _)
  refine ⟨d, hd, ?_⟩
  unfold gimballaw11_made.f
  refine Ev.call (new_eq (by omega) (by omega)) ?_
  dsimp only
  rw [List.length_replicate]
  exact ev
end Gim

/- A square of patterns, and a list of patterns, again and again (gimballaw12.made, .list). -/
import Derived.Test.YtnjobojkoaknpaaTMat
import Derived.Test.YtnjobojkoaknpaaTWords
import Derived.Test.YtnjobojkoaknpaaFx13
namespace Gim
open Go Go.RowKit Go.Proofs.YtnjobojkoaknpaaW.PrintWords Go.Proofs.YtnjobojkoaknpaaW.PrintLast Go.Proofs.YtnjobojkoaknpaaW.PrintMore Go.Proofs.Ytnjobojkoaknpaa.F
set_option linter.unusedVariables false

theorem made12_l0 {n : Nat} (hn : n ≤ 100) {all : List Int} (ha : ∀ x ∈ all, U x) (hl : all.length ≤ 100) {from_ : Int} (f0 : 0 ≤ from_) (f1 : from_ ≤ 10) :
    ∀ t x : Nat, n * n - x = t → x ≤ n * n → ∀ d, Words (n * n) d → ∃ d', Words (n * n) d' ∧ Ev (fun K => gimballaw12_made.l0 K all from_ ((n * n : Nat) : Int) x n n n d) ((n : Int), (n : Int), (n : Int), d') := by
  have hRC : n * n ≤ 10000 := Nat.mul_le_mul hn hn
  intro t
  induction t with
  | zero =>
    intro x h1 h2 d hd
    obtain rfl : x = n * n := by omega
    refine ⟨d, hd, Ev.succ ?_⟩
    simp only [gimballaw12_made.l0]
    exact Ev.neg (by omega) (Ev.now _)
  | succ t ih =>
    intro x h1 h2 d hd
    have hlen := hd.1
    have ew : wrap64 ((x : Int) + 1) = ((x + 1 : Nat) : Int) := by rw [w64 (by omega) (by omega)]; rfl
    have a1 : (x : Int) < ((n * n : Nat) : Int) := by omega
    have a2 : (0 : Int) ≤ (x : Int) := by omega
    have a3 : (x : Int) < (d.length : Int) := by omega
    by_cases c : (all.length : Int) > 0
    · have a4 : ¬ (all.length : Int) = 0 := by omega
      have i0 : 0 ≤ Int.tmod (wrap64 ((x : Int) + from_)) (all.length : Int) := by
        rw [w64 (by omega) (by omega)]; exact Int.tmod_nonneg _ (by omega)
      have i1 : Int.tmod (wrap64 ((x : Int) + from_)) (all.length : Int) < (all.length : Int) := by
        rw [w64 (by omega) (by omega)]; exact Int.tmod_lt_of_pos _ c
      have hu := ha _ (rd_mem i0 i1)
      obtain ⟨d', hd', ev⟩ := ih (x + 1) (by omega) (by omega) (d.set (x : Int).toNat (rd all (Int.tmod (wrap64 ((x : Int) + from_)) (all.length : Int)))) (hd.set _ hu)
      refine ⟨d', hd', Ev.succ ?_⟩
      simp only [gimballaw12_made.l0]
      rw [ew]
      exact Ev.pos a1 (Ev.pos c (Ev.neg a4 (Ev.pos i0 (Ev.pos i1 (Ev.pos a2 (Ev.pos a3 ev))))))
    · obtain ⟨d', hd', ev⟩ := ih (x + 1) (by omega) (by omega) d hd
      refine ⟨d', hd', Ev.succ ?_⟩
      simp only [gimballaw12_made.l0]
      rw [ew]
      exact Ev.pos a1 (Ev.neg c ev)
theorem made12_ev {n : Nat} (hn : n ≤ 100) {all : List Int} (ha : ∀ x ∈ all, U x) (hl : all.length ≤ 100) {from_ : Int} (f0 : 0 ≤ from_) (f1 : from_ ≤ 10) :
    ∃ d, Words (n * n) d ∧ Ev (fun K => gimballaw12_made.f K n all from_) ((n : Int), (n : Int), (n : Int), d) := by
  obtain ⟨d, hd, ev⟩ := made12_l0 hn ha hl f0 f1 (n * n) 0 (by omega) (by omega) _ (Words.zeros _)
  refine ⟨d, hd, ?_⟩
  unfold gimballaw12_made.f
  refine Ev.call (new_eq (by omega) (by omega)) ?_
  dsimp only
  rw [List.length_replicate]
  exact ev
theorem Words.add {n : Nat} {d : List Int} (h : Words n d) {v : Int} (hv : U v) : Words (n + 1) (d ++ [v]) := by
  refine ⟨by rw [List.length_append, h.1]; rfl, fun x hx => ?_⟩
  rcases List.mem_append.mp hx with hx | hx
  · exact h.2 x hx
  · rw [List.mem_singleton.mp hx]; exact hv
theorem list12_l0 {n : Nat} (hn : n ≤ 100) {all : List Int} (ha : ∀ x ∈ all, U x) (hl : all.length ≤ 100) {from_ : Int} (f0 : 0 ≤ from_) (f1 : from_ ≤ 10) :
    ∀ t x : Nat, x + t = n → ∀ d, Words x d → ∃ d', Words n d' ∧ Ev (fun K => gimballaw12_list.l0 K n all from_ d x) d' := by
  intro t
  induction t with
  | zero =>
    intro x h1 d hd
    obtain rfl : x = n := by omega
    refine ⟨d, hd, Ev.succ ?_⟩
    simp only [gimballaw12_list.l0]
    exact Ev.neg (by omega) (Ev.now _)
  | succ t ih =>
    intro x h1 d hd
    have hlen := hd.1
    have ew : wrap64 ((x : Int) + 1) = ((x + 1 : Nat) : Int) := by rw [w64 (by omega) (by omega)]; rfl
    have a1 : (x : Int) < (n : Int) := by omega
    have a3 : d.length < 17592186044416 := by omega
    by_cases c : (all.length : Int) > 0
    · have a4 : ¬ (all.length : Int) = 0 := by omega
      have i0 : 0 ≤ Int.tmod (wrap64 ((x : Int) + from_)) (all.length : Int) := by
        rw [w64 (by omega) (by omega)]; exact Int.tmod_nonneg _ (by omega)
      have i1 : Int.tmod (wrap64 ((x : Int) + from_)) (all.length : Int) < (all.length : Int) := by
        rw [w64 (by omega) (by omega)]; exact Int.tmod_lt_of_pos _ c
      have hu := ha _ (rd_mem i0 i1)
      obtain ⟨d', hd', ev⟩ := ih (x + 1) (by omega) (d ++ [rd all (Int.tmod (wrap64 ((x : Int) + from_)) (all.length : Int))]) (hd.add hu)
      refine ⟨d', hd', Ev.succ ?_⟩
      simp only [gimballaw12_list.l0]
      rw [ew]
      exact Ev.pos a1 (Ev.pos c (Ev.neg a4 (Ev.pos i0 (Ev.pos i1 (Ev.pos a3 ev)))))
    · obtain ⟨d', hd', ev⟩ := ih (x + 1) (by omega) (d ++ [4607182418800017408]) (hd.add ⟨by decide, by decide⟩)
      refine ⟨d', hd', Ev.succ ?_⟩
      simp only [gimballaw12_list.l0]
      rw [ew]
      exact Ev.pos a1 (Ev.neg c (Ev.pos a3 ev))
theorem list12_ev {n : Nat} (hn : n ≤ 100) {all : List Int} (ha : ∀ x ∈ all, U x) (hl : all.length ≤ 100) {from_ : Int} (f0 : 0 ≤ from_) (f1 : from_ ≤ 10) :
    ∃ d, Words n d ∧ Ev (fun K => gimballaw12_list.f K n all from_) d := by
  obtain ⟨d, hd, ev⟩ := list12_l0 hn ha hl f0 f1 n 0 (by omega) [] ⟨rfl, fun x hx => by simp at hx⟩
  exact ⟨d, hd, ev⟩
theorem in12_eq (i k : Nat) (up : Bool) : gimballaw12_in.f i k up = some (decide (if up = true then i < k else k < i)) := by
  unfold gimballaw12_in.f
  cases up
  · simp
  · by_cases c : i < k
    · have : (k : Int) > (i : Int) := by omega
      simp [c, this]
    · have : ¬ (k : Int) > (i : Int) := by omega
      simp [c]
end Gim

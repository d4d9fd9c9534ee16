/- MatChecks: whatever sizes, stride and data: Check tells whether it is a matrix, and At and Set do what they should at every place; for every input. -/
import Derived.Test.YtenegelkbfmjkaaTCut
import Derived.Test.YtenegelkbfmjkaaTMade
import Derived.Test.YtenegelkbfmjkaaFx5
import Derived.Test.YtenegelkbfmjkaaFx11
namespace Go.Proofs.Ytenegelkbfmjkaa.Pure
open Gim Go.RowKit Go.Proofs.Ytenegelkbfmjkaa.F Go.Proofs.YtenegelkbfmjkaaW.PrintWords Go.Proofs.YtenegelkbfmjkaaW.PrintLast
set_option linter.unusedVariables false

theorem head_ok : gimballaw09_head.f 200 = some true := by decide +kernel
theorem head_ev : Ev (fun k => gimballaw09_head.f k) true := Ev.of (fun k => gimballaw09_head.mono k) head_ok
theorem and255 (x : Int) : Go.bits .and .i64 x 255 = x % 256 := i64_and 8 (by decide) x
/-- The numbers 5, 6, .. -/
def five (n : Nat) : List Int := gat 1 n (fun _ k => (k : Int) + 5)
theorem five_length (n : Nat) : (five n).length = n := by unfold five; rw [gat_length, Nat.one_mul]
theorem five_rd {n k : Nat} (h : k < n) : rd (five n) (k : Int) = (k : Int) + 5 := by
  have := rd_gat (R := 1) (C := n) (i := 0) (k := k) (g := fun _ k => (k : Int) + 5) (by decide) h
  rwa [Nat.zero_mul, Nat.zero_add] at this
theorem plus5 {x : Int} (h0 : 0 ≤ x) (h1 : x ≤ 4503599627374592) : IntKind.u64.wrap (wrap64 (x + 5)) = x + 5 := by
  rw [w64 (by omega) (by omega), wu64 (by omega) (by omega)]

section
variable {r c s i k : Int} {n : Nat} (hn : n ≤ 255)
include hn
theorem l1_ev (hm : isMat r c s (five n)) (ho : ¬ inB r c s (five n) i k) : ∀ m j : Nat, n - j = m → j ≤ n →
    Ev (fun K => gimballaw09_MatChecks.l1 K i k n j r c s (five n)) true := by
  have hb := hm.1
  unfold badSize at hb
  intro m
  induction m with
  | zero =>
    intro j h1 h2
    refine Ev.succ ?_
    simp only [gimballaw09_MatChecks.l1]
    refine Ev.neg (by omega) (Ev.call (at_eq ⟨by omega, by omega, by omega⟩ _ i k) ?_)
    rw [at_out ho]
    exact Ev.ofEq rfl
  | succ m ih =>
    intro j h1 h2
    refine Ev.succ ?_
    simp only [gimballaw09_MatChecks.l1]
    refine Ev.pos (by omega) (Ev.pos (by omega) (Ev.pos (by rw [five_length]; omega) (Ev.pos ?_ ?_)))
    · rw [five_rd (by omega), plus5 (by omega) (by omega)]
    · rw [w64 (by omega) (by omega)]
      exact ih (j + 1) (by omega) (by omega)
theorem j5_ev (hm : isMat r c s (five n)) (hr : ¬ (r = 0 ∨ c = 0) ∨ ¬ (0 ≤ i ∧ i < r ∧ 0 ≤ k ∧ k < c)) (b : Bool) (hb : b = decide (¬ (0 ≤ i ∧ i < r ∧ 0 ≤ k ∧ k < c))) :
    Ev (fun K => gimballaw09_MatChecks.j5 K s i k b r c s (five n)) true := by
  have hbs := hm.1
  unfold badSize at hbs
  have hs : Sm r c s := ⟨by omega, by omega, by omega⟩
  refine Ev.succ ?_
  simp only [gimballaw09_MatChecks.j5]
  by_cases ho : 0 ≤ i ∧ i < r ∧ 0 ≤ k ∧ k < c
  · rw [decide_eq_false (by simpa using ho)] at hb
    obtain ⟨i0, i1, k0, k1⟩ := ho
    have hle : (r - 1) * s + c ≤ ((five n).length : Int) := by rcases hm.2 with h | h | h <;> omega
    obtain ⟨e1, e2, e3, e4, e5⟩ := idx_bound hs i0 i1 k0 k1 (show 0 ≤ s by omega)
    have hmul : i * s ≤ (r - 1) * s := Int.mul_le_mul_of_nonneg_right (by omega) (by omega)
    have hlt : i * s + k < ((five n).length : Int) := by omega
    have hin : inB r c s (five n) i k := ⟨i0, i1, k0, k1, by omega, hlt⟩
    obtain ⟨x, hx⟩ : ∃ x : Nat, (x : Int) = i * s + k := ⟨(i * s + k).toNat, by omega⟩
    have hxn : x < n := by rw [five_length] at hlt; omega
    have ha : at4 r c s (five n) i k = i * s + k + 5 := by unfold at4; rw [if_pos hin, ← hx, five_rd hxn]
    have hset : set4 r c s (five n) i k 3 = (five n).set x 3 := by unfold set4; rw [if_pos hin, ← hx, Int.toNat_natCast]
    refine Ev.neg (by rw [hb]; decide) (Ev.call (at_eq hs _ i k) (Ev.pos ?_ (Ev.call (set_eq hs _ i k 3) ?_)))
    · rw [ha, e2, plus5 e3 e5]
    · rw [hset]
      have h3 : rd ((five n).set x 3) (i * s + k) = 3 := by rw [← hx, rd_set (by rw [five_length]; exact hxn), if_pos rfl]
      have ha3 : at4 r c s ((five n).set x 3) i k = 3 := by
        unfold at4
        rw [if_pos (show inB r c s ((five n).set x 3) i k from ⟨i0, i1, k0, k1, by omega, by rw [List.length_set]; exact hlt⟩), h3]
      refine Ev.call (at_eq hs _ i k) (Ev.pos ha3 ?_)
      rw [e2]
      refine Ev.pos e3 (Ev.pos hlt ?_)
      rw [h3]
      exact Ev.ofEq rfl
  · rw [decide_eq_true ho] at hb
    have hin : ¬ inB r c s (five n) i k := fun h => ho ⟨h.1, h.2.1, h.2.2.1, h.2.2.2.1⟩
    refine Ev.pos hb (Ev.call (set_eq hs _ i k 3) ?_)
    have hset : set4 r c s (five n) i k 3 = five n := by unfold set4; rw [if_neg hin]
    rw [hset, five_length]
    exact l1_ev hn hm hin n 0 (by omega) (by omega)
theorem j4_ev : Ev (fun K => gimballaw09_MatChecks.j4 K r c s i k (decide (isMat r c s (five n))) false r c s (five n)) true := by
  refine Ev.succ ?_
  simp only [gimballaw09_MatChecks.j4]
  refine Ev.neg (by decide) ?_
  by_cases hm : isMat r c s (five n)
  · have key : ∀ b : Bool, b = decide (¬ (0 ≤ i ∧ i < r ∧ 0 ≤ k ∧ k < c)) → Ev (fun K => gimballaw09_MatChecks.j5 K s i k b r c s (five n)) true := by
      intro b hb
      refine j5_ev hn hm ?_ b hb
      by_cases h : r = 0 ∨ c = 0
      · right; omega
      · left; exact h
    refine Ev.pos (by simpa using hm) ?_
    by_cases h1 : i < 0
    · exact Ev.pos h1 (key true (by rw [decide_eq_true (by omega)]))
    · refine Ev.neg h1 ?_
      by_cases h2 : i ≥ r
      · exact Ev.pos h2 (key true (by rw [decide_eq_true (by omega)]))
      · refine Ev.neg h2 ?_
        by_cases h3 : k < 0
        · exact Ev.pos h3 (key true (by rw [decide_eq_true (by omega)]))
        · refine Ev.neg h3 (key _ ?_)
          rw [decide_eq_decide]; omega
  · refine Ev.neg (by simpa using hm) (Ev.bind (cut_no (d := five n) (by decide) (by decide) (fun h => hm h.1)) ?_)
    exact Ev.ofEq rfl
theorem j3_ev : Ev (fun K => gimballaw09_MatChecks.j3 K r c s i k (decide (isMat r c s (five n))) r c s (five n)) true := by
  refine Ev.succ ?_
  simp only [gimballaw09_MatChecks.j3]
  refine Ev.bind (check_ev r c s (five n)) ?_
  have := j4_ev (r := r) (c := c) (s := s) (i := i) (k := k) hn
  by_cases hm : isMat r c s (five n)
  · rw [if_pos hm]
    rw [decide_eq_true hm] at this ⊢
    exact Ev.neg (by decide) (Ev.pos rfl this)
  · rw [if_neg hm]
    rw [decide_eq_false hm] at this ⊢
    exact Ev.neg (by decide) (Ev.neg (by decide) this)
theorem j1_ev (b : Bool) (hb : b = decide (¬ badSize r c s)) : Ev (fun K => gimballaw09_MatChecks.j1 K r c s n i k b r c s (five n)) true := by
  have h3 := j3_ev (r := r) (c := c) (s := s) (i := i) (k := k) hn
  have j2f : ∀ x : Bool, x = decide (isMat r c s (five n)) → Ev (fun K => gimballaw09_MatChecks.j2 K r c s n i k x false r c s (five n)) true := by
    intro x hx
    refine Ev.succ ?_
    simp only [gimballaw09_MatChecks.j2]
    refine Ev.neg (by decide) ?_
    rw [hx]; exact h3
  refine Ev.succ ?_
  simp only [gimballaw09_MatChecks.j1]
  by_cases hbad : badSize r c s
  · rw [decide_eq_false (by simpa using hbad)] at hb
    refine Ev.neg (by rw [hb]; decide) (j2f b ?_)
    rw [hb, decide_eq_false (fun h => h.1 hbad)]
  · rw [decide_eq_true hbad] at hb
    subst hb
    have hbd := hbad
    unfold badSize at hbd
    refine Ev.pos rfl ?_
    by_cases h0 : r > 0
    · refine Ev.pos h0 ?_
      by_cases h1 : c > 0
      · rw [decide_eq_true h1]
        refine Ev.succ ?_
        simp only [gimballaw09_MatChecks.j2]
        refine Ev.pos trivial ?_
        obtain ⟨b0, b1⟩ := mul_bound (a := r - 1) (b := s) (m := 4096) (n := 1099511627776) (by omega) (by omega) (by omega) (by omega)
        rw [w64 (x := r - 1) (by omega) (by omega), w64 (x := (r - 1) * s) (by omega) (by omega), w64 (x := (n : Int) - c) (by omega) (by omega)]
        have e : decide ((r - 1) * s ≤ (n : Int) - c) = decide (isMat r c s (five n)) := by
          rw [decide_eq_decide]
          constructor
          · intro h; exact ⟨hbad, by rw [five_length]; omega⟩
          · intro h; have := h.2; rw [five_length] at this; omega
        rw [e]; exact h3
      · rw [decide_eq_false h1]
        exact j2f true (by rw [decide_eq_true (show isMat r c s (five n) from ⟨hbad, by omega⟩)])
    · exact Ev.neg h0 (j2f true (by rw [decide_eq_true (show isMat r c s (five n) from ⟨hbad, by omega⟩)]))
theorem l0_ev : ∀ m j : Nat, n - j = m → j ≤ n →
    Ev (fun K => gimballaw09_MatChecks.l0 K r c s n i k n j r c s (Gim.part 1 n (fun _ k => (k : Int) + 5) j)) true := by
  intro m
  induction m with
  | zero =>
    intro j h1 h2
    obtain rfl : j = n := by omega
    have e : Gim.part 1 j (fun _ k => (k : Int) + 5) j = five j := by
      have := part_full (R := 1) (C := j) (g := fun _ k => (k : Int) + 5)
      rw [Nat.one_mul] at this; exact this
    refine Ev.succ ?_
    simp only [gimballaw09_MatChecks.l0]
    refine Ev.neg (by omega) ?_
    rw [e]
    have key := j1_ev (r := r) (c := c) (s := s) (i := i) (k := k) hn
    by_cases h1 : r ≥ 0
    · refine Ev.pos h1 ?_
      by_cases h2 : r ≤ 4096
      · refine Ev.pos h2 ?_
        by_cases h3 : c ≥ 0
        · refine Ev.pos h3 ?_
          by_cases h4 : c ≤ 4096
          · refine Ev.pos h4 ?_
            by_cases h5 : s ≥ c
            · refine Ev.pos h5 (key _ ?_)
              rw [decide_eq_decide]; unfold badSize; omega
            · exact Ev.neg h5 (key false (by rw [decide_eq_false (by unfold badSize; omega)]))
          · exact Ev.neg h4 (key false (by rw [decide_eq_false (by unfold badSize; omega)]))
        · exact Ev.neg h3 (key false (by rw [decide_eq_false (by unfold badSize; omega)]))
      · exact Ev.neg h2 (key false (by rw [decide_eq_false (by unfold badSize; omega)]))
    · exact Ev.neg h1 (key false (by rw [decide_eq_false (by unfold badSize; omega)]))
  | succ m ih =>
    intro j h1 h2
    refine Ev.succ ?_
    simp only [gimballaw09_MatChecks.l0]
    refine Ev.pos (by omega) (Ev.pos (by omega) (Ev.pos (by rw [part_length]; omega) ?_))
    rw [plus5 (by omega) (by omega), w64 (by omega) (by omega), Int.toNat_natCast]
    have e := part_set (R := 1) (C := n) (i := 0) (k := j) (g := fun _ k => (k : Int) + 5) (by decide) (by omega)
    rw [Nat.zero_mul, Nat.zero_add] at e
    rw [e]
    exact ih (j + 1) (by omega) (by omega)
end
theorem MatChecks : gimballaw09_MatChecks.Pure := by
  intro a0 a1 a2 a3 a4 a5 w0 w1 w2 w3 w4 w5
  apply Ev.rounds
  unfold gimballaw09_MatChecks.f
  refine Ev.bind head_ev (Ev.pos rfl ?_)
  obtain ⟨n, hn⟩ : ∃ n : Nat, (n : Int) = a3 % 256 := ⟨(a3 % 256).toNat, by omega⟩
  have hn2 : n ≤ 255 := by omega
  rw [and255, ← hn]
  have p2 : ((n : Nat) : Int).toNat ≤ 35184372088832 := by rw [Int.toNat_natCast]; exact Nat.le_trans hn2 (by decide)
  refine Ev.pos (Int.natCast_nonneg _) (Ev.pos p2 (Ev.call rfl ?_))
  have := l0_ev (r := a0) (c := a1) (s := a2) (i := a4) (k := a5) hn2 n 0 (by omega) (by omega)
  rw [part_zero, Nat.one_mul] at this
  rw [List.length_replicate, Int.toNat_natCast]
  exact this
end Go.Proofs.Ytenegelkbfmjkaa.Pure

/- A triangle of whole numbers with ones on its diagonal leads back. -/
import Derived.Test.YtnjobojkoaknpaaDoorTWhole
import Derived.Test.YtnjobojkoaknpaaDoorTTrv
namespace Gim
open Go Go.RowKit Go.Proofs.YtnjobojkoaknpaaDoorW.PrintWords Go.Proofs.YtnjobojkoaknpaaDoorW.PrintLast Go.Proofs.YtnjobojkoaknpaaDoorW.PrintMore Go.Proofs.YtnjobojkoaknpaaDoor.F
set_option linter.unusedVariables false
set_option linter.unusedSectionVars false

/-- A sum of whole numbers. -/
def zs (g : Nat → Int) : Nat → Nat → Int
  | _, 0 => 0
  | lo, m + 1 => g lo + zs g (lo + 1) m
/-- Two small whole numbers. -/
def Two_ (a b w v : Int) : Prop := Isz a w ∧ Isz b v ∧ -3700 ≤ w * v ∧ w * v ≤ 3700
theorem vSum_whole {g x W V : Nat → Int} : ∀ (m lo : Nat) (s j : Int), (∀ k, lo ≤ k → k < lo + m → Two_ (g k) (x k) (W k) (V k)) → Is s j → -1000000 + 3700 * (m : Int) ≤ j → j ≤ 1000000 - 3700 * (m : Int) →
    Is (vSum g x lo m s) (j + zs (fun k => W k * V k) lo m) ∧ -1000000 ≤ j + zs (fun k => W k * V k) lo m ∧ j + zs (fun k => W k * V k) lo m ≤ 1000000 := by
  intro m
  induction m with
  | zero => intro lo s j _ hs h1 h2
            simp only [zs, Int.add_zero]
            exact ⟨hs, by omega, by omega⟩
  | succ m ih =>
    intro lo s j hk hs h1 h2
    obtain ⟨a, b, c, d⟩ := hk lo (by omega) (by omega)
    have e := add_whole hs (mul_whole a b (by omega) (by omega)) (by omega) (by omega)
    have r := ih (lo + 1) _ (j + W lo * V lo) (fun k p q => hk k (by omega) (by omega)) e (by omega) (by omega)
    simp only [zs]
    rw [← Int.add_assoc]
    exact r
section
variable {n : Nat} {A : Nat → Nat → Int} (hA : ∀ i k, U (A i k))
include hA
theorem nRow_whole {i : Nat} (hi : i < n) {W V : Nat → Int} : ∀ (m lo : Nat) (l : List Int) (j : Int), Words n l → (∀ k, lo ≤ k → k < lo + m → (k < n ∧ k ≠ i) ∧ Two_ (A i k) (rd l (k : Int)) (W k) (V k)) → Is (rd l (i : Int)) j →
    -1000000 ≤ j - zs (fun k => W k * V k) lo m → j - zs (fun k => W k * V k) lo m ≤ 1000000 → (m : Int) ≤ 100 →
    Words n (nRow A i lo m l) ∧ (∀ q, q < n → q ≠ i → rd (nRow A i lo m l) (q : Int) = rd l (q : Int)) ∧ (Is (rd (nRow A i lo m l) (i : Int)) (j - zs (fun k => W k * V k) lo m) ∧ -1000000 - 3700 * (m : Int) ≤ j ∧ j ≤ 1000000 + 3700 * (m : Int)) := by
  intro m
  induction m with
  | zero => intro lo l j wl _ hs h1 h2 _
            simp only [zs, Int.sub_zero] at h1 h2 ⊢
            exact ⟨wl, fun q _ _ => rfl, hs, by omega, by omega⟩
  | succ m ih =>
    intro lo l j wl hk hs h1 h2 hm
    obtain ⟨⟨k1, k2⟩, a, b, c, d⟩ := hk lo (by omega) (by omega)
    have hl := wl.1
    have jb : -1000000 - 3700 * ((m + 1 : Nat) : Int) ≤ j ∧ j ≤ 1000000 + 3700 * ((m + 1 : Nat) : Int) := by
      have zb : ∀ (m lo : Nat), (∀ k, lo ≤ k → k < lo + m → -3700 ≤ W k * V k ∧ W k * V k ≤ 3700) → -3700 * (m : Int) ≤ zs (fun k => W k * V k) lo m ∧ zs (fun k => W k * V k) lo m ≤ 3700 * (m : Int) := by
        intro m
        induction m with
        | zero => intro lo _; simp [zs]
        | succ m ih =>
          intro lo h
          have := h lo (by omega) (by omega)
          have := ih (lo + 1) (fun k p q => h k (by omega) (by omega))
          simp only [zs]
          omega
      have := zb (m + 1) lo (fun k p q => (hk k p q).2.2.2)
      omega
    have e1 : rd (nStep A i lo l) (i : Int) = mns (rd l (i : Int)) (mv (A i lo) (rd l (lo : Int))) := by
      unfold nStep
      rw [rd_set (by omega), if_pos rfl]
    have e2 : ∀ q, q ≠ i → rd (nStep A i lo l) (q : Int) = rd l (q : Int) := by
      intro q hq
      unfold nStep
      rw [rd_set (by omega), if_neg (by omega)]
    have e := sub_whole hs (mul_whole a b (by omega) (by omega)) (by omega) (by omega)
    have r := ih (lo + 1) (nStep A i lo l) (j - W lo * V lo) (nStep_W hA hi k1 wl) (fun k p q => by
        have h := hk k (by omega) (by omega)
        rw [e2 k h.1.2]
        exact h) (by rw [e1]; exact e) (by simp only [zs] at h1; omega) (by simp only [zs] at h2; omega) (by omega)
    simp only [zs]
    have eq : j - (W lo * V lo + zs (fun k => W k * V k) (lo + 1) m) = j - W lo * V lo - zs (fun k => W k * V k) (lo + 1) m := by omega
    rw [eq]
    exact ⟨r.1, fun q p1 p2 => (r.2.1 q p1 p2).trans (e2 q p2), r.2.2.1, jb.1, jb.2⟩
theorem unit_run {up : Bool} {v : Nat → Int} {y : List Int} (hrow : ∀ i, i < n → ∀ l, Words n l → rd l (i : Int) = rd y (i : Int) → (∀ k, loOf up i ≤ k → k < loOf up i + cntOf n up i → rd l (k : Int) = v k) →
      Words n (nRow A i (loOf up i) (cntOf n up i) l) ∧ (∀ q, q < n → q ≠ i → rd (nRow A i (loOf up i) (cntOf n up i) l) (q : Int) = rd l (q : Int)) ∧ rd (nRow A i (loOf up i) (cntOf n up i) l) (i : Int) = v i) :
    ∀ m s (l : List Int), s + m = n → Words n l → (∀ i, i < n → (∀ j, j < s → rowOf n up j ≠ i) → rd l (i : Int) = rd y (i : Int)) → (∀ i, i < n → (∃ j, j < s ∧ rowOf n up j = i) → rd l (i : Int) = v i) →
    ∀ i : Nat, i < n → rd (nRun n A up true s m l) (i : Int) = v i := by
  intro m
  induction m with
  | zero =>
    intro s l hs wl hu hd i hi
    refine hd i hi ⟨if up = true then n - 1 - i else i, ?_, ?_⟩
    · split <;> omega
    · unfold rowOf; split <;> simp_all <;> omega
  | succ m ih =>
    intro s l hs wl hu hd
    have hi := rowOf_lt (up := up) (show s < n by omega)
    have new : ∀ j, j < s → rowOf n up j ≠ rowOf n up s := by
      intro j hj
      unfold rowOf
      split <;> omega
    have span : ∀ k, loOf up (rowOf n up s) ≤ k → k < loOf up (rowOf n up s) + cntOf n up (rowOf n up s) → rd l (k : Int) = v k := by
      intro k a b
      refine hd k ?_ ⟨if up = true then n - 1 - k else k, ?_, ?_⟩
      · unfold loOf rowOf at a b
        unfold cntOf at b
        split at b <;> simp_all <;> omega
      · unfold loOf rowOf at a b
        unfold cntOf at b
        split at b <;> simp_all <;> omega
      · unfold loOf rowOf at a b
        unfold cntOf at b
        unfold rowOf
        split at b <;> simp_all <;> omega
    obtain ⟨w1, o1, r1⟩ := hrow _ hi l wl (hu _ hi new) span
    have ee : nOne n A up true s l = nRow A (rowOf n up s) (loOf up (rowOf n up s)) (cntOf n up (rowOf n up s)) l := by
      unfold nOne nDiv
      rw [if_pos rfl]
    show ∀ i : Nat, i < n → rd (nRun n A up true (s + 1) m (nOne n A up true s l)) (i : Int) = v i
    rw [ee]
    refine ih (s + 1) _ (by omega) w1 ?_ ?_
    · intro j hj hn
      rw [o1 j hj (fun e => hn s (by omega) e.symm)]
      exact hu j hj (fun k hk => hn k (by omega))
    · intro j hj hex
      by_cases e : j = rowOf n up s
      · subst e; exact r1
      · rw [o1 j hj e]
        obtain ⟨k, k1, k2⟩ := hex
        refine hd j hj ⟨k, ?_, k2⟩
        rcases Nat.lt_or_ge k s with g | g
        · exact g
        · obtain rfl : k = s := by omega
          exact absurd k2.symm e
/-- WHAT A TRIANGLE OF SMALL WHOLE NUMBERS MAKES OF SMALL WHOLE NUMBERS LEADS BACK TO THESE. -/
theorem unit_back {up : Bool} {W : Nat → Nat → Int} {X : Nat → Int} {x : List Int} (wx : Words n x) (hn : n ≤ 7)
    (hW : ∀ i k, i < n → k < n → Isz (A i k) (W i k) ∧ 0 ≤ W i k ∧ W i k ≤ 7) (hX : ∀ k : Nat, k < n → Is (rd x (k : Int)) (X k) ∧ -500 ≤ X k ∧ X k ≤ 523) :
    ∀ i : Nat, i < n → rd (nRun n A up true 0 n (cnt n (vOne n A up true (fun k => rd x (k : Int))))) (i : Int) = rd x (i : Int) := by
  have U0 : ∀ i : Nat, U (rd x (i : Int)) := fun i => rd_U wx.2 i
  have two : ∀ i k, i < n → k < n → Two_ (A i k) (rd x (k : Int)) (W i k) (X k) := by
    intro i k hi hk
    obtain ⟨a, b, c⟩ := hW i k hi hk
    obtain ⟨d, e, f⟩ := hX k hk
    refine ⟨a, d.1, ?_, ?_⟩
    · have := Int.mul_le_mul_of_nonneg_left e b
      have : W i k * -500 ≥ -3500 := by omega
      omega
    · have := Int.mul_le_mul_of_nonneg_left f b
      have : W i k * 523 ≤ 3661 := by omega
      omega
  have range : ∀ i k, i < n → loOf up i ≤ k → k < loOf up i + cntOf n up i → k < n ∧ k ≠ i := by
    intro i k hi a b
    unfold loOf at a b
    unfold cntOf at b
    split at b <;> simp_all <;> omega
  have few : ∀ i, i < n → (cntOf n up i : Int) ≤ 7 := by
    intro i hi
    unfold cntOf
    split <;> omega
  have vU : ∀ i, U (vOne n A up true (fun k => rd x (k : Int)) i) := by
    intro i
    unfold vOne
    rw [if_pos rfl]
    exact vSum_U (hA i) U0 _ _ _ (U0 i)
  have wy : Words n (cnt n (vOne n A up true (fun k => rd x (k : Int)))) := ⟨cnt_len _ _, cnt_U vU⟩
  refine unit_run hA (fun i hi l wl e1 hs => ?_) n 0 _ (by omega) wy (fun i _ _ => rfl) (fun i _ h => by obtain ⟨j, h1, _⟩ := h; omega)
  have fw := few i hi
  obtain ⟨d, e, f⟩ := hX i hi
  have s := vSum_whole (g := A i) (x := fun k => rd x (k : Int)) (W := W i) (V := X) (cntOf n up i) (loOf up i) (rd x (i : Int)) (X i) (fun k a b => two i k hi (range i k hi a b).1) d (by omega) (by omega)
  have ey : rd l (i : Int) = vSum (A i) (fun k => rd x (k : Int)) (loOf up i) (cntOf n up i) (rd x (i : Int)) := by
    rw [e1, cnt_rd _ hi]
    unfold vOne
    rw [if_pos rfl]
  have z : X i + zs (fun k => W i k * X k) (loOf up i) (cntOf n up i) - zs (fun k => W i k * X k) (loOf up i) (cntOf n up i) = X i := by omega
  have r := nRow_whole hA hi (W := W i) (V := X) (cntOf n up i) (loOf up i) l (X i + zs (fun k => W i k * X k) (loOf up i) (cntOf n up i)) wl (fun k a b => ⟨range i k hi a b, by
      rw [hs k a b]
      exact two i k hi (range i k hi a b).1⟩) (by rw [ey]; exact s.1) (by omega) (by omega) (by omega)
  rw [z] at r
  exact ⟨r.1, r.2.1, r.2.2.1.unique d⟩
end
end Gim

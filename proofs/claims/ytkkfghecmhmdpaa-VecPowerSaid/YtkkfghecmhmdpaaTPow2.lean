/- The greatest of some numbers, and the power of two beneath it, told exactly. -/
import Derived.Test.YtkkfghecmhmdpaaTPow
namespace Gim
open Go Go.RowKit Go.Proofs.YtkkfghecmhmdpaaW.PrintWords Go.Proofs.YtkkfghecmhmdpaaW.PrintLast Go.Proofs.YtkkfghecmhmdpaaW.PrintMore Go.Proofs.Ytkkfghecmhmdpaa.F
set_option linter.unusedVariables false

theorem greatest_f0 {l : List Int} (hl : ∀ x ∈ l, U x ∧ fin x) (hn : l.length ≤ 1000000) : ∀ t i : Nat, l.length - i = t → i ≤ l.length → ∀ m j : Int, 0 ≤ m → m < INF → (j < 0 → m = 0) →
    ∃ m' j', Ev (fun K => order_Greatest.l0 K m j l l.length i) (m', j') ∧ m ≤ m' ∧ m' < INF ∧ (∀ k (h : k < l.length), i ≤ k → mag l[k] ≤ m') ∧ (m' = m ∨ ∃ x ∈ l, mag x = m') := by
  intro t
  induction t with
  | zero =>
    intro i h1 h2 m j m0 m1 hj
    refine ⟨m, j, Ev.succ ?_, Int.le_refl _, m1, fun k h hk => by omega, .inl rfl⟩
    simp only [order_Greatest.l0]
    exact Ev.neg (by omega) (Ev.now _)
  | succ t ih =>
    intro i h1 h2 m j m0 m1 hj
    have hi : i < l.length := by omega
    obtain ⟨hu, hf⟩ := hl _ (List.getElem_mem hi)
    have hm := mag_lt (a := l[i])
    have hk := word_Kind_ev hu
    have ha := word_Abs_eq hu
    have e0 : l[i] % 9223372036854775808 = mag l[i] := rfl
    rw [e0] at hk ha
    have k5 : ¬ kindOf (mag l[i]) = 5 := fun h => by have := (kind5 hm.1).mp h; unfold fin INF at hf; omega
    have go : ∀ m2 j2 : Int, 0 ≤ m2 → m2 < INF → (j2 < 0 → m2 = 0) → m ≤ m2 → mag l[i] ≤ m2 → (m2 = m ∨ m2 = mag l[i]) →
        (∀ r, Ev (fun K => order_Greatest.l0 K m2 j2 l l.length ((i : Int) + 1)) r → Ev (fun K => order_Greatest.l0 K m j l l.length i) r) →
        ∃ m' j', Ev (fun K => order_Greatest.l0 K m j l l.length i) (m', j') ∧ m ≤ m' ∧ m' < INF ∧ (∀ k (h : k < l.length), i ≤ k → mag l[k] ≤ m') ∧ (m' = m ∨ ∃ x ∈ l, mag x = m') := by
      intro m2 j2 a1 a2 a3 a4 a5 a6 step
      obtain ⟨m', j', ev, b1, b2, b3, b4⟩ := ih (i + 1) (by omega) (by omega) m2 j2 a1 a2 a3
      refine ⟨m', j', step _ ev, by omega, b2, fun k h hk => ?_, ?_⟩
      · by_cases c : k = i
        · subst c; omega
        · exact b3 k h (by omega)
      · rcases b4 with b4 | b4
        · rcases a6 with a6 | a6
          · exact .inl (by omega)
          · exact .inr ⟨_, List.getElem_mem hi, by omega⟩
        · exact .inr b4
    by_cases c1 : j < 0
    · have := hj c1
      refine go (mag l[i]) i hm.1 hf (by omega) (by omega) (Int.le_refl _) (.inr rfl) fun r ev => ?_
      refine Ev.succ ?_
      simp only [order_Greatest.l0]
      rw [rd_at hi, w64 (x := (i : Int) + 1) (by omega) (by omega)]
      exact Ev.pos (by omega) (Ev.pos (by omega) (Ev.pos (by omega) (Ev.bind hk (Ev.neg k5 (Ev.pos c1 (Ev.call ha ev))))))
    · by_cases c2 : mag l[i] > m
      · refine go (mag l[i]) i hm.1 hf (by omega) (by omega) (Int.le_refl _) (.inr rfl) fun r ev => ?_
        refine Ev.succ ?_
        simp only [order_Greatest.l0]
        rw [rd_at hi, w64 (x := (i : Int) + 1) (by omega) (by omega)]
        exact Ev.pos (by omega) (Ev.pos (by omega) (Ev.pos (by omega) (Ev.bind hk (Ev.neg k5 (Ev.neg c1 (Ev.call ha (Ev.pos c2 (Ev.call ha ev))))))))
      · refine go m j m0 m1 hj (Int.le_refl _) (by omega) (.inl rfl) fun r ev => ?_
        refine Ev.succ ?_
        simp only [order_Greatest.l0]
        rw [rd_at hi, w64 (x := (i : Int) + 1) (by omega) (by omega)]
        exact Ev.pos (by omega) (Ev.pos (by omega) (Ev.pos (by omega) (Ev.bind hk (Ev.neg k5 (Ev.neg c1 (Ev.call ha (Ev.neg c2 ev)))))))
/-- The greatest of numbers. -/
theorem greatest_fin {l : List Int} (hl : ∀ x ∈ l, U x ∧ fin x) (hn : l.length ≤ 1000000) : ∃ m j, Ev (fun K => order_Greatest.f K l) (m, j) ∧ 0 ≤ m ∧ m < INF ∧ (∀ x ∈ l, mag x ≤ m) ∧ (m = 0 ∨ ∃ x ∈ l, mag x = m) := by
  obtain ⟨m, j, ev, a1, a2, a3, a4⟩ := greatest_f0 hl hn l.length 0 (by omega) (by omega) 0 (-1) (by decide) (by decide) (fun _ => rfl)
  refine ⟨m, j, ev, a1, a2, fun x hx => ?_, ?_⟩
  · obtain ⟨k, h, rfl⟩ := List.getElem_of_mem hx
    exact a3 k h (by omega)
  · rcases a4 with h | h
    · exact .inl h
    · exact .inr h
theorem pw_between {v : Rat} {e e' : Int} (h1 : pw e ≤ v) (h2 : v < pw (e + 1)) (h3 : pw e' ≤ v) (h4 : v < pw (e' + 1)) : e = e' := by
  have a : ¬ e + 1 ≤ e' := fun h => by have := pw_mono h; grind
  have b : ¬ e' + 1 ≤ e := fun h => by have := pw_mono h; grind
  omega
theorem power_f0 {v : Rat} : ∀ t : Nat, ∀ n e : Int, n.toNat ≤ t → 0 < n → n < 9007199254740992 → -2000 ≤ e → e + blen n ≤ 2000 → (n : Rat) * pw e ≤ v → v < ((n + 1 : Int) : Rat) * pw e →
    ∃ e', Ev (fun K => vec_Power.l0 K n e) (e', true) ∧ -2000 ≤ e' ∧ e' ≤ 2000 ∧ pw e' ≤ v ∧ v < pw (e' + 1) := by
  intro t
  induction t with
  | zero => intro n e h1 h2; omega
  | succ t ih =>
    intro n e h1 h2 h3 h4 h5 h6 h7
    have b1 := blen_pos h2
    by_cases c : n > 1
    · have hb := blen_shift (x := n) (s := 1) (by decide) (by rw [p2_1]; omega)
      rw [p2_1] at hb
      have hp := pw_pos e
      have hs := pw_succ e
      have k1 : (n / 2 : Int) * pw (e + 1) ≤ v := by
        have : ((2 * (n / 2) : Int) : Rat) * pw e ≤ (n : Rat) * pw e := mul_pw_le.mpr (by omega)
        rw [hs]; push_cast at this; grind
      have k2 : v < ((n / 2 + 1 : Int) : Rat) * pw (e + 1) := by
        have : ((n + 1 : Int) : Rat) * pw e ≤ ((2 * (n / 2 + 1) : Int) : Rat) * pw e := mul_pw_le.mpr (by omega)
        rw [hs]; push_cast at this h7 ⊢; grind
      obtain ⟨e', ev, q⟩ := ih (n / 2) (e + 1) (by omega) (by omega) (by omega) (by omega) (by omega) k1 k2
      refine ⟨e', Ev.succ ?_, q⟩
      simp only [vec_Power.l0]
      rw [w64 (x := e + 1) (by omega) (by omega)]
      exact Ev.pos c ev
    · obtain rfl : n = 1 := by omega
      refine ⟨e, Ev.succ ?_, h4, by omega, by simpa using h6, ?_⟩
      · simp only [vec_Power.l0]
        exact Ev.neg c (Ev.now _)
      · rw [pw_succ]; push_cast at h7; grind
/-- The power of two beneath the greatest of numbers, if that isn't zero. -/
theorem power_fin {l : List Int} (hl : ∀ x ∈ l, U x ∧ fin x) (hn : l.length ≤ 1000000) : ∃ m j, Ev (fun K => order_Greatest.f K l) (m, j) ∧ 0 ≤ m ∧ m < INF ∧ (∀ x ∈ l, mag x ≤ m) ∧ (m = 0 ∨ ∃ x ∈ l, mag x = m) ∧
    (m = 0 → Ev (fun K => vec_Power.f K l) (0, false)) ∧
    (0 < m → ∃ e, Ev (fun K => vec_Power.f K l) (e, true) ∧ -2000 ≤ e ∧ e ≤ 2000 ∧ pw e ≤ vm m ∧ vm m < pw (e + 1)) := by
  obtain ⟨m, j, ev, a1, a2, a3, a4⟩ := greatest_fin hl hn
  have um : U m := ⟨a1, by have : INF < 18446744073709551616 := by decide
                           omega⟩
  have hI : INF < 9223372036854775808 := by decide
  have hmag : m % 9223372036854775808 = m := by omega
  refine ⟨m, j, ev, a1, a2, a3, a4, fun h => ?_, fun h => ?_⟩
  · unfold vec_Power.f
    exact Ev.bind ev (Ev.bind (word_Parts_none um (.inl (by omega))) (Ev.pos rfl (Ev.now _)))
  · have hp := word_Parts_ev um (by omega) (by rw [hmag]; exact a2)
    rw [hmag] at hp
    have mp := mant_pos h
    have ml := mant_lt (m := m)
    have hfin : fin m := by unfold fin mag; omega
    obtain ⟨e1, e2⟩ := fin_expo hfin
    have hmm : mag m = m := hmag
    rw [hmm] at e1 e2
    have hb : blen (mant m) ≤ 53 := blen_le (by decide) (by rw [show p2 53 = 9007199254740992 from by decide]; exact ml)
    have hp2 := pw_pos (expo m)
    obtain ⟨e', ev2, q⟩ := power_f0 (v := vm m) _ (mant m) (expo m) (Nat.le_refl _) mp ml (by omega) (by omega) Rat.le_refl (by unfold vm; exact mul_pw_lt.mpr (by omega))
    refine ⟨e', ?_, q⟩
    unfold vec_Power.f
    exact Ev.bind ev (Ev.bind hp (Ev.neg (by simp; omega) ev2))
/-- A number of at most 53 bits that is rounded, not too great and not tiny, is kept. -/
theorem RB.lossless {X E b f : Int} (hX : 0 < X) (hX' : X < 9007199254740992) (h : RB ((X : Rat) * pw E) b f) (hf : f = 0 ∨ f = 1) : f = 0 := by
  obtain ⟨q, n, hr, eb, ef⟩ := h.ex
  by_cases c : enc q n < INF
  · rw [if_pos c] at ef
    by_cases c2 : (X : Rat) * pw E = (n : Rat) * pw q
    · rw [if_pos c2] at ef; exact ef
    · rw [if_neg c2] at ef
      by_cases c3 : (X : Rat) * pw E < pw (-1022)
      · rw [if_pos c3] at ef; omega
      · exfalso
        obtain ⟨b1, b2, b3⟩ := blen_pos hX
        have hL : blen X ≤ 53 := blen_le (by decide) (by rw [show p2 53 = 9007199254740992 from by decide]; exact hX')
        have hs : 0 ≤ 53 - blen X := by omega
        have hP := p2_pos (53 - blen X)
        have e53 : (9007199254740992 : Int) = p2 (blen X) * p2 (53 - blen X) := by rw [← p2_add (by omega) (by omega), show blen X + (53 - blen X) = 53 from by omega]; decide
        have hx1 : X * p2 (53 - blen X) < 9007199254740992 := by
          have h1 : X * p2 (53 - blen X) < p2 (blen X) * p2 (53 - blen X) := Int.mul_lt_mul_of_pos_right b3 hP
          omega
        have hx0 : 0 < X * p2 (53 - blen X) := Int.mul_pos hX hP
        have ev : (X : Rat) * pw E = ((X * p2 (53 - blen X) : Int) : Rat) * pw (E - (53 - blen X)) := by
          have : pw E = (p2 (53 - blen X) : Rat) * pw (E - (53 - blen X)) := by rw [← pw_p2 hs, ← pw_add]; congr 1; omega
          rw [this]; push_cast; grind
        have hG : -1074 ≤ E - (53 - blen X) := by
          refine Decidable.byContradiction fun hc => ?_
          have h1 : ((X * p2 (53 - blen X) : Int) : Rat) * pw (E - (53 - blen X)) < ((9007199254740992 : Int) : Rat) * pw (E - (53 - blen X)) := mul_pw_lt.mpr hx1
          rw [show ((9007199254740992 : Int) : Rat) = pw 53 from by rw [pw_p2 (by decide)]; rfl, ← pw_add, ← ev] at h1
          have := pw_mono (show 53 + (E - (53 - blen X)) ≤ -1022 by omega)
          grind
        obtain ⟨m, m0, mv⟩ := repr_exists hx0 (by omega) hG
        rw [← ev] at mv
        have hm := Rnd.of_vm m0
        rw [mv] at hm
        obtain ⟨rfl, rfl⟩ := hr.unique hm
        exact c2 mv.symm
  · rw [if_neg c] at ef; omega
end Gim

/- What the reference's functions on lists of bits answer. -/
import Derived.Test.YtakegikedpcilaaDoorTBits
import Derived.Test.YtakegikedpcilaaDoorFx11
import Derived.Test.YtakegikedpcilaaDoorFx13
namespace Gim
open Go Go.RowKit Go.Proofs.YtakegikedpcilaaDoorW.PrintWords Go.Proofs.YtakegikedpcilaaDoorW.PrintLast Go.Proofs.YtakegikedpcilaaDoorW.PrintMore Go.Proofs.YtakegikedpcilaaDoor.F
set_option linter.unusedVariables false

theorem ref_trim_loop {l : List Int} (hl : Bits l) (hL : l.length ≤ 1000000) (n : Nat) : n ≤ l.length → Ev (fun k => gimbalref02_Trim.l0 k l n) (bl (bv (l.take n))) := by
  induction n with
  | zero =>
    intro _
    refine Ev.succ ?_
    simp only [gimbalref02_Trim.l0]
    refine Ev.neg (by decide) (Ev.call rfl (Ev.pos (by decide) (Ev.pos (by omega) (Ev.pos (by simp) ?_))))
    rw [show ([] : List Int) ++ l.take ((0 : Nat) : Int).toNat = [] from by simp, List.take_zero, bv_nil, bl_zero]
    exact Ev.now _
  | succ n ih =>
    intro hn
    have e : ((n + 1 : Nat) : Int) - 1 = n := by omega
    refine Ev.succ ?_
    simp only [gimbalref02_Trim.l0]
    rw [w64 (x := ((n + 1 : Nat) : Int) - 1) (by omega) (by omega), e]
    refine Ev.pos (by omega) (Ev.pos (by omega) (Ev.pos (by omega) ?_))
    have ht := bv_take_succ (l := l) (n := n) (by omega)
    by_cases hz : rd l n = 0
    · refine Ev.pos hz ?_
      rw [ht, hz, Int.mul_zero, Int.add_zero]
      exact ih (by omega)
    · refine Ev.neg hz (Ev.call rfl (Ev.pos (by omega) (Ev.pos (by omega) (Ev.pos (by simp; omega) ?_))))
      have e3 : ([] : List Int) ++ l.take ((n + 1 : Nat) : Int).toNat = l.take (n + 1) := by simp
      rw [e3]
      have hu := bl_unique (hl.take (n + 1)) (.inr ?_)
      · rw [← hu]; exact Ev.now _
      · rw [List.length_take, Nat.min_eq_left hn, e]
        have h1 : rd (l.take (n + 1)) n = rd l n := by
          unfold rd
          simp [List.getD_eq_getElem?_getD]
        rw [h1]
        rcases hl.at_ (i := (n : Int)) with h | h
        · exact absurd h hz
        · exact h
theorem ref_trim {l : List Int} (hl : Bits l) (hL : l.length ≤ 1000000) : Ev (fun k => gimbalref02_Trim.f k l) (bl (bv l)) := by
  unfold gimbalref02_Trim.f
  have := ref_trim_loop hl hL l.length (Nat.le_refl _)
  rw [List.take_length] at this
  exact this

theorem ref_of_loop (n : Nat) : ∀ (x : Int) (out : List Int), 0 ≤ x → x < 18446744073709551616 → x.toNat ≤ n → blen x + out.length ≤ 1000000 →
    Ev (fun k => gimbalref02_Of.l0 k x out) (out ++ bl x) := by
  induction n using Nat.strongRecOn with
  | _ n ih =>
    intro x out h0 h1 hn hL3
    have hbn := blen_nonneg x
    refine Ev.succ ?_
    simp only [gimbalref02_Of.l0]
    by_cases hx : x > 0
    · rw [Int.tdiv_eq_ediv_of_nonneg h0, Int.tmod_eq_emod_of_nonneg h0, wu64 (x := x / 2) (by omega) (by omega), w64 (x := x % 2) (by omega) (by omega)]
      refine Ev.pos hx (Ev.pos (by omega) ?_)
      have hbl := bl_length h0
      have e : blen x = blen (x / 2) + 1 := by
        have h2 := bl_length (v := x / 2) (by omega)
        rw [← hbl, ← h2, bl_cons hx]; simp
      have := ih (x / 2).toNat (by omega) (x / 2) (out ++ [x % 2]) (by omega) (by omega) (Nat.le_refl _) (by simp; omega)
      rw [bl_cons hx]
      rw [List.append_assoc] at this
      exact this
    · refine Ev.neg hx ?_
      have : x = 0 := by omega
      subst this
      rw [bl_zero, List.append_nil]
      exact Ev.now _
theorem ref_of {x : Int} (h : U x) : Ev (fun k => gimbalref02_Of.f k x) (bl x) := by
  unfold gimbalref02_Of.f
  have hb : blen x ≤ 64 := blen_le (by decide) (by rw [p2_64]; exact h.2)
  exact ref_of_loop x.toNat x [] h.1 h.2 (Nat.le_refl _) (by simp; omega)

theorem ref_up_loop {a : List Int} {n : Int} (ha : Bits a) (hL : a.length ≤ 100000) (hn : n ≤ 100000) (d : Nat) : ∀ i : Nat, (n - i).toNat = d → (i : Int) ≤ 100000 →
    Ev (fun k => gimbalref02_Up.l0 k a n (List.replicate i 0) i) (bl (2 ^ (i + d) * bv a)) := by
  induction d with
  | zero =>
    intro i hd hi
    refine Ev.succ ?_
    simp only [gimbalref02_Up.l0]
    refine Ev.neg (by omega) (Ev.pos (by simp; omega) (Ev.bind (ref_trim (Bits.append (Bits.zeros i) ha) (by simp; omega)) ?_))
    rw [bv_append, bv_zeros, List.length_replicate, Int.zero_add, Nat.add_zero]
    exact Ev.now _
  | succ d ih =>
    intro i hd hi
    refine Ev.succ ?_
    simp only [gimbalref02_Up.l0]
    refine Ev.pos (by omega) (Ev.pos (by simp; omega) ?_)
    have := ih (i + 1) (by omega) (by omega)
    rw [List.replicate_succ'] at this
    rw [w64 (x := (i : Int) + 1) (by omega) (by omega), show i + (d + 1) = i + 1 + d from by omega]
    exact this
theorem ref_up {a : List Int} {n : Int} (ha : Bits a) (hL : a.length ≤ 100000) (hn : n ≤ 100000) : Ev (fun k => gimbalref02_Up.f k a n) (bl (bv a * p2 n)) := by
  unfold gimbalref02_Up.f
  have := ref_up_loop ha hL hn n.toNat 0 (by simp) (by decide)
  rw [Nat.zero_add, Int.mul_comm] at this
  exact this

theorem bits_tmod {n : Int} (h : 0 ≤ n) : Int.tmod n 2 = n % 2 := Int.tmod_eq_emod_of_nonneg h
theorem drop_nil {l : List Int} {i : Nat} (h : l.length ≤ i) : l.drop i = [] := List.drop_eq_nil_of_le h
theorem ref_add_loop {a b : List Int} {B : Nat} (hB5 : B ≤ 500000) (ha : Bits a) (hb : Bits b) (hLa : a.length ≤ B) (hLb : b.length ≤ B) (d : Nat) : ∀ (i : Nat) (out : List Int) (c : Int), (c = 0 ∨ c = 1) → Bits out → out.length = i → i ≤ B + 1 →
    bv out + 2 ^ i * (c + bv (a.drop i) + bv (b.drop i)) = bv a + bv b → (max a.length b.length + 1 - i) ≤ d →
    Ev (fun k => gimbalref02_Add.l0 k a b out c i) (bl (bv a + bv b)) := by
  induction d with
  | zero =>
    intro i out c hc ho hlo hi hv hd
    have e1 : a.drop i = [] := drop_nil (by omega)
    have e2 : b.drop i = [] := drop_nil (by omega)
    -- nothing is left, and no carry: else the sum would be too great
    have hA := bv_lt ha
    have hB := bv_lt hb
    have c0 : c = 0 := by
      rcases hc with hc | hc
      · exact hc
      · exfalso
        rw [e1, e2, bv_nil, hc] at hv
        have o0 := bv_nonneg ho
        have m1 : (2 : Int) ^ a.length ≤ 2 ^ (max a.length b.length) := by exact_mod_cast Nat.pow_le_pow_right (by decide : 0 < 2) (Nat.le_max_left _ _)
        have m2 : (2 : Int) ^ b.length ≤ 2 ^ (max a.length b.length) := by exact_mod_cast Nat.pow_le_pow_right (by decide : 0 < 2) (Nat.le_max_right _ _)
        have m3 : (2 : Int) ^ (max a.length b.length + 1) ≤ 2 ^ i := by exact_mod_cast Nat.pow_le_pow_right (by decide : 0 < 2) (show max a.length b.length + 1 ≤ i by omega)
        rw [Int.pow_succ] at m3
        omega
    subst c0
    refine Ev.succ ?_
    simp only [gimbalref02_Add.l0]
    refine Ev.neg (by omega) (Ev.neg (by omega) (Ev.succ ?_))
    simp only [gimbalref02_Add.j1]
    refine Ev.neg (by decide) (Ev.bind (ref_trim ho (by omega)) ?_)
    rw [e1, e2, bv_nil] at hv
    rw [show bv out = bv a + bv b from by omega]
    exact Ev.now _
  | succ d ih =>
    intro i out c hc ho hlo hi hv hd
    -- one round, where something is left
    have round : ∀ s : Int, 0 ≤ s → s ≤ 3 → s + 2 * (bv (a.drop (i + 1)) + bv (b.drop (i + 1))) = c + bv (a.drop i) + bv (b.drop i) → i ≤ B →
        Ev (fun k => gimbalref02_Add.l0 k a b (out ++ [Int.tmod s 2]) (wrap64 (Int.tdiv s 2)) (wrap64 ((i : Int) + 1))) (bl (bv a + bv b)) := by
      intro s s0 s3 hs hi2
      rw [bits_tmod s0, Int.tdiv_eq_ediv_of_nonneg s0, w64 (x := s / 2) (by omega) (by omega), w64 (x := (i : Int) + 1) (by omega) (by omega)]
      refine ih (i + 1) _ _ (by omega) (Bits.append ho (Bits.cons (by omega) Bits.nil)) (by simp [hlo]) (by omega) ?_ (by omega)
      rw [bv_append, bv_single, hlo, Int.pow_succ]
      rw [← hs] at hv
      have e : s = s % 2 + 2 * (s / 2) := by omega
      generalize s % 2 = x at *
      generalize s / 2 = y at *
      rw [← hv, e]
      grind
    have rA := ha.at_ (i := (i : Int))
    have rB := hb.at_ (i := (i : Int))
    have dA : ¬ ((i : Int) < a.length) → bv (a.drop i) = 0 ∧ bv (a.drop (i + 1)) = 0 := fun h => by rw [drop_nil (by omega), drop_nil (by omega)]; exact ⟨rfl, rfl⟩
    have dB : ¬ ((i : Int) < b.length) → bv (b.drop i) = 0 ∧ bv (b.drop (i + 1)) = 0 := fun h => by rw [drop_nil (by omega), drop_nil (by omega)]; exact ⟨rfl, rfl⟩
    refine Ev.succ ?_
    simp only [gimbalref02_Add.l0]
    by_cases hA : (i : Int) < a.length
    · have eA := bv_drop (l := a) (n := i) (by omega)
      refine Ev.pos hA (Ev.succ ?_)
      simp only [gimbalref02_Add.j1]
      refine Ev.pos trivial (Ev.pos hA (Ev.pos (by omega) ?_))
      by_cases hB : (i : Int) < b.length
      · have eB := bv_drop (l := b) (n := i) (by omega)
        refine Ev.pos hB (Ev.pos (by omega) ?_)
        rw [w64 (x := c + rd a i) (by omega) (by omega), w64 (x := c + rd a i + rd b i) (by omega) (by omega)]
        exact round _ (by omega) (by omega) (by omega) (by omega)
      · obtain ⟨z1, z2⟩ := dB hB
        refine Ev.neg hB (Ev.pos (by omega) ?_)
        rw [w64 (x := c + rd a i) (by omega) (by omega)]
        exact round _ (by omega) (by omega) (by omega) (by omega)
    · obtain ⟨y1, y2⟩ := dA hA
      refine Ev.neg hA ?_
      by_cases hB : (i : Int) < b.length
      · have eB := bv_drop (l := b) (n := i) (by omega)
        refine Ev.pos hB (Ev.succ ?_)
        simp only [gimbalref02_Add.j1]
        refine Ev.pos trivial (Ev.neg hA (Ev.pos hB (Ev.pos (by omega) (Ev.pos (by omega) ?_))))
        rw [w64 (x := c + rd b i) (by omega) (by omega)]
        exact round _ (by omega) (by omega) (by omega) (by omega)
      · obtain ⟨z1, z2⟩ := dB hB
        refine Ev.neg hB (Ev.succ ?_)
        simp only [gimbalref02_Add.j1]
        by_cases hc1 : c > 0
        · by_cases hi2 : i ≤ B
          · refine Ev.pos (decide_eq_true hc1) (Ev.neg hA (Ev.neg hB (Ev.pos (by omega) ?_)))
            exact round c (by omega) (by omega) (by omega) hi2
          · exfalso
            have o0 := bv_nonneg ho
            have hA := bv_lt ha
            have hB := bv_lt hb
            rw [y1, z1] at hv
            have m1 : (2 : Int) ^ a.length ≤ 2 ^ B := by exact_mod_cast Nat.pow_le_pow_right (by decide : 0 < 2) hLa
            have m2 : (2 : Int) ^ b.length ≤ 2 ^ B := by exact_mod_cast Nat.pow_le_pow_right (by decide : 0 < 2) hLb
            have m3 := (show ∀ j : Nat, j + 1 ≤ i → (2 : Int) ^ (j + 1) ≤ 2 ^ i from fun j hj => by exact_mod_cast Nat.pow_le_pow_right (by decide : 0 < 2) hj) B (by omega)
            rw [Int.pow_succ] at m3
            have : c = 1 := by omega
            subst this
            generalize (2 : Int) ^ B = P at *
            generalize (2 : Int) ^ a.length = PA at *
            generalize (2 : Int) ^ b.length = PB at *
            generalize (2 : Int) ^ i = PI at *
            omega
        · have : c = 0 := by omega
          subst this
          refine Ev.neg (by simp) (Ev.bind (ref_trim ho (by omega)) ?_)
          rw [y1, z1] at hv
          rw [show bv out = bv a + bv b from by omega]
          exact Ev.now _
theorem ref_add {a b : List Int} (ha : Bits a) (hb : Bits b) (hLa : a.length ≤ 500000) (hLb : b.length ≤ 500000) : Ev (fun k => gimbalref02_Add.f k a b) (bl (bv a + bv b)) := by
  unfold gimbalref02_Add.f
  exact ref_add_loop (B := 500000) (Nat.le_refl _) ha hb hLa hLb _ 0 [] 0 (.inl rfl) Bits.nil rfl (by decide) (by simp [bv_nil]) (Nat.le_refl _)

theorem ref_sub_loop {a b : List Int} (ha : Bits a) (hb : Bits b) (hLa : a.length ≤ 500000) (hge : bv b ≤ bv a) (d : Nat) : ∀ (i : Nat) (out : List Int) (c : Int), (c = 0 ∨ c = 1) → Bits out → out.length = i → i ≤ a.length →
    bv out + 2 ^ i * (bv (a.drop i) - bv (b.drop i) - c) = bv a - bv b → a.length - i ≤ d →
    Ev (fun k => gimbalref02_Sub.l0 k a b out c i) (bl (bv a - bv b)) := by
  induction d with
  | zero =>
    intro i out c hc ho hlo hi hv hd
    obtain rfl : i = a.length := by omega
    refine Ev.succ ?_
    simp only [gimbalref02_Sub.l0]
    refine Ev.neg (by omega) (Ev.bind (ref_trim ho (by omega)) ?_)
    rw [drop_nil (Nat.le_refl _), bv_nil] at hv
    have h1 := bv_lt ho
    have h2 := bv_nonneg (hb.drop a.length)
    rw [hlo] at h1
    -- what is taken away behind the end is nothing
    have h3 : bv (b.drop a.length) + c = 0 := by
      refine Decidable.byContradiction fun hne => ?_
      have h4 : 1 ≤ bv (b.drop a.length) + c := by omega
      have h5 : (2 : Int) ^ a.length * 1 ≤ 2 ^ a.length * (bv (b.drop a.length) + c) := Int.mul_le_mul_of_nonneg_left h4 (Int.le_of_lt (Int.pow_pos (by decide)))
      have h6 : (2 : Int) ^ a.length * (0 - bv (b.drop a.length) - c) = -(2 ^ a.length * (bv (b.drop a.length) + c)) := by grind
      omega
    rw [show (0 - bv (b.drop a.length) - c) = 0 from by omega, Int.mul_zero, Int.add_zero] at hv
    rw [hv]
    exact Ev.now _
  | succ d ih =>
    intro i out c hc ho hlo hi hv hd
    by_cases hA : (i : Int) < a.length
    · have rA := ha.at_ (i := (i : Int))
      have rB := hb.at_ (i := (i : Int))
      have eA := bv_drop (l := a) (n := i) (by omega)
      have round : ∀ s c' : Int, (s = 0 ∨ s = 1) → (c' = 0 ∨ c' = 1) → s - 2 * c' + 2 * (bv (a.drop (i + 1)) - bv (b.drop (i + 1))) = bv (a.drop i) - bv (b.drop i) - c →
          Ev (fun k => gimbalref02_Sub.l0 k a b (out ++ [s]) c' (wrap64 ((i : Int) + 1))) (bl (bv a - bv b)) := by
        intro s c' hs hc' hv2
        rw [w64 (x := (i : Int) + 1) (by omega) (by omega)]
        refine ih (i + 1) _ _ hc' (Bits.append ho (Bits.cons hs Bits.nil)) (by simp [hlo]) (by omega) ?_ (by omega)
        rw [bv_append, bv_single, hlo, Int.pow_succ]
        rw [← hv2] at hv
        rw [← hv]
        grind
      refine Ev.succ ?_
      simp only [gimbalref02_Sub.l0]
      refine Ev.pos hA (Ev.pos (by omega) ?_)
      rw [w64 (x := rd a i - c) (by omega) (by omega)]
      by_cases hB : (i : Int) < b.length
      · have eB := bv_drop (l := b) (n := i) (by omega)
        refine Ev.pos hB ?_
        rw [w64 (x := rd a i - c - rd b i) (by omega) (by omega)]
        by_cases hn : rd a i - c - rd b i < 0
        · refine Ev.pos hn (Ev.pos (by omega) ?_)
          rw [w64 (x := rd a i - c - rd b i + 2) (by omega) (by omega)]
          exact round _ 1 (by omega) (.inr rfl) (by omega)
        · exact Ev.neg hn (Ev.pos (by omega) (round _ 0 (by omega) (.inl rfl) (by omega)))
      · have z1 : bv (b.drop i) = 0 := by rw [drop_nil (by omega)]; rfl
        have z2 : bv (b.drop (i + 1)) = 0 := by rw [drop_nil (by omega)]; rfl
        refine Ev.neg hB ?_
        by_cases hn : rd a i - c < 0
        · refine Ev.pos hn (Ev.pos (by omega) ?_)
          rw [w64 (x := rd a i - c + 2) (by omega) (by omega)]
          exact round _ 1 (by omega) (.inr rfl) (by omega)
        · exact Ev.neg hn (Ev.pos (by omega) (round _ 0 (by omega) (.inl rfl) (by omega)))
    · exact ih i out c hc ho hlo hi hv (by omega)
theorem ref_sub {a b : List Int} (ha : Bits a) (hb : Bits b) (hLa : a.length ≤ 500000) (hge : bv b ≤ bv a) : Ev (fun k => gimbalref02_Sub.f k a b) (bl (bv a - bv b)) := by
  unfold gimbalref02_Sub.f
  exact ref_sub_loop ha hb hLa hge _ 0 [] 0 (.inl rfl) Bits.nil rfl (by omega) (by simp [bv_nil]) (Nat.le_refl _)

theorem cmp_first {a b : List Int} {i : Nat} (ha : Bits a) (hb : Bits b) (h1 : i < a.length) (h2 : i < b.length) (hd : a.drop (i + 1) = b.drop (i + 1)) (hlt : rd a i < rd b i) : bv a < bv b := by
  have e1 := bv_take_drop a i (by omega)
  have e2 := bv_take_drop b i (by omega)
  have f1 := bv_drop h1
  have f2 := bv_drop h2
  have t1 := bv_lt (ha.take i)
  have t2 := bv_nonneg (hb.take i)
  rw [List.length_take, Nat.min_eq_left (by omega)] at t1
  rw [hd] at f1
  have g : bv (b.drop i) = bv (a.drop i) + (rd b i - rd a i) := by omega
  have h3 : (2 : Int) ^ i * 1 ≤ 2 ^ i * (rd b i - rd a i) := Int.mul_le_mul_of_nonneg_left (by omega) (Int.le_of_lt (Int.pow_pos (by decide)))
  rw [g] at e2
  have h4 : (2 : Int) ^ i * (bv (a.drop i) + (rd b i - rd a i)) = 2 ^ i * bv (a.drop i) + 2 ^ i * (rd b i - rd a i) := by grind
  omega
theorem ref_cmp_loop {a b : List Int} (ha : Bits a) (hb : Bits b) (hl : a.length = b.length) (hL : a.length ≤ 1000000) (n : Nat) : n ≤ a.length → a.drop n = b.drop n →
    Ev (fun k => gimbalref02_Cmp.l0 k a b ((n : Int) - 1)) (sgn (bv a - bv b)) := by
  induction n with
  | zero =>
    intro _ hd
    rw [List.drop_zero, List.drop_zero] at hd
    subst hd
    refine Ev.succ ?_
    simp only [gimbalref02_Cmp.l0]
    rw [show sgn (bv a - bv a) = 0 from by rw [Int.sub_self]; rfl]
    exact Ev.neg (by decide) (Ev.now _)
  | succ n ih =>
    intro hn hd
    refine Ev.succ ?_
    simp only [gimbalref02_Cmp.l0]
    rw [show ((n + 1 : Nat) : Int) - 1 = n from by omega, w64 (x := (n : Int) - 1) (by omega) (by omega)]
    refine Ev.pos (by omega) (Ev.pos (by omega) (Ev.pos (by omega) (Ev.pos (by omega) ?_)))
    by_cases he : rd a n = rd b n
    · refine Ev.pos he (ih (by omega) ?_)
      rw [drop_cons (by omega), drop_cons (l := b) (by omega), he, hd]
    · refine Ev.neg he ?_
      by_cases hlt : rd a n < rd b n
      · have := cmp_first ha hb (by omega) (by omega) hd hlt
        rw [show sgn (bv a - bv b) = -1 from by unfold sgn; rw [if_pos (by omega)]]
        exact Ev.pos hlt (Ev.now _)
      · have := cmp_first hb ha (by omega) (by omega) hd.symm (by omega)
        rw [show sgn (bv a - bv b) = 1 from by unfold sgn; rw [if_neg (by omega), if_neg (by omega)]]
        exact Ev.neg hlt (Ev.now _)
theorem ref_cmp {a b : List Int} (ha : Bits a) (hb : Bits b) (hLa : a.length ≤ 1000000) (hLb : b.length ≤ 1000000) : Ev (fun k => gimbalref02_Cmp.f k a b) (sgn (bv a - bv b)) := by
  unfold gimbalref02_Cmp.f
  have va := bv_nonneg ha
  have vb := bv_nonneg hb
  have la := bl_length va
  have lb := bl_length vb
  have ha1 : blen (bv a) ≤ a.length := blen_le (by omega) (bv_lt ha)
  have hb1 : blen (bv b) ≤ b.length := blen_le (by omega) (bv_lt hb)
  refine Ev.bind (ref_trim ha hLa) (Ev.bind (ref_trim hb hLb) ?_)
  by_cases he : ((bl (bv a)).length : Int) = (bl (bv b)).length
  · refine Ev.pos he ?_
    rw [w64 (x := ((bl (bv a)).length : Int) - 1) (by omega) (by omega)]
    have := ref_cmp_loop (bl_bits (bv a)) (bl_bits (bv b)) (by omega) (by omega) (bl (bv a)).length (Nat.le_refl _) (by rw [drop_nil (Nat.le_refl _), drop_nil (by omega)])
    rw [bv_bl va, bv_bl vb] at this
    exact this
  · refine Ev.neg he ?_
    by_cases hlt : ((bl (bv a)).length : Int) < (bl (bv b)).length
    · have : bv a < bv b := Int.not_le.mp fun hc => by have := blen_mono hc; omega
      rw [show sgn (bv a - bv b) = -1 from by unfold sgn; rw [if_pos (by omega)]]
      exact Ev.pos hlt (Ev.now _)
    · have : bv b < bv a := Int.not_le.mp fun hc => by have := blen_mono hc; omega
      rw [show sgn (bv a - bv b) = 1 from by unfold sgn; rw [if_neg (by omega), if_neg (by omega)]]
      exact Ev.neg hlt (Ev.now _)

theorem p2_pow (n : Nat) : p2 (n : Int) = 2 ^ n := rfl
theorem bv_div {l : List Int} (h : Bits l) {n : Nat} (hn : n ≤ l.length) : bv l / 2 ^ n = bv (l.drop n) ∧ bv l % 2 ^ n = bv (l.take n) := by
  have e := bv_take_drop l n hn
  have t := bv_lt (h.take n)
  have t0 := bv_nonneg (h.take n)
  rw [List.length_take, Nat.min_eq_left hn] at t
  have hp : (0 : Int) < 2 ^ n := Int.pow_pos (by decide)
  constructor
  · rw [e, Int.add_mul_ediv_left _ _ (Int.ne_of_gt hp), Int.ediv_eq_zero_of_lt t0 t, Int.zero_add]
  · rw [e, Int.add_mul_emod_self_left]
    exact Int.emod_eq_of_lt t0 t
theorem ref_down_end {a : List Int} (ha : Bits a) (hL : a.length ≤ 100000) {n : Int} (hn : n ≤ 1000000) (lost : Bool) {g : Nat → Option (List Int × Bool)}
    (hg : ∀ k, g k = if n ≥ (a.length : Int) then some (([] : List Int), lost) else (if 0 ≤ mx n 0 then (if mx n 0 ≤ (a.length : Int) then ((gimbalref02_Trim.f k (a.drop ((mx n 0) : Int).toNat)).bind fun t => some (t, lost)) else none) else none)) :
    Ev g (bl (bv a / p2 n), lost) := by
  refine Ev.same hg ?_
  by_cases h : n ≥ (a.length : Int)
  · have e : bv a / p2 n = 0 := by
      apply Int.ediv_eq_zero_of_lt (bv_nonneg ha)
      have h1 := bv_lt ha
      have h2 := p2_le (show (a.length : Int) ≤ n from h)
      rw [p2_pow] at h2
      omega
    rw [e, bl_zero]
    exact Ev.pos h (Ev.now _)
  · have em : mx n 0 = max n 0 := by unfold mx; omega
    rw [em]
    refine Ev.neg h (Ev.pos (by omega) (Ev.pos (by omega) (Ev.bind (ref_trim (ha.drop _) (by simp; omega)) ?_)))
    have hd := bv_div ha (n := (max n 0).toNat) (by omega)
    have e2 : (2 : Int) ^ (max n 0).toNat = p2 n := by unfold p2; congr 1; omega
    rw [← hd.1, e2]
    exact Ev.now _
theorem ref_down_loop {a : List Int} (ha : Bits a) (hL : a.length ≤ 100000) {n : Int} (hn : n ≤ 1000000) (d : Nat) : ∀ (i : Nat) (lost : Bool), lost = decide (bv (a.take i) ≠ 0) → (min n a.length - i).toNat = d → (i : Int) ≤ max 0 (min n a.length) →
    Ev (fun k => gimbalref02_Down.l0 k a n lost i) (bl (bv a / p2 n), decide (bv a % p2 n ≠ 0)) := by
  have last : ∀ i : Nat, (i : Int) = max 0 (min n a.length) → bv a % p2 n = bv (a.take i) := by
    intro i hi
    by_cases h : n ≤ a.length
    · have := (bv_div ha (n := i) (by omega)).2
      rw [← this]
      congr 1
      unfold p2; congr 1; omega
    · have e1 : a.take i = a := List.take_of_length_le (by omega)
      rw [e1]
      apply Int.emod_eq_of_lt (bv_nonneg ha)
      have h1 := bv_lt ha
      have h2 := p2_le (show (a.length : Int) ≤ n by omega)
      rw [p2_pow] at h2
      omega
  induction d with
  | zero =>
    intro i lost hl hd hi
    have e := last i (by omega)
    refine Ev.succ ?_
    rw [e, ← hl]
    by_cases h1 : (i : Int) < n
    · refine ref_down_end ha hL hn lost (fun k => ?_)
      simp only [gimbalref02_Down.l0]
      rw [if_pos h1, if_neg (by omega)]
    · refine ref_down_end ha hL hn lost (fun k => ?_)
      simp only [gimbalref02_Down.l0]
      rw [if_neg h1]
  | succ d ih =>
    intro i lost hl hd hi
    have rA := ha.at_ (i := (i : Int))
    have ht := bv_take_succ (l := a) (n := i) (by omega)
    have hp : (0 : Int) < 2 ^ i := Int.pow_pos (by decide)
    have t0 := bv_nonneg (ha.take i)
    refine Ev.succ ?_
    simp only [gimbalref02_Down.l0]
    rw [w64 (x := (i : Int) + 1) (by omega) (by omega)]
    refine Ev.pos (by omega) (Ev.pos (by omega) ?_)
    by_cases hlt : lost = true
    · refine Ev.pos hlt (ih (i + 1) true ?_ (by omega) (by omega))
      rw [hlt] at hl
      have : bv (a.take i) ≠ 0 := of_decide_eq_true hl.symm
      have h2 : bv (a.take (i + 1)) ≠ 0 := by
        rw [ht]
        rcases rA with h | h
        · rw [h]; omega
        · rw [h]; omega
      simp [h2]
    · refine Ev.neg hlt (Ev.pos (by omega) (ih (i + 1) _ ?_ (by omega) (by omega)))
      have hf : lost = false := by simpa using hlt
      rw [hf] at hl
      have h0 : bv (a.take i) = 0 := Decidable.byContradiction fun h => by have := of_decide_eq_false hl.symm; exact this h
      rw [ht, h0, Int.zero_add]
      rcases rA with h | h
      · rw [h]; simp
      · rw [h, Int.mul_one]
        have : decide ((2 : Int) ^ i ≠ 0) = true := by simp; omega
        rw [this]; rfl
theorem ref_down {a : List Int} (ha : Bits a) (hL : a.length ≤ 100000) {n : Int} (hn : n ≤ 1000000) : Ev (fun k => gimbalref02_Down.f k a n) (bl (bv a / p2 n), decide (bv a % p2 n ≠ 0)) := by
  unfold gimbalref02_Down.f
  exact ref_down_loop ha hL hn _ 0 false (by simp [bv_nil]) rfl (by omega)

theorem ref_num_loop {a : List Int} (ha : Bits a) (n : Nat) : n ≤ a.length → n ≤ 64 → ∀ x : Int, 0 ≤ x → x * 2 ^ n + bv (a.take n) < 18446744073709551616 →
    Ev (fun k => gimbalref02_Num.l0 k a x ((n : Int) - 1)) (x * 2 ^ n + bv (a.take n)) := by
  induction n with
  | zero =>
    intro _ _ x _ _
    refine Ev.succ ?_
    simp only [gimbalref02_Num.l0]
    rw [List.take_zero, bv_nil, Int.pow_zero, Int.mul_one, Int.add_zero]
    exact Ev.neg (by decide) (Ev.now _)
  | succ n ih =>
    intro hn h64 x hx hb
    have rA := ha.at_ (i := (n : Int))
    have ht := bv_take_succ (l := a) (n := n) (by omega)
    have hp : (0 : Int) < 2 ^ n := Int.pow_pos (by decide)
    have t0 := bv_nonneg (ha.take n)
    have e : x * 2 ^ (n + 1) + bv (a.take (n + 1)) = (2 * x + rd a n) * 2 ^ n + bv (a.take n) := by rw [ht, Int.pow_succ]; grind
    rw [e] at hb ⊢
    have hs : 0 ≤ 2 * x + rd a n := by omega
    have hlt : 2 * x + rd a n < 18446744073709551616 := by
      have : (2 * x + rd a n) * 1 ≤ (2 * x + rd a n) * 2 ^ n := Int.mul_le_mul_of_nonneg_left (by omega) hs
      omega
    refine Ev.succ ?_
    simp only [gimbalref02_Num.l0]
    rw [show ((n + 1 : Nat) : Int) - 1 = n from by omega, w64 (x := (n : Int) - 1) (by omega) (by omega), wu64 (x := 2 * x) (by omega) (by omega), wu64 (x := rd a n) (by omega) (by omega), wu64 (x := 2 * x + rd a n) hs hlt]
    exact Ev.pos (by omega) (Ev.pos (by omega) (Ev.pos (by omega) (ih (by omega) (by omega) _ hs hb)))
theorem ref_num {a : List Int} (ha : Bits a) (hL : a.length ≤ 64) : Ev (fun k => gimbalref02_Num.f k a) (bv a) := by
  unfold gimbalref02_Num.f
  have em : mn (a.length : Int) 64 - 1 = (a.length : Int) - 1 := by unfold mn; split <;> omega
  rw [em]
  have hlt := bv_lt ha
  have hle : (2 : Int) ^ a.length ≤ 2 ^ 64 := by exact_mod_cast Nat.pow_le_pow_right (by decide : 0 < 2) hL
  have h64 : (2 : Int) ^ 64 = 18446744073709551616 := by decide
  have := ref_num_loop ha a.length (Nat.le_refl _) hL 0 (by decide) (by rw [List.take_length, Int.zero_mul, Int.zero_add]; omega)
  rw [List.take_length, Int.zero_mul, Int.zero_add] at this
  exact this
end Gim

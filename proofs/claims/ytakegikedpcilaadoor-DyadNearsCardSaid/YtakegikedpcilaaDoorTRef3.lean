/- What the reference's Round answers: the nearest number, and the flags. -/
import Derived.Test.YtakegikedpcilaaDoorTRef2
import Derived.Test.YtakegikedpcilaaDoorTRound
import Derived.Test.YtakegikedpcilaaDoorFx13
namespace Gim
open Go Go.RowKit Go.Proofs.YtakegikedpcilaaDoorW.PrintWords Go.Proofs.YtakegikedpcilaaDoorW.PrintLast Go.Proofs.YtakegikedpcilaaDoorW.PrintMore Go.Proofs.YtakegikedpcilaaDoor.F
set_option linter.unusedVariables false

theorem sgn_two {X d : Int} : (sgn (2 * X - p2 d) > 0 ↔ p2 d < 2 * X) ∧ (sgn (2 * X - p2 d) = 0 ↔ p2 d = 2 * X) := by
  unfold sgn
  by_cases h1 : 2 * X - p2 d < 0
  · rw [if_pos h1]; constructor <;> constructor <;> intro h <;> omega
  · rw [if_neg h1]
    by_cases h2 : 2 * X - p2 d = 0
    · rw [if_pos h2]; constructor <;> constructor <;> intro h <;> omega
    · rw [if_neg h2]; constructor <;> constructor <;> intro h <;> omega
def zs (neg : Bool) : Int := if neg then 9223372036854775808 else 0
theorem zs_cases (neg : Bool) : zs neg = 0 ∨ zs neg = 9223372036854775808 := by cases neg <;> simp [zs]
theorem zs_signed (neg : Bool) (m : Int) : zs neg + m = signed neg m := by unfold zs signed; cases neg <;> simp <;> omega

theorem ref_round_j7 (neg tiny lost : Bool) {q n : Int} (hq : -1074 ≤ q) (hq' : q ≤ 1000000) (hn : 0 ≤ n) (h1 : n < 9007199254740992) (h2 : q = -1074 ∨ 4503599627370496 ≤ n) (ht : tiny = true → enc q n < INF) :
    Ev (fun k => gimbalref03_Round.j7 k (zs neg) q (bl n) (fl lost tiny)) (signed neg (if enc q n < INF then enc q n else INF), if enc q n < INF then fl lost tiny else 5) := by
  refine Ev.succ ?_
  simp only [gimbalref03_Round.j7]
  have hl := bl_length hn
  have hb53 : blen n ≤ 53 := blen_le (by decide) (by rw [show p2 53 = 9007199254740992 from by decide]; exact h1)
  have hnum := ref_num (a := bl n) (bl_bits n) (by omega)
  rw [bv_bl hn] at hnum
  refine Ev.bind hnum ?_
  have hz := zs_cases neg
  by_cases ha : n < 4503599627370496
  · obtain rfl : q = -1074 := by omega
    have hb : blen n ≤ 52 := blen_le (by decide) (by rw [show p2 52 = 4503599627370496 from by decide]; exact ha)
    have e : enc (-1074) n = n := by unfold enc; omega
    have hI : n < INF := by unfold INF; omega
    rw [e]
    simp only [if_pos hI]
    rw [wu64 (x := zs neg + n) (by omega) (by omega), zs_signed]
    exact Ev.pos (by omega) (Ev.now _)
  · have hb : 53 ≤ blen n := by
      have := blen_mono (show 4503599627370496 ≤ n by omega)
      have e : blen 4503599627370496 = 53 := blen_unique (by decide) (by decide) (by decide)
      omega
    refine Ev.neg (by omega) ?_
    rw [w64 (x := q + 1075) (by omega) (by omega)]
    by_cases hbig : q + 1075 ≥ 2047
    · have e : ¬ enc q n < INF := by unfold enc INF; omega
      simp only [if_neg e]
      have ht' : tiny = false := by
        cases tiny
        · rfl
        · exact absurd (ht rfl) e
      subst ht'
      have e2 : bits .or .i64 (wrap64 ((wrap64 (Int.tdiv (fl lost false) 2)) * 2)) 5 = 5 := by
        cases lost
        · show bits .or .i64 (wrap64 ((wrap64 (Int.tdiv 0 2)) * 2)) 5 = 5
          rw [show Int.tdiv 0 2 = 0 from rfl, w64 (x := 0) (by decide) (by decide), w64 (x := 0 * 2) (by decide) (by decide)]
          decide
        · show bits .or .i64 (wrap64 ((wrap64 (Int.tdiv 1 2)) * 2)) 5 = 5
          rw [show Int.tdiv 1 2 = 0 from rfl, w64 (x := 0) (by decide) (by decide), w64 (x := 0 * 2) (by decide) (by decide)]
          decide
      rw [e2, wu64 (x := zs neg + 9218868437227405312) (by omega) (by omega), show (9218868437227405312 : Int) = INF from rfl, zs_signed]
      exact Ev.pos hbig (Ev.now _)
    · have e : enc q n < INF := by unfold enc INF; omega
      simp only [if_pos e]
      refine Ev.neg hbig ?_
      rw [wu64 (x := q + 1075) (by omega) (by omega), wu64 (x := (q + 1075) * 4503599627370496) (by omega) (by omega), wu64 (x := zs neg + (q + 1075) * 4503599627370496) (by omega) (by omega),
        wu64_mod (zs neg + (q + 1075) * 4503599627370496 + n), wu64_mod]
      have e3 : ((zs neg + (q + 1075) * 4503599627370496 + n) % 18446744073709551616 - 4503599627370496) % 18446744073709551616 = signed neg (enc q n) := by
        rw [← zs_signed]; unfold enc; omega
      rw [e3]
      exact Ev.now _
theorem ref_round_j6 (neg tiny lost : Bool) {q n : Int} (hq : -1074 ≤ q) (hq' : q ≤ 200000) (hn : 0 ≤ n) (h1 : n ≤ 9007199254740992) (h2 : q = -1074 ∨ 4503599627370496 ≤ n) (ht : tiny = true → enc q n < INF) :
    Ev (fun k => gimbalref03_Round.j6 k (zs neg) q (bl n) (fl lost tiny)) (signed neg (if enc q n < INF then enc q n else INF), if enc q n < INF then fl lost tiny else 5) := by
  refine Ev.succ ?_
  simp only [gimbalref03_Round.j6]
  have hl := bl_length hn
  by_cases ha : n = 9007199254740992
  · subst ha
    have e54 : blen 9007199254740992 = 54 := blen_unique (by decide) (by decide) (by decide)
    have hd := ref_down (a := bl 9007199254740992) (bl_bits _) (by omega) (n := 1) (by decide)
    rw [bv_bl hn, p2_1] at hd
    refine Ev.pos (by omega) (Ev.bind hd ?_)
    dsimp only
    rw [w64 (x := q + 1) (by omega) (by omega)]
    have := ref_round_j7 neg tiny lost (q := q + 1) (n := 9007199254740992 / 2) (by omega) (by omega) (by decide) (by decide) (.inr (by decide)) (fun h => by have := ht h; unfold enc at this ⊢; omega)
    have e : enc (q + 1) (9007199254740992 / 2) = enc q 9007199254740992 := by unfold enc; omega
    rw [e] at this
    exact this
  · have hb53 : blen n ≤ 53 := blen_le (by decide) (by rw [show p2 53 = 9007199254740992 from by decide]; omega)
    exact Ev.neg (by omega) (ref_round_j7 neg tiny lost hq (by omega) hn (by omega) h2 ht)
theorem ref_round_j5 (neg tiny lost : Bool) {q n : Int} (hq : -1074 ≤ q) (hq' : q ≤ 200000) (hn : 0 ≤ n) (h1 : n ≤ 9007199254740992) (h2 : q = -1074 ∨ 4503599627370496 ≤ n) (ht : tiny = true → enc q n < INF) :
    Ev (fun k => gimbalref03_Round.j5 k (zs neg) q tiny (bl n) lost) (signed neg (if enc q n < INF then enc q n else INF), if enc q n < INF then fl lost tiny else 5) := by
  have := ref_round_j6 neg tiny lost hq hq' hn h1 h2 ht
  refine Ev.succ ?_
  simp only [gimbalref03_Round.j5]
  cases lost
  · exact Ev.neg (by decide) this
  · cases tiny
    · exact Ev.pos rfl (Ev.neg (by decide) this)
    · exact Ev.pos rfl (Ev.pos rfl this)

theorem two_pow_bits : Bits [1] := Bits.cons (.inr rfl) Bits.nil
theorem bv_one : bv [1] = 1 := rfl
/-- From the number as whole bits on. -/
theorem ref_round_j1 (neg : Bool) {X E : Int} (hX : 0 < X) (hb : blen X ≤ 50000) (hE : -20000 ≤ E) (hE' : E ≤ 20000) :
    ∃ b f, Ev (fun k => gimbalref03_Round.j1 k E (zs neg) (bl X)) (signed neg b, f) ∧ RB ((X : Rat) * pw E) b f := by
  obtain ⟨bl1, bl2, bl3⟩ := blen_pos hX
  have hl := bl_length (Int.le_of_lt hX)
  have hu := pw_pos E
  have ht : decide (wrap64 (E + ((bl X).length : Int)) < -1021) = decide ((X : Rat) * pw E < pw (-1022)) := by
    rw [hl, w64 (by omega) (by omega)]
    apply decide_eq_decide.mpr
    have hxl : pw (blen X - 1 + E) ≤ (X : Rat) * pw E := by
      rw [pw_add, pw_p2 (a := blen X - 1) (by omega)]
      exact mul_pw_le.mpr bl2
    have hxr : (X : Rat) * pw E < pw (blen X + E) := by
      rw [pw_add, pw_p2 (a := blen X) (by omega)]
      exact mul_pw_lt.mpr bl3
    constructor
    · intro h; exact Std.lt_of_lt_of_le hxr (pw_mono (by omega))
    · intro h
      exact Decidable.byContradiction fun hc => by
        have := pw_mono (show -1022 ≤ blen X - 1 + E from by omega)
        grind
  have main : ∀ last, -1074 ≤ last → E + blen X - 53 ≤ last → (last = -1074 ∨ last = E + blen X - 53) →
      ∃ b f, Ev (fun k => gimbalref03_Round.j2 k E (zs neg) (bl X) last) (signed neg b, f) ∧ RB ((X : Rat) * pw E) b f := by
    intro last hq hL hq2
    have hX0 := Int.le_of_lt hX
    by_cases hd : last > E
    · have ed : E + (last - E) = last := by omega
      obtain ⟨hr, hex⟩ := rup_rnd (W := X) (E := E) (d := last - E) (more := false) (x := (X : Rat) * pw E) hX (by omega) (by omega) (by omega) (by omega) (fun _ => rfl) (fun h => by cases h)
      rw [ed] at hr hex
      refine ⟨_, _, ?_, ⟨_, _, hr, rfl, rfl⟩⟩
      have hD := p2_pos (last - E)
      have s0 := Int.emod_nonneg X (Int.ne_of_gt hD)
      have hA0 : 0 ≤ X / p2 (last - E) := Int.ediv_nonneg hX0 (Int.le_of_lt hD)
      have m2 := Int.mul_ediv_add_emod X (p2 (last - E))
      have hA1 : X / p2 (last - E) < 9007199254740992 := by
        apply Int.ediv_lt_of_lt_mul hD
        have e53 : (9007199254740992 : Int) = p2 53 := by decide
        rw [e53, ← p2_add (by decide) (by omega)]
        have := p2_le (show blen X ≤ 53 + (last - E) from by omega)
        omega
      have hAl := bl_length hA0
      have hAb : blen (X / p2 (last - E)) ≤ 53 := blen_le (by decide) (by rw [show p2 53 = 9007199254740992 from by decide]; exact hA1)
      -- the steps
      have k1 := ref_down (a := bl X) (n := last - E) (bl_bits X) (by omega) (by omega)
      rw [bv_bl hX0] at k1
      have k2 := ref_up (a := bl (X / p2 (last - E))) (n := last - E) (bl_bits _) (by omega) (by omega)
      rw [bv_bl hA0, cut_div hD] at k2
      have hs1 : X - X % p2 (last - E) ≤ X := by omega
      have hs2 : 0 ≤ X - X % p2 (last - E) := by have := Int.mul_nonneg hA0 (Int.le_of_lt hD); have := cut_div (v := X) hD; omega
      have k3 := ref_sub (a := bl X) (b := bl (X - X % p2 (last - E))) (bl_bits _) (bl_bits _) (by omega) (by rw [bv_bl hX0, bv_bl hs2]; exact hs1)
      rw [bv_bl hX0, bv_bl hs2, show X - (X - X % p2 (last - E)) = X % p2 (last - E) from by omega] at k3
      have hRl := bl_length s0
      have hRb : blen (X % p2 (last - E)) ≤ 50000 := by
        have := blen_mono (show X % p2 (last - E) ≤ X by have := Int.mul_nonneg hA0 (Int.le_of_lt hD); have := cut_div (v := X) hD; omega)
        omega
      have k4 := ref_up (a := bl (X % p2 (last - E))) (n := 1) (bl_bits _) (by omega) (by decide)
      rw [bv_bl s0, p2_1] at k4
      have k5 := ref_up (a := [1]) (n := last - E) two_pow_bits (by decide) (by omega)
      rw [bv_one, Int.one_mul] at k5
      have h2R : 0 ≤ X % p2 (last - E) * 2 := by omega
      have l4 := bl_length h2R
      have l5 := bl_length (Int.le_of_lt hD)
      have b4 : blen (X % p2 (last - E) * 2) ≤ 50001 := by
        refine blen_le (by decide) ?_
        have h3 := p2_succ (a := 50000) (by decide)
        by_cases hz : 0 < X % p2 (last - E)
        · have := (blen_pos hz).2.2
          have := p2_le hRb
          have e : (50000 : Int) + 1 = 50001 := by decide
          rw [e] at h3
          omega
        · have := p2_pos 50001
          omega
      have b5 : blen (p2 (last - E)) ≤ 80000 := by
        refine blen_le (by decide) ?_
        have h1 := p2_succ (a := last - E) (by omega)
        have h2 := p2_le (show last - E + 1 ≤ 80000 by omega)
        omega
      have k6 := ref_cmp (a := bl (X % p2 (last - E) * 2)) (b := bl (p2 (last - E))) (bl_bits _) (bl_bits _) (by omega) (by omega)
      rw [bv_bl h2R, bv_bl (Int.le_of_lt hD), Int.mul_comm (X % p2 (last - E)) 2] at k6
      rw [Int.mul_comm (X % p2 (last - E)) 2] at k4
      obtain ⟨c1, c2⟩ := sgn_two (X := X % p2 (last - E)) (d := last - E)
      have hP : p2 (last - E) = 2 * p2 (last - E - 1) := by rw [← p2_succ (by omega)]; congr 1; omega
      have nn := hr.n_nonneg
      have nl := hr.n_le
      have ng := hr.n_ge'
      have tt : decide ((X : Rat) * pw E < pw (-1022)) = true → enc last (rup X (last - E) false) < INF := fun h => tiny_enc hr (of_decide_eq_true h)
      have efl : fl (decide (X % p2 (last - E) ≠ 0)) (decide ((X : Rat) * pw E < pw (-1022))) = (if (X : Rat) * pw E = (rup X (last - E) false : Rat) * pw last then 0 else if (X : Rat) * pw E < pw (-1022) then 3 else 1) := by
        unfold fl
        by_cases c : X % p2 (last - E) = 0
        · rw [if_pos (hex.mpr ⟨c, rfl⟩)]; simp [c]
        · rw [if_neg (fun h => c (hex.mp h).1)]; simp [c]
      rw [← efl]
      -- up or not
      have j4 : ∀ up : Bool, rup X (last - E) false = (if up then X / p2 (last - E) + 1 else X / p2 (last - E)) →
          Ev (fun k => gimbalref03_Round.j4 k (zs neg) last (decide ((X : Rat) * pw E < pw (-1022))) (decide (X % p2 (last - E) ≠ 0)) (bl (X / p2 (last - E))) up)
            (signed neg (if enc last (rup X (last - E) false) < INF then enc last (rup X (last - E) false) else INF), if enc last (rup X (last - E) false) < INF then fl (decide (X % p2 (last - E) ≠ 0)) (decide ((X : Rat) * pw E < pw (-1022))) else 5) := by
        intro up hup
        have h5 := ref_round_j5 neg (decide ((X : Rat) * pw E < pw (-1022))) (decide (X % p2 (last - E) ≠ 0)) hq (by omega) nn nl ng tt
        refine Ev.succ ?_
        simp only [gimbalref03_Round.j4]
        cases up
        · simp only [Bool.false_eq_true, if_false] at hup
          rw [hup] at h5 ⊢
          exact Ev.neg (by decide) h5
        · simp only [if_true] at hup
          have ka := ref_add (a := bl (X / p2 (last - E))) (b := [1]) (bl_bits _) two_pow_bits (by omega) (by decide)
          rw [bv_bl hA0, bv_one] at ka
          rw [hup] at h5 ⊢
          exact Ev.pos rfl (Ev.bind ka h5)
      have j3 : ∀ odd : Bool, odd = decide (X / p2 (last - E) % 2 = 1) →
          Ev (fun k => gimbalref03_Round.j3 k (zs neg) last (decide ((X : Rat) * pw E < pw (-1022))) (decide (X % p2 (last - E) ≠ 0)) (bl (X / p2 (last - E))) (sgn (2 * (X % p2 (last - E)) - p2 (last - E))) odd)
            (signed neg (if enc last (rup X (last - E) false) < INF then enc last (rup X (last - E) false) else INF), if enc last (rup X (last - E) false) < INF then fl (decide (X % p2 (last - E) ≠ 0)) (decide ((X : Rat) * pw E < pw (-1022))) else 5) := by
        intro odd hodd
        refine Ev.succ ?_
        simp only [gimbalref03_Round.j3]
        by_cases g1 : sgn (2 * (X % p2 (last - E)) - p2 (last - E)) > 0
        · have := c1.mp g1
          refine Ev.pos g1 (j4 true ?_)
          unfold rup; rw [if_pos ⟨by omega, .inl (by omega)⟩]; rfl
        · have n1 : ¬ p2 (last - E) < 2 * (X % p2 (last - E)) := fun h => g1 (c1.mpr h)
          refine Ev.neg g1 ?_
          by_cases g2 : sgn (2 * (X % p2 (last - E)) - p2 (last - E)) = 0
          · have e2 := c2.mp g2
            refine Ev.pos g2 (j4 odd ?_)
            rw [hodd]
            unfold rup
            by_cases ho : X / p2 (last - E) % 2 = 1
            · rw [if_pos ⟨by omega, .inr (.inr ho)⟩]; simp [ho]
            · have hno : ¬ (p2 (last - E) ≤ 2 * (X % p2 (last - E)) ∧ (X % p2 (last - E) ≠ p2 (last - E - 1) ∨ false = true ∨ X / p2 (last - E) % 2 = 1)) := by
                rintro ⟨_, h | h | h⟩
                · omega
                · cases h
                · exact ho h
              rw [if_neg hno]; simp [ho]
          · have n2 : ¬ p2 (last - E) = 2 * (X % p2 (last - E)) := fun h => g2 (c2.mpr h)
            refine Ev.neg g2 (j4 false ?_)
            unfold rup
            rw [if_neg (fun h => by have := h.1; omega)]; rfl
      refine Ev.succ ?_
      simp only [gimbalref03_Round.j2]
      rw [w64 (x := last - E) (by omega) (by omega), ht]
      refine Ev.pos hd (Ev.bind k1 ?_)
      dsimp only
      refine Ev.bind k2 (Ev.bind k3 (Ev.bind k4 (Ev.bind k5 (Ev.bind k6 ?_))))
      by_cases hz : X / p2 (last - E) = 0
      · have e0 : ((bl (X / p2 (last - E))).length : Int) = 0 := by rw [hz, bl_zero]; rfl
        refine Ev.neg (by omega) (j3 false ?_)
        rw [hz]; rfl
      · have hpos : 0 < X / p2 (last - E) := by omega
        have e1 := (blen_pos hpos).1
        refine Ev.pos (by omega) (Ev.pos (by omega) ?_)
        have er : rd (bl (X / p2 (last - E))) 0 = X / p2 (last - E) % 2 := by rw [bl_cons hpos]; rfl
        rw [er]
        refine j3 _ ?_
        rw [Bool.eq_iff_iff]; simp
    · have hP := p2_pos (E - last)
      have hx : (X : Rat) * pw E = ((X * p2 (E - last) : Int) : Rat) * pw last := by
        have : pw E = (p2 (E - last) : Rat) * pw last := by rw [← pw_p2 (by omega), ← pw_add]; congr 1; omega
        rw [this]; push_cast; grind
      have hn1 : X * p2 (E - last) < 9007199254740992 := by
        have e53 : (9007199254740992 : Int) = p2 (blen X) * p2 (53 - blen X) := by rw [← p2_add (by omega) (by omega), show blen X + (53 - blen X) = 53 from by omega]; decide
        have h1 : X * p2 (E - last) < p2 (blen X) * p2 (E - last) := Int.mul_lt_mul_of_pos_right bl3 hP
        have h2 : p2 (blen X) * p2 (E - last) ≤ p2 (blen X) * p2 (53 - blen X) := Int.mul_le_mul_of_nonneg_left (p2_le (by omega)) (Int.le_of_lt (p2_pos _))
        omega
      have hn0 : 0 < X * p2 (E - last) := Int.mul_pos hX hP
      have hng : last = -1074 ∨ 4503599627370496 ≤ X * p2 (E - last) := by
        rcases hq2 with h | h
        · exact .inl h
        · refine .inr ?_
          have e52 : (4503599627370496 : Int) = p2 (blen X - 1) * p2 (E - last) := by rw [← p2_add (by omega) (by omega), show blen X - 1 + (E - last) = 52 from by omega]; decide
          rw [e52]
          exact Int.mul_le_mul_of_nonneg_right bl2 (Int.le_of_lt hP)
      have hr : Rnd ((X : Rat) * pw E) last (X * p2 (E - last)) := by rw [hx]; exact Rnd.self hq hn0 hn1 hng
      refine ⟨_, _, ?_, ⟨_, _, hr, rfl, rfl⟩⟩
      have efl : fl false (decide ((X : Rat) * pw E < pw (-1022))) = (if (X : Rat) * pw E = ((X * p2 (E - last) : Int) : Rat) * pw last then 0 else if (X : Rat) * pw E < pw (-1022) then 3 else 1) := by
        rw [if_pos hx]; rfl
      rw [← efl]
      have tt : decide ((X : Rat) * pw E < pw (-1022)) = true → enc last (X * p2 (E - last)) < INF := fun h => tiny_enc hr (of_decide_eq_true h)
      have k1 := ref_up (a := bl X) (n := E - last) (bl_bits _) (by omega) (by omega)
      rw [bv_bl hX0] at k1
      refine Ev.succ ?_
      simp only [gimbalref03_Round.j2]
      rw [w64 (x := E - last) (by omega) (by omega), ht]
      exact Ev.neg hd (Ev.bind k1 (ref_round_j5 neg _ false hq (by omega) (Int.le_of_lt hn0) (by omega) hng tt))
  refine Exists.elim (?_ : ∃ rf : Int × Int, Ev (fun k => gimbalref03_Round.j1 k E (zs neg) (bl X)) (signed neg rf.1, rf.2) ∧ RB ((X : Rat) * pw E) rf.1 rf.2) (fun rf h => ⟨rf.1, rf.2, h⟩)
  have e0 : ¬ ((bl X).length : Int) = 0 := by omega
  have e1 : wrap64 (wrap64 (E + ((bl X).length : Int)) - 53) = E + blen X - 53 := by rw [w64 (x := E + ((bl X).length : Int)) (by omega) (by omega), hl, w64 (by omega) (by omega)]
  by_cases hs : E + blen X - 53 < -1074
  · obtain ⟨b, f, ev, rb⟩ := main (-1074) (by decide) (by omega) (.inl rfl)
    refine ⟨(b, f), Ev.succ ?_, rb⟩
    simp only [gimbalref03_Round.j1]
    rw [e1]
    exact Ev.neg e0 (Ev.pos hs ev)
  · obtain ⟨b, f, ev, rb⟩ := main (E + blen X - 53) (by omega) (by omega) (.inr rfl)
    refine ⟨(b, f), Ev.succ ?_, rb⟩
    simp only [gimbalref03_Round.j1]
    rw [e1]
    exact Ev.neg e0 (Ev.neg hs ev)

/-- THE REFERENCE's ROUND: of bits times 2^exp; with 'more' of a quarter more. -/
theorem ref_round (neg : Bool) {l : List Int} {E : Int} (hl : Bits l) (hL : l.length ≤ 40000) (hE : -10000 ≤ E) (hE' : E ≤ 10000) (more : Bool) (h0 : 0 < bv l) :
    ∃ b f, Ev (fun k => gimbalref03_Round.f k neg l E more) (signed neg b, f) ∧ RB (((4 * bv l + (if more then 1 else 0) : Int) : Rat) * pw (E - 2)) b f := by
  have k1 := ref_up (a := l) (n := 2) hl (by omega) (by decide)
  have e4 : bv l * p2 2 = 4 * bv l := by rw [show p2 2 = 4 from by decide]; omega
  rw [e4] at k1
  have hb4 : blen (4 * bv l) ≤ 40002 := by
    refine blen_le (by decide) ?_
    have h1 := bv_lt hl
    have h2 := p2_le (show (l.length : Int) ≤ 40000 by omega)
    rw [p2_pow] at h2
    have h3 := p2_add (a := 2) (b := 40000) (by decide) (by decide)
    rw [show (2 : Int) + 40000 = 40002 from by decide, show p2 2 = 4 from by decide] at h3
    omega
  have hl4 := bl_length (show 0 ≤ 4 * bv l by omega)
  have start : ∀ (X : Int), X = 4 * bv l + (if more then 1 else 0) → ∀ r : Int × Int, Ev (fun k => gimbalref03_Round.j1 k (E - 2) (zs neg) (bl X)) r → Ev (fun k => gimbalref03_Round.f k neg l E more) r := by
    intro X hX r h
    have j0 : Ev (fun k => gimbalref03_Round.j0 k l E more (zs neg)) r := by
      refine Ev.succ ?_
      simp only [gimbalref03_Round.j0]
      rw [w64 (x := E - 2) (by omega) (by omega)]
      refine Ev.bind k1 ?_
      cases more
      · simp only [Bool.false_eq_true, if_false, Int.add_zero] at hX
        rw [hX] at h
        exact Ev.neg (by decide) h
      · have k2 := ref_add (a := bl (4 * bv l)) (b := [1]) (bl_bits _) two_pow_bits (by omega) (by decide)
        rw [bv_bl (by omega), bv_one] at k2
        simp only [if_true] at hX
        rw [hX] at h
        exact Ev.pos rfl (Ev.bind k2 h)
    unfold gimbalref03_Round.f
    cases neg
    · exact Ev.neg (by decide) j0
    · exact Ev.pos rfl j0
  have hX : 0 < 4 * bv l + (if more then 1 else 0) := by split <;> omega
  have hbX : blen (4 * bv l + (if more then 1 else 0)) ≤ 50000 := by
    refine blen_le (by decide) ?_
    have h1 := (blen_pos (x := 4 * bv l) (by omega)).2.2
    have h2 := p2_le hb4
    have h3 := p2_succ (a := 40002) (by decide)
    have h4 := p2_le (show (40002 : Int) + 1 ≤ 50000 by decide)
    split <;> omega
  obtain ⟨b, f, ev, rb⟩ := ref_round_j1 neg hX hbX (E := E - 2) (by omega) (by omega)
  exact ⟨b, f, start _ rfl _ ev, rb⟩
theorem ref_round_zero (neg : Bool) {E : Int} (hE : -10000 ≤ E) (hE' : E ≤ 10000) : Ev (fun k => gimbalref03_Round.f k neg [] E false) (signed neg 0, 0) := by
  have k1 := ref_up (a := []) (n := 2) Bits.nil (by decide) (by decide)
  rw [bv_nil, Int.zero_mul, bl_zero] at k1
  have j0 : Ev (fun k => gimbalref03_Round.j0 k [] E false (zs neg)) (signed neg 0, 0) := by
    refine Ev.succ ?_
    simp only [gimbalref03_Round.j0]
    refine Ev.bind k1 (Ev.neg (by decide) (Ev.succ ?_))
    simp only [gimbalref03_Round.j1]
    rw [← zs_signed, Int.add_zero]
    exact Ev.pos rfl (Ev.now _)
  unfold gimbalref03_Round.f
  cases neg
  · exact Ev.neg (by decide) j0
  · exact Ev.pos rfl j0
end Gim

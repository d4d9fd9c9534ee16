/- What a pattern is as a number; what it is that a number is rounded to a pattern. -/
import Derived.Test.YtnjobojkoaknpaaTRound
import Derived.Test.YtnjobojkoaknpaaTWord
namespace Gim
open Go Go.RowKit Go.Proofs.YtnjobojkoaknpaaW.PrintWords Go.Proofs.YtnjobojkoaknpaaW.PrintLast Go.Proofs.YtnjobojkoaknpaaW.PrintMore Go.Proofs.Ytnjobojkoaknpaa.F
set_option linter.unusedVariables false

/-- The pattern without its sign; the sign; the value of a number. -/
def mag (a : Int) : Int := a % 9223372036854775808
def neg (a : Int) : Bool := decide (9223372036854775808 ≤ a)
def fin (a : Int) : Prop := mag a < INF
def val (a : Int) : Rat := if neg a then -vm (mag a) else vm (mag a)
instance (a : Int) : Decidable (fin a) := by unfold fin; exact inferInstance

theorem mag_lt {a : Int} : 0 ≤ mag a ∧ mag a < 9223372036854775808 := by unfold mag; omega
theorem mag_signed {s : Bool} {m : Int} (h0 : 0 ≤ m) (h1 : m < 9223372036854775808) : mag (signed s m) = m := by unfold mag signed; cases s <;> simp <;> omega
theorem neg_signed {s : Bool} {m : Int} (h0 : 0 ≤ m) (h1 : m < 9223372036854775808) : neg (signed s m) = s := by
  unfold neg signed
  cases s
  · simp; omega
  · simp; omega
theorem signed_eta {a : Int} (h : U a) : signed (neg a) (mag a) = a := by
  obtain ⟨h0, h1⟩ := h
  unfold signed neg mag
  by_cases c : 9223372036854775808 ≤ a
  · simp [c]; omega
  · simp [c]; omega
theorem U_signed {s : Bool} {m : Int} (h0 : 0 ≤ m) (h1 : m < 9223372036854775808) : U (signed s m) := by
  unfold U signed; cases s <;> simp <;> omega
theorem ext_sm {a b : Int} (ha : U a) (hb : U b) (hs : neg a = neg b) (hm : mag a = mag b) : a = b := by
  rw [← signed_eta ha, ← signed_eta hb, hs, hm]
theorem U_flip {a : Int} (h : U a) : U (flip a) := by obtain ⟨h0, h1⟩ := h; unfold U flip; split <;> omega
theorem mag_flip {a : Int} (h : U a) : mag (flip a) = mag a := by obtain ⟨h0, h1⟩ := h; unfold mag flip; split <;> omega
theorem neg_flip {a : Int} (h : U a) : neg (flip a) = !neg a := by
  obtain ⟨h0, h1⟩ := h
  unfold neg flip
  by_cases c : a < 9223372036854775808
  · rw [if_pos c, decide_eq_true (by omega), decide_eq_false (by omega)]; rfl
  · rw [if_neg c, decide_eq_false (by omega), decide_eq_true (by omega)]; rfl
theorem flip_flip {a : Int} (h : U a) : flip (flip a) = a := by obtain ⟨h0, h1⟩ := h; unfold flip; grind
theorem val_flip {a : Int} (h : U a) : val (flip a) = -val a := by
  unfold val
  rw [mag_flip h, neg_flip h]
  cases neg a <;> simp
theorem val_signed {s : Bool} {m : Int} (h0 : 0 ≤ m) (h1 : m < 9223372036854775808) : val (signed s m) = if s then -vm m else vm m := by
  unfold val; rw [mag_signed h0 h1, neg_signed h0 h1]
theorem val_zero_iff {a : Int} : val a = 0 ↔ mag a = 0 := by
  unfold val
  have h0 := (mag_lt (a := a)).1
  constructor
  · intro h
    by_cases hm : mag a = 0
    · exact hm
    · have := vm_pos (m := mag a) (by omega)
      cases hn : neg a <;> simp [hn] at h <;> grind
  · intro h
    rw [h, vm_zero]
    cases neg a <;> simp
theorem val_pos {a : Int} (hs : neg a = false) : 0 ≤ val a := by unfold val; rw [hs]; exact vm_nonneg mag_lt.1
theorem val_abs (a : Int) : vm (mag a) = if val a < 0 then -val a else val a := by
  have h0 := vm_nonneg (mag_lt (a := a)).1
  unfold val
  cases neg a <;> simp <;> grind

/-- The magnitude of a rational number. -/
def rabs (x : Rat) : Rat := if x < 0 then -x else x
theorem rabs_nonneg (x : Rat) : 0 ≤ rabs x := by unfold rabs; grind
theorem rabs_pos {x : Rat} (h : x ≠ 0) : 0 < rabs x := by unfold rabs; grind
theorem rabs_neg (x : Rat) : rabs (-x) = rabs x := by unfold rabs; grind
theorem rabs_mul (X Y : Rat) : rabs (X * Y) = rabs X * rabs Y := by
  unfold rabs
  by_cases c1 : X < 0 <;> by_cases c2 : Y < 0
  · have := Rat.mul_pos (show 0 < -X by grind) (show 0 < -Y by grind)
    rw [if_pos c1, if_pos c2, if_neg (by grind)]; grind
  · have := Rat.mul_nonneg (show 0 ≤ -X by grind) (show 0 ≤ Y by grind)
    rw [if_pos c1, if_neg c2]
    by_cases c3 : X * Y < 0
    · rw [if_pos c3]; grind
    · rw [if_neg c3]; grind
  · have := Rat.mul_nonneg (show 0 ≤ X by grind) (show 0 ≤ -Y by grind)
    rw [if_neg c1, if_pos c2]
    by_cases c3 : X * Y < 0
    · rw [if_pos c3]; grind
    · rw [if_neg c3]; grind
  · have := Rat.mul_nonneg (show 0 ≤ X by grind) (show 0 ≤ Y by grind)
    rw [if_neg c1, if_neg c2, if_neg (by grind)]
theorem rabs_val (a : Int) : rabs (val a) = vm (mag a) := (val_abs a).symm

/-- A number, rounded: the pattern and the flags; z: the sign of a zero. -/
structure Rd (x : Rat) (z : Bool) (r f : Int) : Prop where
  zero : x = 0 → r = signed z 0 ∧ f = 0
  num : x ≠ 0 → ∃ m, RB (rabs x) m f ∧ r = signed (decide (x < 0)) m

theorem Rd.unique {x : Rat} {z : Bool} {r f r' f' : Int} (h : Rd x z r f) (h' : Rd x z r' f') : r = r' ∧ f = f' := by
  by_cases hx : x = 0
  · obtain ⟨rfl, rfl⟩ := h.zero hx
    obtain ⟨rfl, rfl⟩ := h'.zero hx
    exact ⟨rfl, rfl⟩
  · obtain ⟨m, h1, rfl⟩ := h.num hx
    obtain ⟨m', h1', rfl⟩ := h'.num hx
    obtain ⟨rfl, rfl⟩ := h1.unique h1'
    exact ⟨rfl, rfl⟩
theorem Rd.range {x : Rat} {z : Bool} {r f : Int} (h : Rd x z r f) : U r ∧ mag r ≤ INF := by
  by_cases hx : x = 0
  · obtain ⟨rfl, _⟩ := h.zero hx
    exact ⟨U_signed (by decide) (by decide), by rw [mag_signed (by decide) (by decide)]; decide⟩
  · obtain ⟨m, h1, rfl⟩ := h.num hx
    have := h1.range
    have hI : INF < 9223372036854775808 := by decide
    exact ⟨U_signed this.1 (by omega), by rw [mag_signed this.1 (by omega)]; exact this.2⟩
theorem Rd.sign {x : Rat} {z : Bool} {r f : Int} (h : Rd x z r f) : neg r = if x = 0 then z else decide (x < 0) := by
  by_cases hx : x = 0
  · obtain ⟨rfl, _⟩ := h.zero hx
    rw [if_pos hx, neg_signed (by decide) (by decide)]
  · obtain ⟨m, h1, rfl⟩ := h.num hx
    have := h1.range
    have hI : INF < 9223372036854775808 := by decide
    rw [if_neg hx, neg_signed this.1 (by omega)]
/-- A number that is a pattern's is rounded to it, if it isn't zero. -/
theorem Rd.self {a : Int} (ha : U a) (hf : fin a) (h0 : mag a ≠ 0) (z : Bool) : Rd (val a) z a 0 := by
  have hv : val a ≠ 0 := fun h => h0 (val_zero_iff.mp h)
  have hm := (mag_lt (a := a)).1
  refine ⟨fun h => absurd h hv, fun _ => ⟨mag a, ?_, ?_⟩⟩
  · rw [rabs_val]; exact RB.self (by omega) hf
  · have e : decide (val a < 0) = neg a := by
      have := vm_pos (m := mag a) (by omega)
      unfold val
      cases neg a <;> simp <;> grind
    rw [e, signed_eta ha]
theorem Rd.neg_ {x : Rat} {z : Bool} {r f : Int} (h : Rd x z r f) : Rd (-x) (!z) (flip r) f := by
  have hr := h.range
  refine ⟨fun hx => ?_, fun hx => ?_⟩
  · obtain ⟨e, hf⟩ := h.zero (by grind)
    subst e
    refine ⟨?_, hf⟩
    cases z <;> decide
  · have hx' : x ≠ 0 := by grind
    obtain ⟨m, h1, e⟩ := h.num hx'
    refine ⟨m, by rw [rabs_neg]; exact h1, ?_⟩
    have hm := h1.range
    have hI : INF < 9223372036854775808 := by decide
    refine ext_sm (U_flip hr.1) (U_signed hm.1 (by omega)) ?_ ?_
    · rw [neg_flip hr.1, e, neg_signed hm.1 (by omega), neg_signed hm.1 (by omega)]
      have : (x < 0) ↔ ¬ (-x < 0) := by constructor <;> intro h <;> grind
      by_cases c : x < 0
      · rw [decide_eq_true c, decide_eq_false (this.mp c)]; rfl
      · rw [decide_eq_false c, decide_eq_true (Decidable.byContradiction fun h => c (this.mpr h))]; rfl
    · rw [mag_flip hr.1, e, mag_signed hm.1 (by omega), mag_signed hm.1 (by omega)]
/-- Where nothing was lost, the pattern is the number. -/
theorem Rd.exact {x : Rat} {z : Bool} {r : Int} (h : Rd x z r 0) : val r = x ∧ fin r := by
  have hI : INF < 9223372036854775808 := by decide
  by_cases hx : x = 0
  · obtain ⟨rfl, _⟩ := h.zero hx
    refine ⟨?_, ?_⟩
    · rw [val_signed (by decide) (by decide), vm_zero, hx]; cases z <;> simp
    · unfold fin; rw [mag_signed (by decide) (by decide)]; decide
  · obtain ⟨m, h1, rfl⟩ := h.num hx
    have hr := h1.range
    obtain ⟨q, n, hq, e1, e2⟩ := h1.ex
    by_cases c : enc q n < INF
    · rw [if_pos c] at e1 e2
      have e3 : rabs x = (n : Rat) * pw q := by
        by_cases c2 : rabs x = (n : Rat) * pw q
        · exact c2
        · rw [if_neg c2] at e2; split at e2 <;> omega
      subst e1
      refine ⟨?_, ?_⟩
      · rw [val_signed hr.1 (by omega), hq.val_enc, ← e3]
        unfold rabs
        by_cases c3 : x < 0
        · simp [c3]
        · simp [c3]
      · unfold fin; rw [mag_signed hr.1 (by omega)]; exact c
    · rw [if_neg c] at e2; omega
/-- And the other way. -/
theorem Rd.of_exact {x : Rat} {z : Bool} {r f : Int} (h : Rd x z r f) {a : Int} (ha : U a) (hf : fin a) (he : val a = x) : f = 0 ∧ (x ≠ 0 → r = a) := by
  by_cases hx : x = 0
  · exact ⟨(h.zero hx).2, fun h => absurd hx h⟩
  · subst he
    have := h.unique (Rd.self ha hf (fun h => hx (val_zero_iff.mpr h)) z)
    exact ⟨this.2, fun _ => this.1⟩
end Gim

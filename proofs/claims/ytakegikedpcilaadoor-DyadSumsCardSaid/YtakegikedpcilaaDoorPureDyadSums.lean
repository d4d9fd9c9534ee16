/- DyadSums: sums, differences and products of exact numbers are those of lists of bits; for every input. -/
import Derived.Test.YtakegikedpcilaaDoorTDyF
import Derived.Test.YtakegikedpcilaaDoorTRefP
import Derived.Test.YtakegikedpcilaaDoorFx9
import Derived.Test.YtakegikedpcilaaDoorFx17
import Derived.Test.YtakegikedpcilaaDoorFx18
namespace Go.Proofs.YtakegikedpcilaaDoor.Pure
open Gim Go Go.RowKit Go.Proofs.YtakegikedpcilaaDoorW.PrintWords Go.Proofs.YtakegikedpcilaaDoorW.PrintLast Go.Proofs.YtakegikedpcilaaDoorW.PrintMore Go.Proofs.YtakegikedpcilaaDoor.F
set_option linter.unusedVariables false

theorem head_ok : gimballaw07_head.f 300 = some true := by decide +kernel
theorem head_ev : Ev (fun k => gimballaw07_head.f k) true := Ev.of (fun k => gimballaw07_head.mono k) head_ok
/-- A pattern with an exponent near that of 1. -/
def sml (a : Int) : Int := Go.bits .or .u64 (Go.bits .andNot .u64 a 9218868437227405312) (IntKind.u64.wrap ((IntKind.u64.wrap (1000 + (Go.bits .and .u64 (a / 4503599627370496) 31))) * 4503599627370496))
theorem wrap_U (x : Int) : U (IntKind.u64.wrap x) := by rw [wu64_mod]; exact ⟨by omega, by omega⟩
theorem sml_U (a : Int) : U (sml a) := by unfold sml Go.bits; exact wrap_U _
theorem sml_exp {a : Int} (h : U a) : ∃ q : Nat, q < 32 ∧ sml a / 4503599627370496 % 2048 = 1000 + (q : Int) := by
  obtain ⟨h0, h1⟩ := h
  obtain ⟨x, rfl⟩ := Int.eq_ofNat_of_zero_le h0
  have hq : Go.bits .and .u64 ((x : Int) / 4503599627370496) 31 = (x : Int) / 4503599627370496 % 32 := Gim.u64_and 5 (by decide) (by omega) (by omega)
  refine ⟨x / 4503599627370496 % 32, Nat.mod_lt _ (by decide), ?_⟩
  unfold sml
  rw [hq, wu64 (x := 1000 + (x : Int) / 4503599627370496 % 32) (by omega) (by omega), wu64 (x := (1000 + (x : Int) / 4503599627370496 % 32) * 4503599627370496) (by omega) (by omega)]
  have e1 : Go.bits .andNot .u64 (x : Int) 9218868437227405312 = ((x &&& 9227875636482146303 : Nat) : Int) := by
    have e0 : Go.bits .andNot .u64 (x : Int) 9218868437227405312 = IntKind.u64.wrap ((BitVec.ofInt 64 (x : Int) &&& ~~~ (BitVec.ofInt 64 9218868437227405312)).toNat : Int) := rfl
    have e2 : ~~~ (BitVec.ofInt 64 9218868437227405312) = BitVec.ofNat 64 9227875636482146303 := by decide
    rw [e0, e2, BitVec.toNat_and, BitVec.ofInt_natCast, BitVec.toNat_ofNat, BitVec.toNat_ofNat, Nat.mod_eq_of_lt (by omega), Nat.mod_eq_of_lt (by decide)]
    have := Nat.and_le_left (n := x) (m := 9227875636482146303)
    exact wu64 (by omega) (by omega)
  have e3 : (1000 + (x : Int) / 4503599627370496 % 32) * 4503599627370496 = (((1000 + x / 4503599627370496 % 32) * 4503599627370496 : Nat) : Int) := by
    omega
  have hE : (1000 + x / 4503599627370496 % 32) * 4503599627370496 < 18446744073709551616 := by omega
  have hB := Nat.and_le_left (n := x) (m := 9227875636482146303)
  rw [e1, e3]
  generalize hF : (1000 + x / 4503599627370496 % 32) = F at *
  have hF2 : F < 2048 := by omega
  have e4 : Go.bits .or .u64 ((x &&& 9227875636482146303 : Nat) : Int) ((F * 4503599627370496 : Nat) : Int) = (((x &&& 9227875636482146303) ||| (F * 4503599627370496) : Nat) : Int) := by
    have e0 : Go.bits .or .u64 ((x &&& 9227875636482146303 : Nat) : Int) ((F * 4503599627370496 : Nat) : Int) = IntKind.u64.wrap ((BitVec.ofInt 64 ((x &&& 9227875636482146303 : Nat) : Int) ||| BitVec.ofInt 64 ((F * 4503599627370496 : Nat) : Int)).toNat : Int) := rfl
    rw [e0, BitVec.toNat_or, BitVec.ofInt_natCast, BitVec.ofInt_natCast, BitVec.toNat_ofNat, BitVec.toNat_ofNat, Nat.mod_eq_of_lt (by omega), Nat.mod_eq_of_lt (by omega)]
    have h2 : (x &&& 9227875636482146303) ||| (F * 4503599627370496) < 2 ^ 64 := Nat.or_lt_two_pow (by omega) (by omega)
    exact wu64 (by omega) (by omega)
  rw [e4]
  have e5 : ((x &&& 9227875636482146303) ||| (F * 4503599627370496)) / 4503599627370496 % 2048 = F := by
    have s1 : ∀ z : Nat, z / 4503599627370496 = z >>> 52 := fun z => (Nat.shiftRight_eq_div_pow z 52).symm
    have s2 : ∀ z : Nat, z % 2048 = z % 2 ^ 11 := fun z => rfl
    rw [s1, s2, Nat.shiftRight_or_distrib, Nat.shiftRight_and_distrib, Nat.or_mod_two_pow, Nat.and_mod_two_pow]
    have s3 : (9227875636482146303 >>> 52) % 2 ^ 11 = 0 := by decide
    have s4 : (F * 4503599627370496) >>> 52 = F := by rw [Nat.shiftRight_eq_div_pow]; exact Nat.mul_div_cancel _ (by decide)
    rw [s3, s4, Nat.and_zero, Nat.zero_or, Nat.mod_eq_of_lt hF2]
  have e6 : ((((x &&& 9227875636482146303) ||| (F * 4503599627370496)) / 4503599627370496 % 2048 : Nat) : Int) = (F : Int) := by rw [e5]
  rw [Int.natCast_emod, Int.natCast_ediv] at e6
  have e7 : ((4503599627370496 : Nat) : Int) = 4503599627370496 := rfl
  have e8 : ((2048 : Nat) : Int) = 2048 := rfl
  rw [e7, e8] at e6
  rw [e6]
  omega
theorem two_bl (i : Nat) : ((2 ^ i : Int) : Rat) = pw i := (pw_nat i).symm

section
variable {E : Int} (hE0 : 0 ≤ E) (hE : E ≤ 3000) {x : Rat} {n : Bool} {m : List Int} {e : Int} (nm : Nm E x n m e) {w : Bool} {M : List Int} (hM : Bits M) (lM : M.length ≤ 500) {q : Int} (q0 : -500 ≤ q) (q1 : q ≤ 500) {G : Int} (hG : G = 1500)
include hE0 hE nm hM lM q0 q1 hG
theorem is_l0 (hx : x = (sgd w (bv M) : Rat) * pw q) : ∀ t i : Nat, M.length - i = t → i ≤ M.length → ∀ r l f, Nm G ((bv (M.take i) : Rat) * pw q) r l f →
    Ev (fun K => gimballaw07_is.l0 K M M.length i n m e w M q r l f) true := by
  intro t
  induction t with
  | zero =>
    intro i h1 h2 r l f hy
    obtain rfl : i = M.length := by omega
    rw [List.take_length] at hy
    refine Ev.succ ?_
    simp only [gimballaw07_is.l0]
    refine Ev.neg (by omega) ?_
    have fin : ∀ {r : Bool} {l : List Int} {f : Int}, Nm G x r l f → ∃ r2 l2 f2, Ev (fun K => dyad_Num_Same.f K n m e r l f) true ∧ Ev (fun K => dyad_Num_Sub.f K n m e r l f) (r2, l2, f2) ∧ dyad_Num_Sign.f r2 l2 f2 = some 0 := by
      intro r l f hy
      have hs := same_ev (by omega) (by omega) nm hy
      rw [decide_eq_true rfl] at hs
      obtain ⟨r2, l2, f2, ev, nm2⟩ := num_sub_ev (E := max E G) (by omega) (by omega) (nm.mono (by omega)) (hy.mono (by omega))
      refine ⟨r2, l2, f2, hs, ev, ?_⟩
      rw [sign_eq nm2]
      have : x - x = 0 := by grind
      unfold rsgn; rw [if_pos this]
    cases w
    · have : (bv M : Rat) * pw q = x := by rw [hx]; rfl
      rw [this] at hy
      obtain ⟨r2, l2, f2, k1, k2, k3⟩ := fin hy
      exact Ev.neg (by decide) (Ev.bind k1 (Ev.pos rfl (Ev.bind k2 (Ev.call k3 (Ev.now _)))))
    · obtain ⟨r', e1, hy'⟩ := neg_ev hy
      have : -((bv M : Rat) * pw q) = x := by rw [hx]; unfold sgd; simp; grind
      rw [this] at hy'
      obtain ⟨r2, l2, f2, k1, k2, k3⟩ := fin hy'
      exact Ev.pos rfl (Ev.call e1 (Ev.bind k1 (Ev.pos rfl (Ev.bind k2 (Ev.call k3 (Ev.now _))))))
  | succ t ih =>
    intro i h1 h2 r l f hy
    have hi : i < M.length := by omega
    have hb := bv_take_succ hi
    refine Ev.succ ?_
    simp only [gimballaw07_is.l0]
    refine Ev.pos (by omega) (Ev.pos (by omega) (Ev.pos (by omega) ?_))
    rw [w64 (x := (i : Int) + 1) (by omega) (by omega)]
    have hbit : rd M i = 0 ∨ rd M i = 1 := by rw [rd_nat hi]; exact hM _ (List.getElem_mem hi)
    by_cases c : rd M i = 1
    · rw [c, Int.mul_one] at hb
      rw [w64 (x := q + (i : Int)) (by omega) (by omega)]
      obtain ⟨t1, t2⟩ := two_ev (E := G) (a := q + i) (by omega) (by omega) (by omega) (by omega)
      obtain ⟨r1, l1, f1, ev, nm1⟩ := num_add_ev (by omega) (by omega) hy t2
      have hv : (bv (M.take i) : Rat) * pw q + pw (q + i) = (bv (M.take (i + 1)) : Rat) * pw q := by
        rw [hb, pw_addNat]; push_cast; grind
      rw [hv] at nm1
      have hB := bv_lt (l := M.take (i + 1)) (fun y hy => hM y (List.mem_of_mem_take hy))
      have hB0 := bv_nonneg (l := M.take (i + 1)) (fun y hy => hM y (List.mem_of_mem_take hy))
      have hle : (bv (M.take (i + 1)) : Rat) * pw q ≤ pw G := by
        have h3 : ((bv (M.take (i + 1)) : Int) : Rat) * pw q ≤ ((2 ^ (M.take (i + 1)).length : Int) : Rat) * pw q := mul_pw_le.mpr (Int.le_of_lt hB)
        rw [two_bl, ← pw_add] at h3
        exact Rat.le_trans h3 (pw_mono (by have : (M.take (i + 1)).length ≤ 500 := by rw [List.length_take]; omega
                                           omega))
      have hnn : 0 ≤ (bv (M.take (i + 1)) : Rat) * pw q := Rat.mul_nonneg (by exact_mod_cast hB0) (Rat.le_of_lt (pw_pos q))
      have nm2 : Nm G ((bv (M.take (i + 1)) : Rat) * pw q) r1 l1 f1 := by
        refine nm1.fit (k := bv (M.take (i + 1)) * p2 (q + G)) (by omega) ?_ hle ?_
        · have : pw q = ((p2 (q + G) : Int) : Rat) * pw (-G) := by rw [← pw_p2 (by omega), ← pw_add]; congr 1; omega
          generalize pw (-G) = P at *
          rw [this]; push_cast; grind
        · have := pw_pos 1500
          generalize pw G = P at *
          grind
      exact Ev.pos c (Ev.call t1 (Ev.bind ev (ih (i + 1) (by omega) (by omega) _ _ _ nm2)))
    · have c0 : rd M i = 0 := hbit.resolve_right c
      rw [c0, Int.mul_zero, Int.add_zero] at hb
      rw [← hb] at hy
      exact Ev.neg c (ih (i + 1) (by omega) (by omega) _ _ _ hy)
theorem is_ev (hx : x = (sgd w (bv M) : Rat) * pw q) : Ev (fun K => gimballaw07_is.f K n m e w M q) true := by
  unfold gimballaw07_is.f
  refine is_l0 hE0 hE nm hM lM q0 q1 hG hx _ 0 rfl (by omega) false [] 0 ?_
  have : (bv (M.take 0) : Rat) * pw q = 0 := by simp [bv]
  rw [this]
  exact Nm.zero (by omega)
end
/-- A number as lists of bits. -/
structure Num (x : Rat) (w : Bool) (M : List Int) (q : Int) (B : Nat) : Prop where
  bits : Bits M
  val : x = (sgd w (bv M) : Rat) * pw q
  len : M.length ≤ B
theorem at_ev {w : Bool} {M : List Int} {q d : Int} (hM : Bits M) (lM : M.length ≤ 100) (h : d ≤ q) (h2 : q - d ≤ 100) (hq : -200 ≤ q ∧ q ≤ 200) :
    Ev (fun K => gimballaw07_num_at.f K w M q d) (bl (bv M * p2 (q - d))) ∧ (bl (bv M * p2 (q - d))).length ≤ 200 ∧ 0 ≤ bv M * p2 (q - d) ∧ (bv M : Rat) * pw q = ((bv M * p2 (q - d) : Int) : Rat) * pw d := by
  have h0 := bv_nonneg hM
  have hP := p2_pos (q - d)
  have h1 : 0 ≤ bv M * p2 (q - d) := Int.mul_nonneg h0 (Int.le_of_lt hP)
  refine ⟨?_, ?_, h1, ?_⟩
  · unfold gimballaw07_num_at.f
    rw [w64 (by omega) (by omega)]
    exact Ev.bind (ref_up hM (by omega) (by omega)) (Ev.now _)
  · have hb := bl_length h1
    have hlt : bv M * p2 (q - d) < p2 200 := by
      have h3 := bv_lt hM
      have h4 : (2 : Int) ^ M.length = p2 (M.length : Int) := by unfold p2; rw [Int.toNat_natCast]
      rw [h4] at h3
      have h5 := p2_le (show (M.length : Int) ≤ 100 by omega)
      have h6 := p2_le (show q - d ≤ 100 by omega)
      have h7 := mul_lt2 (Int.lt_of_lt_of_le h3 h5) (show p2 (q - d) < p2 100 + 1 by omega) h0 (Int.le_of_lt hP)
      refine Int.lt_of_le_of_lt (Int.mul_le_mul (Int.le_sub_one_of_lt (Int.lt_of_lt_of_le h3 h5)) h6 (Int.le_of_lt hP) (by have := p2_pos 100; omega)) ?_
      decide
    have := blen_le (L := 200) (by decide) hlt
    omega
  · have : pw q = ((p2 (q - d) : Int) : Rat) * pw d := by rw [← pw_p2 (by omega), ← pw_add]; congr 1; omega
    rw [this]; push_cast; grind
theorem add_num {x y : Rat} {w v : Bool} {M N : List Int} {q p : Int} (a : Num x w M q 100) (b : Num y v N p 100) (hq : -100 ≤ q ∧ q ≤ -20) (hp : -100 ≤ p ∧ p ≤ -20) :
    ∃ u R d, Ev (fun K => gimballaw07_add.f K w M q v N p) (u, R, d) ∧ Num (x + y) u R d 300 ∧ -100 ≤ d ∧ d ≤ -20 := by
  have hmn : mn q p ≤ q ∧ mn q p ≤ p ∧ -100 ≤ mn q p ∧ mn q p ≤ -20 := by unfold mn; split <;> omega
  obtain ⟨d, hd⟩ : ∃ d, d = mn q p := ⟨_, rfl⟩
  rw [← hd] at hmn
  obtain ⟨a1, a2, a3, a4⟩ := at_ev (w := w) a.bits a.len hmn.1 (by omega) (by omega)
  obtain ⟨b1, b2, b3, b4⟩ := at_ev (w := v) b.bits b.len hmn.2.1 (by omega) (by omega)
  generalize hX : bv M * p2 (q - d) = X at *
  generalize hY : bv N * p2 (p - d) = Y at *
  have hx : x = (sgd w X : Rat) * pw d := by
    rw [a.val]
    have : (sgd w (bv M) : Rat) * pw q = if w then -((bv M : Rat) * pw q) else (bv M : Rat) * pw q := by unfold sgd; cases w <;> simp; grind
    rw [this, a4]; unfold sgd; cases w <;> simp; grind
  have hy : y = (sgd v Y : Rat) * pw d := by
    rw [b.val]
    have : (sgd v (bv N) : Rat) * pw p = if v then -((bv N : Rat) * pw p) else (bv N : Rat) * pw p := by unfold sgd; cases v <;> simp; grind
    rw [this, b4]; unfold sgd; cases v <;> simp; grind
  have lX := bl_length a3
  have lY := bl_length b3
  have key : ∀ {u : Bool} {Z : Int}, 0 ≤ Z → Z ≤ X + Y → sgd u Z = sgd w X + sgd v Y → Num (x + y) u (bl Z) d 300 := by
    intro u Z h0 h1 h2
    refine ⟨bl_bits _, ?_, ?_⟩
    · rw [bv_bl h0, h2, hx, hy]; push_cast; grind
    · have := bl_length h0
      have hm := blen_le (x := Z) (L := 201) (by decide) (by
        have h3 : X < p2 200 := by
          by_cases c : 0 < X
          · exact Int.lt_of_lt_of_le (blen_pos c).2.2 (p2_le (by omega))
          · have := p2_pos 200; omega
        have h4 : Y < p2 200 := by
          by_cases c : 0 < Y
          · exact Int.lt_of_lt_of_le (blen_pos c).2.2 (p2_le (by omega))
          · have := p2_pos 200; omega
        have h5 : p2 201 = 2 * p2 200 := p2_succ (a := 200) (by decide)
        omega)
      omega
  by_cases hs : w = v
  · subst hs
    have ev := ref_add (a := bl X) (b := bl Y) (bl_bits _) (bl_bits _) (by omega) (by omega)
    rw [bv_bl a3, bv_bl b3] at ev
    refine ⟨w, bl (X + Y), d, ?_, key (by omega) (Int.le_refl _) (by unfold sgd; cases w <;> simp; omega), by omega, by omega⟩
    unfold gimballaw07_add.f
    rw [← hd]
    exact Ev.bind a1 (Ev.bind b1 (Ev.pos (by simp) (Ev.bind ev (Ev.now _))))
  · have hb : ¬ ((w == v) = true) := by simpa using hs
    have cv := ref_cmp (a := bl X) (b := bl Y) (bl_bits _) (bl_bits _) (by omega) (by omega)
    rw [bv_bl a3, bv_bl b3] at cv
    by_cases c : X - Y < 0
    · have ev := ref_sub (a := bl Y) (b := bl X) (bl_bits _) (bl_bits _) (by omega) (by rw [bv_bl a3, bv_bl b3]; omega)
      rw [bv_bl a3, bv_bl b3] at ev
      refine ⟨v, bl (Y - X), d, ?_, key (by omega) (by omega) (by revert hs; unfold sgd; cases w <;> cases v <;> simp <;> omega), by omega, by omega⟩
      unfold gimballaw07_add.f
      rw [← hd]
      exact Ev.bind a1 (Ev.bind b1 (Ev.neg hb (Ev.bind cv (Ev.pos (by unfold sgn; rw [if_pos c]; decide) (Ev.bind ev (Ev.now _))))))
    · have ev := ref_sub (a := bl X) (b := bl Y) (bl_bits _) (bl_bits _) (by omega) (by rw [bv_bl a3, bv_bl b3]; omega)
      rw [bv_bl a3, bv_bl b3] at ev
      refine ⟨w, bl (X - Y), d, ?_, key (by omega) (by omega) (by revert hs; unfold sgd; cases w <;> cases v <;> simp <;> omega), by omega, by omega⟩
      unfold gimballaw07_add.f
      rw [← hd]
      exact Ev.bind a1 (Ev.bind b1 (Ev.neg hb (Ev.bind cv (Ev.neg (by unfold sgn; rw [if_neg c]; split <;> decide) (Ev.bind ev (Ev.now _))))))
theorem mul_num {x y : Rat} {w v : Bool} {M N : List Int} {q p : Int} (a : Num x w M q 100) (b : Num y v N p 100) (hq : -100 ≤ q ∧ q ≤ -20) (hp : -100 ≤ p ∧ p ≤ -20) :
    ∃ u R d, Ev (fun K => gimballaw07_mul.f K w M q v N p) (u, R, d) ∧ Num (x * y) u R d 300 ∧ -200 ≤ d ∧ d ≤ -20 := by
  have h0 := bv_nonneg a.bits
  have h1 := bv_nonneg b.bits
  have h2 := Int.mul_nonneg h0 h1
  refine ⟨w != v, bl (bv M * bv N), q + p, ?_, ⟨bl_bits _, ?_, ?_⟩, by omega, by omega⟩
  · unfold gimballaw07_mul.f
    rw [w64 (by omega) (by omega)]
    exact Ev.bind (ref_mul a.bits b.bits (by have := a.len; omega) (by have := b.len; omega)) (Ev.now _)
  · rw [bv_bl h2, a.val, b.val, ← sgd_mul, pw_add]; push_cast; grind
  · have := bl_length h2
    have hlt : bv M * bv N < p2 200 := by
      have pos : ∀ {L : List Int}, Bits L → L.length ≤ 100 → bv L < p2 100 := by
        intro L hL hl
        have h3 := bv_lt hL
        have h4 : (2 : Int) ^ L.length = p2 (L.length : Int) := by unfold p2; rw [Int.toNat_natCast]
        rw [h4] at h3
        exact Int.lt_of_lt_of_le h3 (p2_le (by omega))
      have h5 := mul_lt2 (pos a.bits a.len) (pos b.bits b.len) h0 h1
      rwa [← p2_add (by decide) (by decide)] at h5
    have := blen_le (L := 200) (by decide) hlt
    omega
theorem DyadSums : gimballaw07_DyadSums.Pure := by
  intro a b wa wb
  have ua := sml_U a
  have ub := sml_U b
  obtain ⟨qa, qa1, qa2⟩ := sml_exp (U_of_wf wa)
  obtain ⟨qb, qb1, qb2⟩ := sml_exp (U_of_wf wb)
  apply Ev.rounds
  unfold gimballaw07_DyadSums.f
  refine Ev.bind head_ev (Ev.pos rfl (Ev.call (show gimballaw07_small.f a = some (sml a) from rfl) (Ev.call (show gimballaw07_small.f b = some (sml b) from rfl) ?_)))
  have parts : ∀ {c : Int} {q : Nat}, U c → q < 32 → c / 4503599627370496 % 2048 = 1000 + (q : Int) → fin c ∧ 0 < mag c ∧ expo (mag c) = (q : Int) - 75 := by
    intro c q hc h1 h2
    obtain ⟨h3, h4⟩ := hc
    refine ⟨?_, ?_, ?_⟩
    · unfold fin mag INF; omega
    · unfold mag; omega
    · unfold expo mag; split <;> omega
  obtain ⟨fa, ma, ea⟩ := parts ua qa1 qa2
  obtain ⟨fb, mb, eb⟩ := parts ub qb1 qb2
  generalize sml a = A at *
  generalize sml b = B at *
  have num : ∀ {C : Int}, Num (val C) (Gim.neg C) (bl (mant (mag C))) (expo (mag C)) 100 := by
    intro C
    have uM := mant_U C
    have := bl_length uM.1
    have := mant_blen C
    exact ⟨bl_bits _, by rw [bv_bl uM.1]; exact val_mant C, by omega⟩
  have nA := num (C := A)
  have nB := num (C := B)
  have nB' : Num (-val B) (!Gim.neg B) (bl (mant (mag B))) (expo (mag B)) 100 := by
    refine ⟨nB.bits, ?_, nB.len⟩
    rw [nB.val]; unfold sgd; cases Gim.neg B <;> simp <;> grind
  have bA := nA.bits
  obtain ⟨r, l, f, ev1, nm1⟩ := law_of_ev rfl ua fa
  obtain ⟨r', l', f', ev2, nm2⟩ := law_of_ev rfl ub fb
  obtain ⟨s1, s2, s3, ev3, nm3⟩ := num_add_ev (by decide) (by decide) nm1 nm2
  obtain ⟨d1, d2, d3, ev4, nm4⟩ := num_sub_ev (by decide) (by decide) nm1 nm2
  obtain ⟨p1, p2_, p3, ev5, nm5⟩ := num_mul_ev (by decide) (by decide) (by decide) (by decide) nm1 nm2
  obtain ⟨u1, R1, e1, ev6, N1, n11, n12⟩ := add_num nA nB ⟨by omega, by omega⟩ ⟨by omega, by omega⟩
  obtain ⟨u2, R2, e2, ev7, N2, n21, n22⟩ := add_num nA nB' ⟨by omega, by omega⟩ ⟨by omega, by omega⟩
  obtain ⟨u3, R3, e3, ev8, N3, n31, n32⟩ := mul_num nA nB ⟨by omega, by omega⟩ ⟨by omega, by omega⟩
  rw [← Rat.sub_eq_add_neg] at N2
  have i0 := is_ev (by decide) (by decide) nm1 nA.bits (by have := nA.len; omega) (by omega) (by omega) rfl nA.val
  have i1 := is_ev (by decide) (by decide) nm3 N1.bits (by have := N1.len; omega) (by omega) (by omega) rfl N1.val
  have i2 := is_ev (by decide) (by decide) nm4 N2.bits (by have := N2.len; omega) (by omega) (by omega) rfl N2.val
  have i3 := is_ev (by decide) (by decide) nm5 N3.bits (by have := N3.len; omega) (by omega) (by omega) rfl N3.val
  refine Ev.call (word_Neg_eq ua) (Ev.call (word_Neg_eq ub) (Ev.bind (word_Parts_ev ua ma fa) (Ev.bind (ref_of (mant_U A)) (Ev.bind (word_Parts_ev ub mb fb) (Ev.bind (ref_of (mant_U B)) ?_)))))
  refine Ev.bind ev1 (Ev.bind i0 (Ev.pos rfl (Ev.bind ev1 (Ev.bind ev2 (Ev.bind ev3 (Ev.bind ev6 (Ev.bind i1 (Ev.pos rfl ?_))))))))
  refine Ev.bind ev1 (Ev.bind ev2 (Ev.bind ev4 (Ev.bind ev7 (Ev.bind i2 (Ev.pos rfl (Ev.bind ev1 (Ev.bind ev2 (Ev.bind ev5 (Ev.bind ev8 (Ev.bind i3 (Ev.succ ?_)))))))))))
  simp only [gimballaw07_DyadSums.j0]
  exact Ev.now _
end Go.Proofs.YtakegikedpcilaaDoor.Pure

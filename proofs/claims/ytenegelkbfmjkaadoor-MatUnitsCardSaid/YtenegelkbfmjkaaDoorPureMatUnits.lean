/- MatUnits: a matrix divided by a power of two so that its greatest number is near 1; the sum of its squares; for every input. -/
import Derived.Test.YtenegelkbfmjkaaDoorTSqr
import Derived.Test.YtenegelkbfmjkaaDoorTScl
import Derived.Test.YtenegelkbfmjkaaDoorTMade
import Derived.Test.YtenegelkbfmjkaaDoorTDyF
import Derived.Test.YtenegelkbfmjkaaDoorFx5
import Derived.Test.YtenegelkbfmjkaaDoorFx13
namespace Go.Proofs.YtenegelkbfmjkaaDoor.Pure
open Gim Go Go.RowKit Go.Proofs.YtenegelkbfmjkaaDoor.F Go.Proofs.YtenegelkbfmjkaaDoorW.PrintWords Go.Proofs.YtenegelkbfmjkaaDoorW.PrintLast
set_option linter.unusedVariables false
set_option linter.unusedSectionVars false

theorem head_ok : gimballaw09_head.f 200 = some true := by decide +kernel
theorem head_ev : Ev (fun k => gimballaw09_head.f k) true := Ev.of (fun k => gimballaw09_head.mono k) head_ok
theorem mx_le {a b : Int} : a ≤ mx a b ∧ b ≤ mx a b ∧ (mx a b = a ∨ mx a b = b) := by unfold mx; split <;> omega
theorem fin_ev {c : Bool} {g : Nat → Option Bool} (h : Ev g c) (hc : c = true) : Ev g true := hc ▸ h
theorem same_true {E E' : Int} {x y : Rat} {n n' : Bool} {m m' : List Int} {e e' : Int} (hE0 : 0 ≤ E) (hE : E ≤ 1000000) (a : Nm E x n m e) (b : Nm E' y n' m' e') (h : x = y) : Ev (fun K => dyad_Num_Same.f K n m e n' m' e') true :=
  fin_ev (Gim.same_ev hE0 hE a b) (decide_eq_true h)

section
variable {R C : Nat} {s : Int} {d : List Int} (hR : R ≤ 100) (hC : C ≤ 100) (hs : s ≤ 1099511627776) (hu : ∀ x ∈ d, U x)
include hR hC hs hu
/-- So many places lie before. -/
def bef (i k j l : Nat) : Prop := j < i ∨ (j = i ∧ l < k)
/-- The greatest magnitude. -/
structure Most (R C : Nat) (s : Int) (d : List Int) (i k : Nat) (M : Int) : Prop where
  ge : ∀ j l : Nat, bef i k j l → j < R → l < C → mag (at4 R C s d j l) ≤ M
  at_ : M = 0 ∨ ∃ j l : Nat, j < R ∧ l < C ∧ M = mag (at4 R C s d j l)
  nn : 0 ≤ M
theorem Most.step {i k : Nat} {M : Int} (h : Most R C s d i k M) (hi : i < R) (hk : k < C) : Most R C s d i (k + 1) (mx M (mag (at4 R C s d i k))) := by
  obtain ⟨m1, m2, m3⟩ := mx_le (a := M) (b := mag (at4 R C s d i k))
  have hn := h.nn
  refine ⟨fun j l hb hj hl => ?_, ?_, by omega⟩
  · by_cases e : j = i ∧ l = k
    · rw [e.1, e.2]; exact m2
    · refine Int.le_trans (h.ge j l ?_ hj hl) m1
      unfold bef at hb ⊢; omega
  · rcases m3 with m3 | m3
    · rw [m3]; exact h.at_
    · exact .inr ⟨i, k, hi, hk, m3⟩
theorem Most.row {i : Nat} {M : Int} (h : Most R C s d i C M) : Most R C s d (i + 1) 0 M :=
  ⟨fun j l hb hj hl => h.ge j l (by unfold bef at hb ⊢; omega) hj hl, h.at_, h.nn⟩
abbrev Rs := Int × Int × Int × List Int × Int
theorem unit_l1 {Q : Rs → Prop} {i : Nat} (hi : i < R) (next : ∀ M, Most R C s d (i + 1) 0 M → ∃ ρ, Ev (fun K => mat_Matrix_Unit.l0 K M R ((i + 1 : Nat) : Int) R C s d) ρ ∧ Q ρ) :
    ∀ t k : Nat, C - k = t → k ≤ C → ∀ M, Most R C s d i k M → ∃ ρ, Ev (fun K => mat_Matrix_Unit.l1 K M i R i C k R C s d) ρ ∧ Q ρ := by
  intro t
  induction t with
  | zero =>
    intro k h1 h2 M hM
    obtain rfl : k = C := by omega
    obtain ⟨ρ, ev, q⟩ := next M (Most.row hR hC hs hu hM)
    refine ⟨ρ, Ev.succ ?_, q⟩
    simp only [mat_Matrix_Unit.l1]
    rw [w64 (x := (i : Int) + 1) (by omega) (by omega)]
    exact Ev.neg (by omega) ev
  | succ t ih =>
    intro k h1 h2 M hM
    obtain ⟨ρ, ev, q⟩ := ih (k + 1) (by omega) (by omega) _ (Most.step hR hC hs hu hM hi (by omega))
    refine ⟨ρ, Ev.succ ?_, q⟩
    simp only [mat_Matrix_Unit.l1]
    rw [w64 (x := (k : Int) + 1) (by omega) (by omega)]
    exact Ev.pos (by omega) (Ev.call (at_eq ⟨by omega, by omega, by omega⟩ _ _ _) (Ev.call (word_Abs_eq (at_U hu _ _)) ev))
theorem unit_l0 {Q : Rs → Prop} (last : ∀ M, Most R C s d R 0 M → ∃ ρ, Ev (fun K => mat_Matrix_Unit.l0 K M R R R C s d) ρ ∧ Q ρ) :
    ∀ t i : Nat, R - i = t → i ≤ R → ∀ M, Most R C s d i 0 M → ∃ ρ, Ev (fun K => mat_Matrix_Unit.l0 K M R i R C s d) ρ ∧ Q ρ := by
  intro t
  induction t with
  | zero =>
    intro i h1 h2 M hM
    obtain rfl : i = R := by omega
    exact last M hM
  | succ t ih =>
    intro i h1 h2 M hM
    obtain ⟨ρ, ev, q⟩ := unit_l1 hR hC hs hu (Q := Q) (i := i) (by omega) (fun M h => ih (i + 1) (by omega) (by omega) M h) C 0 (by omega) (by omega) M hM
    refine ⟨ρ, Ev.succ ?_, q⟩
    simp only [mat_Matrix_Unit.l0]
    exact Ev.pos (by omega) ev
/-- What Unit answers: all numbers times 2^-e, and e. -/
structure Unt (R C : Nat) (s : Int) (d : List Int) (M e : Int) (ρ : Rs) : Prop where
  r : ρ = ((R : Int), (C : Int), (C : Int), ρ.2.2.2.1, e)
  len : ρ.2.2.2.1.length = R * C
  at_ : ∀ i k : Nat, i < R → k < C → at4 R C C ρ.2.2.2.1 i k = (scl (-e) (at4 R C s d i k)).1
  zero : M = 0 → e = 0
  big : 0 < M → pw e ≤ vm M ∧ vm M < pw (e + 1) ∧ -1074 ≤ e ∧ e ≤ 1023
theorem halve {e : Int} (q : Rs) : True := trivial
theorem unit_l2 {M : Int} (hM0 : 0 < M) (hM : M < INF) : ∀ t : Nat, ∀ n e : Int, n.toNat ≤ t → 0 < n → n < 9007199254740992 → (n : Rat) * pw e ≤ vm M → vm M < ((n + 1 : Int) : Rat) * pw e → -1074 ≤ e → e + blen n ≤ 1024 →
    ∃ ρ e', Ev (fun K => mat_Matrix_Unit.l2 K n e R C s d) ρ ∧ Unt R C s d M e' ρ := by
  intro t
  induction t with
  | zero => intro n e h1 h2; omega
  | succ t ih =>
    intro n e h1 h2 h3 h4 h5 h6 h7
    have b1 := blen_pos h2
    by_cases c : n > 1
    · have hb := blen_shift (x := n) (s := 1) (by decide) (by rw [p2_1]; omega)
      rw [p2_1] at hb
      have hp := pw_pos e
      have hs := pw_succ e
      obtain ⟨ρ, e', ev, q⟩ := ih (n / 2) (e + 1) (by omega) (by omega) (by omega) (by
        have : ((2 * (n / 2) : Int) : Rat) * pw e ≤ (n : Rat) * pw e := mul_pw_le.mpr (by omega)
        refine Rat.le_trans ?_ h4
        rw [hs]; push_cast at this; grind) (by
        have : ((n + 1 : Int) : Rat) * pw e ≤ ((2 * (n / 2 + 1) : Int) : Rat) * pw e := mul_pw_le.mpr (by omega)
        rw [hs]; push_cast at this h5 ⊢; grind) (by omega) (by omega)
      refine ⟨ρ, e', Ev.succ ?_, q⟩
      simp only [mat_Matrix_Unit.l2]
      rw [w64 (x := e + 1) (by omega) (by omega)]
      exact Ev.pos c ev
    · obtain rfl : n = 1 := by omega
      have bl1 : blen 1 = 1 := by decide
      have hm := mat_scale_ev hR hC hs hu (n := -e)
      refine ⟨((R : Int), (C : Int), (C : Int), (gat R C (atN R C s d)).map (fun x => (scl (-e) x).1), e), e, Ev.succ ?_, ⟨rfl, ?_, ?_, by omega, fun _ => ⟨?_, ?_, h6, by omega⟩⟩⟩
      · simp only [mat_Matrix_Unit.l2]
        rw [w64 (x := -e) (by omega) (by omega)]
        exact Ev.neg (by omega) (Ev.bind hm (Ev.now _))
      · simp [gat_length]
      · intro i k hi hk
        have hlen : ((gat R C (atN R C s d)).map (fun x => (scl (-e) x).1)).length = R * C := by rw [List.length_map, gat_length]
        show at4 R C C ((gat R C (atN R C s d)).map (fun x => (scl (-e) x).1)) i k = _
        have hp := place_lt hi hk
        rw [at_dense hlen hi hk, rd_map (by rw [gat_length]; exact hp)]
        have := rd_gat (g := atN R C s d) hi hk
        rw [rd_lt (by rw [gat_length]; exact hp)] at this
        rw [this]; rfl
      · rw [← Rat.one_mul (pw e)]; exact h4
      · rw [pw_succ]; push_cast at h5; grind
/-- Unit. -/
theorem unit_ev (hf : ∀ i k : Nat, i < R → k < C → fin (at4 R C s d i k)) : ∃ ρ M e, Ev (fun K => mat_Matrix_Unit.f K R C s d) ρ ∧ Most R C s d R 0 M ∧ Unt R C s d M e ρ := by
  unfold mat_Matrix_Unit.f
  have key := unit_l0 hR hC hs hu (Q := fun ρ => ∃ M e, Most R C s d R 0 M ∧ Unt R C s d M e ρ) (fun M hM => by
    have hlt : M < INF := by
      rcases hM.at_ with h | ⟨j, l, hj, hl, h⟩
      · rw [h]; decide
      · rw [h]; exact hf j l hj hl
    have hI : INF < 9223372036854775808 := by decide
    have hn := hM.nn
    have hU : U M := ⟨hn, by omega⟩
    have hmod : M % 9223372036854775808 = M := by omega
    by_cases h0 : M = 0
    · have hp := word_Parts_none hU (.inl (by omega))
      have hc := clone_ev (R := R) (C := C) (by omega) (by omega) hs d
      refine ⟨((R : Int), (C : Int), (C : Int), gat R C (atN R C s d), 0), Ev.succ ?_, M, 0, hM, ⟨rfl, gat_length, ?_, fun _ => rfl, fun h => by omega⟩⟩
      · simp only [mat_Matrix_Unit.l0]
        exact Ev.neg (by omega) (Ev.bind hp (Ev.pos rfl (Ev.bind hc (Ev.now _))))
      · intro i k hi hk
        show at4 R C C (gat R C (atN R C s d)) i k = _
        rw [at_gat hi hk]
        show at4 R C s d i k = _
        have u := at_U (r := R) (c := C) (s := s) hu i k
        have hm := hM.ge i k (by unfold bef; omega) hi hk
        have hm0 : mag (at4 R C s d i k) = 0 := by have := (mag_lt (a := at4 R C s d i k)).1; omega
        obtain ⟨r, f, ev, sr⟩ := more_Scale_ev u (-0)
        have hd := Ev.det (scl_ev u) ev
        rw [hd]
        unfold ScaleR at sr
        rw [if_neg (by rw [fin_nan (hf i k hi hk)]; decide), if_pos (.inr hm0)] at sr
        exact sr.1.symm
    · have hM0 : 0 < M := by omega
      have hp := word_Parts_ev hU (by omega) (by rw [hmod]; exact hlt)
      rw [hmod] at hp
      have mp := mant_pos hM0
      have ml := mant_lt (m := M)
      have hfin : fin M := by unfold fin mag; rw [hmod]; exact hlt
      obtain ⟨e1, e2⟩ := fin_expo hfin
      have hmag : mag M = M := hmod
      rw [hmag] at e1 e2
      have hb : blen (mant M) ≤ 53 := by have := mant_blen M; rwa [hmag] at this
      have hp2 := pw_pos (expo M)
      obtain ⟨ρ, e', ev, q⟩ := unit_l2 hR hC hs hu hM0 hlt (mant M).toNat (mant M) (expo M) (Nat.le_refl _) mp ml (Rat.le_refl) (by unfold vm; push_cast; grind) e1 (by omega)
      refine ⟨ρ, Ev.succ ?_, M, e', hM, q⟩
      simp only [mat_Matrix_Unit.l0]
      exact Ev.neg (by omega) (Ev.bind hp (Ev.neg (by omega) ev))) R 0 (by omega) (by omega) 0 ⟨fun j l hb _ _ => by unfold bef at hb; omega, .inl rfl, Int.le_refl _⟩
  obtain ⟨ρ, ev, M, e, h1, h2⟩ := key
  exact ⟨ρ, M, e, ev, h1, h2⟩

variable {E : Int} (hE : E = 1074)
include hE
/-- The greatest so far, as an exact number. -/
structure Top_ (R C : Nat) (s : Int) (d : List Int) (i k : Nat) (W : Rat) : Prop where
  ge : ∀ j l : Nat, bef i k j l → j < R → l < C → vm (mag (at4 R C s d j l)) ≤ W
  at_ : W = 0 ∨ ∃ j l : Nat, j < R ∧ l < C ∧ W = vm (mag (at4 R C s d j l))
theorem law_l3 (hf : ∀ i k : Nat, i < R → k < C → fin (at4 R C s d i k)) {e M : Int} {D : List Int} (hD : ∀ i k : Nat, i < R → k < C → at4 R C C D i k = (scl (-e) (at4 R C s d i k)).1) (he : -1074 ≤ e ∧ e ≤ 1023)
    {i : Nat} (hi : i < R) (next : ∀ W r l f, Nm E W r l f → Top_ R C s d (i + 1) 0 W → Ev (fun K => gimballaw09_MatUnits.l2 K e ((i + 1 : Nat) : Int) R C s d R C C D r l f) true) :
    ∀ t k : Nat, C - k = t → k ≤ C → ∀ W r l f, Nm E W r l f → Top_ R C s d i k W → Ev (fun K => gimballaw09_MatUnits.l3 K e i k R C s d R C C D r l f) true := by
  intro t
  induction t with
  | zero =>
    intro k h1 h2 W r l f hn hW
    obtain rfl : k = C := by omega
    refine Ev.succ ?_
    simp only [gimballaw09_MatUnits.l3]
    rw [w64 (x := (i : Int) + 1) (by omega) (by omega)]
    exact Ev.neg (by omega) (next W r l f hn ⟨fun j l hb hj hl => hW.ge j l (by unfold bef at hb ⊢; omega) hj hl, hW.at_⟩)
  | succ t ih =>
    intro k h1 h2 W r l f hn hW
    have hk : k < C := by omega
    have u := at_U (r := R) (c := C) (s := s) hu i k
    obtain ⟨r1, l1, f1, ev1, nm1⟩ := of_dv hE u
    rw [dv_fin (hf i k hi hk)] at nm1
    obtain ⟨e2, nm2⟩ := abs_ev nm1
    rw [rabs_val] at nm2
    have cv := num_cmp_ev (by omega) (by omega) nm2 hn
    have j5 : ∀ {W r l f}, Nm E W r l f → Top_ R C s d i (k + 1) W → Ev (fun K => gimballaw09_MatUnits.j5 K e i k R C s d R C C D r l f) true := by
      intro W r l f hn hW
      refine Ev.succ ?_
      simp only [gimballaw09_MatUnits.j5]
      rw [w64 (x := -e) (by omega) (by omega), w64 (x := (k : Int) + 1) (by omega) (by omega)]
      exact Ev.call (at_eq ⟨by omega, by omega, by omega⟩ _ _ _) (Ev.bind (scl_ev u) (Ev.call (at_eq ⟨by omega, by omega, by omega⟩ _ _ _) (Ev.pos (hD i k hi hk) (ih (k + 1) (by omega) (by omega) W r l f hn hW))))
    refine Ev.succ ?_
    simp only [gimballaw09_MatUnits.l3]
    refine Ev.pos (by omega) (Ev.call (at_eq ⟨by omega, by omega, by omega⟩ _ _ _) (Ev.bind ev1 (Ev.call e2 (Ev.bind cv ?_))))
    by_cases c : W < vm (mag (at4 R C s d i k))
    · refine Ev.pos ?_ (Ev.call e2 (j5 nm2 ⟨fun j l hb hj hl => ?_, .inr ⟨i, k, hi, hk, rfl⟩⟩))
      · unfold rsgn; rw [if_neg (by grind), if_neg (by grind)]; decide
      · by_cases e : j = i ∧ l = k
        · rw [e.1, e.2]; exact Rat.le_refl
        · exact Rat.le_trans (hW.ge j l (by unfold bef at hb ⊢; omega) hj hl) (Rat.le_of_lt c)
    · refine Ev.neg ?_ (j5 hn ⟨fun j l hb hj hl => ?_, hW.at_⟩)
      · unfold rsgn
        by_cases z : vm (mag (at4 R C s d i k)) - W = 0
        · rw [if_pos z]; decide
        · rw [if_neg z, if_pos (by grind)]; decide
      · by_cases e : j = i ∧ l = k
        · rw [e.1, e.2]; exact Rat.not_lt.mp c
        · exact hW.ge j l (by unfold bef at hb ⊢; omega) hj hl
theorem law_l2 (hf : ∀ i k : Nat, i < R → k < C → fin (at4 R C s d i k)) {e M : Int} {D : List Int} (hD : ∀ i k : Nat, i < R → k < C → at4 R C C D i k = (scl (-e) (at4 R C s d i k)).1) (he : -1074 ≤ e ∧ e ≤ 1023)
    (hM : Most R C s d R 0 M) (h0 : M = 0 → e = 0) (h1 : 0 < M → pw e ≤ vm M ∧ vm M < pw (e + 1)) :
    ∀ t i : Nat, R - i = t → i ≤ R → ∀ W r l f, Nm E W r l f → Top_ R C s d i 0 W → Ev (fun K => gimballaw09_MatUnits.l2 K e i R C s d R C C D r l f) true := by
  intro t
  induction t with
  | zero =>
    intro i h2 h3 W r l f hn hW
    obtain rfl : i = R := by omega
    have hWM : W = vm M := by
      have a1 : W ≤ vm M := by
        rcases hW.at_ with h | ⟨j, l, hj, hl, h⟩
        · rw [h]; exact vm_nonneg hM.nn
        · rw [h]; exact (vm_le_iff mag_lt.1 hM.nn).mpr (hM.ge j l (by unfold bef; omega) hj hl)
      have a2 : vm M ≤ W := by
        rcases hM.at_ with h | ⟨j, l, hj, hl, h⟩
        · rw [h, vm_zero]
          rcases hW.at_ with h | ⟨j, l, hj, hl, h⟩
          · rw [h]; exact Rat.le_refl
          · rw [h]; exact vm_nonneg mag_lt.1
        · rw [h]; exact hW.ge j l (by unfold bef; omega) hj hl
      exact Rat.le_antisymm a1 a2
    refine Ev.succ ?_
    simp only [gimballaw09_MatUnits.l2]
    refine Ev.neg (by omega) (Ev.call (sign_eq hn) ?_)
    have hnn := hM.nn
    by_cases z : M = 0
    · have : W = 0 := by rw [hWM, z, vm_zero]
      refine Ev.pos (by unfold rsgn; rw [if_pos this]) ?_
      rw [h0 z]
      exact Ev.now _
    · obtain ⟨p1, p2⟩ := h1 (by omega)
      have hp := pw_pos e
      have wz : ¬ W = 0 := by rw [hWM]; grind
      obtain ⟨t1, n1⟩ := two_ev (E := E) (a := e) (by omega) (by omega) (by omega) (by omega)
      obtain ⟨t2, n2⟩ := two_ev (E := E) (a := e + 1) (by omega) (by omega) (by omega) (by omega)
      have c1 := num_cmp_ev (by omega) (by omega) hn n1
      have c2 := num_cmp_ev (by omega) (by omega) hn n2
      rw [w64 (x := e + 1) (by omega) (by omega)]
      refine Ev.neg ?_ (Ev.call t1 (Ev.bind c1 (Ev.pos ?_ (Ev.call t2 (Ev.bind c2 ?_)))))
      · unfold rsgn; rw [if_neg wz]; split <;> decide
      · unfold rsgn
        by_cases y : W - pw e = 0
        · rw [if_pos y]; decide
        · rw [if_neg y, if_neg (by grind)]; decide
      · have : rsgn (W - pw (e + 1)) = -1 := by
          unfold rsgn
          rw [if_neg (by grind), if_pos (by grind)]
        rw [this]
        exact Ev.now _
  | succ t ih =>
    intro i h2 h3 W r l f hn hW
    refine Ev.succ ?_
    simp only [gimballaw09_MatUnits.l2]
    exact Ev.pos (by omega) (law_l3 hR hC hs hu hE hf (M := M) hD he (by omega) (fun W r l f hn hW => ih (i + 1) (by omega) (by omega) W r l f hn hW) C 0 (by omega) (by omega) W r l f hn hW)
theorem law_j2 {b : Bool} (hb : b = true ↔ ∀ i k : Nat, i < R → k < C → fin (at4 R C s d i k)) : Ev (fun K => gimballaw09_MatUnits.j2 K b false R C s d) true := by
  refine Ev.succ ?_
  simp only [gimballaw09_MatUnits.j2]
  refine Ev.neg (by decide) ?_
  cases b
  · exact Ev.neg (by decide) (Ev.now _)
  · have hf := hb.mp rfl
    obtain ⟨ρ, M, e, ev, hM, q⟩ := unit_ev hR hC hs hu hf
    rw [q.r] at ev
    have he : -1074 ≤ e ∧ e ≤ 1023 := by
      have hn := hM.nn
      by_cases z : M = 0
      · rw [q.zero z]; decide
      · exact (q.big (by omega)).2.2
    refine Ev.pos rfl (Ev.bind ev ?_)
    exact law_l2 hR hC hs hu hE hf q.at_ he hM q.zero (fun h => ⟨(q.big h).1, (q.big h).2.1⟩) R 0 (by omega) (by omega) 0 false [] 0 (Nm.nought (by omega)) ⟨fun j l hb _ _ => by unfold bef at hb; omega, .inl rfl⟩
theorem sum_l1 {i : Nat} (hi : i < R) {A : Rat} {B : Int} (hB : 2 * E ≤ B) (hB2 : B ≤ 100000)
    (next : ∀ b r l f, (b = true ↔ ∀ j k : Nat, bef (i + 1) 0 j k → j < R → k < C → fin (at4 R C s d j k)) → Nm (B + C) (A + rs (fun k => dv (at4 R C s d i k)) C) r l f → Ev (fun K => gimballaw09_MatUnits.l0 K b ((i + 1 : Nat) : Int) R C s d r l f) true) :
    ∀ t k : Nat, C - k = t → k ≤ C → ∀ b r l f, (b = true ↔ ∀ j l : Nat, bef i k j l → j < R → l < C → fin (at4 R C s d j l)) → Nm (B + k) (A + rs (fun k => dv (at4 R C s d i k)) k) r l f → Ev (fun K => gimballaw09_MatUnits.l1 K b i k R C s d r l f) true := by
  intro t
  induction t with
  | zero =>
    intro k h1 h2 b r l f hb hn
    obtain rfl : k = C := by omega
    refine Ev.succ ?_
    simp only [gimballaw09_MatUnits.l1]
    rw [w64 (x := (i : Int) + 1) (by omega) (by omega)]
    exact Ev.neg (by omega) (next b r l f (hb.trans ⟨fun h j k hb hj hk => h j k (by unfold bef at hb ⊢; omega) hj hk, fun h j k hb hj hk => h j k (by unfold bef at hb ⊢; omega) hj hk⟩) hn)
  | succ t ih =>
    intro k h1 h2 b r l f hb hn
    have hk : k < C := by omega
    have u := at_U (r := R) (c := C) (s := s) hu i k
    obtain ⟨r1, l1, f1, ev1, nm1⟩ := of_dv hE u
    obtain ⟨r2, l2, f2, ev2, nm2⟩ := num_mul_ev (by omega) (by omega) (by omega) (by omega) nm1 nm1
    obtain ⟨r3, l3, f3, ev3, nm3⟩ := num_add_ev (E := B + k) (by omega) (by omega) hn (nm2.mono (by omega))
    have e1 : A + rs (fun k => dv (at4 R C s d i k)) k + dv (at4 R C s d i k) * dv (at4 R C s d i k) = A + rs (fun k => dv (at4 R C s d i k)) (k + 1) := by rw [rs_succ]; grind
    have e2 : B + (k : Int) + 1 = B + ((k + 1 : Nat) : Int) := by omega
    rw [e1, e2] at nm3
    have next2 : ∀ b', (b' = true ↔ b = true ∧ fin (at4 R C s d i k)) → Ev (fun K => gimballaw09_MatUnits.l1 K b' i ((k + 1 : Nat) : Int) R C s d r3 l3 f3) true := by
      intro b' hb'
      refine ih (k + 1) (by omega) (by omega) b' r3 l3 f3 ?_ nm3
      rw [hb', hb]
      constructor
      · rintro ⟨h3, h4⟩ j l hbb hj hl
        by_cases e : j = i ∧ l = k
        · rw [e.1, e.2]; exact h4
        · exact h3 j l (by unfold bef at hbb ⊢; omega) hj hl
      · intro h
        exact ⟨fun j l hbb hj hl => h j l (by unfold bef at hbb ⊢; omega) hj hl, h i k (by unfold bef; omega) hi hk⟩
    refine Ev.succ ?_
    simp only [gimballaw09_MatUnits.l1]
    rw [w64 (x := (k : Int) + 1) (by omega) (by omega)]
    refine Ev.pos (by omega) (Ev.call (at_eq ⟨by omega, by omega, by omega⟩ _ _ _) (Ev.bind ev1 ?_))
    cases hbb : b
    · exact Ev.neg (by decide) (Ev.bind ev2 (Ev.bind ev3 (next2 false (by rw [hbb]; simp))))
    · exact Ev.pos rfl (Ev.bind ev2 (Ev.bind ev3 (next2 _ (by rw [hbb]; simp))))
theorem sum_l0 : ∀ t i : Nat, R - i = t → i ≤ R → ∀ b r l f, (b = true ↔ ∀ j k : Nat, bef i 0 j k → j < R → k < C → fin (at4 R C s d j k)) → Nm (2 * E + (i * C : Nat)) (tt (fun i k => dv (at4 R C s d i k)) C i) r l f → Ev (fun K => gimballaw09_MatUnits.l0 K b i R C s d r l f) true := by
  intro t
  induction t with
  | zero =>
    intro i h1 h2 b r l f hb hn
    obtain rfl : i = R := by omega
    have hbd : i * C ≤ 100 * 100 := Nat.mul_le_mul hR hC
    obtain ⟨fb, ev, hfb⟩ := finite_ev hR hC hs hu hE
    obtain ⟨r1, l1, f1, ev1, nm1⟩ := square_ev hR hC hs hu hE
    have hb2 : b = true ↔ ∀ j k : Nat, j < i → k < C → fin (at4 i C s d j k) := hb.trans ⟨fun h j k hj hk => h j k (by unfold bef; omega) hj hk, fun h j k _ hj hk => h j k hj hk⟩
    have e1 : fb = b := by rw [Bool.eq_iff_iff, hfb, hb2]
    refine Ev.succ ?_
    simp only [gimballaw09_MatUnits.l0]
    refine Ev.neg (by omega) (Ev.bind ev (Ev.neg (by rw [e1]; simp) (Ev.bind ev1 (Ev.bind (same_true (by omega) (by omega) nm1 hn rfl) ?_))))
    exact law_j2 hR hC hs hu hE hb2
  | succ t ih =>
    intro i h1 h2 b r l f hb hn
    have hbd : i * C ≤ 100 * 100 := Nat.mul_le_mul (by omega) hC
    refine Ev.succ ?_
    simp only [gimballaw09_MatUnits.l0]
    refine Ev.pos (by omega) (sum_l1 hR hC hs hu hE (by omega) (A := tt (fun i k => dv (at4 R C s d i k)) C i) (B := 2 * E + (i * C : Nat)) (by omega) (by omega) (fun b r l f hb hn => ?_) C 0 (by omega) (by omega) b r l f hb ?_)
    · have e2 : 2 * E + ((i * C : Nat) : Int) + (C : Int) = 2 * E + (((i + 1) * C : Nat) : Int) := by rw [Nat.add_mul]; omega
      rw [e2] at hn
      exact ih (i + 1) (by omega) (by omega) b r l f hb hn
    · have e3 : tt (fun i k => dv (at4 R C s d i k)) C i + rs (fun k => dv (at4 R C s d i k)) 0 = tt (fun i k => dv (at4 R C s d i k)) C i := by unfold rs; grind
      rw [e3]; exact hn.mono (by omega)
end
theorem MatUnits : gimballaw09_MatUnits.Pure := by
  intro a0 a1 a2 l3 w0 w1 w2 _ _ wl
  apply Ev.rounds
  unfold gimballaw09_MatUnits.f
  refine Ev.bind head_ev (Ev.pos rfl ?_)
  by_cases hl : (l3.length : Int) > 100
  · exact Ev.pos hl (Ev.now _)
  · refine Ev.neg hl ?_
    have hU : ∀ x ∈ l3, U x := fun x hx => U_wf (wl x hx)
    obtain ⟨R, C, S, L, ev, hR, hC, hCS, hS, hL, eR, eC⟩ := made_ev a0 a1 a2 hU
    refine Ev.bind ev ?_
    exact sum_l0 (R := R) (C := C) (s := S) (d := L) (by omega) (by omega) (by omega) hL.2 rfl R 0 (by omega) (by omega) true false [] 0 ⟨fun _ j k hb _ _ => by unfold bef at hb; omega, fun _ => rfl⟩ (Nm.nought (by omega))
end Go.Proofs.YtenegelkbfmjkaaDoor.Pure

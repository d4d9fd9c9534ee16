/- VecPower: numbers times a power of two have a root of a sum of squares times that power, where nothing is lost; for every input. -/
import Derived.Test.YtkkfghecmhmdpaaTNrm
import Derived.Test.YtkkfghecmhmdpaaFx8
import Derived.Test.YtkkfghecmhmdpaaFx11
namespace Go.Proofs.Ytkkfghecmhmdpaa.Pure
open Gim Go.RowKit Go.Proofs.Ytkkfghecmhmdpaa.F Go.Proofs.YtkkfghecmhmdpaaW.PrintWords Go.Proofs.YtkkfghecmhmdpaaW.PrintLast
set_option linter.unusedVariables false

theorem head_ok : gimballaw10_head.f 200 = some true := by decide +kernel
theorem head_ev : Ev (fun k => gimballaw10_head.f k) true := Ev.of (fun k => gimballaw10_head.mono k) head_ok
theorem neg_val {a : Int} (h : val a ≠ 0) : neg a = decide (val a < 0) := by
  have h0 : mag a ≠ 0 := fun hh => h (val_zero_iff.mpr hh)
  have := vm_pos (m := mag a) (by have := (mag_lt (a := a)).1; omega)
  unfold val
  cases neg a <;> simp <;> grind
theorem rabs_pw (n : Int) : rabs (pw n) = pw n := by have := pw_pos n; unfold rabs; grind
theorem rb_flags {x : Rat} {b f : Int} (h : RB x b f) : f = 0 ∨ f = 1 ∨ f = 3 ∨ f = 5 := by
  obtain ⟨q, n, hr, eb, ef⟩ := h.ex
  split at ef
  · split at ef
    · exact .inl ef
    · split at ef <;> omega
  · omega
theorem rd_flags {x : Rat} {z : Bool} {r f : Int} (h : Rd x z r f) : f = 0 ∨ f = 1 ∨ f = 3 ∨ f = 5 := by
  by_cases c : x = 0
  · exact .inl (h.zero c).2
  · obtain ⟨m, rb, _⟩ := h.num c
    exact rb_flags rb
theorem scale_flags {a c r f : Int} (h : ScaleR a c r f) : f = 0 ∨ f = 1 ∨ f = 3 ∨ f = 5 ∨ f = 16 := by
  unfold ScaleR at h
  split at h
  · split at h <;> omega
  · split at h
    · omega
    · have := rd_flags h; omega
/-- A number times a power of two, where that isn't too great nor too small: nothing is lost. -/
theorem scale_lossless {a c r f : Int} (ha : U a) (fa : fin a) (h0 : mag a ≠ 0) (h : ScaleR a c r f) (hf : f = 0 ∨ f = 1) : f = 0 ∧ val r = val a * pw c ∧ fin r := by
  unfold ScaleR at h
  rw [if_neg (by rw [fin_nan fa]; decide), if_neg (by have := not_inf fa; omega)] at h
  have hp := pw_pos c
  have hv : val a ≠ 0 := fun hh => h0 (val_zero_iff.mp hh)
  have hx : val a * pw c ≠ 0 := fun hh => by
    rcases Rat.mul_eq_zero.mp hh with h | h
    · exact hv h
    · exact pw_ne c h
  have m0 := mant_pos (m := mag a) (by have := (mag_lt (a := a)).1; omega)
  obtain ⟨m, rb, e⟩ := h.num hx
  have rb2 := rb
  rw [val_scale, rabs_sgd _ (by omega)] at rb2
  have := RB.lossless m0 mant_lt rb2 hf
  subst this
  obtain ⟨e1, e2⟩ := h.exact
  exact ⟨rfl, e1, e2⟩
/-- What comes of a number times a power of two exactly. -/
theorem scaled {x n : Int} (hx : U x) (fx : fin x) (n0 : -128 ≤ n) (n1 : n ≤ 128) (h : (sc n x).2 = 0) :
    U (sc n x).1 ∧ fin (sc n x).1 ∧ vm (mag (sc n x).1) = vm (mag x) * pw n ∧ ∀ e : Int, -2000 ≤ e → e ≤ 2000 → sc (-(e + n)) (sc n x).1 = sc (-e) x := by
  have uy := sc_U (n := n) hx
  have R := sc_R' (n := n) hx (by omega) (by omega)
  by_cases c : mag x = 0
  · have R1 := R
    unfold ScaleR at R1
    rw [if_neg (by rw [fin_nan fx]; decide), if_pos (.inr c)] at R1
    rw [R1.1]
    refine ⟨hx, fx, by rw [c, vm_zero]; grind, fun e e0 e1 => ?_⟩
    have Ra := sc_R (n := -(e + n)) hx
    have Rb := sc_R (n := -e) hx
    unfold ScaleR at Ra Rb
    rw [if_neg (by rw [fin_nan fx]; decide), if_pos (.inr c)] at Ra Rb
    exact Prod.ext (by rw [Ra.1, Rb.1]) (by rw [Ra.2, Rb.2])
  · obtain ⟨_, e1, e2⟩ := scale_lossless hx fx c R (.inl h)
    have hp := pw_pos n
    have hv : val x ≠ 0 := fun hh => c (val_zero_iff.mp hh)
    have hvy : val (sc n x).1 ≠ 0 := fun hh => by
      rw [e1] at hh
      rcases Rat.mul_eq_zero.mp hh with h | h
      · exact hv h
      · exact pw_ne n h
    have cy : mag (sc n x).1 ≠ 0 := fun hh => hvy (val_zero_iff.mpr hh)
    have es : neg (sc n x).1 = neg x := by
      rw [neg_val hvy, neg_val hv, e1]
      apply decide_eq_decide.mpr
      constructor
      · intro h
        refine Decidable.byContradiction fun hc => ?_
        have := Rat.mul_nonneg (Rat.not_lt.mp hc) (Rat.le_of_lt hp)
        grind
      · intro h
        have := Rat.mul_pos (show 0 < -val x by grind) hp
        grind
    refine ⟨uy, e2, by rw [← rabs_val, e1, rabs_mul, rabs_val, rabs_pw], fun e b0 b1 => ?_⟩
    have Ra := sc_R' (n := -(e + n)) uy (by omega) (by omega)
    have Rb := sc_R' (n := -e) hx (by omega) (by omega)
    unfold ScaleR at Ra Rb
    rw [if_neg (by rw [fin_nan e2]; decide), if_neg (by have := not_inf e2; omega)] at Ra
    rw [if_neg (by rw [fin_nan fx]; decide), if_neg (by have := not_inf fx; omega)] at Rb
    have ex : val (sc n x).1 * pw (-(e + n)) = val x * pw (-e) := by
      rw [e1, Rat.mul_assoc, ← pw_add]; congr 2; omega
    rw [ex, es] at Ra
    obtain ⟨h1, h2⟩ := Ra.unique Rb
    exact Prod.ext h1 h2
theorem flags6 {fa fb g : Int} (ha : fa = 0 ∨ fa = 1 ∨ fa = 3 ∨ fa = 5 ∨ fa = 16) (hb : fb = 0 ∨ fb = 1 ∨ fb = 3 ∨ fb = 5 ∨ fb = 16) (hg : g = 0 ∨ g = 1)
    (h : Go.bits .and .u8 (Go.bits .or .u8 (Go.bits .or .u8 0 (Go.bits .or .u8 fa g)) (Go.bits .or .u8 fb g)) 6 = 0) : (fa = 0 ∨ fa = 1 ∨ fa = 16) ∧ (fb = 0 ∨ fb = 1 ∨ fb = 16) := by
  rcases ha with rfl | rfl | rfl | rfl | rfl <;> rcases hb with rfl | rfl | rfl | rfl | rfl <;> rcases hg with rfl | rfl <;> revert h <;> decide
/-- The end: both roots, and the first one times the power. -/
theorem tail {l : List Int} {n : Int} (hl : ∀ x ∈ l, U x ∧ fin x ∧ (sc n x).2 = 0) (hn : l.length ≤ 40) (n0 : -128 ≤ n) (n1 : n ≤ 128) {T : Nat → Option Bool}
    (hT : ∀ k, T k = (vec_Nrm2.f k 0 l).bind fun a => (vec_Nrm2.f k a.2 (l.map fun x => (sc n x).1)).bind fun b => (more_Scale.f k a.1 n).bind fun w => if Go.bits .and .u8 b.2 6 = 0 then (if w.2 = 0 then some (b.1 == w.1) else some true) else some true) : Ev T true := by
  rw [show T = _ from funext hT]
  have h1 : ∀ x ∈ l, U x ∧ fin x := fun x hx => ⟨(hl x hx).1, (hl x hx).2.1⟩
  have hs : ∀ x ∈ l, _ := fun x hx => scaled (hl x hx).1 (hl x hx).2.1 n0 n1 (hl x hx).2.2
  have hy : ∀ y ∈ l.map (fun x => (sc n x).1), U y ∧ fin y := by
    intro y h
    obtain ⟨x, hx, rfl⟩ := List.mem_map.mp h
    exact ⟨(hs x hx).1, (hs x hx).2.1⟩
  have hny : (l.map (fun x => (sc n x).1)).length ≤ 1000000 := by rw [List.length_map]; omega
  obtain ⟨m, j, ev, m0, mI, mle, mex, mz, mp⟩ := power_fin h1 (by omega)
  obtain ⟨m', j', ev', m0', mI', mle', mex', mz', mp'⟩ := power_fin hy hny
  have hp := pw_pos n
  by_cases c : m = 0
  · have c' : m' = 0 := by
      rcases mex' with h | ⟨y, hy, e⟩
      · exact h
      · obtain ⟨x, hx, rfl⟩ := List.mem_map.mp hy
        have e1 := (hs x hx).2.2.1
        have : mag x = 0 := by have := mle x hx; have := (mag_lt (a := x)).1; omega
        rw [this, vm_zero] at e1
        have e2 : vm (mag (sc n x).1) = vm 0 := by rw [e1, vm_zero]; grind
        rw [← e]
        exact vm_inj mag_lt.1 (by decide) e2
    subst c
    subst c'
    have nx : Ev (fun K => vec_Nrm2.f K 0 l) (0, 0) := by
      unfold vec_Nrm2.f
      exact Ev.bind (mz rfl) (Ev.neg (by decide) (Ev.bind ev (Ev.now _)))
    have ny : Ev (fun K => vec_Nrm2.f K 0 (l.map fun x => (sc n x).1)) (0, 0) := by
      unfold vec_Nrm2.f
      exact Ev.bind (mz' rfl) (Ev.neg (by decide) (Ev.bind ev' (Ev.now _)))
    have R := sc_R (n := n) (x := 0) ⟨by decide, by decide⟩
    unfold ScaleR at R
    rw [if_neg (by decide), if_pos (.inr (by decide))] at R
    refine Ev.bind nx (Ev.bind ny (Ev.bind (sc_ev (n := n) ⟨by decide, by decide⟩) (Ev.pos (by decide) (Ev.pos R.2 ?_))))
    rw [R.1]
    exact Ev.now _
  · obtain ⟨e, pe, e0, e1, lo, hi⟩ := mp (by omega)
    obtain ⟨x, hx, xm⟩ := mex.resolve_left c
    have vx := (hs x hx).2.2.1
    have p0 := vm_pos (m := m) (by omega)
    have le1 : vm m * pw n ≤ vm m' := by
      rw [← xm, ← vx]
      exact vm_mono mag_lt.1 (mle' _ (List.mem_map.mpr ⟨x, hx, rfl⟩))
    have pm := Rat.mul_pos p0 hp
    have c' : m' ≠ 0 := by
      intro h
      rw [h, vm_zero] at le1
      grind
    have le2 : vm m' ≤ vm m * pw n := by
      obtain ⟨y, hy, ym⟩ := mex'.resolve_left c'
      obtain ⟨z, hz, rfl⟩ := List.mem_map.mp hy
      rw [← ym, (hs z hz).2.2.1]
      exact Rat.mul_le_mul_of_nonneg_right (vm_mono mag_lt.1 (mle z hz)) (Rat.le_of_lt hp)
    obtain ⟨e', pe', e0', e1', lo', hi'⟩ := mp' (by omega)
    have ee : e' = e + n := by
      refine pw_between lo' hi' ?_ ?_
      · rw [pw_add]
        have := Rat.mul_le_mul_of_nonneg_right lo (Rat.le_of_lt hp)
        grind
      · rw [show e + n + 1 = e + 1 + n from by omega, pw_add]
        have := Rat.mul_lt_mul_of_pos_right hi hp
        grind
    subst ee
    have hu : ∀ x ∈ l.map (fun x => (sc (-e) x).1), U x := by
      intro y h
      obtain ⟨x, hx, rfl⟩ := List.mem_map.mp h
      exact sc_U (hl x hx).1
    have eu : (l.map (fun x => (sc n x).1)).map (fun x => (sc (-(e + n)) x).1) = l.map (fun x => (sc (-e) x).1) := by
      rw [List.map_map]
      refine List.map_congr_left fun x hx => ?_
      show (sc (-(e + n)) (sc n x).1).1 = (sc (-e) x).1
      rw [(hs x hx).2.2.2 e e0 e1]
    obtain ⟨q, G, f, root, uq, ur, Rs, N⟩ := nrm_unit hu (by rw [List.length_map]; omega)
    have nx := N l e 0 (fun x hx => (hl x hx).1) (by omega) e0 e1 rfl pe
    have ny := N (l.map (fun x => (sc n x).1)) (e + n) (Go.bits .or .u8 0 (Go.bits .or .u8 (sc e root).2 (Go.bits .and .u8 1 G))) (fun y h => (hy y h).1) hny e0' e1' eu pe'
    have ua := sc_U (n := e) ur
    refine Ev.bind nx (Ev.bind ny (Ev.bind (sc_ev (n := n) ua) ?_))
    by_cases c6 : Go.bits .and .u8 (Go.bits .or .u8 (Go.bits .or .u8 0 (Go.bits .or .u8 (sc e root).2 (Go.bits .and .u8 1 G))) (Go.bits .or .u8 (sc (e + n) root).2 (Go.bits .and .u8 1 G))) 6 = 0
    · refine Ev.pos c6 ?_
      by_cases c0 : (sc n (sc e root).1).2 = 0
      · refine Ev.pos c0 ?_
        have Ra := sc_R' (n := e) ur (by omega) (by omega)
        have Rb := sc_R' (n := e + n) ur (by omega) (by omega)
        have Rw := sc_R' (n := n) ua (by omega) (by omega)
        obtain ⟨fa, fb⟩ := flags6 (scale_flags Ra) (scale_flags Rb) (one_and8 G) c6
        have eq : (sc (e + n) root).1 = (sc n (sc e root).1).1 := by
          by_cases i : isNan root = true
          · have hq : isNan QNAN = true := by decide
            unfold ScaleR at Ra Rb
            rw [if_pos i] at Ra Rb
            rw [Ra.1] at Rw ⊢
            unfold ScaleR at Rw
            rw [if_pos hq] at Rw
            rw [Rb.1, Rw.1]
          · by_cases z : mag root = INF ∨ mag root = 0
            · unfold ScaleR at Ra Rb
              rw [if_neg i, if_pos z] at Ra Rb
              rw [Ra.1] at Rw ⊢
              unfold ScaleR at Rw
              rw [if_neg i, if_pos z] at Rw
              rw [Rb.1, Rw.1]
            · have fr : fin root := fin_of (by simpa using i) (fun h => z (.inl h))
              have z0 : mag root ≠ 0 := fun h => z (.inr h)
              have n16 : ∀ {a c r f : Int}, U a → fin a → mag a ≠ 0 → ScaleR a c r f → f ≠ 16 := by
                intro a c r f ua fa ha h
                unfold ScaleR at h
                rw [if_neg (by rw [fin_nan fa]; decide), if_neg (by have := not_inf fa; omega)] at h
                have := rd_flags h
                omega
              have a16 := n16 ur fr z0 Ra
              have b16 := n16 ur fr z0 Rb
              obtain ⟨_, va, fina⟩ := scale_lossless ur fr z0 Ra (by omega)
              obtain ⟨_, vb, finb⟩ := scale_lossless ur fr z0 Rb (by omega)
              have hv : val root ≠ 0 := fun hh => z0 (val_zero_iff.mp hh)
              have hva : val (sc e root).1 ≠ 0 := fun hh => by
                rw [va] at hh
                rcases Rat.mul_eq_zero.mp hh with h | h
                · exact hv h
                · exact pw_ne e h
              have za : mag (sc e root).1 ≠ 0 := fun hh => hva (val_zero_iff.mpr hh)
              obtain ⟨_, vw, finw⟩ := scale_lossless ua fina za Rw (.inl c0)
              have ev : val (sc (e + n) root).1 = val (sc n (sc e root).1).1 := by
                rw [vb, vw, va, pw_add]; grind
              have hvb : val (sc (e + n) root).1 ≠ 0 := by
                rw [ev, vw]
                intro hh
                rcases Rat.mul_eq_zero.mp hh with h | h
                · exact hva h
                · exact pw_ne n h
              refine ext_sm (sc_U ur) (sc_U ua) ?_ ?_
              · rw [neg_val hvb, neg_val (by rw [← ev]; exact hvb), ev]
              · exact vm_inj mag_lt.1 mag_lt.1 (by rw [← rabs_val, ← rabs_val, ev])
        exact Ev.ofEq (by simp [eq])
      · exact Ev.neg c0 (Ev.now _)
    · exact Ev.neg c6 (Ev.now _)
theorem loop {l : List Int} {n : Int} (hl : ∀ x ∈ l, U x) (hn : l.length ≤ 40) (n0 : -128 ≤ n) (n1 : n ≤ 128) : ∀ t i : Nat, l.length - i = t → i ≤ l.length →
    (∀ k (h : k < l.length), k < i → fin l[k] ∧ (sc n l[k]).2 = 0) → Ev (fun K => gimballaw10_VecPower.l0 K l n ((l.take i).map fun x => (sc n x).1) l l.length i) true := by
  intro t
  induction t with
  | zero =>
    intro i h1 h2 h
    obtain rfl : i = l.length := by omega
    refine Ev.succ ?_
    simp only [gimballaw10_VecPower.l0]
    refine Ev.neg (by omega) ?_
    rw [List.take_length]
    refine tail (fun x hx => ?_) hn n0 n1 (fun _ => rfl)
    obtain ⟨k, hk, rfl⟩ := List.getElem_of_mem hx
    exact ⟨hl _ hx, h k hk hk⟩
  | succ t ih =>
    intro i h1 h2 h
    have hi : i < l.length := by omega
    have hu := hl _ (List.getElem_mem hi)
    refine Ev.succ ?_
    simp only [gimballaw10_VecPower.l0]
    rw [rd_at hi, w64 (x := (i : Int) + 1) (by omega) (by omega)]
    refine Ev.pos (by omega) (Ev.pos (by omega) (Ev.pos (by omega) (Ev.bind (sc_ev hu) ?_)))
    by_cases c : (sc n l[i]).2 = 0
    · refine Ev.pos c (Ev.call (word_Finite_eq hu) ?_)
      by_cases f : fin l[i]
      · have p1 : ((l.take i).map (fun x => (sc n x).1)).length < 17592186044416 := by
          rw [List.length_map, List.length_take]
          exact Nat.lt_of_le_of_lt (Nat.min_le_right _ _) (Nat.lt_of_le_of_lt hn (by decide))
        refine Ev.pos (decide_eq_true f) (Ev.pos p1 ?_)
        have hh := ih (i + 1) (by omega) (by omega) (fun k hk hk2 => ?_)
        · rw [List.take_succ_eq_append_getElem hi, List.map_append] at hh
          exact hh
        · by_cases e : k = i
          · subst e; exact ⟨f, c⟩
          · exact h k hk (by omega)
      · exact Ev.neg (by simp [f]) (Ev.now _)
    · exact Ev.neg c (Ev.now _)
theorem VecPower : gimballaw10_VecPower.Pure := by
  intro l a _ _ wl wa
  have hl : ∀ x ∈ l, U x := fun x hx => U_of_wf (wl x hx)
  apply Ev.rounds
  unfold gimballaw10_VecPower.f
  refine Ev.bind head_ev (Ev.pos rfl ?_)
  by_cases hn : (l.length : Int) > 40
  · exact Ev.pos hn (Ev.now _)
  refine Ev.neg hn ?_
  have hb : Go.bits .and .i64 a 255 = a % 256 := by have := i64_and 8 (by decide) a; simpa using this
  rw [hb]
  rw [w64 (by omega) (by omega)]
  exact loop hl (by omega) (by omega) (by omega) l.length 0 (by omega) (by omega) (fun k h hk => by omega)
end Go.Proofs.Ytkkfghecmhmdpaa.Pure

/- The greatest of some patterns; the power of two beneath it; all divided by a power of two. -/
import Derived.Test.YtkkfghecmhmdpaaTScale
import Derived.Test.YtkkfghecmhmdpaaTRes
import Derived.Test.YtkkfghecmhmdpaaTRep
import Derived.Test.YtkkfghecmhmdpaaFx2
import Derived.Test.YtkkfghecmhmdpaaFx7
namespace Gim
open Go Go.RowKit Go.Proofs.YtkkfghecmhmdpaaW.PrintWords Go.Proofs.YtkkfghecmhmdpaaW.PrintLast Go.Proofs.YtkkfghecmhmdpaaW.PrintMore Go.Proofs.Ytkkfghecmhmdpaa.F
set_option linter.unusedVariables false

theorem rd_at {l : List Int} {i : Nat} (h : i < l.length) : rd l (i : Int) = l[i] := by
  unfold rd; simp [List.getD_eq_getElem?_getD, h]
theorem greatest_l0 {l : List Int} (hl : ∀ x ∈ l, U x) (hn : l.length ≤ 1000000) : ∀ t i : Nat, l.length - i = t → i ≤ l.length → ∀ m j : Int, 0 ≤ m → m < 9223372036854775808 →
    ∃ m' j', Ev (fun K => order_Greatest.l0 K m j l l.length i) (m', j') ∧ ((0 ≤ m' ∧ m' < 9223372036854775808) ∨ m' = 9221120237041090560) := by
  intro t
  induction t with
  | zero =>
    intro i h1 h2 m j m0 m1
    refine ⟨m, j, Ev.succ ?_, .inl ⟨m0, m1⟩⟩
    simp only [order_Greatest.l0]
    exact Ev.neg (by omega) (Ev.now _)
  | succ t ih =>
    intro i h1 h2 m j m0 m1
    have hi : i < l.length := by omega
    have hu := hl _ (List.getElem_mem hi)
    have hm : 0 ≤ l[i] % 9223372036854775808 ∧ l[i] % 9223372036854775808 < 9223372036854775808 := by omega
    have hk := word_Kind_ev hu
    have ha := word_Abs_eq hu
    by_cases k5 : kindOf (l[i] % 9223372036854775808) = 5
    · refine ⟨9221120237041090560, (i : Int), Ev.succ ?_, .inr rfl⟩
      simp only [order_Greatest.l0]
      rw [rd_at hi]
      exact Ev.pos (by omega) (Ev.pos (by omega) (Ev.pos (by omega) (Ev.bind hk (Ev.pos k5 (Ev.now _)))))
    · have go : ∀ m j : Int, 0 ≤ m → m < 9223372036854775808 → ∃ m' j', Ev (fun K => order_Greatest.l0 K m j l l.length ((i : Int) + 1)) (m', j') ∧ ((0 ≤ m' ∧ m' < 9223372036854775808) ∨ m' = 9221120237041090560) := fun m j a b => ih (i + 1) (by omega) (by omega) m j a b
      by_cases c1 : j < 0
      · obtain ⟨m', j', ev, q⟩ := go (l[i] % 9223372036854775808) i hm.1 hm.2
        refine ⟨m', j', Ev.succ ?_, q⟩
        simp only [order_Greatest.l0]
        rw [rd_at hi, w64 (x := (i : Int) + 1) (by omega) (by omega)]
        exact Ev.pos (by omega) (Ev.pos (by omega) (Ev.pos (by omega) (Ev.bind hk (Ev.neg k5 (Ev.pos c1 (Ev.call ha ev))))))
      · by_cases c2 : l[i] % 9223372036854775808 > m
        · obtain ⟨m', j', ev, q⟩ := go (l[i] % 9223372036854775808) i hm.1 hm.2
          refine ⟨m', j', Ev.succ ?_, q⟩
          simp only [order_Greatest.l0]
          rw [rd_at hi, w64 (x := (i : Int) + 1) (by omega) (by omega)]
          exact Ev.pos (by omega) (Ev.pos (by omega) (Ev.pos (by omega) (Ev.bind hk (Ev.neg k5 (Ev.neg c1 (Ev.call ha (Ev.pos c2 (Ev.call ha ev))))))))
        · obtain ⟨m', j', ev, q⟩ := go m j m0 m1
          refine ⟨m', j', Ev.succ ?_, q⟩
          simp only [order_Greatest.l0]
          rw [rd_at hi, w64 (x := (i : Int) + 1) (by omega) (by omega)]
          exact Ev.pos (by omega) (Ev.pos (by omega) (Ev.pos (by omega) (Ev.bind hk (Ev.neg k5 (Ev.neg c1 (Ev.call ha (Ev.neg c2 ev)))))))
theorem greatest_ev {l : List Int} (hl : ∀ x ∈ l, U x) (hn : l.length ≤ 1000000) : ∃ m j, Ev (fun K => order_Greatest.f K l) (m, j) ∧ U m := by
  obtain ⟨m, j, ev, q⟩ := greatest_l0 hl hn l.length 0 (by omega) (by omega) 0 (-1) (by decide) (by decide)
  refine ⟨m, j, ev, ?_⟩
  rcases q with ⟨a, b⟩ | rfl
  · exact ⟨a, by omega⟩
  · exact ⟨by decide, by decide⟩
theorem power_l0 : ∀ t : Nat, ∀ n e : Int, n.toNat ≤ t → 0 < n → n < 9007199254740992 → -2000 ≤ e → e + blen n ≤ 2000 → ∃ e', Ev (fun K => vec_Power.l0 K n e) (e', true) ∧ -2000 ≤ e' ∧ e' ≤ 2000 := by
  intro t
  induction t with
  | zero => intro n e h1 h2; omega
  | succ t ih =>
    intro n e h1 h2 h3 h4 h5
    have b1 := blen_pos h2
    by_cases c : n > 1
    · have hb := blen_shift (x := n) (s := 1) (by decide) (by rw [p2_1]; omega)
      rw [p2_1] at hb
      obtain ⟨e', ev, q⟩ := ih (n / 2) (e + 1) (by omega) (by omega) (by omega) (by omega) (by omega)
      refine ⟨e', Ev.succ ?_, q⟩
      simp only [vec_Power.l0]
      rw [w64 (x := e + 1) (by omega) (by omega)]
      exact Ev.pos c ev
    · refine ⟨e, Ev.succ ?_, h4, by omega⟩
      simp only [vec_Power.l0]
      exact Ev.neg c (Ev.now _)
theorem power_ev {l : List Int} (hl : ∀ x ∈ l, U x) (hn : l.length ≤ 1000000) : ∃ e ok, Ev (fun K => vec_Power.f K l) (e, ok) ∧ -2000 ≤ e ∧ e ≤ 2000 := by
  obtain ⟨m, j, ev, u⟩ := greatest_ev hl hn
  by_cases h : 0 < m % 9223372036854775808 ∧ m % 9223372036854775808 < 9218868437227405312
  · have hp := word_Parts_ev u h.1 h.2
    have mp := mant_pos h.1
    have ml := mant_lt (m := m % 9223372036854775808)
    have hfin : fin (m % 9223372036854775808) := by unfold fin mag INF; omega
    obtain ⟨e1, e2⟩ := fin_expo hfin
    have hmag : mag (m % 9223372036854775808) = m % 9223372036854775808 := by unfold mag; omega
    rw [hmag] at e1 e2
    have hb : blen (mant (m % 9223372036854775808)) ≤ 53 := blen_le (by decide) (by rw [show p2 53 = 9007199254740992 from by decide]; exact ml)
    obtain ⟨e', ev2, q⟩ := power_l0 _ (mant (m % 9223372036854775808)) (expo (m % 9223372036854775808)) (Nat.le_refl _) mp ml (by omega) (by omega)
    refine ⟨e', true, ?_, q⟩
    unfold vec_Power.f
    exact Ev.bind ev (Ev.bind hp (Ev.neg (by omega) ev2))
  · refine ⟨0, false, ?_, by decide, by decide⟩
    unfold vec_Power.f
    exact Ev.bind ev (Ev.bind (word_Parts_none u (by omega)) (Ev.pos rfl (Ev.now _)))
/-- A pattern times a power of two, as the program's layer 5 tells. -/
noncomputable def sc (n x : Int) : Int × Int := resOf (fun k => more_Scale.f k x n)
theorem sc_ev {n x : Int} (hx : U x) : Ev (fun k => more_Scale.f k x n) (sc n x) := by
  obtain ⟨r, f, ev, _⟩ := more_Scale_ev hx n
  exact Ev.resE ev
theorem sc_U {n x : Int} (hx : U x) : U (sc n x).1 := by
  obtain ⟨r, f, ev, R⟩ := more_Scale_ev hx n
  rw [Ev.det (sc_ev hx) ev]
  exact R.range hx
theorem unit_l0 {l : List Int} (hl : ∀ x ∈ l, U x) (hn : l.length ≤ 1000000) {e : Int} (e0 : -20000 ≤ e) (e1 : e ≤ 20000) : ∀ t i : Nat, l.length - i = t → i ≤ l.length →
    Ev (fun K => vec_Unit.l0 K e ((l.take i).map (fun x => (sc (-e) x).1)) l l.length i) (l.map (fun x => (sc (-e) x).1)) := by
  intro t
  induction t with
  | zero =>
    intro i h1 h2
    obtain rfl : i = l.length := by omega
    refine Ev.succ ?_
    simp only [vec_Unit.l0]
    rw [List.take_length]
    exact Ev.neg (by omega) (Ev.now _)
  | succ t ih =>
    intro i h1 h2
    have hi : i < l.length := by omega
    have hu := hl _ (List.getElem_mem hi)
    have h := ih (i + 1) (by omega) (by omega)
    rw [List.take_succ_eq_append_getElem hi, List.map_append] at h
    refine Ev.succ ?_
    simp only [vec_Unit.l0]
    rw [rd_at hi, w64 (x := -e) (by omega) (by omega), w64 (x := (i : Int) + 1) (by omega) (by omega)]
    have p1 : ((l.take i).map (fun x => (sc (-e) x).1)).length < 17592186044416 := by
      rw [List.length_map, List.length_take]
      exact Nat.lt_of_le_of_lt (Nat.min_le_right _ _) (Nat.lt_of_le_of_lt hn (by decide))
    exact Ev.pos (by omega) (Ev.pos (by omega) (Ev.pos (by omega) (Ev.bind (sc_ev hu) (Ev.pos p1 h))))
theorem unit_ev {l : List Int} (hl : ∀ x ∈ l, U x) (hn : l.length ≤ 1000000) {e : Int} (e0 : -20000 ≤ e) (e1 : e ≤ 20000) : Ev (fun K => vec_Unit.f K l e) (l.map (fun x => (sc (-e) x).1)) := by
  unfold vec_Unit.f
  have : mx (-20000) (mn e 20000) = e := by unfold mx mn; grind
  rw [this]
  exact unit_l0 hl hn e0 e1 l.length 0 (by omega) (by omega)
end Gim

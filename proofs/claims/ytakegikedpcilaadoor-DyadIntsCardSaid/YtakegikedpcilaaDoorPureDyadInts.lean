/- DyadInts: whole numbers and powers of two as exact numbers; for every input. -/
import Derived.Test.YtakegikedpcilaaDoorTDyD
import Derived.Test.YtakegikedpcilaaDoorFx9
import Derived.Test.YtakegikedpcilaaDoorFx18
import Derived.Test.YtakegikedpcilaaDoorFx19
namespace Go.Proofs.YtakegikedpcilaaDoor.Pure
open Gim Go Go.RowKit Go.Proofs.YtakegikedpcilaaDoorW.PrintWords Go.Proofs.YtakegikedpcilaaDoorW.PrintLast Go.Proofs.YtakegikedpcilaaDoorW.PrintMore Go.Proofs.YtakegikedpcilaaDoor.F
set_option linter.unusedVariables false
set_option linter.unusedSectionVars false

theorem head_ok : gimballaw07_head.f 300 = some true := by decide +kernel
theorem head_ev : Ev (fun k => gimballaw07_head.f k) true := Ev.of (fun k => gimballaw07_head.mono k) head_ok
theorem int_ev {z : Int} (h0 : -9223372036854775808 ≤ z) (h1 : z ≤ 9223372036854775807) : ∃ r l f, Ev (fun K => dyad_Int.f K z) (r, l, f) ∧ Nm 64 (z : Rat) r l f := by
  have hb := int_bounds (z := z) (E := 64) (by decide) (by rw [p2_64]; omega) (by rw [p2_64]; omega)
  have wrap : ∀ {r : Bool} {l : List Int} {f : Int}, Gim.Can r l f → nval r l f = (z : Rat) → Nm 64 (z : Rat) r l f :=
    fun c h => Nm.of (by decide) c h hb.1 hb.2.1 hb.2.2
  by_cases c : z < 0
  · have w : IntKind.u64.wrap (-(IntKind.u64.wrap z)) = -z := by rw [wu64_mod, wu64_mod]; omega
    obtain ⟨dg, vl⟩ := nv_two (u := -z) (by omega) (by omega)
    obtain ⟨r, l, f, ev, cn, v⟩ := trim_ev (neg := true) (e := 0) dg (by simp) (by decide) (by decide)
    refine ⟨r, l, f, ?_, wrap cn ?_⟩
    · unfold dyad_Int.f
      rw [w, decide_eq_true c]
      exact Ev.pos c (Ev.bind ev (Ev.now _))
    · rw [v]; unfold nval; rw [vl, pw_zero]; push_cast; simp
  · have w : IntKind.u64.wrap z = z := wu64 (by omega) (by omega)
    obtain ⟨dg, vl⟩ := nv_two (u := z) (by omega) (by omega)
    obtain ⟨r, l, f, ev, cn, v⟩ := trim_ev (neg := false) (e := 0) dg (by simp) (by decide) (by decide)
    refine ⟨r, l, f, ?_, wrap cn ?_⟩
    · unfold dyad_Int.f
      rw [w, decide_eq_false c]
      exact Ev.neg c (Ev.bind ev (Ev.now _))
    · rw [v]; unfold nval; rw [vl, pw_zero]; simp
theorem and1023 (x : Int) : Go.bits .and .i64 x 1023 = x % 1024 := i64_and 10 (by decide) x
theorem and31 (x : Int) : Go.bits .and .i64 x 31 = x % 32 := i64_and 5 (by decide) x
theorem two_big (a b : Int) (h : (mx (-1048576) (mn a 1048576)) = b) (h0 : -1048576 ≤ b) (h1 : b ≤ 1048576) : dyad_Two.f a = some (false, [1], b) := by
  unfold dyad_Two.f; rw [h]
theorem fin_ev {c : Bool} {g : Nat → Option Bool} (h : Ev g c) (hc : c = true) : Ev g true := hc ▸ h
theorem same_true {E E' : Int} {x y : Rat} {n n' : Bool} {m m' : List Int} {e e' : Int} (hE0 : 0 ≤ E) (hE : E ≤ 1000000) (a : Nm E x n m e) (b : Nm E' y n' m' e') (h : x = y) : Ev (fun K => dyad_Num_Same.f K n m e n' m' e') true :=
  fin_ev (same_ev hE0 hE a b) (decide_eq_true h)
theorem same_refl (n : Bool) (m : List Int) (e : Int) (h : m.length ≤ 1000000) : Ev (fun K => dyad_Num_Same.f K n m e n m e) true := by
  unfold dyad_Num_Same.f
  exact Ev.pos (by simp) (Ev.pos rfl (Ev.bind (fin_ev (eq_ev h) (decide_eq_true rfl)) (Ev.now _)))

section
variable {e : Int} (he0 : 0 ≤ e) (he1 : e ≤ 1023) {n0 n1 n2 : Bool} {m0 m1 m2 : List Int} {e0 e1 e2 : Int} {x : Rat} (hx : Nm 64 x n0 m0 e0) (hy : Nm 64 x n1 m1 e1) (hp : Nm 4000 1 n2 m2 e2)
include he0 he1 hx hy hp
theorem l1_ev : ∀ t j : Nat, (e % 32).toNat - j = t → (j : Int) ≤ e % 32 → ∀ n m f, Nm 64 (pw j) n m f →
    Ev (fun K => gimballaw07_DyadInts.l1 K e j n0 m0 e0 n1 m1 e1 n2 m2 e2 n m f) true := by
  intro t
  induction t with
  | zero =>
    intro j h1 h2 n m f hq
    have hj : (j : Int) = e % 32 := by omega
    refine Ev.succ ?_
    simp only [gimballaw07_DyadInts.l1]
    rw [and31]
    obtain ⟨r, l, g, ev1, nm1⟩ := int_ev (z := 1) (by decide) (by decide)
    obtain ⟨t1, t2⟩ := two_ev (E := 64) (a := e % 32) (by omega) (by omega) (by omega) (by omega)
    refine Ev.neg (by omega) (Ev.bind (same_true (by decide) (by decide) hx hy rfl) (Ev.pos rfl (Ev.bind ev1 (Ev.bind (same_true (by decide) (by decide) hp nm1 (by simp)) (Ev.pos rfl
      (Ev.call t1 (Ev.bind (same_true (by decide) (by decide) hq t2 (by rw [hj])) (Ev.pos rfl ?_))))))))
    refine Ev.call (two_big 1099511627776 1048576 (by decide) (by decide) (by decide)) (Ev.call (two_big 1048576 1048576 (by decide) (by decide) (by decide)) (Ev.bind (same_refl false [1] 1048576 (by simp)) (Ev.pos rfl ?_)))
    exact Ev.call (two_big (-1099511627776) (-1048576) (by decide) (by decide) (by decide)) (Ev.call (two_big (-1048576) (-1048576) (by decide) (by decide) (by decide)) (Ev.bind (same_refl false [1] (-1048576) (by simp)) (Ev.now _)))
  | succ t ih =>
    intro j h1 h2 n m f hq
    obtain ⟨r, l, g, ev, nm⟩ := num_add_ev (by decide) (by decide) hq hq
    have hpw : pw j + pw j = pw ((j + 1 : Nat) : Int) := by
      rw [show ((j + 1 : Nat) : Int) = (j : Int) + 1 by omega, pw_succ]; grind
    rw [hpw] at nm
    have nm2 : Nm 64 (pw ((j + 1 : Nat) : Int)) r l g := by
      obtain ⟨_, t2⟩ := two_ev (E := 64) (a := ((j + 1 : Nat) : Int)) (by omega) (by omega) (by omega) (by omega)
      obtain ⟨rfl, rfl, rfl⟩ := nm.unique t2
      exact t2
    refine Ev.succ ?_
    simp only [gimballaw07_DyadInts.l1]
    rw [and31, w64 (x := (j : Int) + 1) (by omega) (by omega)]
    exact Ev.pos (by omega) (Ev.bind ev (ih (j + 1) (by omega) (by omega) r l g nm2))
omit hp in
theorem j2_ev (x1 : Int) (h : e = x1 % 1024) : Ev (fun K => gimballaw07_DyadInts.j2 K x1 n0 m0 e0 n1 m1 e1) true := by
  refine Ev.succ ?_
  simp only [gimballaw07_DyadInts.j2]
  rw [and1023, ← h, w64 (x := -e) (by omega) (by omega)]
  obtain ⟨t1, t2⟩ := two_ev (E := 2000) (a := e) (by omega) (by omega) (by omega) (by omega)
  obtain ⟨t3, t4⟩ := two_ev (E := 2000) (a := -e) (by omega) (by omega) (by omega) (by omega)
  obtain ⟨t5, t6⟩ := two_ev (E := 64) (a := 0) (by omega) (by omega) (by omega) (by omega)
  obtain ⟨r, l, g, ev, nm⟩ := num_mul_ev (by decide) (by decide) (by decide) (by decide) t2 t4
  have h1 : pw e * pw (-e) = 1 := by rw [Rat.mul_comm]; exact pw_neg_mul e
  rw [h1] at nm
  exact Ev.call t1 (Ev.call t3 (Ev.bind ev (Ev.call t5 (l1_ev he0 he1 hx hy nm _ 0 rfl (by omega) false [1] 0 t6))))
end
theorem l0_ev {z u x1 : Int} (hz0 : -9223372036854775808 ≤ z) (hz1 : z ≤ 9223372036854775807) (hu : u = if z < 0 then -z else z) {n0 : Bool} {m0 : List Int} {e0 : Int} (hx : Nm 64 (z : Rat) n0 m0 e0) :
    ∀ t : Nat, t ≤ 64 → ∀ n m f, Nm 64 ((u / p2 t : Int) : Rat) n m f → Ev (fun K => gimballaw07_DyadInts.l0 K z x1 u ((t : Int) - 1) n0 m0 e0 n m f) true := by
  have hu0 : 0 ≤ u ∧ u ≤ 9223372036854775808 := by split at hu <;> omega
  intro t
  induction t with
  | zero =>
    intro ht n m f hy
    have e1 : u / p2 ((0 : Nat) : Int) = u := by
      have : p2 ((0 : Nat) : Int) = 1 := rfl
      rw [this, Int.ediv_one]
    rw [e1] at hy
    refine Ev.succ ?_
    simp only [gimballaw07_DyadInts.l0]
    refine Ev.neg (by omega) ?_
    by_cases c : z < 0
    · rw [if_pos c] at hu
      obtain ⟨n', e2, nm⟩ := neg_ev hy
      have e3 : -(u : Rat) = (z : Rat) := by rw [hu]; push_cast; grind
      rw [e3] at nm
      exact Ev.pos c (Ev.call e2 (j2_ev (e := x1 % 1024) (by omega) (by omega) hx nm x1 rfl))
    · rw [if_neg c] at hu
      subst hu
      exact Ev.neg c (j2_ev (e := x1 % 1024) (by omega) (by omega) hx hy x1 rfl)
  | succ t ih =>
    intro ht n m f hy
    have hP := p2_pos (t : Int)
    have hs : p2 ((t + 1 : Nat) : Int) = p2 (t : Int) * 2 := by rw [Int.mul_comm]; exact p2_succ (a := (t : Int)) (by omega)
    have hdiv : u / p2 ((t + 1 : Nat) : Int) = u / p2 (t : Int) / 2 := by rw [hs, ← Int.ediv_ediv_of_nonneg (Int.le_of_lt hP)]
    have q0 := Int.ediv_nonneg hu0.1 (Int.le_of_lt hP)
    have q1 := Int.ediv_le_self (a := u) (p2 (t : Int)) hu0.1
    have hb : Go.bits .and .u64 (shr .u64 u (IntKind.u64.wrap (((t + 1 : Nat) : Int) - 1))) 1 = u / p2 (t : Int) % 2 := by
      rw [show ((t + 1 : Nat) : Int) - 1 = (t : Int) by omega, wu64 (x := (t : Int)) (by omega) (by omega), shr_u64 (x := u) (n := (t : Int)) (by omega) (by omega), u64_and1 q0 (by omega)]
    obtain ⟨r, l, g, ev, nm⟩ := num_add_ev (by decide) (by decide) hy hy
    have e1 : ((u / p2 ((t + 1 : Nat) : Int) : Int) : Rat) + ((u / p2 ((t + 1 : Nat) : Int) : Int) : Rat) = ((2 * (u / p2 (t : Int) / 2) : Int) : Rat) := by rw [hdiv]; push_cast; grind
    rw [e1] at nm
    refine Ev.succ ?_
    simp only [gimballaw07_DyadInts.l0]
    rw [hb, w64 (x := ((t + 1 : Nat) : Int) - 1 - 1) (by omega) (by omega), show ((t + 1 : Nat) : Int) - 1 - 1 = (t : Int) - 1 by omega]
    refine Ev.pos (by omega) (Ev.bind ev (Ev.pos (by rw [wu64 (by omega) (by omega)]; omega) ?_))
    by_cases c : u / p2 (t : Int) % 2 = 1
    · obtain ⟨r1, l1, g1, ev1, nm1⟩ := int_ev (z := 1) (by decide) (by decide)
      obtain ⟨r2, l2, g2, ev2, nm2⟩ := num_add_ev (E := 65) (by decide) (by decide) nm (nm1.mono (by decide))
      have e2 : ((2 * (u / p2 (t : Int) / 2) : Int) : Rat) + ((1 : Int) : Rat) = ((u / p2 (t : Int) : Int) : Rat) := by
        have : u / p2 (t : Int) = 2 * (u / p2 (t : Int) / 2) + 1 := by omega
        rw [← Rat.intCast_add, ← this]
      rw [e2] at nm2
      exact Ev.pos c (Ev.bind ev1 (Ev.bind ev2 (ih (by omega) _ _ _ (nm2.int (by decide) (by rw [p2_64]; omega) (by rw [p2_64]; omega)))))
    · have e2 : 2 * (u / p2 (t : Int) / 2) = u / p2 (t : Int) := by omega
      rw [e2] at nm
      exact Ev.neg c (ih (by omega) _ _ _ (nm.int (by decide) (by rw [p2_64]; omega) (by rw [p2_64]; omega)))
theorem DyadInts : gimballaw07_DyadInts.Pure := by
  intro z x1 hz hx1
  have hz0 : -9223372036854775808 ≤ z ∧ z ≤ 9223372036854775807 := by
    simp [Lit.wf, IntKind.min, IntKind.max, IntKind.signed, IntKind.bits] at hz; omega
  obtain ⟨r, l, g, ev, nm⟩ := int_ev hz0.1 hz0.2
  have zero : Nm 64 ((0 : Int) : Rat) false [] 0 := by
    have hb := int_bounds (z := 0) (E := 64) (by decide) (by decide) (by decide)
    exact Nm.of (k := 0 * p2 64) (by decide) ⟨Dig.nil, fun h => absurd rfl h, .inl ⟨rfl, rfl, rfl⟩⟩ (by unfold nval; simp [nv]) hb.1 hb.2.1 hb.2.2
  have start : ∀ u : Int, (u = if z < 0 then -z else z) → Ev (fun K => gimballaw07_DyadInts.j0 K z x1 u r l g) true := by
    intro u hu
    refine Ev.succ ?_
    simp only [gimballaw07_DyadInts.j0]
    have hu0 : 0 ≤ u ∧ u ≤ 9223372036854775808 := by split at hu <;> omega
    have e1 : u / p2 ((64 : Nat) : Int) = 0 := by
      have : p2 ((64 : Nat) : Int) = 18446744073709551616 := p2_64
      rw [this]; omega
    exact l0_ev hz0.1 hz0.2 hu nm 64 (by omega) false [] 0 (by rw [e1]; exact zero)
  apply Ev.rounds
  · unfold gimballaw07_DyadInts.f
    refine Ev.bind head_ev (Ev.pos rfl (Ev.bind ev ?_))
    by_cases c : z < 0
    · refine Ev.pos c (start _ ?_)
      rw [if_pos c, wu64_mod, wu64_mod]; omega
    · refine Ev.neg c (start _ ?_)
      rw [if_neg c, wu64 (by omega) (by omega)]
end Go.Proofs.YtakegikedpcilaaDoor.Pure

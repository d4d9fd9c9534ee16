/- SylvPower: an equation times a power of two that loses nothing has the same numbers and the same scale, and another power. -/
import Derived.Test.YtejkoahgmnejkaaDoorTx2
import Derived.Test.YtejkoahgmnejkaaDoorRx0
set_option linter.constructorNameAsVariable false
set_option linter.unusedSimpArgs false
set_option linter.unusedVariables false
set_option linter.unusedSectionVars false
namespace Go.Proofs.YtejkoahgmnejkaaDoor.Pure
open Go Go.RowKit Go.Proofs.YtejkoahgmnejkaaDoorW.PrintWords Go.Proofs.YtejkoahgmnejkaaDoorW.PrintLast Go.Proofs.YtejkoahgmnejkaaDoorW.PrintMore Go.Proofs.YtejkoahgmnejkaaDoor.F Gim
set_option linter.unusedVariables false
set_option linter.unusedSectionVars false
section
variable {p q : Nat} (hp : p ≤ 3) (hq : q ≤ 3) {C : List Int} (hC : Words (p * q) C)
include hp hq hC
/-- Whether all is zero. -/
theorem zero_ev (fC : ∀ x ∈ C, fin x) : ∃ b, Ev (fun K => gimballaw21_zero.f K p q q C) b ∧ (b = false → ∃ x ∈ C, mag x ≠ 0) := by
  obtain ⟨r, l, f, ev, nm⟩ := square_ev (R := p) (C := q) (s := (q : Int)) (E := 1074) (by omega) (by omega) (by omega) hC.2 rfl
  obtain ⟨b, eb, hb⟩ := finite_dense (R := p) (C := q) (by omega) (by omega) hC
  obtain rfl : b = true := hb.mpr fC
  by_cases c : rsgn (tt (fun i k => dv (at4 p q q C i k)) q p) = 0
  · refine ⟨true, ?_, by simp⟩
    unfold gimballaw21_zero.f
    exact Ev.bind ev (Ev.call (sign_eq nm) (Ev.pos c (Ev.bind eb (Ev.now _))))
  · refine ⟨false, ?_, fun _ => ?_⟩
    · unfold gimballaw21_zero.f
      exact Ev.bind ev (Ev.call (sign_eq nm) (Ev.neg c (Ev.now _)))
    · refine Decidable.byContradiction fun hn => c ?_
      have all : ∀ x ∈ C, mag x = 0 := fun x hx => Decidable.byContradiction fun h => hn ⟨x, hx, h⟩
      have e : tt (fun i k => dv (at4 p q q C i k)) q p = tt (fun _ _ => 0) q p := tt_congr fun i k hi hk => by
        have hl := hC.1
        have := place_lt hi hk
        rw [at_dense hC.1 hi hk]
        have hm := rd_mem (l := C) (i := ((i * q + k : Nat) : Int)) (by omega) (by omega)
        rw [dv_fin (fC _ hm), val_zero_iff.mpr (all _ hm)]
      rw [e, tt_zero]; decide
end
theorem pos_of {x M : Int} (a : mag x ≤ M) (h : mag x ≠ 0) : 0 < M := by
  have := (mag_lt (a := x)).1
  omega
theorem mapFin {l : List Int} {n : Int} (h : ∀ x ∈ l, U x ∧ fin x) (hz : ∀ x ∈ l, (scl n x).2 = 0) (n0 : -10000 ≤ n) (n1 : n ≤ 10000) : ∀ y ∈ S n l, U y ∧ fin y := by
  intro y hy
  obtain ⟨x, hx, rfl⟩ := List.mem_map.mp hy
  have := scl_ex (h x hx).1 (h x hx).2 (hz x hx) n0 n1
  exact ⟨this.u, this.f⟩
theorem SylvPower (a0 : Int) (h0 : (Lit.int .i64 a0).wf = true) (a1 : Int) (h1 : (Lit.int .i64 a1).wf = true) (l2 : List Int) (h2 : ∀ x ∈ l2, (Lit.int .u64 x).wf = true) (l3 : List Int) (h3 : ∀ x ∈ l3, (Lit.int .u64 x).wf = true)
    (l4 : List Int) (h4 : ∀ x ∈ l4, (Lit.int .u64 x).wf = true) (a5 : Int) (h5 : (Lit.int .i64 a5).wf = true) (a6 : Bool) : ∃ k, gimballaw21_SylvPower.f k a0 a1 l2 l3 l4 a5 a6 = some true := by
  refine Ev.rounds ?_
  have ha2 : ∀ x ∈ l2, U x := fun x hx => U_wf (h2 x hx)
  have ha3 : ∀ x ∈ l3, U x := fun x hx => U_wf (h3 x hx)
  have ha4 : ∀ x ∈ l4, U x := fun x hx => U_wf (h4 x hx)
  have nat : ∀ x : Int, ∃ n : Nat, n ≤ 3 ∧ Go.bits .and .i64 x 3 = (n : Int) := fun x => ⟨(x % 4).toNat, by omega, by rw [and3]; omega⟩
  obtain ⟨p, hp, ep⟩ := nat a0
  obtain ⟨q, hq, eq⟩ := nat a1
  have h9 : p * q ≤ 9 := Nat.mul_le_mul hp hq
  obtain ⟨n, en, n0, n1⟩ : ∃ n, wrap64 (Go.bits .and .i64 a5 255 - 128) = n ∧ -128 ≤ n ∧ n ≤ 127 := by
    rw [and255, w64 (by omega) (by omega)]
    exact ⟨_, rfl, by omega, by omega⟩
  have start : ∀ {t : Bool}, (t = false → Ev (fun K => gimballaw21_SylvPower.j0 K a0 a1 l2 l3 l4 a5 a6 false) true) → Ev (fun K => gimballaw21_SylvPower.j0 K a0 a1 l2 l3 l4 a5 a6 t) true := by
    intro t h
    cases t with
    | false => exact h rfl
    | true =>
      refine Ev.succ ?_
      simp only [gimballaw21_SylvPower.j0]
      exact Ev.pos (by trivial) (Ev.now _)
  suffices main : Ev (fun K => gimballaw21_SylvPower.j0 K a0 a1 l2 l3 l4 a5 a6 false) true by
    unfold gimballaw21_SylvPower.f
    refine Ev.call rfl ?_
    by_cases c1 : (l2.length : Int) > 60
    · exact Ev.pos c1 (start fun _ => main)
    · refine Ev.neg c1 ?_
      by_cases c2 : (l3.length : Int) > 60
      · exact Ev.pos c2 (start fun _ => main)
      · exact Ev.neg c2 (start fun _ => main)
  obtain ⟨A, ⟨wA, lA⟩, eA⟩ := upper_ev hp ha2
  obtain ⟨B, ⟨wB, lB⟩, eB⟩ := upper_ev hq ha3
  obtain ⟨C, wC, eC⟩ := made_ev hp ha4 hq
  obtain ⟨ba, fa, iA⟩ := finite_dense (R := p) (C := p) (by omega) (by omega) wA
  obtain ⟨bb, fb, iB⟩ := finite_dense (R := q) (C := q) (by omega) (by omega) wB
  obtain ⟨bc, fc, iC⟩ := finite_dense (R := p) (C := q) (by omega) (by omega) wC
  have sA := scale_dense (R := p) (C := p) (by omega) (by omega) wA n
  have sB := scale_dense (R := q) (C := q) (by omega) (by omega) wB n
  have sC := scale_dense (R := p) (C := q) (by omega) (by omega) wC n
  have end1 : ∀ {r1 r2 r3 r4 r5 r6 r7 r8 r9 : Int}, Ev (fun K => gimballaw21_SylvPower.j1 K n a6 true p p p q q q p q q r1 r2 r3 r4 r5 r6 r7 r8 r9 A B C (S n C) (S n A) (S n B)) true := by
    intro r1 r2 r3 r4 r5 r6 r7 r8 r9
    refine Ev.succ ?_
    simp only [gimballaw21_SylvPower.j1]
    exact Ev.pos (by trivial) (Ev.now _)
  refine Ev.succ ?_
  simp only [gimballaw21_SylvPower.j0]
  rw [ep, eq, en]
  refine Ev.neg (by simp) (Ev.bind eA (Ev.bind eB (Ev.bind eC (Ev.bind sC (Ev.bind sA (Ev.bind sB (Ev.bind fa ?_)))))))
  refine (Decidable.em (ba = true)).elim (fun ca => ?_) (fun ca => Ev.neg ca end1)
  refine Ev.pos ca (Ev.bind fb ?_)
  refine (Decidable.em (bb = true)).elim (fun cb => ?_) (fun cb => Ev.neg cb end1)
  refine Ev.pos cb (Ev.bind fc ?_)
  refine (Decidable.em (bc = true)).elim (fun cc => ?_) (fun cc => Ev.neg cc end1)
  refine Ev.pos cc ?_
  have fA := iA.mp ca
  have fB := iB.mp cb
  have fC := iC.mp cc
  refine (Decidable.em (Go.bits .or .u8 (Go.bits .or .u8 (flagsOf n C (p * q)) (flagsOf n A (p * p))) (flagsOf n B (q * q)) = 0)).elim (fun cf => ?_) (fun cf => Ev.neg cf end1)
  obtain ⟨z12, z3⟩ := or8_zero (F8_or _ _) flagsOf_F8 cf
  obtain ⟨z1, z2⟩ := or8_zero flagsOf_F8 flagsOf_F8 z12
  have zC := flagsOf_zero wC z1
  have zA := flagsOf_zero wA z2
  have zB := flagsOf_zero wB z3
  obtain ⟨bz, ez, hz⟩ := zero_ev hp hq wC fC
  refine Ev.pos cf (Ev.bind ez ?_)
  cases bz with
  | true => exact end1
  | false =>
    obtain ⟨x0, hx0, m0⟩ := hz rfl
    -- the right side by its greatest number
    obtain ⟨M, f, uC, k1, k2, k3, _, k5⟩ := unit_dense (R := p) (C := q) (by omega) (by omega) wC fC
    have wC' := S_words wC n
    have fC' := S_fin wC.2 fC zC (by omega) (by omega)
    obtain ⟨M', f', uC', k1', k2', k3', _, k5'⟩ := unit_dense (R := p) (C := q) (by omega) (by omega) wC' fC'
    have hM : 0 < M := pos_of (k1 x0 hx0) m0
    obtain ⟨b1, b2, b3, b4⟩ := k5 hM
    obtain ⟨_, mm⟩ := S_most wC.2 fC zC (by omega) (by omega) k1 k2 k3 k1' k2' k3'
    obtain ⟨hM', vM⟩ := mm hM
    obtain ⟨b1', b2', b3', b4'⟩ := k5' hM'
    have hpn := pw_pos n
    have ef : f' = f + n := by
      refine pw_between b1' b2' ?_ ?_
      · rw [vM, pw_add]; exact Rat.mul_le_mul_of_nonneg_right b1 (Rat.le_of_lt hpn)
      · rw [vM, show f + n + 1 = f + 1 + n from by omega, pw_add]; exact Rat.mul_lt_mul_of_pos_right b2 hpn
    subst ef
    have eU : S (-(f + n)) (S n C) = S (-f) C := by
      rw [S_comp (-(f + n)) wC.2 fC zC (by omega) (by omega) (by omega) (by omega) (by omega) (by omega)]
      congr 1; omega
    rw [eU] at uC'
    have wU := S_words wC (-f)
    obtain ⟨fU, y0, hy0, my0⟩ := unit_fin wC.2 fC k1 k2 hM b1 b2 b3 b4
    obtain ⟨mU, _, _, _, _, gU, _, _, pU⟩ := power_fin (l := S (-f) C) (fun x hx => ⟨wU.2 x hx, fU x hx⟩) (by rw [wU.1]; omega)
    have hmU : 0 < mU := pos_of (gU y0 hy0) my0
    obtain ⟨e0, pw0, _⟩ := pU hmU
    -- the matrices by theirs
    have wA' := S_words wA n
    have wB' := S_words wB n
    have lA' := S_low n wA lA
    have lB' := S_low n wB lB
    have fA' := S_fin wA.2 fA zA (by omega) (by omega)
    have fB' := S_fin wB.2 fB zB (by omega) (by omega)
    have hab : ∀ x ∈ A ++ B, U x ∧ fin x := fun x hx => by
      rcases List.mem_append.mp hx with h | h
      · exact ⟨wA.2 x h, fA x h⟩
      · exact ⟨wB.2 x h, fB x h⟩
    have zab : ∀ x ∈ A ++ B, (scl n x).2 = 0 := fun x hx => by
      rcases List.mem_append.mp hx with h | h
      · exact zA x h
      · exact zB x h
    have eAB : S n A ++ S n B = S n (A ++ B) := by unfold S; rw [List.map_append]
    obtain ⟨m, _, _, r1, r2, r3, r4, r5, r6⟩ := power_fin hab (ab_len hp hq wA wB lA lB)
    obtain ⟨m', _, _, r1', r2', r3', r4', r5', r6'⟩ := power_fin (mapFin hab zab (by omega) (by omega)) (by have := ab_len hp hq wA wB lA lB; unfold S; rw [List.length_map]; exact this)
    obtain ⟨s1, s2⟩ := S_most (fun x hx => (hab x hx).1) (fun x hx => (hab x hx).2) zab (by omega) (by omega) r3 r4 r1 r3' r4' r1'
    rw [← eAB] at r5' r6'
    -- the last lines
    have fin2 : ∀ {e : Int}, e ≠ 0 → ∀ {x1 x2 x3 x4 x5 x6 x7 x8 x9 x10 x11 x12 x13 x14 x15 : Int} {t : Bool} {y1 y2 y3 : List Int}, t = true → Ev (fun K => gimballaw21_SylvPower.j2 K n e e e t x1 x2 x3 x4 x5 x6 x7 x8 x9 x10 x11 x12 x13 x14 x15 y1 y2 y3) true := by
      intro e he x1 x2 x3 x4 x5 x6 x7 x8 x9 x10 x11 x12 x13 x14 x15 t y1 y2 y3 ht
      refine Ev.succ ?_
      simp only [gimballaw21_SylvPower.j2]
      have : (e == e) = true := by simp
      rw [this]
      exact Ev.pos ht (Ev.pos (by trivial) (Ev.now _))
    have three : ∀ {X : List Int} {sc e g0 g1 g2 : Int} {ok : Bool}, (ok = true → Words (p * q) X ∧ U sc) → (ok = false → e ≠ 0) → g1 = wrap64 (g0 + n) → g2 = wrap64 (g0 - n) →
        Ev (fun K => sylv_Solve.f K p p p A q q q B p q q C a6) (sk p q ok X sc e g0 A B C) → Ev (fun K => sylv_Solve.f K p p p A q q q B p q q (S n C) a6) (sk p q ok X sc e g1 A B (S n C)) →
        Ev (fun K => sylv_Solve.f K p p p (S n A) q q q (S n B) p q q C a6) (sk p q ok X sc e g2 (S n A) (S n B) C) →
        Ev (fun K => gimballaw21_SylvPower.j1 K n a6 false p p p q q q p q q p q q p p p q q q A B C (S n C) (S n A) (S n B)) true := by
      intro X sc e g0 g1 g2 ok hok hno e1 e2 v1 v2 v3
      refine Ev.succ ?_
      simp only [gimballaw21_SylvPower.j1]
      cases ok with
      | true =>
        have hS := mat_same_ev (R := p) (C := q) (Sm.nat (by omega) (by omega)) (Sm.nat (R := p) (C := q) (by omega) (by omega)) X X
        rw [decide_eq_true ⟨rfl, rfl, fun _ _ _ _ => rfl⟩] at hS
        refine Ev.neg (by simp) (Ev.bind v1 (Ev.bind v2 (Ev.bind v3 (Ev.pos rfl (Ev.pos rfl (Ev.succ ?_))))))
        simp only [gimballaw21_SylvPower.j2]
        refine Ev.neg (by simp [sk]) (Ev.bind hS (Ev.pos (by trivial) (Ev.bind hS (Ev.pos (by trivial) (Ev.pos rfl (Ev.pos rfl (Ev.pos e1 ?_)))))))
        have : ((sk p q true X sc e g2 (S n A) (S n B) C).2.2.2.2.2.1 == wrap64 ((sk p q true X sc e g0 A B C).2.2.2.2.2.1 - n)) = true := beq_iff_eq.mpr e2
        rw [this]
        exact Ev.now _
      | false =>
        have he := hno rfl
        exact Ev.neg (by simp) (Ev.bind v1 (Ev.bind v2 (Ev.bind v3 (Ev.neg he (fin2 he rfl)))))
    by_cases cm : m = 0
    · -- both matrices are zeros
      have cm' := s1 cm
      have g1 := greatest2_ev hp hq wA wB lA lB (r5 cm)
      have g2 := greatest2_ev hp hq wA' wB' lA' lB' (r5' cm')
      exact three (X := []) (sc := 0) (e := 7) (g0 := 0) (g1 := wrap64 (0 + n)) (g2 := wrap64 (0 - n)) (ok := false) (by simp) (by decide) rfl rfl
        (solve_sing hp hq wA wB lA lB wC fA fB fC g1 uC pw0 rfl rfl) (solve_sing hp hq wA wB lA lB wC' fA fB fC' g1 uC' pw0 rfl rfl) (solve_sing hp hq wA' wB' lA' lB' wC fA' fB' fC g2 uC pw0 rfl rfl)
    · have hm : 0 < m := Int.lt_iff_le_and_ne.mpr ⟨r1, fun h => cm h.symm⟩
      obtain ⟨hm', vm'⟩ := s2 hm
      obtain ⟨g, gv, g0, g1, t1, t2⟩ := r6 hm
      obtain ⟨g', gv', g0', g1', t1', t2'⟩ := r6' hm'
      have eg : g' = g + n := by
        refine pw_between t1' t2' ?_ ?_
        · rw [vm', pw_add]; exact Rat.mul_le_mul_of_nonneg_right t1 (Rat.le_of_lt hpn)
        · rw [vm', show g + n + 1 = g + 1 + n from by omega, pw_add]; exact Rat.mul_lt_mul_of_pos_right t2 hpn
      subst eg
      have q1 := greatest2_ev hp hq wA wB lA lB gv
      have q2 := greatest2_ev hp hq wA' wB' lA' lB' gv'
      have wg : wrap64 (-g) = -g := w64 (by omega) (by omega)
      have wg' : wrap64 (-(g + n)) = -(g + n) := w64 (by omega) (by omega)
      have cA' : S (-(g + n)) (S n A) = S (-g) A := by
        rw [S_comp (-(g + n)) wA.2 fA zA (by omega) (by omega) (by omega) (by omega) (by omega) (by omega)]
        congr 1; omega
      have cB' : S (-(g + n)) (S n B) = S (-g) B := by
        rw [S_comp (-(g + n)) wB.2 fB zB (by omega) (by omega) (by omega) (by omega) (by omega) (by omega)]
        congr 1; omega
      obtain ⟨ok, X, sc, e, o1, o2, ev⟩ := sol_ev hp hq (S_words wA (-g)) (S_words wB (-g)) wU (minus := a6)
      have w1 : wrap64 (f - g) = f - g := w64 (by omega) (by omega)
      have w2 : wrap64 (f + n - g) = f + n - g := w64 (by omega) (by omega)
      have w3 : wrap64 (f - (g + n)) = f - (g + n) := w64 (by omega) (by omega)
      refine three (g0 := f - g) (g1 := f + n - g) (g2 := f - (g + n)) o1 o2 (by rw [show f - g + n = f + n - g from by omega, w2]) (by rw [show f - g - n = f - (g + n) from by omega, w3]) ?_ ?_ ?_
      · exact solve_run hp hq wA wB lA lB wC fA fB fC q1 uC pw0 rfl rfl (by rw [wg, w1]; exact ev _ _ _ _)
      · exact solve_run hp hq wA wB lA lB wC' fA fB fC' q1 uC' pw0 rfl rfl (by rw [wg, w2]; exact ev _ _ _ _)
      · exact solve_run hp hq wA' wB' lA' lB' wC fA' fB' fC q2 uC pw0 rfl rfl (by rw [wg', w3, cA', cB']; exact ev _ _ _ _)
end Go.Proofs.YtejkoahgmnejkaaDoor.Pure

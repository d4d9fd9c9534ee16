/- SolveOnes: the identity leads back to any list; a diagonal of powers of two exactly; for every input. -/
import Derived.Test.YtnjobojkoaknpaaTDiaS
import Derived.Test.YtnjobojkoaknpaaFx10
import Derived.Test.YtnjobojkoaknpaaFx15
import Derived.Test.YtnjobojkoaknpaaFx17
namespace Go.Proofs.Ytnjobojkoaknpaa.Pure
open Gim Go Go.RowKit Go.Proofs.Ytnjobojkoaknpaa.F Go.Proofs.YtnjobojkoaknpaaW.PrintWords Go.Proofs.YtnjobojkoaknpaaW.PrintLast
set_option linter.unusedVariables false
set_option linter.unusedSectionVars false

theorem head_ok : gimballaw12_head.f 200 = some true := by decide +kernel
theorem head_ev : Ev (fun k => gimballaw12_head.f k) true := Ev.of (fun k => gimballaw12_head.mono k) head_ok
theorem near_all : ∀ i : Fin 64, (dyad_Num_Near.f 300 false [1] ((i.val : Int) - 32)).map Prod.fst = some (pat ((i.val : Int) - 32)) := by decide +kernel
theorem near_two {q : Int} (h1 : -32 ≤ q) (h2 : q ≤ 31) : ∃ f, Ev (fun k => dyad_Num_Near.f k false [1] q) (pat q, f) := by
  have h := near_all ⟨(q + 32).toNat, by omega⟩
  have e : (((q + 32).toNat : Nat) : Int) - 32 = q := by omega
  simp only [e] at h
  obtain ⟨⟨a, f⟩, e1, e2⟩ := Option.map_eq_some_iff.mp h
  simp only at e2
  subst e2
  exact ⟨f, Ev.of (fun k => dyad_Num_Near.mono _ _ _ k) e1⟩
theorem two_eq {q : Int} (h1 : -32 ≤ q) (h2 : q ≤ 31) : dyad_Two.f q = some (false, [1], q) := by
  unfold dyad_Two.f mx mn
  congr 3
  grind
theorem and63 (x : Int) : Go.bits .and .i64 x 63 = x % 64 := i64_and 6 (by decide) x
/-- Numbers that are told about. -/
def good (x : Int) : Prop := fin x ∧ (mag x = 0 ∨ 100 ≤ x / 4503599627370496 % 2048 ∧ x / 4503599627370496 % 2048 ≤ 1900)
def dg (t : Nat) (P : Nat → Int) (i k : Nat) : Int := if i = k ∧ i < t then P i else 0
theorem dia_U (n : Nat) : ∀ x ∈ gat n n (dia n), U x := gat_U fun i k => by unfold dia; split; exact one_fin.1; exact U_zero_
section
variable {n : Nat} (hn : n ≤ 12) {x : List Int} (wx : Words n x)
include hn wx
theorem compare {a z : List Int} (la : a.length = n) (lz : z.length = n) (ha : ∀ i : Nat, i < n → mag (rd x (i : Int)) ≠ 0 → rd a (i : Int) = rd x (i : Int)) (hz : ∀ i : Nat, i < n → mag (rd x (i : Int)) ≠ 0 → rd z (i : Int) = rd x (i : Int)) :
    ∀ m i, i + m = n → Ev (fun K => gimballaw12_SolveOnes.l1 K x a z n i) true := by
  intro m
  induction m with
  | zero => intro i h1
            refine Ev.succ ?_
            simp only [gimballaw12_SolveOnes.l1]
            exact Ev.neg (by omega) (Ev.now _)
  | succ m ih =>
    intro i h1
    have hh := ih (i + 1) (by omega)
    have hi : i < n := by omega
    have hlen := wx.1
    have u : U (rd x (i : Int)) := rd_U wx.2 i
    have ab := word_Abs_eq u
    have A := ha i hi
    have Z := hz i hi
    refine Ev.succ ?_
    simp only [gimballaw12_SolveOnes.l1]
    rw [w64 (x := (i : Int) + 1) (by omega) (by omega)]
    refine Ev.pos (by omega) (Ev.pos (by omega) (Ev.pos (by omega) (Ev.pos (by omega) ?_)))
    have second : Ev (fun K => if rd z (i : Int) = rd x (i : Int) then gimballaw12_SolveOnes.l1 K x a z n ((i : Int) + 1)
        else (word_Abs.f (rd x (i : Int))).bind fun t => if t = 0 then gimballaw12_SolveOnes.l1 K x a z n ((i : Int) + 1) else some false) true := by
      by_cases c : rd z (i : Int) = rd x (i : Int)
      · exact Ev.pos c hh
      · refine Ev.neg c (Ev.call ab (Ev.pos ?_ hh))
        exact Decidable.byContradiction fun h => c (Z h)
    by_cases c : rd a (i : Int) = rd x (i : Int)
    · exact Ev.pos c (Ev.pos (by omega) second)
    · refine Ev.neg c (Ev.call ab (Ev.pos ?_ (Ev.pos (by omega) second)))
      exact Decidable.byContradiction fun h => c (A h)
theorem diaU {t : Nat} {P : Nat → Int} (hP : ∀ i, U (P i)) : ∀ y ∈ gat n n (dg t P), U y := gat_U fun i k => by unfold dg; split; exact hP i; exact U_zero_
/-- What both lists come to. -/
theorem final {up : Bool} {P q : Nat → Int} (hq : ∀ i, -32 ≤ q i ∧ q i ≤ 31 ∧ P i = pat (q i)) (hg : ∀ i : Nat, i < n → good (rd x (i : Int))) {e : Int} :
    Ev (fun K => gimballaw12_SolveOnes.l0 K x [] up n (nRun n (fun i k => at4 n n n (gat n n (dia n)) i k) up false 0 n x) 0 n n n n (gat n n (dg n P))) true ∧
    ∀ p, Ev (fun K => gimballaw12_SolveOnes.l0 K x p up n (nRun n (fun i k => at4 n n n (gat n n (dia n)) i k) up false 0 n x) 0 n n n n (gat n n (dg n P))) true := by
  have PU : ∀ i, U (P i) := fun i => by obtain ⟨a, b, c⟩ := hq i; rw [c]; exact (pat_ok a b).1
  have wd : Words (n * n) (gat n n (dg n P)) := ⟨gat_length, diaU hn wx PU⟩
  have w1 : Words (n * n) (gat n n (dia n)) := ⟨gat_length, dia_U n⟩
  have hA := at_UU (show n ≤ 100 by omega) wd
  have hB := at_UU (show n ≤ 100 by omega) w1
  have fx : ∀ i : Nat, i < n → fin (rd x (i : Int)) := fun i hi => (hg i hi).1
  -- the identity
  have ra := dia_solve (A := fun i k => at4 n n n (gat n n (dia n)) i k) hB (fun i k hi hk hne => by show at4 n n n _ _ _ = 0; rw [at_gat hi hk]; unfold dia; rw [if_neg (by omega)])
    (P := fun _ => ONE) (c := fun i => rd x (i : Int)) (fun i hi => by
      refine ⟨?_, one_fin.2.1, by decide⟩
      show at4 n n n _ _ _ = ONE
      rw [at_gat hi hi]; unfold dia; rw [if_pos ⟨rfl, hi⟩]) wx fx (fun i hi hm => by
      refine ⟨quo_ex (rd_U wx.2 i) (fx i hi) hm (rd_U wx.2 i) (fx i hi) one_fin.1 one_fin.2.1 (by decide) (by rw [one_fin.2.2, Rat.mul_one]), fx i hi⟩) (up := up)
  -- the diagonal
  have ed : ∀ i, i < n → at4 n n n (gat n n (dg n P)) i i = P i := fun i hi => by rw [at_gat hi hi]; unfold dg; rw [if_pos ⟨rfl, hi⟩]
  have e0 : ∀ i k, i < n → k < n → i ≠ k → at4 n n n (gat n n (dg n P)) i k = 0 := fun i k hi hk hne => by rw [at_gat hi hk]; unfold dg; rw [if_neg (by omega)]
  have ey := trmv_ev (show n ≤ 100 by omega) wd wx (up := up) (one := false)
  generalize hy : cnt n (vOne n (fun i k => at4 n n n (gat n n (dg n P)) i k) up false (fun k => rd x (k : Int))) = y at ey
  have U0 : ∀ i : Nat, U (rd x (i : Int)) := fun i => rd_U wx.2 i
  have vU : ∀ i, U (vOne n (fun i k => at4 n n n (gat n n (dg n P)) i k) up false (fun k => rd x (k : Int)) i) := by
    intro i
    unfold vOne
    rw [if_neg (by simp)]
    exact vSum_U (hA i) U0 _ _ _ (mv_U (hA i i) (U0 i))
  have wy : Words n y := by rw [← hy]; exact ⟨cnt_len _ _, cnt_U vU⟩
  have ry : ∀ i : Nat, i < n → (mag (rd x (i : Int)) ≠ 0 → rd y (i : Int) = sh (rd x (i : Int)) (q i)) ∧ (mag (rd x (i : Int)) = 0 → mag (rd y (i : Int)) = 0) := by
    intro i hi
    obtain ⟨q1, q2, q3⟩ := hq i
    obtain ⟨p1, p2, p3, p4, p5⟩ := pat_ok q1 q2
    rw [← hy, cnt_rd _ hi]
    unfold vOne
    rw [if_neg (by simp)]
    have nought : ∀ k, loOf up i ≤ k → k < loOf up i + cntOf n up i → U (mv (at4 n n n (gat n n (dg n P)) i k) (rd x (k : Int))) ∧ mag (mv (at4 n n n (gat n n (dg n P)) i k) (rd x (k : Int))) = 0 := by
      intro k a b
      have hk : k < n ∧ k ≠ i := by
        unfold loOf at a b
        unfold cntOf at b
        split at b <;> simp_all <;> omega
      refine ⟨mv_U (hA i k) (U0 k), ?_⟩
      rw [e0 i k hi hk.1 (by omega)]
      exact mv_nought U_zero_ (U0 k) fin_zero (fx k hk.1) (.inl (by decide))
    have s0 : mv (at4 n n n (gat n n (dg n P)) i i) (rd x (i : Int)) = mv (pat (q i)) (rd x (i : Int)) := by rw [ed i hi, q3]
    constructor
    · intro hm
      have g := (hg i hi).2.resolve_left hm
      have e1 := mv_pat (U0 i) g.1 g.2 q1 q2 (fx i hi)
      obtain ⟨s1, s2, s3, s4⟩ := sh_ok (U0 i) g.1 g.2 q1 q2
      rw [s0, e1]
      exact (vSum_rel s1 s2 _ _ _ nought (rel_refl s1)).2.1 s3
    · intro hm
      have z0 : mag (mv (pat (q i)) (rd x (i : Int))) = 0 := mv_nought p1 (U0 i) p2 (fx i hi) (.inr hm)
      rw [s0]
      exact (vSum_rel (mv_U p1 (U0 i)) (fin_of_mag z0) _ _ _ nought (rel_refl (mv_U p1 (U0 i)))).2.2 z0
  have ny : ∀ i : Nat, i < n → (mag (rd x (i : Int)) ≠ 0 → mag (rd y (i : Int)) ≠ 0) ∧ fin (rd y (i : Int)) := by
    intro i hi
    obtain ⟨q1, q2, q3⟩ := hq i
    obtain ⟨r1, r2⟩ := ry i hi
    by_cases hm : mag (rd x (i : Int)) = 0
    · exact ⟨fun h => absurd hm h, fin_of_mag (r2 hm)⟩
    · have g := (hg i hi).2.resolve_left hm
      obtain ⟨s1, s2, s3, s4⟩ := sh_ok (U0 i) g.1 g.2 q1 q2
      rw [r1 hm]
      exact ⟨fun _ => s3, s2⟩
  have rz := dia_solve (A := fun i k => at4 n n n (gat n n (dg n P)) i k) hA e0 (P := P) (c := fun i => rd x (i : Int)) (fun i hi => by
      obtain ⟨q1, q2, q3⟩ := hq i
      obtain ⟨p1, p2, p3, p4, p5⟩ := pat_ok q1 q2
      exact ⟨ed i hi, by rw [q3]; exact p2, by rw [q3]; exact p3⟩) wy (fun i hi => (ny i hi).2) (fun i hi hm => by
      obtain ⟨q1, q2, q3⟩ := hq i
      obtain ⟨r1, r2⟩ := ry i hi
      have hmx : mag (rd x (i : Int)) ≠ 0 := fun h => hm (r2 h)
      have g := (hg i hi).2.resolve_left hmx
      refine ⟨?_, fx i hi⟩
      rw [r1 hmx, q3]
      exact quo_sh (U0 i) g.1 g.2 q1 q2 (fx i hi) hmx) (up := up)
  have nb : ∀ j, j < n → ¬ bad n (gat n n (dg n P)) false j := by
    intro j hj h
    obtain ⟨q1, q2, q3⟩ := hq j
    have := h.2
    rw [ed j hj, q3] at this
    exact (pat_ok q1 q2).2.2.1 this
  have ez := trsvn_ev (show n ≤ 100 by omega) wd (up := up) (one := false) wy nb
  have la := (nRun_W hB (up := up) (one := false) n 0 x (by omega) wx).1
  have lz := (nRun_W hA (up := up) (one := false) n 0 y (by omega) wy).1
  have all : ∀ p, Ev (fun K => gimballaw12_SolveOnes.l0 K x p up n (nRun n (fun i k => at4 n n n (gat n n (dia n)) i k) up false 0 n x) 0 n n n n (gat n n (dg n P))) true := by
    intro p
    have hlen := wx.1
    refine Ev.succ ?_
    simp only [gimballaw12_SolveOnes.l0]
    refine Ev.neg (by omega) (Ev.bind ey (Ev.bind ez (Ev.pos trivial (Ev.pos rfl (Ev.succ ?_)))))
    simp only [gimballaw12_SolveOnes.j3]
    rw [hlen]
    exact Ev.neg (by simp) (compare hn wx la lz ra (fun i hi hm => rz i hi ((ny i hi).1 hm)) n 0 (by omega))
  exact ⟨all [], all⟩
theorem set_dg {t : Nat} (ht : t < n) (P : Nat → Int) (v : Int) : set4 n n n (gat n n (dg t P)) t t v = gat n n (dg (t + 1) (fun i => if i = t then v else P i)) := by
  rw [set_gat ht ht]
  apply gat_congr
  intro i k hi hk
  unfold dg
  by_cases c : i = k
  · subst c
    by_cases c2 : i = t
    · subst c2; rw [if_pos ⟨rfl, rfl⟩, if_pos ⟨rfl, by omega⟩]; exact (if_pos rfl).symm
    · rw [if_neg (by omega)]
      by_cases c3 : i < t
      · rw [if_pos ⟨rfl, c3⟩, if_pos ⟨rfl, by omega⟩]; exact (if_neg c2).symm
      · rw [if_neg (by omega), if_neg (by omega)]
  · rw [if_neg (by omega), if_neg (by omega), if_neg (by omega)]
theorem l0_ev {up : Bool} {p : List Int} (hp : p.length ≤ 12) : ∀ m t, t + m = n → ∀ P q : Nat → Int, (∀ i, -32 ≤ q i ∧ q i ≤ 31 ∧ P i = pat (q i)) → (∀ i : Nat, i < t → good (rd x (i : Int))) →
    Ev (fun K => gimballaw12_SolveOnes.l0 K x p up n (nRun n (fun i k => at4 n n n (gat n n (dia n)) i k) up false 0 n x) 0 t n n n (gat n n (dg t P))) true := by
  intro m
  induction m with
  | zero =>
    intro t ht P q hq hg
    obtain rfl : t = n := by omega
    exact (final hn wx hq hg (e := 0)).2 p
  | succ m ih =>
    intro t ht P q hq hg
    have hi : t < n := by omega
    have hlen := wx.1
    have u : U (rd x (t : Int)) := rd_U wx.2 t
    -- the diagonal's next number
    have next : ∀ v : Int, -32 ≤ v → v ≤ 31 → Ev (fun K => gimballaw12_SolveOnes.j2 K x p up n (nRun n (fun i k => at4 n n n (gat n n (dia n)) i k) up false 0 n x) 0 t v n n n (gat n n (dg t P))) true := by
      intro v v1 v2
      obtain ⟨f, ev⟩ := near_two v1 v2
      have hh : good (rd x (t : Int)) → Ev (fun K => gimballaw12_SolveOnes.l0 K x p up n (nRun n (fun i k => at4 n n n (gat n n (dia n)) i k) up false 0 n x) 0 ((t + 1 : Nat) : Int) n n n (gat n n (dg (t + 1) (fun i => if i = t then pat v else P i)))) true := by
        intro g
        refine ih (t + 1) (by omega) (fun i => if i = t then pat v else P i) (fun i => if i = t then v else q i) ?_ ?_
        · intro i
          by_cases c : i = t
          · rw [if_pos c, if_pos c]; exact ⟨v1, v2, rfl⟩
          · rw [if_neg c, if_neg c]; exact hq i
        · intro i hi2
          by_cases c : i = t
          · subst c; exact g
          · exact hg i (by omega)
      refine Ev.succ ?_
      simp only [gimballaw12_SolveOnes.j2]
      rw [two_eq v1 v2]
      refine Ev.call rfl (Ev.bind ev ?_)
      rw [set_eq (Sm.nat (by omega) (by omega)), set_dg hn wx hi, word_Finite_eq u, w64 (x := (t : Int) + 1) (by omega) (by omega)]
      refine Ev.call rfl (Ev.pos (by omega) (Ev.pos (by omega) (Ev.call rfl ?_)))
      by_cases c : fin (rd x (t : Int))
      · refine Ev.pos (decide_eq_true c) (Ev.call (word_Abs_eq u) ?_)
        by_cases c2 : mag (rd x (t : Int)) = 0
        · exact Ev.pos c2 (hh ⟨c, .inl c2⟩)
        · refine Ev.neg c2 (Ev.call (word_Exp_eq u) ?_)
          by_cases c3 : rd x (t : Int) / 4503599627370496 % 2048 < 100
          · exact Ev.pos c3 (Ev.now _)
          · refine Ev.neg c3 ?_
            by_cases c4 : rd x (t : Int) / 4503599627370496 % 2048 > 1900
            · exact Ev.pos c4 (Ev.now _)
            · exact Ev.neg c4 (hh ⟨c, .inr ⟨by omega, by omega⟩⟩)
      · exact Ev.neg (by simp [c]) (Ev.now _)
    refine Ev.succ ?_
    simp only [gimballaw12_SolveOnes.l0]
    refine Ev.pos (by omega) ?_
    by_cases c : (p.length : Int) > 0
    · have i0 : 0 ≤ Int.tmod (t : Int) (p.length : Int) := Int.tmod_nonneg _ (by omega)
      have i1 : Int.tmod (t : Int) (p.length : Int) < (p.length : Int) := Int.tmod_lt_of_pos _ c
      refine Ev.pos c (Ev.neg (by omega) (Ev.pos i0 (Ev.pos i1 ?_)))
      clear i0 i1
      generalize rd p (Int.tmod (t : Int) (p.length : Int)) = v
      rw [and63, w64 (x := v % 64 - 32) (by omega) (by omega)]
      exact next _ (by omega) (by omega)
    · exact Ev.neg c (next 0 (by decide) (by decide))
end
theorem SolveOnes : gimballaw12_SolveOnes.Pure := by
  intro x p up _ _ wx _ _ _
  have hx : ∀ y ∈ x, U y := fun y hy => U_of_wf (wx y hy)
  apply Ev.rounds
  unfold gimballaw12_SolveOnes.f
  refine Ev.bind head_ev (Ev.pos rfl ?_)
  have out : ∀ {b : Bool}, b = true → Ev (fun K => gimballaw12_SolveOnes.j0 K x p up b) true := by
    intro b hb
    subst hb
    refine Ev.succ ?_
    simp only [gimballaw12_SolveOnes.j0]
    exact Ev.pos (by simp) (Ev.now _)
  by_cases h1 : (x.length : Int) > 12
  · exact Ev.pos h1 (out rfl)
  refine Ev.neg h1 ?_
  by_cases h2 : (p.length : Int) > 12
  · exact out (decide_eq_true h2)
  have W : Words x.length x := ⟨rfl, hx⟩
  have hn : x.length ≤ 12 := by omega
  have w1 : Words (x.length * x.length) (gat x.length x.length (dia x.length)) := ⟨gat_length, dia_U _⟩
  have nb : ∀ j, j < x.length → ¬ bad x.length (gat x.length x.length (dia x.length)) false j := by
    intro j hj h
    have := h.2
    rw [at_gat hj hj] at this
    unfold dia at this
    rw [if_pos ⟨rfl, hj⟩] at this
    exact absurd this (by decide)
  rw [decide_eq_false h2]
  refine Ev.succ ?_
  simp only [gimballaw12_SolveOnes.j0]
  refine Ev.neg (by simp) (Ev.bind (one_ev (by omega)) (Ev.bind (trsvn_ev (show x.length ≤ 100 by omega) w1 (up := up) (one := false) W nb) (Ev.call (new_eq (by omega) (by omega)) ?_)))
  have z : List.replicate (x.length * x.length) (0 : Int) = gat x.length x.length (dg 0 (fun _ => pat 0)) := by
    rw [gat_const]
    exact gat_congr fun i k _ _ => by unfold dg; rw [if_neg (by omega)]
  dsimp only
  rw [z]
  exact l0_ev hn W (by omega) x.length 0 (by omega) (fun _ => pat 0) (fun _ => 0) (fun _ => ⟨by decide, by decide, rfl⟩) (fun i hi => by omega)
end Go.Proofs.Ytnjobojkoaknpaa.Pure

/- SolvePivots: an answer of up to four equations is near, row by row, where nothing was too great or too small; what is no such system is refused. -/
import Derived.Test.YtikebaljjclbnaaDoorTx2
import Derived.Test.YtikebaljjclbnaaDoorRx0
set_option linter.constructorNameAsVariable false
set_option linter.unusedSimpArgs false
set_option linter.unusedVariables false
set_option linter.unusedSectionVars false
namespace Go.Proofs.YtikebaljjclbnaaDoor.Pure
open Gim Go Go.RowKit Go.Proofs.YtikebaljjclbnaaDoor.F Go.Proofs.YtikebaljjclbnaaDoorW.PrintWords Go.Proofs.YtikebaljjclbnaaDoorW.PrintLast
set_option linter.unusedVariables false
set_option linter.unusedSectionVars false

theorem exact_ev {a : Int} (ha : U a) (fa : fin a) : ∃ r l f, Ev (fun K => gimballaw12_exact.f K a) (r, l, f) ∧ Nm 1074 (val a) r l f := by
  obtain ⟨r, l, f, ev, nm⟩ := of_ev rfl ha fa
  refine ⟨r, l, f, ?_, nm⟩
  unfold gimballaw12_exact.f
  exact Ev.bind ev (Ev.now _)
noncomputable def xv (x : List Int) (j : Nat) : Rat := if fin (rd x (j : Int)) then val (rd x (j : Int)) else 0
theorem exact_any {x : List Int} {j : Nat} (hu : U (rd x (j : Int))) : ∃ r l f, Ev (fun K => gimballaw12_exact.f K (rd x (j : Int))) (r, l, f) ∧ Nm 1074 (xv x j) r l f := by
  by_cases c : fin (rd x (j : Int))
  · obtain ⟨r, l, f, ev, nm⟩ := exact_ev hu c
    exact ⟨r, l, f, ev, by unfold xv; rw [if_pos c]; exact nm⟩
  · refine ⟨false, [], 0, ⟨0, fun K _ => ?_⟩, by unfold xv; rw [if_neg c]; exact Nm.zero (by decide)⟩
    show gimballaw12_exact.f K _ = _
    unfold gimballaw12_exact.f
    rw [of_none hu c]
    rfl
theorem rsgn_le {x : Rat} (h : x ≤ 0) : ¬ rsgn x > 0 := by
  unfold rsgn
  split
  · decide
  · split
    · decide
    · rename_i h1 h2
      exfalso
      grind
theorem rsgn_gt {x : Rat} (h : ¬ rsgn x > 0) : x ≤ 0 := by
  unfold rsgn at h
  split at h
  · rename_i e; rw [e]; exact Rat.le_refl
  · split at h
    · rename_i e; exact Rat.le_of_lt e
    · exact absurd (show (1 : Int) > 0 by decide) h
section
variable {n : Nat} (hn : n ≤ 4) {d b x : List Int} (wd : Words (n * n) d) (fd : ∀ y ∈ d, fin y) (wb : Words n b) (wx : Words n x) (fx : ∀ i : Nat, i < n → fin (rd x (i : Int))) {ls : Int} {told : Bool}
include hn wd fd wb wx fx
/-- A row, multiplied out. -/
theorem row_l3 {i : Nat} (hi : i < n) {B S : Rat} {b1 : Bool} {b2 : List Int} {b3 : Int} {s1 : Bool} {s2 : List Int} {s3 : Int} (nB : Nm 2300 B b1 b2 b3) (nS : Nm 1200 S s1 s2 s3) (fb : fin (rd b (i : Int)))
    (hb : rabs (rs (fun j => val (at4 n n n d i j) * val (rd x (j : Int))) 0 n - val (rd b (i : Int))) ≤ B * S) (h : Ev (fun K => gimballaw12_SolvePivots.l2 K n b x ((i + 1 : Nat) : Int) n n n s1 s2 s3 b1 b2 b3 d) true) :
    ∀ t j : Nat, n - j = t → j ≤ n → ∀ (A : Rat) (r : Bool) (l : List Int) (e : Int), Nm (2148 + (j : Int)) A r l e → A + rs (fun j => val (at4 n n n d i j) * val (rd x (j : Int))) j (n - j) = rs (fun j => val (at4 n n n d i j) * val (rd x (j : Int))) 0 n →
      Ev (fun K => gimballaw12_SolvePivots.l3 K n b x i j n n n s1 s2 s3 b1 b2 b3 r l e d) true := by
  intro t
  have lb := wb.1
  have lx := wx.1
  induction t with
  | zero =>
    intro j h1 h2 A r l e nA hA
    obtain rfl : j = n := by omega
    have ub : U (rd b (i : Int)) := rd_U wb.2 i
    obtain ⟨p1, p2, p3, ep, np⟩ := exact_ev ub fb
    obtain ⟨q1, q2, q3, eq, nq⟩ := num_sub_ev (E := 2148 + (j : Int)) (by omega) (by omega) nA (np.mono (by omega))
    obtain ⟨ab, nab⟩ := abs_ev nq
    obtain ⟨m1, m2, m3, em, nm⟩ := num_mul_ev (by decide) (by decide) (by decide) (by decide) nB nS
    have ec := num_cmp_ev (E := 3500) (by decide) (by decide) (nab.mono (by omega)) (nm.mono (by omega))
    rw [Nat.sub_self] at hA
    simp only [rs] at hA
    rw [Rat.add_zero] at hA
    rw [← hA] at hb
    refine Ev.succ ?_
    simp only [gimballaw12_SolvePivots.l3]
    rw [wn (x := i) (by omega)]
    exact Ev.neg (by omega) (Ev.pos (by omega) (Ev.pos (by omega) (Ev.bind ep (Ev.bind eq (Ev.call ab (Ev.bind em (Ev.bind ec (Ev.neg (rsgn_le (by grind)) h))))))))
  | succ t ih =>
    intro j h1 h2 A r l e nA hA
    have hj : j < n := by omega
    have ua : U (at4 n n n d i j) := at_U wd.2 _ _
    have fa : fin (at4 n n n d i j) := by
      rw [at_dense wd.1 hi hj]
      have := place_lt hi hj
      have hl := wd.1
      exact fd _ (rd_mem (by omega) (by omega))
    obtain ⟨p1, p2, p3, ep, np⟩ := exact_ev ua fa
    obtain ⟨q1, q2, q3, eq, nq⟩ := exact_ev (rd_U wx.2 j) (fx j hj)
    obtain ⟨m1, m2, m3, em, nm⟩ := num_mul_ev (by decide) (by decide) (by decide) (by decide) np nq
    obtain ⟨a1, a2, a3, ea, na⟩ := num_add_ev (E := 2148 + (j : Int)) (by omega) (by omega) nA (nm.mono (by omega))
    have hh := ih (j + 1) (by omega) (by omega) _ a1 a2 a3 (na.mono (by omega)) (by
      rw [← hA, show n - j = n - (j + 1) + 1 from by omega]
      simp only [rs]
      grind)
    refine Ev.succ ?_
    simp only [gimballaw12_SolvePivots.l3]
    rw [wn (x := j) (by omega)]
    exact Ev.pos (by omega) (Ev.call (ap n hn d i j) (Ev.bind ep (Ev.pos (by omega) (Ev.pos (by omega) (Ev.bind eq (Ev.bind em (Ev.bind ea hh)))))))
theorem rows_l2 {B S : Rat} {b1 : Bool} {b2 : List Int} {b3 : Int} {s1 : Bool} {s2 : List Int} {s3 : Int} (nB : Nm 2300 B b1 b2 b3) (nS : Nm 1200 S s1 s2 s3) (fb : ∀ i : Nat, i < n → fin (rd b (i : Int)))
    (hb : ∀ i, i < n → rabs (rs (fun j => val (at4 n n n d i j) * val (rd x (j : Int))) 0 n - val (rd b (i : Int))) ≤ B * S) : ∀ t i : Nat, n - i = t → Ev (fun K => gimballaw12_SolvePivots.l2 K n b x i n n n s1 s2 s3 b1 b2 b3 d) true := by
  intro t
  induction t with
  | zero =>
    intro i h1
    refine Ev.succ ?_
    simp only [gimballaw12_SolvePivots.l2]
    exact Ev.neg (by omega) (Ev.now _)
  | succ t ih =>
    intro i h1
    refine Ev.succ ?_
    simp only [gimballaw12_SolvePivots.l2]
    refine Ev.pos (by omega) (row_l3 hn wd fd wb wx fx (by omega) nB nS (fb i (by omega)) (hb i (by omega)) (ih (i + 1) (by omega)) n 0 (by omega) (by omega) 0 false [] 0 ((Nm.zero (E := 2148) (by decide)).mono (by omega)) ?_)
    rw [Nat.sub_zero]; grind
end
section
variable {n : Nat} (hn : n ≤ 4) {d b x : List Int} (wd : Words (n * n) d) (fd : ∀ y ∈ d, fin y) (wb : Words n b) (wx : Words n x) (fx : (∀ i : Nat, i < n → fin (rd b (i : Int))) → ∀ i : Nat, i < n → fin (rd x (i : Int))) {ls : Int} {told : Bool}
include hn wd fd wb wx fx
/-- The sum of the answer's magnitudes; then the bound. -/
theorem sum_l1 (ul_ : U ls) (fl : fin ls) {mx : Rat} {m1 : Bool} {m2 : List Int} {m3 : Int} (nM : Nm 1074 mx m1 m2 m3)
    (hb : (∀ i : Nat, i < n → fin (rd b (i : Int))) → ∀ i, i < n → rabs (rs (fun j => val (at4 n n n d i j) * val (rd x (j : Int))) 0 n - val (rd b (i : Int))) ≤ (mx * 1000 * pw (-53) + (if told then val ls * 4 else 0)) * rs (fun j => rabs (val (rd x (j : Int)))) 0 n) :
    ∀ t i : Nat, n - i = t → i ≤ n → (∀ j : Nat, j < i → fin (rd b (j : Int))) → ∀ (S : Rat) (r : Bool) (l : List Int) (e : Int), Nm (1074 + (i : Int)) S r l e → S + rs (fun j => rabs (xv x j)) i (n - i) = rs (fun j => rabs (xv x j)) 0 n →
      Ev (fun K => gimballaw12_SolvePivots.l1 K n ls b x told i n n n m1 m2 m3 r l e d) true := by
  intro t
  have lb := wb.1
  have lx := wx.1
  induction t with
  | zero =>
    intro i h1 h2 hf S r l e nS hS
    obtain rfl : i = n := by omega
    rw [Nat.sub_self] at hS
    simp only [rs] at hS
    rw [Rat.add_zero] at hS
    have hbb := hb hf
    have fxx := fx hf
    rw [rs_congr i 0 (g := fun j => rabs (val (rd x (j : Int)))) (g' := fun j => rabs (xv x j)) (fun j _ hj => by unfold xv; rw [if_pos (fxx j (by omega))]), ← hS] at hbb
    obtain ⟨i1, i2, i3, ei, ni⟩ := int_ev (z := 1000) (by decide) (by decide)
    obtain ⟨k1, k2, k3, ek, nk⟩ := num_mul_ev (E := 1074) (E' := 64) (by decide) (by decide) (by decide) (by decide) nM ni
    obtain ⟨t0, nt⟩ := two_ev (E := 53) (a := -53) (by decide) (by decide) (by decide) (by decide)
    obtain ⟨p1, p2, p3, ep, np⟩ := num_mul_ev (E := 1074 + 64) (E' := 53) (by decide) (by decide) (by decide) (by decide) nk nt
    have last : ∀ {B : Rat} {b1 : Bool} {b2 : List Int} {b3 : Int}, Nm 2300 B b1 b2 b3 → B = mx * 1000 * pw (-53) + (if told then val ls * 4 else 0) → Ev (fun K => gimballaw12_SolvePivots.j4 K i b x i i i r l e b1 b2 b3 d) true := by
      intro B b1 b2 b3 nB eB
      refine Ev.succ ?_
      simp only [gimballaw12_SolvePivots.j4]
      exact rows_l2 hn wd fd wb wx fxx nB (nS.mono (by omega)) hf (fun q hq => by rw [eB]; exact hbb q hq) i 0 (by omega)
    refine Ev.succ ?_
    simp only [gimballaw12_SolvePivots.l1]
    refine Ev.neg (by omega) (Ev.bind ei (Ev.bind ek (Ev.call t0 (Ev.bind ep ?_))))
    cases told with
    | true =>
      obtain ⟨u1, u2, u3, eu, nu⟩ := exact_ev ul_ fl
      obtain ⟨v1, v2, v3, ev, nv_⟩ := int_ev (z := 4) (by decide) (by decide)
      obtain ⟨w1, w2, w3, ew, nw⟩ := num_mul_ev (E := 1074) (E' := 64) (by decide) (by decide) (by decide) (by decide) nu nv_
      obtain ⟨a1, a2, a3, ea, na⟩ := num_add_ev (E := 1200) (by decide) (by decide) (np.mono (by decide)) (nw.mono (by decide))
      exact Ev.pos (by trivial) (Ev.bind eu (Ev.bind ev (Ev.bind ew (Ev.bind ea (last (na.mono (by decide)) (by rw [if_pos rfl]; push_cast; rfl))))))
    | false => exact Ev.neg (by simp) (last (np.mono (by decide)) (by rw [if_neg (by decide)]; push_cast; grind))
  | succ t ih =>
    intro i h1 h2 hf S r l e nS hS
    have hi : i < n := by omega
    have ub := rd_U wb.2 i
    refine Ev.succ ?_
    simp only [gimballaw12_SolvePivots.l1]
    rw [wn (by omega)]
    refine Ev.pos (by omega) (Ev.pos (by omega) (Ev.pos (by omega) (Ev.call (word_Finite_eq ub) ?_)))
    by_cases c : fin (rd b (i : Int))
    · obtain ⟨p1, p2, p3, ep, np⟩ := exact_any (rd_U wx.2 i)
      obtain ⟨ab, nab⟩ := abs_ev np
      obtain ⟨a1, a2, a3, ea, na⟩ := num_add_ev (E := 1074 + (i : Int)) (by omega) (by omega) nS (nab.mono (by omega))
      refine Ev.pos (by simp [c]) (Ev.pos (by omega) (Ev.bind ep (Ev.call ab (Ev.bind ea (ih (i + 1) (by omega) (by omega) (fun j hj => ?_) _ a1 a2 a3 (na.mono (by omega)) ?_)))))
      · by_cases e : j = i
        · rw [e]; exact c
        · exact hf j (by omega)
      · rw [← hS, show n - i = n - (i + 1) + 1 from by omega]
        simp only [rs]
        grind
    · exact Ev.neg (by simp [c]) (Ev.now _)
/-- The greatest magnitude of the matrix. -/
theorem most_l0 (ul_ : U ls) (fl : fin ls)
    (hb : ∀ mx : Rat, 0 ≤ mx → (∀ y ∈ d, rabs (val y) ≤ mx) → (∀ i : Nat, i < n → fin (rd b (i : Int))) → ∀ i, i < n → rabs (rs (fun j => val (at4 n n n d i j) * val (rd x (j : Int))) 0 n - val (rd b (i : Int))) ≤ (mx * 1000 * pw (-53) + (if told then val ls * 4 else 0)) * rs (fun j => rabs (val (rd x (j : Int)))) 0 n) :
    ∀ t k : Nat, d.length - k = t → k ≤ d.length → ∀ (mx : Rat) (r : Bool) (l : List Int) (e : Int), Nm 1074 mx r l e → 0 ≤ mx → (∀ j : Nat, j < k → rabs (val (rd d (j : Int))) ≤ mx) →
      Ev (fun K => gimballaw12_SolvePivots.l0 K n ls b x told d d.length k n n n r l e) true := by
  intro t
  have h16 : n * n ≤ 16 := Nat.mul_le_mul hn hn
  have hl := wd.1
  induction t with
  | zero =>
    intro k h1 h2 mx r l e nM m0 hm
    refine Ev.succ ?_
    simp only [gimballaw12_SolvePivots.l0]
    refine Ev.neg (by omega) (sum_l1 hn wd fd wb wx fx ul_ fl nM (hb mx m0 fun y hy => ?_) n 0 (by omega) (by omega) (fun j hj => by omega) 0 false [] 0 ((Nm.zero (E := 1074) (by decide)).mono (by omega)) (by rw [Nat.sub_zero]; grind))
    obtain ⟨j, hj, rfl⟩ := List.getElem_of_mem hy
    have := hm j (by omega)
    rw [rd_lt hj] at this
    exact this
  | succ t ih =>
    intro k h1 h2 mx r l e nM m0 hm
    have hk : k < d.length := by omega
    have mem := rd_mem (l := d) (i := (k : Int)) (by omega) (by omega)
    obtain ⟨p1, p2, p3, ep, np⟩ := exact_ev (wd.2 _ mem) (fd _ mem)
    obtain ⟨ab, nab⟩ := abs_ev np
    have ec := num_cmp_ev (E := 1074) (by decide) (by decide) nab nM
    have old : ∀ {m' : Rat}, mx ≤ m' → rabs (val (rd d (k : Int))) ≤ m' → ∀ j : Nat, j < k + 1 → rabs (val (rd d (j : Int))) ≤ m' := by
      intro m' a c j hj
      by_cases e : j = k
      · rw [e]; exact c
      · exact Rat.le_trans (hm j (by omega)) a
    refine Ev.succ ?_
    simp only [gimballaw12_SolvePivots.l0]
    rw [wn (by omega)]
    refine Ev.pos (by omega) (Ev.pos (by omega) (Ev.pos (by omega) (Ev.bind ep (Ev.call ab (Ev.bind ec ?_)))))
    by_cases c : rsgn (rabs (val (rd d (k : Int))) - mx) > 0
    · have gt : mx ≤ rabs (val (rd d (k : Int))) := by
        refine Rat.not_lt.mp fun h => ?_
        have : rabs (val (rd d (k : Int))) - mx ≤ 0 := by grind
        exact rsgn_le this c
      exact Ev.pos c (Ev.bind ep (Ev.call ab (ih (k + 1) (by omega) (by omega) _ _ _ _ nab (rabs_nonneg _) (old gt Rat.le_refl))))
    · have le := rsgn_gt c
      exact Ev.neg c (ih (k + 1) (by omega) (by omega) _ _ _ _ nM m0 (old Rat.le_refl (by grind)))
end
theorem SolvePivots (a0 : Int) (h0 : (Lit.int .i64 a0).wf = true) (all : List Int) (h1 : ∀ x ∈ all, (Lit.int .u64 x).wf = true) (ls : Int) (h2 : (Lit.int .u64 ls).wf = true) : ∃ k, gimballaw12_SolvePivots.f k a0 all ls = some true := by
  refine Ev.rounds ?_
  have ha : ∀ x ∈ all, U x := fun x hx => U_of_wf (h1 x hx)
  have ul_ : U ls := U_of_wf h2
  obtain ⟨n, en, hn7⟩ : ∃ n : Nat, Go.bits .and .i64 a0 7 = (n : Int) ∧ n ≤ 7 := by
    have e : Go.bits .and .i64 a0 7 = a0 % 8 := i64_and 3 (by decide) a0
    rw [e]
    exact ⟨(a0 % 8).toNat, by omega, by omega⟩
  unfold gimballaw12_SolvePivots.f
  rw [en]
  refine Ev.call rfl ?_
  by_cases c : (all.length : Int) > 100
  · exact Ev.pos c (Ev.now _)
  obtain ⟨d, wd, ed⟩ := made12_ev (n := n) (by omega) ha (by omega) (show (0 : Int) ≤ 0 by decide) (by decide)
  obtain ⟨b, wb, eb⟩ := list12_ev (n := n) (by omega) ha (by omega) (show (0 : Int) ≤ 5 by decide) (by decide)
  have cl := clone_ev (R := n) (C := n) (s := (n : Int)) (by omega) (by omega) (by omega) d
  have hS := mat_same_ev (R := n) (C := n) (Sm.nat (by omega) (by omega)) (Sm.nat (R := n) (C := n) (by omega) (by omega)) d (gat n n (atN n n n d))
  rw [decide_eq_true ⟨rfl, rfl, fun i hi k hk => (at_gat (g := atN n n n d) hi hk).symm⟩] at hS
  refine Ev.neg c (Ev.bind ed (Ev.bind eb (Ev.bind cl ?_)))
  by_cases big : 4 < n
  · refine Ev.bind (pivot_shape wd wb big hn7) (Ev.bind hS (Ev.pos (by trivial) (Ev.pos (by omega) (Ev.pos rfl (Ev.succ ?_)))))
    simp only [gimballaw12_SolvePivots.j8]
    exact Ev.now _
  · have hn : n ≤ 4 := by omega
    obtain ⟨f, ef, hf⟩ := finite_ev (R := n) (C := n) (s := (n : Int)) (by omega) (by omega) (by omega) wd.2
    by_cases ok : (∀ i j : Nat, i < n → j < n → fin (at4 n n n d i j)) ∧ fin ls ∧ neg ls = false ∧ mag ls ≠ 0
    · obtain ⟨fd, fl, nl, ml0⟩ := ok
      obtain ⟨⟨o, told, e, F⟩, ev, post⟩ := pivot_ok wd wb hn ul_ fd fl nl ml0 (F := 0)
      have e0 : e = 0 := post.e
      subst e0
      have wo : Words n o := post.w
      obtain rfl : f = true := hf.mpr fun i j hi hj => fd i j hi hj
      refine Ev.bind ev (Ev.bind hS (Ev.pos (by trivial) (Ev.neg (by omega) (Ev.bind ef (Ev.pos (by trivial) (Ev.call (word_Finite_eq ul_) (Ev.pos (by simp [fl]) (Ev.call (word_Neg_eq ul_) (Ev.neg (fun h => by unfold neg at nl; rw [nl] at h; cases h) (Ev.call (word_Abs_eq ul_) ?_))))))))))
      have m0 : (mag ls == 0) = false := by simpa using ml0
      show Ev (fun K => gimballaw12_SolvePivots.j0 K n ls b o told 0 (mag ls == 0) n n n F d) true
      rw [m0]
      refine Ev.succ ?_
      simp only [gimballaw12_SolvePivots.j0]
      refine Ev.neg (by simp) (Ev.pos (by trivial) (Ev.succ ?_))
      simp only [gimballaw12_SolvePivots.j1]
      refine Ev.neg (by rw [wo.1]; simp) ?_
      by_cases cf : Go.bits .and .u8 F 22 = 0
      · have hc : clean F := and22 cf
        have h16 : n * n ≤ 16 := Nat.mul_le_mul hn hn
        have fdl : ∀ y ∈ d, fin y := fun y hy => by
          obtain ⟨k, hk, rfl⟩ := List.getElem_of_mem hy
          have hl := wd.1
          have hx : k < n * n := by omega
          have hC : 0 < n := by
            rcases Nat.eq_zero_or_pos n with h | h
            · subst h; simp at hx
            · exact h
          have hk2 : k % n < n := Nat.mod_lt _ hC
          have hi : k / n < n := by rw [Nat.div_lt_iff_lt_mul hC]; exact hx
          have e := at_dense wd.1 hi hk2
          have e2 : k / n * n + k % n = k := Nat.div_add_mod' k n
          rw [e2, rd_lt hk] at e
          rw [← e]
          exact fd _ _ hi hk2
        · refine Ev.pos cf (most_l0 hn wd fdl wb wo (fun fb => post.f hc ⟨fd, fb⟩) ul_ fl (fun mx mx0 hmx fb i hi => ?_) _ 0 rfl (by omega) 0 false [] 0 (Nm.zero (by decide)) Rat.le_refl (fun j hj => by omega))
          have af : AllFin n d b := ⟨fd, fb⟩
          have L0 : 0 ≤ lsv ls told := by
            unfold lsv
            split
            · exact val_pos nl
            · exact Rat.le_refl
          have Ze : ∀ j, j < n → Zf o (ids n) j = val (rd o (j : Int)) := fun j hj => by unfold Zf; rw [ids_rd hj]
          have Z0 := rs_nonneg (g := fun j => rabs (val (rd o (j : Int)))) (fun k => rabs_nonneg _) n 0
          have hZ : rs (fun j => rabs (Zf o (ids n) j)) 0 n ≤ rs (fun j => rabs (val (rd o (j : Int)))) 0 n := by
            rw [rs_congr n 0 (fun j _ hj => by rw [Ze j (by omega)])]; exact Rat.le_refl
          obtain ⟨_, P⟩ := post.z hc af (mx + lsv ls told) (rs (fun j => rabs (val (rd o (j : Int)))) 0 n) (by grind) (show lsv ls told ≤ _ by grind) ⟨fun a j _ ha _ hj => by
            unfold Gim.V
            have hl := wd.1
            have := place_lt ha hj
            rw [at_dense wd.1 ha hj]
            have := hmx _ (rd_mem (l := d) (i := ((a * n + j : Nat) : Int)) (by omega) (by omega))
            have g0 : g_ 0 = 1 := rfl
            rw [g0]
            grind, fun a j ha => by omega⟩ hZ
          have Q := P i (by omega) hi
          have er : Gim.Rest n 0 d b (ids n) o i = rs (fun j => val (at4 n n n d i j) * val (rd o (j : Int))) 0 n - val (rd b (i : Int)) := by
            unfold Gim.Rest Gim.W
            rw [Nat.sub_zero, rs_congr n 0 (g := fun j => Gim.V n d i j * Zf o (ids n) j) (g' := fun j => val (at4 n n n d i j) * val (rd o (j : Int))) (fun j _ hj => by
              show Gim.V n d i j * Zf o (ids n) j = _
              rw [Ze j (by omega)]; rfl)]
          change rabs (Gim.Rest n 0 d b (ids n) o i) ≤ _ at Q
          rw [er] at Q
          refine Rat.le_trans Q ?_
          have eE : E_ 0 = 180 := rfl
          have eX : X_ 0 = 203 / 100 := rfl
          rw [eE, eX]
          have eL : (if told = true then val ls * 4 else 0) = 4 * lsv ls told := by
            unfold lsv
            cases told with
            | true => rw [if_pos rfl, if_pos rfl]; grind
            | false => rw [if_neg (by decide), if_neg (by decide)]; grind
          rw [eL]
          show _ ≤ (mx * 1000 * ulp + 4 * lsv ls told) * _
          change 180 * (ulp * ((mx + lsv ls told) * rs (fun j => rabs (val (rd o (j : Int)))) 0 n)) + 203 / 100 * (lsv ls told * rs (fun j => rabs (val (rd o (j : Int)))) 0 n) ≤ _
          generalize rs (fun j => rabs (val (rd o (j : Int)))) 0 n = Z at *
          generalize lsv ls told = L at *
          have k1 := ule (Rat.mul_nonneg L0 Z0)
          have k2 := (ule (Rat.mul_nonneg mx0 Z0)).1
          have a1 : ulp * ((mx + L) * Z) = ulp * (mx * Z) + ulp * (L * Z) := by grind
          have a2 : (mx * 1000 * ulp + 4 * L) * Z = 1000 * (ulp * (mx * Z)) + 4 * (L * Z) := by grind
          rw [a1, a2]
          have k3 := Rat.mul_nonneg L0 Z0
          generalize ulp * (mx * Z) = A at *
          generalize ulp * (L * Z) = B at *
          generalize L * Z = D at *
          grind
      · exact Ev.neg cf (Ev.now _)
    · refine Ev.bind (pivot_plain wd wb hn ul_ ok) (Ev.bind hS (Ev.pos (by trivial) (Ev.neg (by omega) (Ev.bind ef ?_))))
      have out : ∀ {t : Bool}, t = true → Ev (fun K => gimballaw12_SolvePivots.j0 K n ls b [] false 6 t n n n 0 d) true := by
        intro t ht
        refine Ev.succ ?_
        simp only [gimballaw12_SolvePivots.j0]
        refine Ev.pos ht (Ev.pos (by trivial) (Ev.succ ?_))
        simp only [gimballaw12_SolvePivots.j7]
        exact Ev.now _
      cases f with
      | false => exact Ev.neg (by simp) (out rfl)
      | true =>
        refine Ev.pos (by trivial) (Ev.call (word_Finite_eq ul_) ?_)
        by_cases fl : fin ls
        · refine Ev.pos (by simp [fl]) (Ev.call (word_Neg_eq ul_) ?_)
          by_cases nl : neg ls = true
          · exact Ev.pos nl (out rfl)
          · refine Ev.neg nl (Ev.call (word_Abs_eq ul_) (out ?_))
            have : mag ls = 0 := Decidable.byContradiction fun h => ok ⟨fun i j hi hj => hf.mp rfl i j hi hj, fl, by simpa using nl, h⟩
            have e : (mag ls == 0) = true := by rw [this]; rfl
            exact e
        · exact Ev.neg (by simp [fl]) (out rfl)
end Go.Proofs.YtikebaljjclbnaaDoor.Pure

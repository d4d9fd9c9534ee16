/- SolveNears: an answer of a triangle is near, row by row, where nothing was too great or too small; for every input. -/
import Derived.Test.YtnjobojkoaknpaaDoorTAll0
import Derived.Test.YtnjobojkoaknpaaDoorTAll1
import Derived.Test.YtnjobojkoaknpaaDoorFx10
import Derived.Test.YtnjobojkoaknpaaDoorFx11
import Derived.Test.YtnjobojkoaknpaaDoorFx16
namespace Go.Proofs.YtnjobojkoaknpaaDoor.Pure
open Gim Go Go.RowKit Go.Proofs.YtnjobojkoaknpaaDoor.F Go.Proofs.YtnjobojkoaknpaaDoorW.PrintWords Go.Proofs.YtnjobojkoaknpaaDoorW.PrintLast
set_option linter.unusedVariables false
set_option linter.unusedSectionVars false

theorem head_ok : kg.f 200 = some true := by decide +kernel
theorem head_ev : Ev (fun k => kg.f k) true := Ev.of (fun k => kg.mono k) head_ok
theorem and7_nat (x : Int) : ∃ n : Nat, Go.bits .and .i64 x 7 = (n : Int) ∧ n ≤ 7 := by
  rw [and7]
  exact ⟨(x % 8).toNat, by omega, by omega⟩
theorem Dl {a : Int} (ha : U a) (fa : fin a) : ∃ r l f, Ev (fun K => ig.f K a) (r, l, f) ∧ Nm 1074 (val a) r l f := by
  obtain ⟨r, l, f, ev, nm⟩ := of_ev rfl ha fa
  refine ⟨r, l, f, ?_, nm⟩
  unfold ig.f
  exact Ev.bind ev (Ev.now _)
theorem rsgn_le {x : Rat} (h : x ≤ 0) : ¬ rsgn x > 0 := by
  unfold rsgn
  split
  · decide
  · split
    · decide
    · rename_i h1 h2
      exfalso
      grind
section
variable {n : Nat} (hn : n ≤ 7) {d b x : List Int} (wd : Words (n * n) d) (fd : ∀ i k : Nat, i < n → k < n → fin (at4 n n n d i k)) (wb : Words n b) (fb : ∀ i : Nat, i < n → fin (rd b (i : Int))) (wx : Words n x) (fx : ∀ i : Nat, i < n → fin (rd x (i : Int))) {up one : Bool}
include hn wd fd wb fb wx fx
theorem skip {s i : Nat} {r1 r2 : Bool} {l1 l2 : List Int} {e1 e2 : Int} : ∀ m lo, lo + m = s → s ≤ n → (∀ k, lo ≤ k → k < s → ¬ (if up = true then i < k else k < i)) →
    Ev (fun K => ae.l2 K n up one b x i s n n n d r1 l1 e1 r2 l2 e2) true → Ev (fun K => ae.l2 K n up one b x i lo n n n d r1 l1 e1 r2 l2 e2) true := by
  intro m
  induction m with
  | zero => intro lo h1 _ _ h; obtain rfl : lo = s := by omega
            exact h
  | succ m ih =>
    intro lo h1 h2 h3 h
    refine Ev.succ ?_
    simp only [ae.l2]
    rw [w64 (x := (lo : Int) + 1) (by omega) (by omega), in12_eq, decide_eq_false (h3 lo (by omega) (by omega))]
    exact Ev.pos (by omega) (Ev.call rfl (Ev.neg (by simp) (ih (lo + 1) (by omega) h2 (fun k a c => h3 k (by omega) c) h)))
theorem rows {s i : Nat} (hi : i < n) : ∀ m lo (E : Int) (S M : Rat) (r1 r2 : Bool) (l1 l2 : List Int) (e1 e2 : Int), lo + m = s → s ≤ n → (∀ k, lo ≤ k → k < s → (if up = true then i < k else k < i)) → 2148 ≤ E → E + m ≤ 10000 → Nm E S r1 l1 e1 → Nm E M r2 l2 e2 →
    (∀ (r1 r2 : Bool) (l1 l2 : List Int) (e1 e2 : Int), Nm (E + m) (S + rs (fun k => val (at4 n n n d i k) * val (rd x (k : Int))) lo m) r1 l1 e1 → Nm (E + m) (M + rs (fun k => jh (val (at4 n n n d i k) * val (rd x (k : Int)))) lo m) r2 l2 e2 →
      Ev (fun K => ae.l2 K n up one b x i s n n n d r1 l1 e1 r2 l2 e2) true) → Ev (fun K => ae.l2 K n up one b x i lo n n n d r1 l1 e1 r2 l2 e2) true := by
  intro m
  induction m with
  | zero =>
    intro lo E S M r1 r2 l1 l2 e1 e2 h1 _ _ _ _ n1 n2 h
    obtain rfl : lo = s := by omega
    have h := h r1 r2 l1 l2 e1 e2
    simp only [rs] at h
    rw [Rat.add_zero, Rat.add_zero, show E + ((0 : Nat) : Int) = E from by omega] at h
    exact h n1 n2
  | succ m ih =>
    intro lo E S M r1 r2 l1 l2 e1 e2 h1 h2 h3 h4 h5 n1 n2 h
    have lk : lo < n := by omega
    have ua : U (at4 n n n d i lo) := at_U wd.2 _ _
    have ux : U (rd x (lo : Int)) := rd_U wx.2 lo
    obtain ⟨p1, p2, p3, ep, np⟩ := Dl ua (fd i lo hi lk)
    obtain ⟨q1, q2, q3, eq, nq⟩ := Dl ux (fx lo lk)
    obtain ⟨m1, m2, m3, em, nm⟩ := Cs (by decide) (by decide) (by decide) (by decide) np nq
    obtain ⟨a1, a2, a3, ea, na⟩ := Ef (E := E) (by omega) (by omega) n1 (nm.mono (by omega))
    obtain ⟨ab, nab⟩ := abs_ev nm
    obtain ⟨c1, c2, c3, ec, nc⟩ := Ef (E := E) (by omega) (by omega) n2 (nab.mono (by omega))
    have hh := ih (lo + 1) (E + 1) _ _ a1 c1 a2 c2 a3 c3 (by omega) h2 (fun k u v => h3 k (by omega) v) (by omega) (by omega) na nc (fun r1 r2 l1 l2 e1 e2 x1 x2 => by
      refine h r1 r2 l1 l2 e1 e2 ?_ ?_
      · simp only [rs]
        rw [← Rat.add_assoc, show E + ((m + 1 : Nat) : Int) = E + 1 + (m : Int) from by omega]
        exact x1
      · simp only [rs]
        rw [← Rat.add_assoc, show E + ((m + 1 : Nat) : Int) = E + 1 + (m : Int) from by omega]
        exact x2)
    have hlen := wx.1
    refine Ev.succ ?_
    simp only [ae.l2]
    rw [w64 (x := (lo : Int) + 1) (by omega) (by omega), at_eq (Sm.nat (by omega) (by omega)), in12_eq, decide_eq_true (h3 lo (by omega) (by omega))]
    exact Ev.pos (by omega) (Ev.call rfl (Ev.pos rfl (Ev.call rfl (Ev.bind ep (Ev.pos (by omega) (Ev.pos (by omega) (Ev.bind eq (Ev.bind em (Ev.bind ea (Ev.call ab (Ev.bind ec hh)))))))))))
theorem Ea {i : Nat} (hi : i < n) {E : Int} {S M : Rat} {r1 r2 : Bool} {l1 l2 : List Int} {e1 e2 : Int} (h4 : 2148 ≤ E) (h5 : E ≤ 10000) (n1 : Nm E S r1 l1 e1) (n2 : Nm E M r2 l2 e2)
    (hb : jh (S - val (rd b (i : Int))) ≤ M * ((2 * (n : Int) + 2 : Int) : Rat) * pw (-53)) (h : Ev (fun K => ae.l1 K n up one b x ((i : Int) + 1) n n n d) true) :
    Ev (fun K => ae.l2 K n up one b x i n n n n d r1 l1 e1 r2 l2 e2) true := by
  have ub : U (rd b (i : Int)) := rd_U wb.2 i
  have hlen := wb.1
  obtain ⟨p1, p2, p3, ep, np⟩ := Dl ub (fb i hi)
  obtain ⟨s1, s2, s3, es, ns⟩ := Hg (E := E) (by omega) (by omega) n1 (np.mono (by omega))
  obtain ⟨ab, nab⟩ := abs_ev ns
  obtain ⟨i1, i2, i3, ei, ni⟩ := int_ev (z := 2 * (n : Int) + 2) (by omega) (by omega)
  obtain ⟨m1, m2, m3, em, nm⟩ := Cs (E := E) (E' := 64) (by omega) (by omega) (by decide) (by decide) n2 ni
  obtain ⟨t, nt⟩ := two_ev (E := 53) (a := -53) (by decide) (by decide) (by decide) (by decide)
  obtain ⟨k1, k2, k3, ek, nk⟩ := Cs (E := E + 64) (E' := 53) (by omega) (by omega) (by decide) (by decide) nm nt
  have ec := num_cmp_ev (E := E + 64 + 53) (by omega) (by omega) (nab.mono (by omega)) nk
  refine Ev.succ ?_
  simp only [ae.l2]
  rw [w64 (x := (i : Int) + 1) (by omega) (by omega), w64 (x := 2 * (n : Int)) (by omega) (by omega), w64 (x := 2 * (n : Int) + 2) (by omega) (by omega)]
  refine Ev.neg (by omega) (Ev.pos (by omega) (Ev.pos (by omega) (Ev.bind ep (Ev.bind es (Ev.call ab (Ev.bind ei (Ev.bind em (Ev.call t (Ev.bind ek (Ev.bind ec (Ev.neg (rsgn_le ?_) h)))))))))))
  grind
theorem l1_ev (ok : ∀ i, i < n → Fb n (fun i k => at4 n n n d i k) up one b x i) : ∀ m i, i + m = n → Ev (fun K => ae.l1 K n up one b x i n n n d) true := by
  intro m
  induction m with
  | zero =>
    intro i h1
    refine Ev.succ ?_
    simp only [ae.l1]
    exact Ev.neg (by omega) (Ev.now _)
  | succ m ih =>
    intro i h1
    have hi : i < n := by omega
    have hh := ih (i + 1) (by omega)
    have hlen := wx.1
    have ux : U (rd x (i : Int)) := rd_U wx.2 i
    have ua : U (at4 n n n d i i) := at_U wd.2 _ _
    obtain ⟨q1, q2, q3, eq, nq⟩ := Dl ux (fx i hi)
    -- the sum of a row, from its own product on
    have row : ∀ (r1 : Bool) (l1 : List Int) (e1 : Int), Nm 2148 (Co (fun i k => at4 n n n d i k) one x i) r1 l1 e1 → Ev (fun K => ae.j3 K n up one b x i n n n d r1 l1 e1) true := by
      intro r1 l1 e1 n1
      obtain ⟨ab, nab⟩ := abs_ev n1
      have few : (nz n up i : Rat) * 4 ≤ ((n : Rat) - 1) * 4 := by
        have h : nz n up i + 1 ≤ n := by unfold nz; split <;> omega
        have h2 : ((nz n up i + 1 : Nat) : Rat) ≤ (n : Rat) := by exact_mod_cast h
        push_cast at h2
        grind
      have n7 : (n : Rat) ≤ 7 := by exact_mod_cast hn
      obtain ⟨_, R⟩ := ok i hi
      have T0 : 0 ≤ jh (Co (fun i k => at4 n n n d i k) one x i) + rs (fun k => jh (val (at4 n n n d i k) * val (rd x (k : Int)))) (um up i) (nz n up i) := by
        have a := yo (Co (fun i k => at4 n n n d i k) one x i)
        have c := Fs (g := fun k => jh (val (at4 n n n d i k) * val (rd x (k : Int)))) (fun k => yo _) (nz n up i) (um up i)
        grind
      have bound : jh (Co (fun i k => at4 n n n d i k) one x i + rs (fun k => val (at4 n n n d i k) * val (rd x (k : Int))) (um up i) (nz n up i) - val (rd b (i : Int))) ≤
          (jh (Co (fun i k => at4 n n n d i k) one x i) + rs (fun k => jh (val (at4 n n n d i k) * val (rd x (k : Int)))) (um up i) (nz n up i)) * ((2 * (n : Int) + 2 : Int) : Rat) * pw (-53) := by
        rw [← Ba]
        have e : -(Co (fun i k => at4 n n n d i k) one x i + rs (fun k => val (at4 n n n d i k) * val (rd x (k : Int))) (um up i) (nz n up i) - val (rd b (i : Int))) = val (rd b (i : Int)) - (Co (fun i k => at4 n n n d i k) one x i + rs (fun k => val (at4 n n n d i k) * val (rd x (k : Int))) (um up i) (nz n up i)) := by grind
        rw [e]
        refine Rat.le_trans R ?_
        show _ ≤ _ * _ * ulp
        generalize jh (Co (fun i k => at4 n n n d i k) one x i) + rs (fun k => jh (val (at4 n n n d i k) * val (rd x (k : Int)))) (um up i) (nz n up i) = T at T0
        have uT : 0 ≤ ulp * T := Rat.mul_nonneg (Rat.le_of_lt Ep) T0
        have c1 : (1 + (nz n up i : Rat) * (9 / 4)) ≤ ((2 * (n : Int) + 2 : Int) : Rat) := by push_cast; grind
        have := Rat.mul_le_mul_of_nonneg_right c1 uT
        grind
      have go : ∀ (E : Int) (r1 r2 : Bool) (l1 l2 : List Int) (e1 e2 : Int), 2148 ≤ E → E ≤ 10000 → Nm E (Co (fun i k => at4 n n n d i k) one x i + rs (fun k => val (at4 n n n d i k) * val (rd x (k : Int))) (um up i) (nz n up i)) r1 l1 e1 →
          Nm E (jh (Co (fun i k => at4 n n n d i k) one x i) + rs (fun k => jh (val (at4 n n n d i k) * val (rd x (k : Int)))) (um up i) (nz n up i)) r2 l2 e2 → Ev (fun K => ae.l2 K n up one b x i n n n n d r1 l1 e1 r2 l2 e2) true :=
        fun E r1 r2 l1 l2 e1 e2 g1 g2 g3 g4 => Ea hn wd fd wb fb wx fx hi g1 g2 g3 g4 bound hh
      refine Ev.succ ?_
      simp only [ae.j3]
      refine Ev.call ab ?_
      cases up
      · refine rows hn wd fd wb fb wx fx hi (s := i) i 0 2148 _ _ _ _ _ _ _ _ (by omega) (by omega) (fun k _ c => by simpa using c) (by decide) (by omega) n1 nab (fun r1 r2 l1 l2 e1 e2 x1 x2 => ?_)
        refine skip hn wd fd wb fb wx fx (n - i) i (s := n) (by omega) (by omega) (fun k c _ => by simp; omega) ?_
        exact go (2148 + i) r1 r2 l1 l2 e1 e2 (by omega) (by omega) x1 x2
      · refine skip hn wd fd wb fb wx fx (i + 1) 0 (s := i + 1) (by omega) (by omega) (fun k _ c => by simp; omega) ?_
        refine rows hn wd fd wb fb wx fx hi (s := n) (n - (i + 1)) (i + 1) 2148 _ _ _ _ _ _ _ _ (by omega) (by omega) (fun k c _ => by simp; omega) (by decide) (by omega) n1 nab (fun r1 r2 l1 l2 e1 e2 x1 x2 => ?_)
        exact go (2148 + ((n - (i + 1) : Nat) : Int)) r1 r2 l1 l2 e1 e2 (by omega) (by omega) x1 x2
    refine Ev.succ ?_
    simp only [ae.l1]
    refine Ev.pos (by omega) (Ev.pos (by omega) (Ev.pos (by omega) (Ev.bind eq ?_)))
    cases one
    · obtain ⟨p1, p2, p3, ep, np⟩ := Dl ua (fd i i hi hi)
      obtain ⟨m1, m2, m3, em, nm⟩ := Cs (by decide) (by decide) (by decide) (by decide) nq np
      refine Ev.neg (by simp) ?_
      rw [at_eq (Sm.nat (by omega) (by omega))]
      refine Ev.call rfl (Ev.bind ep (Ev.bind em (row m1 m2 m3 ?_)))
      unfold Co
      rw [if_neg (by simp), Rat.mul_comm]
      exact nm
    · refine Ev.pos rfl (row q1 q2 q3 ?_)
      unfold Co
      rw [if_pos rfl]
      exact nq.mono (by decide)
end
theorem l0_ev {n : Nat} (hn : n ≤ 7) {d b x : List Int} (wb : Words n b) {up one : Bool} (h : (∀ i : Nat, i < n → fin (rd b (i : Int))) → Ev (fun K => ae.l1 K n up one b x 0 n n n d) true) :
    ∀ m i, i + m = n → (∀ j : Nat, j < i → fin (rd b (j : Int))) → Ev (fun K => ae.l0 K n up one b x i n n n d) true := by
  intro m
  induction m with
  | zero =>
    intro i h1 hf
    refine Ev.succ ?_
    simp only [ae.l0]
    exact Ev.neg (by omega) (h fun j hj => hf j (by omega))
  | succ m ih =>
    intro i h1 hf
    have hlen := wb.1
    have ub : U (rd b (i : Int)) := rd_U wb.2 i
    refine Ev.succ ?_
    simp only [ae.l0]
    rw [w64 (x := (i : Int) + 1) (by omega) (by omega), Ac ub]
    refine Ev.pos (by omega) (Ev.pos (by omega) (Ev.pos (by omega) (Ev.call rfl ?_)))
    by_cases c : fin (rd b (i : Int))
    · refine Ev.pos (decide_eq_true c) (ih (i + 1) (by omega) fun j hj => ?_)
      by_cases e : j = i
      · subst e; exact c
      · exact hf j (by omega)
    · exact Ev.neg (by simp [c]) (Ev.now _)
theorem SolveNears : ae.Pure := by
  intro a0 all up one _ _ _ wall
  have ha : ∀ x ∈ all, U x := fun x hx => U_of_wf (wall x hx)
  apply Ev.rounds
  unfold ae.f
  refine Ev.bind head_ev (Ev.pos rfl ?_)
  by_cases hl : (all.length : Int) > 100
  · exact Ev.pos hl (Ev.now _)
  refine Ev.neg hl ?_
  obtain ⟨n, en, hn⟩ := and7_nat a0
  rw [en]
  obtain ⟨d, wd, ed⟩ := made12_ev (n := n) (by omega) ha (by omega) (show (0 : Int) ≤ 0 by decide) (by decide)
  obtain ⟨b, wb, eb⟩ := list12_ev (n := n) (by omega) ha (by omega) (show (0 : Int) ≤ 5 by decide) (by decide)
  have out : ∀ {x : List Int}, Ev (fun K => ae.j0 K n up one b x true n n n d) true := by
    intro x
    refine Ev.succ ?_
    simp only [ae.j0]
    exact Ev.pos (by simp) (Ev.now _)
  refine Ev.bind ed (Ev.bind eb ?_)
  by_cases c : ∃ j, j < n ∧ bad n d one j
  · exact Ev.bind (trsv_no (by omega) wd wb 0 c) (Ev.neg (by decide) out)
  · have c' : ∀ j, j < n → ¬ bad n d one j := fun j h1 h2 => c ⟨j, h1, h2⟩
    refine Ev.bind (trsv_ev (by omega) wd wb 0 c') (Ev.pos rfl ?_)
    have hA := at_UU (show n ≤ 100 by omega) wd
    by_cases cl : Go.bits .and .u8 (tRun n (fun i k => at4 n n n d i k) up one 0 n (b, 0)).2 22 = 0
    · refine Ev.pos cl ?_
      obtain ⟨t, et, ft⟩ := finite_ev (R := n) (C := n) (s := (n : Int)) (by omega) (by omega) (by omega) wd.2
      refine Ev.bind et ?_
      cases t
      · exact out
      · have fd := ft.mp rfl
        have wx : Words n (tRun n (fun i k => at4 n n n d i k) up one 0 n (b, 0)).1 := tRun_W hA n 0 (b, 0) (by omega) wb
        refine Ev.succ ?_
        simp only [ae.j0]
        refine Ev.neg (by simp) (l0_ev hn wb (fun fb => ?_) n 0 (by omega) (fun j hj => by omega))
        have ok := tri_near (n := n) (by omega) (A := fun i k => at4 n n n d i k) hA (fun i k hi hk => fd i k hi hk) (one := one) (fun h i hi m => c' i hi ⟨h, m⟩) (b := b) fb (up := up) wb (and22 cl)
        exact l1_ev hn wd fd wb fb wx (fun i hi => (ok i hi).1) ok n 0 (by omega)
    · exact Ev.neg cl out
end Go.Proofs.YtnjobojkoaknpaaDoor.Pure

/- BalVectors: a list that a balanced matrix makes of another one is, taken back, what the matrix makes of that, exactly; for every input. -/
import Derived.Test.YtlhpejbmjbcmaaaDoorTx0
import Derived.Test.YtlhpejbmjbcmaaaDoorRx0
set_option linter.constructorNameAsVariable false
set_option linter.unusedSimpArgs false
set_option linter.unusedVariables false
set_option linter.unusedSectionVars false
namespace Go.Proofs.YtlhpejbmjbcmaaaDoor.Pure
open Gim Go Go.RowKit Go.Proofs.YtlhpejbmjbcmaaaDoor.F Go.Proofs.YtlhpejbmjbcmaaaDoorW.PrintWords Go.Proofs.YtlhpejbmjbcmaaaDoorW.PrintLast
set_option linter.unusedVariables false
set_option linter.unusedSectionVars false

section
variable {n : Nat} (hn : n ≤ 7) {d : List Int} (wd : Words (n * n) d) (ff : ∀ i k : Nat, i < n → k < n → fin (at4 n n n d i k)) {A : Nat → Nat → Int} {p : Nat → Nat} {w : Nat → Int} {lo hi : Nat} (h : LS n (fun i k => at4 n n n d i k) A p w lo hi)
  {u : List Int} (lu : u.length = n) (uu : ∀ x ∈ u, U x ∧ fin x)
include hn wd ff h lu uu
theorem u_at {i : Nat} (hi1 : i < n) : U (rd u (i : Int)) ∧ fin (rd u (i : Int)) := uu _ (rd_mem (by omega) (by omega))
/-- Taken back. -/
theorem back_l0 {lo2 hi2 : Int} : ∀ t i : Nat, n - i = t → i ≤ n → ∀ (o : List Int) (F : Int), o.length = n → (∀ x ∈ o, U x) → 0 ≤ F ∧ F < 256 → (∀ j, j < i → rd o (p j : Int) = (sP (rd u (j : Int)) (w j)).1) →
    (F = 0 → ∀ j, j < i → (sP (rd u (j : Int)) (w j)).2 = 0) →
    ∃ o' F', o'.length = n ∧ (∀ x ∈ o', U x) ∧ (∀ j, j < n → rd o' (p j : Int) = (sP (rd u (j : Int)) (w j)).1) ∧ (F' = 0 → ∀ j, j < n → (sP (rd u (j : Int)) (w j)).2 = 0) ∧
      Ev (fun K => bal_Balance_Back.l0 K u false o F n i (cnt n (fun x => (p x : Int))) (cnt n w) lo2 hi2) (o', F', 0) := by
  intro t
  induction t with
  | zero =>
    intro i e1 e2 o F lo1 uo hF ho hz
    obtain rfl : n = i := by omega
    refine ⟨o, F, lo1, uo, ho, hz, Ev.succ ?_⟩
    simp only [bal_Balance_Back.l0]
    exact Ev.neg (by omega) (Ev.now _)
  | succ t ih =>
    intro i e1 e2 o F lo1 uo hF ho hz
    have hi1 : i < n := by omega
    have l1 := cnt_len n w
    have l2 := cnt_len n (fun x => (p x : Int))
    have pi := h.plt i hi1
    have bi := h.wb i hi1
    obtain ⟨ui, fi⟩ := u_at hn wd ff h lu uu hi1
    have hm : mx (-20000) (mn (w i) 20000) = w i := by unfold mx mn; split <;> (try split) <;> omega
    have o2 := or8z hF (sP_F ui (w i))
    obtain ⟨o', F', g1, g2, g3, g4, ev⟩ := ih (i + 1) (by omega) (by omega) (o.set (p i) (sP (rd u (i : Int)) (w i)).1) _ (by rw [List.length_set]; exact lo1) (fun x hx => by
        rcases List.mem_or_eq_of_mem_set hx with hx | rfl
        · exact uo x hx
        · exact sP_U ui _) o2.1 (fun j hj => by
        rw [rd_set (by omega)]
        by_cases c : p i = p j
        · have := h.pin i j hi1 (by omega) c
          subst this
          rw [if_pos rfl]
        · rw [if_neg c]
          by_cases c2 : j = i
          · subst c2; exact absurd rfl c
          · exact ho j (by omega)) (fun hz2 j hj => by
        obtain ⟨q1, q2⟩ := o2.2 hz2
        by_cases c2 : j = i
        · subst c2; exact q2
        · exact hz q1 j (by omega))
    refine ⟨o', F', g1, g2, g3, g4, Ev.succ ?_⟩
    simp only [bal_Balance_Back.l0]
    rw [cnt_rd w hi1, cnt_rd (fun x => (p x : Int)) hi1, hm, W1 i (by omega), Int.toNat_natCast]
    exact Ev.pos (by omega) (Ev.pos (by omega) (Ev.pos (by omega) (Ev.pos (by omega) (Ev.neg (by decide) (Ev.bind (sP_ev ui (w i)) (Ev.pos (by omega) (Ev.neg (by omega) (Ev.neg (by omega) (Ev.pos (by omega) (Ev.pos (by omega) ev))))))))))
theorem back_ev {lo2 hi2 : Int} : ∃ o F, o.length = n ∧ (∀ x ∈ o, U x) ∧ (F = 0 → ∀ j, j < n → fin (rd o (p j : Int)) ∧ val (rd o (p j : Int)) = val (rd u (j : Int)) * pw (w j)) ∧
    Ev (fun K => bal_Balance_Back.f K (cnt n (fun x => (p x : Int))) (cnt n w) lo2 hi2 u false) (o, F, 0) := by
  obtain ⟨o, F, g1, g2, g3, g4, ev⟩ := back_l0 hn wd ff h lu uu (lo2 := lo2) (hi2 := hi2) n 0 (by omega) (by omega) (List.replicate n 0) 0 List.length_replicate (fun x hx => by rw [(List.mem_replicate.mp hx).2]; exact U_zero) (by decide) (fun j hj => by omega) (fun _ j hj => by omega)
  have l1 := cnt_len n w
  have l2 := cnt_len n (fun x => (p x : Int))
  refine ⟨o, F, g1, g2, fun hz j hj => ?_, ?_⟩
  · obtain ⟨ui, fi⟩ := u_at hn wd ff h lu uu hj
    have bi := h.wb j hj
    rw [g3 j hj]
    exact sP_exact ui fi (by omega) (by omega) (g4 hz j hj)
  · unfold bal_Balance_Back.f
    refine Ev.pos (by omega) (Ev.succ ?_)
    simp only [bal_Balance_Back.j0]
    rw [lu, l1]
    refine Ev.neg (by simp) (Ev.pos (by omega) (Ev.pos (by omega) ?_))
    rw [Int.toNat_natCast]
    exact ev
end
section
variable {n : Nat} (hn : n ≤ 7) {d : List Int} (wd : Words (n * n) d) (ff : ∀ i k : Nat, i < n → k < n → fin (at4 n n n d i k)) {A : Nat → Nat → Int} {p : Nat → Nat} {w : Nat → Int} {lo hi : Nat} (h : LS n (fun i k => at4 n n n d i k) A p w lo hi)
  {u : List Int} (lu : u.length = n) (uu : ∀ x ∈ u, U x ∧ fin x) {o : List Int} (lo1 : o.length = n) (uo : ∀ x ∈ o, U x) (ho : ∀ j, j < n → fin (rd o (p j : Int)) ∧ val (rd o (p j : Int)) = val (rd u (j : Int)) * pw (w j)) (fo : ∀ j, j < n → fin (rd o (j : Int)))
include hn wd ff h lu uu lo1 uo ho fo
theorem l2_ev {i : Nat} (hi1 : i < n) (next : Ev (fun K => gimballaw16_BalVectors.l1 K n u o ((i : Int) + 1) n n n n n n d (gat n n A) (cnt n (fun x => (p x : Int))) (cnt n w)) true) :
    ∀ t k : Nat, n - k = t → k ≤ n → ∀ (E : Int) (r1 r2 : Bool) (k1 k2 : List Int) (e1 e2 : Int), 2148 ≤ E → E + t ≤ 10000 →
      Nm E (sr (fun k => val (A i k) * val (rd u (k : Int))) k) r1 k1 e1 → Nm E (sr (fun k => val (at4 n n n d (p i) k) * val (rd o (k : Int))) k) r2 k2 e2 →
      Ev (fun K => gimballaw16_BalVectors.l2 K n u o i k n n n n n n r1 k1 e1 r2 k2 e2 d (gat n n A) (cnt n (fun x => (p x : Int))) (cnt n w)) true := by
  have l1 := cnt_len n w
  have l2 := cnt_len n (fun x => (p x : Int))
  have pi := h.plt i hi1
  have bi := h.wb i hi1
  intro t
  induction t with
  | zero =>
    intro k c1 c2 E r1 r2 k1 k2 e1 e2 hE hE2 n1 n2
    obtain rfl : n = k := by omega
    obtain ⟨t0, nt⟩ := two_ev (E := 400) (a := w i) (by omega) (by omega) (by omega) (by omega)
    obtain ⟨m1, m2, m3, em, nm⟩ := num_mul_ev (by omega) (by omega) (by decide) (by decide) n1 nt
    have es := same_ev (by omega) (by omega) nm n2
    have eq : sr (fun k => val (A i k) * val (rd u (k : Int))) n * pw (w i) = sr (fun k => val (at4 n n n d (p i) k) * val (rd o (k : Int))) n := by
      rw [sr_mul, ← sr_perm (fun k => val (at4 n n n d (p i) k) * val (rd o (k : Int))) n p h.plt h.pin]
      refine sr_congr n fun k hk => ?_
      show val (A i k) * val (rd u (k : Int)) * pw (w i) = val (at4 n n n d (p i) (p k)) * val (rd o (p k : Int))
      rw [(ho k hk).2, h.eq i k hi1 hk, show w k = (w k - w i) + w i from by omega, pw_add, show w k - w i + w i - w i = w k - w i from by omega]
      grind
    rw [decide_eq_true eq] at es
    refine Ev.succ ?_
    simp only [gimballaw16_BalVectors.l2]
    rw [cnt_rd w hi1, w64 (x := (i : Int) + 1) (by omega) (by omega)]
    exact Ev.neg (by omega) (Ev.pos (by omega) (Ev.pos (by omega) (Ev.call t0 (Ev.bind em (Ev.bind es (Ev.pos rfl next))))))
  | succ t ih =>
    intro k c1 c2 E r1 r2 k1 k2 e1 e2 hE hE2 n1 n2
    have hk : k < n := by omega
    have sm : Sm n n n := Sm.nat (by omega) (by omega)
    obtain ⟨uk, fk⟩ := u_at hn wd ff h lu uu hk
    obtain ⟨a1, a2, a3, ea, na⟩ := exact16_ev (h.u i k) (h.f i k hi1 hk)
    obtain ⟨b1, b2, b3, eb, nb⟩ := exact16_ev uk fk
    obtain ⟨m1, m2, m3, em, nm⟩ := num_mul_ev (by decide) (by decide) (by decide) (by decide) na nb
    obtain ⟨s1, s2, s3, es, ns⟩ := num_add_ev (E := E) (by omega) (by omega) n1 (nm.mono (by omega))
    obtain ⟨f1, f2, f3, ef, nf⟩ := exact16_ev (at_U wd.2 (r := n) (c := n) (s := n) (p i : Int) (k : Int)) (ff _ _ pi hk)
    obtain ⟨g1, g2, g3, eg, ng⟩ := exact16_ev (rd_mem_U uo lo1 hk) (fo k hk)
    obtain ⟨q1, q2, q3, eq, nq⟩ := num_mul_ev (by decide) (by decide) (by decide) (by decide) nf ng
    obtain ⟨v1, v2, v3, ev, nv⟩ := num_add_ev (E := E) (by omega) (by omega) n2 (nq.mono (by omega))
    have hh := ih (k + 1) (by omega) (by omega) (E + 1) s1 v1 s2 v2 s3 v3 (by omega) (by omega) ns nv
    refine Ev.succ ?_
    simp only [gimballaw16_BalVectors.l2]
    rw [cnt_rd (fun x => (p x : Int)) hi1, W1 k (by omega)]
    refine Ev.pos (by omega) (Ev.call (at_eq sm _ _ _) ?_)
    rw [at_gat hi1 hk]
    exact Ev.bind ea (Ev.pos (by omega) (Ev.pos (by omega) (Ev.bind eb (Ev.bind em (Ev.bind es (Ev.pos (by omega) (Ev.pos (by omega) (Ev.call (at_eq sm _ _ _) (Ev.bind ef (Ev.pos (by omega) (Ev.bind eg (Ev.bind eq (Ev.bind ev hh)))))))))))))
theorem l1_ev : ∀ t i : Nat, n - i = t → i ≤ n → Ev (fun K => gimballaw16_BalVectors.l1 K n u o i n n n n n n d (gat n n A) (cnt n (fun x => (p x : Int))) (cnt n w)) true := by
  intro t
  induction t with
  | zero =>
    intro i e1 e2
    refine Ev.succ ?_
    simp only [gimballaw16_BalVectors.l1]
    exact Ev.neg (by omega) (Ev.now _)
  | succ t ih =>
    intro i e1 e2
    refine Ev.succ ?_
    simp only [gimballaw16_BalVectors.l1]
    exact Ev.pos (by omega) (l2_ev hn wd ff h lu uu lo1 uo ho fo (show i < n by omega) (ih (i + 1) (by omega) (by omega)) n 0 (by omega) (by omega) 2148 _ _ _ _ _ _ (by decide) (by omega) Nm_zero Nm_zero)
end
section
variable {n : Nat} (hn : n ≤ 7) {d : List Int} (wd : Words (n * n) d) (ff : ∀ i k : Nat, i < n → k < n → fin (at4 n n n d i k)) {A : Nat → Nat → Int} {p : Nat → Nat} {w : Nat → Int} {lo hi : Nat} (h : LS n (fun i k => at4 n n n d i k) A p w lo hi) {v : List Int} (hv : ∀ x ∈ v, U x) (lv : v.length ≤ 100)
include hn wd ff h hv lv
theorem l0_ev : ∀ t i : Nat, n - i = t → i ≤ n → ∀ u : List Int, u.length = i → (∀ x ∈ u, U x ∧ fin x) →
    Ev (fun K => gimballaw16_BalVectors.l0 K n v u i n n n n n n lo hi d (gat n n A) (cnt n (fun x => (p x : Int))) (cnt n w)) true := by
  intro t
  induction t with
  | zero =>
    intro i e1 e2 u lu uu
    obtain rfl : n = i := by omega
    obtain ⟨o, F, g1, g2, g3, ev⟩ := back_ev hn wd ff h lu uu (lo2 := lo) (hi2 := hi)
    refine Ev.succ ?_
    simp only [gimballaw16_BalVectors.l0]
    refine Ev.neg (by omega) (Ev.bind ev (Ev.pos rfl (Ev.succ ?_)))
    simp only [gimballaw16_BalVectors.j2]
    by_cases c : F = 0
    · have g4 := g3 c
      refine Ev.neg (by simp [c]) (l1_ev hn wd ff h lu uu g1 g2 g4 (fun j hj => ?_) n 0 (by omega) (by omega))
      obtain ⟨q, hq, e⟩ := hit h.plt h.pin hj
      rw [← e]
      exact (g4 q hq).1
    · exact Ev.pos (by simpa using c) (Ev.now _)
  | succ t ih =>
    intro i e1 e2 u lu uu
    have go : ∀ y : Int, U y → fin y → Ev (fun K => gimballaw16_BalVectors.l0 K n v (u ++ [y]) ((i + 1 : Nat) : Int) n n n n n n lo hi d (gat n n A) (cnt n (fun x => (p x : Int))) (cnt n w)) true := by
      intro y uy fy
      refine ih (i + 1) (by omega) (by omega) (u ++ [y]) (by rw [List.length_append, lu]; rfl) (fun x hx => ?_)
      rcases List.mem_append.mp hx with hx | hx
      · exact uu x hx
      · rw [List.mem_singleton.mp hx]; exact ⟨uy, fy⟩
    refine Ev.succ ?_
    simp only [gimballaw16_BalVectors.l0]
    rw [W1 i (by omega)]
    refine Ev.pos (by omega) ?_
    by_cases c : (v.length : Int) > 0
    · have i0 : 0 ≤ Int.tmod (i : Int) (v.length : Int) := Int.tmod_nonneg _ (by omega)
      have i1 : Int.tmod (i : Int) (v.length : Int) < (v.length : Int) := Int.tmod_lt_of_pos _ c
      have uy := hv _ (rd_mem i0 i1)
      have fy := word_Finite_eq uy
      refine Ev.pos c (Ev.neg (by omega) (Ev.pos i0 (Ev.pos i1 (Ev.call fy ?_))))
      by_cases f : fin (rd v (Int.tmod (i : Int) (v.length : Int)))
      · exact Ev.pos (decide_eq_true f) (Ev.pos (by omega) (go _ uy f))
      · exact Ev.neg (by simp [f]) (Ev.now _)
    · have uy : U 4607182418800017408 := ⟨by decide, by decide⟩
      have f : fin 4607182418800017408 := by decide
      have fy := word_Finite_eq uy
      exact Ev.neg c (Ev.call fy (Ev.pos (decide_eq_true f) (Ev.pos (by omega) (go _ uy f))))
end
theorem BalVectors (a0 : Int) (w0 : (Lit.int .i64 a0).wf = true) (all : List Int) (w1 : ∀ x ∈ all, (Lit.int .u64 x).wf = true) (a2 : Int) (w2 : (Lit.int .u64 a2).wf = true) (v : List Int) (w3 : ∀ x ∈ v, (Lit.int .u64 x).wf = true) :
    ∃ k, gimballaw16_BalVectors.f k a0 all a2 v = some true := by
  have ha : ∀ x ∈ all, U x := fun x hx => U_of_wf (w1 x hx)
  have hv : ∀ x ∈ v, U x := fun x hx => U_of_wf (w3 x hx)
  apply Ev.rounds
  unfold gimballaw16_BalVectors.f
  have out : Ev (fun K => gimballaw16_BalVectors.j0 K a0 all a2 v true) true := by
    refine Ev.succ ?_
    simp only [gimballaw16_BalVectors.j0]
    exact Ev.pos trivial (Ev.now _)
  refine Ev.call rfl ?_
  by_cases hl : (all.length : Int) > 100
  · exact Ev.pos hl out
  refine Ev.neg hl ?_
  by_cases hl2 : (v.length : Int) > 100
  · rw [decide_eq_true hl2]; exact out
  rw [decide_eq_false hl2]
  obtain ⟨n, en, hn⟩ := and7_nat a0
  obtain ⟨d, wd, ed⟩ := made16_ev (n := n) (by omega) ha (by omega) (holes := a2)
  refine Ev.succ ?_
  simp only [gimballaw16_BalVectors.j0]
  rw [en]
  refine Ev.neg (by decide) (Ev.bind ed ?_)
  by_cases ff : ∀ i k : Nat, i < n → k < n → fin (at4 n n n d i k)
  · obtain ⟨A, p, w, lo, hi, h, ev⟩ := bal_ev (n := n) (by omega) wd.2 wd.1 ff
    exact Ev.bind ev (Ev.pos rfl (l0_ev hn wd ff h hv (by omega) n 0 (by omega) (by omega) [] rfl (fun x hx => by simp at hx)))
  · exact Ev.bind (bal_no (n := n) (by omega) wd.2 wd.1 ff) (Ev.neg (by decide) (Ev.now _))
end Go.Proofs.YtlhpejbmjbcmaaaDoor.Pure

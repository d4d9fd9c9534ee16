/- MulWhole: products of matrices of small whole numbers are exact, and don't hang on how they are put together; for every input. -/
import Derived.Test.YtfogmgcpajndcaaDoorTx0
import Derived.Test.YtfogmgcpajndcaaDoorRx0
set_option linter.constructorNameAsVariable false
set_option linter.unusedSimpArgs false
set_option linter.unusedVariables false
set_option linter.unusedSectionVars false
namespace Go.Proofs.YtfogmgcpajndcaaDoor.Pure
open Gim Go Go.RowKit Go.Proofs.YtfogmgcpajndcaaDoor.F Go.Proofs.YtfogmgcpajndcaaDoorW.PrintWords Go.Proofs.YtfogmgcpajndcaaDoorW.PrintLast
set_option linter.unusedVariables false
set_option linter.unusedSectionVars false

theorem and3_nat (x : Int) : ∃ n : Nat, Go.bits .and .i64 x 3 = (n : Int) ∧ n ≤ 3 := by
  rw [and3]
  exact ⟨(x % 4).toNat, by omega, by omega⟩
theorem and63 (x : Int) : Go.bits .and .i64 x 63 = x % 64 := i64_and 6 (by decide) x
/-- All of a list are whole numbers, and small. -/
def Wh (M : Nat) (d : List Int) : Prop := ∀ e ∈ d, ∃ z : Int, z.natAbs ≤ M ∧ Isz e z
theorem Isz_zero : Isz 0 0 := ⟨U_zero_, fin_zero, by rw [val_zero]; rfl⟩
theorem Wh.U {M : Nat} {d : List Int} (h : Wh M d) : ∀ e ∈ d, Gim.U e := fun e he => (h e he).elim fun z hz => hz.2.1
theorem Wh.zeros (M n : Nat) : Wh M (List.replicate n 0) := by
  intro e he
  rw [(List.mem_replicate.mp he).2]
  exact ⟨0, by simp, Isz_zero⟩
theorem Wh.set {M : Nat} {d : List Int} (h : Wh M d) {v z : Int} (i : Nat) (hz : z.natAbs ≤ M) (hv : Isz v z) : Wh M (d.set i v) := by
  intro e he
  rcases List.mem_or_eq_of_mem_set he with he | rfl
  · exact h e he
  · exact ⟨z, hz, hv⟩
theorem of_l0 {R C : Nat} (hR : R ≤ 3) (hC : C ≤ 3) {all : List Int} (hl : all.length ≤ 100) {fr : Int} (f0 : 0 ≤ fr) (f1 : fr ≤ 10) :
    ∀ t x : Nat, R * C - x = t → x ≤ R * C → ∀ d : List Int, d.length = R * C → Wh 32 d → ∃ d', d'.length = R * C ∧ Wh 32 d' ∧ Ev (fun K => gimballaw11_MulWhole_1.l0 K fr ((R * C : Nat) : Int) x all R C C d) ((R : Int), (C : Int), (C : Int), d', all) := by
  have hRC : R * C ≤ 9 := Nat.mul_le_mul hR hC
  intro t
  induction t with
  | zero =>
    intro x h1 h2 d hd hw
    obtain rfl : x = R * C := by omega
    refine ⟨d, hd, hw, Ev.succ ?_⟩
    simp only [gimballaw11_MulWhole_1.l0]
    exact Ev.neg (by omega) (Ev.now _)
  | succ t ih =>
    intro x h1 h2 d hd hw
    have ew : wrap64 ((x : Int) + 1) = ((x + 1 : Nat) : Int) := by rw [w64 (by omega) (by omega)]; rfl
    have a1 : (x : Int) < ((R * C : Nat) : Int) := by omega
    have a2 : (0 : Int) ≤ (x : Int) := by omega
    have a3 : (x : Int) < (d.length : Int) := by omega
    by_cases c : (all.length : Int) > 0
    · have a4 : ¬ (all.length : Int) = 0 := by omega
      have i0 : 0 ≤ Int.tmod (wrap64 ((x : Int) + fr)) (all.length : Int) := by
        rw [w64 (by omega) (by omega)]; exact Int.tmod_nonneg _ (by omega)
      have i1 : Int.tmod (wrap64 ((x : Int) + fr)) (all.length : Int) < (all.length : Int) := by
        rw [w64 (by omega) (by omega)]; exact Int.tmod_lt_of_pos _ c
      generalize hv : rd all (Int.tmod (wrap64 ((x : Int) + fr)) (all.length : Int)) = v
      have ez : wrap64 (Go.bits .and .i64 v 63 - 32) = v % 64 - 32 := by rw [and63, w64 (by omega) (by omega)]
      obtain ⟨r, l, f, e1, n1⟩ := int_ev (z := v % 64 - 32) (by omega) (by omega)
      obtain ⟨p, g, e2, rd2⟩ := near_ev (E := 64) (by decide) (by decide) n1
      have hz := rd_whole rd2 (by omega) (by omega)
      obtain ⟨d', hd', hw', ev⟩ := ih (x + 1) (by omega) (by omega) (d.set (x : Int).toNat p) (by rw [List.length_set]; exact hd) (hw.set _ (by omega) hz)
      refine ⟨d', hd', hw', Ev.succ ?_⟩
      simp only [gimballaw11_MulWhole_1.l0]
      rw [ew, hv, ez]
      exact Ev.pos a1 (Ev.pos c (Ev.neg a4 (Ev.pos i0 (Ev.pos i1 (Ev.bind e1 (Ev.bind e2 (Ev.pos a2 (Ev.pos a3 ev))))))))
    · obtain ⟨d', hd', hw', ev⟩ := ih (x + 1) (by omega) (by omega) d hd hw
      refine ⟨d', hd', hw', Ev.succ ?_⟩
      simp only [gimballaw11_MulWhole_1.l0]
      rw [ew]
      exact Ev.pos a1 (Ev.neg c ev)
theorem of_ev' {R C : Nat} (hR : R ≤ 3) (hC : C ≤ 3) {all : List Int} (hl : all.length ≤ 100) {fr : Int} (f0 : 0 ≤ fr) (f1 : fr ≤ 10) :
    ∃ d, d.length = R * C ∧ Wh 32 d ∧ Ev (fun K => gimballaw11_MulWhole_1.f K R C fr all) ((R : Int), (C : Int), (C : Int), d, all) := by
  obtain ⟨d, hd, hw, ev⟩ := of_l0 hR hC hl f0 f1 (R * C) 0 (by omega) (by omega) _ List.length_replicate (Wh.zeros 32 _)
  refine ⟨d, hd, hw, ?_⟩
  unfold gimballaw11_MulWhole_1.f
  refine Ev.call (new_eq (by omega) (by omega)) ?_
  dsimp only
  rw [List.length_replicate]
  exact ev
/-- The whole number that a pattern is. -/
def iv (e : Int) : Int := (val e).num
theorem iv_of {e z : Int} (h : Isz e z) : iv e = z := by unfold iv; rw [h.2.2]; exact Rat.num_intCast z
theorem den_Wh {P Q M : Nat} {d : List Int} (h : Wh M d) (hd : d.length = P * Q) {i j : Nat} (hi : i < P) (hj : j < Q) : (iv (den Q P d i j)).natAbs ≤ M ∧ Isz (den Q P d i j) (iv (den Q P d i j)) := by
  have hlt : i * Q + j < P * Q := by
    have := Nat.mul_le_mul_right Q (show i + 1 ≤ P by omega)
    rw [Nat.add_mul, Nat.one_mul] at this
    omega
  have e : den Q P d i j = rd d ((i * Q + j : Nat) : Int) := at_dense hd hi hj
  obtain ⟨z, hz, hs⟩ := h (den Q P d i j) (by rw [e]; exact rd_mem (by omega) (by omega))
  rw [iv_of hs]
  exact ⟨hz, hs⟩
/-- A product of matrices of whole numbers. -/
theorem gemm_whole {P Q R M N : Nat} (hP : P ≤ 3) (hQ : Q ≤ 3) (hR : R ≤ 3) (hMN : M * N ≤ 1000000000) {da db : List Int} (ha : Wh M da) (hb : Wh N db) (la : da.length = P * Q) (lb : db.length = Q * R) :
    ∃ o : List Int, o = gat P R (gS (den Q P da) (den R Q db) Q) ∧ o.length = P * R ∧ Wh (3 * (M * N)) o ∧
      (∀ i k : Nat, i < P → k < R → Is (gS (den Q P da) (den R Q db) Q i k) (isum (fun j => iv (den Q P da i j) * iv (den R Q db j k)) Q)) ∧
      Ev (fun K => mul_Gemm.f K 0 P Q Q da Q R R db) ((P : Int), (R : Int), (R : Int), o, 0, 0) := by
  have key : ∀ i k : Nat, i < P → k < R → Is (gS (den Q P da) (den R Q db) Q i k) (isum (fun j => iv (den Q P da i j) * iv (den R Q db j k)) Q) ∧ gF (den Q P da) (den R Q db) Q i k = 0#8 ∧
      (isum (fun j => iv (den Q P da i j) * iv (den R Q db j k)) Q).natAbs ≤ 3 * (M * N) := by
    intro i k hi hk
    have hM : ∀ j, j < Q → -((M * N : Nat) : Int) ≤ iv (den Q P da i j) * iv (den R Q db j k) ∧ iv (den Q P da i j) * iv (den R Q db j k) ≤ ((M * N : Nat) : Int) := by
      intro j hj
      have b1 := (den_Wh ha la hi hj).1
      have b2 := (den_Wh hb lb hj hk).1
      have e := Int.natAbs_mul (iv (den Q P da i j)) (iv (den R Q db j k))
      have := Nat.mul_le_mul b1 b2
      omega
    have hn : (Q : Int) * ((M * N : Nat) : Int) ≤ 3 * ((M * N : Nat) : Int) := Int.mul_le_mul_of_nonneg_right (by omega) (by omega)
    obtain ⟨h1, h2⟩ := dS_whole (x := den Q P da i) (y := fun j => den R Q db j k) (n := Q) (M := ((M * N : Nat) : Int)) (fun j hj => (den_Wh ha la hi hj).2) (fun j hj => (den_Wh hb lb hj hk).2) hM (by omega) (by omega) Q (Nat.le_refl Q)
    have h3 := isum_le (g := fun j => iv (den Q P da i j) * iv (den R Q db j k)) Q hM
    exact ⟨h1, orS_zero Q h2, by omega⟩
  obtain ⟨F, f8, eF, ev⟩ := gemm_ev (P := P) (Q := Q) (R := R) (by omega) (by omega) (by omega) ha.U hb.U la lb F8_0
  have z : orS (fun i => orS (gF (den Q P da) (den R Q db) Q i) R) P = 0#8 := orS_zero P fun i hi => orS_zero R fun k hk => (key i k hi hk).2.1
  rw [z] at eF
  have F0 : F = 0 := F8_ext f8 F8_0 (by rw [eF, B8_0]; rfl)
  rw [F0] at ev
  refine ⟨_, rfl, gat_length, ?_, fun i k hi hk => (key i k hi hk).1, ev⟩
  intro e he
  unfold gat at he
  obtain ⟨x, hx, rfl⟩ := List.mem_map.mp he
  have hx := List.mem_range.mp hx
  have hR0 : 0 < R := Nat.pos_of_ne_zero (by rintro rfl; simp at hx)
  have h1 : x / R < P := Nat.div_lt_of_lt_mul (by rw [Nat.mul_comm]; exact hx)
  have k := key (x / R) (x % R) h1 (Nat.mod_lt _ hR0)
  exact ⟨_, k.2.2, k.1.1⟩
theorem compare {d : List Int} (hd : d.length ≤ 100) : ∀ m i, i + m = d.length → Ev (fun K => gimballaw11_MulWhole.l0 K (d.length : Int) i d d) true := by
  intro m
  induction m with
  | zero =>
    intro i hi
    refine Ev.succ ?_
    simp only [gimballaw11_MulWhole.l0]
    exact Ev.neg (by omega) (Ev.now _)
  | succ m ih =>
    intro i hi
    have hh := ih (i + 1) (by omega)
    refine Ev.succ ?_
    simp only [gimballaw11_MulWhole.l0]
    rw [w64 (x := (i : Int) + 1) (by omega) (by omega)]
    exact Ev.pos (by omega) (Ev.pos (by omega) (Ev.pos (by omega) (Ev.pos (by omega) (Ev.pos trivial hh))))
theorem MulWhole (a0 : Int) (w0 : (Lit.int .i64 a0).wf = true) (a1 : Int) (w1 : (Lit.int .i64 a1).wf = true) (a2 : Int) (w2 : (Lit.int .i64 a2).wf = true) (a3 : Int) (w3 : (Lit.int .i64 a3).wf = true)
    (all : List Int) (w4 : ∀ x ∈ all, (Lit.int .i64 x).wf = true) : ∃ k, gimballaw11_MulWhole.f k a0 a1 a2 a3 all = some true := by
  apply Ev.rounds
  unfold gimballaw11_MulWhole.f
  refine Ev.call rfl ?_
  by_cases hl : (all.length : Int) > 100
  · exact Ev.pos hl (Ev.now _)
  refine Ev.neg hl ?_
  obtain ⟨P, eP, hP⟩ := and3_nat a0
  obtain ⟨Q, eQ, hQ⟩ := and3_nat a1
  obtain ⟨R, eR, hR⟩ := and3_nat a2
  obtain ⟨S, eS, hS⟩ := and3_nat a3
  rw [eP, eQ, eR, eS]
  obtain ⟨da, la, wa, ea⟩ := of_ev' hP hQ (all := all) (by omega) (show (0 : Int) ≤ 0 by decide) (by decide)
  obtain ⟨db, lb, wb, eb⟩ := of_ev' hQ hR (all := all) (by omega) (show (0 : Int) ≤ 2 by decide) (by decide)
  obtain ⟨dc, lc, wc, ec⟩ := of_ev' hR hS (all := all) (by omega) (show (0 : Int) ≤ 5 by decide) (by decide)
  obtain ⟨ab, eab, lab, wab, iab, gab⟩ := gemm_whole hP hQ hR (by decide) wa wb la lb
  obtain ⟨bc, ebc, lbc, wbc, ibc, gbc⟩ := gemm_whole hQ hR hS (by decide) wb wc lb lc
  obtain ⟨x, ex, lx, wx, ix, gx⟩ := gemm_whole hP hR hS (by decide) wab wc lab lc
  obtain ⟨y, ey, ly, wy, iy, gy⟩ := gemm_whole hP hQ hS (by decide) wa wbc la lbc
  have vab : ∀ i j, i < P → j < R → iv (den R P ab i j) = isum (fun l => iv (den Q P da i l) * iv (den R Q db l j)) Q := by
    intro i j hi hj
    have e : den R P ab i j = gS (den Q P da) (den R Q db) Q i j := by rw [eab]; exact at_gat hi hj
    rw [e]
    exact iv_of (iab i j hi hj).1
  have vbc : ∀ i j, i < Q → j < S → iv (den S Q bc i j) = isum (fun l => iv (den R Q db i l) * iv (den S R dc l j)) R := by
    intro i j hi hj
    have e : den S Q bc i j = gS (den R Q db) (den S R dc) R i j := by rw [ebc]; exact at_gat hi hj
    rw [e]
    exact iv_of (ibc i j hi hj).1
  have same : x = y := by
    rw [ex, ey]
    refine gat_congr fun i k hi hk => ?_
    have h1 := ix i k hi hk
    have h2 := iy i k hi hk
    have e : isum (fun j => iv (den R P ab i j) * iv (den S R dc j k)) R = isum (fun j => iv (den Q P da i j) * iv (den S Q bc j k)) Q := by
      rw [isum_congr (h := fun j => isum (fun l => iv (den Q P da i l) * iv (den R Q db l j) * iv (den S R dc j k)) Q) R (fun j hj => by
        show iv (den R P ab i j) * _ = _
        rw [vab i j hi hj, ← isum_mul])]
      rw [isum_swap]
      refine isum_congr Q fun l hl => ?_
      show _ = iv (den Q P da i l) * iv (den S Q bc l k)
      rw [vbc l k hl hk, ← isum_mul']
      exact isum_congr R fun j hj => Int.mul_assoc _ _ _
    rw [e] at h1
    exact h1.unique h2
  rw [← same] at gy
  have hx9 : P * S ≤ 9 := Nat.mul_le_mul hP hS
  refine Ev.bind ea (Ev.bind eb (Ev.bind ec (Ev.bind gab (Ev.bind gbc (Ev.bind gx (Ev.bind gy (Ev.pos rfl (Ev.pos rfl (Ev.pos rfl (Ev.pos rfl (Ev.succ ?_)))))))))))
  simp only [gimballaw11_MulWhole.j0]
  exact Ev.neg (by decide) (compare (by omega) x.length 0 (by omega))
end Go.Proofs.YtfogmgcpajndcaaDoor.Pure

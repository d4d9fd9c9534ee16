/- MulSteps: products of any matrices and lists, step by step, and all flags; what doesn't fit; for every input. -/
import Derived.Test.YtfogmgcpajndcaaTVec
import Derived.Test.YtfogmgcpajndcaaTMd11
import Derived.Test.YtfogmgcpajndcaaTTurn
import Derived.Test.YtfogmgcpajndcaaTGemm
import Derived.Test.YtfogmgcpajndcaaTGemv
import Derived.Test.YtfogmgcpajndcaaFx7
import Derived.Test.YtfogmgcpajndcaaFx12
namespace Go.Proofs.Ytfogmgcpajndcaa.Pure
open Gim Go Go.RowKit Go.Proofs.Ytfogmgcpajndcaa.F Go.Proofs.YtfogmgcpajndcaaW.PrintWords Go.Proofs.YtfogmgcpajndcaaW.PrintLast
set_option linter.unusedVariables false
set_option linter.unusedSectionVars false

theorem head_ok : gimballaw11_head.f 200 = some true := by decide +kernel
theorem head_ev : Ev (fun k => gimballaw11_head.f k) true := Ev.of (fun k => gimballaw11_head.mono k) head_ok
theorem dd_congr {x y x' y' : Nat → Int} (n : Nat) (H : ∀ j, j < n → x j = x' j ∧ y j = y' j) : dS x y n = dS x' y' n ∧ orS (dF x y) n = orS (dF x' y') n := by
  have S : ∀ m, m ≤ n → dS x y m = dS x' y' m := by
    intro m
    induction m with
    | zero => intro _; rw [dS, dS]
    | succ m ih => intro hm; rw [dS, dS, ih (by omega), (H m (by omega)).1, (H m (by omega)).2]
  refine ⟨S n (Nat.le_refl _), orS_congr n fun j hj => ?_⟩
  unfold dF
  rw [S j (by omega), (H j hj).1, (H j hj).2]
theorem den_all_U {R C : Nat} {d : List Int} (h : Words (R * C) d) (i k : Nat) : U (den C R d i k) := den_U h.2 i k
theorem dot_cnt {Q : Nat} (hQ : Q ≤ 100) {f g : Nat → Int} (hf : ∀ j, U (f j)) {y : List Int} (hy : ∀ x ∈ y, U x) (hl : y.length = Q) (hg : ∀ j, j < Q → rd y (j : Int) = g j) {F : Int} (hF : F8 F) :
    ∃ F', F8 F' ∧ B8 F' = B8 F ||| orS (dF f g) Q ∧ Ev (fun K => vec_Dot.f K F (cnt Q f) y) (dS f g Q, 0, F') := by
  obtain ⟨F', ev, g1, g2⟩ := dot_ev (x := cnt Q f) (y := y) (cnt_U hf) hy (by rw [cnt_len, hl]) (by rw [cnt_len]; omega) hF
  rw [cnt_len] at ev g2
  obtain ⟨e1, e2⟩ := dd_congr (x := fun i => rd (cnt Q f) (i : Int)) (y := fun i => rd y (i : Int)) (x' := f) (y' := g) Q (fun j hj => ⟨cnt_rd f hj, hg j hj⟩)
  rw [e1] at ev
  rw [e2] at g2
  exact ⟨F', g1, g2, ev⟩
section
variable {P Q R : Nat} (hP : P ≤ 7) (hQ : Q ≤ 7) (hR : R ≤ 7) {dx dy v w all : List Int} {a b : Int} (wx : Words (P * Q) dx) (wy : Words (Q * R) dy)
  (hv : ∀ x ∈ v, U x) (lv : v.length = Q) (hw : ∀ x ∈ w, U x) (lw : w.length = P) (ha : U a) (hall : ∀ x ∈ all, U x) (hl : all.length ≤ 100)
include hP hQ hR wx wy hv lv hw lw ha hall hl
theorem l1_ev {i : Nat} (hi : i < P) (A : BitVec 8) : ∀ t k : Nat, R - k = t → k ≤ R → ∀ F : Int, F8 F → B8 F = A ||| orS (gF (den Q P dx) (den R Q dy) Q i) k →
    ∃ F', F8 F' ∧ B8 F' = A ||| orS (gF (den Q P dx) (den R Q dy) Q i) R ∧ ∀ (h : List Int) (c : Int) (s1 s2 s3 : Int) (s : List Int) (z : Bool),
      Ev (fun K => gimballaw11_MulSteps.l0 K P Q R all a b v w h ((i : Int) + 1) P Q Q dx Q R R dy c F' P R R (gat P R (gS (den Q P dx) (den R Q dy) Q)) s1 s2 s3 s R Q Q (gat R Q (atT Q R R dy))) z →
      Ev (fun K => gimballaw11_MulSteps.l1 K P Q R all a b v w h i k P Q Q dx Q R R dy c F P R R (gat P R (gS (den Q P dx) (den R Q dy) Q)) s1 s2 s3 s R Q Q (gat R Q (atT Q R R dy))) z := by
  intro t
  induction t with
  | zero =>
    intro k h1 h2 F hF hB
    obtain rfl : k = R := by omega
    refine ⟨F, hF, hB, fun h c s1 s2 s3 s z hh => Ev.succ ?_⟩
    simp only [gimballaw11_MulSteps.l1]
    rw [w64 (x := (i : Int) + 1) (by omega) (by omega)]
    exact Ev.neg (by omega) hh
  | succ t ih =>
    intro k h1 h2 F hF hB
    have hk : k < R := by omega
    have r1 := row_ev (C := Q) (r := (P : Int)) (s := (Q : Int)) (by omega) (i : Int) (by omega) (by omega) dx
    have r2 := row_ev (C := Q) (r := (R : Int)) (s := (Q : Int)) (by omega) (k : Int) (by omega) (by omega) (gat R Q (atT Q R R dy))
    have uT : ∀ x ∈ gat R Q (atT Q R R dy), U x := gat_U fun i k => at_U wy.2 _ _
    obtain ⟨F1, f1, b1, ev1⟩ := dot_cnt (Q := Q) (by omega) (f := den Q P dx i) (g := fun j => den R Q dy j k) (fun j => den_all_U wx i j)
      (y := cnt Q fun j => at4 R Q Q (gat R Q (atT Q R R dy)) k j) (cnt_U fun j => at_U uT _ _) (cnt_len _ _) (fun j hj => by rw [cnt_rd _ hj, at_gat hk hj]; rfl) hF
    obtain ⟨F', g1, g2, ev⟩ := ih (k + 1) (by omega) (by omega) F1 f1 (by rw [b1, hB]; simp only [orS]; unfold gF; ac_rfl)
    refine ⟨F', g1, g2, fun h c s1 s2 s3 s z hh => Ev.succ ?_⟩
    simp only [gimballaw11_MulSteps.l1]
    rw [w64 (x := (k : Int) + 1) (by omega) (by omega)]
    refine Ev.pos (by omega) (Ev.bind r1 (Ev.bind r2 (Ev.bind ev1 (Ev.call (at_eq ⟨by omega, by omega, by omega⟩ _ _ _) ?_))))
    rw [at_gat hi hk]
    exact Ev.pos rfl (ev h c s1 s2 s3 s z hh)
theorem l0_ev (A : BitVec 8) : ∀ t i : Nat, P - i = t → i ≤ P → ∀ F : Int, F8 F → B8 F = A ||| orS (fun i => orS (gF (den Q P dx) (den R Q dy) Q i) R) i →
    ∃ F', F8 F' ∧ B8 F' = A ||| orS (fun i => orS (gF (den Q P dx) (den R Q dy) Q i) R) P ∧ ∀ (h : List Int) (c : Int) (s1 s2 s3 : Int) (s : List Int) (z : Bool),
      Ev (fun K => gimballaw11_MulSteps.l2 K P Q R all a b v w h 0 P Q Q dx Q R R dy c F' s1 s2 s3 s) z →
      Ev (fun K => gimballaw11_MulSteps.l0 K P Q R all a b v w h i P Q Q dx Q R R dy c F P R R (gat P R (gS (den Q P dx) (den R Q dy) Q)) s1 s2 s3 s R Q Q (gat R Q (atT Q R R dy))) z := by
  intro t
  induction t with
  | zero =>
    intro i h1 h2 F hF hB
    obtain rfl : i = P := by omega
    refine ⟨F, hF, hB, fun h c s1 s2 s3 s z hh => Ev.succ ?_⟩
    simp only [gimballaw11_MulSteps.l0]
    exact Ev.neg (by omega) hh
  | succ t ih =>
    intro i h1 h2 F hF hB
    obtain ⟨F1, f1, b1, ev1⟩ := l1_ev hP hQ hR wx wy hv lv hw lw ha hall hl (b := b) (i := i) (by omega) (B8 F) R 0 (by omega) (by omega) F hF (by simp [orS])
    obtain ⟨F', g1, g2, ev⟩ := ih (i + 1) (by omega) (by omega) F1 f1 (by rw [b1, hB]; simp only [orS]; ac_rfl)
    refine ⟨F', g1, g2, fun h c s1 s2 s3 s z hh => Ev.succ ?_⟩
    simp only [gimballaw11_MulSteps.l0]
    exact Ev.pos (by omega) (ev1 h c s1 s2 s3 s z (ev h c s1 s2 s3 s z hh))
theorem l2_ev (A : BitVec 8) : ∀ t i : Nat, P - i = t → i ≤ P → ∀ F : Int, F8 F → B8 F = A ||| orS (vF (den Q P dx) v Q) i →
    ∃ F', F8 F' ∧ B8 F' = A ||| orS (vF (den Q P dx) v Q) P ∧ ∀ (c : Int) (s1 s2 s3 : Int) (s : List Int) (z : Bool),
      Ev (fun K => gimballaw11_MulSteps.l3 K P Q R all a b v w 0 P Q Q dx Q R R dy c F' s1 s2 s3 s) z →
      Ev (fun K => gimballaw11_MulSteps.l2 K P Q R all a b v w (cnt P (vS (den Q P dx) v Q)) i P Q Q dx Q R R dy c F s1 s2 s3 s) z := by
  intro t
  induction t with
  | zero =>
    intro i h1 h2 F hF hB
    obtain rfl : i = P := by omega
    refine ⟨F, hF, hB, fun c s1 s2 s3 s z hh => Ev.succ ?_⟩
    simp only [gimballaw11_MulSteps.l2]
    exact Ev.neg (by omega) hh
  | succ t ih =>
    intro i h1 h2 F hF hB
    have hi : i < P := by omega
    have r1 := row_ev (C := Q) (r := (P : Int)) (s := (Q : Int)) (by omega) (i : Int) (by omega) (by omega) dx
    obtain ⟨F1, f1, b1, ev1⟩ := dot_cnt (Q := Q) (by omega) (f := den Q P dx i) (g := fun j => rd v (j : Int)) (fun j => den_all_U wx i j) hv lv (fun j hj => rfl) hF
    obtain ⟨F', g1, g2, ev⟩ := ih (i + 1) (by omega) (by omega) F1 f1 (by rw [b1, hB]; simp only [orS]; unfold vF; ac_rfl)
    refine ⟨F', g1, g2, fun c s1 s2 s3 s z hh => Ev.succ ?_⟩
    simp only [gimballaw11_MulSteps.l2]
    rw [w64 (x := (i : Int) + 1) (by omega) (by omega), cnt_rd _ hi, cnt_len]
    exact Ev.pos (by omega) (Ev.bind r1 (Ev.bind ev1 (Ev.pos (by omega) (Ev.pos (by omega) (Ev.pos rfl (ev c s1 s2 s3 s z hh))))))
theorem l4_ev {i : Nat} (hi : i < P) (A : BitVec 8) : ∀ t k : Nat, Q - k = t → k ≤ Q → ∀ F : Int, F8 F → B8 F = A ||| orS (rF (den Q P dx) a w v i) k →
    ∃ F', F8 F' ∧ B8 F' = A ||| orS (rF (den Q P dx) a w v i) Q ∧ ∀ (c : Int) (z : Bool),
      Ev (fun K => gimballaw11_MulSteps.l3 K P Q R all a b v w ((i : Int) + 1) P Q Q dx Q R R dy c F' P Q Q (gat P Q (rS (den Q P dx) a w v))) z →
      Ev (fun K => gimballaw11_MulSteps.l4 K P Q R all a b v w i (mv a (rd w (i : Int))) k P Q Q dx Q R R dy c F P Q Q (gat P Q (rS (den Q P dx) a w v))) z := by
  intro t
  induction t with
  | zero =>
    intro k h1 h2 F hF hB
    obtain rfl : k = Q := by omega
    refine ⟨F, hF, hB, fun c z hh => Ev.succ ?_⟩
    simp only [gimballaw11_MulSteps.l4]
    rw [w64 (x := (i : Int) + 1) (by omega) (by omega)]
    exact Ev.neg (by omega) hh
  | succ t ih =>
    intro k h1 h2 F hF hB
    have hk : k < Q := by omega
    have ux : U (den Q P dx i k) := den_all_U wx i k
    have uf := mv_U ha (rd_U hw i)
    have uy := rd_U hv k
    obtain ⟨F1, e1, f1, b1⟩ := cMul (F := F) uf uy
    obtain ⟨F2, e2, f2, b2⟩ := cAdd (F := F1) ux (mv_U uf uy)
    obtain ⟨F', g1, g2, ev⟩ := ih (k + 1) (by omega) (by omega) F2 f2 (by rw [b2, b1, hB]; simp only [orS, rF]; ac_rfl)
    refine ⟨F', g1, g2, fun c z hh => Ev.succ ?_⟩
    simp only [gimballaw11_MulSteps.l4]
    rw [w64 (x := (k : Int) + 1) (by omega) (by omega)]
    refine Ev.pos (by omega) (Ev.call (at_eq ⟨by omega, by omega, by omega⟩ _ _ _) (Ev.call (at_eq ⟨by omega, by omega, by omega⟩ _ _ _) (Ev.pos (by omega) (Ev.pos (by omega) (Ev.bind e1 (Ev.bind e2 ?_))))))
    rw [at_gat hi hk]
    exact Ev.pos rfl (ev c z hh)
theorem l3_ev (A : BitVec 8) : ∀ t i : Nat, P - i = t → i ≤ P → ∀ F : Int, F8 F → B8 F = A ||| orS (rG (den Q P dx) a w v Q) i →
    ∃ F', F8 F' ∧ B8 F' = A ||| orS (rG (den Q P dx) a w v Q) P ∧ ∀ (c : Int) (z : Bool),
      Ev (fun K => gimballaw11_MulSteps.l3 K P Q R all a b v w P P Q Q dx Q R R dy c F' P Q Q (gat P Q (rS (den Q P dx) a w v))) z →
      Ev (fun K => gimballaw11_MulSteps.l3 K P Q R all a b v w i P Q Q dx Q R R dy c F P Q Q (gat P Q (rS (den Q P dx) a w v))) z := by
  intro t
  induction t with
  | zero =>
    intro i h1 h2 F hF hB
    obtain rfl : i = P := by omega
    exact ⟨F, hF, hB, fun c z hh => hh⟩
  | succ t ih =>
    intro i h1 h2 F hF hB
    obtain ⟨F0, e0, f0, b0⟩ := cMul (F := F) ha (rd_U hw i)
    obtain ⟨F1, f1, b1, ev1⟩ := l4_ev hP hQ hR wx wy hv lv hw lw ha hall hl (b := b) (i := i) (by omega) (B8 F0) Q 0 (by omega) (by omega) F0 f0 (by simp [orS])
    obtain ⟨F', g1, g2, ev⟩ := ih (i + 1) (by omega) (by omega) F1 f1 (by rw [b1, b0, hB]; simp only [orS, rG]; ac_rfl)
    refine ⟨F', g1, g2, fun c z hh => Ev.succ ?_⟩
    simp only [gimballaw11_MulSteps.l3]
    exact Ev.pos (by omega) (Ev.pos (by omega) (Ev.pos (by omega) (Ev.bind e0 (ev1 c z (ev c z hh)))))
theorem gemm_no {dm : List Int} (wm : Words ((Q + 1) * R) dm) (F : Int) : Ev (fun K => mul_Gemm.f K F P Q Q dx ((Q + 1 : Nat) : Int) R R dm) (0, 0, 0, [], 4, F) := by
  have c1 := check_dense (R := P) (C := Q) (by omega) (by omega) wx.1
  have c2 := check_dense (R := Q + 1) (C := R) (by omega) (by omega) wm.1
  have ft : Ev (fun K => mul_fits.f K P Q Q dx ((Q + 1 : Nat) : Int) R R dm) 4 := by
    unfold mul_fits.f
    exact Ev.bind c1 (Ev.pos rfl (Ev.bind c2 (Ev.pos rfl (Ev.neg (by omega) (Ev.now _)))))
  unfold mul_Gemm.f
  exact Ev.bind ft (Ev.neg (by decide) (Ev.now _))
theorem gemm_bad {s : Int} (hs : s < 0) (F : Int) : Ev (fun K => mul_Gemm.f K F P Q s dx Q R R dy) (0, 0, 0, [], 4, F) := by
  have c1 := check_ev (P : Int) (Q : Int) s dx
  rw [if_neg (fun h => h.1 (by unfold badSize; omega))] at c1
  have ft : Ev (fun K => mul_fits.f K P Q s dx Q R R dy) 4 := by
    unfold mul_fits.f
    exact Ev.bind c1 (Ev.neg (by decide) (Ev.now _))
  unfold mul_Gemm.f
  exact Ev.bind ft (Ev.neg (by decide) (Ev.now _))
/-- The end: what doesn't fit. -/
theorem end_ev (F : Int) (s1 s2 s3 : Int) (s : List Int) : Ev (fun K => gimballaw11_MulSteps.l3 K P Q R all a b v w P P Q Q dx Q R R dy F F s1 s2 s3 s) true := by
  obtain ⟨dm, wm, em⟩ := made11_ev (R := Q + 1) (C := R) (by omega) (by omega) hall hl (show (0 : Int) ≤ 0 by decide) (by decide)
  have g1 := gemm_no hP hQ hR wx wy hv lv hw lw ha hall hl wm F
  have l1 : ([] ++ v ++ [0] : List Int).length = Q + 1 := by simp [lv]
  have g2 := gemv_no (P := P) (Q := Q) (by omega) (by omega) (v := [] ++ v ++ [0]) wx.1 (by omega) F
  have g3 := ger_no (P := P) (Q := Q) (by omega) (by omega) (u := v) (v := [] ++ v ++ [0]) wx.1 (by omega) F a
  have hs : wrap64 (-1 - Go.bits .and .i64 b 7) < 0 := by rw [and7, w64 (by omega) (by omega)]; omega
  have g4 := gemm_bad hP hQ hR wx wy hv lv hw lw ha hall hl hs F
  refine Ev.succ ?_
  simp only [gimballaw11_MulSteps.l3]
  rw [show wrap64 ((Q : Int) + 1) = ((Q + 1 : Nat) : Int) from by rw [w64 (by omega) (by omega)]; rfl]
  refine Ev.neg (by omega) (Ev.pos trivial (Ev.bind em (Ev.bind g1 (Ev.call rfl (Ev.pos (by simp; omega) (Ev.call rfl (Ev.call rfl (Ev.pos (by simp; omega) (Ev.bind g2 (Ev.call rfl (Ev.pos (by simp; omega) (Ev.call rfl (Ev.call rfl (Ev.pos (by simp; omega) (Ev.bind g3 (Ev.bind g4 ?_))))))))))))))))
  exact Ev.pos rfl (Ev.pos rfl (Ev.pos rfl (Ev.pos rfl (Ev.ofEq (by simp)))))
end
theorem and7_nat (x : Int) : ∃ n : Nat, Go.bits .and .i64 x 7 = (n : Int) ∧ n ≤ 7 := by
  rw [and7]
  exact ⟨(x % 8).toNat, by omega, by omega⟩
theorem MulSteps : gimballaw11_MulSteps.Pure := by
  intro a0 a1 a2 all a b _ _ _ _ _ wall wa _
  have hall : ∀ x ∈ all, U x := fun x hx => U_of_wf (wall x hx)
  have ha := U_of_wf wa
  apply Ev.rounds
  unfold gimballaw11_MulSteps.f
  refine Ev.bind head_ev (Ev.pos rfl ?_)
  by_cases hn : (all.length : Int) > 100
  · exact Ev.pos hn (Ev.now _)
  refine Ev.neg hn ?_
  have hl : all.length ≤ 100 := by omega
  obtain ⟨P, eP, hP⟩ := and7_nat a0
  obtain ⟨Q, eQ, hQ⟩ := and7_nat a1
  obtain ⟨R, eR, hR⟩ := and7_nat a2
  rw [eP, eQ, eR]
  obtain ⟨dx, wx, ex⟩ := made11_ev (R := P) (C := Q) (by omega) (by omega) hall hl (show (0 : Int) ≤ 0 by decide) (by decide)
  obtain ⟨dy, wy, ey⟩ := made11_ev (R := Q) (C := R) (by omega) (by omega) hall hl (show (0 : Int) ≤ 3 by decide) (by decide)
  obtain ⟨dv, wv, ev_⟩ := made11_ev (R := 1) (C := Q) (by omega) (by omega) hall hl (show (0 : Int) ≤ 5 by decide) (by decide)
  obtain ⟨dw, ww, ew⟩ := made11_ev (R := 1) (C := P) (by omega) (by omega) hall hl (show (0 : Int) ≤ 1 by decide) (by decide)
  have rv := row_ev (C := Q) (r := (1 : Nat)) (s := (Q : Int)) (by omega) 0 (by omega) (by omega) dv
  have rw_ := row_ev (C := P) (r := (1 : Nat)) (s := (P : Int)) (by omega) 0 (by omega) (by omega) dw
  have hv : ∀ x ∈ cnt Q (fun k => at4 (1 : Nat) Q Q dv 0 k), U x := cnt_U fun k => at_U wv.2 _ _
  have hw : ∀ x ∈ cnt P (fun k => at4 (1 : Nat) P P dw 0 k), U x := cnt_U fun k => at_U ww.2 _ _
  generalize hcv : cnt Q (fun k => at4 (1 : Nat) Q Q dv 0 k) = v at *
  generalize hcw : cnt P (fun k => at4 (1 : Nat) P P dw 0 k) = w at *
  have lv : v.length = Q := by rw [← hcv, cnt_len]
  have lw : w.length = P := by rw [← hcw, cnt_len]
  obtain ⟨F1, f1, b1, g1⟩ := gemm_ev (P := P) (Q := Q) (R := R) (by omega) (by omega) (by omega) wx.2 wy.2 wx.1 wy.1 F8_0
  obtain ⟨F2, f2, b2, g2⟩ := gemv_ev (P := P) (Q := Q) (by omega) (by omega) wx.2 hv lv wx.1 f1
  obtain ⟨F3, f3, b3, g3⟩ := ger_ev (P := P) (Q := Q) (by omega) (by omega) wx.2 ha hw hv lw lv wx.1 f2
  refine Ev.bind ex (Ev.bind ey (Ev.bind ev_ (Ev.bind rv (Ev.bind ew (Ev.bind rw_ (Ev.bind g1 (Ev.bind g2 (Ev.bind g3 (Ev.pos rfl (Ev.pos rfl (Ev.pos rfl (Ev.pos rfl (Ev.pos rfl (Ev.pos (by simp [cnt_len]) (Ev.pos rfl (Ev.succ ?_))))))))))))))))
  simp only [gimballaw11_MulSteps.j0]
  have t1 := turn_ev (R := Q) (C := R) (by omega) (by omega) (s := (R : Int)) (by omega) dy
  refine Ev.neg (by simp) (Ev.bind t1 ?_)
  obtain ⟨K1, k1, c1, go1⟩ := l0_ev hP hQ hR wx wy hv lv hw lw ha hall hl (b := b) 0#8 P 0 (by omega) (by omega) 0 F8_0 (by simp [orS, B8_0])
  obtain ⟨K2, k2, c2, go2⟩ := l2_ev hP hQ hR wx wy hv lv hw lw ha hall hl (b := b) (B8 K1) P 0 (by omega) (by omega) K1 k1 (by simp [orS])
  obtain ⟨K3, k3, c3, go3⟩ := l3_ev hP hQ hR wx wy hv lv hw lw ha hall hl (b := b) (B8 K2) P 0 (by omega) (by omega) K2 k2 (by simp [orS])
  have eq : F3 = K3 := by
    refine F8_ext f3 k3 ?_
    rw [b3, b2, b1, c3, c2, c1, B8_0]
  refine go1 _ _ _ _ _ _ _ (go2 _ _ _ _ _ _ (go3 _ _ ?_))
  rw [eq]
  exact end_ev hP hQ hR wx wy hv lv hw lw ha hall hl K3 _ _ _ _
end Go.Proofs.Ytfogmgcpajndcaa.Pure

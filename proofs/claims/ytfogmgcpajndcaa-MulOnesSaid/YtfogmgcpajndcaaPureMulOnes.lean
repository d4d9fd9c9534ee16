/- MulOnes: the identity changes no number; a matrix turned is a product turned round; for every input. -/
import Derived.Test.YtfogmgcpajndcaaTKeep
import Derived.Test.YtfogmgcpajndcaaTMd11
import Derived.Test.YtfogmgcpajndcaaTTurn
import Derived.Test.YtfogmgcpajndcaaTSame
import Derived.Test.YtfogmgcpajndcaaTFin
import Derived.Test.YtfogmgcpajndcaaTOne
import Derived.Test.YtfogmgcpajndcaaTGemmN
import Derived.Test.YtfogmgcpajndcaaFx7
import Derived.Test.YtfogmgcpajndcaaFx15
namespace Go.Proofs.Ytfogmgcpajndcaa.Pure
open Gim Go Go.RowKit Go.Proofs.Ytfogmgcpajndcaa.F Go.Proofs.YtfogmgcpajndcaaW.PrintWords Go.Proofs.YtfogmgcpajndcaaW.PrintLast
set_option linter.unusedVariables false
set_option linter.unusedSectionVars false

theorem head_ok : gimballaw11_head.f 200 = some true := by decide +kernel
theorem head_ev : Ev (fun k => gimballaw11_head.f k) true := Ev.of (fun k => gimballaw11_head.mono k) head_ok
/-- What the identity makes of a number: itself, but for a zero's sign. -/
def nz (v : Int) : Int := if mag v ≠ 0 then v else 0
theorem mv_one {a : Int} (ha : U a) (fa : fin a) : mv ONE a = a := by
  obtain ⟨u1, f1, v1⟩ := one_fin
  have R := mv_Rd u1 ha f1 fa
  have e : (neg ONE != neg a) = neg a := by have : neg ONE = false := by decide
                                            rw [this]; simp
  rw [v1, e] at R
  exact (keep ha fa R (by grind) (fun _ => rfl)).1
theorem den_at {R C : Nat} {d : List Int} (hd : d.length = R * C) {i k : Nat} (hi : i < R) (hk : k < C) : den C R d i k = rd d ((i * C + k : Nat) : Int) := at_dense hd hi hk
theorem den_gat {R C : Nat} {g : Nat → Nat → Int} {i k : Nat} (hi : i < R) (hk : k < C) : den C R (gat R C g) i k = g i k := at_gat hi hk
theorem den_all_U {R C : Nat} {d : List Int} (h : Words (R * C) d) (i k : Nat) : U (den C R d i k) := den_U h.2 i k
section
variable {P Q R : Nat} (hP : P ≤ 7) (hQ : Q ≤ 7) (hR : R ≤ 7) {dx dy : List Int} (wx : Words (P * Q) dx) (wy : Words (Q * R) dy)
  (fx : ∀ j k : Nat, j < P → k < Q → fin (at4 P Q Q dx j k)) (fy : ∀ j k : Nat, j < Q → k < R → fin (at4 Q R R dy j k))
include hP hQ wx fx
theorem left_one {i k : Nat} (hi : i < P) (hk : k < Q) : gS (den P P (gat P P (dia P))) (den Q P dx) P i k = nz (den Q P dx i k) := by
  have ha := den_all_U wx i k
  have fa : fin (den Q P dx i k) := fx i k hi hk
  unfold gS
  rw [dS_one (i := i) ha fa ?_ P ?_]
  · unfold nz
    by_cases c : mag (den Q P dx i k) = 0
    · rw [if_neg (by simp [c]), if_neg (by simp [c])]
    · rw [if_pos ⟨hi, c⟩, if_pos c]
  · rw [den_gat hi hi]
    unfold dia
    rw [if_pos ⟨rfl, hi⟩]
    exact mv_one ha fa
  · intro j hj hne
    rw [den_gat hi hj]
    unfold dia
    rw [if_neg (by omega)]
    have uj := den_all_U wx j k
    exact ⟨mv_U U_zero_ uj, mv_nought U_zero_ uj fin_zero (fx j k hj hk) (.inl (by decide))⟩
theorem right_one {i k : Nat} (hi : i < P) (hk : k < Q) : gS (den Q P dx) (den Q Q (gat Q Q (dia Q))) Q i k = nz (den Q P dx i k) := by
  have ha := den_all_U wx i k
  have fa : fin (den Q P dx i k) := fx i k hi hk
  unfold gS
  rw [dS_one (i := k) ha fa ?_ Q ?_]
  · unfold nz
    by_cases c : mag (den Q P dx i k) = 0
    · rw [if_neg (by simp [c]), if_neg (by simp [c])]
    · rw [if_pos ⟨hk, c⟩, if_pos c]
  · rw [den_gat hk hk]
    unfold dia
    rw [if_pos ⟨rfl, hk⟩, mv_comm ha (show U ONE from one_fin.1)]
    exact mv_one ha fa
  · intro j hj hne
    rw [den_gat hj hk]
    unfold dia
    rw [if_neg (by omega)]
    have uj := den_all_U wx i j
    exact ⟨mv_U uj U_zero_, mv_nought uj U_zero_ (fx i j hi hj) fin_zero (.inr (by decide))⟩
theorem left_data : gat P Q (gS (den P P (gat P P (dia P))) (den Q P dx) P) = dx.map nz := by
  apply List.ext_getElem
  · rw [gat_length, List.length_map, wx.1]
  · intro x h1 h2
    have hx : x < P * Q := by rw [gat_length] at h1; exact h1
    have hQ0 : 0 < Q := by
      refine Nat.pos_of_ne_zero fun h => ?_
      rw [h, Nat.mul_zero] at hx; omega
    have hi : x / Q < P := Nat.div_lt_of_lt_mul (by rw [Nat.mul_comm]; exact hx)
    have hk : x % Q < Q := Nat.mod_lt _ hQ0
    rw [gat_get, left_one hP hQ wx fx hi hk, List.getElem_map, den_at wx.1 hi hk]
    have e : x / Q * Q + x % Q = x := by rw [Nat.mul_comm]; exact Nat.div_add_mod x Q
    rw [e, rd_lt (by rw [wx.1]; exact hx)]
theorem right_data : gat P Q (gS (den Q P dx) (den Q Q (gat Q Q (dia Q))) Q) = dx.map nz := by
  apply List.ext_getElem
  · rw [gat_length, List.length_map, wx.1]
  · intro x h1 h2
    have hx : x < P * Q := by rw [gat_length] at h1; exact h1
    have hQ0 : 0 < Q := by
      refine Nat.pos_of_ne_zero fun h => ?_
      rw [h, Nat.mul_zero] at hx; omega
    have hi : x / Q < P := Nat.div_lt_of_lt_mul (by rw [Nat.mul_comm]; exact hx)
    have hk : x % Q < Q := Nat.mod_lt _ hQ0
    rw [gat_get, right_one hP hQ wx fx hi hk, List.getElem_map, den_at wx.1 hi hk]
    have e : x / Q * Q + x % Q = x := by rw [Nat.mul_comm]; exact Nat.div_add_mod x Q
    rw [e, rd_lt (by rw [wx.1]; exact hx)]
omit hP hQ fx in
include wy in
/-- A product, turned, is the product of what is turned, the other way round. -/
theorem turned : gat R P (atT P R R (gat P R (gS (den Q P dx) (den R Q dy) Q))) = gat R P (gS (den Q R (gat R Q (atT Q R R dy))) (den P Q (gat Q P (atT P Q Q dx))) Q) := by
  apply gat_congr
  intro k i hk hi
  show at4 P R R (gat P R (gS (den Q P dx) (den R Q dy) Q)) i k = _
  rw [at_gat hi hk]
  unfold gS
  apply dS_congr
  intro j hj
  rw [den_gat hk hj, den_gat hj hi]
  exact mv_comm (den_all_U wx i j) (den_all_U wy j k)
end
/-- The last loop: number by number. -/
theorem loop {dx : List Int} (hu : ∀ x ∈ dx, U x) {a b c e f g h i j : Int} (hn : dx.length ≤ 100) : ∀ t x : Nat, dx.length - x = t → x ≤ dx.length →
    Ev (fun K => gimballaw11_MulOnes.l0 K (dx.length : Int) x a b c dx e f g (dx.map nz) h i j (dx.map nz)) true := by
  intro t
  induction t with
  | zero =>
    intro x h1 h2
    obtain rfl : x = dx.length := by omega
    refine Ev.succ ?_
    simp only [gimballaw11_MulOnes.l0]
    exact Ev.neg (by omega) (Ev.now _)
  | succ t ih =>
    intro x h1 h2
    have hx : x < dx.length := by omega
    have hlen : (dx.map nz).length = dx.length := List.length_map _
    have e1 : rd dx (x : Int) = dx[x] := rd_lt hx
    have e2 : rd (dx.map nz) (x : Int) = nz dx[x] := by rw [rd_lt (by rw [hlen]; exact hx), List.getElem_map]
    have u := hu _ (List.getElem_mem hx)
    have un : U (nz dx[x]) := by unfold nz; split; exact u; exact U_zero_
    have a1 := word_Abs_eq u
    have a2 := word_Abs_eq un
    have next := ih (x + 1) (by omega) (by omega)
    refine Ev.succ ?_
    simp only [gimballaw11_MulOnes.l0]
    rw [e1, e2, hlen, w64 (x := (x : Int) + 1) (by omega) (by omega)]
    have am : nz dx[x] % 9223372036854775808 = dx[x] % 9223372036854775808 := by
      unfold nz
      by_cases m : mag dx[x] = 0
      · rw [if_neg (by simp [m])]
        have : dx[x] % 9223372036854775808 = 0 := m
        rw [this]; rfl
      · rw [if_pos m]
    refine Ev.pos (by omega) (Ev.pos (by omega) (Ev.pos (by omega) (Ev.pos (by omega) ?_)))
    by_cases q : nz dx[x] = dx[x]
    · exact Ev.pos q (Ev.pos (by omega) (Ev.pos q (Ev.call a2 (Ev.call a1 (Ev.pos am next)))))
    · have m : mag dx[x] = 0 := by
        refine Decidable.byContradiction fun m => q ?_
        unfold nz
        rw [if_pos m]
      exact Ev.neg q (Ev.call a1 (Ev.pos m (Ev.pos (by omega) (Ev.neg q (Ev.call a1 (Ev.pos m (Ev.call a2 (Ev.call a1 (Ev.pos am next)))))))))
theorem and7_nat (x : Int) : ∃ n : Nat, Go.bits .and .i64 x 7 = (n : Int) ∧ n ≤ 7 := by
  rw [and7]
  exact ⟨(x % 8).toNat, by omega, by omega⟩
theorem MulOnes : gimballaw11_MulOnes.Pure := by
  intro a0 a1 a2 all _ _ _ _ _ wall
  have ha : ∀ x ∈ all, U x := fun x hx => U_of_wf (wall x hx)
  apply Ev.rounds
  unfold gimballaw11_MulOnes.f
  refine Ev.bind head_ev (Ev.pos rfl ?_)
  by_cases hn : (all.length : Int) > 100
  · exact Ev.pos hn (Ev.now _)
  refine Ev.neg hn ?_
  have hl : all.length ≤ 100 := by omega
  obtain ⟨P, eP, hP⟩ := and7_nat a0
  obtain ⟨Q, eQ, hQ⟩ := and7_nat a1
  obtain ⟨R, eR, hR⟩ := and7_nat a2
  rw [eP, eQ, eR]
  obtain ⟨dx, wx, ex⟩ := made11_ev (R := P) (C := Q) (by omega) (by omega) ha hl (show (0 : Int) ≤ 0 by decide) (by decide)
  obtain ⟨dy, wy, ey⟩ := made11_ev (R := Q) (C := R) (by omega) (by omega) ha hl (show (0 : Int) ≤ 3 by decide) (by decide)
  obtain ⟨bx, fex, fbx⟩ := finite_ev (R := P) (C := Q) (s := (Q : Int)) (by omega) (by omega) (by omega) wx.2
  obtain ⟨by_, fey, fby⟩ := finite_ev (R := Q) (C := R) (s := (R : Int)) (by omega) (by omega) (by omega) wy.2
  refine Ev.bind ex (Ev.bind ey (Ev.bind fex ?_))
  have out : ∀ {c x1 x2 x3 : Int} {d : List Int} {y1 y2 y3 : Int} {d' : List Int}, Ev (fun K => gimballaw11_MulOnes.j0 K c a1 true x1 x2 x3 d y1 y2 y3 d') true := by
    intros
    refine Ev.succ ?_
    simp only [gimballaw11_MulOnes.j0]
    exact Ev.pos (by simp) (Ev.now _)
  cases bx
  · exact Ev.neg (by simp) out
  · refine Ev.pos rfl (Ev.bind fey ?_)
    cases by_
    · exact out
    · have fx := fbx.mp rfl
      have fy := fby.mp rfl
      refine Ev.succ ?_
      simp only [gimballaw11_MulOnes.j0]
      rw [eP, eQ]
      have one_U : ∀ n, ∀ x ∈ gat n n (dia n), U x := fun n => gat_U fun i k => by unfold dia; split; exact one_fin.1; exact U_zero_
      have g1 := gemmN_ev (P := P) (Q := P) (R := Q) (by omega) (by omega) (by omega) (one_U P) wx.2 gat_length wx.1
      have g2 := gemmN_ev (P := P) (Q := Q) (R := Q) (by omega) (by omega) (by omega) wx.2 (one_U Q) wx.1 gat_length
      have g3 := gemmN_ev (P := P) (Q := Q) (R := R) (by omega) (by omega) (by omega) wx.2 wy.2 wx.1 wy.1
      have uT : ∀ {r c : Nat} {d : List Int}, (∀ x ∈ d, U x) → ∀ x ∈ gat c r (atT r c c d), U x := fun h => gat_U fun i k => at_U h _ _
      have g4 := gemmN_ev (P := R) (Q := Q) (R := P) (by omega) (by omega) (by omega) (uT wy.2) (uT wx.2) gat_length gat_length
      rw [left_data hP hQ wx fx] at g1
      rw [right_data hP hQ wx fx] at g2
      have t1 := turn_ev (R := Q) (C := R) (by omega) (by omega) (s := (R : Int)) (by omega) dy
      have t2 := turn_ev (R := P) (C := Q) (by omega) (by omega) (s := (Q : Int)) (by omega) dx
      have t3 := turn_ev (R := P) (C := R) (by omega) (by omega) (s := (R : Int)) (by omega) (gat P R (gS (den Q P dx) (den R Q dy) Q))
      rw [turned wx wy] at t3
      have sm := same_ev (R := R) (C := P) (s := (P : Int)) (r' := (R : Int)) (c' := (P : Int)) (s' := (P : Int)) ⟨by omega, by omega, by omega⟩ ⟨by omega, by omega, by omega⟩
        (gat R P (gS (den Q R (gat R Q (atT Q R R dy))) (den P Q (gat Q P (atT P Q Q dx))) Q)) (gat R P (gS (den Q R (gat R Q (atT Q R R dy))) (den P Q (gat Q P (atT P Q Q dx))) Q))
      rw [decide_eq_true ⟨rfl, rfl, fun i _ k _ => rfl⟩] at sm
      refine Ev.neg (by simp) (Ev.bind (one_ev (by omega)) (Ev.bind g1 (Ev.bind (one_ev (by omega)) (Ev.bind g2 (Ev.bind g3 (Ev.bind t1 (Ev.bind t2 (Ev.bind g4 (Ev.pos rfl (Ev.pos rfl (Ev.pos rfl (Ev.pos rfl (Ev.bind t3 (Ev.bind sm (Ev.succ ?_)))))))))))))))
      simp only [gimballaw11_MulOnes.j1]
      refine Ev.neg (by simp) ?_
      exact loop wx.2 (by rw [wx.1]; have := Nat.mul_le_mul hP hQ; omega) dx.length 0 (by omega) (by omega)
end Go.Proofs.Ytfogmgcpajndcaa.Pure

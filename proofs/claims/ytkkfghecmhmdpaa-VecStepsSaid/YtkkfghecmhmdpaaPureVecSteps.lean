/- VecSteps: sums and products of any lists, step by step, and all flags; for every input. -/
import Derived.Test.YtkkfghecmhmdpaaTVec
import Derived.Test.YtkkfghecmhmdpaaFx8
import Derived.Test.YtkkfghecmhmdpaaFx12
import Derived.Test.YtkkfghecmhmdpaaFx13
import Derived.Test.YtkkfghecmhmdpaaFx14
namespace Go.Proofs.Ytkkfghecmhmdpaa.Pure
open Gim Go Go.RowKit Go.Proofs.Ytkkfghecmhmdpaa.F Go.Proofs.YtkkfghecmhmdpaaW.PrintWords Go.Proofs.YtkkfghecmhmdpaaW.PrintLast
set_option linter.unusedVariables false

theorem head_ok : gimballaw10_head.f 200 = some true := by decide +kernel
theorem head_ev : Ev (fun k => gimballaw10_head.f k) true := Ev.of (fun k => gimballaw10_head.mono k) head_ok
section
variable {x y : List Int} {a s : Int}
noncomputable def pV (x y : List Int) (a : Int) (i : Nat) : Int := av (mv a (rd x (i : Int))) (rd y (i : Int))
noncomputable def pF (x y : List Int) (a : Int) (i : Nat) : BitVec 8 := mf a (rd x (i : Int)) ||| af (mv a (rd x (i : Int))) (rd y (i : Int))
noncomputable def qV (x y : List Int) (a s : Int) (i : Nat) : Int := av (mv a (rd x (i : Int))) (mv s (rd y (i : Int)))
noncomputable def rV (x y : List Int) (a s : Int) (i : Nat) : Int := sv (mv a (rd y (i : Int))) (mv s (rd x (i : Int)))
noncomputable def rF (x y : List Int) (a s : Int) (i : Nat) : BitVec 8 :=
  mf a (rd x (i : Int)) ||| mf s (rd y (i : Int)) ||| af (mv a (rd x (i : Int))) (mv s (rd y (i : Int))) ||| (mf a (rd y (i : Int)) ||| mf s (rd x (i : Int)) ||| sf (mv a (rd y (i : Int))) (mv s (rd x (i : Int))))
noncomputable def tV (x : List Int) (a : Int) (i : Nat) : Int := mv a (rd x (i : Int))
noncomputable def tF (x : List Int) (a : Int) (i : Nat) : BitVec 8 := mf a (rd x (i : Int))
noncomputable def uS (x : List Int) : Nat → Int
  | 0 => 0
  | n + 1 => av (uS x n) (rd x (n : Int) % 9223372036854775808)
noncomputable def uF (x : List Int) (i : Nat) : BitVec 8 := af (uS x i) (rd x (i : Int) % 9223372036854775808)
theorem abs_U {z : Int} (h : U z) : U (z % 9223372036854775808) := ⟨by omega, by omega⟩
theorem uS_U (hx : ∀ z ∈ x, U z) : ∀ n, U (uS x n)
  | 0 => show U 0 from ⟨by decide, by decide⟩
  | n + 1 => av_U (uS_U hx n) (abs_U (rd_U hx n))
theorem range_len (f : Nat → Int) (n : Nat) : ((List.range n).map f).length = n := by simp
theorem range_rd (f : Nat → Int) {n i : Nat} (h : i < n) : rd ((List.range n).map f) (i : Int) = f i := by
  unfold rd; simp [List.getD_eq_getElem?_getD, h]
theorem range_succ (f : Nat → Int) (n : Nat) : (List.range (n + 1)).map f = (List.range n).map f ++ [f n] := by rw [List.range_succ, List.map_append]; rfl
theorem short {f : Nat → Int} {i : Nat} (h : i ≤ 50) : ((List.range i).map f).length < 17592186044416 := by rw [range_len]; omega
section
variable (hx : ∀ z ∈ x, U z) (hy : ∀ z ∈ y, U z) (ha : U a) (hs : U s) (hl : x.length = y.length) (hn : x.length ≤ 50) (G : BitVec 8)
include hx hy ha hs hl hn
theorem axpy_l0 : ∀ t i : Nat, x.length - i = t → i ≤ x.length → ∀ F : Int, F8 F → B8 F = G ||| orS (pF x y a) i →
    ∃ F', Ev (fun K => vec_Axpy.l0 K a x y ((List.range i).map (pV x y a)) x.length i F) ((List.range x.length).map (pV x y a), 0, F') ∧ F8 F' ∧ B8 F' = G ||| orS (pF x y a) x.length := by
  have _ := hs
  intro t
  induction t with
  | zero =>
    intro i h1 h2 F hF hB
    obtain rfl : i = x.length := by omega
    refine ⟨F, Ev.succ ?_, hF, hB⟩
    simp only [vec_Axpy.l0]
    exact Ev.neg (by omega) (Ev.now _)
  | succ t ih =>
    intro i h1 h2 F hF hB
    have ux := rd_U hx i
    have uy := rd_U hy i
    obtain ⟨F1, e1, f1, b1⟩ := cMul (F := F) ha ux
    obtain ⟨F2, e2, f2, b2⟩ := cAdd (F := F1) (mv_U ha ux) uy
    obtain ⟨F', ev, r⟩ := ih (i + 1) (by omega) (by omega) F2 f2 (by rw [b2, b1, hB]; simp only [orS, pF]; ac_rfl)
    rw [range_succ] at ev
    refine ⟨F', Ev.succ ?_, r⟩
    simp only [vec_Axpy.l0]
    rw [w64 (x := (i : Int) + 1) (by omega) (by omega)]
    exact Ev.pos (by omega) (Ev.pos (by omega) (Ev.pos (by omega) (Ev.bind e1 (Ev.pos (by omega) (Ev.bind e2 (Ev.pos (short (by omega)) ev))))))
theorem rot_l0 : ∀ t i : Nat, x.length - i = t → i ≤ x.length → ∀ F : Int, F8 F → B8 F = G ||| orS (rF x y a s) i →
    ∃ F', Ev (fun K => vec_Rot.l0 K x y a s ((List.range i).map (qV x y a s)) ((List.range i).map (rV x y a s)) x.length i F) ((List.range x.length).map (qV x y a s), (List.range x.length).map (rV x y a s), 0, F') ∧ F8 F' ∧ B8 F' = G ||| orS (rF x y a s) x.length := by
  intro t
  induction t with
  | zero =>
    intro i h1 h2 F hF hB
    obtain rfl : i = x.length := by omega
    refine ⟨F, Ev.succ ?_, hF, hB⟩
    simp only [vec_Rot.l0]
    exact Ev.neg (by omega) (Ev.now _)
  | succ t ih =>
    intro i h1 h2 F hF hB
    have ux := rd_U hx i
    have uy := rd_U hy i
    obtain ⟨F1, e1, f1, b1⟩ := cMul (F := F) ha ux
    obtain ⟨F2, e2, f2, b2⟩ := cMul (F := F1) hs uy
    obtain ⟨F3, e3, f3, b3⟩ := cAdd (F := F2) (mv_U ha ux) (mv_U hs uy)
    obtain ⟨F4, e4, f4, b4⟩ := cMul (F := F3) ha uy
    obtain ⟨F5, e5, f5, b5⟩ := cMul (F := F4) hs ux
    obtain ⟨F6, e6, f6, b6⟩ := cSub (F := F5) (mv_U ha uy) (mv_U hs ux)
    obtain ⟨F', ev, r⟩ := ih (i + 1) (by omega) (by omega) F6 f6 (by rw [b6, b5, b4, b3, b2, b1, hB]; simp only [orS, rF]; ac_rfl)
    rw [range_succ, range_succ] at ev
    refine ⟨F', Ev.succ ?_, r⟩
    simp only [vec_Rot.l0]
    rw [w64 (x := (i : Int) + 1) (by omega) (by omega)]
    exact Ev.pos (by omega) (Ev.pos (by omega) (Ev.pos (by omega) (Ev.bind e1 (Ev.pos (by omega) (Ev.bind e2 (Ev.bind e3 (Ev.pos (short (by omega)) (Ev.bind e4 (Ev.bind e5 (Ev.bind e6 (Ev.pos (short (by omega)) ev)))))))))))
theorem scal_l0 : ∀ t i : Nat, x.length - i = t → i ≤ x.length → ∀ F : Int, F8 F → B8 F = G ||| orS (tF x a) i →
    ∃ F', Ev (fun K => vec_Scal.l0 K a ((List.range i).map (tV x a)) x x.length i F) ((List.range x.length).map (tV x a), F') ∧ F8 F' ∧ B8 F' = G ||| orS (tF x a) x.length := by
  have _ := hy
  have _ := hs
  intro t
  induction t with
  | zero =>
    intro i h1 h2 F hF hB
    obtain rfl : i = x.length := by omega
    refine ⟨F, Ev.succ ?_, hF, hB⟩
    simp only [vec_Scal.l0]
    exact Ev.neg (by omega) (Ev.now _)
  | succ t ih =>
    intro i h1 h2 F hF hB
    have ux := rd_U hx i
    obtain ⟨F1, e1, f1, b1⟩ := cMul (F := F) ha ux
    obtain ⟨F', ev, r⟩ := ih (i + 1) (by omega) (by omega) F1 f1 (by rw [b1, hB]; simp only [orS, tF]; ac_rfl)
    rw [range_succ] at ev
    refine ⟨F', Ev.succ ?_, r⟩
    simp only [vec_Scal.l0]
    rw [w64 (x := (i : Int) + 1) (by omega) (by omega)]
    exact Ev.pos (by omega) (Ev.pos (by omega) (Ev.pos (by omega) (Ev.bind e1 (Ev.pos (short (by omega)) ev))))
theorem asum_l0 : ∀ t i : Nat, x.length - i = t → i ≤ x.length → ∀ F : Int, F8 F → B8 F = G ||| orS (uF x) i →
    ∃ F', Ev (fun K => vec_Asum.l0 K (uS x i) x x.length i F) (uS x x.length, F') ∧ F8 F' ∧ B8 F' = G ||| orS (uF x) x.length := by
  have _ := hy
  have _ := ha
  have _ := hs
  intro t
  induction t with
  | zero =>
    intro i h1 h2 F hF hB
    obtain rfl : i = x.length := by omega
    refine ⟨F, Ev.succ ?_, hF, hB⟩
    simp only [vec_Asum.l0]
    exact Ev.neg (by omega) (Ev.now _)
  | succ t ih =>
    intro i h1 h2 F hF hB
    have ux := rd_U hx i
    obtain ⟨F1, e1, f1, b1⟩ := cAdd (F := F) (uS_U hx i) (abs_U ux)
    obtain ⟨F', ev, r⟩ := ih (i + 1) (by omega) (by omega) F1 f1 (by rw [b1, hB]; simp only [orS, uF]; ac_rfl)
    refine ⟨F', Ev.succ ?_, r⟩
    simp only [vec_Asum.l0]
    rw [w64 (x := (i : Int) + 1) (by omega) (by omega)]
    exact Ev.pos (by omega) (Ev.pos (by omega) (Ev.pos (by omega) (Ev.call (word_Abs_eq ux) (Ev.bind e1 ev))))
/-- The law's first loop: the sum of products once more. -/
theorem law_l0 : ∀ t i : Nat, x.length - i = t → i ≤ x.length → ∀ F : Int, F8 F → B8 F = orS (dF (fun i => rd x (i : Int)) (fun i => rd y (i : Int))) i →
    ∃ F', F8 F' ∧ B8 F' = orS (dF (fun i => rd x (i : Int)) (fun i => rd y (i : Int))) x.length ∧ ∀ (d e : Int) (p : List Int) (f : Int) (q r : List Int) (g c : Int) (z : Bool),
      Ev (fun K => gimballaw10_VecSteps.l0 K x y a s d e p f q r g (dS (fun i => rd x (i : Int)) (fun i => rd y (i : Int)) x.length) x.length (x.length : Int) c F') z → Ev (fun K => gimballaw10_VecSteps.l0 K x y a s d e p f q r g (dS (fun i => rd x (i : Int)) (fun i => rd y (i : Int)) i) x.length i c F) z := by
  have _ := ha
  have _ := hs
  intro t
  induction t with
  | zero =>
    intro i h1 h2 F hF hB
    obtain rfl : i = x.length := by omega
    exact ⟨F, hF, hB, fun _ _ _ _ _ _ _ _ _ h => h⟩
  | succ t ih =>
    intro i h1 h2 F hF hB
    have ux := rd_U hx i
    have uy := rd_U hy i
    have us := dS_U (x := fun i => rd x (i : Int)) (y := fun i => rd y (i : Int)) (rd_U hx) (rd_U hy) i
    obtain ⟨F1, e1, f1, b1⟩ := cMul (F := F) ux uy
    obtain ⟨F2, e2, f2, b2⟩ := cAdd (F := F1) us (mv_U ux uy)
    obtain ⟨F', f', b', ev⟩ := ih (i + 1) (by omega) (by omega) F2 f2 (by rw [b2, b1, hB]; simp only [orS, dF]; ac_rfl)
    refine ⟨F', f', b', fun d e p f q r g c z h => Ev.succ ?_⟩
    simp only [gimballaw10_VecSteps.l0]
    rw [w64 (x := (i : Int) + 1) (by omega) (by omega)]
    exact Ev.pos (by omega) (Ev.pos (by omega) (Ev.pos (by omega) (Ev.pos (by omega) (Ev.bind e1 (Ev.bind e2 (ev d e p f q r g c z h))))))
theorem law_l1 : ∀ t i : Nat, x.length - i = t → i ≤ x.length → ∀ F : Int, F8 F → B8 F = G ||| orS (fun i => pF x y a i ||| rF x y a s i) i →
    ∃ F', F8 F' ∧ B8 F' = G ||| orS (fun i => pF x y a i ||| rF x y a s i) x.length ∧ ∀ (c : Int) (z : Bool),
      Ev (fun K => gimballaw10_VecSteps.l1 K x y a s ((List.range x.length).map (pV x y a)) ((List.range x.length).map (qV x y a s)) ((List.range x.length).map (rV x y a s)) x.length (x.length : Int) c F') z → Ev (fun K => gimballaw10_VecSteps.l1 K x y a s ((List.range x.length).map (pV x y a)) ((List.range x.length).map (qV x y a s)) ((List.range x.length).map (rV x y a s)) x.length i c F) z := by
  intro t
  induction t with
  | zero =>
    intro i h1 h2 F hF hB
    obtain rfl : i = x.length := by omega
    exact ⟨F, hF, hB, fun _ _ h => h⟩
  | succ t ih =>
    intro i h1 h2 F hF hB
    have hi : i < x.length := by omega
    have ux := rd_U hx i
    have uy := rd_U hy i
    obtain ⟨F1, e1, f1, b1⟩ := cMul (F := F) ha ux
    obtain ⟨F2, e2, f2, b2⟩ := cAdd (F := F1) (mv_U ha ux) uy
    obtain ⟨F3, e3, f3, b3⟩ := cMul (F := F2) ha ux
    obtain ⟨F4, e4, f4, b4⟩ := cMul (F := F3) hs uy
    obtain ⟨F5, e5, f5, b5⟩ := cAdd (F := F4) (mv_U ha ux) (mv_U hs uy)
    obtain ⟨F6, e6, f6, b6⟩ := cMul (F := F5) ha uy
    obtain ⟨F7, e7, f7, b7⟩ := cMul (F := F6) hs ux
    obtain ⟨F8_, e8, f8, b8⟩ := cSub (F := F7) (mv_U ha uy) (mv_U hs ux)
    obtain ⟨F', f', b', ev⟩ := ih (i + 1) (by omega) (by omega) F8_ f8 (by rw [b8, b7, b6, b5, b4, b3, b2, b1, hB]; simp only [orS, pF, rF]; ac_rfl)
    refine ⟨F', f', b', fun c z h => Ev.succ ?_⟩
    simp only [gimballaw10_VecSteps.l1]
    rw [w64 (x := (i : Int) + 1) (by omega) (by omega), range_rd _ hi, range_rd _ hi, range_rd _ hi, range_len, range_len, range_len]
    exact Ev.pos (by omega) (Ev.pos (by omega) (Ev.pos (by omega) (Ev.pos (by omega) (Ev.bind e1 (Ev.pos (by omega) (Ev.bind e2 (Ev.pos rfl (Ev.pos (by omega) (Ev.bind e3 (Ev.bind e4 (Ev.bind e5 (Ev.pos rfl (Ev.pos (by omega) (Ev.bind e6 (Ev.bind e7 (Ev.bind e8 (Ev.pos rfl (ev c z h))))))))))))))))))
theorem law_l2 : ∀ t i : Nat, x.length - i = t → i ≤ x.length → ∀ F : Int, F8 F → B8 F = G ||| orS (fun i => tF x a i ||| uF x i) i →
    ∃ F', F8 F' ∧ B8 F' = G ||| orS (fun i => tF x a i ||| uF x i) x.length ∧ ∀ (c : Int) (z : Bool),
      Ev (fun K => gimballaw10_VecSteps.l2 K x a (uS x x.length) ((List.range x.length).map (tV x a)) x.length (x.length : Int) c F') z → Ev (fun K => gimballaw10_VecSteps.l2 K x a (uS x i) ((List.range x.length).map (tV x a)) x.length i c F) z := by
  have _ := hy
  have _ := hs
  intro t
  induction t with
  | zero =>
    intro i h1 h2 F hF hB
    obtain rfl : i = x.length := by omega
    exact ⟨F, hF, hB, fun _ _ h => h⟩
  | succ t ih =>
    intro i h1 h2 F hF hB
    have hi : i < x.length := by omega
    have ux := rd_U hx i
    obtain ⟨F1, e1, f1, b1⟩ := cMul (F := F) ha ux
    obtain ⟨F2, e2, f2, b2⟩ := cAdd (F := F1) (uS_U hx i) (abs_U ux)
    obtain ⟨F', f', b', ev⟩ := ih (i + 1) (by omega) (by omega) F2 f2 (by rw [b2, b1, hB]; simp only [orS, tF, uF]; ac_rfl)
    refine ⟨F', f', b', fun c z h => Ev.succ ?_⟩
    simp only [gimballaw10_VecSteps.l2]
    rw [w64 (x := (i : Int) + 1) (by omega) (by omega), range_rd _ hi, range_len]
    exact Ev.pos (by omega) (Ev.pos (by omega) (Ev.pos (by omega) (Ev.pos (by omega) (Ev.bind e1 (Ev.pos rfl (Ev.call (word_Abs_eq ux) (Ev.bind e2 (ev c z h))))))))
end
theorem short_lists (hx : ∀ z ∈ x, U z) (hy : ∀ z ∈ y, U z) (ha : U a) (hs : U s) (hn : x.length ≤ 50) : Ev (fun K => gimballaw10_VecSteps.j0 K x y a s false) true := by
  refine Ev.succ ?_
  simp only [gimballaw10_VecSteps.j0]
  refine Ev.neg (by decide) ?_
  by_cases hl : x.length = y.length
  · obtain ⟨F1, e1, f1, b1⟩ := dot_ev hx hy hl (by omega) F8_0
    obtain ⟨F2, e2, f2, b2⟩ := axpy_l0 hx hy ha hs hl hn (B8 F1) x.length 0 (by omega) (by omega) F1 f1 (by simp [orS])
    obtain ⟨F3, e3, f3, b3⟩ := rot_l0 hx hy ha hs hl hn (B8 F2) x.length 0 (by omega) (by omega) F2 f2 (by simp [orS])
    have e2' : Ev (fun K => vec_Axpy.f K F1 a x y) ((List.range x.length).map (pV x y a), 0, F2) := by
      unfold vec_Axpy.f; exact Ev.pos (by omega) e2
    have e3' : Ev (fun K => vec_Rot.f K F2 x y a s) ((List.range x.length).map (qV x y a s), (List.range x.length).map (rV x y a s), 0, F3) := by
      unfold vec_Rot.f; exact Ev.pos (by omega) e3
    refine Ev.bind e1 (Ev.bind e2' (Ev.bind e3' (Ev.pos (by omega) ?_)))
    obtain ⟨K1, k1, c1, go1⟩ := law_l0 hx hy ha hs hl hn x.length 0 (by omega) (by omega) 0 F8_0 (by simp [orS, B8_0])
    refine go1 _ _ _ _ _ _ _ _ _ (Ev.succ ?_)
    simp only [gimballaw10_VecSteps.l0]
    rw [range_len, range_len, range_len]
    refine Ev.neg (by omega) (Ev.pos (by simp) (Ev.pos (by simp) (Ev.pos (by simp) (Ev.pos (by simp) (Ev.pos (by simp) (Ev.pos (by simp) (Ev.succ ?_)))))))
    simp only [gimballaw10_VecSteps.j2]
    refine Ev.neg (by simp) ?_
    obtain ⟨K2, k2, c2, go2⟩ := law_l1 hx hy ha hs hl hn (B8 K1) x.length 0 (by omega) (by omega) K1 k1 (by simp [orS])
    refine go2 _ _ (Ev.succ ?_)
    simp only [gimballaw10_VecSteps.l1]
    obtain ⟨F4, e4, f4, b4⟩ := scal_l0 hx hy ha hs hl hn (B8 F3) x.length 0 (by omega) (by omega) F3 f3 (by simp [orS])
    have e4' : Ev (fun K => vec_Scal.f K F3 a x) ((List.range x.length).map (tV x a), F4) := by
      unfold vec_Scal.f; exact e4
    refine Ev.neg (by omega) (Ev.bind e4' ?_)
    dsimp only
    rw [range_len]
    refine Ev.pos rfl ?_
    obtain ⟨K3, k3, c3, go3⟩ := law_l2 hx hy ha hs hl hn (B8 K2) x.length 0 (by omega) (by omega) K2 k2 (by simp [orS])
    refine go3 _ _ (Ev.succ ?_)
    simp only [gimballaw10_VecSteps.l2]
    obtain ⟨F5, e5, f5, b5⟩ := asum_l0 hx hy ha hs hl hn (B8 F4) x.length 0 (by omega) (by omega) F4 f4 (by simp [orS])
    have e5' : Ev (fun K => vec_Asum.f K F4 x) (uS x x.length, F5) := by
      unfold vec_Asum.f; exact e5
    refine Ev.neg (by omega) (Ev.bind e5' (Ev.pos rfl ?_))
    have : F5 = K3 := by
      refine F8_ext f5 k3 ?_
      rw [b5, b4, b3, b2, b1, c3, c2, c1, orS_or, orS_or, B8_0]
      simp only [BitVec.zero_or]
      ac_rfl
    rw [this]
    exact Ev.ofEq (by simp)
  · have e2 : Ev (fun K => vec_Axpy.f K 0 a x y) ([], 4, 0) := by
      unfold vec_Axpy.f; exact Ev.neg (by omega) (Ev.now _)
    have e3 : Ev (fun K => vec_Rot.f K 0 x y a s) ([], [], 4, 0) := by
      unfold vec_Rot.f; exact Ev.neg (by omega) (Ev.now _)
    refine Ev.bind (dot_no hl) (Ev.bind e2 (Ev.bind e3 (Ev.neg (by omega) (Ev.pos rfl (Ev.pos rfl (Ev.pos rfl (Ev.pos rfl (Ev.pos (by simp [wrap64]) (Ev.ofEq (by simp))))))))))
end
theorem VecSteps : gimballaw10_VecSteps.Pure := by
  intro x y a s _ _ wx _ _ wy wa ws
  have hx : ∀ z ∈ x, U z := fun z h => U_of_wf (wx z h)
  have hy : ∀ z ∈ y, U z := fun z h => U_of_wf (wy z h)
  have ha := U_of_wf wa
  have hs := U_of_wf ws
  apply Ev.rounds
  unfold gimballaw10_VecSteps.f
  refine Ev.bind head_ev (Ev.pos rfl ?_)
  have yes : Ev (fun K => gimballaw10_VecSteps.j0 K x y a s true) true := by
    refine Ev.succ ?_
    simp only [gimballaw10_VecSteps.j0]
    exact Ev.pos (by simp) (Ev.now _)
  by_cases hn : (x.length : Int) > 50
  · exact Ev.pos hn yes
  refine Ev.neg hn ?_
  by_cases hm : (y.length : Int) > 50
  · rw [decide_eq_true hm]; exact yes
  · rw [decide_eq_false hm]; exact short_lists hx hy ha hs (by omega)
end Go.Proofs.Ytkkfghecmhmdpaa.Pure

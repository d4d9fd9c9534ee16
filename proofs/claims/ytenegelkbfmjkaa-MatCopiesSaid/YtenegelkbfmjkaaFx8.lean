-- Written by a program of this seat's session (mkprint), out of the translation.
import Derived.Test.YtenegelkbfmjkaaShort
import Derived.Test.YtenegelkbfmjkaaFx0
import Derived.Test.YtenegelkbfmjkaaFx2
namespace Go.Proofs.Ytenegelkbfmjkaa.F
open Go.RowKit Go.Proofs.YtenegelkbfmjkaaW.PrintWords Go.Proofs.YtenegelkbfmjkaaW.PrintLast Go.Proofs.YtenegelkbfmjkaaW.PrintMore
attribute [local go_sem] max2_int min2_int max_two min_two max_three min_three max_four min_four   -- for this text's walks alone
set_option linter.unusedVariables false
set_option linter.unusedSimpArgs false

/-! ### mat_Matrix_Same: function 17 -/
mutual
def mat_Matrix_Same.j0 : Nat → Bool → Int → Int → Int → List Int → Int → Int → Int → List Int → Option (Bool)
 | 0, _, _, _, _, _, _, _, _, _ => none
 | k + 1, x18, x269000, x269001, x269002, x269003, x270000, x270001, x270002, x270003 => if x18 = true then (some false) else (mat_Matrix_Same.l0 k x269000 0 x269000 x269001 x269002 x269003 x270000 x270001 x270002 x270003)
def mat_Matrix_Same.l0 : Nat → Int → Int → Int → Int → Int → List Int → Int → Int → Int → List Int → Option (Bool)
 | 0, _, _, _, _, _, _, _, _, _, _ => none
 | k + 1, x20, x21, x269000, x269001, x269002, x269003, x270000, x270001, x270002, x270003 => if x21 < x20 then (mat_Matrix_Same.l1 k x21 x20 x21 x269001 0 x269000 x269001 x269002 x269003 x270000 x270001 x270002 x270003) else (some true)
def mat_Matrix_Same.l1 : Nat → Int → Int → Int → Int → Int → Int → Int → Int → List Int → Int → Int → Int → List Int → Option (Bool)
 | 0, _, _, _, _, _, _, _, _, _, _, _, _, _ => none
 | k + 1, x5, x20, x21, x25, x26, x269000, x269001, x269002, x269003, x270000, x270001, x270002, x270003 => if x26 < x25 then ((mat_Matrix_At.f x269000 x269001 x269002 x269003 x5 x26).bind fun t270 => ((mat_Matrix_At.f x270000 x270001 x270002 x270003 x5 x26).bind fun t271 => (if t270 = t271 then (mat_Matrix_Same.l1 k x5 x20 x21 x25 (wrap64 (x26 + 1)) x269000 x269001 x269002 x269003 x270000 x270001 x270002 x270003) else (some false)))) else (mat_Matrix_Same.l0 k x20 (wrap64 (x21 + 1)) x269000 x269001 x269002 x269003 x270000 x270001 x270002 x270003)
end
def mat_Matrix_Same.f (k : Nat) (a0_0 : Int) (a0_1 : Int) (a0_2 : Int) (l0_3 : List Int) (a1_0 : Int) (a1_1 : Int) (a1_2 : Int) (l1_3 : List Int) : Option (Bool) := if a0_0 = a1_0 then (mat_Matrix_Same.j0 k (a0_1 != a1_1) a0_0 a0_1 a0_2 l0_3 a1_0 a1_1 a1_2 l1_3) else (mat_Matrix_Same.j0 k true a0_0 a0_1 a0_2 l0_3 a1_0 a1_1 a1_2 l1_3)
theorem mat_Matrix_Same.mono_l : ∀ k, (∀ y0 y1 y2 y3 y4 y5 y6 y7 y8, LeO (mat_Matrix_Same.j0 k y0 y1 y2 y3 y4 y5 y6 y7 y8) (mat_Matrix_Same.j0 (k + 1) y0 y1 y2 y3 y4 y5 y6 y7 y8)) ∧ (∀ y0 y1 y2 y3 y4 y5 y6 y7 y8 y9, LeO (mat_Matrix_Same.l0 k y0 y1 y2 y3 y4 y5 y6 y7 y8 y9) (mat_Matrix_Same.l0 (k + 1) y0 y1 y2 y3 y4 y5 y6 y7 y8 y9)) ∧ (∀ y0 y1 y2 y3 y4 y5 y6 y7 y8 y9 y10 y11 y12, LeO (mat_Matrix_Same.l1 k y0 y1 y2 y3 y4 y5 y6 y7 y8 y9 y10 y11 y12) (mat_Matrix_Same.l1 (k + 1) y0 y1 y2 y3 y4 y5 y6 y7 y8 y9 y10 y11 y12))
 | 0 => ⟨fun _ _ _ _ _ _ _ _ _ r h => by simp [mat_Matrix_Same.j0] at h, fun _ _ _ _ _ _ _ _ _ _ r h => by simp [mat_Matrix_Same.l0] at h, fun _ _ _ _ _ _ _ _ _ _ _ _ _ r h => by simp [mat_Matrix_Same.l1] at h⟩
 | k + 1 => by
  obtain ⟨ih0, ih1, ih2⟩ := mat_Matrix_Same.mono_l k
  refine ⟨?_, ?_, ?_⟩ <;> intros <;> (first | unfold mat_Matrix_Same.j0 | unfold mat_Matrix_Same.l0 | unfold mat_Matrix_Same.l1) <;>
   repeat' with_reducible first | apply ih0 | apply ih1 | apply ih2 | exact LeO.refl _ | exact LeO.none _ | refine LeO.ite ?_ ?_ | refine LeO.bind ?_ (fun _ => ?_)
theorem mat_Matrix_Same.mono : ∀ a0 a1 a2 a3 a4 a5 a6 a7 k, LeO (mat_Matrix_Same.f k a0 a1 a2 a3 a4 a5 a6 a7) (mat_Matrix_Same.f (k + 1) a0 a1 a2 a3 a4 a5 a6 a7) := by
 intro a0 a1 a2 a3 a4 a5 a6 a7 k
 obtain ⟨ih0, ih1, ih2⟩ := mat_Matrix_Same.mono_l k
 unfold mat_Matrix_Same.f
 repeat' with_reducible first | apply ih0 | apply ih1 | apply ih2 | exact LeO.refl _ | exact LeO.none _ | refine LeO.ite ?_ ?_ | refine LeO.bind ?_ (fun _ => ?_)
def mat_Matrix_Same.T9 : Bool × List (List Nat × List Nat) := (true, [([], []), ([], []), ([], []), ([0, 1, 2], [0, 1, 2]), ([], []), ([], []), ([], []), ([4, 5, 6, 3], [4, 5, 6]), ([3, 7], [3, 7])])
def mat_Matrix_Same.B9 : List Nat := [0, 0, 0, 7, 0, 0, 0, 127, 255]
theorem mat_Matrix_Same.tab9 : rtab .any (opsOf Try.f17 9) = mat_Matrix_Same.T9 := by kernel_rfl
theorem mat_Matrix_Same.bits9 : waitsOk mat_Matrix_Same.T9.2 mat_Matrix_Same.B9 = true := by kernel_rfl
set_option maxHeartbeats 8000000 in
set_option maxRecDepth 100000 in
theorem mat_Matrix_Same.calls (k : Nat) (a0_0 : Int) (a0_1 : Int) (a0_2 : Int) (A0_3 : Option Addr) (c0_3 : Nat) (l0_3 : List Int) (a1_0 : Int) (a1_1 : Int) (a1_2 : Int) (A1_3 : Option Addr) (c1_3 : Nat) (l1_3 : List Int) (r : Bool) (w : World) (hr0_3 : Kd.C (Kd.int .u64) w A0_3 l0_3.length l0_3) (hc0_3 : l0_3.length ≤ c0_3) (hr1_3 : Kd.C (Kd.int .u64) w A1_3 l1_3.length l1_3) (hc1_3 : l1_3.length ≤ c1_3) (h : mat_Matrix_Same.f k a0_0 a0_1 a0_2 l0_3 a1_0 a1_1 a1_2 l1_3 = some r) :
  Calls Try.prog 17 #[.agg #[.int .i64 a0_0, .int .i64 a0_1, .int .i64 a0_2, .slice A0_3 l0_3.length c0_3], .agg #[.int .i64 a1_0, .int .i64 a1_1, .int .i64 a1_2, .slice A1_3 l1_3.length c1_3]] w fun e w' => e = .returned (.bool r) ∧ Below w.heap.size w w' := by
 have hu25 := Try.underlying25
 have HR0_3 := Aside0.mk hr0_3
 have HC0_3 := Aside0.mk hc0_3
 clear hr0_3 hc0_3
 have HR1_3 := Aside0.mk hr1_3
 have HC1_3 := Aside0.mk hc1_3
 clear hr1_3 hc1_3
 have HB := Aside0.mk (Below.refl w.heap.size w)
 have H : (if a0_0 = a1_0 then (mat_Matrix_Same.j0 k (a0_1 != a1_1) a0_0 a0_1 a0_2 l0_3 a1_0 a1_1 a1_2 l1_3) else (mat_Matrix_Same.j0 k true a0_0 a0_1 a0_2 l0_3 a1_0 a1_1 a1_2 l1_3)) = some r := h
 clear h
 have HC3 := Aside0.mk H
 clear H
 go_enter Try.func17, Try.ntmps17
 go_upto_region 1 with (first | ((with_reducible refine gate_dst (N := 2) rfl ?_); refine gbox (N := 2) (cs := #[.int .i64 a0_0, .int .i64 a0_1, .int .i64 a0_2, .slice A0_3 l0_3.length c0_3]) (t := 25) ?_; intro gb268 hg w4 hbox hb; refine ax4 (below_step bel hb) hbox ((ge hg : w.heap.size ≤ gb268)) ((ge hg : w.heap.size ≤ gb268)) ?_; clear HB; intro HB BK268 GW268 GE268; clear hb hbox hg) | ((with_reducible refine gate_dst (N := 3) rfl ?_); refine gbox (N := 3) (cs := #[.int .i64 a1_0, .int .i64 a1_1, .int .i64 a1_2, .slice A1_3 l1_3.length c1_3]) (t := 25) ?_; intro gb269 hg w5 hbox hb; refine ax7 (bb BK268 hb) (below_step bes hb) hbox ((ge hg : w.heap.size ≤ gb269)) ((ge hg : w.heap.size ≤ gb269)) (nl hg BK268) (ng hg BK268) ?_; clear BK268; clear HB; intro BK268 HB BK269 GW269 GE269 NB268_269 NB269_268; clear hb hbox hg))
 (try simp only [Act.put, sa0, sa1, sa2])
 go_cut [18] (fun v18 wc => ∃ (kq : Nat) (x18_2 : Bool), v18 = .bool x18_2 ∧ Aside0 (mat_Matrix_Same.j0 kq x18_2 a0_0 a0_1 a0_2 l0_3 a1_0 a1_1 a1_2 l1_3 = some r) ∧ Aside0 (kq ≤ k) ∧ Aside0 (wc.heap[gb268]? = some (.cells #[.int .i64 a0_0, .int .i64 a0_1, .int .i64 a0_2, (.slice A0_3 l0_3.length c0_3)] 25 (0, 0))) ∧ Aside0 (wc.heap[gb269]? = some (.cells #[.int .i64 a1_0, .int .i64 a1_1, .int .i64 a1_2, (.slice A1_3 l1_3.length c1_3)] 25 (0, 0))) ∧ Aside0 (Below w.heap.size w wc))
 case first =>
  have H := HC3.out
  clear HC3
  by_cases c6 : a0_0 = a1_0
  ·
   rw [if_pos c6] at H
   have c6b0 : (a0_0 == a1_0) = true := beq_iff_eq.mpr c6
   have c6b1 : (a0_0 != a1_0) = false := bne_eq_false_iff_eq.mpr c6
   clear c6
   (first | rw [c6b0] | (simp only [i64_w, i32_w]; rw [c6b0]) | skip)
   have H' := Aside0.mk H
   clear H
   have hnb7 := NB268_269.out
   have hnc7 := NB269_268.out
   have hcz8_0 := bc BK268 0 rfl
   have hcz8_1 := bc BK268 1 rfl
   have hcz8_2 := bc BK268 2 rfl
   have hcz8_3 := bc BK268 3 rfl
   have hfz8_0 := blk_frozen BK268.out 0
   have hfz8_1 := blk_frozen BK268.out 1
   have hfz8_2 := blk_frozen BK268.out 2
   have hfz8_3 := blk_frozen BK268.out 3
   have hcz9_0 := bc BK269 0 rfl
   have hcz9_1 := bc BK269 1 rfl
   have hcz9_2 := bc BK269 2 rfl
   have hcz9_3 := bc BK269 3 rfl
   have hfz9_0 := blk_frozen BK269.out 0
   have hfz9_1 := blk_frozen BK269.out 1
   have hfz9_2 := blk_frozen BK269.out 2
   have hfz9_3 := blk_frozen BK269.out 3
   go_wp2
   go_meet
   case rel => exact ⟨_, ((a0_1 != a1_1)), (by first | rfl | (simp; done) | (simp [*]; done)), H', ⟨by first | omega | exact Nat.le_refl _⟩, ⟨kb BK268⟩, ⟨kb BK269⟩, ⟨bes⟩⟩
  ·
   rw [if_neg c6] at H
   have c6b0 : (a0_0 == a1_0) = false := beq_eq_false_iff_ne.mpr c6
   have c6b1 : (a0_0 != a1_0) = true := bne_iff_ne.mpr c6
   (first | rw [c6b0] | (simp only [i64_w, i32_w]; rw [c6b0]) | skip)
   have H' := Aside0.mk H
   clear H
   have hnb10 := NB268_269.out
   have hnc10 := NB269_268.out
   have hcz11_0 := bc BK268 0 rfl
   have hcz11_1 := bc BK268 1 rfl
   have hcz11_2 := bc BK268 2 rfl
   have hcz11_3 := bc BK268 3 rfl
   have hfz11_0 := blk_frozen BK268.out 0
   have hfz11_1 := blk_frozen BK268.out 1
   have hfz11_2 := blk_frozen BK268.out 2
   have hfz11_3 := blk_frozen BK268.out 3
   have hcz12_0 := bc BK269 0 rfl
   have hcz12_1 := bc BK269 1 rfl
   have hcz12_2 := bc BK269 2 rfl
   have hcz12_3 := bc BK269 3 rfl
   have hfz12_0 := blk_frozen BK269.out 0
   have hfz12_1 := blk_frozen BK269.out 1
   have hfz12_2 := blk_frozen BK269.out 2
   have hfz12_3 := blk_frozen BK269.out 3
   go_wp2
   go_meet
   case rel => exact ⟨_, (true), (by first | rfl | (simp; done) | (simp [*]; done)), H', ⟨by first | omega | exact Nat.le_refl _⟩, ⟨kb BK268⟩, ⟨kb BK269⟩, ⟨bes⟩⟩
 case rest =>
  clear HC3
  try clear c1
  try clear p2
  try clear c6
  try clear c6b0
  try clear c6b1
  try clear c7
  try clear c10
  try clear hcz11_0
  try clear hcz11_1
  try clear hcz11_2
  try clear hcz11_3
  try clear hcz12_0
  try clear hcz12_1
  try clear hcz12_2
  try clear hcz12_3
  try clear hcz8_0
  try clear hcz8_1
  try clear hcz8_2
  try clear hcz8_3
  try clear hcz9_0
  try clear hcz9_1
  try clear hcz9_2
  try clear hcz9_3
  try clear hfz11_0
  try clear hfz11_1
  try clear hfz11_2
  try clear hfz11_3
  try clear hfz12_0
  try clear hfz12_1
  try clear hfz12_2
  try clear hfz12_3
  try clear hfz8_0
  try clear hfz8_1
  try clear hfz8_2
  try clear hfz8_3
  try clear hfz9_0
  try clear hfz9_1
  try clear hfz9_2
  try clear hfz9_3
  obtain ⟨kq, x18_2, rfl, HA, HJ2, BK268, BK269, HB⟩ := hcut
  cases kq with
  | zero => exact absurd HA.out (by simp [mat_Matrix_Same.j0])
  | succ kj2 =>
   have H := HA.out
   clear HA
   simp only [mat_Matrix_Same.j0] at H
   by_cases c13 : x18_2 = true
   ·
    subst c13
    rw [if_pos rfl] at H
    obtain rfl := Option.some.inj H
    go_wp2
    go_ret
    exact ⟨er, bes⟩
   ·
    replace c13 := Bool.eq_false_iff.mpr c13
    subst c13
    rw [if_neg (show ¬ (false = true) by decide)] at H
    have H' := Aside0.mk H
    clear H
    have hnb14 := NB268_269.out
    have hnc14 := NB269_268.out
    have hcz15_0 := bc BK268 0 rfl
    have hcz15_1 := bc BK268 1 rfl
    have hcz15_2 := bc BK268 2 rfl
    have hcz15_3 := bc BK268 3 rfl
    have hfz15_0 := blk_frozen BK268.out 0
    have hfz15_1 := blk_frozen BK268.out 1
    have hfz15_2 := blk_frozen BK268.out 2
    have hfz15_3 := blk_frozen BK268.out 3
    go_wp2
    go_loopg [21] kj2 (fun kq v21 w' => ∃ (x21_2 : Int), v21 = .int .i64 x21_2 ∧ Aside0 (mat_Matrix_Same.l0 kq a0_0 x21_2 a0_0 a0_1 a0_2 l0_3 a1_0 a1_1 a1_2 l1_3 = some r) ∧ Aside0 (kq ≤ kj2) ∧ Aside0 (w'.heap[gb268]? = some (.cells #[.int .i64 a0_0, .int .i64 a0_1, .int .i64 a0_2, (.slice A0_3 l0_3.length c0_3)] 25 (0, 0))) ∧ Aside0 (w'.heap[gb269]? = some (.cells #[.int .i64 a1_0, .int .i64 a1_1, .int .i64 a1_2, (.slice A1_3 l1_3.length c1_3)] 25 (0, 0))) ∧ Aside0 (Below w.heap.size w w'))
    case atStart => exact ⟨(0), (by first | rfl | (simp; done) | (simp [*]; done)), H', ⟨Nat.le_refl _⟩, ⟨kb BK268⟩, ⟨kb BK269⟩, ⟨bes⟩⟩
    case round =>
     clear H'
     try clear c1
     try clear p2
     try clear c6
     try clear c6b0
     try clear c6b1
     try clear c7
     try clear c10
     try clear c13
     try clear c14
     try clear hcz11_0
     try clear hcz11_1
     try clear hcz11_2
     try clear hcz11_3
     try clear hcz12_0
     try clear hcz12_1
     try clear hcz12_2
     try clear hcz12_3
     try clear hcz15_0
     try clear hcz15_1
     try clear hcz15_2
     try clear hcz15_3
     try clear hcz8_0
     try clear hcz8_1
     try clear hcz8_2
     try clear hcz8_3
     try clear hcz9_0
     try clear hcz9_1
     try clear hcz9_2
     try clear hcz9_3
     try clear hfz11_0
     try clear hfz11_1
     try clear hfz11_2
     try clear hfz11_3
     try clear hfz12_0
     try clear hfz12_1
     try clear hfz12_2
     try clear hfz12_3
     try clear hfz15_0
     try clear hfz15_1
     try clear hfz15_2
     try clear hfz15_3
     try clear hfz8_0
     try clear hfz8_1
     try clear hfz8_2
     try clear hfz8_3
     try clear hfz9_0
     try clear hfz9_1
     try clear hfz9_2
     try clear hfz9_3
     try clear p2
     obtain ⟨x21_2, rfl, HA, HK2, BK268, BK269, HB⟩ := hrel
     cases gk with
     | zero => exact absurd HA.out (by simp [mat_Matrix_Same.l0])
     | succ k2 =>
      have H := HA.out
      clear HA
      simp only [mat_Matrix_Same.l0] at H
      by_cases c16 : x21_2 < a0_0
      rotate_left
      ·
       rw [if_neg c16] at H
       have c16b0 : decide (x21_2 < a0_0) = false := decide_eq_false c16
       clear c16
       obtain rfl := Option.some.inj H
       go_wp2
       go_ret
       exact ⟨er, bes⟩

      rw [if_pos c16] at H
      have c16b0 : decide (x21_2 < a0_0) = true := decide_eq_true c16
      clear c16
      have H' := Aside0.mk H
      clear H
      have hnb17 := NB268_269.out
      have hnc17 := NB269_268.out
      have hcz18_0 := bc BK268 0 rfl
      have hcz18_1 := bc BK268 1 rfl
      have hcz18_2 := bc BK268 2 rfl
      have hcz18_3 := bc BK268 3 rfl
      have hfz18_0 := blk_frozen BK268.out 0
      have hfz18_1 := blk_frozen BK268.out 1
      have hfz18_2 := blk_frozen BK268.out 2
      have hfz18_3 := blk_frozen BK268.out 3
      go_wp2
      go_loopg [26] k2 (fun kq v26 w' => ∃ (x26_3 : Int), v26 = .int .i64 x26_3 ∧ Aside0 (mat_Matrix_Same.l1 kq x21_2 a0_0 x21_2 a0_1 x26_3 a0_0 a0_1 a0_2 l0_3 a1_0 a1_1 a1_2 l1_3 = some r) ∧ Aside0 (kq ≤ k2) ∧ Aside0 (w'.heap[gb268]? = some (.cells #[.int .i64 a0_0, .int .i64 a0_1, .int .i64 a0_2, (.slice A0_3 l0_3.length c0_3)] 25 (0, 0))) ∧ Aside0 (w'.heap[gb269]? = some (.cells #[.int .i64 a1_0, .int .i64 a1_1, .int .i64 a1_2, (.slice A1_3 l1_3.length c1_3)] 25 (0, 0))) ∧ Aside0 (Below w.heap.size w w'))
      case atStart => exact ⟨(0), (by first | rfl | (simp; done) | (simp [*]; done)), H', ⟨Nat.le_refl _⟩, ⟨kb BK268⟩, ⟨kb BK269⟩, ⟨bes⟩⟩
      case round =>
       clear H'
       try clear c1
       try clear p2
       try clear c6
       try clear c6b0
       try clear c6b1
       try clear c7
       try clear c10
       try clear c13
       try clear c14
       try clear c16
       try clear c16b0
       try clear c17
       try clear hcz11_0
       try clear hcz11_1
       try clear hcz11_2
       try clear hcz11_3
       try clear hcz12_0
       try clear hcz12_1
       try clear hcz12_2
       try clear hcz12_3
       try clear hcz15_0
       try clear hcz15_1
       try clear hcz15_2
       try clear hcz15_3
       try clear hcz18_0
       try clear hcz18_1
       try clear hcz18_2
       try clear hcz18_3
       try clear hcz8_0
       try clear hcz8_1
       try clear hcz8_2
       try clear hcz8_3
       try clear hcz9_0
       try clear hcz9_1
       try clear hcz9_2
       try clear hcz9_3
       try clear hfz11_0
       try clear hfz11_1
       try clear hfz11_2
       try clear hfz11_3
       try clear hfz12_0
       try clear hfz12_1
       try clear hfz12_2
       try clear hfz12_3
       try clear hfz15_0
       try clear hfz15_1
       try clear hfz15_2
       try clear hfz15_3
       try clear hfz18_0
       try clear hfz18_1
       try clear hfz18_2
       try clear hfz18_3
       try clear hfz8_0
       try clear hfz8_1
       try clear hfz8_2
       try clear hfz8_3
       try clear hfz9_0
       try clear hfz9_1
       try clear hfz9_2
       try clear hfz9_3
       try clear p2
       obtain ⟨x26_3, rfl, HA, HK3, BK268, BK269, HB⟩ := hrel
       cases gk with
       | zero => exact absurd HA.out (by simp [mat_Matrix_Same.l1])
       | succ k3 =>
        have H := HA.out
        clear HA
        simp only [mat_Matrix_Same.l1] at H
        by_cases c19 : x26_3 < a0_1
        rotate_left
        ·
         rw [if_neg c19] at H
         have c19b0 : decide (x26_3 < a0_1) = false := decide_eq_false c19
         clear c19
         have H' := Aside0.mk H
         clear H
         go_wp2
         go_roundg k3
         case measure => have := HJ2.out; have := HK2.out; have := HK3.out; omega
         case rel => exact ⟨(wrap64 (x21_2 + 1)), (by first | rfl | (simp; done) | (simp [*]; done)), H', ⟨by have := HJ2.out; have := HK2.out; have := HK3.out; omega⟩, ⟨kb BK268⟩, ⟨kb BK269⟩, ⟨bes⟩⟩
        rw [if_pos c19] at H
        have c19b0 : decide (x26_3 < a0_1) = true := decide_eq_true c19
        clear c19
        obtain ⟨t270, A200, H⟩ := Option.bind_eq_some_iff.mp H
        (try dsimp -simprocs only at H)
        have A20 := Aside0.mk A200
        clear A200
        obtain ⟨t271, A210, H⟩ := Option.bind_eq_some_iff.mp H
        (try dsimp -simprocs only at H)
        have A21 := Aside0.mk A210
        clear A210
        by_cases c22 : t270 = t271
        ·
         rw [if_pos c22] at H
         have c22b0 : (t270 == t271) = true := beq_iff_eq.mpr c22
         have c22b1 : (t270 != t271) = false := bne_eq_false_iff_eq.mpr c22
         clear c22
         have H' := Aside0.mk H
         clear H
         try go_wp2
         refine ax3 (blk_drew BK268.out) (blk_drew BK269.out) (below_drew1 HB.out) ?_
         clear BK268 BK269 HB
         intro BK268 BK269 HB
         refine start_ (n := 9) (S := fun w' => w'.cell? ⟨gb268, 0, none⟩ = some (.int .i64 a0_0) ∧ w'.cell? ⟨gb268, 1, none⟩ = some (.int .i64 a0_1) ∧ w'.cell? ⟨gb268, 2, none⟩ = some (.int .i64 a0_2) ∧ w'.cell? ⟨gb268, 3, none⟩ = some (.slice A0_3 l0_3.length c0_3) ∧ w'.cell? ⟨gb269, 0, none⟩ = some (.int .i64 a1_0) ∧ w'.cell? ⟨gb269, 1, none⟩ = some (.int .i64 a1_1) ∧ w'.cell? ⟨gb269, 2, none⟩ = some (.int .i64 a1_2) ∧ w'.cell? ⟨gb269, 3, none⟩ = some (.slice A1_3 l1_3.length c1_3)) (ds := []) #[false, false, false, false, false, false, false, false, false] (by kernel_rfl) rfl rfl ⟨(blk_cell BK268.out 0).trans rfl, (blk_cell BK268.out 1).trans rfl, (blk_cell BK268.out 2).trans rfl, (blk_cell BK268.out 3).trans rfl, (blk_cell BK269.out 0).trans rfl, (blk_cell BK269.out 1).trans rfl, (blk_cell BK269.out 2).trans rfl, (blk_cell BK269.out 3).trans rfl⟩ (fun hHeld => ?_); refine with_tabW mat_Matrix_Same.tab9 mat_Matrix_Same.bits9 (fun HT_ HW_ => ?_)
         generalize wr.drew = w23 at BK268 BK269 HB hHeld ⊢
         refine pure_ (i := 1) (N := some 30) (v := ?_) (a' := ?_) #[false, true, false, false, false, false, false, false, false] rfl rfl (any_of HT_.out (by kernel_rfl)) (fun _ _ _ h => h) (Or.inl ⟨by rfl, ?_⟩) ?_ ?_
         rotate_left
         ·
          intro w'
          go_simp
          with_reducible rfl
         rotate_left
         ·
          simp only [Act.put, sa0, sa1, sa2, i64_w, i32_w]
          rfl
         refine pure_ (i := 2) (N := some 31) (v := ?_) (a' := ?_) #[false, true, true, false, false, false, false, false, false] rfl rfl (any_of HT_.out (by kernel_rfl)) (fun _ _ _ h => h) (Or.inl ⟨by rfl, ?_⟩) ?_ ?_
         rotate_left
         ·
          intro w'
          go_simp
          with_reducible rfl
         rotate_left
         ·
          simp only [Act.put, sa0, sa1, sa2, i64_w, i32_w]
          rfl
         refine pure_ (i := 5) (N := some 34) (v := ?_) (a' := ?_) #[false, true, true, false, false, true, false, false, false] rfl rfl (any_of HT_.out (by kernel_rfl)) (fun _ _ _ h => h) (Or.inl ⟨by rfl, ?_⟩) ?_ ?_
         rotate_left
         ·
          intro w'
          go_simp
          with_reducible rfl
         rotate_left
         ·
          simp only [Act.put, sa0, sa1, sa2, i64_w, i32_w]
          rfl
         refine pure_ (i := 6) (N := some 35) (v := ?_) (a' := ?_) #[false, true, true, false, false, true, true, false, false] rfl rfl (any_of HT_.out (by kernel_rfl)) (fun _ _ _ h => h) (Or.inl ⟨by rfl, ?_⟩) ?_ ?_
         rotate_left
         ·
          intro w'
          go_simp
          with_reducible rfl
         rotate_left
         ·
          simp only [Act.put, sa0, sa1, sa2, i64_w, i32_w]
          rfl
         refine take_ (i := 0) (N := some 29) (v := ?_) (a' := ?_) #[true, true, true, false, false, true, true, false, false] rfl rfl (take_ofW HT_.out HW_.out (by kernel_rfl)) (fun _ _ _ h => h) (Or.inl ⟨by rfl, ?_⟩) hHeld ?_ ?_
         rotate_left
         ·
          rintro w' ⟨s0, s1, s2, s3, s4, s5, s6, s7⟩
          go_simp
          with_reducible rfl
         rotate_left
         ·
          simp only [Act.put, sa0, sa1, sa2, i64_w, i32_w]
          rfl
         refine take_ (i := 4) (N := some 33) (v := ?_) (a' := ?_) #[true, true, true, false, true, true, true, false, false] rfl rfl (take_ofW HT_.out HW_.out (by kernel_rfl)) (fun _ _ _ h => h) (Or.inl ⟨by rfl, ?_⟩) hHeld ?_ ?_
         rotate_left
         ·
          rintro w' ⟨s0, s1, s2, s3, s4, s5, s6, s7⟩
          go_simp
          with_reducible rfl
         rotate_left
         ·
          simp only [Act.put, sa0, sa1, sa2, i64_w, i32_w]
          rfl
         refine one_ (i := 3) (N := some 32) #[true, true, true, true, true, true, true, false, false] rfl rfl (one_of HT_.out (by kernel_rfl)) (by decide) (fun K hK => ?_)
         refine goes_ Try.func11 (by kernel_rfl) rfl #[.agg #[.int .i64 a0_0, .int .i64 a0_1, .int .i64 a0_2, .slice A0_3 l0_3.length c0_3], .int .i64 x21_2, .int .i64 x26_3] (by rfl) rfl rfl ga ?_
         with_reducible refine (mat_Matrix_At.calls a0_0 a0_1 a0_2 _ _ l0_3 x21_2 x26_3 t270 _ ?side1 ?side2 A20.out).mono ?_
         (case side1 => repeat (first | exact (Kd.C_below HR0_3.out HB.out) | (with_reducible refine Kd.C_alloc ?_ _) | (with_reducible refine Kd.C_drewN ?_ _) | (with_reducible refine Kd.C_drew ?_)))
         (case side2 => exact HC0_3.out)
         rintro e w24 ⟨rfl, hb⟩
         refine ⟨_, rfl, ?_⟩
         refine ax3 (bb BK268 hb) (bb BK269 hb) (below_step bes hb) ?_
         clear BK268 BK269 HB
         intro BK268 BK269 HB
         (try clear hb)
         (try clear hb2)
         (try clear hk)
         (try clear hi)
         refine hK.out _ _ ⟨(blk_cell BK268.out 0).trans rfl, (blk_cell BK268.out 1).trans rfl, (blk_cell BK268.out 2).trans rfl, (blk_cell BK268.out 3).trans rfl, (blk_cell BK269.out 0).trans rfl, (blk_cell BK269.out 1).trans rfl, (blk_cell BK269.out 2).trans rfl, (blk_cell BK269.out 3).trans rfl⟩ (fun hHeld => ?_)
         clear hK K
         refine norm_ (a' := ?_) ?_ ?_
         rotate_left
         ·
          show Act.put _ (some 32) _ = _
          simp only [Act.put, sa0, sa1, sa2, i64_w, i32_w]
          rfl
         refine one_ (i := 7) (N := some 36) #[true, true, true, true, true, true, true, true, false] rfl rfl (one_of HT_.out (by kernel_rfl)) (by decide) (fun K hK => ?_)
         refine goes_ Try.func11 (by kernel_rfl) rfl #[.agg #[.int .i64 a1_0, .int .i64 a1_1, .int .i64 a1_2, .slice A1_3 l1_3.length c1_3], .int .i64 x21_2, .int .i64 x26_3] (by rfl) rfl rfl ga ?_
         with_reducible refine (mat_Matrix_At.calls a1_0 a1_1 a1_2 _ _ l1_3 x21_2 x26_3 t271 _ ?side1 ?side2 A21.out).mono ?_
         (case side1 => repeat (first | exact (Kd.C_below HR1_3.out HB.out) | (with_reducible refine Kd.C_alloc ?_ _) | (with_reducible refine Kd.C_drewN ?_ _) | (with_reducible refine Kd.C_drew ?_)))
         (case side2 => exact HC1_3.out)
         rintro e w25 ⟨rfl, hb⟩
         refine ⟨_, rfl, ?_⟩
         refine ax3 (bb BK268 hb) (bb BK269 hb) (below_step bes hb) ?_
         clear BK268 BK269 HB
         intro BK268 BK269 HB
         (try clear hb)
         (try clear hb2)
         (try clear hk)
         (try clear hi)
         refine hK.out _ _ ⟨(blk_cell BK268.out 0).trans rfl, (blk_cell BK268.out 1).trans rfl, (blk_cell BK268.out 2).trans rfl, (blk_cell BK268.out 3).trans rfl, (blk_cell BK269.out 0).trans rfl, (blk_cell BK269.out 1).trans rfl, (blk_cell BK269.out 2).trans rfl, (blk_cell BK269.out 3).trans rfl⟩ (fun hHeld => ?_)
         clear hK K
         refine norm_ (a' := ?_) ?_ ?_
         rotate_left
         ·
          show Act.put _ (some 36) _ = _
          simp only [Act.put, sa0, sa1, sa2, i64_w, i32_w]
          rfl
         refine pure_ (i := 8) (N := some 37) (v := ?_) (a' := ?_) #[true, true, true, true, true, true, true, true, true] rfl rfl (any_of HT_.out (by kernel_rfl)) (fun _ _ _ h => h) (Or.inl ⟨by rfl, ?_⟩) ?_ ?_
         rotate_left
         ·
          intro w'
          go_simp
          with_reducible rfl
         rotate_left
         ·
          simp only [Act.put, sa0, sa1, sa2, i64_w, i32_w]
          rfl
         refine done_ (done_of HT_.out (by kernel_rfl)) ?_
         try go_wp2
         go_roundg k3
         case measure => have := HJ2.out; have := HK2.out; have := HK3.out; omega
         case rel => exact ⟨(wrap64 (x26_3 + 1)), (by first | rfl | (simp; done) | (simp [*]; done)), H', ⟨by have := HJ2.out; have := HK2.out; have := HK3.out; omega⟩, ⟨kb BK268⟩, ⟨kb BK269⟩, ⟨bes⟩⟩
        ·
         rw [if_neg c22] at H
         have c22b0 : (t270 == t271) = false := beq_eq_false_iff_ne.mpr c22
         have c22b1 : (t270 != t271) = true := bne_iff_ne.mpr c22
         obtain rfl := Option.some.inj H
         try go_wp2
         refine ax3 (blk_drew BK268.out) (blk_drew BK269.out) (below_drew1 HB.out) ?_
         clear BK268 BK269 HB
         intro BK268 BK269 HB
         refine start_ (n := 9) (S := fun w' => w'.cell? ⟨gb268, 0, none⟩ = some (.int .i64 a0_0) ∧ w'.cell? ⟨gb268, 1, none⟩ = some (.int .i64 a0_1) ∧ w'.cell? ⟨gb268, 2, none⟩ = some (.int .i64 a0_2) ∧ w'.cell? ⟨gb268, 3, none⟩ = some (.slice A0_3 l0_3.length c0_3) ∧ w'.cell? ⟨gb269, 0, none⟩ = some (.int .i64 a1_0) ∧ w'.cell? ⟨gb269, 1, none⟩ = some (.int .i64 a1_1) ∧ w'.cell? ⟨gb269, 2, none⟩ = some (.int .i64 a1_2) ∧ w'.cell? ⟨gb269, 3, none⟩ = some (.slice A1_3 l1_3.length c1_3)) (ds := []) #[false, false, false, false, false, false, false, false, false] (by kernel_rfl) rfl rfl ⟨(blk_cell BK268.out 0).trans rfl, (blk_cell BK268.out 1).trans rfl, (blk_cell BK268.out 2).trans rfl, (blk_cell BK268.out 3).trans rfl, (blk_cell BK269.out 0).trans rfl, (blk_cell BK269.out 1).trans rfl, (blk_cell BK269.out 2).trans rfl, (blk_cell BK269.out 3).trans rfl⟩ (fun hHeld => ?_); refine with_tabW mat_Matrix_Same.tab9 mat_Matrix_Same.bits9 (fun HT_ HW_ => ?_)
         generalize wr.drew = w26 at BK268 BK269 HB hHeld ⊢
         refine pure_ (i := 1) (N := some 30) (v := ?_) (a' := ?_) #[false, true, false, false, false, false, false, false, false] rfl rfl (any_of HT_.out (by kernel_rfl)) (fun _ _ _ h => h) (Or.inl ⟨by rfl, ?_⟩) ?_ ?_
         rotate_left
         ·
          intro w'
          go_simp
          with_reducible rfl
         rotate_left
         ·
          simp only [Act.put, sa0, sa1, sa2, i64_w, i32_w]
          rfl
         refine pure_ (i := 2) (N := some 31) (v := ?_) (a' := ?_) #[false, true, true, false, false, false, false, false, false] rfl rfl (any_of HT_.out (by kernel_rfl)) (fun _ _ _ h => h) (Or.inl ⟨by rfl, ?_⟩) ?_ ?_
         rotate_left
         ·
          intro w'
          go_simp
          with_reducible rfl
         rotate_left
         ·
          simp only [Act.put, sa0, sa1, sa2, i64_w, i32_w]
          rfl
         refine pure_ (i := 5) (N := some 34) (v := ?_) (a' := ?_) #[false, true, true, false, false, true, false, false, false] rfl rfl (any_of HT_.out (by kernel_rfl)) (fun _ _ _ h => h) (Or.inl ⟨by rfl, ?_⟩) ?_ ?_
         rotate_left
         ·
          intro w'
          go_simp
          with_reducible rfl
         rotate_left
         ·
          simp only [Act.put, sa0, sa1, sa2, i64_w, i32_w]
          rfl
         refine pure_ (i := 6) (N := some 35) (v := ?_) (a' := ?_) #[false, true, true, false, false, true, true, false, false] rfl rfl (any_of HT_.out (by kernel_rfl)) (fun _ _ _ h => h) (Or.inl ⟨by rfl, ?_⟩) ?_ ?_
         rotate_left
         ·
          intro w'
          go_simp
          with_reducible rfl
         rotate_left
         ·
          simp only [Act.put, sa0, sa1, sa2, i64_w, i32_w]
          rfl
         refine take_ (i := 0) (N := some 29) (v := ?_) (a' := ?_) #[true, true, true, false, false, true, true, false, false] rfl rfl (take_ofW HT_.out HW_.out (by kernel_rfl)) (fun _ _ _ h => h) (Or.inl ⟨by rfl, ?_⟩) hHeld ?_ ?_
         rotate_left
         ·
          rintro w' ⟨s0, s1, s2, s3, s4, s5, s6, s7⟩
          go_simp
          with_reducible rfl
         rotate_left
         ·
          simp only [Act.put, sa0, sa1, sa2, i64_w, i32_w]
          rfl
         refine take_ (i := 4) (N := some 33) (v := ?_) (a' := ?_) #[true, true, true, false, true, true, true, false, false] rfl rfl (take_ofW HT_.out HW_.out (by kernel_rfl)) (fun _ _ _ h => h) (Or.inl ⟨by rfl, ?_⟩) hHeld ?_ ?_
         rotate_left
         ·
          rintro w' ⟨s0, s1, s2, s3, s4, s5, s6, s7⟩
          go_simp
          with_reducible rfl
         rotate_left
         ·
          simp only [Act.put, sa0, sa1, sa2, i64_w, i32_w]
          rfl
         refine one_ (i := 3) (N := some 32) #[true, true, true, true, true, true, true, false, false] rfl rfl (one_of HT_.out (by kernel_rfl)) (by decide) (fun K hK => ?_)
         refine goes_ Try.func11 (by kernel_rfl) rfl #[.agg #[.int .i64 a0_0, .int .i64 a0_1, .int .i64 a0_2, .slice A0_3 l0_3.length c0_3], .int .i64 x21_2, .int .i64 x26_3] (by rfl) rfl rfl ga ?_
         with_reducible refine (mat_Matrix_At.calls a0_0 a0_1 a0_2 _ _ l0_3 x21_2 x26_3 t270 _ ?side1 ?side2 A20.out).mono ?_
         (case side1 => repeat (first | exact (Kd.C_below HR0_3.out HB.out) | (with_reducible refine Kd.C_alloc ?_ _) | (with_reducible refine Kd.C_drewN ?_ _) | (with_reducible refine Kd.C_drew ?_)))
         (case side2 => exact HC0_3.out)
         rintro e w27 ⟨rfl, hb⟩
         refine ⟨_, rfl, ?_⟩
         refine ax3 (bb BK268 hb) (bb BK269 hb) (below_step bes hb) ?_
         clear BK268 BK269 HB
         intro BK268 BK269 HB
         (try clear hb)
         (try clear hb2)
         (try clear hk)
         (try clear hi)
         refine hK.out _ _ ⟨(blk_cell BK268.out 0).trans rfl, (blk_cell BK268.out 1).trans rfl, (blk_cell BK268.out 2).trans rfl, (blk_cell BK268.out 3).trans rfl, (blk_cell BK269.out 0).trans rfl, (blk_cell BK269.out 1).trans rfl, (blk_cell BK269.out 2).trans rfl, (blk_cell BK269.out 3).trans rfl⟩ (fun hHeld => ?_)
         clear hK K
         refine norm_ (a' := ?_) ?_ ?_
         rotate_left
         ·
          show Act.put _ (some 32) _ = _
          simp only [Act.put, sa0, sa1, sa2, i64_w, i32_w]
          rfl
         refine one_ (i := 7) (N := some 36) #[true, true, true, true, true, true, true, true, false] rfl rfl (one_of HT_.out (by kernel_rfl)) (by decide) (fun K hK => ?_)
         refine goes_ Try.func11 (by kernel_rfl) rfl #[.agg #[.int .i64 a1_0, .int .i64 a1_1, .int .i64 a1_2, .slice A1_3 l1_3.length c1_3], .int .i64 x21_2, .int .i64 x26_3] (by rfl) rfl rfl ga ?_
         with_reducible refine (mat_Matrix_At.calls a1_0 a1_1 a1_2 _ _ l1_3 x21_2 x26_3 t271 _ ?side1 ?side2 A21.out).mono ?_
         (case side1 => repeat (first | exact (Kd.C_below HR1_3.out HB.out) | (with_reducible refine Kd.C_alloc ?_ _) | (with_reducible refine Kd.C_drewN ?_ _) | (with_reducible refine Kd.C_drew ?_)))
         (case side2 => exact HC1_3.out)
         rintro e w28 ⟨rfl, hb⟩
         refine ⟨_, rfl, ?_⟩
         refine ax3 (bb BK268 hb) (bb BK269 hb) (below_step bes hb) ?_
         clear BK268 BK269 HB
         intro BK268 BK269 HB
         (try clear hb)
         (try clear hb2)
         (try clear hk)
         (try clear hi)
         refine hK.out _ _ ⟨(blk_cell BK268.out 0).trans rfl, (blk_cell BK268.out 1).trans rfl, (blk_cell BK268.out 2).trans rfl, (blk_cell BK268.out 3).trans rfl, (blk_cell BK269.out 0).trans rfl, (blk_cell BK269.out 1).trans rfl, (blk_cell BK269.out 2).trans rfl, (blk_cell BK269.out 3).trans rfl⟩ (fun hHeld => ?_)
         clear hK K
         refine norm_ (a' := ?_) ?_ ?_
         rotate_left
         ·
          show Act.put _ (some 36) _ = _
          simp only [Act.put, sa0, sa1, sa2, i64_w, i32_w]
          rfl
         refine pure_ (i := 8) (N := some 37) (v := ?_) (a' := ?_) #[true, true, true, true, true, true, true, true, true] rfl rfl (any_of HT_.out (by kernel_rfl)) (fun _ _ _ h => h) (Or.inl ⟨by rfl, ?_⟩) ?_ ?_
         rotate_left
         ·
          intro w'
          go_simp
          with_reducible rfl
         rotate_left
         ·
          simp only [Act.put, sa0, sa1, sa2, i64_w, i32_w]
          rfl
         refine done_ (done_of HT_.out (by kernel_rfl)) ?_
         try go_wp2
         go_ret
         exact ⟨er, bes⟩
end Go.Proofs.Ytenegelkbfmjkaa.F

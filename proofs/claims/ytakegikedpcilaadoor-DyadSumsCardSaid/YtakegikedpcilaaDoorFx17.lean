-- Written by a program of this seat's session (mkprint), out of the translation.
import Derived.Test.YtakegikedpcilaaDoorShort
import Derived.Test.YtakegikedpcilaaDoorFx0
import Derived.Test.YtakegikedpcilaaDoorFx2
import Derived.Test.YtakegikedpcilaaDoorFx4
import Derived.Test.YtakegikedpcilaaDoorFx8
import Derived.Test.YtakegikedpcilaaDoorFx10
import Derived.Test.YtakegikedpcilaaDoorFx11
namespace Go.Proofs.YtakegikedpcilaaDoor.F
open Go.RowKit Go.Proofs.YtakegikedpcilaaDoorW.PrintWords Go.Proofs.YtakegikedpcilaaDoorW.PrintLast Go.Proofs.YtakegikedpcilaaDoorW.PrintMore
attribute [local go_sem] max2_int min2_int max_two min_two max_three min_three max_four min_four   -- for this text's walks alone
set_option linter.unusedVariables false
set_option linter.unusedSimpArgs false

/-! ### gimballaw07_small: function 16 -/
def gimballaw07_small.f (a0 : Int) : Option (Int) := some (Go.bits .or .u64 (Go.bits .andNot .u64 a0 9218868437227405312) (IntKind.u64.wrap ((IntKind.u64.wrap (1000 + (Go.bits .and .u64 (a0 / 4503599627370496) 31))) * 4503599627370496)))
set_option maxHeartbeats 8000000 in
set_option maxRecDepth 100000 in
theorem gimballaw07_small.calls (a0 : Int) (r : Int) (w : World) (h : gimballaw07_small.f a0 = some r) :
  Calls Tryd.prog 16 #[.int .u64 a0] w fun e w' => e = .returned (.int .u64 r) ∧ Drawn0 w w' := by
 have H : (some (Go.bits .or .u64 (Go.bits .andNot .u64 a0 9218868437227405312) (IntKind.u64.wrap ((IntKind.u64.wrap (1000 + (Go.bits .and .u64 (a0 / 4503599627370496) 31))) * 4503599627370496)))) = some r := h
 clear h
 obtain rfl := Option.some.inj H
 go_enter Tryd.func16, Tryd.ntmps16
 go_wp2
 go_ret
 exact ⟨by first | rfl | (simp; done) | (simp [*]; done), by repeat (first | exact Drawn0.refl _ | apply Drawn0.step)⟩

/-! ### gimballaw07_is: function 20 -/
def gimballaw07_is.l0 : Nat → List Int → Int → Int → Bool → List Int → Int → Bool → List Int → Int → Bool → List Int → Int → Option (Bool)
 | 0, _, _, _, _, _, _, _, _, _, _, _, _ => none
 | k + 1, x10, x11, x12, x680000, x680001, x680002, x681000, x681001, x681002, x682000, x682001, x682002 => if x12 < x11 then (if 0 ≤ x12 then (if x12 < (x10.length : Int) then (if (rd x10 x12) = 1 then ((dyad_Two.f (wrap64 (x681002 + x12))).bind fun bt683 => ((dyad_Num_Add.f k x682000 x682001 x682002 bt683.1 bt683.2.1 bt683.2.2).bind fun bt688 => (gimballaw07_is.l0 k x10 x11 (wrap64 (x12 + 1)) x680000 x680001 x680002 x681000 x681001 x681002 bt688.1 bt688.2.1 bt688.2.2))) else (gimballaw07_is.l0 k x10 x11 (wrap64 (x12 + 1)) x680000 x680001 x680002 x681000 x681001 x681002 x682000 x682001 x682002)) else (none)) else (none)) else (if x681000 = true then ((dyad_Num_Neg.f x682000 x682001 x682002).bind fun bt693 => ((dyad_Num_Same.f k x680000 x680001 x680002 bt693.1 bt693.2.1 bt693.2.2).bind fun t698 => (if t698 = true then ((dyad_Num_Sub.f k x680000 x680001 x680002 bt693.1 bt693.2.1 bt693.2.2).bind fun bt699 => ((dyad_Num_Sign.f bt699.1 bt699.2.1 bt699.2.2).bind fun t704 => (some (t704 == 0)))) else (some false)))) else ((dyad_Num_Same.f k x680000 x680001 x680002 x682000 x682001 x682002).bind fun t705 => (if t705 = true then ((dyad_Num_Sub.f k x680000 x680001 x680002 x682000 x682001 x682002).bind fun bt706 => ((dyad_Num_Sign.f bt706.1 bt706.2.1 bt706.2.2).bind fun t711 => (some (t711 == 0)))) else (some false))))
def gimballaw07_is.f (k : Nat) (a0_0 : Bool) (l0_1 : List Int) (a0_2 : Int) (a1_0 : Bool) (l1_1 : List Int) (a1_2 : Int) : Option (Bool) := gimballaw07_is.l0 k l1_1 (l1_1.length : Int) 0 a0_0 l0_1 a0_2 a1_0 l1_1 a1_2 false ([] : List Int) 0
theorem gimballaw07_is.mono_l : ∀ k, (∀ y0 y1 y2 y3 y4 y5 y6 y7 y8 y9 y10 y11, LeO (gimballaw07_is.l0 k y0 y1 y2 y3 y4 y5 y6 y7 y8 y9 y10 y11) (gimballaw07_is.l0 (k + 1) y0 y1 y2 y3 y4 y5 y6 y7 y8 y9 y10 y11))
 | 0 => fun _ _ _ _ _ _ _ _ _ _ _ _ r h => by simp [gimballaw07_is.l0] at h
 | k + 1 => by
  have ih0 := gimballaw07_is.mono_l k
  ·
   intro y0 y1 y2 y3 y4 y5 y6 y7 y8 y9 y10 y11
   unfold gimballaw07_is.l0
   repeat' with_reducible first | apply ih0 | apply dyad_Num_Add.mono | apply dyad_Num_Same.mono | apply dyad_Num_Sub.mono | exact LeO.refl _ | exact LeO.none _ | refine LeO.ite ?_ ?_ | refine LeO.bind ?_ (fun _ => ?_)
theorem gimballaw07_is.mono : ∀ a0 a1 a2 a3 a4 a5 k, LeO (gimballaw07_is.f k a0 a1 a2 a3 a4 a5) (gimballaw07_is.f (k + 1) a0 a1 a2 a3 a4 a5) := by
 intro a0 a1 a2 a3 a4 a5 k
 have ih0 := gimballaw07_is.mono_l k
 unfold gimballaw07_is.f
 repeat' with_reducible first | apply ih0 | apply dyad_Num_Add.mono | apply dyad_Num_Same.mono | apply dyad_Num_Sub.mono | exact LeO.refl _ | exact LeO.none _ | refine LeO.ite ?_ ?_ | refine LeO.bind ?_ (fun _ => ?_)
def gimballaw07_is.T6 : Bool × List (List Nat × List Nat) := (true, [([], []), ([], []), ([1], [1]), ([], []), ([2, 3], [2, 3]), ([4], [4]), ([0, 5, 5], [0, 5]), ([6, 6, 0, 1, 2, 3, 4, 5, 6], [6])])
def gimballaw07_is.B6 : List Nat := [0, 0, 2, 0, 14, 30, 63, 127]
theorem gimballaw07_is.tab6 : rtab .any (opsOf Tryd.f20 6) = gimballaw07_is.T6 := by kernel_rfl
theorem gimballaw07_is.bits6 : waitsOk gimballaw07_is.T6.2 gimballaw07_is.B6 = true := by kernel_rfl
set_option maxHeartbeats 8000000 in
set_option maxRecDepth 100000 in
theorem gimballaw07_is.calls (k : Nat) (a0_0 : Bool) (A0_1 : Option Addr) (c0_1 : Nat) (l0_1 : List Int) (a0_2 : Int) (a1_0 : Bool) (A1_1 : Option Addr) (c1_1 : Nat) (l1_1 : List Int) (a1_2 : Int) (r : Bool) (w : World) (hr0_1 : Kd.C (Kd.int .u32) w A0_1 l0_1.length l0_1) (hc0_1 : l0_1.length ≤ c0_1) (hr1_1 : Kd.C (Kd.int .i64) w A1_1 l1_1.length l1_1) (hc1_1 : l1_1.length ≤ c1_1) (hT : TabW w) (h : gimballaw07_is.f k a0_0 l0_1 a0_2 a1_0 l1_1 a1_2 = some r) :
  Calls Tryd.prog 20 #[.agg #[.bool a0_0, .slice A0_1 l0_1.length c0_1, .int .i64 a0_2], .agg #[.bool a1_0, .slice A1_1 l1_1.length c1_1, .int .i64 a1_2]] w fun e w' => e = .returned (.bool r) ∧ Below w.heap.size w w' := by
 have hu26 := Tryd.underlying26
 have hu41 := Tryd.underlying41
 have HR0_1 := Aside0.mk hr0_1
 have HC0_1 := Aside0.mk hc0_1
 clear hr0_1 hc0_1
 have HR1_1 := Aside0.mk hr1_1
 have HC1_1 := Aside0.mk hc1_1
 clear hr1_1 hc1_1
 have HB := Aside0.mk (Below.refl w.heap.size w)
 have H : (gimballaw07_is.l0 k l1_1 (l1_1.length : Int) 0 a0_0 l0_1 a0_2 a1_0 l1_1 a1_2 false ([] : List Int) 0) = some r := h
 clear h
 have H' := Aside0.mk H
 clear H
 go_enter Tryd.func20, Tryd.ntmps20
 go_wp2_with (first | ((with_reducible refine gate_dst (N := 2) rfl ?_); refine gbox (N := 2) (cs := #[.bool a0_0, .slice A0_1 l0_1.length c0_1, .int .i64 a0_2]) (t := 26) ?_; intro gb679 hg w3 hbox hb; refine ax4 (below_step bel hb) hbox ((ge hg : w.heap.size ≤ gb679)) ((ge hg : w.heap.size ≤ gb679)) ?_; clear HB; intro HB BK679 GW679 GE679; clear hb hbox hg) | ((with_reducible refine gate_dst (N := 3) rfl ?_); refine gbox (N := 3) (cs := #[.bool a1_0, .slice A1_1 l1_1.length c1_1, .int .i64 a1_2]) (t := 41) ?_; intro gb680 hg w4 hbox hb; refine ax7 (bb BK679 hb) (below_step bes hb) hbox ((ge hg : w.heap.size ≤ gb680)) ((ge hg : w.heap.size ≤ gb680)) (nl hg BK679) (ng hg BK679) ?_; clear BK679; clear HB; intro BK679 HB BK680 GW680 GE680 NB679_680 NB680_679; clear hb hbox hg) | ((with_reducible refine gate_dst (N := 5) rfl ?_); refine gbox (N := 5) (cs := #[.bool false, .slice none 0 0, .int .i64 0]) (t := 26) ?_; intro gb681 hg w5 hbox hb; refine ax10 (bb BK679 hb) (bb BK680 hb) (below_step bes hb) hbox ((ge hg : w.heap.size ≤ gb681)) ((ge hg : w.heap.size ≤ gb681)) (nl hg BK679) (ng hg BK679) (nl hg BK680) (ng hg BK680) ?_; clear BK679; clear BK680; clear HB; intro BK679 BK680 HB BK681 GW681 GE681 NB679_681 NB681_679 NB680_681 NB681_680; clear hb hbox hg; have hnb6 := NB681_679.out; have hnc6 := NB679_681.out; have hnb7 := NB681_680.out; have hnc7 := NB680_681.out; have hcz8_0 := bc BK681 0 rfl; have hcz8_1 := bc BK681 1 rfl; have hcz8_2 := bc BK681 2 rfl; have hfz8_0 := blk_frozen BK681.out 0; have hfz8_1 := blk_frozen BK681.out 1; have hfz8_2 := blk_frozen BK681.out 2; have hnb9 := NB680_679.out; have hnc9 := NB679_680.out; have hcz10_0 := bc BK680 0 rfl; have hcz10_1 := bc BK680 1 rfl; have hcz10_2 := bc BK680 2 rfl; have hfz10_0 := blk_frozen BK680.out 0; have hfz10_1 := blk_frozen BK680.out 1; have hfz10_2 := blk_frozen BK680.out 2))
 go_loopg [12] k (fun kq v12 w' => ∃ (x12_1 : Int) (x682000_1 : Bool) (x682001_1 : List Int) (x682002_1 : Int) (u682001 : Value), v12 = .int .i64 x12_1 ∧ Aside0 (gimballaw07_is.l0 kq l1_1 (l1_1.length : Int) x12_1 a0_0 l0_1 a0_2 a1_0 l1_1 a1_2 x682000_1 x682001_1 x682002_1 = some r) ∧ Aside0 (kq ≤ k) ∧ Aside0 (Kd.V (Kd.int .u32) 56 w' w.heap.size (fun k_ => k_ ≠ gb679 ∧ k_ ≠ gb680 ∧ k_ ≠ gb681) u682001 x682001_1) ∧ Aside0 (w'.heap[gb679]? = some (.cells #[.bool a0_0, (.slice A0_1 l0_1.length c0_1), .int .i64 a0_2] 26 (0, 0))) ∧ Aside0 (w'.heap[gb680]? = some (.cells #[.bool a1_0, (.slice A1_1 l1_1.length c1_1), .int .i64 a1_2] 41 (0, 0))) ∧ Aside0 (w'.heap[gb681]? = some (.cells #[.bool x682000_1, u682001, .int .i64 x682002_1] 26 (0, 0))) ∧ Aside0 (Below w.heap.size w w'))
 case atStart => exact ⟨(0), (false), (([] : List Int)), (0), (.slice none 0 0), (by first | rfl | (simp; done) | (simp [*]; done)), H', ⟨Nat.le_refl _⟩, ⟨Kd.V_nil _ _ _ _ _⟩, ⟨by (with_reducible repeat (first | refine blk_drewN ?_ _ | refine blk_drew ?_ | refine blk_alloc ?_ _)); refine blk_far ?_ NB679_681.out _; (with_reducible repeat (first | refine blk_drewN ?_ _ | refine blk_drew ?_ | refine blk_alloc ?_ _)); refine blk_far ?_ NB679_681.out _; (with_reducible repeat (first | refine blk_drewN ?_ _ | refine blk_drew ?_ | refine blk_alloc ?_ _)); refine blk_far ?_ NB679_681.out _; (with_reducible repeat (first | refine blk_drewN ?_ _ | refine blk_drew ?_ | refine blk_alloc ?_ _)); exact BK679.out⟩, ⟨by (with_reducible repeat (first | refine blk_drewN ?_ _ | refine blk_drew ?_ | refine blk_alloc ?_ _)); refine blk_far ?_ NB680_681.out _; (with_reducible repeat (first | refine blk_drewN ?_ _ | refine blk_drew ?_ | refine blk_alloc ?_ _)); refine blk_far ?_ NB680_681.out _; (with_reducible repeat (first | refine blk_drewN ?_ _ | refine blk_drew ?_ | refine blk_alloc ?_ _)); refine blk_far ?_ NB680_681.out _; (with_reducible repeat (first | refine blk_drewN ?_ _ | refine blk_drew ?_ | refine blk_alloc ?_ _)); exact BK680.out⟩, ⟨by (with_reducible repeat (first | refine blk_drewN ?_ _ | refine blk_drew ?_ | refine blk_alloc ?_ _)); refine blk_put (cs := #[.bool false, .slice none 0 0, .int .i64 0]) ?_ 2 _ rfl; (with_reducible repeat (first | refine blk_drewN ?_ _ | refine blk_drew ?_ | refine blk_alloc ?_ _)); refine blk_put (cs := #[.bool false, .slice none 0 0, .int .i64 0]) ?_ 1 _ rfl; (with_reducible repeat (first | refine blk_drewN ?_ _ | refine blk_drew ?_ | refine blk_alloc ?_ _)); refine blk_put (cs := #[.bool false, .slice none 0 0, .int .i64 0]) ?_ 0 _ rfl; (with_reducible repeat (first | refine blk_drewN ?_ _ | refine blk_drew ?_ | refine blk_alloc ?_ _)); exact BK681.out⟩, ⟨bes⟩⟩
 case round =>
  clear H'
  try clear c1
  try clear c2
  try clear p2
  try clear c6
  try clear c7
  try clear c9
  try clear hcz10_0
  try clear hcz10_1
  try clear hcz10_2
  try clear hcz8_0
  try clear hcz8_1
  try clear hcz8_2
  try clear hfz10_0
  try clear hfz10_1
  try clear hfz10_2
  try clear hfz8_0
  try clear hfz8_1
  try clear hfz8_2
  obtain ⟨x12_1, x682000_1, x682001_1, x682002_1, u682001, rfl, HA, HK1, HO_682001, BK679, BK680, BK681, HB⟩ := hrel
  cases gk with
  | zero => exact absurd HA.out (by simp [gimballaw07_is.l0])
  | succ k1 =>
   have H := HA.out
   clear HA
   simp only [gimballaw07_is.l0] at H
   by_cases c11 : x12_1 < (l1_1.length : Int)
   ·
    rw [if_pos c11] at H
    have c11b0 : decide (x12_1 < (l1_1.length : Int)) = true := decide_eq_true c11
    clear c11
    by_cases c12 : 0 ≤ x12_1
    rotate_left
    ·
     rw [if_neg c12] at H
     exact absurd H (by simp)
    rw [if_pos c12] at H
    have c12b0 : decide (0 ≤ x12_1) = true := decide_eq_true c12
    clear c12
    by_cases c13 : x12_1 < (l1_1.length : Int)
    rotate_left
    ·
     rw [if_neg c13] at H
     exact absurd H (by simp)
    rw [if_pos c13] at H
    have c13b0 : decide (x12_1 < (l1_1.length : Int)) = true := decide_eq_true c13
    clear c13
    by_cases c14 : (rd l1_1 x12_1) = 1
    ·
     rw [if_pos c14] at H
     have c14b0 : ((rd l1_1 x12_1) == 1) = true := beq_iff_eq.mpr c14
     have c14b1 : ((rd l1_1 x12_1) != 1) = false := bne_eq_false_iff_eq.mpr c14
     clear c14
     obtain ⟨⟨t683, t684, t687⟩, A150, H⟩ := Option.bind_eq_some_iff.mp H
     (try dsimp -simprocs only at H)
     have A15 := Aside0.mk A150
     clear A150
     obtain ⟨⟨t688, t689, t692⟩, A160, H⟩ := Option.bind_eq_some_iff.mp H
     (try dsimp -simprocs only at H)
     have A16 := Aside0.mk A160
     clear A160
     have H' := Aside0.mk H
     clear H
     have p682 : 0 ≤ (x12_1 : Int) := of_decide_eq_true (by first | (with_reducible assumption) | assumption)
     have q682 : x12_1 < (l1_1.length : Int) := of_decide_eq_true (by first | (with_reducible assumption) | assumption)
     obtain ⟨ad682, e682, hx682_0⟩ := Kd.at_int HR1_1.out x12_1 p682 q682
     cases e682
     replace hx682_0 := (HB.out.cell (World.block_lt_of_cell? w _ hx682_0)).trans hx682_0
     replace p682 := eq_true p682
     replace q682 := eq_true q682
     try go_wp2
     refine ax5 (Kd.V_drew HO_682001.out) (blk_drew BK679.out) (blk_drew BK680.out) (blk_drew BK681.out) (below_drew1 HB.out) ?_
     clear HO_682001 BK679 BK680 BK681 HB
     intro HO_682001 BK679 BK680 BK681 HB
     refine start_ (n := 8) (S := fun w' => w'.cell? ⟨gb681, 0, none⟩ = some (.bool x682000_1) ∧ w'.cell? ⟨gb681, 1, none⟩ = some (u682001) ∧ w'.cell? ⟨gb681, 2, none⟩ = some (.int .i64 x682002_1) ∧ w'.cell? ⟨gb680, 0, none⟩ = some (.bool a1_0) ∧ w'.cell? ⟨gb680, 1, none⟩ = some (.slice (some ad682) l1_1.length c1_1) ∧ w'.cell? ⟨gb680, 2, none⟩ = some (.int .i64 a1_2)) (ds := [7]) #[false, false, false, false, false, false, false, false] (by kernel_rfl) rfl rfl ⟨(blk_cell BK681.out 0).trans rfl, (blk_cell BK681.out 1).trans rfl, (blk_cell BK681.out 2).trans rfl, (blk_cell BK680.out 0).trans rfl, (blk_cell BK680.out 1).trans rfl, (blk_cell BK680.out 2).trans rfl⟩ (fun hHeld => ?_); refine with_tabW gimballaw07_is.tab6 gimballaw07_is.bits6 (fun HT_ HW_ => ?_)
     generalize wr.drew = w17 at HO_682001 BK679 BK680 BK681 HB hHeld ⊢
     refine pure_ (i := 1) (N := some 20) (v := ?_) (a' := ?_) #[false, true, false, false, false, false, false, false] rfl rfl (any_of HT_.out (by kernel_rfl)) (fun _ _ _ h => h) (Or.inl ⟨by rfl, ?_⟩) ?_ ?_
     rotate_left
     ·
      intro w'
      go_simp
      with_reducible rfl
     rotate_left
     ·
      simp only [Act.put, sa0, sa1, sa2, i64_w, i32_w]
      rfl
     refine pure_ (i := 3) (N := some 22) (v := ?_) (a' := ?_) #[false, true, false, true, false, false, false, false] rfl rfl (any_of HT_.out (by kernel_rfl)) (fun _ _ _ h => h) (Or.inl ⟨by rfl, ?_⟩) ?_ ?_
     rotate_left
     ·
      intro w'
      go_simp
      with_reducible rfl
     rotate_left
     ·
      simp only [Act.put, sa0, sa1, sa2, i64_w, i32_w]
      rfl
     refine take_ (i := 0) (N := some 19) (v := ?_) (a' := ?_) #[true, true, false, true, false, false, false, false] rfl rfl (take_ofW HT_.out HW_.out (by kernel_rfl)) (fun _ _ _ h => h) (Or.inl ⟨by rfl, ?_⟩) hHeld ?_ ?_
     rotate_left
     ·
      rintro w' ⟨s0, s1, s2, s3, s4, s5⟩
      go_simp
      with_reducible rfl
     rotate_left
     ·
      simp only [Act.put, sa0, sa1, sa2, i64_w, i32_w]
      rfl
     refine take_ (i := 2) (N := some 21) (v := ?_) (a' := ?_) #[true, true, true, true, false, false, false, false] rfl rfl (take_ofW HT_.out HW_.out (by kernel_rfl)) (fun _ _ _ h => h) (Or.inl ⟨by rfl, ?_⟩) hHeld ?_ ?_
     rotate_left
     ·
      rintro w' ⟨s0, s1, s2, s3, s4, s5⟩
      go_simp
      with_reducible rfl
     rotate_left
     ·
      simp only [Act.put, sa0, sa1, sa2, i64_w, i32_w]
      rfl
     refine pure_ (i := 4) (N := some 23) (v := ?_) (a' := ?_) #[true, true, true, true, true, false, false, false] rfl rfl (any_of HT_.out (by kernel_rfl)) (fun _ _ _ h => h) (Or.inl ⟨by rfl, ?_⟩) ?_ ?_
     rotate_left
     ·
      intro w'
      go_simp
      with_reducible rfl
     rotate_left
     ·
      simp only [Act.put, sa0, sa1, sa2, i64_w, i32_w]
      rfl
     refine one_ (i := 5) (N := some 24) #[true, true, true, true, true, true, false, false] rfl rfl (one_of HT_.out (by kernel_rfl)) (by decide) (fun K hK => ?_)
     refine goes_ Tryd.func27 (by kernel_rfl) rfl #[.int .i64 (wrap64 (a1_2 + x12_1))] (by rfl) rfl rfl ga ?_
     with_reducible refine (dyad_Two.calls (wrap64 (a1_2 + x12_1)) t683 t684 t687 _ A15.out).mono ?_
     rintro e w18 ⟨v685, rfl, ho0, hb⟩
     refine ⟨_, rfl, ?_⟩
     refine ax6 (Kd.V_elder' (kv HO_682001) (Kd.R_base ho0) hb) (Kd.R_lower ho0 (below_size bes)) (bb BK679 hb) (bb BK680 hb) (bb BK681 hb) (below_step bes hb) ?_
     clear HO_682001 BK679 BK680 BK681 HB
     intro HO_682001 HO686 BK679 BK680 BK681 HB
     (try clear hb)
     (try clear hb2)
     (try clear hk)
     (try clear hi)
     (try clear ho0)
     obtain ⟨Ao19, co19, eo19⟩ := Kd.V_slice HO_682001.out
     (first | subst eo19 | (injection eo19 with f1_ f2_ f3_; have f4_ := f1_.symm; have f5_ := f3_.symm; clear f1_ f2_ f3_; subst f4_; subst f5_))
     obtain ⟨Ao20, co20, eo20⟩ := Kd.R_slice HO686.out
     (first | subst eo20 | (injection eo20 with f1_ f2_ f3_; have f4_ := f1_.symm; have f5_ := f3_.symm; clear f1_ f2_ f3_; subst f4_; subst f5_))
     refine hK.out _ _ ⟨(blk_cell BK681.out 0).trans rfl, (blk_cell BK681.out 1).trans rfl, (blk_cell BK681.out 2).trans rfl, (blk_cell BK680.out 0).trans rfl, (blk_cell BK680.out 1).trans rfl, (blk_cell BK680.out 2).trans rfl⟩ (fun hHeld => ?_)
     clear hK K
     refine norm_ (a' := ?_) ?_ ?_
     rotate_left
     ·
      show Act.put _ (some 24) _ = _
      simp only [Act.put, sa0, sa1, sa2, i64_w, i32_w]
      rfl
     refine one_ (i := 6) (N := some 25) #[true, true, true, true, true, true, true, false] rfl rfl (one_of HT_.out (by kernel_rfl)) (by decide) (fun K hK => ?_)
     refine goes_ Tryd.func11 (by kernel_rfl) rfl #[.agg #[.bool x682000_1, .slice Ao19 x682001_1.length co19, .int .i64 x682002_1], .agg #[.bool t683, .slice Ao20 t684.length co20, .int .i64 t687]] (by rfl) rfl rfl ga ?_
     with_reducible refine (dyad_Num_Add.calls k1 x682000_1 (fun k_ => ((k_ ≠ gb679 ∧ (k_ ≠ gb680 ∧ k_ ≠ gb681)) ∧ some k_ ≠ (.slice Ao20 t684.length co20 : Value).ownBlock)) _ _ x682001_1 x682002_1 t683 (fun k_ => some k_ = (.slice Ao20 t684.length co20 : Value).ownBlock) _ _ t684 t687 t688 t689 t692 _ ?side1 ?side2 ?side3 A16.out).mono ?_
     (case side1 => exact HO_682001.out)
     (case side2 => exact Kd.R_V (Kd.R_tight rfl (Kd.R_types (Kd.R_types (Kd.R_types (HO686.out) BK679.out (by decide)) BK680.out (by decide)) BK681.out (by decide))))
     (case side3 => first | exact hT | exact TabW.drewN hT _ | exact TabW.drew hT | exact TabW.below hT bes)
     rintro e w21 ⟨v690, rfl, ho0, hb⟩
     refine ⟨_, rfl, ?_⟩
     refine ax7 (Kd.V_below (kv HO_682001) hb) (Kd.R_below (kr HO686) hb) (Kd.V_lower (Kd.V_mono (ok' := fun k_ => k_ ≠ gb679 ∧ k_ ≠ gb680 ∧ k_ ≠ gb681) ho0 (fun k_ hk_ => ⟨Or.elim hk_ (fun hs_ => Or.elim hs_ (fun hs_ => hs_.1.1) (fun hs_ => ((Kd.R_types (Kd.R_types (Kd.R_types (HO686.out) BK679.out (by decide)) BK680.out (by decide)) BK681.out (by decide)).1 k_ hs_.symm).1.1.2)) (fun hn_ => (fb BK679 k_ hn_)), Or.elim hk_ (fun hs_ => Or.elim hs_ (fun hs_ => hs_.1.2.1) (fun hs_ => ((Kd.R_types (Kd.R_types (Kd.R_types (HO686.out) BK679.out (by decide)) BK680.out (by decide)) BK681.out (by decide)).1 k_ hs_.symm).1.2)) (fun hn_ => (fb BK680 k_ hn_)), Or.elim hk_ (fun hs_ => Or.elim hs_ (fun hs_ => hs_.1.2.2) (fun hs_ => ((Kd.R_types (Kd.R_types (Kd.R_types (HO686.out) BK679.out (by decide)) BK680.out (by decide)) BK681.out (by decide)).1 k_ hs_.symm).2)) (fun hn_ => (fb BK681 k_ hn_))⟩)) (below_size bes)) (bb BK679 hb) (bb BK680 hb) (bb BK681 hb) (below_step bes hb) ?_
     clear HO_682001 HO686 BK679 BK680 BK681 HB
     intro HO_682001 HO686 HO691 BK679 BK680 BK681 HB
     (try clear hb)
     (try clear hb2)
     (try clear hk)
     (try clear hi)
     (try clear ho0)
     obtain ⟨Ao23, co23, eo23⟩ := Kd.V_slice HO691.out
     (first | subst eo23 | (injection eo23 with f1_ f2_ f3_; have f4_ := f1_.symm; have f5_ := f3_.symm; clear f1_ f2_ f3_; subst f4_; subst f5_))
     refine hK.out _ _ ⟨(blk_cell BK681.out 0).trans rfl, (blk_cell BK681.out 1).trans rfl, (blk_cell BK681.out 2).trans rfl, (blk_cell BK680.out 0).trans rfl, (blk_cell BK680.out 1).trans rfl, (blk_cell BK680.out 2).trans rfl⟩ (fun hHeld => ?_)
     clear hK K
     refine norm_ (a' := ?_) ?_ ?_
     rotate_left
     ·
      show Act.put _ (some 25) _ = _
      simp only [Act.put, sa0, sa1, sa2, i64_w, i32_w]
      rfl
     refine last_ (i := 7) (N := none) #[true, true, true, true, true, true, true, true] rfl rfl (one_of HT_.out (by kernel_rfl)) (by decide) (fun K hK => ?_)
     have hs22 : w21.cell? ⟨gb681, 0, none⟩ = some (.bool x682000_1) := (blk_cell BK681.out 0).trans rfl
     have hfs22 := blk_frozen BK681.out 0
     have hns22_0 := NB679_681.out
     have hns22_1 := NB680_681.out
     have hms22_0 := NB681_679.out
     have hms22_1 := NB681_680.out
     have hs24 : w21.cell? ⟨gb681, 1, none⟩ = some (.slice Ao19 x682001_1.length co19) := (blk_cell BK681.out 1).trans rfl
     have hfs24 := blk_frozen BK681.out 1
     have hns24_0 := NB679_681.out
     have hns24_1 := NB680_681.out
     have hms24_0 := NB681_679.out
     have hms24_1 := NB681_680.out
     have hs25 : w21.cell? ⟨gb681, 2, none⟩ = some (.int .i64 x682002_1) := (blk_cell BK681.out 2).trans rfl
     have hfs25 := blk_frozen BK681.out 2
     have hns25_0 := NB679_681.out
     have hns25_1 := NB680_681.out
     have hms25_0 := NB681_679.out
     have hms25_1 := NB681_680.out
     refine skip_ (w1 := ?_) (by rfl) rfl ?_ ?_
     rotate_left
     ·
      go_simp
      rfl
     refine hK.out _ _ ?_
     clear hK K
     refine done_ (done_of HT_.out (by kernel_rfl)) ?_
     try go_wp2
     go_roundg k1
     case measure => have := HK1.out; omega
     case rel => exact ⟨(wrap64 (x12_1 + 1)), (t688), (t689), (t692), (.slice Ao23 t689.length co23), (by first | rfl | (simp; done) | (simp [*]; done)), H', ⟨by have := HK1.out; omega⟩, ⟨by (with_reducible repeat (first | apply Kd.V_alloc | apply Kd.V_drewN | apply Kd.V_drew)); exact Kd.V_mono (Kd.V_far (p := ⟨gb681, 2, none⟩) (Kd.V_far (p := ⟨gb681, 1, none⟩) (Kd.V_far (p := ⟨gb681, 0, none⟩) (Kd.V_mono HO691.out (fun k_ hk => (⟨hk, hk.2.2⟩ : _ ∧ k_ ≠ gb681))) (fun _ hk => hk.2) (.bool t688)) (fun _ hk => hk.2) (.slice Ao23 t689.length co23)) (fun _ hk => hk.2) (.int .i64 t692)) (fun _ hk => ⟨hk.1.1, ⟨hk.1.2.1, hk.1.2.2⟩⟩)⟩, ⟨by (with_reducible repeat (first | refine blk_drewN ?_ _ | refine blk_drew ?_ | refine blk_alloc ?_ _)); refine blk_far ?_ NB679_681.out _; (with_reducible repeat (first | refine blk_drewN ?_ _ | refine blk_drew ?_ | refine blk_alloc ?_ _)); refine blk_far ?_ NB679_681.out _; (with_reducible repeat (first | refine blk_drewN ?_ _ | refine blk_drew ?_ | refine blk_alloc ?_ _)); refine blk_far ?_ NB679_681.out _; (with_reducible repeat (first | refine blk_drewN ?_ _ | refine blk_drew ?_ | refine blk_alloc ?_ _)); exact BK679.out⟩, ⟨by (with_reducible repeat (first | refine blk_drewN ?_ _ | refine blk_drew ?_ | refine blk_alloc ?_ _)); refine blk_far ?_ NB680_681.out _; (with_reducible repeat (first | refine blk_drewN ?_ _ | refine blk_drew ?_ | refine blk_alloc ?_ _)); refine blk_far ?_ NB680_681.out _; (with_reducible repeat (first | refine blk_drewN ?_ _ | refine blk_drew ?_ | refine blk_alloc ?_ _)); refine blk_far ?_ NB680_681.out _; (with_reducible repeat (first | refine blk_drewN ?_ _ | refine blk_drew ?_ | refine blk_alloc ?_ _)); exact BK680.out⟩, ⟨by (with_reducible repeat (first | refine blk_drewN ?_ _ | refine blk_drew ?_ | refine blk_alloc ?_ _)); refine blk_put (cs := #[.bool t688, .slice Ao23 t689.length co23, .int .i64 x682002_1]) ?_ 2 _ rfl; (with_reducible repeat (first | refine blk_drewN ?_ _ | refine blk_drew ?_ | refine blk_alloc ?_ _)); refine blk_put (cs := #[.bool t688, .slice Ao19 x682001_1.length co19, .int .i64 x682002_1]) ?_ 1 _ rfl; (with_reducible repeat (first | refine blk_drewN ?_ _ | refine blk_drew ?_ | refine blk_alloc ?_ _)); refine blk_put (cs := #[.bool x682000_1, .slice Ao19 x682001_1.length co19, .int .i64 x682002_1]) ?_ 0 _ rfl; (with_reducible repeat (first | refine blk_drewN ?_ _ | refine blk_drew ?_ | refine blk_alloc ?_ _)); exact BK681.out⟩, ⟨bes⟩⟩
    ·
     rw [if_neg c14] at H
     have c14b0 : ((rd l1_1 x12_1) == 1) = false := beq_eq_false_iff_ne.mpr c14
     have c14b1 : ((rd l1_1 x12_1) != 1) = true := bne_iff_ne.mpr c14
     have H' := Aside0.mk H
     clear H
     have p682 : 0 ≤ (x12_1 : Int) := of_decide_eq_true (by first | (with_reducible assumption) | assumption)
     have q682 : x12_1 < (l1_1.length : Int) := of_decide_eq_true (by first | (with_reducible assumption) | assumption)
     obtain ⟨ad682, e682, hx682_0⟩ := Kd.at_int HR1_1.out x12_1 p682 q682
     cases e682
     replace hx682_0 := (HB.out.cell (World.block_lt_of_cell? w _ hx682_0)).trans hx682_0
     replace p682 := eq_true p682
     replace q682 := eq_true q682
     go_wp2
     go_roundg k1
     case measure => have := HK1.out; omega
     case rel => exact ⟨(wrap64 (x12_1 + 1)), (x682000_1), (x682001_1), (x682002_1), (u682001), (by first | rfl | (simp; done) | (simp [*]; done)), H', ⟨by have := HK1.out; omega⟩, ⟨kv HO_682001⟩, ⟨kb BK679⟩, ⟨kb BK680⟩, ⟨kb BK681⟩, ⟨bes⟩⟩
   ·
    rw [if_neg c11] at H
    have c11b0 : decide (x12_1 < (l1_1.length : Int)) = false := decide_eq_false c11
    clear c11
    by_cases c26 : a1_0 = true
    ·
     subst c26
     rw [if_pos rfl] at H
     obtain ⟨⟨t693, t694, t697⟩, A270, H⟩ := Option.bind_eq_some_iff.mp H
     (try dsimp -simprocs only at H)
     have A27 := Aside0.mk A270
     clear A270
     obtain ⟨t698, A280, H⟩ := Option.bind_eq_some_iff.mp H
     (try dsimp -simprocs only at H)
     have A28 := Aside0.mk A280
     clear A280
     by_cases c29 : t698 = true
     ·
      subst c29
      rw [if_pos rfl] at H
      obtain ⟨⟨t699, t700, t703⟩, A300, H⟩ := Option.bind_eq_some_iff.mp H
      (try dsimp -simprocs only at H)
      have A30 := Aside0.mk A300
      clear A300
      obtain ⟨t704, A310, H⟩ := Option.bind_eq_some_iff.mp H
      (try dsimp -simprocs only at H)
      have A31 := Aside0.mk A310
      clear A310
      obtain rfl := Option.some.inj H
      have hnb32 := NB680_679.out
      have hnc32 := NB679_680.out
      have hnb33 := NB680_681.out
      have hnc33 := NB681_680.out
      have hcz34_0 := bc BK680 0 rfl
      have hcz34_1 := bc BK680 1 rfl
      have hcz34_2 := bc BK680 2 rfl
      have hfz34_0 := blk_frozen BK680.out 0
      have hfz34_1 := blk_frozen BK680.out 1
      have hfz34_2 := blk_frozen BK680.out 2
      have hnb35 := NB681_679.out
      have hnc35 := NB679_681.out
      have hcz36_0 := bc BK681 0 rfl
      have hcz36_1 := bc BK681 1 rfl
      have hcz36_2 := bc BK681 2 rfl
      have hfz36_0 := blk_frozen BK681.out 0
      have hfz36_1 := blk_frozen BK681.out 1
      have hfz36_2 := blk_frozen BK681.out 2
      obtain ⟨Ao37, co37, eo37⟩ := Kd.V_slice HO_682001.out
      subst eo37
      go_wp2_with (first | ((with_reducible refine gate_callee (f := 26) rfl ?_); refine goesL_ (some 30) rfl rfl Tryd.func26 (by kernel_rfl) rfl #[.agg #[.bool x682000_1, .slice Ao37 x682001_1.length co37, .int .i64 x682002_1]] rfl ga ?_; (with_reducible refine (dyad_Num_Neg.calls x682000_1 (fun k_ => (k_ ≠ gb679 ∧ (k_ ≠ gb680 ∧ k_ ≠ gb681))) _ _ x682001_1 x682002_1 t693 t694 t697 _ ?side1 A27.out).mono ?_); (case side1 => exact HO_682001.out); rintro e w38 ⟨v695, rfl, ho0, hb⟩; refine ⟨_, rfl, ?_⟩; refine ax6 (Kd.V_below (kv HO_682001) hb) (Kd.V_lower (Kd.V_mono (ok' := fun k_ => k_ ≠ gb679 ∧ k_ ≠ gb680 ∧ k_ ≠ gb681) ho0 (fun k_ hk_ => ⟨Or.elim hk_ (fun hs_ => hs_.1) (fun hn_ => (fb BK679 k_ hn_)), Or.elim hk_ (fun hs_ => hs_.2.1) (fun hn_ => (fb BK680 k_ hn_)), Or.elim hk_ (fun hs_ => hs_.2.2) (fun hn_ => (fb BK681 k_ hn_))⟩)) (below_size bes)) (bb BK679 hb) (bb BK680 hb) (bb BK681 hb) (below_step bes hb) ?_; clear HO_682001; clear BK679; clear BK680; clear BK681; clear HB; intro HO_682001 HO696 BK679 BK680 BK681 HB; (try clear hb); (try clear ho0); have hcz39_0 := bc BK681 0 rfl; have hcz39_1 := bc BK681 1 rfl; have hcz39_2 := bc BK681 2 rfl; have hfz39_0 := blk_frozen BK681.out 0; have hfz39_1 := blk_frozen BK681.out 1; have hfz39_2 := blk_frozen BK681.out 2; obtain ⟨Ao40, co40, eo40⟩ := Kd.V_slice HO696.out; subst eo40; have hcz41_0 := bc BK679 0 rfl; have hcz41_1 := bc BK679 1 rfl; have hcz41_2 := bc BK679 2 rfl; have hfz41_0 := blk_frozen BK679.out 0; have hfz41_1 := blk_frozen BK679.out 1; have hfz41_2 := blk_frozen BK679.out 2) | ((with_reducible refine gate_callee (f := 28) rfl ?_); refine goesL_ (some 33) rfl rfl Tryd.func28 (by kernel_rfl) rfl #[.agg #[.bool a0_0, .slice A0_1 l0_1.length c0_1, .int .i64 a0_2], .agg #[.bool t693, .slice Ao40 t694.length co40, .int .i64 t697]] rfl ga ?_; (with_reducible refine (dyad_Num_Same.calls k1 a0_0 _ _ l0_1 a0_2 t693 _ _ t694 t697 true _ ?side1 ?side2 ?side3 ?side4 A28.out).mono ?_); (case side1 => exact Kd.C_below HR0_1.out bes); (case side2 => exact HC0_1.out); (case side3 => refine (Kd.V_reads' (e := 56) (base := w.heap.size) (ok := fun k_ => (k_ ≠ gb679 ∧ (k_ ≠ gb680 ∧ k_ ≠ gb681))) (n := t694.length) (c := co40) ?_).2.2; exact (by (with_reducible repeat (first | apply Kd.V_alloc | apply Kd.V_drewN | apply Kd.V_drew)); exact (Kd.V_mono (Kd.V_far (p := ⟨gb681, 2, none⟩) (Kd.V_far (p := ⟨gb681, 1, none⟩) (Kd.V_far (p := ⟨gb681, 0, none⟩) (Kd.V_mono HO696.out (fun k_ hk => (⟨hk, hk.2.2⟩ : _ ∧ k_ ≠ gb681))) (fun _ hk => hk.2) (.bool t693)) (fun _ hk => hk.2) (.slice Ao40 t694.length co40)) (fun _ hk => hk.2) (.int .i64 t697)) (fun _ h_ => h_.1)))); (case side4 => exact (Kd.V_reads' HO696.out).2.1); rintro e w42 ⟨rfl, hb⟩; refine ⟨_, rfl, ?_⟩; refine ax6 (Kd.V_below (by (with_reducible repeat (first | apply Kd.V_alloc | apply Kd.V_drewN | apply Kd.V_drew)); exact (Kd.V_mono (Kd.V_far (p := ⟨gb681, 2, none⟩) (Kd.V_far (p := ⟨gb681, 1, none⟩) (Kd.V_far (p := ⟨gb681, 0, none⟩) (Kd.V_mono HO_682001.out (fun k_ hk => (⟨hk, hk.2.2⟩ : _ ∧ k_ ≠ gb681))) (fun _ hk => hk.2) (.bool t693)) (fun _ hk => hk.2) (.slice Ao40 t694.length co40)) (fun _ hk => hk.2) (.int .i64 t697)) (fun _ h_ => h_.1))) hb) (Kd.V_below (by (with_reducible repeat (first | apply Kd.V_alloc | apply Kd.V_drewN | apply Kd.V_drew)); exact (Kd.V_mono (Kd.V_far (p := ⟨gb681, 2, none⟩) (Kd.V_far (p := ⟨gb681, 1, none⟩) (Kd.V_far (p := ⟨gb681, 0, none⟩) (Kd.V_mono HO696.out (fun k_ hk => (⟨hk, hk.2.2⟩ : _ ∧ k_ ≠ gb681))) (fun _ hk => hk.2) (.bool t693)) (fun _ hk => hk.2) (.slice Ao40 t694.length co40)) (fun _ hk => hk.2) (.int .i64 t697)) (fun _ h_ => h_.1))) hb) (blk_below (g := gb679) (o := .cells #[.bool a0_0, .slice A0_1 l0_1.length c0_1, .int .i64 a0_2] 26 (0, 0)) (by (with_reducible repeat (first | refine blk_drewN ?_ _ | refine blk_drew ?_ | refine blk_alloc ?_ _)); refine blk_far ?_ NB679_681.out _; (with_reducible repeat (first | refine blk_drewN ?_ _ | refine blk_drew ?_ | refine blk_alloc ?_ _)); refine blk_far ?_ NB679_681.out _; (with_reducible repeat (first | refine blk_drewN ?_ _ | refine blk_drew ?_ | refine blk_alloc ?_ _)); refine blk_far ?_ NB679_681.out _; (with_reducible repeat (first | refine blk_drewN ?_ _ | refine blk_drew ?_ | refine blk_alloc ?_ _)); exact BK679.out) hb) (blk_below (g := gb680) (o := .cells #[.bool true, .slice A1_1 l1_1.length c1_1, .int .i64 a1_2] 41 (0, 0)) (by (with_reducible repeat (first | refine blk_drewN ?_ _ | refine blk_drew ?_ | refine blk_alloc ?_ _)); refine blk_far ?_ NB680_681.out _; (with_reducible repeat (first | refine blk_drewN ?_ _ | refine blk_drew ?_ | refine blk_alloc ?_ _)); refine blk_far ?_ NB680_681.out _; (with_reducible repeat (first | refine blk_drewN ?_ _ | refine blk_drew ?_ | refine blk_alloc ?_ _)); refine blk_far ?_ NB680_681.out _; (with_reducible repeat (first | refine blk_drewN ?_ _ | refine blk_drew ?_ | refine blk_alloc ?_ _)); exact BK680.out) hb) (blk_below (g := gb681) (o := .cells #[.bool t693, .slice Ao40 t694.length co40, .int .i64 t697] 26 (0, 0)) (by (with_reducible repeat (first | refine blk_drewN ?_ _ | refine blk_drew ?_ | refine blk_alloc ?_ _)); refine blk_put (cs := #[.bool t693, .slice Ao40 t694.length co40, .int .i64 x682002_1]) ?_ 2 _ rfl; (with_reducible repeat (first | refine blk_drewN ?_ _ | refine blk_drew ?_ | refine blk_alloc ?_ _)); refine blk_put (cs := #[.bool t693, .slice Ao37 x682001_1.length co37, .int .i64 x682002_1]) ?_ 1 _ rfl; (with_reducible repeat (first | refine blk_drewN ?_ _ | refine blk_drew ?_ | refine blk_alloc ?_ _)); refine blk_put (cs := #[.bool x682000_1, .slice Ao37 x682001_1.length co37, .int .i64 x682002_1]) ?_ 0 _ rfl; (with_reducible repeat (first | refine blk_drewN ?_ _ | refine blk_drew ?_ | refine blk_alloc ?_ _)); exact BK681.out) hb) (below_step bes hb) ?_; clear HO_682001; clear HO696; clear BK679; clear BK680; clear BK681; clear HB; intro HO_682001 HO696 BK679 BK680 BK681 HB; (try clear hb); have hcz43_0 := bc BK679 0 rfl; have hcz43_1 := bc BK679 1 rfl; have hcz43_2 := bc BK679 2 rfl; have hfz43_0 := blk_frozen BK679.out 0; have hfz43_1 := blk_frozen BK679.out 1; have hfz43_2 := blk_frozen BK679.out 2; have hcz44_0 := bc BK681 0 rfl; have hcz44_1 := bc BK681 1 rfl; have hcz44_2 := bc BK681 2 rfl; have hfz44_0 := blk_frozen BK681.out 0; have hfz44_1 := blk_frozen BK681.out 1; have hfz44_2 := blk_frozen BK681.out 2) | (go_at_call 23; (with_reducible refine (dyad_Num_Sub.calls k1 a0_0 (fun k_ => k_ < w.heap.size) _ _ l0_1 a0_2 t693 (fun k_ => (k_ ≠ gb679 ∧ (k_ ≠ gb680 ∧ k_ ≠ gb681))) _ _ t694 t697 t699 t700 t703 _ ?side1 ?side2 ?side3 A30.out).mono ?_); (case side1 => exact Kd.V_mk HC0_1.out (Kd.F_below (Kd.C_F (Kd.heap_int .u32) HR0_1.out) bes)); (case side2 => exact HO696.out); (case side3 => first | exact hT | exact TabW.drewN hT _ | exact TabW.drew hT | exact TabW.below hT bes); rintro e w45 ⟨v701, rfl, ho0, hb⟩; refine ax7 (Kd.V_below (kv HO_682001) hb) (Kd.V_below (kv HO696) hb) (Kd.V_lower (Kd.V_mono (ok' := fun k_ => k_ ≠ gb679 ∧ k_ ≠ gb680 ∧ k_ ≠ gb681) ho0 (fun k_ hk_ => ⟨Or.elim hk_ (fun hs_ => Or.elim hs_ (fun hs_ => fun e_ => Nat.not_le.2 hs_ (by rw [e_]; exact GW679.out)) (fun hs_ => hs_.1)) (fun hn_ => (fb BK679 k_ hn_)), Or.elim hk_ (fun hs_ => Or.elim hs_ (fun hs_ => fun e_ => Nat.not_le.2 hs_ (by rw [e_]; exact GW680.out)) (fun hs_ => hs_.2.1)) (fun hn_ => (fb BK680 k_ hn_)), Or.elim hk_ (fun hs_ => Or.elim hs_ (fun hs_ => fun e_ => Nat.not_le.2 hs_ (by rw [e_]; exact GW681.out)) (fun hs_ => hs_.2.2)) (fun hn_ => (fb BK681 k_ hn_))⟩)) (below_size bes)) (bb BK679 hb) (bb BK680 hb) (bb BK681 hb) (below_step bes hb) ?_; clear HO_682001; clear HO696; clear BK679; clear BK680; clear BK681; clear HB; intro HO_682001 HO696 HO702 BK679 BK680 BK681 HB; (try clear hb); (try clear ho0); obtain ⟨Ao46, co46, eo46⟩ := Kd.V_slice HO702.out; subst eo46) | (go_at_call 10; (with_reducible refine (dyad_Num_Sign.calls t699 _ _ t700 t703 t704 _ ?side1 ?side2 A31.out).mono ?_); (case side1 => exact kvs HO702); (case side2 => exact (Kd.V_reads' HO702.out).2.1); rintro e w47 ⟨rfl, hb⟩; refine ax7 (Kd.V_below (kv HO_682001) hb) (Kd.V_below (kv HO696) hb) (Kd.V_below (kv HO702) hb) (bb BK679 hb) (bb BK680 hb) (bb BK681 hb) (below_step bes hb) ?_; clear HO_682001; clear HO696; clear HO702; clear BK679; clear BK680; clear BK681; clear HB; intro HO_682001 HO696 HO702 BK679 BK680 BK681 HB; (try clear hb)))
      go_ret
      exact ⟨er, bes⟩
     ·
      replace c29 := Bool.eq_false_iff.mpr c29
      subst c29
      rw [if_neg (show ¬ (false = true) by decide)] at H
      obtain rfl := Option.some.inj H
      have hnb48 := NB680_679.out
      have hnc48 := NB679_680.out
      have hnb49 := NB680_681.out
      have hnc49 := NB681_680.out
      have hcz50_0 := bc BK680 0 rfl
      have hcz50_1 := bc BK680 1 rfl
      have hcz50_2 := bc BK680 2 rfl
      have hfz50_0 := blk_frozen BK680.out 0
      have hfz50_1 := blk_frozen BK680.out 1
      have hfz50_2 := blk_frozen BK680.out 2
      have hnb51 := NB681_679.out
      have hnc51 := NB679_681.out
      have hcz52_0 := bc BK681 0 rfl
      have hcz52_1 := bc BK681 1 rfl
      have hcz52_2 := bc BK681 2 rfl
      have hfz52_0 := blk_frozen BK681.out 0
      have hfz52_1 := blk_frozen BK681.out 1
      have hfz52_2 := blk_frozen BK681.out 2
      obtain ⟨Ao53, co53, eo53⟩ := Kd.V_slice HO_682001.out
      subst eo53
      go_wp2_with (first | ((with_reducible refine gate_callee (f := 26) rfl ?_); refine goesL_ (some 30) rfl rfl Tryd.func26 (by kernel_rfl) rfl #[.agg #[.bool x682000_1, .slice Ao53 x682001_1.length co53, .int .i64 x682002_1]] rfl ga ?_; (with_reducible refine (dyad_Num_Neg.calls x682000_1 (fun k_ => (k_ ≠ gb679 ∧ (k_ ≠ gb680 ∧ k_ ≠ gb681))) _ _ x682001_1 x682002_1 t693 t694 t697 _ ?side1 A27.out).mono ?_); (case side1 => exact HO_682001.out); rintro e w54 ⟨v695, rfl, ho0, hb⟩; refine ⟨_, rfl, ?_⟩; refine ax6 (Kd.V_below (kv HO_682001) hb) (Kd.V_lower (Kd.V_mono (ok' := fun k_ => k_ ≠ gb679 ∧ k_ ≠ gb680 ∧ k_ ≠ gb681) ho0 (fun k_ hk_ => ⟨Or.elim hk_ (fun hs_ => hs_.1) (fun hn_ => (fb BK679 k_ hn_)), Or.elim hk_ (fun hs_ => hs_.2.1) (fun hn_ => (fb BK680 k_ hn_)), Or.elim hk_ (fun hs_ => hs_.2.2) (fun hn_ => (fb BK681 k_ hn_))⟩)) (below_size bes)) (bb BK679 hb) (bb BK680 hb) (bb BK681 hb) (below_step bes hb) ?_; clear HO_682001; clear BK679; clear BK680; clear BK681; clear HB; intro HO_682001 HO696 BK679 BK680 BK681 HB; (try clear hb); (try clear ho0); have hcz55_0 := bc BK681 0 rfl; have hcz55_1 := bc BK681 1 rfl; have hcz55_2 := bc BK681 2 rfl; have hfz55_0 := blk_frozen BK681.out 0; have hfz55_1 := blk_frozen BK681.out 1; have hfz55_2 := blk_frozen BK681.out 2; obtain ⟨Ao56, co56, eo56⟩ := Kd.V_slice HO696.out; subst eo56; have hcz57_0 := bc BK679 0 rfl; have hcz57_1 := bc BK679 1 rfl; have hcz57_2 := bc BK679 2 rfl; have hfz57_0 := blk_frozen BK679.out 0; have hfz57_1 := blk_frozen BK679.out 1; have hfz57_2 := blk_frozen BK679.out 2) | ((with_reducible refine gate_callee (f := 28) rfl ?_); refine goesL_ (some 33) rfl rfl Tryd.func28 (by kernel_rfl) rfl #[.agg #[.bool a0_0, .slice A0_1 l0_1.length c0_1, .int .i64 a0_2], .agg #[.bool t693, .slice Ao56 t694.length co56, .int .i64 t697]] rfl ga ?_; (with_reducible refine (dyad_Num_Same.calls k1 a0_0 _ _ l0_1 a0_2 t693 _ _ t694 t697 false _ ?side1 ?side2 ?side3 ?side4 A28.out).mono ?_); (case side1 => exact Kd.C_below HR0_1.out bes); (case side2 => exact HC0_1.out); (case side3 => refine (Kd.V_reads' (e := 56) (base := w.heap.size) (ok := fun k_ => (k_ ≠ gb679 ∧ (k_ ≠ gb680 ∧ k_ ≠ gb681))) (n := t694.length) (c := co56) ?_).2.2; exact (by (with_reducible repeat (first | apply Kd.V_alloc | apply Kd.V_drewN | apply Kd.V_drew)); exact (Kd.V_mono (Kd.V_far (p := ⟨gb681, 2, none⟩) (Kd.V_far (p := ⟨gb681, 1, none⟩) (Kd.V_far (p := ⟨gb681, 0, none⟩) (Kd.V_mono HO696.out (fun k_ hk => (⟨hk, hk.2.2⟩ : _ ∧ k_ ≠ gb681))) (fun _ hk => hk.2) (.bool t693)) (fun _ hk => hk.2) (.slice Ao56 t694.length co56)) (fun _ hk => hk.2) (.int .i64 t697)) (fun _ h_ => h_.1)))); (case side4 => exact (Kd.V_reads' HO696.out).2.1); rintro e w58 ⟨rfl, hb⟩; refine ⟨_, rfl, ?_⟩; refine ax6 (Kd.V_below (by (with_reducible repeat (first | apply Kd.V_alloc | apply Kd.V_drewN | apply Kd.V_drew)); exact (Kd.V_mono (Kd.V_far (p := ⟨gb681, 2, none⟩) (Kd.V_far (p := ⟨gb681, 1, none⟩) (Kd.V_far (p := ⟨gb681, 0, none⟩) (Kd.V_mono HO_682001.out (fun k_ hk => (⟨hk, hk.2.2⟩ : _ ∧ k_ ≠ gb681))) (fun _ hk => hk.2) (.bool t693)) (fun _ hk => hk.2) (.slice Ao56 t694.length co56)) (fun _ hk => hk.2) (.int .i64 t697)) (fun _ h_ => h_.1))) hb) (Kd.V_below (by (with_reducible repeat (first | apply Kd.V_alloc | apply Kd.V_drewN | apply Kd.V_drew)); exact (Kd.V_mono (Kd.V_far (p := ⟨gb681, 2, none⟩) (Kd.V_far (p := ⟨gb681, 1, none⟩) (Kd.V_far (p := ⟨gb681, 0, none⟩) (Kd.V_mono HO696.out (fun k_ hk => (⟨hk, hk.2.2⟩ : _ ∧ k_ ≠ gb681))) (fun _ hk => hk.2) (.bool t693)) (fun _ hk => hk.2) (.slice Ao56 t694.length co56)) (fun _ hk => hk.2) (.int .i64 t697)) (fun _ h_ => h_.1))) hb) (blk_below (g := gb679) (o := .cells #[.bool a0_0, .slice A0_1 l0_1.length c0_1, .int .i64 a0_2] 26 (0, 0)) (by (with_reducible repeat (first | refine blk_drewN ?_ _ | refine blk_drew ?_ | refine blk_alloc ?_ _)); refine blk_far ?_ NB679_681.out _; (with_reducible repeat (first | refine blk_drewN ?_ _ | refine blk_drew ?_ | refine blk_alloc ?_ _)); refine blk_far ?_ NB679_681.out _; (with_reducible repeat (first | refine blk_drewN ?_ _ | refine blk_drew ?_ | refine blk_alloc ?_ _)); refine blk_far ?_ NB679_681.out _; (with_reducible repeat (first | refine blk_drewN ?_ _ | refine blk_drew ?_ | refine blk_alloc ?_ _)); exact BK679.out) hb) (blk_below (g := gb680) (o := .cells #[.bool true, .slice A1_1 l1_1.length c1_1, .int .i64 a1_2] 41 (0, 0)) (by (with_reducible repeat (first | refine blk_drewN ?_ _ | refine blk_drew ?_ | refine blk_alloc ?_ _)); refine blk_far ?_ NB680_681.out _; (with_reducible repeat (first | refine blk_drewN ?_ _ | refine blk_drew ?_ | refine blk_alloc ?_ _)); refine blk_far ?_ NB680_681.out _; (with_reducible repeat (first | refine blk_drewN ?_ _ | refine blk_drew ?_ | refine blk_alloc ?_ _)); refine blk_far ?_ NB680_681.out _; (with_reducible repeat (first | refine blk_drewN ?_ _ | refine blk_drew ?_ | refine blk_alloc ?_ _)); exact BK680.out) hb) (blk_below (g := gb681) (o := .cells #[.bool t693, .slice Ao56 t694.length co56, .int .i64 t697] 26 (0, 0)) (by (with_reducible repeat (first | refine blk_drewN ?_ _ | refine blk_drew ?_ | refine blk_alloc ?_ _)); refine blk_put (cs := #[.bool t693, .slice Ao56 t694.length co56, .int .i64 x682002_1]) ?_ 2 _ rfl; (with_reducible repeat (first | refine blk_drewN ?_ _ | refine blk_drew ?_ | refine blk_alloc ?_ _)); refine blk_put (cs := #[.bool t693, .slice Ao53 x682001_1.length co53, .int .i64 x682002_1]) ?_ 1 _ rfl; (with_reducible repeat (first | refine blk_drewN ?_ _ | refine blk_drew ?_ | refine blk_alloc ?_ _)); refine blk_put (cs := #[.bool x682000_1, .slice Ao53 x682001_1.length co53, .int .i64 x682002_1]) ?_ 0 _ rfl; (with_reducible repeat (first | refine blk_drewN ?_ _ | refine blk_drew ?_ | refine blk_alloc ?_ _)); exact BK681.out) hb) (below_step bes hb) ?_; clear HO_682001; clear HO696; clear BK679; clear BK680; clear BK681; clear HB; intro HO_682001 HO696 BK679 BK680 BK681 HB; (try clear hb)))
      go_ret
      exact ⟨er, bes⟩
    ·
     replace c26 := Bool.eq_false_iff.mpr c26
     subst c26
     rw [if_neg (show ¬ (false = true) by decide)] at H
     obtain ⟨t705, A590, H⟩ := Option.bind_eq_some_iff.mp H
     (try dsimp -simprocs only at H)
     have A59 := Aside0.mk A590
     clear A590
     by_cases c60 : t705 = true
     ·
      subst c60
      rw [if_pos rfl] at H
      obtain ⟨⟨t706, t707, t710⟩, A610, H⟩ := Option.bind_eq_some_iff.mp H
      (try dsimp -simprocs only at H)
      have A61 := Aside0.mk A610
      clear A610
      obtain ⟨t711, A620, H⟩ := Option.bind_eq_some_iff.mp H
      (try dsimp -simprocs only at H)
      have A62 := Aside0.mk A620
      clear A620
      obtain rfl := Option.some.inj H
      have hnb63 := NB680_679.out
      have hnc63 := NB679_680.out
      have hnb64 := NB680_681.out
      have hnc64 := NB681_680.out
      have hcz65_0 := bc BK680 0 rfl
      have hcz65_1 := bc BK680 1 rfl
      have hcz65_2 := bc BK680 2 rfl
      have hfz65_0 := blk_frozen BK680.out 0
      have hfz65_1 := blk_frozen BK680.out 1
      have hfz65_2 := blk_frozen BK680.out 2
      have hnb66 := NB679_681.out
      have hnc66 := NB681_679.out
      have hcz67_0 := bc BK679 0 rfl
      have hcz67_1 := bc BK679 1 rfl
      have hcz67_2 := bc BK679 2 rfl
      have hfz67_0 := blk_frozen BK679.out 0
      have hfz67_1 := blk_frozen BK679.out 1
      have hfz67_2 := blk_frozen BK679.out 2
      have hcz68_0 := bc BK681 0 rfl
      have hcz68_1 := bc BK681 1 rfl
      have hcz68_2 := bc BK681 2 rfl
      have hfz68_0 := blk_frozen BK681.out 0
      have hfz68_1 := blk_frozen BK681.out 1
      have hfz68_2 := blk_frozen BK681.out 2
      obtain ⟨Ao69, co69, eo69⟩ := Kd.V_slice HO_682001.out
      subst eo69
      go_wp2_with (first | ((with_reducible refine gate_callee (f := 28) rfl ?_); refine goesL_ (some 33) rfl rfl Tryd.func28 (by kernel_rfl) rfl #[.agg #[.bool a0_0, .slice A0_1 l0_1.length c0_1, .int .i64 a0_2], .agg #[.bool x682000_1, .slice Ao69 x682001_1.length co69, .int .i64 x682002_1]] rfl ga ?_; (with_reducible refine (dyad_Num_Same.calls k1 a0_0 _ _ l0_1 a0_2 x682000_1 _ _ x682001_1 x682002_1 true _ ?side1 ?side2 ?side3 ?side4 A59.out).mono ?_); (case side1 => repeat (first | exact (Kd.C_below HR0_1.out HB.out) | (with_reducible refine Kd.C_alloc ?_ _) | (with_reducible refine Kd.C_drewN ?_ _) | (with_reducible refine Kd.C_drew ?_))); (case side2 => exact HC0_1.out); (case side3 => exact kvs HO_682001); (case side4 => exact (Kd.V_reads' HO_682001.out).2.1); rintro e w70 ⟨rfl, hb⟩; refine ⟨_, rfl, ?_⟩; refine ax5 (Kd.V_below (kv HO_682001) hb) (bb BK679 hb) (bb BK680 hb) (bb BK681 hb) (below_step bes hb) ?_; clear HO_682001; clear BK679; clear BK680; clear BK681; clear HB; intro HO_682001 BK679 BK680 BK681 HB; (try clear hb); have hcz71_0 := bc BK679 0 rfl; have hcz71_1 := bc BK679 1 rfl; have hcz71_2 := bc BK679 2 rfl; have hfz71_0 := blk_frozen BK679.out 0; have hfz71_1 := blk_frozen BK679.out 1; have hfz71_2 := blk_frozen BK679.out 2; have hcz72_0 := bc BK681 0 rfl; have hcz72_1 := bc BK681 1 rfl; have hcz72_2 := bc BK681 2 rfl; have hfz72_0 := blk_frozen BK681.out 0; have hfz72_1 := blk_frozen BK681.out 1; have hfz72_2 := blk_frozen BK681.out 2) | (go_at_call 23; (with_reducible refine (dyad_Num_Sub.calls k1 a0_0 (fun k_ => k_ < w.heap.size) _ _ l0_1 a0_2 x682000_1 (fun k_ => (k_ ≠ gb679 ∧ (k_ ≠ gb680 ∧ k_ ≠ gb681))) _ _ x682001_1 x682002_1 t706 t707 t710 _ ?side1 ?side2 ?side3 A61.out).mono ?_); (case side1 => exact Kd.V_mk HC0_1.out (Kd.F_below (Kd.C_F (Kd.heap_int .u32) HR0_1.out) bes)); (case side2 => exact HO_682001.out); (case side3 => first | exact hT | exact TabW.drewN hT _ | exact TabW.drew hT | exact TabW.below hT bes); rintro e w73 ⟨v708, rfl, ho0, hb⟩; refine ax6 (Kd.V_below (kv HO_682001) hb) (Kd.V_lower (Kd.V_mono (ok' := fun k_ => k_ ≠ gb679 ∧ k_ ≠ gb680 ∧ k_ ≠ gb681) ho0 (fun k_ hk_ => ⟨Or.elim hk_ (fun hs_ => Or.elim hs_ (fun hs_ => fun e_ => Nat.not_le.2 hs_ (by rw [e_]; exact GW679.out)) (fun hs_ => hs_.1)) (fun hn_ => (fb BK679 k_ hn_)), Or.elim hk_ (fun hs_ => Or.elim hs_ (fun hs_ => fun e_ => Nat.not_le.2 hs_ (by rw [e_]; exact GW680.out)) (fun hs_ => hs_.2.1)) (fun hn_ => (fb BK680 k_ hn_)), Or.elim hk_ (fun hs_ => Or.elim hs_ (fun hs_ => fun e_ => Nat.not_le.2 hs_ (by rw [e_]; exact GW681.out)) (fun hs_ => hs_.2.2)) (fun hn_ => (fb BK681 k_ hn_))⟩)) (below_size bes)) (bb BK679 hb) (bb BK680 hb) (bb BK681 hb) (below_step bes hb) ?_; clear HO_682001; clear BK679; clear BK680; clear BK681; clear HB; intro HO_682001 HO709 BK679 BK680 BK681 HB; (try clear hb); (try clear ho0); obtain ⟨Ao74, co74, eo74⟩ := Kd.V_slice HO709.out; subst eo74) | (go_at_call 10; (with_reducible refine (dyad_Num_Sign.calls t706 _ _ t707 t710 t711 _ ?side1 ?side2 A62.out).mono ?_); (case side1 => exact kvs HO709); (case side2 => exact (Kd.V_reads' HO709.out).2.1); rintro e w75 ⟨rfl, hb⟩; refine ax6 (Kd.V_below (kv HO_682001) hb) (Kd.V_below (kv HO709) hb) (bb BK679 hb) (bb BK680 hb) (bb BK681 hb) (below_step bes hb) ?_; clear HO_682001; clear HO709; clear BK679; clear BK680; clear BK681; clear HB; intro HO_682001 HO709 BK679 BK680 BK681 HB; (try clear hb)))
      go_ret
      exact ⟨er, bes⟩
     ·
      replace c60 := Bool.eq_false_iff.mpr c60
      subst c60
      rw [if_neg (show ¬ (false = true) by decide)] at H
      obtain rfl := Option.some.inj H
      have hnb76 := NB680_679.out
      have hnc76 := NB679_680.out
      have hnb77 := NB680_681.out
      have hnc77 := NB681_680.out
      have hcz78_0 := bc BK680 0 rfl
      have hcz78_1 := bc BK680 1 rfl
      have hcz78_2 := bc BK680 2 rfl
      have hfz78_0 := blk_frozen BK680.out 0
      have hfz78_1 := blk_frozen BK680.out 1
      have hfz78_2 := blk_frozen BK680.out 2
      have hnb79 := NB679_681.out
      have hnc79 := NB681_679.out
      have hcz80_0 := bc BK679 0 rfl
      have hcz80_1 := bc BK679 1 rfl
      have hcz80_2 := bc BK679 2 rfl
      have hfz80_0 := blk_frozen BK679.out 0
      have hfz80_1 := blk_frozen BK679.out 1
      have hfz80_2 := blk_frozen BK679.out 2
      have hcz81_0 := bc BK681 0 rfl
      have hcz81_1 := bc BK681 1 rfl
      have hcz81_2 := bc BK681 2 rfl
      have hfz81_0 := blk_frozen BK681.out 0
      have hfz81_1 := blk_frozen BK681.out 1
      have hfz81_2 := blk_frozen BK681.out 2
      obtain ⟨Ao82, co82, eo82⟩ := Kd.V_slice HO_682001.out
      subst eo82
      go_wp2_with (first | ((with_reducible refine gate_callee (f := 28) rfl ?_); refine goesL_ (some 33) rfl rfl Tryd.func28 (by kernel_rfl) rfl #[.agg #[.bool a0_0, .slice A0_1 l0_1.length c0_1, .int .i64 a0_2], .agg #[.bool x682000_1, .slice Ao82 x682001_1.length co82, .int .i64 x682002_1]] rfl ga ?_; (with_reducible refine (dyad_Num_Same.calls k1 a0_0 _ _ l0_1 a0_2 x682000_1 _ _ x682001_1 x682002_1 false _ ?side1 ?side2 ?side3 ?side4 A59.out).mono ?_); (case side1 => repeat (first | exact (Kd.C_below HR0_1.out HB.out) | (with_reducible refine Kd.C_alloc ?_ _) | (with_reducible refine Kd.C_drewN ?_ _) | (with_reducible refine Kd.C_drew ?_))); (case side2 => exact HC0_1.out); (case side3 => exact kvs HO_682001); (case side4 => exact (Kd.V_reads' HO_682001.out).2.1); rintro e w83 ⟨rfl, hb⟩; refine ⟨_, rfl, ?_⟩; refine ax5 (Kd.V_below (kv HO_682001) hb) (bb BK679 hb) (bb BK680 hb) (bb BK681 hb) (below_step bes hb) ?_; clear HO_682001; clear BK679; clear BK680; clear BK681; clear HB; intro HO_682001 BK679 BK680 BK681 HB; (try clear hb)))
      go_ret
      exact ⟨er, bes⟩

/-! ### gimballaw07_num_at: function 54 -/
def gimballaw07_num_at.f (k : Nat) (a0_0 : Bool) (l0_1 : List Int) (a0_2 : Int) (a1 : Int) : Option (List Int) := (gimbalref02_Up.f k l0_1 (wrap64 (a0_2 - a1))).bind fun t713 => (some t713)
theorem gimballaw07_num_at.mono : ∀ a0 a1 a2 a3 k, LeO (gimballaw07_num_at.f k a0 a1 a2 a3) (gimballaw07_num_at.f (k + 1) a0 a1 a2 a3) := by
 intro a0 a1 a2 a3 k
 unfold gimballaw07_num_at.f
 repeat' with_reducible first | apply gimbalref02_Up.mono | exact LeO.refl _ | exact LeO.none _ | refine LeO.ite ?_ ?_ | refine LeO.bind ?_ (fun _ => ?_)
set_option maxHeartbeats 8000000 in
set_option maxRecDepth 100000 in
theorem gimballaw07_num_at.calls (k : Nat) (a0_0 : Bool) (A0_1 : Option Addr) (c0_1 : Nat) (l0_1 : List Int) (a0_2 : Int) (a1 : Int) (r : List Int) (w : World) (hr0_1 : Kd.C (Kd.int .i64) w A0_1 l0_1.length l0_1) (hc0_1 : l0_1.length ≤ c0_1) (h : gimballaw07_num_at.f k a0_0 l0_1 a0_2 a1 = some r) :
  Calls Tryd.prog 54 #[.agg #[.bool a0_0, .slice A0_1 l0_1.length c0_1, .int .i64 a0_2], .int .i64 a1] w fun e w' => ∃ v0_ : Value, e = .returned (v0_) ∧ Kd.R (Kd.int .i64) 3 w' w.heap.size (fun _ => True) v0_ r ∧ Below w.heap.size w w' := by
 have hu41 := Tryd.underlying41
 have HR0_1 := Aside0.mk hr0_1
 have HC0_1 := Aside0.mk hc0_1
 clear hr0_1 hc0_1
 have HB := Aside0.mk (Below.refl w.heap.size w)
 have H : ((gimbalref02_Up.f k l0_1 (wrap64 (a0_2 - a1))).bind fun t713 => (some t713)) = some r := h
 clear h
 obtain ⟨t713, A30, H⟩ := Option.bind_eq_some_iff.mp H
 (try dsimp -simprocs only at H)
 have A3 := Aside0.mk A30
 clear A30
 obtain rfl := Option.some.inj H
 go_enter Tryd.func54, Tryd.ntmps54
 go_wp2_with (first | ((with_reducible refine gate_dst (N := 2) rfl ?_); refine gbox (N := 2) (cs := #[.bool a0_0, .slice A0_1 l0_1.length c0_1, .int .i64 a0_2]) (t := 41) ?_; intro gb712 hg w4 hbox hb; refine ax4 (below_step bel hb) hbox ((ge hg : w.heap.size ≤ gb712)) ((ge hg : w.heap.size ≤ gb712)) ?_; clear HB; intro HB BK712 GW712 GE712; clear hb hbox hg; have hcz5_0 := bc BK712 0 rfl; have hcz5_1 := bc BK712 1 rfl; have hcz5_2 := bc BK712 2 rfl; have hfz5_0 := blk_frozen BK712.out 0; have hfz5_1 := blk_frozen BK712.out 1; have hfz5_2 := blk_frozen BK712.out 2) | ((with_reducible refine gate_callee (f := 68) rfl ?_); refine goesL_ (some 11) rfl rfl Tryd.func68 (by kernel_rfl) rfl #[.slice A0_1 l0_1.length c0_1, .int .i64 (wrap64 (a0_2 - a1))] rfl ga ?_; (with_reducible refine (gimbalref02_Up.calls k _ _ l0_1 (wrap64 (a0_2 - a1)) t713 _ ?side1 ?side2 A3.out).mono ?_); (case side1 => repeat (first | exact (Kd.C_below HR0_1.out HB.out) | (with_reducible refine Kd.C_alloc ?_ _) | (with_reducible refine Kd.C_drewN ?_ _) | (with_reducible refine Kd.C_drew ?_))); (case side2 => exact HC0_1.out); rintro e w6 ⟨v714, rfl, ho0, hb⟩; refine ⟨_, rfl, ?_⟩; refine ax3 (Kd.R_lower ho0 (below_size bes)) (bb BK712 hb) (below_step bes hb) ?_; clear BK712; clear HB; intro HO715 BK712 HB; (try clear hb); (try clear ho0)))
 go_ret
 exact ⟨_, er, kr HO715, bes⟩

/-! ### gimballaw07_add: function 22 -/
def gimballaw07_add.f (k : Nat) (a0_0 : Bool) (l0_1 : List Int) (a0_2 : Int) (a1_0 : Bool) (l1_1 : List Int) (a1_2 : Int) : Option (Bool × List Int × Int) := (gimballaw07_num_at.f k a0_0 l0_1 a0_2 (mn a0_2 a1_2)).bind fun t719 => ((gimballaw07_num_at.f k a1_0 l1_1 a1_2 (mn a0_2 a1_2)).bind fun t722 => (if (a0_0 == a1_0) = true then ((gimbalref02_Add.f k t719 t722).bind fun t725 => (some (a0_0, t725, mn a0_2 a1_2))) else ((gimbalref02_Cmp.f k t719 t722).bind fun t728 => (if t728 < 0 then ((gimbalref02_Sub.f k t722 t719).bind fun t729 => (some (a1_0, t729, mn a0_2 a1_2))) else ((gimbalref02_Sub.f k t719 t722).bind fun t732 => (some (a0_0, t732, mn a0_2 a1_2)))))))
theorem gimballaw07_add.mono : ∀ a0 a1 a2 a3 a4 a5 k, LeO (gimballaw07_add.f k a0 a1 a2 a3 a4 a5) (gimballaw07_add.f (k + 1) a0 a1 a2 a3 a4 a5) := by
 intro a0 a1 a2 a3 a4 a5 k
 unfold gimballaw07_add.f
 repeat' with_reducible first | apply gimballaw07_num_at.mono | apply gimbalref02_Add.mono | apply gimbalref02_Cmp.mono | apply gimbalref02_Sub.mono | exact LeO.refl _ | exact LeO.none _ | refine LeO.ite ?_ ?_ | refine LeO.bind ?_ (fun _ => ?_)
def gimballaw07_add.T5 : Bool × List (List Nat × List Nat) := (true, [([], []), ([0], [0]), ([], []), ([], []), ([2, 3], [2, 3]), ([], []), ([1, 4, 5], [1, 4, 5]), ([6, 4, 0, 1, 2, 3, 4, 5, 6], [6])])
def gimballaw07_add.B5 : List Nat := [0, 1, 0, 0, 12, 0, 63, 127]
theorem gimballaw07_add.tab5 : rtab .any (opsOf Tryd.f22 5) = gimballaw07_add.T5 := by kernel_rfl
theorem gimballaw07_add.bits5 : waitsOk gimballaw07_add.T5.2 gimballaw07_add.B5 = true := by kernel_rfl
def gimballaw07_add.T7 : Bool × List (List Nat × List Nat) := (true, [([], []), ([0], [0]), ([], []), ([], []), ([2, 3], [2, 3]), ([], []), ([1, 4, 5], [1, 4, 5]), ([6, 4, 0, 1, 2, 3, 4, 5, 6], [6])])
def gimballaw07_add.B7 : List Nat := [0, 1, 0, 0, 12, 0, 63, 127]
theorem gimballaw07_add.tab7 : rtab .any (opsOf Tryd.f22 7) = gimballaw07_add.T7 := by kernel_rfl
theorem gimballaw07_add.bits7 : waitsOk gimballaw07_add.T7.2 gimballaw07_add.B7 = true := by kernel_rfl
def gimballaw07_add.T8 : Bool × List (List Nat × List Nat) := (true, [([], []), ([0], [0]), ([], []), ([], []), ([2, 3], [2, 3]), ([], []), ([1, 4, 5], [1, 4, 5]), ([6, 4, 0, 1, 2, 3, 4, 5, 6], [6])])
def gimballaw07_add.B8 : List Nat := [0, 1, 0, 0, 12, 0, 63, 127]
theorem gimballaw07_add.tab8 : rtab .any (opsOf Tryd.f22 8) = gimballaw07_add.T8 := by kernel_rfl
theorem gimballaw07_add.bits8 : waitsOk gimballaw07_add.T8.2 gimballaw07_add.B8 = true := by kernel_rfl
set_option maxHeartbeats 8000000 in
set_option maxRecDepth 100000 in
theorem gimballaw07_add.calls (k : Nat) (a0_0 : Bool) (A0_1 : Option Addr) (c0_1 : Nat) (l0_1 : List Int) (a0_2 : Int) (a1_0 : Bool) (A1_1 : Option Addr) (c1_1 : Nat) (l1_1 : List Int) (a1_2 : Int) (r1 : Bool) (r2 : List Int) (r3 : Int) (w : World) (hr0_1 : Kd.C (Kd.int .i64) w A0_1 l0_1.length l0_1) (hc0_1 : l0_1.length ≤ c0_1) (hr1_1 : Kd.C (Kd.int .i64) w A1_1 l1_1.length l1_1) (hc1_1 : l1_1.length ≤ c1_1) (h : gimballaw07_add.f k a0_0 l0_1 a0_2 a1_0 l1_1 a1_2 = some (r1, r2, r3)) :
  Calls Tryd.prog 22 #[.agg #[.bool a0_0, .slice A0_1 l0_1.length c0_1, .int .i64 a0_2], .agg #[.bool a1_0, .slice A1_1 l1_1.length c1_1, .int .i64 a1_2]] w fun e w' => ∃ v1_ : Value, e = .returned (.agg #[.bool r1, v1_, .int .i64 r3]) ∧ Kd.R (Kd.int .i64) 3 w' w.heap.size (fun _ => True) v1_ r2 ∧ Below w.heap.size w w' := by
 have hu41 := Tryd.underlying41
 have HR0_1 := Aside0.mk hr0_1
 have HC0_1 := Aside0.mk hc0_1
 clear hr0_1 hc0_1
 have HR1_1 := Aside0.mk hr1_1
 have HC1_1 := Aside0.mk hc1_1
 clear hr1_1 hc1_1
 have HB := Aside0.mk (Below.refl w.heap.size w)
 have H : ((gimballaw07_num_at.f k a0_0 l0_1 a0_2 (mn a0_2 a1_2)).bind fun t719 => ((gimballaw07_num_at.f k a1_0 l1_1 a1_2 (mn a0_2 a1_2)).bind fun t722 => (if (a0_0 == a1_0) = true then ((gimbalref02_Add.f k t719 t722).bind fun t725 => (some (a0_0, t725, mn a0_2 a1_2))) else ((gimbalref02_Cmp.f k t719 t722).bind fun t728 => (if t728 < 0 then ((gimbalref02_Sub.f k t722 t719).bind fun t729 => (some (a1_0, t729, mn a0_2 a1_2))) else ((gimbalref02_Sub.f k t719 t722).bind fun t732 => (some (a0_0, t732, mn a0_2 a1_2)))))))) = some (r1, r2, r3) := h
 clear h
 obtain ⟨ji3, hji3⟩ : ∃ j_ : Int, (mn a0_2 a1_2) = j_ := ⟨_, rfl⟩
 replace H : ((gimballaw07_num_at.f k a0_0 l0_1 a0_2 (ji3)).bind fun t719 => ((gimballaw07_num_at.f k a1_0 l1_1 a1_2 (ji3)).bind fun t722 => (if (a0_0 == a1_0) = true then ((gimbalref02_Add.f k t719 t722).bind fun t725 => (some (a0_0, t725, ji3))) else ((gimbalref02_Cmp.f k t719 t722).bind fun t728 => (if t728 < 0 then ((gimbalref02_Sub.f k t722 t719).bind fun t729 => (some (a1_0, t729, ji3))) else ((gimbalref02_Sub.f k t719 t722).bind fun t732 => (some (a0_0, t732, ji3)))))))) = some (r1, r2, r3) := by first | (rw [hji3] at H; exact H) | (simp only [hji3] at H ⊢; exact H)
 have hji3_ : (if a1_2 < a0_2 then a1_2 else a0_2) = ji3 := hji3
 obtain ⟨t719, A40, H⟩ := Option.bind_eq_some_iff.mp H
 (try dsimp -simprocs only at H)
 have A4 := Aside0.mk A40
 clear A40
 obtain ⟨t722, A50, H⟩ := Option.bind_eq_some_iff.mp H
 (try dsimp -simprocs only at H)
 have A5 := Aside0.mk A50
 clear A50
 by_cases c6 : (a0_0 == a1_0) = true
 ·
  rw [if_pos c6] at H
  have c6b0 : (a0_0 == a1_0) = true := c6
  (try (have c6b1 : decide (a0_0 = a1_0) = true := by simpa using c6))
  (try (have c6b2 : (a0_0 == a1_0) = true := by simpa using c6))
  clear c6
  obtain ⟨t725, A70, H⟩ := Option.bind_eq_some_iff.mp H
  (try dsimp -simprocs only at H)
  have A7 := Aside0.mk A70
  clear A70
  simp only [Option.some.injEq, Prod.mk.injEq] at H
  obtain ⟨rfl, rfl, rfl⟩ := H
  go_enter Tryd.func22, Tryd.ntmps22
  try go_wp2_with (first | ((with_reducible refine gate_dst (N := 2) rfl ?_); refine gbox (N := 2) (cs := #[.bool a0_0, .slice A0_1 l0_1.length c0_1, .int .i64 a0_2]) (t := 41) ?_; intro gb716 hg w8 hbox hb; refine ax4 (below_step bel hb) hbox ((ge hg : w.heap.size ≤ gb716)) ((ge hg : w.heap.size ≤ gb716)) ?_; clear HB; intro HB BK716 GW716 GE716; clear hb hbox hg) | ((with_reducible refine gate_dst (N := 3) rfl ?_); refine gbox (N := 3) (cs := #[.bool a1_0, .slice A1_1 l1_1.length c1_1, .int .i64 a1_2]) (t := 41) ?_; intro gb717 hg w9 hbox hb; refine ax7 (bb BK716 hb) (below_step bes hb) hbox ((ge hg : w.heap.size ≤ gb717)) ((ge hg : w.heap.size ≤ gb717)) (nl hg BK716) (ng hg BK716) ?_; clear BK716; clear HB; intro BK716 HB BK717 GW717 GE717 NB716_717 NB717_716; clear hb hbox hg) | ((with_reducible refine gate_dst (N := 4) rfl ?_); refine gbox (N := 4) (cs := #[.bool false, .slice none 0 0, .int .i64 0]) (t := 41) ?_; intro gb718 hg w10 hbox hb; refine ax10 (bb BK716 hb) (bb BK717 hb) (below_step bes hb) hbox ((ge hg : w.heap.size ≤ gb718)) ((ge hg : w.heap.size ≤ gb718)) (nl hg BK716) (ng hg BK716) (nl hg BK717) (ng hg BK717) ?_; clear BK716; clear BK717; clear HB; intro BK716 BK717 HB BK718 GW718 GE718 NB716_718 NB718_716 NB717_718 NB718_717; clear hb hbox hg; have hnb11 := NB716_717.out; have hnc11 := NB717_716.out; have hnb12 := NB716_718.out; have hnc12 := NB718_716.out; have hcz13_0 := bc BK716 0 rfl; have hcz13_1 := bc BK716 1 rfl; have hcz13_2 := bc BK716 2 rfl; have hfz13_0 := blk_frozen BK716.out 0; have hfz13_1 := blk_frozen BK716.out 1; have hfz13_2 := blk_frozen BK716.out 2; have hnb14 := NB717_718.out; have hnc14 := NB718_717.out; have hcz15_0 := bc BK717 0 rfl; have hcz15_1 := bc BK717 1 rfl; have hcz15_2 := bc BK717 2 rfl; have hfz15_0 := blk_frozen BK717.out 0; have hfz15_1 := blk_frozen BK717.out 1; have hfz15_2 := blk_frozen BK717.out 2) | ((with_reducible refine gate_callee (f := 54) rfl ?_); refine goesL_ (some 15) rfl rfl Tryd.func54 (by kernel_rfl) rfl #[.agg #[.bool a0_0, .slice A0_1 l0_1.length c0_1, .int .i64 a0_2], .int .i64 ji3] rfl (by (try simp only [List.map_toArray, List.map_cons, List.map_nil]); first | done | (simp only [hji3]; rfl) | rfl | (simp only [List.length_drop, List.length_take]; rfl)) ?_; (with_reducible refine (gimballaw07_num_at.calls k a0_0 _ _ l0_1 a0_2 ji3 t719 _ ?side1 ?side2 A4.out).mono ?_); (case side1 => repeat (first | exact (Kd.C_below HR0_1.out HB.out) | (with_reducible refine Kd.C_alloc ?_ _) | (with_reducible refine Kd.C_drewN ?_ _) | (with_reducible refine Kd.C_drew ?_))); (case side2 => exact HC0_1.out); rintro e w16 ⟨v720, rfl, ho0, hb⟩; refine ⟨_, rfl, ?_⟩; refine ax5 (Kd.R_lower ho0 (below_size bes)) (bb BK716 hb) (bb BK717 hb) (bb BK718 hb) (below_step bes hb) ?_; clear BK716; clear BK717; clear BK718; clear HB; intro HO721 BK716 BK717 BK718 HB; (try clear hb); (try clear ho0); have hcz17_0 := bc BK717 0 rfl; have hcz17_1 := bc BK717 1 rfl; have hcz17_2 := bc BK717 2 rfl; have hfz17_0 := blk_frozen BK717.out 0; have hfz17_1 := blk_frozen BK717.out 1; have hfz17_2 := blk_frozen BK717.out 2) | ((with_reducible refine gate_callee (f := 54) rfl ?_); refine goesL_ (some 18) rfl rfl Tryd.func54 (by kernel_rfl) rfl #[.agg #[.bool a1_0, .slice A1_1 l1_1.length c1_1, .int .i64 a1_2], .int .i64 ji3] rfl (by (try simp only [List.map_toArray, List.map_cons, List.map_nil]); first | done | (simp only [hji3]; rfl) | rfl | (simp only [List.length_drop, List.length_take]; rfl)) ?_; (with_reducible refine (gimballaw07_num_at.calls k a1_0 _ _ l1_1 a1_2 ji3 t722 _ ?side1 ?side2 A5.out).mono ?_); (case side1 => repeat (first | exact (Kd.C_below HR1_1.out HB.out) | (with_reducible refine Kd.C_alloc ?_ _) | (with_reducible refine Kd.C_drewN ?_ _) | (with_reducible refine Kd.C_drew ?_))); (case side2 => exact HC1_1.out); rintro e w18 ⟨v723, rfl, ho0, hb⟩; refine ⟨_, rfl, ?_⟩; refine ax6 (Kd.R_elder' (kr HO721) (Kd.R_base ho0) hb) (Kd.R_lower (Kd.R_new' ho0 (Kd.R_lt (kr HO721))) (below_size bes)) (bb BK716 hb) (bb BK717 hb) (bb BK718 hb) (below_step bes hb) ?_; clear HO721; clear BK716; clear BK717; clear BK718; clear HB; intro HO721 HO724 BK716 BK717 BK718 HB; (try clear hb); (try clear ho0); have hcz19_0 := bc BK716 0 rfl; have hcz19_1 := bc BK716 1 rfl; have hcz19_2 := bc BK716 2 rfl; have hfz19_0 := blk_frozen BK716.out 0; have hfz19_1 := blk_frozen BK716.out 1; have hfz19_2 := blk_frozen BK716.out 2; have hcz20_0 := bc BK717 0 rfl; have hcz20_1 := bc BK717 1 rfl; have hcz20_2 := bc BK717 2 rfl; have hfz20_0 := blk_frozen BK717.out 0; have hfz20_1 := blk_frozen BK717.out 1; have hfz20_2 := blk_frozen BK717.out 2))
  refine ax6 (Kd.R_drew HO721.out) (Kd.R_drew HO724.out) (blk_drew BK716.out) (blk_drew BK717.out) (blk_drew BK718.out) (below_drew1 HB.out) ?_
  clear HO721 HO724 BK716 BK717 BK718 HB
  intro HO721 HO724 BK716 BK717 BK718 HB
  obtain ⟨Ao22, co22, eo22⟩ := Kd.R_slice HO721.out
  (first | subst eo22 | (injection eo22 with f1_ f2_ f3_; have f4_ := f1_.symm; have f5_ := f3_.symm; clear f1_ f2_ f3_; subst f4_; subst f5_))
  obtain ⟨Ao23, co23, eo23⟩ := Kd.R_slice HO724.out
  (first | subst eo23 | (injection eo23 with f1_ f2_ f3_; have f4_ := f1_.symm; have f5_ := f3_.symm; clear f1_ f2_ f3_; subst f4_; subst f5_))
  refine start_ (n := 8) (S := fun w' => w'.cell? ⟨gb716, 0, none⟩ = some (.bool a0_0) ∧ w'.cell? ⟨gb716, 1, none⟩ = some (.slice A0_1 l0_1.length c0_1) ∧ w'.cell? ⟨gb716, 2, none⟩ = some (.int .i64 a0_2)) (ds := []) #[false, false, false, false, false, false, false, false] (by kernel_rfl) rfl rfl ⟨(blk_cell BK716.out 0).trans rfl, (blk_cell BK716.out 1).trans rfl, (blk_cell BK716.out 2).trans rfl⟩ (fun hHeld => ?_); refine with_tabW gimballaw07_add.tab5 gimballaw07_add.bits5 (fun HT_ HW_ => ?_)
  generalize w18.drew = w21 at HO721 HO724 BK716 BK717 BK718 HB hHeld ⊢
  refine pure_ (i := 0) (N := some 24) (v := ?_) (a' := ?_) #[true, false, false, false, false, false, false, false] rfl rfl (any_of HT_.out (by kernel_rfl)) (fun _ _ _ h => h) (Or.inl ⟨by rfl, ?_⟩) ?_ ?_
  rotate_left
  ·
   intro w'
   go_simp
   with_reducible rfl
  rotate_left
  ·
   simp only [Act.put, sa0, sa1, sa2, i64_w, i32_w]
   rfl
  refine pure_ (i := 2) (N := some 26) (v := ?_) (a' := ?_) #[true, false, true, false, false, false, false, false] rfl rfl (any_of HT_.out (by kernel_rfl)) (fun _ _ _ h => h) (Or.inl ⟨by rfl, ?_⟩) ?_ ?_
  rotate_left
  ·
   intro w'
   go_simp
   with_reducible rfl
  rotate_left
  ·
   simp only [Act.put, sa0, sa1, sa2, i64_w, i32_w]
   rfl
  refine pure_ (i := 3) (N := some 27) (v := ?_) (a' := ?_) #[true, false, true, true, false, false, false, false] rfl rfl (any_of HT_.out (by kernel_rfl)) (fun _ _ _ h => h) (Or.inl ⟨by rfl, ?_⟩) ?_ ?_
  rotate_left
  ·
   intro w'
   go_simp
   with_reducible rfl
  rotate_left
  ·
   simp only [Act.put, sa0, sa1, sa2, i64_w, i32_w]
   rfl
  refine pure_ (i := 5) (N := some 29) (v := ?_) (a' := ?_) #[true, false, true, true, false, true, false, false] rfl rfl (any_of HT_.out (by kernel_rfl)) (fun _ _ _ h => h) (Or.inl ⟨by rfl, ?_⟩) ?_ ?_
  rotate_left
  ·
   intro w'
   go_simp
   with_reducible rfl
  rotate_left
  ·
   simp only [Act.put, sa0, sa1, sa2, i64_w, i32_w]
   rfl
  refine take_ (i := 1) (N := some 25) (v := ?_) (a' := ?_) #[true, true, true, true, false, true, false, false] rfl rfl (take_ofW HT_.out HW_.out (by kernel_rfl)) (fun _ _ _ h => h) (Or.inl ⟨by rfl, ?_⟩) hHeld ?_ ?_
  rotate_left
  ·
   rintro w' ⟨s0, s1, s2⟩
   go_simp
   with_reducible rfl
  rotate_left
  ·
   simp only [Act.put, sa0, sa1, sa2, i64_w, i32_w]
   rfl
  refine one_ (i := 4) (N := some 28) #[true, true, true, true, true, true, false, false] rfl rfl (one_of HT_.out (by kernel_rfl)) (by decide) (fun K hK => ?_)
  refine goes_ Tryd.func46 (by kernel_rfl) rfl #[.slice Ao22 t719.length co22, .slice Ao23 t722.length co23] (by rfl) rfl rfl ga ?_
  with_reducible refine (gimbalref02_Add.calls k _ _ t719 _ _ t722 t725 _ ?side1 ?side2 ?side3 ?side4 A7.out).mono ?_
  (case side1 => exact ks HO721)
  (case side2 => exact (Kd.R_reads' HO721.out).2.1)
  (case side3 => exact ks HO724)
  (case side4 => exact (Kd.R_reads' HO724.out).2.1)
  rintro e w24 ⟨v726, rfl, ho0, hb⟩
  refine ⟨_, rfl, ?_⟩
  refine ax7 (Kd.R_elder' (kr HO721) (Kd.R_base ho0) hb) (Kd.R_elder' (kr HO724) (Kd.R_base ho0) hb) (Kd.R_lower (Kd.R_new' (Kd.R_new' ho0 (Kd.R_lt (kr HO721))) (Kd.R_lt (kr HO724))) (below_size bes)) (bb BK716 hb) (bb BK717 hb) (bb BK718 hb) (below_step bes hb) ?_
  clear HO721 HO724 BK716 BK717 BK718 HB
  intro HO721 HO724 HO727 BK716 BK717 BK718 HB
  (try clear hb)
  (try clear hb2)
  (try clear hk)
  (try clear hi)
  (try clear ho0)
  obtain ⟨Ao25, co25, eo25⟩ := Kd.R_slice HO727.out
  (first | subst eo25 | (injection eo25 with f1_ f2_ f3_; have f4_ := f1_.symm; have f5_ := f3_.symm; clear f1_ f2_ f3_; subst f4_; subst f5_))
  refine hK.out _ _ ⟨(blk_cell BK716.out 0).trans rfl, (blk_cell BK716.out 1).trans rfl, (blk_cell BK716.out 2).trans rfl⟩ (fun hHeld => ?_)
  clear hK K
  refine norm_ (a' := ?_) ?_ ?_
  rotate_left
  ·
   show Act.put _ (some 28) _ = _
   simp only [Act.put, sa0, sa1, sa2, i64_w, i32_w]
   rfl
  refine pure_ (i := 6) (N := some 30) (v := ?_) (a' := ?_) #[true, true, true, true, true, true, true, false] rfl rfl (any_of HT_.out (by kernel_rfl)) (fun _ _ _ h => h) (Or.inl ⟨by rfl, ?_⟩) ?_ ?_
  rotate_left
  ·
   intro w'
   go_simp
   with_reducible rfl
  rotate_left
  ·
   simp only [Act.put, sa0, sa1, sa2, i64_w, i32_w]
   rfl
  refine one_ (i := 7) (N := none) #[true, true, true, true, true, true, true, true] rfl rfl (one_of HT_.out (by kernel_rfl)) (by decide) (fun K hK => ?_)
  have hs26 : w24.cell? ⟨gb718, 0, none⟩ = some (.bool false) := (blk_cell BK718.out 0).trans rfl
  have hfs26 := blk_frozen BK718.out 0
  have hns26_0 := NB716_718.out
  have hns26_1 := NB717_718.out
  have hms26_0 := NB718_716.out
  have hms26_1 := NB718_717.out
  have hs27 : w24.cell? ⟨gb718, 1, none⟩ = some (.slice none 0 0) := (blk_cell BK718.out 1).trans rfl
  have hfs27 := blk_frozen BK718.out 1
  have hns27_0 := NB716_718.out
  have hns27_1 := NB717_718.out
  have hms27_0 := NB718_716.out
  have hms27_1 := NB718_717.out
  have hs28 : w24.cell? ⟨gb718, 2, none⟩ = some (.int .i64 0) := (blk_cell BK718.out 2).trans rfl
  have hfs28 := blk_frozen BK718.out 2
  have hns28_0 := NB716_718.out
  have hns28_1 := NB717_718.out
  have hms28_0 := NB718_716.out
  have hms28_1 := NB718_717.out
  refine skip_ (w1 := ?_) (by rfl) rfl ?_ ?_
  rotate_left
  ·
   go_simp
   rfl
  refine hK.out _ _ ⟨((cell_far (p := ⟨gb718, _, none⟩) NB716_718.out _).trans (((cell_far (p := ⟨gb718, _, none⟩) NB716_718.out _).trans (((cell_far (p := ⟨gb718, _, none⟩) NB716_718.out _).trans (hHeld.1)))))), ((cell_far (p := ⟨gb718, _, none⟩) NB716_718.out _).trans (((cell_far (p := ⟨gb718, _, none⟩) NB716_718.out _).trans (((cell_far (p := ⟨gb718, _, none⟩) NB716_718.out _).trans (hHeld.2.1)))))), ((cell_far (p := ⟨gb718, _, none⟩) NB716_718.out _).trans (((cell_far (p := ⟨gb718, _, none⟩) NB716_718.out _).trans (((cell_far (p := ⟨gb718, _, none⟩) NB716_718.out _).trans (hHeld.2.2))))))⟩ (fun hHeld => ?_)
  clear hK K
  refine done_ (done_of HT_.out (by kernel_rfl)) ?_
  try go_wp2
  refine bodyPost_ret (results_cell_row rfl _ _ gb718 41 #[.bool a0_0, .slice Ao25 t725.length co25, .int .i64 ji3] (0, 0) _ rfl (by (with_reducible repeat (first | refine blk_drewN ?_ _ | refine blk_drew ?_ | refine blk_alloc ?_ _)); refine blk_put (cs := #[.bool a0_0, .slice Ao25 t725.length co25, .int .i64 0]) ?_ 2 _ rfl; (with_reducible repeat (first | refine blk_drewN ?_ _ | refine blk_drew ?_ | refine blk_alloc ?_ _)); refine blk_put (cs := #[.bool a0_0, .slice none 0 0, .int .i64 0]) ?_ 1 _ rfl; (with_reducible repeat (first | refine blk_drewN ?_ _ | refine blk_drew ?_ | refine blk_alloc ?_ _)); refine blk_put (cs := #[.bool false, .slice none 0 0, .int .i64 0]) ?_ 0 _ rfl; (with_reducible repeat (first | refine blk_drewN ?_ _ | refine blk_drew ?_ | refine blk_alloc ?_ _)); exact BK718.out) Tryd.underlying41 rfl (by kernel_rfl)) rfl ?_
  exact ⟨_, by first | rfl | (simp [errW_none, errW_some] <;> rfl) | (simp only [← hji3]; first | rfl | (simp [errW_none, errW_some] <;> rfl)) | (simp [*, errW_none, errW_some] <;> rfl), by (with_reducible repeat (first | apply Kd.R_alloc | apply Kd.R_drewN | apply Kd.R_drew)); exact Kd.R_mono (Kd.R_far (p := ⟨gb718, 2, none⟩) (Kd.R_far (p := ⟨gb718, 1, none⟩) (Kd.R_far (p := ⟨gb718, 0, none⟩) (Kd.R_types HO727.out BK718.out (by decide)) (fun _ hk => hk.2) (.bool a0_0)) (fun _ hk => hk.2) (.slice Ao25 t725.length co25)) (fun _ hk => hk.2) (.int .i64 ji3)) (fun _ hk => trivial), bes⟩
 ·
  rw [if_neg c6] at H
  have c6b0 : (a0_0 == a1_0) = false := by simpa using c6
  (try (have c6b1 : decide (a0_0 = a1_0) = false := by simpa using c6))
  (try (have c6b2 : (a0_0 == a1_0) = false := by simpa using c6))
  (try (have c6b3 : ¬ (a0_0 = a1_0) := by simpa using c6))
  clear c6
  obtain ⟨t728, A290, H⟩ := Option.bind_eq_some_iff.mp H
  (try dsimp -simprocs only at H)
  have A29 := Aside0.mk A290
  clear A290
  by_cases c30 : t728 < 0
  ·
   rw [if_pos c30] at H
   have c30b0 : decide (t728 < 0) = true := decide_eq_true c30
   clear c30
   obtain ⟨t729, A310, H⟩ := Option.bind_eq_some_iff.mp H
   (try dsimp -simprocs only at H)
   have A31 := Aside0.mk A310
   clear A310
   simp only [Option.some.injEq, Prod.mk.injEq] at H
   obtain ⟨rfl, rfl, rfl⟩ := H
   go_enter Tryd.func22, Tryd.ntmps22
   try go_wp2_with (first | ((with_reducible refine gate_dst (N := 2) rfl ?_); refine gbox (N := 2) (cs := #[.bool a0_0, .slice A0_1 l0_1.length c0_1, .int .i64 a0_2]) (t := 41) ?_; intro gb716 hg w32 hbox hb; refine ax4 (below_step bel hb) hbox ((ge hg : w.heap.size ≤ gb716)) ((ge hg : w.heap.size ≤ gb716)) ?_; clear HB; intro HB BK716 GW716 GE716; clear hb hbox hg) | ((with_reducible refine gate_dst (N := 3) rfl ?_); refine gbox (N := 3) (cs := #[.bool a1_0, .slice A1_1 l1_1.length c1_1, .int .i64 a1_2]) (t := 41) ?_; intro gb717 hg w33 hbox hb; refine ax7 (bb BK716 hb) (below_step bes hb) hbox ((ge hg : w.heap.size ≤ gb717)) ((ge hg : w.heap.size ≤ gb717)) (nl hg BK716) (ng hg BK716) ?_; clear BK716; clear HB; intro BK716 HB BK717 GW717 GE717 NB716_717 NB717_716; clear hb hbox hg) | ((with_reducible refine gate_dst (N := 4) rfl ?_); refine gbox (N := 4) (cs := #[.bool false, .slice none 0 0, .int .i64 0]) (t := 41) ?_; intro gb718 hg w34 hbox hb; refine ax10 (bb BK716 hb) (bb BK717 hb) (below_step bes hb) hbox ((ge hg : w.heap.size ≤ gb718)) ((ge hg : w.heap.size ≤ gb718)) (nl hg BK716) (ng hg BK716) (nl hg BK717) (ng hg BK717) ?_; clear BK716; clear BK717; clear HB; intro BK716 BK717 HB BK718 GW718 GE718 NB716_718 NB718_716 NB717_718 NB718_717; clear hb hbox hg; have hnb35 := NB716_717.out; have hnc35 := NB717_716.out; have hnb36 := NB716_718.out; have hnc36 := NB718_716.out; have hcz37_0 := bc BK716 0 rfl; have hcz37_1 := bc BK716 1 rfl; have hcz37_2 := bc BK716 2 rfl; have hfz37_0 := blk_frozen BK716.out 0; have hfz37_1 := blk_frozen BK716.out 1; have hfz37_2 := blk_frozen BK716.out 2; have hnb38 := NB717_718.out; have hnc38 := NB718_717.out; have hcz39_0 := bc BK717 0 rfl; have hcz39_1 := bc BK717 1 rfl; have hcz39_2 := bc BK717 2 rfl; have hfz39_0 := blk_frozen BK717.out 0; have hfz39_1 := blk_frozen BK717.out 1; have hfz39_2 := blk_frozen BK717.out 2) | ((with_reducible refine gate_callee (f := 54) rfl ?_); refine goesL_ (some 15) rfl rfl Tryd.func54 (by kernel_rfl) rfl #[.agg #[.bool a0_0, .slice A0_1 l0_1.length c0_1, .int .i64 a0_2], .int .i64 ji3] rfl (by (try simp only [List.map_toArray, List.map_cons, List.map_nil]); first | done | (simp only [hji3]; rfl) | rfl | (simp only [List.length_drop, List.length_take]; rfl)) ?_; (with_reducible refine (gimballaw07_num_at.calls k a0_0 _ _ l0_1 a0_2 ji3 t719 _ ?side1 ?side2 A4.out).mono ?_); (case side1 => repeat (first | exact (Kd.C_below HR0_1.out HB.out) | (with_reducible refine Kd.C_alloc ?_ _) | (with_reducible refine Kd.C_drewN ?_ _) | (with_reducible refine Kd.C_drew ?_))); (case side2 => exact HC0_1.out); rintro e w40 ⟨v720, rfl, ho0, hb⟩; refine ⟨_, rfl, ?_⟩; refine ax5 (Kd.R_lower ho0 (below_size bes)) (bb BK716 hb) (bb BK717 hb) (bb BK718 hb) (below_step bes hb) ?_; clear BK716; clear BK717; clear BK718; clear HB; intro HO721 BK716 BK717 BK718 HB; (try clear hb); (try clear ho0); have hcz41_0 := bc BK717 0 rfl; have hcz41_1 := bc BK717 1 rfl; have hcz41_2 := bc BK717 2 rfl; have hfz41_0 := blk_frozen BK717.out 0; have hfz41_1 := blk_frozen BK717.out 1; have hfz41_2 := blk_frozen BK717.out 2) | ((with_reducible refine gate_callee (f := 54) rfl ?_); refine goesL_ (some 18) rfl rfl Tryd.func54 (by kernel_rfl) rfl #[.agg #[.bool a1_0, .slice A1_1 l1_1.length c1_1, .int .i64 a1_2], .int .i64 ji3] rfl (by (try simp only [List.map_toArray, List.map_cons, List.map_nil]); first | done | (simp only [hji3]; rfl) | rfl | (simp only [List.length_drop, List.length_take]; rfl)) ?_; (with_reducible refine (gimballaw07_num_at.calls k a1_0 _ _ l1_1 a1_2 ji3 t722 _ ?side1 ?side2 A5.out).mono ?_); (case side1 => repeat (first | exact (Kd.C_below HR1_1.out HB.out) | (with_reducible refine Kd.C_alloc ?_ _) | (with_reducible refine Kd.C_drewN ?_ _) | (with_reducible refine Kd.C_drew ?_))); (case side2 => exact HC1_1.out); rintro e w42 ⟨v723, rfl, ho0, hb⟩; refine ⟨_, rfl, ?_⟩; refine ax6 (Kd.R_elder' (kr HO721) (Kd.R_base ho0) hb) (Kd.R_lower (Kd.R_new' ho0 (Kd.R_lt (kr HO721))) (below_size bes)) (bb BK716 hb) (bb BK717 hb) (bb BK718 hb) (below_step bes hb) ?_; clear HO721; clear BK716; clear BK717; clear BK718; clear HB; intro HO721 HO724 BK716 BK717 BK718 HB; (try clear hb); (try clear ho0); have hcz43_0 := bc BK716 0 rfl; have hcz43_1 := bc BK716 1 rfl; have hcz43_2 := bc BK716 2 rfl; have hfz43_0 := blk_frozen BK716.out 0; have hfz43_1 := blk_frozen BK716.out 1; have hfz43_2 := blk_frozen BK716.out 2; have hcz44_0 := bc BK717 0 rfl; have hcz44_1 := bc BK717 1 rfl; have hcz44_2 := bc BK717 2 rfl; have hfz44_0 := blk_frozen BK717.out 0; have hfz44_1 := blk_frozen BK717.out 1; have hfz44_2 := blk_frozen BK717.out 2; obtain ⟨Ao45, co45, eo45⟩ := Kd.R_slice HO721.out; subst eo45; obtain ⟨Ao46, co46, eo46⟩ := Kd.R_slice HO724.out; subst eo46) | ((with_reducible refine gate_callee (f := 47) rfl ?_); refine goesL_ (some 33) rfl rfl Tryd.func47 (by kernel_rfl) rfl #[.slice Ao45 t719.length co45, .slice Ao46 t722.length co46] rfl ga ?_; (with_reducible refine (gimbalref02_Cmp.calls k _ _ t719 _ _ t722 t728 _ ?side1 ?side2 ?side3 ?side4 A29.out).mono ?_); (case side1 => exact ks HO721); (case side2 => exact (Kd.R_reads' HO721.out).2.1); (case side3 => exact ks HO724); (case side4 => exact (Kd.R_reads' HO724.out).2.1); rintro e w47 ⟨rfl, hb⟩; refine ⟨_, rfl, ?_⟩; refine ax6 (Kd.R_below (kr HO721) hb) (Kd.R_below (kr HO724) hb) (bb BK716 hb) (bb BK717 hb) (bb BK718 hb) (below_step bes hb) ?_; clear HO721; clear HO724; clear BK716; clear BK717; clear BK718; clear HB; intro HO721 HO724 BK716 BK717 BK718 HB; (try clear hb)))
   refine ax6 (Kd.R_drew HO721.out) (Kd.R_drew HO724.out) (blk_drew BK716.out) (blk_drew BK717.out) (blk_drew BK718.out) (below_drew1 HB.out) ?_
   clear HO721 HO724 BK716 BK717 BK718 HB
   intro HO721 HO724 BK716 BK717 BK718 HB
   refine start_ (n := 8) (S := fun w' => w'.cell? ⟨gb717, 0, none⟩ = some (.bool a1_0) ∧ w'.cell? ⟨gb717, 1, none⟩ = some (.slice A1_1 l1_1.length c1_1) ∧ w'.cell? ⟨gb717, 2, none⟩ = some (.int .i64 a1_2)) (ds := []) #[false, false, false, false, false, false, false, false] (by kernel_rfl) rfl rfl ⟨(blk_cell BK717.out 0).trans rfl, (blk_cell BK717.out 1).trans rfl, (blk_cell BK717.out 2).trans rfl⟩ (fun hHeld => ?_); refine with_tabW gimballaw07_add.tab7 gimballaw07_add.bits7 (fun HT_ HW_ => ?_)
   generalize w47.drew = w48 at HO721 HO724 BK716 BK717 BK718 HB hHeld ⊢
   refine pure_ (i := 0) (N := some 35) (v := ?_) (a' := ?_) #[true, false, false, false, false, false, false, false] rfl rfl (any_of HT_.out (by kernel_rfl)) (fun _ _ _ h => h) (Or.inl ⟨by rfl, ?_⟩) ?_ ?_
   rotate_left
   ·
    intro w'
    go_simp
    with_reducible rfl
   rotate_left
   ·
    simp only [Act.put, sa0, sa1, sa2, i64_w, i32_w]
    rfl
   refine pure_ (i := 2) (N := some 37) (v := ?_) (a' := ?_) #[true, false, true, false, false, false, false, false] rfl rfl (any_of HT_.out (by kernel_rfl)) (fun _ _ _ h => h) (Or.inl ⟨by rfl, ?_⟩) ?_ ?_
   rotate_left
   ·
    intro w'
    go_simp
    with_reducible rfl
   rotate_left
   ·
    simp only [Act.put, sa0, sa1, sa2, i64_w, i32_w]
    rfl
   refine pure_ (i := 3) (N := some 38) (v := ?_) (a' := ?_) #[true, false, true, true, false, false, false, false] rfl rfl (any_of HT_.out (by kernel_rfl)) (fun _ _ _ h => h) (Or.inl ⟨by rfl, ?_⟩) ?_ ?_
   rotate_left
   ·
    intro w'
    go_simp
    with_reducible rfl
   rotate_left
   ·
    simp only [Act.put, sa0, sa1, sa2, i64_w, i32_w]
    rfl
   refine pure_ (i := 5) (N := some 40) (v := ?_) (a' := ?_) #[true, false, true, true, false, true, false, false] rfl rfl (any_of HT_.out (by kernel_rfl)) (fun _ _ _ h => h) (Or.inl ⟨by rfl, ?_⟩) ?_ ?_
   rotate_left
   ·
    intro w'
    go_simp
    with_reducible rfl
   rotate_left
   ·
    simp only [Act.put, sa0, sa1, sa2, i64_w, i32_w]
    rfl
   refine take_ (i := 1) (N := some 36) (v := ?_) (a' := ?_) #[true, true, true, true, false, true, false, false] rfl rfl (take_ofW HT_.out HW_.out (by kernel_rfl)) (fun _ _ _ h => h) (Or.inl ⟨by rfl, ?_⟩) hHeld ?_ ?_
   rotate_left
   ·
    rintro w' ⟨s0, s1, s2⟩
    go_simp
    with_reducible rfl
   rotate_left
   ·
    simp only [Act.put, sa0, sa1, sa2, i64_w, i32_w]
    rfl
   refine one_ (i := 4) (N := some 39) #[true, true, true, true, true, true, false, false] rfl rfl (one_of HT_.out (by kernel_rfl)) (by decide) (fun K hK => ?_)
   refine goes_ Tryd.func48 (by kernel_rfl) rfl #[.slice Ao46 t722.length co46, .slice Ao45 t719.length co45] (by rfl) rfl rfl ga ?_
   with_reducible refine (gimbalref02_Sub.calls k _ _ t722 _ _ t719 t729 _ ?side1 ?side2 ?side3 ?side4 A31.out).mono ?_
   (case side1 => exact ks HO724)
   (case side2 => exact (Kd.R_reads' HO724.out).2.1)
   (case side3 => exact ks HO721)
   (case side4 => exact (Kd.R_reads' HO721.out).2.1)
   rintro e w49 ⟨v730, rfl, ho0, hb⟩
   refine ⟨_, rfl, ?_⟩
   refine ax7 (Kd.R_elder' (kr HO721) (Kd.R_base ho0) hb) (Kd.R_elder' (kr HO724) (Kd.R_base ho0) hb) (Kd.R_lower (Kd.R_new' (Kd.R_new' ho0 (Kd.R_lt (kr HO721))) (Kd.R_lt (kr HO724))) (below_size bes)) (bb BK716 hb) (bb BK717 hb) (bb BK718 hb) (below_step bes hb) ?_
   clear HO721 HO724 BK716 BK717 BK718 HB
   intro HO721 HO724 HO731 BK716 BK717 BK718 HB
   (try clear hb)
   (try clear hb2)
   (try clear hk)
   (try clear hi)
   (try clear ho0)
   obtain ⟨Ao50, co50, eo50⟩ := Kd.R_slice HO731.out
   (first | subst eo50 | (injection eo50 with f1_ f2_ f3_; have f4_ := f1_.symm; have f5_ := f3_.symm; clear f1_ f2_ f3_; subst f4_; subst f5_))
   refine hK.out _ _ ⟨(blk_cell BK717.out 0).trans rfl, (blk_cell BK717.out 1).trans rfl, (blk_cell BK717.out 2).trans rfl⟩ (fun hHeld => ?_)
   clear hK K
   refine norm_ (a' := ?_) ?_ ?_
   rotate_left
   ·
    show Act.put _ (some 39) _ = _
    simp only [Act.put, sa0, sa1, sa2, i64_w, i32_w]
    rfl
   refine pure_ (i := 6) (N := some 41) (v := ?_) (a' := ?_) #[true, true, true, true, true, true, true, false] rfl rfl (any_of HT_.out (by kernel_rfl)) (fun _ _ _ h => h) (Or.inl ⟨by rfl, ?_⟩) ?_ ?_
   rotate_left
   ·
    intro w'
    go_simp
    with_reducible rfl
   rotate_left
   ·
    simp only [Act.put, sa0, sa1, sa2, i64_w, i32_w]
    rfl
   refine one_ (i := 7) (N := none) #[true, true, true, true, true, true, true, true] rfl rfl (one_of HT_.out (by kernel_rfl)) (by decide) (fun K hK => ?_)
   have hs51 : w49.cell? ⟨gb718, 0, none⟩ = some (.bool false) := (blk_cell BK718.out 0).trans rfl
   have hfs51 := blk_frozen BK718.out 0
   have hns51_0 := NB716_718.out
   have hns51_1 := NB717_718.out
   have hms51_0 := NB718_716.out
   have hms51_1 := NB718_717.out
   have hs52 : w49.cell? ⟨gb718, 1, none⟩ = some (.slice none 0 0) := (blk_cell BK718.out 1).trans rfl
   have hfs52 := blk_frozen BK718.out 1
   have hns52_0 := NB716_718.out
   have hns52_1 := NB717_718.out
   have hms52_0 := NB718_716.out
   have hms52_1 := NB718_717.out
   have hs53 : w49.cell? ⟨gb718, 2, none⟩ = some (.int .i64 0) := (blk_cell BK718.out 2).trans rfl
   have hfs53 := blk_frozen BK718.out 2
   have hns53_0 := NB716_718.out
   have hns53_1 := NB717_718.out
   have hms53_0 := NB718_716.out
   have hms53_1 := NB718_717.out
   refine skip_ (w1 := ?_) (by rfl) rfl ?_ ?_
   rotate_left
   ·
    go_simp
    rfl
   refine hK.out _ _ ⟨((cell_far (p := ⟨gb718, _, none⟩) NB717_718.out _).trans (((cell_far (p := ⟨gb718, _, none⟩) NB717_718.out _).trans (((cell_far (p := ⟨gb718, _, none⟩) NB717_718.out _).trans (hHeld.1)))))), ((cell_far (p := ⟨gb718, _, none⟩) NB717_718.out _).trans (((cell_far (p := ⟨gb718, _, none⟩) NB717_718.out _).trans (((cell_far (p := ⟨gb718, _, none⟩) NB717_718.out _).trans (hHeld.2.1)))))), ((cell_far (p := ⟨gb718, _, none⟩) NB717_718.out _).trans (((cell_far (p := ⟨gb718, _, none⟩) NB717_718.out _).trans (((cell_far (p := ⟨gb718, _, none⟩) NB717_718.out _).trans (hHeld.2.2))))))⟩ (fun hHeld => ?_)
   clear hK K
   refine done_ (done_of HT_.out (by kernel_rfl)) ?_
   try go_wp2
   refine bodyPost_ret (results_cell_row rfl _ _ gb718 41 #[.bool a1_0, .slice Ao50 t729.length co50, .int .i64 ji3] (0, 0) _ rfl (by (with_reducible repeat (first | refine blk_drewN ?_ _ | refine blk_drew ?_ | refine blk_alloc ?_ _)); refine blk_put (cs := #[.bool a1_0, .slice Ao50 t729.length co50, .int .i64 0]) ?_ 2 _ rfl; (with_reducible repeat (first | refine blk_drewN ?_ _ | refine blk_drew ?_ | refine blk_alloc ?_ _)); refine blk_put (cs := #[.bool a1_0, .slice none 0 0, .int .i64 0]) ?_ 1 _ rfl; (with_reducible repeat (first | refine blk_drewN ?_ _ | refine blk_drew ?_ | refine blk_alloc ?_ _)); refine blk_put (cs := #[.bool false, .slice none 0 0, .int .i64 0]) ?_ 0 _ rfl; (with_reducible repeat (first | refine blk_drewN ?_ _ | refine blk_drew ?_ | refine blk_alloc ?_ _)); exact BK718.out) Tryd.underlying41 rfl (by kernel_rfl)) rfl ?_
   exact ⟨_, by first | rfl | (simp [errW_none, errW_some] <;> rfl) | (simp only [← hji3]; first | rfl | (simp [errW_none, errW_some] <;> rfl)) | (simp [*, errW_none, errW_some] <;> rfl), by (with_reducible repeat (first | apply Kd.R_alloc | apply Kd.R_drewN | apply Kd.R_drew)); exact Kd.R_mono (Kd.R_far (p := ⟨gb718, 2, none⟩) (Kd.R_far (p := ⟨gb718, 1, none⟩) (Kd.R_far (p := ⟨gb718, 0, none⟩) (Kd.R_types HO731.out BK718.out (by decide)) (fun _ hk => hk.2) (.bool a1_0)) (fun _ hk => hk.2) (.slice Ao50 t729.length co50)) (fun _ hk => hk.2) (.int .i64 ji3)) (fun _ hk => trivial), bes⟩
  ·
   rw [if_neg c30] at H
   have c30b0 : decide (t728 < 0) = false := decide_eq_false c30
   clear c30
   obtain ⟨t732, A540, H⟩ := Option.bind_eq_some_iff.mp H
   (try dsimp -simprocs only at H)
   have A54 := Aside0.mk A540
   clear A540
   simp only [Option.some.injEq, Prod.mk.injEq] at H
   obtain ⟨rfl, rfl, rfl⟩ := H
   go_enter Tryd.func22, Tryd.ntmps22
   try go_wp2_with (first | ((with_reducible refine gate_dst (N := 2) rfl ?_); refine gbox (N := 2) (cs := #[.bool a0_0, .slice A0_1 l0_1.length c0_1, .int .i64 a0_2]) (t := 41) ?_; intro gb716 hg w55 hbox hb; refine ax4 (below_step bel hb) hbox ((ge hg : w.heap.size ≤ gb716)) ((ge hg : w.heap.size ≤ gb716)) ?_; clear HB; intro HB BK716 GW716 GE716; clear hb hbox hg) | ((with_reducible refine gate_dst (N := 3) rfl ?_); refine gbox (N := 3) (cs := #[.bool a1_0, .slice A1_1 l1_1.length c1_1, .int .i64 a1_2]) (t := 41) ?_; intro gb717 hg w56 hbox hb; refine ax7 (bb BK716 hb) (below_step bes hb) hbox ((ge hg : w.heap.size ≤ gb717)) ((ge hg : w.heap.size ≤ gb717)) (nl hg BK716) (ng hg BK716) ?_; clear BK716; clear HB; intro BK716 HB BK717 GW717 GE717 NB716_717 NB717_716; clear hb hbox hg) | ((with_reducible refine gate_dst (N := 4) rfl ?_); refine gbox (N := 4) (cs := #[.bool false, .slice none 0 0, .int .i64 0]) (t := 41) ?_; intro gb718 hg w57 hbox hb; refine ax10 (bb BK716 hb) (bb BK717 hb) (below_step bes hb) hbox ((ge hg : w.heap.size ≤ gb718)) ((ge hg : w.heap.size ≤ gb718)) (nl hg BK716) (ng hg BK716) (nl hg BK717) (ng hg BK717) ?_; clear BK716; clear BK717; clear HB; intro BK716 BK717 HB BK718 GW718 GE718 NB716_718 NB718_716 NB717_718 NB718_717; clear hb hbox hg; have hnb58 := NB716_717.out; have hnc58 := NB717_716.out; have hnb59 := NB716_718.out; have hnc59 := NB718_716.out; have hcz60_0 := bc BK716 0 rfl; have hcz60_1 := bc BK716 1 rfl; have hcz60_2 := bc BK716 2 rfl; have hfz60_0 := blk_frozen BK716.out 0; have hfz60_1 := blk_frozen BK716.out 1; have hfz60_2 := blk_frozen BK716.out 2; have hnb61 := NB717_718.out; have hnc61 := NB718_717.out; have hcz62_0 := bc BK717 0 rfl; have hcz62_1 := bc BK717 1 rfl; have hcz62_2 := bc BK717 2 rfl; have hfz62_0 := blk_frozen BK717.out 0; have hfz62_1 := blk_frozen BK717.out 1; have hfz62_2 := blk_frozen BK717.out 2) | ((with_reducible refine gate_callee (f := 54) rfl ?_); refine goesL_ (some 15) rfl rfl Tryd.func54 (by kernel_rfl) rfl #[.agg #[.bool a0_0, .slice A0_1 l0_1.length c0_1, .int .i64 a0_2], .int .i64 ji3] rfl (by (try simp only [List.map_toArray, List.map_cons, List.map_nil]); first | done | (simp only [hji3]; rfl) | rfl | (simp only [List.length_drop, List.length_take]; rfl)) ?_; (with_reducible refine (gimballaw07_num_at.calls k a0_0 _ _ l0_1 a0_2 ji3 t719 _ ?side1 ?side2 A4.out).mono ?_); (case side1 => repeat (first | exact (Kd.C_below HR0_1.out HB.out) | (with_reducible refine Kd.C_alloc ?_ _) | (with_reducible refine Kd.C_drewN ?_ _) | (with_reducible refine Kd.C_drew ?_))); (case side2 => exact HC0_1.out); rintro e w63 ⟨v720, rfl, ho0, hb⟩; refine ⟨_, rfl, ?_⟩; refine ax5 (Kd.R_lower ho0 (below_size bes)) (bb BK716 hb) (bb BK717 hb) (bb BK718 hb) (below_step bes hb) ?_; clear BK716; clear BK717; clear BK718; clear HB; intro HO721 BK716 BK717 BK718 HB; (try clear hb); (try clear ho0); have hcz64_0 := bc BK717 0 rfl; have hcz64_1 := bc BK717 1 rfl; have hcz64_2 := bc BK717 2 rfl; have hfz64_0 := blk_frozen BK717.out 0; have hfz64_1 := blk_frozen BK717.out 1; have hfz64_2 := blk_frozen BK717.out 2) | ((with_reducible refine gate_callee (f := 54) rfl ?_); refine goesL_ (some 18) rfl rfl Tryd.func54 (by kernel_rfl) rfl #[.agg #[.bool a1_0, .slice A1_1 l1_1.length c1_1, .int .i64 a1_2], .int .i64 ji3] rfl (by (try simp only [List.map_toArray, List.map_cons, List.map_nil]); first | done | (simp only [hji3]; rfl) | rfl | (simp only [List.length_drop, List.length_take]; rfl)) ?_; (with_reducible refine (gimballaw07_num_at.calls k a1_0 _ _ l1_1 a1_2 ji3 t722 _ ?side1 ?side2 A5.out).mono ?_); (case side1 => repeat (first | exact (Kd.C_below HR1_1.out HB.out) | (with_reducible refine Kd.C_alloc ?_ _) | (with_reducible refine Kd.C_drewN ?_ _) | (with_reducible refine Kd.C_drew ?_))); (case side2 => exact HC1_1.out); rintro e w65 ⟨v723, rfl, ho0, hb⟩; refine ⟨_, rfl, ?_⟩; refine ax6 (Kd.R_elder' (kr HO721) (Kd.R_base ho0) hb) (Kd.R_lower (Kd.R_new' ho0 (Kd.R_lt (kr HO721))) (below_size bes)) (bb BK716 hb) (bb BK717 hb) (bb BK718 hb) (below_step bes hb) ?_; clear HO721; clear BK716; clear BK717; clear BK718; clear HB; intro HO721 HO724 BK716 BK717 BK718 HB; (try clear hb); (try clear ho0); have hcz66_0 := bc BK716 0 rfl; have hcz66_1 := bc BK716 1 rfl; have hcz66_2 := bc BK716 2 rfl; have hfz66_0 := blk_frozen BK716.out 0; have hfz66_1 := blk_frozen BK716.out 1; have hfz66_2 := blk_frozen BK716.out 2; have hcz67_0 := bc BK717 0 rfl; have hcz67_1 := bc BK717 1 rfl; have hcz67_2 := bc BK717 2 rfl; have hfz67_0 := blk_frozen BK717.out 0; have hfz67_1 := blk_frozen BK717.out 1; have hfz67_2 := blk_frozen BK717.out 2; obtain ⟨Ao68, co68, eo68⟩ := Kd.R_slice HO721.out; subst eo68; obtain ⟨Ao69, co69, eo69⟩ := Kd.R_slice HO724.out; subst eo69) | ((with_reducible refine gate_callee (f := 47) rfl ?_); refine goesL_ (some 33) rfl rfl Tryd.func47 (by kernel_rfl) rfl #[.slice Ao68 t719.length co68, .slice Ao69 t722.length co69] rfl ga ?_; (with_reducible refine (gimbalref02_Cmp.calls k _ _ t719 _ _ t722 t728 _ ?side1 ?side2 ?side3 ?side4 A29.out).mono ?_); (case side1 => exact ks HO721); (case side2 => exact (Kd.R_reads' HO721.out).2.1); (case side3 => exact ks HO724); (case side4 => exact (Kd.R_reads' HO724.out).2.1); rintro e w70 ⟨rfl, hb⟩; refine ⟨_, rfl, ?_⟩; refine ax6 (Kd.R_below (kr HO721) hb) (Kd.R_below (kr HO724) hb) (bb BK716 hb) (bb BK717 hb) (bb BK718 hb) (below_step bes hb) ?_; clear HO721; clear HO724; clear BK716; clear BK717; clear BK718; clear HB; intro HO721 HO724 BK716 BK717 BK718 HB; (try clear hb)))
   refine ax6 (Kd.R_drew HO721.out) (Kd.R_drew HO724.out) (blk_drew BK716.out) (blk_drew BK717.out) (blk_drew BK718.out) (below_drew1 HB.out) ?_
   clear HO721 HO724 BK716 BK717 BK718 HB
   intro HO721 HO724 BK716 BK717 BK718 HB
   refine start_ (n := 8) (S := fun w' => w'.cell? ⟨gb716, 0, none⟩ = some (.bool a0_0) ∧ w'.cell? ⟨gb716, 1, none⟩ = some (.slice A0_1 l0_1.length c0_1) ∧ w'.cell? ⟨gb716, 2, none⟩ = some (.int .i64 a0_2)) (ds := []) #[false, false, false, false, false, false, false, false] (by kernel_rfl) rfl rfl ⟨(blk_cell BK716.out 0).trans rfl, (blk_cell BK716.out 1).trans rfl, (blk_cell BK716.out 2).trans rfl⟩ (fun hHeld => ?_); refine with_tabW gimballaw07_add.tab8 gimballaw07_add.bits8 (fun HT_ HW_ => ?_)
   generalize w70.drew = w71 at HO721 HO724 BK716 BK717 BK718 HB hHeld ⊢
   refine pure_ (i := 0) (N := some 42) (v := ?_) (a' := ?_) #[true, false, false, false, false, false, false, false] rfl rfl (any_of HT_.out (by kernel_rfl)) (fun _ _ _ h => h) (Or.inl ⟨by rfl, ?_⟩) ?_ ?_
   rotate_left
   ·
    intro w'
    go_simp
    with_reducible rfl
   rotate_left
   ·
    simp only [Act.put, sa0, sa1, sa2, i64_w, i32_w]
    rfl
   refine pure_ (i := 2) (N := some 44) (v := ?_) (a' := ?_) #[true, false, true, false, false, false, false, false] rfl rfl (any_of HT_.out (by kernel_rfl)) (fun _ _ _ h => h) (Or.inl ⟨by rfl, ?_⟩) ?_ ?_
   rotate_left
   ·
    intro w'
    go_simp
    with_reducible rfl
   rotate_left
   ·
    simp only [Act.put, sa0, sa1, sa2, i64_w, i32_w]
    rfl
   refine pure_ (i := 3) (N := some 45) (v := ?_) (a' := ?_) #[true, false, true, true, false, false, false, false] rfl rfl (any_of HT_.out (by kernel_rfl)) (fun _ _ _ h => h) (Or.inl ⟨by rfl, ?_⟩) ?_ ?_
   rotate_left
   ·
    intro w'
    go_simp
    with_reducible rfl
   rotate_left
   ·
    simp only [Act.put, sa0, sa1, sa2, i64_w, i32_w]
    rfl
   refine pure_ (i := 5) (N := some 47) (v := ?_) (a' := ?_) #[true, false, true, true, false, true, false, false] rfl rfl (any_of HT_.out (by kernel_rfl)) (fun _ _ _ h => h) (Or.inl ⟨by rfl, ?_⟩) ?_ ?_
   rotate_left
   ·
    intro w'
    go_simp
    with_reducible rfl
   rotate_left
   ·
    simp only [Act.put, sa0, sa1, sa2, i64_w, i32_w]
    rfl
   refine take_ (i := 1) (N := some 43) (v := ?_) (a' := ?_) #[true, true, true, true, false, true, false, false] rfl rfl (take_ofW HT_.out HW_.out (by kernel_rfl)) (fun _ _ _ h => h) (Or.inl ⟨by rfl, ?_⟩) hHeld ?_ ?_
   rotate_left
   ·
    rintro w' ⟨s0, s1, s2⟩
    go_simp
    with_reducible rfl
   rotate_left
   ·
    simp only [Act.put, sa0, sa1, sa2, i64_w, i32_w]
    rfl
   refine one_ (i := 4) (N := some 46) #[true, true, true, true, true, true, false, false] rfl rfl (one_of HT_.out (by kernel_rfl)) (by decide) (fun K hK => ?_)
   refine goes_ Tryd.func48 (by kernel_rfl) rfl #[.slice Ao68 t719.length co68, .slice Ao69 t722.length co69] (by rfl) rfl rfl ga ?_
   with_reducible refine (gimbalref02_Sub.calls k _ _ t719 _ _ t722 t732 _ ?side1 ?side2 ?side3 ?side4 A54.out).mono ?_
   (case side1 => exact ks HO721)
   (case side2 => exact (Kd.R_reads' HO721.out).2.1)
   (case side3 => exact ks HO724)
   (case side4 => exact (Kd.R_reads' HO724.out).2.1)
   rintro e w72 ⟨v733, rfl, ho0, hb⟩
   refine ⟨_, rfl, ?_⟩
   refine ax7 (Kd.R_elder' (kr HO721) (Kd.R_base ho0) hb) (Kd.R_elder' (kr HO724) (Kd.R_base ho0) hb) (Kd.R_lower (Kd.R_new' (Kd.R_new' ho0 (Kd.R_lt (kr HO721))) (Kd.R_lt (kr HO724))) (below_size bes)) (bb BK716 hb) (bb BK717 hb) (bb BK718 hb) (below_step bes hb) ?_
   clear HO721 HO724 BK716 BK717 BK718 HB
   intro HO721 HO724 HO734 BK716 BK717 BK718 HB
   (try clear hb)
   (try clear hb2)
   (try clear hk)
   (try clear hi)
   (try clear ho0)
   obtain ⟨Ao73, co73, eo73⟩ := Kd.R_slice HO734.out
   (first | subst eo73 | (injection eo73 with f1_ f2_ f3_; have f4_ := f1_.symm; have f5_ := f3_.symm; clear f1_ f2_ f3_; subst f4_; subst f5_))
   refine hK.out _ _ ⟨(blk_cell BK716.out 0).trans rfl, (blk_cell BK716.out 1).trans rfl, (blk_cell BK716.out 2).trans rfl⟩ (fun hHeld => ?_)
   clear hK K
   refine norm_ (a' := ?_) ?_ ?_
   rotate_left
   ·
    show Act.put _ (some 46) _ = _
    simp only [Act.put, sa0, sa1, sa2, i64_w, i32_w]
    rfl
   refine pure_ (i := 6) (N := some 48) (v := ?_) (a' := ?_) #[true, true, true, true, true, true, true, false] rfl rfl (any_of HT_.out (by kernel_rfl)) (fun _ _ _ h => h) (Or.inl ⟨by rfl, ?_⟩) ?_ ?_
   rotate_left
   ·
    intro w'
    go_simp
    with_reducible rfl
   rotate_left
   ·
    simp only [Act.put, sa0, sa1, sa2, i64_w, i32_w]
    rfl
   refine one_ (i := 7) (N := none) #[true, true, true, true, true, true, true, true] rfl rfl (one_of HT_.out (by kernel_rfl)) (by decide) (fun K hK => ?_)
   have hs74 : w72.cell? ⟨gb718, 0, none⟩ = some (.bool false) := (blk_cell BK718.out 0).trans rfl
   have hfs74 := blk_frozen BK718.out 0
   have hns74_0 := NB716_718.out
   have hns74_1 := NB717_718.out
   have hms74_0 := NB718_716.out
   have hms74_1 := NB718_717.out
   have hs75 : w72.cell? ⟨gb718, 1, none⟩ = some (.slice none 0 0) := (blk_cell BK718.out 1).trans rfl
   have hfs75 := blk_frozen BK718.out 1
   have hns75_0 := NB716_718.out
   have hns75_1 := NB717_718.out
   have hms75_0 := NB718_716.out
   have hms75_1 := NB718_717.out
   have hs76 : w72.cell? ⟨gb718, 2, none⟩ = some (.int .i64 0) := (blk_cell BK718.out 2).trans rfl
   have hfs76 := blk_frozen BK718.out 2
   have hns76_0 := NB716_718.out
   have hns76_1 := NB717_718.out
   have hms76_0 := NB718_716.out
   have hms76_1 := NB718_717.out
   refine skip_ (w1 := ?_) (by rfl) rfl ?_ ?_
   rotate_left
   ·
    go_simp
    rfl
   refine hK.out _ _ ⟨((cell_far (p := ⟨gb718, _, none⟩) NB716_718.out _).trans (((cell_far (p := ⟨gb718, _, none⟩) NB716_718.out _).trans (((cell_far (p := ⟨gb718, _, none⟩) NB716_718.out _).trans (hHeld.1)))))), ((cell_far (p := ⟨gb718, _, none⟩) NB716_718.out _).trans (((cell_far (p := ⟨gb718, _, none⟩) NB716_718.out _).trans (((cell_far (p := ⟨gb718, _, none⟩) NB716_718.out _).trans (hHeld.2.1)))))), ((cell_far (p := ⟨gb718, _, none⟩) NB716_718.out _).trans (((cell_far (p := ⟨gb718, _, none⟩) NB716_718.out _).trans (((cell_far (p := ⟨gb718, _, none⟩) NB716_718.out _).trans (hHeld.2.2))))))⟩ (fun hHeld => ?_)
   clear hK K
   refine done_ (done_of HT_.out (by kernel_rfl)) ?_
   try go_wp2
   refine bodyPost_ret (results_cell_row rfl _ _ gb718 41 #[.bool a0_0, .slice Ao73 t732.length co73, .int .i64 ji3] (0, 0) _ rfl (by (with_reducible repeat (first | refine blk_drewN ?_ _ | refine blk_drew ?_ | refine blk_alloc ?_ _)); refine blk_put (cs := #[.bool a0_0, .slice Ao73 t732.length co73, .int .i64 0]) ?_ 2 _ rfl; (with_reducible repeat (first | refine blk_drewN ?_ _ | refine blk_drew ?_ | refine blk_alloc ?_ _)); refine blk_put (cs := #[.bool a0_0, .slice none 0 0, .int .i64 0]) ?_ 1 _ rfl; (with_reducible repeat (first | refine blk_drewN ?_ _ | refine blk_drew ?_ | refine blk_alloc ?_ _)); refine blk_put (cs := #[.bool false, .slice none 0 0, .int .i64 0]) ?_ 0 _ rfl; (with_reducible repeat (first | refine blk_drewN ?_ _ | refine blk_drew ?_ | refine blk_alloc ?_ _)); exact BK718.out) Tryd.underlying41 rfl (by kernel_rfl)) rfl ?_
   exact ⟨_, by first | rfl | (simp [errW_none, errW_some] <;> rfl) | (simp only [← hji3]; first | rfl | (simp [errW_none, errW_some] <;> rfl)) | (simp [*, errW_none, errW_some] <;> rfl), by (with_reducible repeat (first | apply Kd.R_alloc | apply Kd.R_drewN | apply Kd.R_drew)); exact Kd.R_mono (Kd.R_far (p := ⟨gb718, 2, none⟩) (Kd.R_far (p := ⟨gb718, 1, none⟩) (Kd.R_far (p := ⟨gb718, 0, none⟩) (Kd.R_types HO734.out BK718.out (by decide)) (fun _ hk => hk.2) (.bool a0_0)) (fun _ hk => hk.2) (.slice Ao73 t732.length co73)) (fun _ hk => hk.2) (.int .i64 ji3)) (fun _ hk => trivial), bes⟩

/-! ### gimballaw07_mul: function 24 -/
def gimballaw07_mul.f (k : Nat) (a0_0 : Bool) (l0_1 : List Int) (a0_2 : Int) (a1_0 : Bool) (l1_1 : List Int) (a1_2 : Int) : Option (Bool × List Int × Int) := (gimbalref02_Mul.f k l0_1 l1_1).bind fun t738 => (some ((a0_0 != a1_0), t738, wrap64 (a0_2 + a1_2)))
theorem gimballaw07_mul.mono : ∀ a0 a1 a2 a3 a4 a5 k, LeO (gimballaw07_mul.f k a0 a1 a2 a3 a4 a5) (gimballaw07_mul.f (k + 1) a0 a1 a2 a3 a4 a5) := by
 intro a0 a1 a2 a3 a4 a5 k
 unfold gimballaw07_mul.f
 repeat' with_reducible first | apply gimbalref02_Mul.mono | exact LeO.refl _ | exact LeO.none _ | refine LeO.ite ?_ ?_ | refine LeO.bind ?_ (fun _ => ?_)
def gimballaw07_mul.T1 : Bool × List (List Nat × List Nat) := (true, [([], []), ([0], [0]), ([], []), ([2], [2]), ([1, 3], [1, 3]), ([], []), ([5], [5]), ([], []), ([7], [7]), ([6, 8], [6, 8]), ([], []), ([10], [10]), ([], []), ([12], [12]), ([11, 13], [11, 13]), ([4, 9, 14], [4, 9, 14]), ([15, 9, 0, 1, 2, 3, 4, 5, 6, 7, 8, 9, 10, 11, 12, 13, 14, 15], [15])])
def gimballaw07_mul.B1 : List Nat := [0, 1, 0, 4, 15, 0, 32, 0, 128, 480, 0, 1024, 0, 4096, 15360, 32767, 65535]
theorem gimballaw07_mul.tab1 : rtab .any (opsOf Tryd.f24 1) = gimballaw07_mul.T1 := by kernel_rfl
theorem gimballaw07_mul.bits1 : waitsOk gimballaw07_mul.T1.2 gimballaw07_mul.B1 = true := by kernel_rfl
set_option maxHeartbeats 8000000 in
set_option maxRecDepth 100000 in
theorem gimballaw07_mul.calls (k : Nat) (a0_0 : Bool) (A0_1 : Option Addr) (c0_1 : Nat) (l0_1 : List Int) (a0_2 : Int) (a1_0 : Bool) (A1_1 : Option Addr) (c1_1 : Nat) (l1_1 : List Int) (a1_2 : Int) (r1 : Bool) (r2 : List Int) (r3 : Int) (w : World) (hr0_1 : Kd.C (Kd.int .i64) w A0_1 l0_1.length l0_1) (hc0_1 : l0_1.length ≤ c0_1) (hr1_1 : Kd.C (Kd.int .i64) w A1_1 l1_1.length l1_1) (hc1_1 : l1_1.length ≤ c1_1) (h : gimballaw07_mul.f k a0_0 l0_1 a0_2 a1_0 l1_1 a1_2 = some (r1, r2, r3)) :
  Calls Tryd.prog 24 #[.agg #[.bool a0_0, .slice A0_1 l0_1.length c0_1, .int .i64 a0_2], .agg #[.bool a1_0, .slice A1_1 l1_1.length c1_1, .int .i64 a1_2]] w fun e w' => ∃ v1_ : Value, e = .returned (.agg #[.bool r1, v1_, .int .i64 r3]) ∧ Kd.R (Kd.int .i64) 3 w' w.heap.size (fun _ => True) v1_ r2 ∧ Below w.heap.size w w' := by
 have hu41 := Tryd.underlying41
 have HR0_1 := Aside0.mk hr0_1
 have HC0_1 := Aside0.mk hc0_1
 clear hr0_1 hc0_1
 have HR1_1 := Aside0.mk hr1_1
 have HC1_1 := Aside0.mk hc1_1
 clear hr1_1 hc1_1
 have HB := Aside0.mk (Below.refl w.heap.size w)
 have H : ((gimbalref02_Mul.f k l0_1 l1_1).bind fun t738 => (some ((a0_0 != a1_0), t738, wrap64 (a0_2 + a1_2)))) = some (r1, r2, r3) := h
 clear h
 obtain ⟨t738, A30, H⟩ := Option.bind_eq_some_iff.mp H
 (try dsimp -simprocs only at H)
 have A3 := Aside0.mk A30
 clear A30
 simp only [Option.some.injEq, Prod.mk.injEq] at H
 obtain ⟨rfl, rfl, rfl⟩ := H
 go_enter Tryd.func24, Tryd.ntmps24
 try go_wp2_with (first | ((with_reducible refine gate_dst (N := 2) rfl ?_); refine gbox (N := 2) (cs := #[.bool a0_0, .slice A0_1 l0_1.length c0_1, .int .i64 a0_2]) (t := 41) ?_; intro gb735 hg w4 hbox hb; refine ax4 (below_step bel hb) hbox ((ge hg : w.heap.size ≤ gb735)) ((ge hg : w.heap.size ≤ gb735)) ?_; clear HB; intro HB BK735 GW735 GE735; clear hb hbox hg) | ((with_reducible refine gate_dst (N := 3) rfl ?_); refine gbox (N := 3) (cs := #[.bool a1_0, .slice A1_1 l1_1.length c1_1, .int .i64 a1_2]) (t := 41) ?_; intro gb736 hg w5 hbox hb; refine ax7 (bb BK735 hb) (below_step bes hb) hbox ((ge hg : w.heap.size ≤ gb736)) ((ge hg : w.heap.size ≤ gb736)) (nl hg BK735) (ng hg BK735) ?_; clear BK735; clear HB; intro BK735 HB BK736 GW736 GE736 NB735_736 NB736_735; clear hb hbox hg) | ((with_reducible refine gate_dst (N := 4) rfl ?_); refine gbox (N := 4) (cs := #[.bool false, .slice none 0 0, .int .i64 0]) (t := 41) ?_; intro gb737 hg w6 hbox hb; refine ax10 (bb BK735 hb) (bb BK736 hb) (below_step bes hb) hbox ((ge hg : w.heap.size ≤ gb737)) ((ge hg : w.heap.size ≤ gb737)) (nl hg BK735) (ng hg BK735) (nl hg BK736) (ng hg BK736) ?_; clear BK735; clear BK736; clear HB; intro BK735 BK736 HB BK737 GW737 GE737 NB735_737 NB737_735 NB736_737 NB737_736; clear hb hbox hg))
 refine ax4 (blk_drew BK735.out) (blk_drew BK736.out) (blk_drew BK737.out) (below_drew1 HB.out) ?_
 clear BK735 BK736 BK737 HB
 intro BK735 BK736 BK737 HB
 refine start_ (n := 17) (S := fun w' => w'.cell? ⟨gb735, 0, none⟩ = some (.bool a0_0) ∧ w'.cell? ⟨gb735, 1, none⟩ = some (.slice A0_1 l0_1.length c0_1) ∧ w'.cell? ⟨gb735, 2, none⟩ = some (.int .i64 a0_2) ∧ w'.cell? ⟨gb736, 0, none⟩ = some (.bool a1_0) ∧ w'.cell? ⟨gb736, 1, none⟩ = some (.slice A1_1 l1_1.length c1_1) ∧ w'.cell? ⟨gb736, 2, none⟩ = some (.int .i64 a1_2)) (ds := []) #[false, false, false, false, false, false, false, false, false, false, false, false, false, false, false, false, false] (by kernel_rfl) rfl rfl ⟨(blk_cell BK735.out 0).trans rfl, (blk_cell BK735.out 1).trans rfl, (blk_cell BK735.out 2).trans rfl, (blk_cell BK736.out 0).trans rfl, (blk_cell BK736.out 1).trans rfl, (blk_cell BK736.out 2).trans rfl⟩ (fun hHeld => ?_); refine with_tabW gimballaw07_mul.tab1 gimballaw07_mul.bits1 (fun HT_ HW_ => ?_)
 generalize w6.drew = w7 at BK735 BK736 BK737 HB hHeld ⊢
 refine pure_ (i := 0) (N := some 5) (v := ?_) (a' := ?_) #[true, false, false, false, false, false, false, false, false, false, false, false, false, false, false, false, false] rfl rfl (any_of HT_.out (by kernel_rfl)) (fun _ _ _ h => h) (Or.inl ⟨by rfl, ?_⟩) ?_ ?_
 rotate_left
 ·
  intro w'
  go_simp
  with_reducible rfl
 rotate_left
 ·
  simp only [Act.put, sa0, sa1, sa2, i64_w, i32_w]
  rfl
 refine pure_ (i := 2) (N := some 7) (v := ?_) (a' := ?_) #[true, false, true, false, false, false, false, false, false, false, false, false, false, false, false, false, false] rfl rfl (any_of HT_.out (by kernel_rfl)) (fun _ _ _ h => h) (Or.inl ⟨by rfl, ?_⟩) ?_ ?_
 rotate_left
 ·
  intro w'
  go_simp
  with_reducible rfl
 rotate_left
 ·
  simp only [Act.put, sa0, sa1, sa2, i64_w, i32_w]
  rfl
 refine pure_ (i := 5) (N := some 10) (v := ?_) (a' := ?_) #[true, false, true, false, false, true, false, false, false, false, false, false, false, false, false, false, false] rfl rfl (any_of HT_.out (by kernel_rfl)) (fun _ _ _ h => h) (Or.inl ⟨by rfl, ?_⟩) ?_ ?_
 rotate_left
 ·
  intro w'
  go_simp
  with_reducible rfl
 rotate_left
 ·
  simp only [Act.put, sa0, sa1, sa2, i64_w, i32_w]
  rfl
 refine pure_ (i := 7) (N := some 12) (v := ?_) (a' := ?_) #[true, false, true, false, false, true, false, true, false, false, false, false, false, false, false, false, false] rfl rfl (any_of HT_.out (by kernel_rfl)) (fun _ _ _ h => h) (Or.inl ⟨by rfl, ?_⟩) ?_ ?_
 rotate_left
 ·
  intro w'
  go_simp
  with_reducible rfl
 rotate_left
 ·
  simp only [Act.put, sa0, sa1, sa2, i64_w, i32_w]
  rfl
 refine pure_ (i := 10) (N := some 15) (v := ?_) (a' := ?_) #[true, false, true, false, false, true, false, true, false, false, true, false, false, false, false, false, false] rfl rfl (any_of HT_.out (by kernel_rfl)) (fun _ _ _ h => h) (Or.inl ⟨by rfl, ?_⟩) ?_ ?_
 rotate_left
 ·
  intro w'
  go_simp
  with_reducible rfl
 rotate_left
 ·
  simp only [Act.put, sa0, sa1, sa2, i64_w, i32_w]
  rfl
 refine pure_ (i := 12) (N := some 17) (v := ?_) (a' := ?_) #[true, false, true, false, false, true, false, true, false, false, true, false, true, false, false, false, false] rfl rfl (any_of HT_.out (by kernel_rfl)) (fun _ _ _ h => h) (Or.inl ⟨by rfl, ?_⟩) ?_ ?_
 rotate_left
 ·
  intro w'
  go_simp
  with_reducible rfl
 rotate_left
 ·
  simp only [Act.put, sa0, sa1, sa2, i64_w, i32_w]
  rfl
 refine take_ (i := 1) (N := some 6) (v := ?_) (a' := ?_) #[true, true, true, false, false, true, false, true, false, false, true, false, true, false, false, false, false] rfl rfl (take_ofW HT_.out HW_.out (by kernel_rfl)) (fun _ _ _ h => h) (Or.inl ⟨by rfl, ?_⟩) hHeld ?_ ?_
 rotate_left
 ·
  rintro w' ⟨s0, s1, s2, s3, s4, s5⟩
  go_simp
  with_reducible rfl
 rotate_left
 ·
  simp only [Act.put, sa0, sa1, sa2, i64_w, i32_w]
  rfl
 refine take_ (i := 3) (N := some 8) (v := ?_) (a' := ?_) #[true, true, true, true, false, true, false, true, false, false, true, false, true, false, false, false, false] rfl rfl (take_ofW HT_.out HW_.out (by kernel_rfl)) (fun _ _ _ h => h) (Or.inl ⟨by rfl, ?_⟩) hHeld ?_ ?_
 rotate_left
 ·
  rintro w' ⟨s0, s1, s2, s3, s4, s5⟩
  go_simp
  with_reducible rfl
 rotate_left
 ·
  simp only [Act.put, sa0, sa1, sa2, i64_w, i32_w]
  rfl
 refine pure_ (i := 4) (N := some 9) (v := ?_) (a' := ?_) #[true, true, true, true, true, true, false, true, false, false, true, false, true, false, false, false, false] rfl rfl (any_of HT_.out (by kernel_rfl)) (fun _ _ _ h => h) (Or.inl ⟨by rfl, ?_⟩) ?_ ?_
 rotate_left
 ·
  intro w'
  go_simp
  with_reducible rfl
 rotate_left
 ·
  simp only [Act.put, sa0, sa1, sa2, i64_w, i32_w]
  rfl
 refine take_ (i := 6) (N := some 11) (v := ?_) (a' := ?_) #[true, true, true, true, true, true, true, true, false, false, true, false, true, false, false, false, false] rfl rfl (take_ofW HT_.out HW_.out (by kernel_rfl)) (fun _ _ _ h => h) (Or.inl ⟨by rfl, ?_⟩) hHeld ?_ ?_
 rotate_left
 ·
  rintro w' ⟨s0, s1, s2, s3, s4, s5⟩
  go_simp
  with_reducible rfl
 rotate_left
 ·
  simp only [Act.put, sa0, sa1, sa2, i64_w, i32_w]
  rfl
 refine take_ (i := 8) (N := some 13) (v := ?_) (a' := ?_) #[true, true, true, true, true, true, true, true, true, false, true, false, true, false, false, false, false] rfl rfl (take_ofW HT_.out HW_.out (by kernel_rfl)) (fun _ _ _ h => h) (Or.inl ⟨by rfl, ?_⟩) hHeld ?_ ?_
 rotate_left
 ·
  rintro w' ⟨s0, s1, s2, s3, s4, s5⟩
  go_simp
  with_reducible rfl
 rotate_left
 ·
  simp only [Act.put, sa0, sa1, sa2, i64_w, i32_w]
  rfl
 refine take_ (i := 11) (N := some 16) (v := ?_) (a' := ?_) #[true, true, true, true, true, true, true, true, true, false, true, true, true, false, false, false, false] rfl rfl (take_ofW HT_.out HW_.out (by kernel_rfl)) (fun _ _ _ h => h) (Or.inl ⟨by rfl, ?_⟩) hHeld ?_ ?_
 rotate_left
 ·
  rintro w' ⟨s0, s1, s2, s3, s4, s5⟩
  go_simp
  with_reducible rfl
 rotate_left
 ·
  simp only [Act.put, sa0, sa1, sa2, i64_w, i32_w]
  rfl
 refine take_ (i := 13) (N := some 18) (v := ?_) (a' := ?_) #[true, true, true, true, true, true, true, true, true, false, true, true, true, true, false, false, false] rfl rfl (take_ofW HT_.out HW_.out (by kernel_rfl)) (fun _ _ _ h => h) (Or.inl ⟨by rfl, ?_⟩) hHeld ?_ ?_
 rotate_left
 ·
  rintro w' ⟨s0, s1, s2, s3, s4, s5⟩
  go_simp
  with_reducible rfl
 rotate_left
 ·
  simp only [Act.put, sa0, sa1, sa2, i64_w, i32_w]
  rfl
 refine pure_ (i := 14) (N := some 19) (v := ?_) (a' := ?_) #[true, true, true, true, true, true, true, true, true, false, true, true, true, true, true, false, false] rfl rfl (any_of HT_.out (by kernel_rfl)) (fun _ _ _ h => h) (Or.inl ⟨by rfl, ?_⟩) ?_ ?_
 rotate_left
 ·
  intro w'
  go_simp
  with_reducible rfl
 rotate_left
 ·
  simp only [Act.put, sa0, sa1, sa2, i64_w, i32_w]
  rfl
 refine one_ (i := 9) (N := some 14) #[true, true, true, true, true, true, true, true, true, true, true, true, true, true, true, false, false] rfl rfl (one_of HT_.out (by kernel_rfl)) (by decide) (fun K hK => ?_)
 refine goes_ Tryd.func51 (by kernel_rfl) rfl #[.slice A0_1 l0_1.length c0_1, .slice A1_1 l1_1.length c1_1] (by rfl) rfl rfl ga ?_
 with_reducible refine (gimbalref02_Mul.calls k _ _ l0_1 _ _ l1_1 t738 _ ?side1 ?side2 ?side3 ?side4 A3.out).mono ?_
 (case side1 => repeat (first | exact (Kd.C_below HR0_1.out HB.out) | (with_reducible refine Kd.C_alloc ?_ _) | (with_reducible refine Kd.C_drewN ?_ _) | (with_reducible refine Kd.C_drew ?_)))
 (case side2 => exact HC0_1.out)
 (case side3 => repeat (first | exact (Kd.C_below HR1_1.out HB.out) | (with_reducible refine Kd.C_alloc ?_ _) | (with_reducible refine Kd.C_drewN ?_ _) | (with_reducible refine Kd.C_drew ?_)))
 (case side4 => exact HC1_1.out)
 rintro e w8 ⟨v739, rfl, ho0, hb⟩
 refine ⟨_, rfl, ?_⟩
 refine ax5 (Kd.R_lower ho0 (below_size bes)) (bb BK735 hb) (bb BK736 hb) (bb BK737 hb) (below_step bes hb) ?_
 clear BK735 BK736 BK737 HB
 intro HO740 BK735 BK736 BK737 HB
 (try clear hb)
 (try clear hb2)
 (try clear hk)
 (try clear hi)
 (try clear ho0)
 obtain ⟨Ao9, co9, eo9⟩ := Kd.R_slice HO740.out
 (first | subst eo9 | (injection eo9 with f1_ f2_ f3_; have f4_ := f1_.symm; have f5_ := f3_.symm; clear f1_ f2_ f3_; subst f4_; subst f5_))
 refine hK.out _ _ ⟨(blk_cell BK735.out 0).trans rfl, (blk_cell BK735.out 1).trans rfl, (blk_cell BK735.out 2).trans rfl, (blk_cell BK736.out 0).trans rfl, (blk_cell BK736.out 1).trans rfl, (blk_cell BK736.out 2).trans rfl⟩ (fun hHeld => ?_)
 clear hK K
 refine norm_ (a' := ?_) ?_ ?_
 rotate_left
 ·
  show Act.put _ (some 14) _ = _
  simp only [Act.put, sa0, sa1, sa2, i64_w, i32_w]
  rfl
 refine pure_ (i := 15) (N := some 20) (v := ?_) (a' := ?_) #[true, true, true, true, true, true, true, true, true, true, true, true, true, true, true, true, false] rfl rfl (any_of HT_.out (by kernel_rfl)) (fun _ _ _ h => h) (Or.inl ⟨by rfl, ?_⟩) ?_ ?_
 rotate_left
 ·
  intro w'
  go_simp
  with_reducible rfl
 rotate_left
 ·
  simp only [Act.put, sa0, sa1, sa2, i64_w, i32_w]
  rfl
 refine one_ (i := 16) (N := none) #[true, true, true, true, true, true, true, true, true, true, true, true, true, true, true, true, true] rfl rfl (one_of HT_.out (by kernel_rfl)) (by decide) (fun K hK => ?_)
 have hs10 : w8.cell? ⟨gb737, 0, none⟩ = some (.bool false) := (blk_cell BK737.out 0).trans rfl
 have hfs10 := blk_frozen BK737.out 0
 have hns10_0 := NB735_737.out
 have hns10_1 := NB736_737.out
 have hms10_0 := NB737_735.out
 have hms10_1 := NB737_736.out
 have hs11 : w8.cell? ⟨gb737, 1, none⟩ = some (.slice none 0 0) := (blk_cell BK737.out 1).trans rfl
 have hfs11 := blk_frozen BK737.out 1
 have hns11_0 := NB735_737.out
 have hns11_1 := NB736_737.out
 have hms11_0 := NB737_735.out
 have hms11_1 := NB737_736.out
 have hs12 : w8.cell? ⟨gb737, 2, none⟩ = some (.int .i64 0) := (blk_cell BK737.out 2).trans rfl
 have hfs12 := blk_frozen BK737.out 2
 have hns12_0 := NB735_737.out
 have hns12_1 := NB736_737.out
 have hms12_0 := NB737_735.out
 have hms12_1 := NB737_736.out
 refine skip_ (w1 := ?_) (by rfl) rfl ?_ ?_
 rotate_left
 ·
  go_simp
  rfl
 refine hK.out _ _ ⟨((cell_far (p := ⟨gb737, _, none⟩) NB735_737.out _).trans (((cell_far (p := ⟨gb737, _, none⟩) NB735_737.out _).trans (((cell_far (p := ⟨gb737, _, none⟩) NB735_737.out _).trans (hHeld.1)))))), ((cell_far (p := ⟨gb737, _, none⟩) NB735_737.out _).trans (((cell_far (p := ⟨gb737, _, none⟩) NB735_737.out _).trans (((cell_far (p := ⟨gb737, _, none⟩) NB735_737.out _).trans (hHeld.2.1)))))), ((cell_far (p := ⟨gb737, _, none⟩) NB735_737.out _).trans (((cell_far (p := ⟨gb737, _, none⟩) NB735_737.out _).trans (((cell_far (p := ⟨gb737, _, none⟩) NB735_737.out _).trans (hHeld.2.2.1)))))), ((cell_far (p := ⟨gb737, _, none⟩) NB736_737.out _).trans (((cell_far (p := ⟨gb737, _, none⟩) NB736_737.out _).trans (((cell_far (p := ⟨gb737, _, none⟩) NB736_737.out _).trans (hHeld.2.2.2.1)))))), ((cell_far (p := ⟨gb737, _, none⟩) NB736_737.out _).trans (((cell_far (p := ⟨gb737, _, none⟩) NB736_737.out _).trans (((cell_far (p := ⟨gb737, _, none⟩) NB736_737.out _).trans (hHeld.2.2.2.2.1)))))), ((cell_far (p := ⟨gb737, _, none⟩) NB736_737.out _).trans (((cell_far (p := ⟨gb737, _, none⟩) NB736_737.out _).trans (((cell_far (p := ⟨gb737, _, none⟩) NB736_737.out _).trans (hHeld.2.2.2.2.2))))))⟩ (fun hHeld => ?_)
 clear hK K
 refine done_ (done_of HT_.out (by kernel_rfl)) ?_
 try go_wp2
 refine bodyPost_ret (results_cell_row rfl _ _ gb737 41 #[.bool (a0_0 != a1_0), .slice Ao9 t738.length co9, .int .i64 (wrap64 (a0_2 + a1_2))] (0, 0) _ rfl (by (with_reducible repeat (first | refine blk_drewN ?_ _ | refine blk_drew ?_ | refine blk_alloc ?_ _)); refine blk_put (cs := #[.bool (a0_0 != a1_0), .slice Ao9 t738.length co9, .int .i64 0]) ?_ 2 _ rfl; (with_reducible repeat (first | refine blk_drewN ?_ _ | refine blk_drew ?_ | refine blk_alloc ?_ _)); refine blk_put (cs := #[.bool (a0_0 != a1_0), .slice none 0 0, .int .i64 0]) ?_ 1 _ rfl; (with_reducible repeat (first | refine blk_drewN ?_ _ | refine blk_drew ?_ | refine blk_alloc ?_ _)); refine blk_put (cs := #[.bool false, .slice none 0 0, .int .i64 0]) ?_ 0 _ rfl; (with_reducible repeat (first | refine blk_drewN ?_ _ | refine blk_drew ?_ | refine blk_alloc ?_ _)); exact BK737.out) Tryd.underlying41 rfl (by kernel_rfl)) rfl ?_
 exact ⟨_, er, by (with_reducible repeat (first | apply Kd.R_alloc | apply Kd.R_drewN | apply Kd.R_drew)); exact Kd.R_mono (Kd.R_far (p := ⟨gb737, 2, none⟩) (Kd.R_far (p := ⟨gb737, 1, none⟩) (Kd.R_far (p := ⟨gb737, 0, none⟩) (Kd.R_types HO740.out BK737.out (by decide)) (fun _ hk => hk.2) (.bool (a0_0 != a1_0))) (fun _ hk => hk.2) (.slice Ao9 t738.length co9)) (fun _ hk => hk.2) (.int .i64 (wrap64 (a0_2 + a1_2)))) (fun _ hk => trivial), bes⟩

end Go.Proofs.YtakegikedpcilaaDoor.F

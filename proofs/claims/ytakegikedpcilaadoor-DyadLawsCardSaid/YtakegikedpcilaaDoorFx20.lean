-- Written by a program of this seat's session (mkprint), out of the translation.
import Derived.Test.YtakegikedpcilaaDoorShort
import Derived.Test.YtakegikedpcilaaDoorFx0
namespace Go.Proofs.YtakegikedpcilaaDoor.F
open Go.RowKit Go.Proofs.YtakegikedpcilaaDoorW.PrintWords Go.Proofs.YtakegikedpcilaaDoorW.PrintLast Go.Proofs.YtakegikedpcilaaDoorW.PrintMore
attribute [local go_sem] max2_int min2_int max_two min_two max_three min_three max_four min_four   -- for this text's walks alone
set_option linter.unusedVariables false
set_option linter.unusedSimpArgs false

/-! ### dyad_Num_Abs: function 30 -/
def dyad_Num_Abs.f (a0_0 : Bool) (l0_1 : List Int) (a0_2 : Int) : Option (Bool × List Int × Int) := some (false, l0_1, a0_2)
set_option maxHeartbeats 8000000 in
set_option maxRecDepth 100000 in
theorem dyad_Num_Abs.calls (a0_0 : Bool) (P0_1_ : Nat → Prop) (A0_1 : Option Addr) (c0_1 : Nat) (l0_1 : List Int) (a0_2 : Int) (r1 : Bool) (r2 : List Int) (r3 : Int) (w : World) (hs0_1 : Kd.V (Kd.int .u32) 56 w w.heap.size (fun k_ => P0_1_ k_) (.slice A0_1 l0_1.length c0_1) l0_1) (h : dyad_Num_Abs.f a0_0 l0_1 a0_2 = some (r1, r2, r3)) :
  Calls Tryd.prog 30 #[.agg #[.bool a0_0, .slice A0_1 l0_1.length c0_1, .int .i64 a0_2]] w fun e w' => ∃ v1_ : Value, e = .returned (.agg #[.bool r1, v1_, .int .i64 r3]) ∧ Kd.V (Kd.int .u32) 56 w' w.heap.size (fun k_ => (P0_1_ k_ ∨ w.heap.size ≤ k_)) v1_ r2 ∧ Below w.heap.size w w' := by
 have hu26 := Tryd.underlying26
 have HO0_1 := Aside0.mk (show Kd.V (Kd.int .u32) 56 w w.heap.size (fun k_ => (P0_1_ k_ ∨ w.heap.size ≤ k_)) (.slice A0_1 l0_1.length c0_1) l0_1 from Kd.V_mono hs0_1 (fun k_ hk => .inl hk))
 have HB := Aside0.mk (Below.refl w.heap.size w)
 have H : (some (false, l0_1, a0_2)) = some (r1, r2, r3) := h
 clear h
 simp only [Option.some.injEq, Prod.mk.injEq] at H
 obtain ⟨rfl, rfl, rfl⟩ := H
 go_enter Tryd.func30, Tryd.ntmps30
 go_wp2_with (first | ((with_reducible refine gate_dst (N := 1) rfl ?_); refine gbox (N := 1) (cs := #[.bool a0_0, .slice A0_1 l0_1.length c0_1, .int .i64 a0_2]) (t := 26) ?_; intro gb935 hg w2 hbox hb; refine ax5 (Kd.V_below (Kd.V_elderB (kv HO0_1) gb935 (Nat.le_of_eq hg.symm)) hb) (below_step bel hb) hbox ((ge hg : w.heap.size ≤ gb935)) ((ge hg : w.heap.size ≤ gb935)) ?_; clear HO0_1; clear HB; intro HO0_1 HB BK935 GW935 GE935; clear hb hbox hg) | ((with_reducible refine gate_dst (N := 2) rfl ?_); refine gbox (N := 2) (cs := #[.bool false, .slice none 0 0, .int .i64 0]) (t := 26) ?_; intro gb936 hg w3 hbox hb; refine ax8 (Kd.V_below (Kd.V_elderB (kv HO0_1) gb936 (Nat.le_of_eq hg.symm)) hb) (bb BK935 hb) (below_step bes hb) hbox ((ge hg : w.heap.size ≤ gb936)) ((ge hg : w.heap.size ≤ gb936)) (nl hg BK935) (ng hg BK935) ?_; clear HO0_1; clear BK935; clear HB; intro HO0_1 BK935 HB BK936 GW936 GE936 NB935_936 NB936_935; clear hb hbox hg; have hnb4 := NB935_936.out; have hnc4 := NB936_935.out; have hcz5_0 := bc BK935 0 rfl; have hcz5_1 := bc BK935 1 rfl; have hcz5_2 := bc BK935 2 rfl; have hfz5_0 := blk_frozen BK935.out 0; have hfz5_1 := blk_frozen BK935.out 1; have hfz5_2 := blk_frozen BK935.out 2; have hcz6_0 := bc BK936 0 rfl; have hcz6_1 := bc BK936 1 rfl; have hcz6_2 := bc BK936 2 rfl; have hfz6_0 := blk_frozen BK936.out 0; have hfz6_1 := blk_frozen BK936.out 1; have hfz6_2 := blk_frozen BK936.out 2))
 refine bodyPost_ret (results_cell_row rfl _ _ gb936 26 #[.bool false, .slice A0_1 l0_1.length c0_1, .int .i64 a0_2] (0, 0) _ rfl (by (with_reducible repeat (first | refine blk_drewN ?_ _ | refine blk_drew ?_ | refine blk_alloc ?_ _)); refine blk_put (cs := #[.bool false, .slice A0_1 l0_1.length c0_1, .int .i64 0]) ?_ 2 _ rfl; (with_reducible repeat (first | refine blk_drewN ?_ _ | refine blk_drew ?_ | refine blk_alloc ?_ _)); refine blk_put (cs := #[.bool false, .slice none 0 0, .int .i64 0]) ?_ 1 _ rfl; (with_reducible repeat (first | refine blk_drewN ?_ _ | refine blk_drew ?_ | refine blk_alloc ?_ _)); refine blk_put (cs := #[.bool false, .slice none 0 0, .int .i64 0]) ?_ 0 _ rfl; (with_reducible repeat (first | refine blk_drewN ?_ _ | refine blk_drew ?_ | refine blk_alloc ?_ _)); refine blk_far ?_ NB936_935.out _; (with_reducible repeat (first | refine blk_drewN ?_ _ | refine blk_drew ?_ | refine blk_alloc ?_ _)); exact BK936.out) Tryd.underlying26 rfl (by kernel_rfl)) rfl ?_
 exact ⟨_, er, by (with_reducible repeat (first | apply Kd.V_alloc | apply Kd.V_drewN | apply Kd.V_drew)); exact Kd.V_mono (Kd.V_far (p := ⟨gb936, 2, none⟩) (Kd.V_far (p := ⟨gb936, 1, none⟩) (Kd.V_far (p := ⟨gb936, 0, none⟩) (Kd.V_far (p := ⟨gb935, 0, none⟩) (Kd.V_mono (Kd.V_mono HO0_1.out (fun k_ hk => (⟨hk, hk.1.2⟩ : _ ∧ k_ ≠ gb935))) (fun k_ hk => (⟨hk, hk.1.2⟩ : _ ∧ k_ ≠ gb936))) (fun _ hk => hk.1.2) (.bool false)) (fun _ hk => hk.2) (.bool false)) (fun _ hk => hk.2) (.slice A0_1 l0_1.length c0_1)) (fun _ hk => hk.2) (.int .i64 a0_2)) (fun _ hk => hk.1.1.1.1), bes⟩

end Go.Proofs.YtakegikedpcilaaDoor.F

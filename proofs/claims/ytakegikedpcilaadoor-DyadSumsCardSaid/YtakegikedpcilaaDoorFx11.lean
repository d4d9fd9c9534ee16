-- Written by a program of this seat's session (mkprint), out of the translation.
import Derived.Test.YtakegikedpcilaaDoorShort
import Derived.Test.YtakegikedpcilaaDoorFx0
namespace Go.Proofs.YtakegikedpcilaaDoor.F
open Go.RowKit Go.Proofs.YtakegikedpcilaaDoorW.PrintWords Go.Proofs.YtakegikedpcilaaDoorW.PrintLast Go.Proofs.YtakegikedpcilaaDoorW.PrintMore
attribute [local go_sem] max2_int min2_int max_two min_two max_three min_three max_four min_four   -- for this text's walks alone
set_option linter.unusedVariables false
set_option linter.unusedSimpArgs false

/-! ### gimbalref02_Of: function 19 -/
def gimbalref02_Of.l0 : Nat → Int → List Int → Option (List Int)
 | 0, _, _ => none
 | k + 1, x0, x3 => if x0 > 0 then (if x3.length < 17592186044416 then (gimbalref02_Of.l0 k (IntKind.u64.wrap (Int.tdiv x0 2)) (x3 ++ [wrap64 (Int.tmod x0 2)])) else (none)) else (some x3)
def gimbalref02_Of.f (k : Nat) (a0 : Int) : Option (List Int) := gimbalref02_Of.l0 k a0 (([] : List Int))
theorem gimbalref02_Of.mono_l : ∀ k, (∀ y0 y1, LeO (gimbalref02_Of.l0 k y0 y1) (gimbalref02_Of.l0 (k + 1) y0 y1))
 | 0 => fun _ _ r h => by simp [gimbalref02_Of.l0] at h
 | k + 1 => by
  have ih0 := gimbalref02_Of.mono_l k
  ·
   intro y0 y1
   unfold gimbalref02_Of.l0
   repeat' with_reducible first | apply ih0 | exact LeO.refl _ | exact LeO.none _ | refine LeO.ite ?_ ?_ | refine LeO.bind ?_ (fun _ => ?_)
theorem gimbalref02_Of.mono : ∀ a0 k, LeO (gimbalref02_Of.f k a0) (gimbalref02_Of.f (k + 1) a0) := by
 intro a0 k
 have ih0 := gimbalref02_Of.mono_l k
 unfold gimbalref02_Of.f
 repeat' with_reducible first | apply ih0 | exact LeO.refl _ | exact LeO.none _ | refine LeO.ite ?_ ?_ | refine LeO.bind ?_ (fun _ => ?_)
set_option maxHeartbeats 8000000 in
set_option maxRecDepth 100000 in
theorem gimbalref02_Of.calls (k : Nat) (a0 : Int) (r : List Int) (w : World) (h : gimbalref02_Of.f k a0 = some r) :
  Calls Tryd.prog 19 #[.int .u64 a0] w fun e w' => ∃ v0_ : Value, e = .returned (v0_) ∧ Kd.R (Kd.int .i64) 3 w' w.heap.size (fun _ => True) v0_ r ∧ Below w.heap.size w w' := by
 have HB := Aside0.mk (Below.refl w.heap.size w)
 have H : (gimbalref02_Of.l0 k a0 (([] : List Int))) = some r := h
 clear h
 obtain ⟨y399, hy399⟩ : ∃ y_ : List Int, y_ = (([] : List Int)) := ⟨_, rfl⟩
 replace H : (gimbalref02_Of.l0 k a0 y399) = some r := by first | (rw [hy399]; with_reducible exact H) | (have H2_ := (Option.bind_some _ _).symm.trans H; rw [hy399]; with_reducible exact H2_) | (have H2_ := (Option.bind_some _ _).symm.trans H; with_reducible exact H2_) | with_reducible exact H | (rw [hy399]; exact H) | exact H
 have Ny399 := Aside0.mk hy399
 clear hy399
 have H' := Aside0.mk H
 clear H
 go_enter Tryd.func19, Tryd.ntmps19
 go_wp2_with (first | ((with_reducible refine gate_dst (N := 4) rfl ?_); refine Kd.R_lit (Kd.int .i64) _ 3 ?hg (N := 4) ?hd (xs := ([] : List Int)) (inner := []) (ok := fun _ => True) (okp := fun _ => True) ?hr ?hp (fun _ hk => hk) trivial (Below.refl _ _) (Nat.le_refl _) (by simp) ?_; (case hd => rfl); (case hg => rfl); (case hr => first | (go_simp; done) | (go_simp; rfl)); (case hp => exact (Reps.none _ _)); intro v400 w2 ho3 hb hg_ hnew_; clear hg_ hnew_; (first | rw [← Ny399.out] at ho3 | (simp only [Int.reduceToNat] at ho3; rw [← Ny399.out] at ho3)); refine ax2 (Kd.R_lower ho3 (below_size bel)) (below_step bel hb) ?_; clear HB; intro HO401 HB; clear hb ho3))
 go_loopg [0, 3] k (fun kq v0 v3 w' => ∃ (x0_1 : Int) (x3_1 : List Int), v0 = .int .u64 x0_1 ∧ Aside0 (gimbalref02_Of.l0 kq x0_1 x3_1 = some r) ∧ Aside0 (kq ≤ k) ∧ Aside0 (Kd.R (Kd.int .i64) 3 w' w.heap.size (fun _ => True) v3 x3_1) ∧ Aside0 (Below w.heap.size w w'))
 case atStart => exact ⟨(a0), (y399), (by first | rfl | (simp; done) | (simp [*]; done)), H', ⟨Nat.le_refl _⟩, ⟨kr HO401⟩, ⟨bel⟩⟩
 case round =>
  clear H'
  try clear c1
  try clear p2
  obtain ⟨x0_1, x3_1, rfl, HA, HK1, HO_3, HB⟩ := hrel
  cases gk with
  | zero => exact absurd HA.out (by simp [gimbalref02_Of.l0])
  | succ k1 =>
   have H := HA.out
   clear HA
   simp only [gimbalref02_Of.l0] at H
   by_cases c4 : x0_1 > 0
   rotate_left
   ·
    rw [if_neg c4] at H
    have c4b0 : decide (0 < x0_1) = false := decide_eq_false c4
    clear c4
    obtain rfl := Option.some.inj H
    go_wp2
    go_ret
    exact ⟨_, er, kr HO_3, bel⟩

   rw [if_pos c4] at H
   have c4b0 : decide (0 < x0_1) = true := decide_eq_true c4
   clear c4
   by_cases c5 : x3_1.length < 17592186044416
   rotate_left
   ·
    rw [if_neg c5] at H
    exact absurd H (by simp)
   rw [if_pos c5] at H
   have LMc5 := Aside0.mk c5
   clear c5
   obtain ⟨y402, hy402⟩ : ∃ y_ : List Int, y_ = (x3_1 ++ [wrap64 (Int.tmod x0_1 2)]) := ⟨_, rfl⟩
   replace H : (gimbalref02_Of.l0 k1 (IntKind.u64.wrap (Int.tdiv x0_1 2)) y402) = some r := by first | (rw [hy402]; with_reducible exact H) | (have H2_ := (Option.bind_some _ _).symm.trans H; rw [hy402]; with_reducible exact H2_) | (have H2_ := (Option.bind_some _ _).symm.trans H; with_reducible exact H2_) | with_reducible exact H | (rw [hy402]; exact H) | exact H
   have Ny402 := Aside0.mk hy402
   clear hy402
   have H' := Aside0.mk H
   clear H
   go_wp2_with (first | ((with_reducible refine gate_builtin (b := .append) (xs := #[.tmp 7, .tmp 11]) rfl ?_); at_builtin; refine Kd.R_append (Kd.int .i64) (w0 := w) w.heap.size rfl (.tmp 7) (.tmp 11) 39 3 (.int .i64 0) 8 rfl Tryd.underlying39 info3 rfl (by decide) (by omega) u3 x3_1 (wrap64 (Int.tmod x0_1 2)) [.int .i64 (wrap64 (Int.tmod x0_1 2))] (fun _ => True) (fun _ => False) rfl rfl ?aP (fun _ hk => hk.elim) ?aF ?aO ?aB ?aS ?aL ?_; (case aP => exact rfl); (case aB => exact bel); (case aF => exact (fun _ _ => trivial)); (case aO => exact (kr HO_3)); (case aS => exact (below_size bel)); (case aL => have := LMc5.out; omega); intro v403 w6 ho hb hg hat; rw [← Ny402.out] at ho; refine ax2 hb ho ?_; clear HB; clear HO_3; intro HB HO404; clear ho hb hg hat))
   go_roundg k1
   case measure => have := HK1.out; omega
   case rel => exact ⟨(IntKind.u64.wrap (Int.tdiv x0_1 2)), (y402), (by first | rfl | (simp; done) | (simp [*]; done)), H', ⟨by have := HK1.out; omega⟩, ⟨kr HO404⟩, ⟨bel⟩⟩
/-! ### gimbalref02_Trim: function 69 -/
def gimbalref02_Trim.l0 : Nat → List Int → Int → Option (List Int)
 | 0, _, _ => none
 | k + 1, x0, x3 => if x3 > 0 then (if 0 ≤ (wrap64 (x3 - 1)) then (if (wrap64 (x3 - 1)) < (x0.length : Int) then (if (rd x0 (wrap64 (x3 - 1))) = 0 then (gimbalref02_Trim.l0 k x0 (wrap64 (x3 - 1))) else ((some (([] : List Int) : List Int)).bind fun y406 => (if 0 ≤ x3 then (if x3 ≤ (x0.length : Int) then (if y406.length + (x0.take (x3 : Int).toNat).length < 17592186044416 then (some (y406 ++ (x0.take (x3 : Int).toNat))) else (none)) else (none)) else (none)))) else (none)) else (none)) else ((some (([] : List Int) : List Int)).bind fun y413 => (if 0 ≤ x3 then (if x3 ≤ (x0.length : Int) then (if y413.length + (x0.take (x3 : Int).toNat).length < 17592186044416 then (some (y413 ++ (x0.take (x3 : Int).toNat))) else (none)) else (none)) else (none)))
def gimbalref02_Trim.f (k : Nat) (l0 : List Int) : Option (List Int) := gimbalref02_Trim.l0 k l0 (l0.length : Int)
theorem gimbalref02_Trim.mono_l : ∀ k, (∀ y0 y1, LeO (gimbalref02_Trim.l0 k y0 y1) (gimbalref02_Trim.l0 (k + 1) y0 y1))
 | 0 => fun _ _ r h => by simp [gimbalref02_Trim.l0] at h
 | k + 1 => by
  have ih0 := gimbalref02_Trim.mono_l k
  ·
   intro y0 y1
   unfold gimbalref02_Trim.l0
   repeat' with_reducible first | apply ih0 | exact LeO.refl _ | exact LeO.none _ | refine LeO.ite ?_ ?_ | refine LeO.bind ?_ (fun _ => ?_)
theorem gimbalref02_Trim.mono : ∀ a0 k, LeO (gimbalref02_Trim.f k a0) (gimbalref02_Trim.f (k + 1) a0) := by
 intro a0 k
 have ih0 := gimbalref02_Trim.mono_l k
 unfold gimbalref02_Trim.f
 repeat' with_reducible first | apply ih0 | exact LeO.refl _ | exact LeO.none _ | refine LeO.ite ?_ ?_ | refine LeO.bind ?_ (fun _ => ?_)
set_option maxHeartbeats 8000000 in
set_option maxRecDepth 100000 in
theorem gimbalref02_Trim.calls (k : Nat) (A0 : Option Addr) (c0 : Nat) (l0 : List Int) (r : List Int) (w : World) (hr0 : Kd.C (Kd.int .i64) w A0 l0.length l0) (hc0 : l0.length ≤ c0) (h : gimbalref02_Trim.f k l0 = some r) :
  Calls Tryd.prog 69 #[.slice A0 l0.length c0] w fun e w' => ∃ v0_ : Value, e = .returned (v0_) ∧ Kd.R (Kd.int .i64) 3 w' w.heap.size (fun _ => True) v0_ r ∧ Below w.heap.size w w' := by
 have HR0 := Aside0.mk hr0
 have HC0 := Aside0.mk hc0
 clear hr0 hc0
 have HB := Aside0.mk (Below.refl w.heap.size w)
 have H : (gimbalref02_Trim.l0 k l0 (l0.length : Int)) = some r := h
 clear h
 have H' := Aside0.mk H
 clear H
 go_enter Tryd.func69, Tryd.ntmps69
 go_wp2
 go_loopg [3] k (fun kq v3 w' => ∃ (x3_1 : Int), v3 = .int .i64 x3_1 ∧ Aside0 (gimbalref02_Trim.l0 kq l0 x3_1 = some r) ∧ Aside0 (kq ≤ k) ∧ Aside0 (Below w.heap.size w w'))
 case atStart => exact ⟨((l0.length : Int)), (by first | rfl | (simp; done) | (simp [*]; done)), H', ⟨Nat.le_refl _⟩, ⟨bel⟩⟩
 case round =>
  clear H'
  obtain ⟨x3_1, rfl, HA, HK1, HB⟩ := hrel
  cases gk with
  | zero => exact absurd HA.out (by simp [gimbalref02_Trim.l0])
  | succ k1 =>
   have H := HA.out
   clear HA
   simp only [gimbalref02_Trim.l0] at H
   by_cases c2 : x3_1 > 0
   ·
    rw [if_pos c2] at H
    have c2b0 : decide (0 < x3_1) = true := decide_eq_true c2
    clear c2
    obtain ⟨ji3, hji3⟩ : ∃ j_ : Int, (wrap64 (x3_1 - 1)) = j_ := ⟨_, rfl⟩
    replace H : (if 0 ≤ (ji3) then (if (ji3) < (l0.length : Int) then (if (rd l0 (ji3)) = 0 then (gimbalref02_Trim.l0 k1 l0 ji3) else ((some (([] : List Int) : List Int)).bind fun y406 => (if 0 ≤ x3_1 then (if x3_1 ≤ (l0.length : Int) then (if y406.length + (l0.take (x3_1 : Int).toNat).length < 17592186044416 then (some (y406 ++ (l0.take (x3_1 : Int).toNat))) else (none)) else (none)) else (none)))) else (none)) else (none)) = some r := by first | (rw [hji3] at H; exact H) | (simp only [hji3] at H ⊢; exact H)
    have hji3w : (IntKind.i64.wrap (x3_1 - 1)) = ji3 := (i64_w _).trans hji3
    by_cases c4 : 0 ≤ (ji3)
    rotate_left
    ·
     rw [if_neg c4] at H
     exact absurd H (by simp)
    rw [if_pos c4] at H
    have c4b0 : decide (0 ≤ (ji3)) = true := decide_eq_true c4
    clear c4
    by_cases c5 : (ji3) < (l0.length : Int)
    rotate_left
    ·
     rw [if_neg c5] at H
     exact absurd H (by simp)
    rw [if_pos c5] at H
    have c5b0 : decide ((ji3) < (l0.length : Int)) = true := decide_eq_true c5
    clear c5
    by_cases c6 : (rd l0 (ji3)) = 0
    ·
     rw [if_pos c6] at H
     have c6b0 : ((rd l0 (ji3)) == 0) = true := beq_iff_eq.mpr c6
     have c6b1 : ((rd l0 (ji3)) != 0) = false := bne_eq_false_iff_eq.mpr c6
     clear c6
     have H' := Aside0.mk H
     clear H
     have p405 : 0 ≤ ((ji3) : Int) := of_decide_eq_true (by first | (with_reducible assumption) | assumption)
     have q405 : (ji3) < (l0.length : Int) := of_decide_eq_true (by first | (with_reducible assumption) | assumption)
     obtain ⟨ad405, e405, hx405_0⟩ := Kd.at_int HR0.out (ji3) p405 q405
     cases e405
     replace hx405_0 := (HB.out.cell (World.block_lt_of_cell? w _ hx405_0)).trans hx405_0
     replace p405 := eq_true p405
     replace q405 := eq_true q405
     go_wp2
     go_roundg k1
     case measure => have := HK1.out; omega
     case rel => exact ⟨(ji3), (by first | rfl | (simp; done) | (simp only [← hji3] <;> (first | rfl | simp)) | (simp [*]; done)), H', ⟨by have := HK1.out; omega⟩, ⟨bel⟩⟩
    ·
     rw [if_neg c6] at H
     have c6b0 : ((rd l0 (ji3)) == 0) = false := beq_eq_false_iff_ne.mpr c6
     have c6b1 : ((rd l0 (ji3)) != 0) = true := bne_iff_ne.mpr c6
     obtain ⟨y406, hy406⟩ : ∃ y_ : List Int, y_ = (([] : List Int)) := ⟨_, rfl⟩
     replace H : (if 0 ≤ x3_1 then (if x3_1 ≤ (l0.length : Int) then (if y406.length + (l0.take (x3_1 : Int).toNat).length < 17592186044416 then (some (y406 ++ (l0.take (x3_1 : Int).toNat))) else (none)) else (none)) else (none)) = some r := by first | (rw [hy406]; with_reducible exact H) | (have H2_ := (Option.bind_some _ _).symm.trans H; rw [hy406]; with_reducible exact H2_) | (have H2_ := (Option.bind_some _ _).symm.trans H; with_reducible exact H2_) | with_reducible exact H | (rw [hy406]; exact H) | exact H
     have Ny406 := Aside0.mk hy406
     clear hy406
     by_cases c7 : 0 ≤ x3_1
     rotate_left
     ·
      rw [if_neg c7] at H
      exact absurd H (by simp)
     rw [if_pos c7] at H
     have c7b0 := eq_true c7
     have c7b1 : decide (0 ≤ x3_1) = true := decide_eq_true c7
     clear c7
     by_cases c8 : x3_1 ≤ (l0.length : Int)
     rotate_left
     ·
      rw [if_neg c8] at H
      exact absurd H (by simp)
     rw [if_pos c8] at H
     have c8b0 := eq_true c8
     have c8b1 : decide (x3_1 ≤ (l0.length : Int)) = true := decide_eq_true c8
     clear c8
     by_cases c9 : y406.length + (l0.take (x3_1 : Int).toNat).length < 17592186044416
     rotate_left
     ·
      rw [if_neg c9] at H
      exact absurd H (by simp)
     rw [if_pos c9] at H
     have LMc9 := Aside0.mk c9
     clear c9
     obtain ⟨y410, hy410⟩ : ∃ y_ : List Int, y_ = (y406 ++ (l0.take (x3_1 : Int).toNat)) := ⟨_, rfl⟩
     replace H : (some y410) = some r := by first | (rw [hy410]; with_reducible exact H) | (have H2_ := (Option.bind_some _ _).symm.trans H; rw [hy410]; with_reducible exact H2_) | (have H2_ := (Option.bind_some _ _).symm.trans H; with_reducible exact H2_) | with_reducible exact H | (rw [hy410]; exact H) | exact H
     have Ny410 := Aside0.mk hy410
     clear hy410
     obtain rfl := Option.some.inj H
     have p405 : 0 ≤ ((ji3) : Int) := of_decide_eq_true (by first | (with_reducible assumption) | assumption)
     have q405 : (ji3) < (l0.length : Int) := of_decide_eq_true (by first | (with_reducible assumption) | assumption)
     obtain ⟨ad405, e405, hx405_0⟩ := Kd.at_int HR0.out (ji3) p405 q405
     cases e405
     replace hx405_0 := (HB.out.cell (World.block_lt_of_cell? w _ hx405_0)).trans hx405_0
     replace p405 := eq_true p405
     replace q405 := eq_true q405
     go_wp2_with (first | ((with_reducible refine gate_dst (N := 18) rfl ?_); refine Kd.R_lit (Kd.int .i64) _ 3 ?hg (N := 18) ?hd (xs := ([] : List Int)) (inner := []) (ok := fun _ => True) (okp := fun _ => True) ?hr ?hp (fun _ hk => hk) trivial (Below.refl _ _) (Nat.le_refl _) (by simp) ?_; (case hd => rfl); (case hg => rfl); (case hr => first | (go_simp; done) | (go_simp; rfl)); (case hp => exact (Reps.none _ _)); intro v407 w10 ho11 hb hg_ hnew_; clear hg_ hnew_; (first | rw [← Ny406.out] at ho11 | (simp only [Int.reduceToNat] at ho11; rw [← Ny406.out] at ho11)); refine ax2 (Kd.R_lower ho11 (below_size bel)) (below_step bel hb) ?_; clear HB; intro HO408 HB; clear hb ho11; obtain ⟨i012, hi012, _, hsz12, _⟩ := info_parts info3; obtain ⟨hcut12, hA12, hC12⟩ := print_take_of (P := Tryd.prog) (Value.int .i64) 0 39 3 .i64 Tryd.underlying39 hi012 hsz12 (some ad405) c0 l0 x3_1 (of_decide_eq_true (by first | (with_reducible assumption) | assumption)) (of_decide_eq_true (by first | (with_reducible assumption) | assumption)) HC0.out; have HR409 := Aside0.mk (Kd.C_of_reads (h1 := fun _ => rfl) (hA12 _ (Kd.reads_of_C HR0.out))); have HC409 := Aside0.mk hC12; clear hA12 hC12 hi012 hsz12) | ((with_reducible refine gate_builtin (b := .append) (xs := #[.tmp 18, .tmp 21]) rfl ?_); at_builtin; refine Kd.R_append_rows (Kd.int .i64) (w0 := w) w.heap.size rfl (.tmp 18) (.tmp 21) 39 3 (.int .i64 0) 8 rfl Tryd.underlying39 info3 rfl (by decide) (by omega) v407 y406 (l0.take (x3_1 : Int).toNat) _ _ _ (fun _ => True) (fun _ => False) rfl rfl ?aO ?aR (fun _ _ h => h) (fun _ h => h.elim) ?aF ?aB ?aS ?aL ?_; (case aR => first | (refine reads_len_ (show (l0.take (x3_1 : Int).toNat).length = x3_1.toNat from (by rw [List.length_take]; have h_ : (x3_1 : Int) ≤ (l0.length : Int) := of_decide_eq_true (by first | (with_reducible assumption) | assumption); omega)) ?_; repeat (first | exact (Kd.C_below HR409.out HB.out) | (with_reducible refine Kd.C_alloc ?_ _) | (with_reducible refine Kd.C_drewN ?_ _) | (with_reducible refine Kd.C_drew ?_))) | (repeat (first | exact (Kd.C_below HR409.out HB.out) | (with_reducible refine Kd.C_alloc ?_ _) | (with_reducible refine Kd.C_drewN ?_ _) | (with_reducible refine Kd.C_drew ?_)))); (case aB => exact bel); (case aF => exact (fun _ _ => trivial)); (case aO => exact (kr HO408)); (case aS => exact (below_size bel)); (case aL => have := LMc9.out; have hlx_ := (show (l0.take (x3_1 : Int).toNat).length = x3_1.toNat from (by rw [List.length_take]; have h_ : (x3_1 : Int) ≤ (l0.length : Int) := of_decide_eq_true (by first | (with_reducible assumption) | assumption); omega)); omega); intro v411 w13 ho hb hg hat; rw [← Ny410.out] at ho; refine ax2 hb ho ?_; clear HB; clear HO408; intro HB HO412; clear ho hb hg hat))
     go_ret
     exact ⟨_, by first | rfl | (simp [errW_none, errW_some] <;> rfl) | (simp only [← hji3]; first | rfl | (simp [errW_none, errW_some] <;> rfl)) | (simp [*, errW_none, errW_some] <;> rfl), kr HO412, bel⟩
   ·
    rw [if_neg c2] at H
    have c2b0 : decide (0 < x3_1) = false := decide_eq_false c2
    clear c2
    obtain ⟨y413, hy413⟩ : ∃ y_ : List Int, y_ = (([] : List Int)) := ⟨_, rfl⟩
    replace H : (if 0 ≤ x3_1 then (if x3_1 ≤ (l0.length : Int) then (if y413.length + (l0.take (x3_1 : Int).toNat).length < 17592186044416 then (some (y413 ++ (l0.take (x3_1 : Int).toNat))) else (none)) else (none)) else (none)) = some r := by first | (rw [hy413]; with_reducible exact H) | (have H2_ := (Option.bind_some _ _).symm.trans H; rw [hy413]; with_reducible exact H2_) | (have H2_ := (Option.bind_some _ _).symm.trans H; with_reducible exact H2_) | with_reducible exact H | (rw [hy413]; exact H) | exact H
    have Ny413 := Aside0.mk hy413
    clear hy413
    by_cases c14 : 0 ≤ x3_1
    rotate_left
    ·
     rw [if_neg c14] at H
     exact absurd H (by simp)

    rw [if_pos c14] at H
    have c14b0 := eq_true c14
    have c14b1 : decide (0 ≤ x3_1) = true := decide_eq_true c14
    clear c14
    by_cases c15 : x3_1 ≤ (l0.length : Int)
    rotate_left
    ·
     rw [if_neg c15] at H
     exact absurd H (by simp)
    rw [if_pos c15] at H
    have c15b0 := eq_true c15
    have c15b1 : decide (x3_1 ≤ (l0.length : Int)) = true := decide_eq_true c15
    clear c15
    by_cases c16 : y413.length + (l0.take (x3_1 : Int).toNat).length < 17592186044416
    rotate_left
    ·
     rw [if_neg c16] at H
     exact absurd H (by simp)
    rw [if_pos c16] at H
    have LMc16 := Aside0.mk c16
    clear c16
    obtain ⟨y417, hy417⟩ : ∃ y_ : List Int, y_ = (y413 ++ (l0.take (x3_1 : Int).toNat)) := ⟨_, rfl⟩
    replace H : (some y417) = some r := by first | (rw [hy417]; with_reducible exact H) | (have H2_ := (Option.bind_some _ _).symm.trans H; rw [hy417]; with_reducible exact H2_) | (have H2_ := (Option.bind_some _ _).symm.trans H; with_reducible exact H2_) | with_reducible exact H | (rw [hy417]; exact H) | exact H
    have Ny417 := Aside0.mk hy417
    clear hy417
    obtain rfl := Option.some.inj H
    go_wp2_with (first | ((with_reducible refine gate_dst (N := 18) rfl ?_); refine Kd.R_lit (Kd.int .i64) _ 3 ?hg (N := 18) ?hd (xs := ([] : List Int)) (inner := []) (ok := fun _ => True) (okp := fun _ => True) ?hr ?hp (fun _ hk => hk) trivial (Below.refl _ _) (Nat.le_refl _) (by simp) ?_; (case hd => rfl); (case hg => rfl); (case hr => first | (go_simp; done) | (go_simp; rfl)); (case hp => exact (Reps.none _ _)); intro v414 w17 ho18 hb hg_ hnew_; clear hg_ hnew_; (first | rw [← Ny413.out] at ho18 | (simp only [Int.reduceToNat] at ho18; rw [← Ny413.out] at ho18)); refine ax2 (Kd.R_lower ho18 (below_size bel)) (below_step bel hb) ?_; clear HB; intro HO415 HB; clear hb ho18; obtain ⟨i019, hi019, _, hsz19, _⟩ := info_parts info3; obtain ⟨hcut19, hA19, hC19⟩ := print_take_of (P := Tryd.prog) (Value.int .i64) 0 39 3 .i64 Tryd.underlying39 hi019 hsz19 A0 c0 l0 x3_1 (of_decide_eq_true (by first | (with_reducible assumption) | assumption)) (of_decide_eq_true (by first | (with_reducible assumption) | assumption)) HC0.out; have HR416 := Aside0.mk (Kd.C_of_reads (h1 := fun _ => rfl) (hA19 _ (Kd.reads_of_C HR0.out))); have HC416 := Aside0.mk hC19; clear hA19 hC19 hi019 hsz19) | ((with_reducible refine gate_builtin (b := .append) (xs := #[.tmp 18, .tmp 21]) rfl ?_); at_builtin; refine Kd.R_append_rows (Kd.int .i64) (w0 := w) w.heap.size rfl (.tmp 18) (.tmp 21) 39 3 (.int .i64 0) 8 rfl Tryd.underlying39 info3 rfl (by decide) (by omega) v414 y413 (l0.take (x3_1 : Int).toNat) _ _ _ (fun _ => True) (fun _ => False) rfl rfl ?aO ?aR (fun _ _ h => h) (fun _ h => h.elim) ?aF ?aB ?aS ?aL ?_; (case aR => first | (refine reads_len_ (show (l0.take (x3_1 : Int).toNat).length = x3_1.toNat from (by rw [List.length_take]; have h_ : (x3_1 : Int) ≤ (l0.length : Int) := of_decide_eq_true (by first | (with_reducible assumption) | assumption); omega)) ?_; repeat (first | exact (Kd.C_below HR416.out HB.out) | (with_reducible refine Kd.C_alloc ?_ _) | (with_reducible refine Kd.C_drewN ?_ _) | (with_reducible refine Kd.C_drew ?_))) | (repeat (first | exact (Kd.C_below HR416.out HB.out) | (with_reducible refine Kd.C_alloc ?_ _) | (with_reducible refine Kd.C_drewN ?_ _) | (with_reducible refine Kd.C_drew ?_)))); (case aB => exact bel); (case aF => exact (fun _ _ => trivial)); (case aO => exact (kr HO415)); (case aS => exact (below_size bel)); (case aL => have := LMc16.out; have hlx_ := (show (l0.take (x3_1 : Int).toNat).length = x3_1.toNat from (by rw [List.length_take]; have h_ : (x3_1 : Int) ≤ (l0.length : Int) := of_decide_eq_true (by first | (with_reducible assumption) | assumption); omega)); omega); intro v418 w20 ho hb hg hat; rw [← Ny417.out] at ho; refine ax2 hb ho ?_; clear HB; clear HO415; intro HB HO419; clear ho hb hg hat))
    go_ret
    exact ⟨_, er, kr HO419, bel⟩
/-! ### gimbalref02_Up: function 68 -/
def gimbalref02_Up.l0 : Nat → List Int → Int → List Int → Int → Option (List Int)
 | 0, _, _, _, _ => none
 | k + 1, x0, x1, x5, x6 => if x6 < x1 then (if x5.length < 17592186044416 then (gimbalref02_Up.l0 k x0 x1 (x5 ++ [0]) (wrap64 (x6 + 1))) else (none)) else (if x5.length + x0.length < 17592186044416 then ((gimbalref02_Trim.f k (x5 ++ x0)).bind fun t429 => (some t429)) else (none))
def gimbalref02_Up.f (k : Nat) (l0 : List Int) (a1 : Int) : Option (List Int) := gimbalref02_Up.l0 k l0 a1 (([] : List Int)) 0
theorem gimbalref02_Up.mono_l : ∀ k, (∀ y0 y1 y2 y3, LeO (gimbalref02_Up.l0 k y0 y1 y2 y3) (gimbalref02_Up.l0 (k + 1) y0 y1 y2 y3))
 | 0 => fun _ _ _ _ r h => by simp [gimbalref02_Up.l0] at h
 | k + 1 => by
  have ih0 := gimbalref02_Up.mono_l k
  ·
   intro y0 y1 y2 y3
   unfold gimbalref02_Up.l0
   repeat' with_reducible first | apply ih0 | apply gimbalref02_Trim.mono | exact LeO.refl _ | exact LeO.none _ | refine LeO.ite ?_ ?_ | refine LeO.bind ?_ (fun _ => ?_)
theorem gimbalref02_Up.mono : ∀ a0 a1 k, LeO (gimbalref02_Up.f k a0 a1) (gimbalref02_Up.f (k + 1) a0 a1) := by
 intro a0 a1 k
 have ih0 := gimbalref02_Up.mono_l k
 unfold gimbalref02_Up.f
 repeat' with_reducible first | apply ih0 | apply gimbalref02_Trim.mono | exact LeO.refl _ | exact LeO.none _ | refine LeO.ite ?_ ?_ | refine LeO.bind ?_ (fun _ => ?_)
set_option maxHeartbeats 8000000 in
set_option maxRecDepth 100000 in
theorem gimbalref02_Up.calls (k : Nat) (A0 : Option Addr) (c0 : Nat) (l0 : List Int) (a1 : Int) (r : List Int) (w : World) (hr0 : Kd.C (Kd.int .i64) w A0 l0.length l0) (hc0 : l0.length ≤ c0) (h : gimbalref02_Up.f k l0 a1 = some r) :
  Calls Tryd.prog 68 #[.slice A0 l0.length c0, .int .i64 a1] w fun e w' => ∃ v0_ : Value, e = .returned (v0_) ∧ Kd.R (Kd.int .i64) 3 w' w.heap.size (fun _ => True) v0_ r ∧ Below w.heap.size w w' := by
 have HR0 := Aside0.mk hr0
 have HC0 := Aside0.mk hc0
 clear hr0 hc0
 have HB := Aside0.mk (Below.refl w.heap.size w)
 have H : (gimbalref02_Up.l0 k l0 a1 (([] : List Int)) 0) = some r := h
 clear h
 obtain ⟨y420, hy420⟩ : ∃ y_ : List Int, y_ = (([] : List Int)) := ⟨_, rfl⟩
 replace H : (gimbalref02_Up.l0 k l0 a1 y420 0) = some r := by first | (rw [hy420]; with_reducible exact H) | (have H2_ := (Option.bind_some _ _).symm.trans H; rw [hy420]; with_reducible exact H2_) | (have H2_ := (Option.bind_some _ _).symm.trans H; with_reducible exact H2_) | with_reducible exact H | (rw [hy420]; exact H) | exact H
 have Ny420 := Aside0.mk hy420
 clear hy420
 have H' := Aside0.mk H
 clear H
 go_enter Tryd.func68, Tryd.ntmps68
 go_wp2_with (first | ((with_reducible refine gate_dst (N := 7) rfl ?_); refine Kd.R_lit (Kd.int .i64) _ 3 ?hg (N := 7) ?hd (xs := ([] : List Int)) (inner := []) (ok := fun _ => True) (okp := fun _ => True) ?hr ?hp (fun _ hk => hk) trivial (Below.refl _ _) (Nat.le_refl _) (by simp) ?_; (case hd => rfl); (case hg => rfl); (case hr => first | (go_simp; done) | (go_simp; rfl)); (case hp => exact (Reps.none _ _)); intro v421 w3 ho4 hb hg_ hnew_; clear hg_ hnew_; (first | rw [← Ny420.out] at ho4 | (simp only [Int.reduceToNat] at ho4; rw [← Ny420.out] at ho4)); refine ax2 (Kd.R_lower ho4 (below_size bel)) (below_step bel hb) ?_; clear HB; intro HO422 HB; clear hb ho4))
 go_loopg [5, 6] k (fun kq v5 v6 w' => ∃ (x5_1 : List Int) (x6_1 : Int), v6 = .int .i64 x6_1 ∧ Aside0 (gimbalref02_Up.l0 kq l0 a1 x5_1 x6_1 = some r) ∧ Aside0 (kq ≤ k) ∧ Aside0 (Kd.R (Kd.int .i64) 3 w' w.heap.size (fun _ => True) v5 x5_1) ∧ Aside0 (Below w.heap.size w w'))
 case atStart => exact ⟨(y420), (0), (by first | rfl | (simp; done) | (simp [*]; done)), H', ⟨Nat.le_refl _⟩, ⟨kr HO422⟩, ⟨bel⟩⟩
 case round =>
  clear H'
  try clear p2
  obtain ⟨x5_1, x6_1, rfl, HA, HK1, HO_5, HB⟩ := hrel
  cases gk with
  | zero => exact absurd HA.out (by simp [gimbalref02_Up.l0])
  | succ k1 =>
   have H := HA.out
   clear HA
   simp only [gimbalref02_Up.l0] at H
   by_cases c5 : x6_1 < a1
   ·
    rw [if_pos c5] at H
    have c5b0 : decide (x6_1 < a1) = true := decide_eq_true c5
    clear c5
    by_cases c6 : x5_1.length < 17592186044416
    rotate_left
    ·
     rw [if_neg c6] at H
     exact absurd H (by simp)
    rw [if_pos c6] at H
    have LMc6 := Aside0.mk c6
    clear c6
    obtain ⟨y423, hy423⟩ : ∃ y_ : List Int, y_ = (x5_1 ++ [0]) := ⟨_, rfl⟩
    replace H : (gimbalref02_Up.l0 k1 l0 a1 y423 (wrap64 (x6_1 + 1))) = some r := by first | (rw [hy423]; with_reducible exact H) | (have H2_ := (Option.bind_some _ _).symm.trans H; rw [hy423]; with_reducible exact H2_) | (have H2_ := (Option.bind_some _ _).symm.trans H; with_reducible exact H2_) | with_reducible exact H | (rw [hy423]; exact H) | exact H
    have Ny423 := Aside0.mk hy423
    clear hy423
    have H' := Aside0.mk H
    clear H
    go_wp2_with (first | ((with_reducible refine gate_builtin (b := .append) (xs := #[.tmp 13, .tmp 14]) rfl ?_); at_builtin; refine Kd.R_append (Kd.int .i64) (w0 := w) w.heap.size rfl (.tmp 13) (.tmp 14) 39 3 (.int .i64 0) 8 rfl Tryd.underlying39 info3 rfl (by decide) (by omega) u5 x5_1 0 [.int .i64 0] (fun _ => True) (fun _ => False) rfl rfl ?aP (fun _ hk => hk.elim) ?aF ?aO ?aB ?aS ?aL ?_; (case aP => exact rfl); (case aB => exact bel); (case aF => exact (fun _ _ => trivial)); (case aO => exact (kr HO_5)); (case aS => exact (below_size bel)); (case aL => have := LMc6.out; omega); intro v424 w7 ho hb hg hat; rw [← Ny423.out] at ho; refine ax2 hb ho ?_; clear HB; clear HO_5; intro HB HO425; clear ho hb hg hat))
    go_roundg k1
    case measure => have := HK1.out; omega
    case rel => exact ⟨(y423), (wrap64 (x6_1 + 1)), (by first | rfl | (simp; done) | (simp [*]; done)), H', ⟨by have := HK1.out; omega⟩, ⟨kr HO425⟩, ⟨bel⟩⟩
   ·
    rw [if_neg c5] at H
    have c5b0 : decide (x6_1 < a1) = false := decide_eq_false c5
    clear c5
    by_cases c8 : x5_1.length + l0.length < 17592186044416
    rotate_left
    ·
     rw [if_neg c8] at H
     exact absurd H (by simp)

    rw [if_pos c8] at H
    have LMc8 := Aside0.mk c8
    clear c8
    obtain ⟨y426, hy426⟩ : ∃ y_ : List Int, y_ = (x5_1 ++ l0) := ⟨_, rfl⟩
    replace H : ((gimbalref02_Trim.f k1 y426).bind fun t429 => (some t429)) = some r := by first | (rw [hy426]; with_reducible exact H) | (have H2_ := (Option.bind_some _ _).symm.trans H; rw [hy426]; with_reducible exact H2_) | (have H2_ := (Option.bind_some _ _).symm.trans H; with_reducible exact H2_) | with_reducible exact H | (rw [hy426]; exact H) | exact H
    have Ny426 := Aside0.mk hy426
    clear hy426
    obtain ⟨t429, A90, H⟩ := Option.bind_eq_some_iff.mp H
    (try dsimp -simprocs only at H)
    have A9 := Aside0.mk A90
    clear A90
    obtain rfl := Option.some.inj H
    go_wp2_with (first | ((with_reducible refine gate_builtin (b := .append) (xs := #[.tmp 16, .tmp 17]) rfl ?_); at_builtin; refine Kd.R_append_rows (Kd.int .i64) (w0 := w) w.heap.size rfl (.tmp 16) (.tmp 17) 39 3 (.int .i64 0) 8 rfl Tryd.underlying39 info3 rfl (by decide) (by omega) u5 x5_1 l0 _ _ _ (fun _ => True) (fun _ => False) rfl rfl ?aO ?aR (fun _ _ h => h) (fun _ h => h.elim) ?aF ?aB ?aS ?aL ?_; (case aR => repeat (first | exact (Kd.C_below HR0.out HB.out) | (with_reducible refine Kd.C_alloc ?_ _) | (with_reducible refine Kd.C_drewN ?_ _) | (with_reducible refine Kd.C_drew ?_))); (case aB => exact bel); (case aF => exact (fun _ _ => trivial)); (case aO => exact (kr HO_5)); (case aS => exact (below_size bel)); (case aL => have := LMc8.out; omega); intro v427 w10 ho hb hg hat; rw [← Ny426.out] at ho; refine ax2 hb ho ?_; clear HB; clear HO_5; intro HB HO428; clear ho hb hg hat; obtain ⟨Ao11, co11, eo11⟩ := Kd.R_slice HO428.out; subst eo11) | ((with_reducible refine gate_callee (f := 69) rfl ?_); refine goesL_ (some 19) rfl rfl Tryd.func69 (by kernel_rfl) rfl #[.slice Ao11 y426.length co11] rfl ga ?_; (with_reducible refine (gimbalref02_Trim.calls k1 _ _ y426 t429 _ ?side1 ?side2 A9.out).mono ?_); (case side1 => exact ks HO428); (case side2 => exact (Kd.R_reads' HO428.out).2.1); rintro e w12 ⟨v430, rfl, ho0, hb⟩; refine ⟨_, rfl, ?_⟩; refine ax3 (Kd.R_elder' (kr HO428) (Kd.R_base ho0) hb) (Kd.R_lower (Kd.R_new' ho0 (Kd.R_lt (kr HO428))) (below_size bel)) (below_step bel hb) ?_; clear HO428; clear HB; intro HO428 HO431 HB; (try clear hb); (try clear ho0)))
    go_ret
    exact ⟨_, er, by (with_reducible repeat (first | apply Kd.R_alloc | apply Kd.R_drewN | apply Kd.R_drew)); exact Kd.R_mono HO431.out (fun _ hk => trivial), bel⟩
/-! ### gimbalref02_Add: function 46 -/
mutual
def gimbalref02_Add.l0 : Nat → List Int → List Int → List Int → Int → Int → Option (List Int)
 | 0, _, _, _, _, _ => none
 | k + 1, x0, x1, x5, x6, x7 => if x7 < (x0.length : Int) then (gimbalref02_Add.j1 k x0 x1 x5 x6 x7 true) else (if x7 < (x1.length : Int) then (gimbalref02_Add.j1 k x0 x1 x5 x6 x7 true) else (gimbalref02_Add.j1 k x0 x1 x5 x6 x7 (decide (x6 > 0))))
def gimbalref02_Add.j1 : Nat → List Int → List Int → List Int → Int → Int → Bool → Option (List Int)
 | 0, _, _, _, _, _, _ => none
 | k + 1, x0, x1, x5, x6, x7, x23 => if x23 = true then (if x7 < (x0.length : Int) then (if 0 ≤ x7 then (if x7 < (x1.length : Int) then (if x5.length < 17592186044416 then (gimbalref02_Add.l0 k x0 x1 (x5 ++ [Int.tmod (wrap64 ((wrap64 (x6 + (rd x0 x7))) + (rd x1 x7))) 2]) (wrap64 (Int.tdiv (wrap64 ((wrap64 (x6 + (rd x0 x7))) + (rd x1 x7))) 2)) (wrap64 (x7 + 1))) else (none)) else (if x5.length < 17592186044416 then (gimbalref02_Add.l0 k x0 x1 (x5 ++ [Int.tmod (wrap64 (x6 + (rd x0 x7))) 2]) (wrap64 (Int.tdiv (wrap64 (x6 + (rd x0 x7))) 2)) (wrap64 (x7 + 1))) else (none))) else (none)) else (if x7 < (x1.length : Int) then (if 0 ≤ x7 then (if x5.length < 17592186044416 then (gimbalref02_Add.l0 k x0 x1 (x5 ++ [Int.tmod (wrap64 (x6 + (rd x1 x7))) 2]) (wrap64 (Int.tdiv (wrap64 (x6 + (rd x1 x7))) 2)) (wrap64 (x7 + 1))) else (none)) else (none)) else (if x5.length < 17592186044416 then (gimbalref02_Add.l0 k x0 x1 (x5 ++ [Int.tmod x6 2]) (wrap64 (Int.tdiv x6 2)) (wrap64 (x7 + 1))) else (none)))) else ((gimbalref02_Trim.f k x5).bind fun t447 => (some t447))
end
def gimbalref02_Add.f (k : Nat) (l0 : List Int) (l1 : List Int) : Option (List Int) := gimbalref02_Add.l0 k l0 l1 (([] : List Int)) 0 0
theorem gimbalref02_Add.mono_l : ∀ k, (∀ y0 y1 y2 y3 y4, LeO (gimbalref02_Add.l0 k y0 y1 y2 y3 y4) (gimbalref02_Add.l0 (k + 1) y0 y1 y2 y3 y4)) ∧ (∀ y0 y1 y2 y3 y4 y5, LeO (gimbalref02_Add.j1 k y0 y1 y2 y3 y4 y5) (gimbalref02_Add.j1 (k + 1) y0 y1 y2 y3 y4 y5))
 | 0 => ⟨fun _ _ _ _ _ r h => by simp [gimbalref02_Add.l0] at h, fun _ _ _ _ _ _ r h => by simp [gimbalref02_Add.j1] at h⟩
 | k + 1 => by
  obtain ⟨ih0, ih1⟩ := gimbalref02_Add.mono_l k
  refine ⟨?_, ?_⟩ <;> intros <;> (first | unfold gimbalref02_Add.l0 | unfold gimbalref02_Add.j1) <;>
   repeat' with_reducible first | apply ih0 | apply ih1 | apply gimbalref02_Trim.mono | exact LeO.refl _ | exact LeO.none _ | refine LeO.ite ?_ ?_ | refine LeO.bind ?_ (fun _ => ?_)
theorem gimbalref02_Add.mono : ∀ a0 a1 k, LeO (gimbalref02_Add.f k a0 a1) (gimbalref02_Add.f (k + 1) a0 a1) := by
 intro a0 a1 k
 obtain ⟨ih0, ih1⟩ := gimbalref02_Add.mono_l k
 unfold gimbalref02_Add.f
 repeat' with_reducible first | apply ih0 | apply ih1 | apply gimbalref02_Trim.mono | exact LeO.refl _ | exact LeO.none _ | refine LeO.ite ?_ ?_ | refine LeO.bind ?_ (fun _ => ?_)
set_option maxHeartbeats 8000000 in
set_option maxRecDepth 100000 in
theorem gimbalref02_Add.calls (k : Nat) (A0 : Option Addr) (c0 : Nat) (l0 : List Int) (A1 : Option Addr) (c1 : Nat) (l1 : List Int) (r : List Int) (w : World) (hr0 : Kd.C (Kd.int .i64) w A0 l0.length l0) (hc0 : l0.length ≤ c0) (hr1 : Kd.C (Kd.int .i64) w A1 l1.length l1) (hc1 : l1.length ≤ c1) (h : gimbalref02_Add.f k l0 l1 = some r) :
  Calls Tryd.prog 46 #[.slice A0 l0.length c0, .slice A1 l1.length c1] w fun e w' => ∃ v0_ : Value, e = .returned (v0_) ∧ Kd.R (Kd.int .i64) 3 w' w.heap.size (fun _ => True) v0_ r ∧ Below w.heap.size w w' := by
 have HR0 := Aside0.mk hr0
 have HC0 := Aside0.mk hc0
 clear hr0 hc0
 have HR1 := Aside0.mk hr1
 have HC1 := Aside0.mk hc1
 clear hr1 hc1
 have HB := Aside0.mk (Below.refl w.heap.size w)
 have H : (gimbalref02_Add.l0 k l0 l1 (([] : List Int)) 0 0) = some r := h
 clear h
 obtain ⟨y444, hy444⟩ : ∃ y_ : List Int, y_ = (([] : List Int)) := ⟨_, rfl⟩
 replace H : (gimbalref02_Add.l0 k l0 l1 y444 0 0) = some r := by first | (rw [hy444]; with_reducible exact H) | (have H2_ := (Option.bind_some _ _).symm.trans H; rw [hy444]; with_reducible exact H2_) | (have H2_ := (Option.bind_some _ _).symm.trans H; with_reducible exact H2_) | with_reducible exact H | (rw [hy444]; exact H) | exact H
 have Ny444 := Aside0.mk hy444
 clear hy444
 have H' := Aside0.mk H
 clear H
 go_enter Tryd.func46, Tryd.ntmps46
 go_wp2_with (first | ((with_reducible refine gate_dst (N := 9) rfl ?_); refine Kd.R_lit (Kd.int .i64) _ 3 ?hg (N := 9) ?hd (xs := ([] : List Int)) (inner := []) (ok := fun _ => True) (okp := fun _ => True) ?hr ?hp (fun _ hk => hk) trivial (Below.refl _ _) (Nat.le_refl _) (by simp) ?_; (case hd => rfl); (case hg => rfl); (case hr => first | (go_simp; done) | (go_simp; rfl)); (case hp => exact (Reps.none _ _)); intro v445 w3 ho4 hb hg_ hnew_; clear hg_ hnew_; (first | rw [← Ny444.out] at ho4 | (simp only [Int.reduceToNat] at ho4; rw [← Ny444.out] at ho4)); refine ax2 (Kd.R_lower ho4 (below_size bel)) (below_step bel hb) ?_; clear HB; intro HO446 HB; clear hb ho4))
 go_loopg [5, 6, 7] k (fun kq v5 v6 v7 w' => ∃ (x5_1 : List Int) (x6_1 : Int) (x7_1 : Int), v6 = .int .i64 x6_1 ∧ v7 = .int .i64 x7_1 ∧ Aside0 (gimbalref02_Add.l0 kq l0 l1 x5_1 x6_1 x7_1 = some r) ∧ Aside0 (kq ≤ k) ∧ Aside0 (Kd.R (Kd.int .i64) 3 w' w.heap.size (fun _ => True) v5 x5_1) ∧ Aside0 (Below w.heap.size w w'))
 case atStart => exact ⟨(y444), (0), (0), (by first | rfl | (simp; done) | (simp [*]; done)), (by first | rfl | (simp; done) | (simp [*]; done)), H', ⟨Nat.le_refl _⟩, ⟨kr HO446⟩, ⟨bel⟩⟩
 case round =>
  clear H'
  try clear c1
  try clear p2
  try clear c4
  obtain ⟨x5_1, x6_1, x7_1, rfl, rfl, HA, HK1, HO_5, HB⟩ := hrel
  cases gk with
  | zero => exact absurd HA.out (by simp [gimbalref02_Add.l0])
  | succ k1 =>
   have H := HA.out
   clear HA
   simp only [gimbalref02_Add.l0] at H
   have HC5 := Aside0.mk H
   clear H
   go_upto_region 4 with (fail)
   go_cut [23] (fun v23 wc => ∃ (kq : Nat) (x23_4 : Bool), v23 = .bool x23_4 ∧ Aside0 (gimbalref02_Add.j1 kq l0 l1 x5_1 x6_1 x7_1 x23_4 = some r) ∧ Aside0 (kq ≤ k1) ∧ Aside0 (Kd.R (Kd.int .i64) 3 wc w.heap.size (fun _ => True) u5 x5_1) ∧ Aside0 (Below w.heap.size w wc))
   case first =>
    have H := HC5.out
    clear HC5
    by_cases c6 : x7_1 < (l0.length : Int)
    ·
     rw [if_pos c6] at H
     have c6b0 : decide (x7_1 < (l0.length : Int)) = true := decide_eq_true c6
     clear c6
     (first | rw [c6b0] | (simp only [i64_w, i32_w]; rw [c6b0]) | skip)
     have H' := Aside0.mk H
     clear H
     go_wp2
     go_meet
     case rel => exact ⟨_, (true), (by first | rfl | (simp; done) | (simp [*]; done)), H', ⟨by have := HK1.out; first | omega | exact Nat.le_refl _⟩, ⟨kr HO_5⟩, ⟨bel⟩⟩
    ·
     rw [if_neg c6] at H
     have c6b0 : decide (x7_1 < (l0.length : Int)) = false := decide_eq_false c6
     clear c6
     (first | rw [c6b0] | (simp only [i64_w, i32_w]; rw [c6b0]) | skip)
     by_cases c7 : x7_1 < (l1.length : Int)
     rotate_left
     ·
      rw [if_neg c7] at H
      have c7b0 : decide (x7_1 < (l1.length : Int)) = false := decide_eq_false c7
      clear c7
      have H' := Aside0.mk H
      clear H
      go_wp2
      go_meet
      case rel => exact ⟨_, (decide (x6_1 > 0)), (by first | rfl | (simp; done) | (simp [*]; done)), H', ⟨by have := HK1.out; first | omega | exact Nat.le_refl _⟩, ⟨kr HO_5⟩, ⟨bel⟩⟩
     rw [if_pos c7] at H
     have c7b0 : decide (x7_1 < (l1.length : Int)) = true := decide_eq_true c7
     clear c7
     have H' := Aside0.mk H
     clear H
     go_wp2
     go_meet
     case rel => exact ⟨_, (true), (by first | rfl | (simp; done) | (simp [*]; done)), H', ⟨by have := HK1.out; first | omega | exact Nat.le_refl _⟩, ⟨kr HO_5⟩, ⟨bel⟩⟩
   case rest =>
    clear HC5
    try clear c1
    try clear p2
    try clear c4
    try clear c6
    try clear c6b0
    try clear c7
    try clear c7b0
    try clear p2
    obtain ⟨kq, x23_4, rfl, HA, HJ4, HO_5, HB⟩ := hcut
    cases kq with
    | zero => exact absurd HA.out (by simp [gimbalref02_Add.j1])
    | succ kj4 =>
     have H := HA.out
     clear HA
     simp only [gimbalref02_Add.j1] at H
     by_cases c8 : x23_4 = true
     ·
      subst c8
      rw [if_pos rfl] at H
      by_cases c9 : x7_1 < (l0.length : Int)
      ·
       rw [if_pos c9] at H
       have c9b0 : decide (x7_1 < (l0.length : Int)) = true := decide_eq_true c9
       clear c9
       by_cases c10 : 0 ≤ x7_1
       rotate_left
       ·
        rw [if_neg c10] at H
        exact absurd H (by simp)
       rw [if_pos c10] at H
       have c10b0 : decide (0 ≤ x7_1) = true := decide_eq_true c10
       clear c10
       by_cases c11 : x7_1 < (l1.length : Int)
       ·
        rw [if_pos c11] at H
        have c11b0 : decide (x7_1 < (l1.length : Int)) = true := decide_eq_true c11
        clear c11
        by_cases c12 : x5_1.length < 17592186044416
        rotate_left
        ·
         rw [if_neg c12] at H
         exact absurd H (by simp)
        rw [if_pos c12] at H
        have LMc12 := Aside0.mk c12
        clear c12
        obtain ⟨y452, hy452⟩ : ∃ y_ : List Int, y_ = (x5_1 ++ [Int.tmod (wrap64 ((wrap64 (x6_1 + (rd l0 x7_1))) + (rd l1 x7_1))) 2]) := ⟨_, rfl⟩
        replace H : (gimbalref02_Add.l0 kj4 l0 l1 y452 (wrap64 (Int.tdiv (wrap64 ((wrap64 (x6_1 + (rd l0 x7_1))) + (rd l1 x7_1))) 2)) (wrap64 (x7_1 + 1))) = some r := by first | (rw [hy452]; with_reducible exact H) | (have H2_ := (Option.bind_some _ _).symm.trans H; rw [hy452]; with_reducible exact H2_) | (have H2_ := (Option.bind_some _ _).symm.trans H; with_reducible exact H2_) | with_reducible exact H | (rw [hy452]; exact H) | exact H
        have Ny452 := Aside0.mk hy452
        clear hy452
        have H' := Aside0.mk H
        clear H
        have p450 : 0 ≤ (x7_1 : Int) := of_decide_eq_true (by first | (with_reducible assumption) | assumption)
        have q450 : x7_1 < (l0.length : Int) := of_decide_eq_true (by first | (with_reducible assumption) | assumption)
        obtain ⟨ad450, e450, hx450_0⟩ := Kd.at_int HR0.out x7_1 p450 q450
        cases e450
        replace hx450_0 := (HB.out.cell (World.block_lt_of_cell? w _ hx450_0)).trans hx450_0
        replace p450 := eq_true p450
        replace q450 := eq_true q450
        have p451 : 0 ≤ (x7_1 : Int) := of_decide_eq_true (by first | (with_reducible assumption) | assumption)
        have q451 : x7_1 < (l1.length : Int) := of_decide_eq_true (by first | (with_reducible assumption) | assumption)
        obtain ⟨ad451, e451, hx451_0⟩ := Kd.at_int HR1.out x7_1 p451 q451
        cases e451
        replace hx451_0 := (HB.out.cell (World.block_lt_of_cell? w _ hx451_0)).trans hx451_0
        replace p451 := eq_true p451
        replace q451 := eq_true q451
        go_wp2_with (first | ((with_reducible refine gate_builtin (b := .append) (xs := #[.tmp 47, .tmp 50]) rfl ?_); at_builtin; refine Kd.R_append (Kd.int .i64) (w0 := w) w.heap.size rfl (.tmp 47) (.tmp 50) 39 3 (.int .i64 0) 8 rfl Tryd.underlying39 info3 rfl (by decide) (by omega) u5 x5_1 (Int.tmod (wrap64 ((wrap64 (x6_1 + (rd l0 x7_1))) + (rd l1 x7_1))) 2) [.int .i64 (Int.tmod (wrap64 ((wrap64 (x6_1 + (rd l0 x7_1))) + (rd l1 x7_1))) 2)] (fun _ => True) (fun _ => False) rfl rfl ?aP (fun _ hk => hk.elim) ?aF ?aO ?aB ?aS ?aL ?_; (case aP => exact rfl); (case aB => exact bel); (case aF => exact (fun _ _ => trivial)); (case aO => exact (kr HO_5)); (case aS => exact (below_size bel)); (case aL => have := LMc12.out; omega); intro v453 w13 ho hb hg hat; rw [← Ny452.out] at ho; refine ax2 hb ho ?_; clear HB; clear HO_5; intro HB HO454; clear ho hb hg hat))
        go_roundg kj4
        case measure => have := HK1.out; have := HJ4.out; omega
        case rel => exact ⟨(y452), (wrap64 (Int.tdiv (wrap64 ((wrap64 (x6_1 + (rd l0 x7_1))) + (rd l1 x7_1))) 2)), (wrap64 (x7_1 + 1)), (by first | rfl | (simp; done) | (simp [*]; done)), (by first | rfl | (simp; done) | (simp [*]; done)), H', ⟨by have := HK1.out; have := HJ4.out; omega⟩, ⟨kr HO454⟩, ⟨bel⟩⟩
       ·
        rw [if_neg c11] at H
        have c11b0 : decide (x7_1 < (l1.length : Int)) = false := decide_eq_false c11
        clear c11
        by_cases c14 : x5_1.length < 17592186044416
        rotate_left
        ·
         rw [if_neg c14] at H
         exact absurd H (by simp)
        rw [if_pos c14] at H
        have LMc14 := Aside0.mk c14
        clear c14
        obtain ⟨y455, hy455⟩ : ∃ y_ : List Int, y_ = (x5_1 ++ [Int.tmod (wrap64 (x6_1 + (rd l0 x7_1))) 2]) := ⟨_, rfl⟩
        replace H : (gimbalref02_Add.l0 kj4 l0 l1 y455 (wrap64 (Int.tdiv (wrap64 (x6_1 + (rd l0 x7_1))) 2)) (wrap64 (x7_1 + 1))) = some r := by first | (rw [hy455]; with_reducible exact H) | (have H2_ := (Option.bind_some _ _).symm.trans H; rw [hy455]; with_reducible exact H2_) | (have H2_ := (Option.bind_some _ _).symm.trans H; with_reducible exact H2_) | with_reducible exact H | (rw [hy455]; exact H) | exact H
        have Ny455 := Aside0.mk hy455
        clear hy455
        have H' := Aside0.mk H
        clear H
        have p450 : 0 ≤ (x7_1 : Int) := of_decide_eq_true (by first | (with_reducible assumption) | assumption)
        have q450 : x7_1 < (l0.length : Int) := of_decide_eq_true (by first | (with_reducible assumption) | assumption)
        obtain ⟨ad450, e450, hx450_0⟩ := Kd.at_int HR0.out x7_1 p450 q450
        cases e450
        replace hx450_0 := (HB.out.cell (World.block_lt_of_cell? w _ hx450_0)).trans hx450_0
        replace p450 := eq_true p450
        replace q450 := eq_true q450
        go_wp2_with (first | ((with_reducible refine gate_builtin (b := .append) (xs := #[.tmp 47, .tmp 50]) rfl ?_); at_builtin; refine Kd.R_append (Kd.int .i64) (w0 := w) w.heap.size rfl (.tmp 47) (.tmp 50) 39 3 (.int .i64 0) 8 rfl Tryd.underlying39 info3 rfl (by decide) (by omega) u5 x5_1 (Int.tmod (wrap64 (x6_1 + (rd l0 x7_1))) 2) [.int .i64 (Int.tmod (wrap64 (x6_1 + (rd l0 x7_1))) 2)] (fun _ => True) (fun _ => False) rfl rfl ?aP (fun _ hk => hk.elim) ?aF ?aO ?aB ?aS ?aL ?_; (case aP => exact rfl); (case aB => exact bel); (case aF => exact (fun _ _ => trivial)); (case aO => exact (kr HO_5)); (case aS => exact (below_size bel)); (case aL => have := LMc14.out; omega); intro v456 w15 ho hb hg hat; rw [← Ny455.out] at ho; refine ax2 hb ho ?_; clear HB; clear HO_5; intro HB HO457; clear ho hb hg hat))
        go_roundg kj4
        case measure => have := HK1.out; have := HJ4.out; omega
        case rel => exact ⟨(y455), (wrap64 (Int.tdiv (wrap64 (x6_1 + (rd l0 x7_1))) 2)), (wrap64 (x7_1 + 1)), (by first | rfl | (simp; done) | (simp [*]; done)), (by first | rfl | (simp; done) | (simp [*]; done)), H', ⟨by have := HK1.out; have := HJ4.out; omega⟩, ⟨kr HO457⟩, ⟨bel⟩⟩
      ·
       rw [if_neg c9] at H
       have c9b0 : decide (x7_1 < (l0.length : Int)) = false := decide_eq_false c9
       clear c9
       by_cases c16 : x7_1 < (l1.length : Int)
       ·
        rw [if_pos c16] at H
        have c16b0 : decide (x7_1 < (l1.length : Int)) = true := decide_eq_true c16
        clear c16
        by_cases c17 : 0 ≤ x7_1
        rotate_left
        ·
         rw [if_neg c17] at H
         exact absurd H (by simp)
        rw [if_pos c17] at H
        have c17b0 : decide (0 ≤ x7_1) = true := decide_eq_true c17
        clear c17
        by_cases c18 : x5_1.length < 17592186044416
        rotate_left
        ·
         rw [if_neg c18] at H
         exact absurd H (by simp)
        rw [if_pos c18] at H
        have LMc18 := Aside0.mk c18
        clear c18
        obtain ⟨y459, hy459⟩ : ∃ y_ : List Int, y_ = (x5_1 ++ [Int.tmod (wrap64 (x6_1 + (rd l1 x7_1))) 2]) := ⟨_, rfl⟩
        replace H : (gimbalref02_Add.l0 kj4 l0 l1 y459 (wrap64 (Int.tdiv (wrap64 (x6_1 + (rd l1 x7_1))) 2)) (wrap64 (x7_1 + 1))) = some r := by first | (rw [hy459]; with_reducible exact H) | (have H2_ := (Option.bind_some _ _).symm.trans H; rw [hy459]; with_reducible exact H2_) | (have H2_ := (Option.bind_some _ _).symm.trans H; with_reducible exact H2_) | with_reducible exact H | (rw [hy459]; exact H) | exact H
        have Ny459 := Aside0.mk hy459
        clear hy459
        have H' := Aside0.mk H
        clear H
        have p458 : 0 ≤ (x7_1 : Int) := of_decide_eq_true (by first | (with_reducible assumption) | assumption)
        have q458 : x7_1 < (l1.length : Int) := of_decide_eq_true (by first | (with_reducible assumption) | assumption)
        obtain ⟨ad458, e458, hx458_0⟩ := Kd.at_int HR1.out x7_1 p458 q458
        cases e458
        replace hx458_0 := (HB.out.cell (World.block_lt_of_cell? w _ hx458_0)).trans hx458_0
        replace p458 := eq_true p458
        replace q458 := eq_true q458
        go_wp2_with (first | ((with_reducible refine gate_builtin (b := .append) (xs := #[.tmp 47, .tmp 50]) rfl ?_); at_builtin; refine Kd.R_append (Kd.int .i64) (w0 := w) w.heap.size rfl (.tmp 47) (.tmp 50) 39 3 (.int .i64 0) 8 rfl Tryd.underlying39 info3 rfl (by decide) (by omega) u5 x5_1 (Int.tmod (wrap64 (x6_1 + (rd l1 x7_1))) 2) [.int .i64 (Int.tmod (wrap64 (x6_1 + (rd l1 x7_1))) 2)] (fun _ => True) (fun _ => False) rfl rfl ?aP (fun _ hk => hk.elim) ?aF ?aO ?aB ?aS ?aL ?_; (case aP => exact rfl); (case aB => exact bel); (case aF => exact (fun _ _ => trivial)); (case aO => exact (kr HO_5)); (case aS => exact (below_size bel)); (case aL => have := LMc18.out; omega); intro v460 w19 ho hb hg hat; rw [← Ny459.out] at ho; refine ax2 hb ho ?_; clear HB; clear HO_5; intro HB HO461; clear ho hb hg hat))
        go_roundg kj4
        case measure => have := HK1.out; have := HJ4.out; omega
        case rel => exact ⟨(y459), (wrap64 (Int.tdiv (wrap64 (x6_1 + (rd l1 x7_1))) 2)), (wrap64 (x7_1 + 1)), (by first | rfl | (simp; done) | (simp [*]; done)), (by first | rfl | (simp; done) | (simp [*]; done)), H', ⟨by have := HK1.out; have := HJ4.out; omega⟩, ⟨kr HO461⟩, ⟨bel⟩⟩
       ·
        rw [if_neg c16] at H
        have c16b0 : decide (x7_1 < (l1.length : Int)) = false := decide_eq_false c16
        clear c16
        by_cases c20 : x5_1.length < 17592186044416
        rotate_left
        ·
         rw [if_neg c20] at H
         exact absurd H (by simp)
        rw [if_pos c20] at H
        have LMc20 := Aside0.mk c20
        clear c20
        obtain ⟨y462, hy462⟩ : ∃ y_ : List Int, y_ = (x5_1 ++ [Int.tmod x6_1 2]) := ⟨_, rfl⟩
        replace H : (gimbalref02_Add.l0 kj4 l0 l1 y462 (wrap64 (Int.tdiv x6_1 2)) (wrap64 (x7_1 + 1))) = some r := by first | (rw [hy462]; with_reducible exact H) | (have H2_ := (Option.bind_some _ _).symm.trans H; rw [hy462]; with_reducible exact H2_) | (have H2_ := (Option.bind_some _ _).symm.trans H; with_reducible exact H2_) | with_reducible exact H | (rw [hy462]; exact H) | exact H
        have Ny462 := Aside0.mk hy462
        clear hy462
        have H' := Aside0.mk H
        clear H
        go_wp2_with (first | ((with_reducible refine gate_builtin (b := .append) (xs := #[.tmp 47, .tmp 50]) rfl ?_); at_builtin; refine Kd.R_append (Kd.int .i64) (w0 := w) w.heap.size rfl (.tmp 47) (.tmp 50) 39 3 (.int .i64 0) 8 rfl Tryd.underlying39 info3 rfl (by decide) (by omega) u5 x5_1 (Int.tmod x6_1 2) [.int .i64 (Int.tmod x6_1 2)] (fun _ => True) (fun _ => False) rfl rfl ?aP (fun _ hk => hk.elim) ?aF ?aO ?aB ?aS ?aL ?_; (case aP => exact rfl); (case aB => exact bel); (case aF => exact (fun _ _ => trivial)); (case aO => exact (kr HO_5)); (case aS => exact (below_size bel)); (case aL => have := LMc20.out; omega); intro v463 w21 ho hb hg hat; rw [← Ny462.out] at ho; refine ax2 hb ho ?_; clear HB; clear HO_5; intro HB HO464; clear ho hb hg hat))
        go_roundg kj4
        case measure => have := HK1.out; have := HJ4.out; omega
        case rel => exact ⟨(y462), (wrap64 (Int.tdiv x6_1 2)), (wrap64 (x7_1 + 1)), (by first | rfl | (simp; done) | (simp [*]; done)), (by first | rfl | (simp; done) | (simp [*]; done)), H', ⟨by have := HK1.out; have := HJ4.out; omega⟩, ⟨kr HO464⟩, ⟨bel⟩⟩
     ·
      replace c8 := Bool.eq_false_iff.mpr c8
      subst c8
      rw [if_neg (show ¬ (false = true) by decide)] at H
      obtain ⟨t447, A220, H⟩ := Option.bind_eq_some_iff.mp H
      (try dsimp -simprocs only at H)
      have A22 := Aside0.mk A220
      clear A220
      obtain rfl := Option.some.inj H
      obtain ⟨Ao23, co23, eo23⟩ := Kd.R_slice HO_5.out
      subst eo23
      go_wp2_with (first | ((with_reducible refine gate_callee (f := 69) rfl ?_); refine goesL_ (some 55) rfl rfl Tryd.func69 (by kernel_rfl) rfl #[.slice Ao23 x5_1.length co23] rfl ga ?_; (with_reducible refine (gimbalref02_Trim.calls kj4 _ _ x5_1 t447 _ ?side1 ?side2 A22.out).mono ?_); (case side1 => exact ks HO_5); (case side2 => exact (Kd.R_reads' HO_5.out).2.1); rintro e w24 ⟨v448, rfl, ho0, hb⟩; refine ⟨_, rfl, ?_⟩; refine ax3 (Kd.R_elder' (kr HO_5) (Kd.R_base ho0) hb) (Kd.R_lower (Kd.R_new' ho0 (Kd.R_lt (kr HO_5))) (below_size bel)) (below_step bel hb) ?_; clear HO_5; clear HB; intro HO_5 HO449 HB; (try clear hb); (try clear ho0)))
      go_ret
      exact ⟨_, er, by (with_reducible repeat (first | apply Kd.R_alloc | apply Kd.R_drewN | apply Kd.R_drew)); exact Kd.R_mono HO449.out (fun _ hk => trivial), bel⟩

/-! ### gimbalref02_Cmp: function 47 -/
def gimbalref02_Cmp.l0 : Nat → List Int → List Int → Int → Option (Int)
 | 0, _, _, _ => none
 | k + 1, x0, x1, x5 => if x5 ≥ 0 then (if 0 ≤ x5 then (if x5 < (x0.length : Int) then (if x5 < (x1.length : Int) then (if (rd x0 x5) = (rd x1 x5) then (gimbalref02_Cmp.l0 k x0 x1 (wrap64 (x5 - 1))) else (if (rd x0 x5) < (rd x1 x5) then (some (-1)) else (some 1))) else (none)) else (none)) else (none)) else (some 0)
def gimbalref02_Cmp.f (k : Nat) (l0 : List Int) (l1 : List Int) : Option (Int) := (gimbalref02_Trim.f k l0).bind fun t465 => ((gimbalref02_Trim.f k l1).bind fun t468 => (if (t465.length : Int) = (t468.length : Int) then (gimbalref02_Cmp.l0 k t465 t468 (wrap64 ((t465.length : Int) - 1))) else (if (t465.length : Int) < (t468.length : Int) then (some (-1)) else (some 1))))
theorem gimbalref02_Cmp.mono_l : ∀ k, (∀ y0 y1 y2, LeO (gimbalref02_Cmp.l0 k y0 y1 y2) (gimbalref02_Cmp.l0 (k + 1) y0 y1 y2))
 | 0 => fun _ _ _ r h => by simp [gimbalref02_Cmp.l0] at h
 | k + 1 => by
  have ih0 := gimbalref02_Cmp.mono_l k
  ·
   intro y0 y1 y2
   unfold gimbalref02_Cmp.l0
   repeat' with_reducible first | apply ih0 | apply gimbalref02_Trim.mono | exact LeO.refl _ | exact LeO.none _ | refine LeO.ite ?_ ?_ | refine LeO.bind ?_ (fun _ => ?_)
theorem gimbalref02_Cmp.mono : ∀ a0 a1 k, LeO (gimbalref02_Cmp.f k a0 a1) (gimbalref02_Cmp.f (k + 1) a0 a1) := by
 intro a0 a1 k
 have ih0 := gimbalref02_Cmp.mono_l k
 unfold gimbalref02_Cmp.f
 repeat' with_reducible first | apply ih0 | apply gimbalref02_Trim.mono | exact LeO.refl _ | exact LeO.none _ | refine LeO.ite ?_ ?_ | refine LeO.bind ?_ (fun _ => ?_)
set_option maxHeartbeats 8000000 in
set_option maxRecDepth 100000 in
theorem gimbalref02_Cmp.calls (k : Nat) (A0 : Option Addr) (c0 : Nat) (l0 : List Int) (A1 : Option Addr) (c1 : Nat) (l1 : List Int) (r : Int) (w : World) (hr0 : Kd.C (Kd.int .i64) w A0 l0.length l0) (hc0 : l0.length ≤ c0) (hr1 : Kd.C (Kd.int .i64) w A1 l1.length l1) (hc1 : l1.length ≤ c1) (h : gimbalref02_Cmp.f k l0 l1 = some r) :
  Calls Tryd.prog 47 #[.slice A0 l0.length c0, .slice A1 l1.length c1] w fun e w' => e = .returned (.int .i64 r) ∧ Below w.heap.size w w' := by
 have HR0 := Aside0.mk hr0
 have HC0 := Aside0.mk hc0
 clear hr0 hc0
 have HR1 := Aside0.mk hr1
 have HC1 := Aside0.mk hc1
 clear hr1 hc1
 have HB := Aside0.mk (Below.refl w.heap.size w)
 have H : ((gimbalref02_Trim.f k l0).bind fun t465 => ((gimbalref02_Trim.f k l1).bind fun t468 => (if (t465.length : Int) = (t468.length : Int) then (gimbalref02_Cmp.l0 k t465 t468 (wrap64 ((t465.length : Int) - 1))) else (if (t465.length : Int) < (t468.length : Int) then (some (-1)) else (some 1))))) = some r := h
 clear h
 obtain ⟨t465, A30, H⟩ := Option.bind_eq_some_iff.mp H
 (try dsimp -simprocs only at H)
 have A3 := Aside0.mk A30
 clear A30
 obtain ⟨t468, A40, H⟩ := Option.bind_eq_some_iff.mp H
 (try dsimp -simprocs only at H)
 have A4 := Aside0.mk A40
 clear A40
 by_cases c5 : (t465.length : Int) = (t468.length : Int)
 ·
  rw [if_pos c5] at H
  have c5b0 : ((t465.length : Int) == (t468.length : Int)) = true := beq_iff_eq.mpr c5
  have c5b1 : ((t465.length : Int) != (t468.length : Int)) = false := bne_eq_false_iff_eq.mpr c5
  have c5b2 : (t465.length == t468.length) = true := by first | simpa using c5 | (simp at c5 ⊢; omega)
  clear c5
  have H' := Aside0.mk H
  clear H
  go_enter Tryd.func47, Tryd.ntmps47
  go_wp2_with (first | (go_at_call 69; (with_reducible refine (gimbalref02_Trim.calls k _ _ l0 t465 _ ?side1 ?side2 A3.out).mono ?_); (case side1 => repeat (first | exact HR0.out | (with_reducible refine Kd.C_alloc ?_ _) | (with_reducible refine Kd.C_drewN ?_ _) | (with_reducible refine Kd.C_drew ?_))); (case side2 => exact HC0.out); rintro e w6 ⟨v466, rfl, ho0, hb⟩; refine ax2 (Kd.R_lower ho0 (below_size bel)) (below_step bel hb) ?_; clear HB; intro HO467 HB; (try clear hb); (try clear ho0)) | (go_at_call 69; (with_reducible refine (gimbalref02_Trim.calls k _ _ l1 t468 _ ?side1 ?side2 A4.out).mono ?_); (case side1 => repeat (first | exact (Kd.C_below HR1.out HB.out) | (with_reducible refine Kd.C_alloc ?_ _) | (with_reducible refine Kd.C_drewN ?_ _) | (with_reducible refine Kd.C_drew ?_))); (case side2 => exact HC1.out); rintro e w7 ⟨v469, rfl, ho0, hb⟩; refine ax3 (Kd.R_elder' (kr HO467) (Kd.R_base ho0) hb) (Kd.R_lower (Kd.R_new' ho0 (Kd.R_lt (kr HO467))) (below_size bel)) (below_step bel hb) ?_; clear HO467; clear HB; intro HO467 HO470 HB; (try clear hb); (try clear ho0); obtain ⟨Ao8, co8, eo8⟩ := Kd.R_slice HO467.out; subst eo8; obtain ⟨Ao9, co9, eo9⟩ := Kd.R_slice HO470.out; subst eo9))
  repeat (go_quiet (first | (go_at_call 69; (with_reducible refine (gimbalref02_Trim.calls k _ _ l0 t465 _ ?side1 ?side2 A3.out).mono ?_); (case side1 => repeat (first | exact HR0.out | (with_reducible refine Kd.C_alloc ?_ _) | (with_reducible refine Kd.C_drewN ?_ _) | (with_reducible refine Kd.C_drew ?_))); (case side2 => exact HC0.out); rintro e w6 ⟨v466, rfl, ho0, hb⟩; refine ax2 (Kd.R_lower ho0 (below_size bel)) (below_step bel hb) ?_; clear HB; intro HO467 HB; (try clear hb); (try clear ho0)) | (go_at_call 69; (with_reducible refine (gimbalref02_Trim.calls k _ _ l1 t468 _ ?side1 ?side2 A4.out).mono ?_); (case side1 => repeat (first | exact (Kd.C_below HR1.out HB.out) | (with_reducible refine Kd.C_alloc ?_ _) | (with_reducible refine Kd.C_drewN ?_ _) | (with_reducible refine Kd.C_drew ?_))); (case side2 => exact HC1.out); rintro e w7 ⟨v469, rfl, ho0, hb⟩; refine ax3 (Kd.R_elder' (kr HO467) (Kd.R_base ho0) hb) (Kd.R_lower (Kd.R_new' ho0 (Kd.R_lt (kr HO467))) (below_size bel)) (below_step bel hb) ?_; clear HO467; clear HB; intro HO467 HO470 HB; (try clear hb); (try clear ho0); obtain ⟨Ao8, co8, eo8⟩ := Kd.R_slice HO467.out; subst eo8; obtain ⟨Ao9, co9, eo9⟩ := Kd.R_slice HO470.out; subst eo9)); try go_wp2_with (first | (go_at_call 69; (with_reducible refine (gimbalref02_Trim.calls k _ _ l0 t465 _ ?side1 ?side2 A3.out).mono ?_); (case side1 => repeat (first | exact HR0.out | (with_reducible refine Kd.C_alloc ?_ _) | (with_reducible refine Kd.C_drewN ?_ _) | (with_reducible refine Kd.C_drew ?_))); (case side2 => exact HC0.out); rintro e w6 ⟨v466, rfl, ho0, hb⟩; refine ax2 (Kd.R_lower ho0 (below_size bel)) (below_step bel hb) ?_; clear HB; intro HO467 HB; (try clear hb); (try clear ho0)) | (go_at_call 69; (with_reducible refine (gimbalref02_Trim.calls k _ _ l1 t468 _ ?side1 ?side2 A4.out).mono ?_); (case side1 => repeat (first | exact (Kd.C_below HR1.out HB.out) | (with_reducible refine Kd.C_alloc ?_ _) | (with_reducible refine Kd.C_drewN ?_ _) | (with_reducible refine Kd.C_drew ?_))); (case side2 => exact HC1.out); rintro e w7 ⟨v469, rfl, ho0, hb⟩; refine ax3 (Kd.R_elder' (kr HO467) (Kd.R_base ho0) hb) (Kd.R_lower (Kd.R_new' ho0 (Kd.R_lt (kr HO467))) (below_size bel)) (below_step bel hb) ?_; clear HO467; clear HB; intro HO467 HO470 HB; (try clear hb); (try clear ho0); obtain ⟨Ao8, co8, eo8⟩ := Kd.R_slice HO467.out; subst eo8; obtain ⟨Ao9, co9, eo9⟩ := Kd.R_slice HO470.out; subst eo9)))
  go_loopg [5] k (fun kq v5 w' => ∃ (x5_1 : Int), v5 = .int .i64 x5_1 ∧ Aside0 (gimbalref02_Cmp.l0 kq t465 t468 x5_1 = some r) ∧ Aside0 (kq ≤ k) ∧ Aside0 (Kd.R (Kd.int .i64) 3 w' w.heap.size (fun k_ => some k_ ≠ ((.slice Ao9 t468.length co9) : Value).ownBlock) (.slice Ao8 t465.length co8) t465) ∧ Aside0 (Kd.R (Kd.int .i64) 3 w' w.heap.size (fun k_ => some k_ ≠ ((.slice Ao8 t465.length co8) : Value).ownBlock) (.slice Ao9 t468.length co9) t468) ∧ Aside0 (Below w.heap.size w w'))
  case atStart => exact ⟨(wrap64 ((t465.length : Int) - 1)), (by first | rfl | (simp; done) | (simp [*]; done)), H', ⟨Nat.le_refl _⟩, ⟨by (with_reducible repeat (first | apply Kd.R_alloc | apply Kd.R_drewN | apply Kd.R_drew)); exact Kd.R_mono HO467.out (fun _ hk => hk.2)⟩, ⟨by (with_reducible repeat (first | apply Kd.R_alloc | apply Kd.R_drewN | apply Kd.R_drew)); exact Kd.R_mono HO470.out (fun _ hk => hk.2)⟩, ⟨bel⟩⟩
  case round =>
   clear H'
   try clear c1
   try clear p2
   try clear c4
   try clear c5
   try clear c5b0
   try clear c5b1
   try clear c5b2
   try clear p6
   obtain ⟨x5_1, rfl, HA, HK1, HO_0, HO_1, HB⟩ := hrel
   cases gk with
   | zero => exact absurd HA.out (by simp [gimbalref02_Cmp.l0])
   | succ k1 =>
    have H := HA.out
    clear HA
    simp only [gimbalref02_Cmp.l0] at H
    by_cases c10 : x5_1 ≥ 0
    rotate_left
    ·
     rw [if_neg c10] at H
     have c10b0 : decide (0 ≤ x5_1) = false := decide_eq_false c10
     clear c10
     obtain rfl := Option.some.inj H
     go_wp2
     repeat (go_quiet (fail); try go_wp2)
     go_ret
     exact ⟨er, bel⟩
    rw [if_pos c10] at H
    have c10b0 : decide (0 ≤ x5_1) = true := decide_eq_true c10
    clear c10
    by_cases c11 : 0 ≤ x5_1
    rotate_left
    ·
     rw [if_neg c11] at H
     exact absurd H (by simp)
    rw [if_pos c11] at H
    have c11b0 : decide (0 ≤ x5_1) = true := decide_eq_true c11
    clear c11
    by_cases c12 : x5_1 < (t465.length : Int)
    rotate_left
    ·
     rw [if_neg c12] at H
     exact absurd H (by simp)
    rw [if_pos c12] at H
    have c12b0 : decide (x5_1 < (t465.length : Int)) = true := decide_eq_true c12
    clear c12
    by_cases c13 : x5_1 < (t468.length : Int)
    rotate_left
    ·
     rw [if_neg c13] at H
     exact absurd H (by simp)
    rw [if_pos c13] at H
    have c13b0 : decide (x5_1 < (t468.length : Int)) = true := decide_eq_true c13
    clear c13
    by_cases c14 : (rd t465 x5_1) = (rd t468 x5_1)
    ·
     rw [if_pos c14] at H
     have c14b0 : ((rd t465 x5_1) == (rd t468 x5_1)) = true := beq_iff_eq.mpr c14
     have c14b1 : ((rd t465 x5_1) != (rd t468 x5_1)) = false := bne_eq_false_iff_eq.mpr c14
     clear c14
     have H' := Aside0.mk H
     clear H
     have p471 : 0 ≤ (x5_1 : Int) := of_decide_eq_true (by first | (with_reducible assumption) | assumption)
     have q471 : x5_1 < (t465.length : Int) := of_decide_eq_true (by first | (with_reducible assumption) | assumption)
     obtain ⟨ad471, e471, hx471_0⟩ := Kd.at_int (Kd.R_reads' HO_0.out).2.2 x5_1 p471 q471
     cases e471
     replace p471 := eq_true p471
     replace q471 := eq_true q471
     have p472 : 0 ≤ (x5_1 : Int) := of_decide_eq_true (by first | (with_reducible assumption) | assumption)
     have q472 : x5_1 < (t468.length : Int) := of_decide_eq_true (by first | (with_reducible assumption) | assumption)
     obtain ⟨ad472, e472, hx472_0⟩ := Kd.at_int (Kd.R_reads' HO_1.out).2.2 x5_1 p472 q472
     cases e472
     replace p472 := eq_true p472
     replace q472 := eq_true q472
     go_wp2
     repeat (go_quiet (fail); try go_wp2)
     go_roundg k1
     case measure => have := HK1.out; omega
     case rel => exact ⟨(wrap64 (x5_1 - 1)), (by first | rfl | (simp; done) | (simp [*]; done)), H', ⟨by have := HK1.out; omega⟩, ⟨kr HO_0⟩, ⟨kr HO_1⟩, ⟨bel⟩⟩
    ·
     rw [if_neg c14] at H
     have c14b0 : ((rd t465 x5_1) == (rd t468 x5_1)) = false := beq_eq_false_iff_ne.mpr c14
     have c14b1 : ((rd t465 x5_1) != (rd t468 x5_1)) = true := bne_iff_ne.mpr c14
     by_cases c15 : (rd t465 x5_1) < (rd t468 x5_1)
     ·
      rw [if_pos c15] at H
      have c15b0 : decide ((rd t465 x5_1) < (rd t468 x5_1)) = true := decide_eq_true c15
      clear c15
      obtain rfl := Option.some.inj H
      have p471 : 0 ≤ (x5_1 : Int) := of_decide_eq_true (by first | (with_reducible assumption) | assumption)
      have q471 : x5_1 < (t465.length : Int) := of_decide_eq_true (by first | (with_reducible assumption) | assumption)
      obtain ⟨ad471, e471, hx471_0⟩ := Kd.at_int (Kd.R_reads' HO_0.out).2.2 x5_1 p471 q471
      cases e471
      replace p471 := eq_true p471
      replace q471 := eq_true q471
      have p472 : 0 ≤ (x5_1 : Int) := of_decide_eq_true (by first | (with_reducible assumption) | assumption)
      have q472 : x5_1 < (t468.length : Int) := of_decide_eq_true (by first | (with_reducible assumption) | assumption)
      obtain ⟨ad472, e472, hx472_0⟩ := Kd.at_int (Kd.R_reads' HO_1.out).2.2 x5_1 p472 q472
      cases e472
      replace p472 := eq_true p472
      replace q472 := eq_true q472
      have p473 : 0 ≤ (x5_1 : Int) := of_decide_eq_true (by first | (with_reducible assumption) | assumption)
      have q473 : x5_1 < (t465.length : Int) := of_decide_eq_true (by first | (with_reducible assumption) | assumption)
      obtain ⟨ad473, e473, hx473_0⟩ := Kd.at_int (Kd.R_reads' HO_0.out).2.2 x5_1 p473 q473
      obtain rfl : ad471 = ad473 := (by injection e473)
      replace p473 := eq_true p473
      replace q473 := eq_true q473
      have p474 : 0 ≤ (x5_1 : Int) := of_decide_eq_true (by first | (with_reducible assumption) | assumption)
      have q474 : x5_1 < (t468.length : Int) := of_decide_eq_true (by first | (with_reducible assumption) | assumption)
      obtain ⟨ad474, e474, hx474_0⟩ := Kd.at_int (Kd.R_reads' HO_1.out).2.2 x5_1 p474 q474
      obtain rfl : ad472 = ad474 := (by injection e474)
      replace p474 := eq_true p474
      replace q474 := eq_true q474
      go_wp2
      repeat (go_quiet (fail); try go_wp2)
      go_ret
      exact ⟨er, bel⟩
     ·
      rw [if_neg c15] at H
      have c15b0 : decide ((rd t465 x5_1) < (rd t468 x5_1)) = false := decide_eq_false c15
      clear c15
      obtain rfl := Option.some.inj H
      have p471 : 0 ≤ (x5_1 : Int) := of_decide_eq_true (by first | (with_reducible assumption) | assumption)
      have q471 : x5_1 < (t465.length : Int) := of_decide_eq_true (by first | (with_reducible assumption) | assumption)
      obtain ⟨ad471, e471, hx471_0⟩ := Kd.at_int (Kd.R_reads' HO_0.out).2.2 x5_1 p471 q471
      cases e471
      replace p471 := eq_true p471
      replace q471 := eq_true q471
      have p472 : 0 ≤ (x5_1 : Int) := of_decide_eq_true (by first | (with_reducible assumption) | assumption)
      have q472 : x5_1 < (t468.length : Int) := of_decide_eq_true (by first | (with_reducible assumption) | assumption)
      obtain ⟨ad472, e472, hx472_0⟩ := Kd.at_int (Kd.R_reads' HO_1.out).2.2 x5_1 p472 q472
      cases e472
      replace p472 := eq_true p472
      replace q472 := eq_true q472
      have p473 : 0 ≤ (x5_1 : Int) := of_decide_eq_true (by first | (with_reducible assumption) | assumption)
      have q473 : x5_1 < (t465.length : Int) := of_decide_eq_true (by first | (with_reducible assumption) | assumption)
      obtain ⟨ad473, e473, hx473_0⟩ := Kd.at_int (Kd.R_reads' HO_0.out).2.2 x5_1 p473 q473
      obtain rfl : ad471 = ad473 := (by injection e473)
      replace p473 := eq_true p473
      replace q473 := eq_true q473
      have p474 : 0 ≤ (x5_1 : Int) := of_decide_eq_true (by first | (with_reducible assumption) | assumption)
      have q474 : x5_1 < (t468.length : Int) := of_decide_eq_true (by first | (with_reducible assumption) | assumption)
      obtain ⟨ad474, e474, hx474_0⟩ := Kd.at_int (Kd.R_reads' HO_1.out).2.2 x5_1 p474 q474
      obtain rfl : ad472 = ad474 := (by injection e474)
      replace p474 := eq_true p474
      replace q474 := eq_true q474
      go_wp2
      repeat (go_quiet (fail); try go_wp2)
      go_ret
      exact ⟨er, bel⟩
 ·
  rw [if_neg c5] at H
  have c5b0 : ((t465.length : Int) == (t468.length : Int)) = false := beq_eq_false_iff_ne.mpr c5
  have c5b1 : ((t465.length : Int) != (t468.length : Int)) = true := bne_iff_ne.mpr c5
  have c5b2 : (t465.length == t468.length) = false := by first | simpa using c5 | (simp at c5 ⊢; omega)
  by_cases c16 : (t465.length : Int) < (t468.length : Int)
  ·
   rw [if_pos c16] at H
   have c16b0 : decide ((t465.length : Int) < (t468.length : Int)) = true := decide_eq_true c16
   have c16b1 : decide (t465.length < t468.length) = true := decide_eq_true (Int.ofNat_lt.mp c16)
   clear c16
   obtain rfl := Option.some.inj H
   go_enter Tryd.func47, Tryd.ntmps47
   go_wp2_with (first | (go_at_call 69; (with_reducible refine (gimbalref02_Trim.calls k _ _ l0 t465 _ ?side1 ?side2 A3.out).mono ?_); (case side1 => repeat (first | exact HR0.out | (with_reducible refine Kd.C_alloc ?_ _) | (with_reducible refine Kd.C_drewN ?_ _) | (with_reducible refine Kd.C_drew ?_))); (case side2 => exact HC0.out); rintro e w17 ⟨v466, rfl, ho0, hb⟩; refine ax2 (Kd.R_lower ho0 (below_size bel)) (below_step bel hb) ?_; clear HB; intro HO467 HB; (try clear hb); (try clear ho0)) | (go_at_call 69; (with_reducible refine (gimbalref02_Trim.calls k _ _ l1 t468 _ ?side1 ?side2 A4.out).mono ?_); (case side1 => repeat (first | exact (Kd.C_below HR1.out HB.out) | (with_reducible refine Kd.C_alloc ?_ _) | (with_reducible refine Kd.C_drewN ?_ _) | (with_reducible refine Kd.C_drew ?_))); (case side2 => exact HC1.out); rintro e w18 ⟨v469, rfl, ho0, hb⟩; refine ax3 (Kd.R_elder' (kr HO467) (Kd.R_base ho0) hb) (Kd.R_lower (Kd.R_new' ho0 (Kd.R_lt (kr HO467))) (below_size bel)) (below_step bel hb) ?_; clear HO467; clear HB; intro HO467 HO470 HB; (try clear hb); (try clear ho0); obtain ⟨Ao19, co19, eo19⟩ := Kd.R_slice HO467.out; subst eo19; obtain ⟨Ao20, co20, eo20⟩ := Kd.R_slice HO470.out; subst eo20))
   repeat (go_quiet (first | (go_at_call 69; (with_reducible refine (gimbalref02_Trim.calls k _ _ l0 t465 _ ?side1 ?side2 A3.out).mono ?_); (case side1 => repeat (first | exact HR0.out | (with_reducible refine Kd.C_alloc ?_ _) | (with_reducible refine Kd.C_drewN ?_ _) | (with_reducible refine Kd.C_drew ?_))); (case side2 => exact HC0.out); rintro e w17 ⟨v466, rfl, ho0, hb⟩; refine ax2 (Kd.R_lower ho0 (below_size bel)) (below_step bel hb) ?_; clear HB; intro HO467 HB; (try clear hb); (try clear ho0)) | (go_at_call 69; (with_reducible refine (gimbalref02_Trim.calls k _ _ l1 t468 _ ?side1 ?side2 A4.out).mono ?_); (case side1 => repeat (first | exact (Kd.C_below HR1.out HB.out) | (with_reducible refine Kd.C_alloc ?_ _) | (with_reducible refine Kd.C_drewN ?_ _) | (with_reducible refine Kd.C_drew ?_))); (case side2 => exact HC1.out); rintro e w18 ⟨v469, rfl, ho0, hb⟩; refine ax3 (Kd.R_elder' (kr HO467) (Kd.R_base ho0) hb) (Kd.R_lower (Kd.R_new' ho0 (Kd.R_lt (kr HO467))) (below_size bel)) (below_step bel hb) ?_; clear HO467; clear HB; intro HO467 HO470 HB; (try clear hb); (try clear ho0); obtain ⟨Ao19, co19, eo19⟩ := Kd.R_slice HO467.out; subst eo19; obtain ⟨Ao20, co20, eo20⟩ := Kd.R_slice HO470.out; subst eo20)); try go_wp2_with (first | (go_at_call 69; (with_reducible refine (gimbalref02_Trim.calls k _ _ l0 t465 _ ?side1 ?side2 A3.out).mono ?_); (case side1 => repeat (first | exact HR0.out | (with_reducible refine Kd.C_alloc ?_ _) | (with_reducible refine Kd.C_drewN ?_ _) | (with_reducible refine Kd.C_drew ?_))); (case side2 => exact HC0.out); rintro e w17 ⟨v466, rfl, ho0, hb⟩; refine ax2 (Kd.R_lower ho0 (below_size bel)) (below_step bel hb) ?_; clear HB; intro HO467 HB; (try clear hb); (try clear ho0)) | (go_at_call 69; (with_reducible refine (gimbalref02_Trim.calls k _ _ l1 t468 _ ?side1 ?side2 A4.out).mono ?_); (case side1 => repeat (first | exact (Kd.C_below HR1.out HB.out) | (with_reducible refine Kd.C_alloc ?_ _) | (with_reducible refine Kd.C_drewN ?_ _) | (with_reducible refine Kd.C_drew ?_))); (case side2 => exact HC1.out); rintro e w18 ⟨v469, rfl, ho0, hb⟩; refine ax3 (Kd.R_elder' (kr HO467) (Kd.R_base ho0) hb) (Kd.R_lower (Kd.R_new' ho0 (Kd.R_lt (kr HO467))) (below_size bel)) (below_step bel hb) ?_; clear HO467; clear HB; intro HO467 HO470 HB; (try clear hb); (try clear ho0); obtain ⟨Ao19, co19, eo19⟩ := Kd.R_slice HO467.out; subst eo19; obtain ⟨Ao20, co20, eo20⟩ := Kd.R_slice HO470.out; subst eo20)))
   go_ret
   exact ⟨er, bel⟩
  ·
   rw [if_neg c16] at H
   have c16b0 : decide ((t465.length : Int) < (t468.length : Int)) = false := decide_eq_false c16
   have c16b1 : decide (t465.length < t468.length) = false := decide_eq_false (fun h => c16 (Int.ofNat_lt.mpr h))
   clear c16
   obtain rfl := Option.some.inj H
   go_enter Tryd.func47, Tryd.ntmps47
   go_wp2_with (first | (go_at_call 69; (with_reducible refine (gimbalref02_Trim.calls k _ _ l0 t465 _ ?side1 ?side2 A3.out).mono ?_); (case side1 => repeat (first | exact HR0.out | (with_reducible refine Kd.C_alloc ?_ _) | (with_reducible refine Kd.C_drewN ?_ _) | (with_reducible refine Kd.C_drew ?_))); (case side2 => exact HC0.out); rintro e w21 ⟨v466, rfl, ho0, hb⟩; refine ax2 (Kd.R_lower ho0 (below_size bel)) (below_step bel hb) ?_; clear HB; intro HO467 HB; (try clear hb); (try clear ho0)) | (go_at_call 69; (with_reducible refine (gimbalref02_Trim.calls k _ _ l1 t468 _ ?side1 ?side2 A4.out).mono ?_); (case side1 => repeat (first | exact (Kd.C_below HR1.out HB.out) | (with_reducible refine Kd.C_alloc ?_ _) | (with_reducible refine Kd.C_drewN ?_ _) | (with_reducible refine Kd.C_drew ?_))); (case side2 => exact HC1.out); rintro e w22 ⟨v469, rfl, ho0, hb⟩; refine ax3 (Kd.R_elder' (kr HO467) (Kd.R_base ho0) hb) (Kd.R_lower (Kd.R_new' ho0 (Kd.R_lt (kr HO467))) (below_size bel)) (below_step bel hb) ?_; clear HO467; clear HB; intro HO467 HO470 HB; (try clear hb); (try clear ho0); obtain ⟨Ao23, co23, eo23⟩ := Kd.R_slice HO467.out; subst eo23; obtain ⟨Ao24, co24, eo24⟩ := Kd.R_slice HO470.out; subst eo24))
   repeat (go_quiet (first | (go_at_call 69; (with_reducible refine (gimbalref02_Trim.calls k _ _ l0 t465 _ ?side1 ?side2 A3.out).mono ?_); (case side1 => repeat (first | exact HR0.out | (with_reducible refine Kd.C_alloc ?_ _) | (with_reducible refine Kd.C_drewN ?_ _) | (with_reducible refine Kd.C_drew ?_))); (case side2 => exact HC0.out); rintro e w21 ⟨v466, rfl, ho0, hb⟩; refine ax2 (Kd.R_lower ho0 (below_size bel)) (below_step bel hb) ?_; clear HB; intro HO467 HB; (try clear hb); (try clear ho0)) | (go_at_call 69; (with_reducible refine (gimbalref02_Trim.calls k _ _ l1 t468 _ ?side1 ?side2 A4.out).mono ?_); (case side1 => repeat (first | exact (Kd.C_below HR1.out HB.out) | (with_reducible refine Kd.C_alloc ?_ _) | (with_reducible refine Kd.C_drewN ?_ _) | (with_reducible refine Kd.C_drew ?_))); (case side2 => exact HC1.out); rintro e w22 ⟨v469, rfl, ho0, hb⟩; refine ax3 (Kd.R_elder' (kr HO467) (Kd.R_base ho0) hb) (Kd.R_lower (Kd.R_new' ho0 (Kd.R_lt (kr HO467))) (below_size bel)) (below_step bel hb) ?_; clear HO467; clear HB; intro HO467 HO470 HB; (try clear hb); (try clear ho0); obtain ⟨Ao23, co23, eo23⟩ := Kd.R_slice HO467.out; subst eo23; obtain ⟨Ao24, co24, eo24⟩ := Kd.R_slice HO470.out; subst eo24)); try go_wp2_with (first | (go_at_call 69; (with_reducible refine (gimbalref02_Trim.calls k _ _ l0 t465 _ ?side1 ?side2 A3.out).mono ?_); (case side1 => repeat (first | exact HR0.out | (with_reducible refine Kd.C_alloc ?_ _) | (with_reducible refine Kd.C_drewN ?_ _) | (with_reducible refine Kd.C_drew ?_))); (case side2 => exact HC0.out); rintro e w21 ⟨v466, rfl, ho0, hb⟩; refine ax2 (Kd.R_lower ho0 (below_size bel)) (below_step bel hb) ?_; clear HB; intro HO467 HB; (try clear hb); (try clear ho0)) | (go_at_call 69; (with_reducible refine (gimbalref02_Trim.calls k _ _ l1 t468 _ ?side1 ?side2 A4.out).mono ?_); (case side1 => repeat (first | exact (Kd.C_below HR1.out HB.out) | (with_reducible refine Kd.C_alloc ?_ _) | (with_reducible refine Kd.C_drewN ?_ _) | (with_reducible refine Kd.C_drew ?_))); (case side2 => exact HC1.out); rintro e w22 ⟨v469, rfl, ho0, hb⟩; refine ax3 (Kd.R_elder' (kr HO467) (Kd.R_base ho0) hb) (Kd.R_lower (Kd.R_new' ho0 (Kd.R_lt (kr HO467))) (below_size bel)) (below_step bel hb) ?_; clear HO467; clear HB; intro HO467 HO470 HB; (try clear hb); (try clear ho0); obtain ⟨Ao23, co23, eo23⟩ := Kd.R_slice HO467.out; subst eo23; obtain ⟨Ao24, co24, eo24⟩ := Kd.R_slice HO470.out; subst eo24)))
   go_ret
   exact ⟨er, bel⟩

/-! ### gimbalref02_Sub: function 48 -/
def gimbalref02_Sub.l0 : Nat → List Int → List Int → List Int → Int → Int → Option (List Int)
 | 0, _, _, _, _, _ => none
 | k + 1, x0, x1, x5, x6, x7 => if x7 < (x0.length : Int) then (if 0 ≤ x7 then (if x7 < (x1.length : Int) then (if (wrap64 ((wrap64 ((rd x0 x7) - x6)) - (rd x1 x7))) < 0 then (if x5.length < 17592186044416 then (gimbalref02_Sub.l0 k x0 x1 (x5 ++ [wrap64 ((wrap64 ((wrap64 ((rd x0 x7) - x6)) - (rd x1 x7))) + 2)]) 1 (wrap64 (x7 + 1))) else (none)) else (if x5.length < 17592186044416 then (gimbalref02_Sub.l0 k x0 x1 (x5 ++ [wrap64 ((wrap64 ((rd x0 x7) - x6)) - (rd x1 x7))]) 0 (wrap64 (x7 + 1))) else (none))) else (if (wrap64 ((rd x0 x7) - x6)) < 0 then (if x5.length < 17592186044416 then (gimbalref02_Sub.l0 k x0 x1 (x5 ++ [wrap64 ((wrap64 ((rd x0 x7) - x6)) + 2)]) 1 (wrap64 (x7 + 1))) else (none)) else (if x5.length < 17592186044416 then (gimbalref02_Sub.l0 k x0 x1 (x5 ++ [wrap64 ((rd x0 x7) - x6)]) 0 (wrap64 (x7 + 1))) else (none)))) else (none)) else ((gimbalref02_Trim.f k x5).bind fun t478 => (some t478))
def gimbalref02_Sub.f (k : Nat) (l0 : List Int) (l1 : List Int) : Option (List Int) := gimbalref02_Sub.l0 k l0 l1 (([] : List Int)) 0 0
theorem gimbalref02_Sub.mono_l : ∀ k, (∀ y0 y1 y2 y3 y4, LeO (gimbalref02_Sub.l0 k y0 y1 y2 y3 y4) (gimbalref02_Sub.l0 (k + 1) y0 y1 y2 y3 y4))
 | 0 => fun _ _ _ _ _ r h => by simp [gimbalref02_Sub.l0] at h
 | k + 1 => by
  have ih0 := gimbalref02_Sub.mono_l k
  ·
   intro y0 y1 y2 y3 y4
   unfold gimbalref02_Sub.l0
   repeat' with_reducible first | apply ih0 | apply gimbalref02_Trim.mono | exact LeO.refl _ | exact LeO.none _ | refine LeO.ite ?_ ?_ | refine LeO.bind ?_ (fun _ => ?_)
theorem gimbalref02_Sub.mono : ∀ a0 a1 k, LeO (gimbalref02_Sub.f k a0 a1) (gimbalref02_Sub.f (k + 1) a0 a1) := by
 intro a0 a1 k
 have ih0 := gimbalref02_Sub.mono_l k
 unfold gimbalref02_Sub.f
 repeat' with_reducible first | apply ih0 | apply gimbalref02_Trim.mono | exact LeO.refl _ | exact LeO.none _ | refine LeO.ite ?_ ?_ | refine LeO.bind ?_ (fun _ => ?_)
set_option maxHeartbeats 8000000 in
set_option maxRecDepth 100000 in
theorem gimbalref02_Sub.calls (k : Nat) (A0 : Option Addr) (c0 : Nat) (l0 : List Int) (A1 : Option Addr) (c1 : Nat) (l1 : List Int) (r : List Int) (w : World) (hr0 : Kd.C (Kd.int .i64) w A0 l0.length l0) (hc0 : l0.length ≤ c0) (hr1 : Kd.C (Kd.int .i64) w A1 l1.length l1) (hc1 : l1.length ≤ c1) (h : gimbalref02_Sub.f k l0 l1 = some r) :
  Calls Tryd.prog 48 #[.slice A0 l0.length c0, .slice A1 l1.length c1] w fun e w' => ∃ v0_ : Value, e = .returned (v0_) ∧ Kd.R (Kd.int .i64) 3 w' w.heap.size (fun _ => True) v0_ r ∧ Below w.heap.size w w' := by
 have HR0 := Aside0.mk hr0
 have HC0 := Aside0.mk hc0
 clear hr0 hc0
 have HR1 := Aside0.mk hr1
 have HC1 := Aside0.mk hc1
 clear hr1 hc1
 have HB := Aside0.mk (Below.refl w.heap.size w)
 have H : (gimbalref02_Sub.l0 k l0 l1 (([] : List Int)) 0 0) = some r := h
 clear h
 obtain ⟨y475, hy475⟩ : ∃ y_ : List Int, y_ = (([] : List Int)) := ⟨_, rfl⟩
 replace H : (gimbalref02_Sub.l0 k l0 l1 y475 0 0) = some r := by first | (rw [hy475]; with_reducible exact H) | (have H2_ := (Option.bind_some _ _).symm.trans H; rw [hy475]; with_reducible exact H2_) | (have H2_ := (Option.bind_some _ _).symm.trans H; with_reducible exact H2_) | with_reducible exact H | (rw [hy475]; exact H) | exact H
 have Ny475 := Aside0.mk hy475
 clear hy475
 have H' := Aside0.mk H
 clear H
 go_enter Tryd.func48, Tryd.ntmps48
 go_wp2_with (first | ((with_reducible refine gate_dst (N := 9) rfl ?_); refine Kd.R_lit (Kd.int .i64) _ 3 ?hg (N := 9) ?hd (xs := ([] : List Int)) (inner := []) (ok := fun _ => True) (okp := fun _ => True) ?hr ?hp (fun _ hk => hk) trivial (Below.refl _ _) (Nat.le_refl _) (by simp) ?_; (case hd => rfl); (case hg => rfl); (case hr => first | (go_simp; done) | (go_simp; rfl)); (case hp => exact (Reps.none _ _)); intro v476 w3 ho4 hb hg_ hnew_; clear hg_ hnew_; (first | rw [← Ny475.out] at ho4 | (simp only [Int.reduceToNat] at ho4; rw [← Ny475.out] at ho4)); refine ax2 (Kd.R_lower ho4 (below_size bel)) (below_step bel hb) ?_; clear HB; intro HO477 HB; clear hb ho4))
 go_loopg [5, 6, 7] k (fun kq v5 v6 v7 w' => ∃ (x5_1 : List Int) (x6_1 : Int) (x7_1 : Int), v6 = .int .i64 x6_1 ∧ v7 = .int .i64 x7_1 ∧ Aside0 (gimbalref02_Sub.l0 kq l0 l1 x5_1 x6_1 x7_1 = some r) ∧ Aside0 (kq ≤ k) ∧ Aside0 (Kd.R (Kd.int .i64) 3 w' w.heap.size (fun _ => True) v5 x5_1) ∧ Aside0 (Below w.heap.size w w'))
 case atStart => exact ⟨(y475), (0), (0), (by first | rfl | (simp; done) | (simp [*]; done)), (by first | rfl | (simp; done) | (simp [*]; done)), H', ⟨Nat.le_refl _⟩, ⟨kr HO477⟩, ⟨bel⟩⟩
 case round =>
  clear H'
  try clear c1
  try clear p2
  try clear c4
  obtain ⟨x5_1, x6_1, x7_1, rfl, rfl, HA, HK1, HO_5, HB⟩ := hrel
  cases gk with
  | zero => exact absurd HA.out (by simp [gimbalref02_Sub.l0])
  | succ k1 =>
   have H := HA.out
   clear HA
   simp only [gimbalref02_Sub.l0] at H
   by_cases c5 : x7_1 < (l0.length : Int)
   ·
    rw [if_pos c5] at H
    have c5b0 : decide (x7_1 < (l0.length : Int)) = true := decide_eq_true c5
    clear c5
    by_cases c6 : 0 ≤ x7_1
    rotate_left
    ·
     rw [if_neg c6] at H
     exact absurd H (by simp)
    rw [if_pos c6] at H
    have c6b0 : decide (0 ≤ x7_1) = true := decide_eq_true c6
    clear c6
    by_cases c7 : x7_1 < (l1.length : Int)
    ·
     rw [if_pos c7] at H
     have c7b0 : decide (x7_1 < (l1.length : Int)) = true := decide_eq_true c7
     clear c7
     by_cases c8 : (wrap64 ((wrap64 ((rd l0 x7_1) - x6_1)) - (rd l1 x7_1))) < 0
     ·
      rw [if_pos c8] at H
      have c8b0 : decide ((wrap64 ((wrap64 ((rd l0 x7_1) - x6_1)) - (rd l1 x7_1))) < 0) = true := decide_eq_true c8
      clear c8
      by_cases c9 : x5_1.length < 17592186044416
      rotate_left
      ·
       rw [if_neg c9] at H
       exact absurd H (by simp)
      rw [if_pos c9] at H
      have LMc9 := Aside0.mk c9
      clear c9
      obtain ⟨y483, hy483⟩ : ∃ y_ : List Int, y_ = (x5_1 ++ [wrap64 ((wrap64 ((wrap64 ((rd l0 x7_1) - x6_1)) - (rd l1 x7_1))) + 2)]) := ⟨_, rfl⟩
      replace H : (gimbalref02_Sub.l0 k1 l0 l1 y483 1 (wrap64 (x7_1 + 1))) = some r := by first | (rw [hy483]; with_reducible exact H) | (have H2_ := (Option.bind_some _ _).symm.trans H; rw [hy483]; with_reducible exact H2_) | (have H2_ := (Option.bind_some _ _).symm.trans H; with_reducible exact H2_) | with_reducible exact H | (rw [hy483]; exact H) | exact H
      have Ny483 := Aside0.mk hy483
      clear hy483
      have H' := Aside0.mk H
      clear H
      have p481 : 0 ≤ (x7_1 : Int) := of_decide_eq_true (by first | (with_reducible assumption) | assumption)
      have q481 : x7_1 < (l0.length : Int) := of_decide_eq_true (by first | (with_reducible assumption) | assumption)
      obtain ⟨ad481, e481, hx481_0⟩ := Kd.at_int HR0.out x7_1 p481 q481
      cases e481
      replace hx481_0 := (HB.out.cell (World.block_lt_of_cell? w _ hx481_0)).trans hx481_0
      replace p481 := eq_true p481
      replace q481 := eq_true q481
      have p482 : 0 ≤ (x7_1 : Int) := of_decide_eq_true (by first | (with_reducible assumption) | assumption)
      have q482 : x7_1 < (l1.length : Int) := of_decide_eq_true (by first | (with_reducible assumption) | assumption)
      obtain ⟨ad482, e482, hx482_0⟩ := Kd.at_int HR1.out x7_1 p482 q482
      cases e482
      replace hx482_0 := (HB.out.cell (World.block_lt_of_cell? w _ hx482_0)).trans hx482_0
      replace p482 := eq_true p482
      replace q482 := eq_true q482
      go_wp2_with (first | ((with_reducible refine gate_builtin (b := .append) (xs := #[.tmp 36, .tmp 38]) rfl ?_); at_builtin; refine Kd.R_append (Kd.int .i64) (w0 := w) w.heap.size rfl (.tmp 36) (.tmp 38) 39 3 (.int .i64 0) 8 rfl Tryd.underlying39 info3 rfl (by decide) (by omega) u5 x5_1 (wrap64 ((wrap64 ((wrap64 ((rd l0 x7_1) - x6_1)) - (rd l1 x7_1))) + 2)) [.int .i64 (wrap64 ((wrap64 ((wrap64 ((rd l0 x7_1) - x6_1)) - (rd l1 x7_1))) + 2))] (fun _ => True) (fun _ => False) rfl rfl ?aP (fun _ hk => hk.elim) ?aF ?aO ?aB ?aS ?aL ?_; (case aP => exact rfl); (case aB => exact bel); (case aF => exact (fun _ _ => trivial)); (case aO => exact (kr HO_5)); (case aS => exact (below_size bel)); (case aL => have := LMc9.out; omega); intro v484 w10 ho hb hg hat; rw [← Ny483.out] at ho; refine ax2 hb ho ?_; clear HB; clear HO_5; intro HB HO485; clear ho hb hg hat))
      go_roundg k1
      case measure => have := HK1.out; omega
      case rel => exact ⟨(y483), (1), (wrap64 (x7_1 + 1)), (by first | rfl | (simp; done) | (simp [*]; done)), (by first | rfl | (simp; done) | (simp [*]; done)), H', ⟨by have := HK1.out; omega⟩, ⟨kr HO485⟩, ⟨bel⟩⟩
     ·
      rw [if_neg c8] at H
      have c8b0 : decide ((wrap64 ((wrap64 ((rd l0 x7_1) - x6_1)) - (rd l1 x7_1))) < 0) = false := decide_eq_false c8
      clear c8
      by_cases c11 : x5_1.length < 17592186044416
      rotate_left
      ·
       rw [if_neg c11] at H
       exact absurd H (by simp)
      rw [if_pos c11] at H
      have LMc11 := Aside0.mk c11
      clear c11
      obtain ⟨y486, hy486⟩ : ∃ y_ : List Int, y_ = (x5_1 ++ [wrap64 ((wrap64 ((rd l0 x7_1) - x6_1)) - (rd l1 x7_1))]) := ⟨_, rfl⟩
      replace H : (gimbalref02_Sub.l0 k1 l0 l1 y486 0 (wrap64 (x7_1 + 1))) = some r := by first | (rw [hy486]; with_reducible exact H) | (have H2_ := (Option.bind_some _ _).symm.trans H; rw [hy486]; with_reducible exact H2_) | (have H2_ := (Option.bind_some _ _).symm.trans H; with_reducible exact H2_) | with_reducible exact H | (rw [hy486]; exact H) | exact H
      have Ny486 := Aside0.mk hy486
      clear hy486
      have H' := Aside0.mk H
      clear H
      have p481 : 0 ≤ (x7_1 : Int) := of_decide_eq_true (by first | (with_reducible assumption) | assumption)
      have q481 : x7_1 < (l0.length : Int) := of_decide_eq_true (by first | (with_reducible assumption) | assumption)
      obtain ⟨ad481, e481, hx481_0⟩ := Kd.at_int HR0.out x7_1 p481 q481
      cases e481
      replace hx481_0 := (HB.out.cell (World.block_lt_of_cell? w _ hx481_0)).trans hx481_0
      replace p481 := eq_true p481
      replace q481 := eq_true q481
      have p482 : 0 ≤ (x7_1 : Int) := of_decide_eq_true (by first | (with_reducible assumption) | assumption)
      have q482 : x7_1 < (l1.length : Int) := of_decide_eq_true (by first | (with_reducible assumption) | assumption)
      obtain ⟨ad482, e482, hx482_0⟩ := Kd.at_int HR1.out x7_1 p482 q482
      cases e482
      replace hx482_0 := (HB.out.cell (World.block_lt_of_cell? w _ hx482_0)).trans hx482_0
      replace p482 := eq_true p482
      replace q482 := eq_true q482
      go_wp2_with (first | ((with_reducible refine gate_builtin (b := .append) (xs := #[.tmp 36, .tmp 38]) rfl ?_); at_builtin; refine Kd.R_append (Kd.int .i64) (w0 := w) w.heap.size rfl (.tmp 36) (.tmp 38) 39 3 (.int .i64 0) 8 rfl Tryd.underlying39 info3 rfl (by decide) (by omega) u5 x5_1 (wrap64 ((wrap64 ((rd l0 x7_1) - x6_1)) - (rd l1 x7_1))) [.int .i64 (wrap64 ((wrap64 ((rd l0 x7_1) - x6_1)) - (rd l1 x7_1)))] (fun _ => True) (fun _ => False) rfl rfl ?aP (fun _ hk => hk.elim) ?aF ?aO ?aB ?aS ?aL ?_; (case aP => exact rfl); (case aB => exact bel); (case aF => exact (fun _ _ => trivial)); (case aO => exact (kr HO_5)); (case aS => exact (below_size bel)); (case aL => have := LMc11.out; omega); intro v487 w12 ho hb hg hat; rw [← Ny486.out] at ho; refine ax2 hb ho ?_; clear HB; clear HO_5; intro HB HO488; clear ho hb hg hat))
      go_roundg k1
      case measure => have := HK1.out; omega
      case rel => exact ⟨(y486), (0), (wrap64 (x7_1 + 1)), (by first | rfl | (simp; done) | (simp [*]; done)), (by first | rfl | (simp; done) | (simp [*]; done)), H', ⟨by have := HK1.out; omega⟩, ⟨kr HO488⟩, ⟨bel⟩⟩
    ·
     rw [if_neg c7] at H
     have c7b0 : decide (x7_1 < (l1.length : Int)) = false := decide_eq_false c7
     clear c7
     by_cases c13 : (wrap64 ((rd l0 x7_1) - x6_1)) < 0
     ·
      rw [if_pos c13] at H
      have c13b0 : decide ((wrap64 ((rd l0 x7_1) - x6_1)) < 0) = true := decide_eq_true c13
      clear c13
      by_cases c14 : x5_1.length < 17592186044416
      rotate_left
      ·
       rw [if_neg c14] at H
       exact absurd H (by simp)
      rw [if_pos c14] at H
      have LMc14 := Aside0.mk c14
      clear c14
      obtain ⟨y489, hy489⟩ : ∃ y_ : List Int, y_ = (x5_1 ++ [wrap64 ((wrap64 ((rd l0 x7_1) - x6_1)) + 2)]) := ⟨_, rfl⟩
      replace H : (gimbalref02_Sub.l0 k1 l0 l1 y489 1 (wrap64 (x7_1 + 1))) = some r := by first | (rw [hy489]; with_reducible exact H) | (have H2_ := (Option.bind_some _ _).symm.trans H; rw [hy489]; with_reducible exact H2_) | (have H2_ := (Option.bind_some _ _).symm.trans H; with_reducible exact H2_) | with_reducible exact H | (rw [hy489]; exact H) | exact H
      have Ny489 := Aside0.mk hy489
      clear hy489
      have H' := Aside0.mk H
      clear H
      have p481 : 0 ≤ (x7_1 : Int) := of_decide_eq_true (by first | (with_reducible assumption) | assumption)
      have q481 : x7_1 < (l0.length : Int) := of_decide_eq_true (by first | (with_reducible assumption) | assumption)
      obtain ⟨ad481, e481, hx481_0⟩ := Kd.at_int HR0.out x7_1 p481 q481
      cases e481
      replace hx481_0 := (HB.out.cell (World.block_lt_of_cell? w _ hx481_0)).trans hx481_0
      replace p481 := eq_true p481
      replace q481 := eq_true q481
      go_wp2_with (first | ((with_reducible refine gate_builtin (b := .append) (xs := #[.tmp 36, .tmp 38]) rfl ?_); at_builtin; refine Kd.R_append (Kd.int .i64) (w0 := w) w.heap.size rfl (.tmp 36) (.tmp 38) 39 3 (.int .i64 0) 8 rfl Tryd.underlying39 info3 rfl (by decide) (by omega) u5 x5_1 (wrap64 ((wrap64 ((rd l0 x7_1) - x6_1)) + 2)) [.int .i64 (wrap64 ((wrap64 ((rd l0 x7_1) - x6_1)) + 2))] (fun _ => True) (fun _ => False) rfl rfl ?aP (fun _ hk => hk.elim) ?aF ?aO ?aB ?aS ?aL ?_; (case aP => exact rfl); (case aB => exact bel); (case aF => exact (fun _ _ => trivial)); (case aO => exact (kr HO_5)); (case aS => exact (below_size bel)); (case aL => have := LMc14.out; omega); intro v490 w15 ho hb hg hat; rw [← Ny489.out] at ho; refine ax2 hb ho ?_; clear HB; clear HO_5; intro HB HO491; clear ho hb hg hat))
      go_roundg k1
      case measure => have := HK1.out; omega
      case rel => exact ⟨(y489), (1), (wrap64 (x7_1 + 1)), (by first | rfl | (simp; done) | (simp [*]; done)), (by first | rfl | (simp; done) | (simp [*]; done)), H', ⟨by have := HK1.out; omega⟩, ⟨kr HO491⟩, ⟨bel⟩⟩
     ·
      rw [if_neg c13] at H
      have c13b0 : decide ((wrap64 ((rd l0 x7_1) - x6_1)) < 0) = false := decide_eq_false c13
      clear c13
      by_cases c16 : x5_1.length < 17592186044416
      rotate_left
      ·
       rw [if_neg c16] at H
       exact absurd H (by simp)
      rw [if_pos c16] at H
      have LMc16 := Aside0.mk c16
      clear c16
      obtain ⟨y492, hy492⟩ : ∃ y_ : List Int, y_ = (x5_1 ++ [wrap64 ((rd l0 x7_1) - x6_1)]) := ⟨_, rfl⟩
      replace H : (gimbalref02_Sub.l0 k1 l0 l1 y492 0 (wrap64 (x7_1 + 1))) = some r := by first | (rw [hy492]; with_reducible exact H) | (have H2_ := (Option.bind_some _ _).symm.trans H; rw [hy492]; with_reducible exact H2_) | (have H2_ := (Option.bind_some _ _).symm.trans H; with_reducible exact H2_) | with_reducible exact H | (rw [hy492]; exact H) | exact H
      have Ny492 := Aside0.mk hy492
      clear hy492
      have H' := Aside0.mk H
      clear H
      have p481 : 0 ≤ (x7_1 : Int) := of_decide_eq_true (by first | (with_reducible assumption) | assumption)
      have q481 : x7_1 < (l0.length : Int) := of_decide_eq_true (by first | (with_reducible assumption) | assumption)
      obtain ⟨ad481, e481, hx481_0⟩ := Kd.at_int HR0.out x7_1 p481 q481
      cases e481
      replace hx481_0 := (HB.out.cell (World.block_lt_of_cell? w _ hx481_0)).trans hx481_0
      replace p481 := eq_true p481
      replace q481 := eq_true q481
      go_wp2_with (first | ((with_reducible refine gate_builtin (b := .append) (xs := #[.tmp 36, .tmp 38]) rfl ?_); at_builtin; refine Kd.R_append (Kd.int .i64) (w0 := w) w.heap.size rfl (.tmp 36) (.tmp 38) 39 3 (.int .i64 0) 8 rfl Tryd.underlying39 info3 rfl (by decide) (by omega) u5 x5_1 (wrap64 ((rd l0 x7_1) - x6_1)) [.int .i64 (wrap64 ((rd l0 x7_1) - x6_1))] (fun _ => True) (fun _ => False) rfl rfl ?aP (fun _ hk => hk.elim) ?aF ?aO ?aB ?aS ?aL ?_; (case aP => exact rfl); (case aB => exact bel); (case aF => exact (fun _ _ => trivial)); (case aO => exact (kr HO_5)); (case aS => exact (below_size bel)); (case aL => have := LMc16.out; omega); intro v493 w17 ho hb hg hat; rw [← Ny492.out] at ho; refine ax2 hb ho ?_; clear HB; clear HO_5; intro HB HO494; clear ho hb hg hat))
      go_roundg k1
      case measure => have := HK1.out; omega
      case rel => exact ⟨(y492), (0), (wrap64 (x7_1 + 1)), (by first | rfl | (simp; done) | (simp [*]; done)), (by first | rfl | (simp; done) | (simp [*]; done)), H', ⟨by have := HK1.out; omega⟩, ⟨kr HO494⟩, ⟨bel⟩⟩
   ·
    rw [if_neg c5] at H
    have c5b0 : decide (x7_1 < (l0.length : Int)) = false := decide_eq_false c5
    clear c5
    obtain ⟨t478, A180, H⟩ := Option.bind_eq_some_iff.mp H
    (try dsimp -simprocs only at H)
    have A18 := Aside0.mk A180
    clear A180
    obtain rfl := Option.some.inj H
    obtain ⟨Ao19, co19, eo19⟩ := Kd.R_slice HO_5.out
    subst eo19
    go_wp2_with (first | ((with_reducible refine gate_callee (f := 69) rfl ?_); refine goesL_ (some 41) rfl rfl Tryd.func69 (by kernel_rfl) rfl #[.slice Ao19 x5_1.length co19] rfl ga ?_; (with_reducible refine (gimbalref02_Trim.calls k1 _ _ x5_1 t478 _ ?side1 ?side2 A18.out).mono ?_); (case side1 => exact ks HO_5); (case side2 => exact (Kd.R_reads' HO_5.out).2.1); rintro e w20 ⟨v479, rfl, ho0, hb⟩; refine ⟨_, rfl, ?_⟩; refine ax3 (Kd.R_elder' (kr HO_5) (Kd.R_base ho0) hb) (Kd.R_lower (Kd.R_new' ho0 (Kd.R_lt (kr HO_5))) (below_size bel)) (below_step bel hb) ?_; clear HO_5; clear HB; intro HO_5 HO480 HB; (try clear hb); (try clear ho0)))
    go_ret
    exact ⟨_, er, by (with_reducible repeat (first | apply Kd.R_alloc | apply Kd.R_drewN | apply Kd.R_drew)); exact Kd.R_mono HO480.out (fun _ hk => trivial), bel⟩

/-! ### gimbalref02_Mul: function 51 -/
def gimbalref02_Mul.l0 : Nat → List Int → List Int → List Int → Int → Int → Option (List Int)
 | 0, _, _, _, _, _ => none
 | k + 1, x1, x5, x9, x10, x11 => if x11 < x10 then (if 0 ≤ x11 then (if x11 < (x9.length : Int) then (if (rd x9 x11) = 1 then ((gimbalref02_Up.f k x1 x11).bind fun t598 => ((gimbalref02_Add.f k x5 t598).bind fun t601 => (gimbalref02_Mul.l0 k x1 t601 x9 x10 (wrap64 (x11 + 1))))) else (gimbalref02_Mul.l0 k x1 x5 x9 x10 (wrap64 (x11 + 1)))) else (none)) else (none)) else (some x5)
def gimbalref02_Mul.f (k : Nat) (l0 : List Int) (l1 : List Int) : Option (List Int) := gimbalref02_Mul.l0 k l1 (([] : List Int)) l0 (l0.length : Int) 0
theorem gimbalref02_Mul.mono_l : ∀ k, (∀ y0 y1 y2 y3 y4, LeO (gimbalref02_Mul.l0 k y0 y1 y2 y3 y4) (gimbalref02_Mul.l0 (k + 1) y0 y1 y2 y3 y4))
 | 0 => fun _ _ _ _ _ r h => by simp [gimbalref02_Mul.l0] at h
 | k + 1 => by
  have ih0 := gimbalref02_Mul.mono_l k
  ·
   intro y0 y1 y2 y3 y4
   unfold gimbalref02_Mul.l0
   repeat' with_reducible first | apply ih0 | apply gimbalref02_Add.mono | apply gimbalref02_Up.mono | exact LeO.refl _ | exact LeO.none _ | refine LeO.ite ?_ ?_ | refine LeO.bind ?_ (fun _ => ?_)
theorem gimbalref02_Mul.mono : ∀ a0 a1 k, LeO (gimbalref02_Mul.f k a0 a1) (gimbalref02_Mul.f (k + 1) a0 a1) := by
 intro a0 a1 k
 have ih0 := gimbalref02_Mul.mono_l k
 unfold gimbalref02_Mul.f
 repeat' with_reducible first | apply ih0 | apply gimbalref02_Add.mono | apply gimbalref02_Up.mono | exact LeO.refl _ | exact LeO.none _ | refine LeO.ite ?_ ?_ | refine LeO.bind ?_ (fun _ => ?_)
set_option maxHeartbeats 8000000 in
set_option maxRecDepth 100000 in
theorem gimbalref02_Mul.calls (k : Nat) (A0 : Option Addr) (c0 : Nat) (l0 : List Int) (A1 : Option Addr) (c1 : Nat) (l1 : List Int) (r : List Int) (w : World) (hr0 : Kd.C (Kd.int .i64) w A0 l0.length l0) (hc0 : l0.length ≤ c0) (hr1 : Kd.C (Kd.int .i64) w A1 l1.length l1) (hc1 : l1.length ≤ c1) (h : gimbalref02_Mul.f k l0 l1 = some r) :
  Calls Tryd.prog 51 #[.slice A0 l0.length c0, .slice A1 l1.length c1] w fun e w' => ∃ v0_ : Value, e = .returned (v0_) ∧ Kd.R (Kd.int .i64) 3 w' w.heap.size (fun _ => True) v0_ r ∧ Below w.heap.size w w' := by
 have HR0 := Aside0.mk hr0
 have HC0 := Aside0.mk hc0
 clear hr0 hc0
 have HR1 := Aside0.mk hr1
 have HC1 := Aside0.mk hc1
 clear hr1 hc1
 have HB := Aside0.mk (Below.refl w.heap.size w)
 have H : (gimbalref02_Mul.l0 k l1 (([] : List Int)) l0 (l0.length : Int) 0) = some r := h
 clear h
 obtain ⟨y594, hy594⟩ : ∃ y_ : List Int, y_ = (([] : List Int)) := ⟨_, rfl⟩
 replace H : (gimbalref02_Mul.l0 k l1 y594 l0 (l0.length : Int) 0) = some r := by first | (rw [hy594]; with_reducible exact H) | (have H2_ := (Option.bind_some _ _).symm.trans H; rw [hy594]; with_reducible exact H2_) | (have H2_ := (Option.bind_some _ _).symm.trans H; with_reducible exact H2_) | with_reducible exact H | (rw [hy594]; exact H) | exact H
 have Ny594 := Aside0.mk hy594
 clear hy594
 have H' := Aside0.mk H
 clear H
 go_enter Tryd.func51, Tryd.ntmps51
 go_wp2_with (first | ((with_reducible refine gate_dst (N := 8) rfl ?_); refine Kd.R_lit (Kd.int .i64) _ 3 ?hg (N := 8) ?hd (xs := ([] : List Int)) (inner := []) (ok := fun _ => True) (okp := fun _ => True) ?hr ?hp (fun _ hk => hk) trivial (Below.refl _ _) (Nat.le_refl _) (by simp) ?_; (case hd => rfl); (case hg => rfl); (case hr => first | (go_simp; done) | (go_simp; rfl)); (case hp => exact (Reps.none _ _)); intro v595 w3 ho4 hb hg_ hnew_; clear hg_ hnew_; (first | rw [← Ny594.out] at ho4 | (simp only [Int.reduceToNat] at ho4; rw [← Ny594.out] at ho4)); refine ax2 (Kd.R_lower ho4 (below_size bel)) (below_step bel hb) ?_; clear HB; intro HO596 HB; clear hb ho4))
 go_loopg [5, 11] k (fun kq v5 v11 w' => ∃ (x5_1 : List Int) (x11_1 : Int), v11 = .int .i64 x11_1 ∧ Aside0 (gimbalref02_Mul.l0 kq l1 x5_1 l0 (l0.length : Int) x11_1 = some r) ∧ Aside0 (kq ≤ k) ∧ Aside0 (Kd.R (Kd.int .i64) 3 w' w.heap.size (fun _ => True) v5 x5_1) ∧ Aside0 (Below w.heap.size w w'))
 case atStart => exact ⟨(y594), (0), (by first | rfl | (simp; done) | (simp [*]; done)), H', ⟨Nat.le_refl _⟩, ⟨kr HO596⟩, ⟨bel⟩⟩
 case round =>
  clear H'
  try clear c1
  try clear p2
  obtain ⟨x5_1, x11_1, rfl, HA, HK1, HO_5, HB⟩ := hrel
  cases gk with
  | zero => exact absurd HA.out (by simp [gimbalref02_Mul.l0])
  | succ k1 =>
   have H := HA.out
   clear HA
   simp only [gimbalref02_Mul.l0] at H
   by_cases c5 : x11_1 < (l0.length : Int)
   rotate_left
   ·
    rw [if_neg c5] at H
    have c5b0 : decide (x11_1 < (l0.length : Int)) = false := decide_eq_false c5
    clear c5
    obtain rfl := Option.some.inj H
    go_wp2
    go_ret
    exact ⟨_, er, kr HO_5, bel⟩

   rw [if_pos c5] at H
   have c5b0 : decide (x11_1 < (l0.length : Int)) = true := decide_eq_true c5
   clear c5
   by_cases c6 : 0 ≤ x11_1
   rotate_left
   ·
    rw [if_neg c6] at H
    exact absurd H (by simp)
   rw [if_pos c6] at H
   have c6b0 : decide (0 ≤ x11_1) = true := decide_eq_true c6
   clear c6
   by_cases c7 : x11_1 < (l0.length : Int)
   rotate_left
   ·
    rw [if_neg c7] at H
    exact absurd H (by simp)
   rw [if_pos c7] at H
   have c7b0 : decide (x11_1 < (l0.length : Int)) = true := decide_eq_true c7
   clear c7
   by_cases c8 : (rd l0 x11_1) = 1
   ·
    rw [if_pos c8] at H
    have c8b0 : ((rd l0 x11_1) == 1) = true := beq_iff_eq.mpr c8
    have c8b1 : ((rd l0 x11_1) != 1) = false := bne_eq_false_iff_eq.mpr c8
    clear c8
    obtain ⟨t598, A90, H⟩ := Option.bind_eq_some_iff.mp H
    (try dsimp -simprocs only at H)
    have A9 := Aside0.mk A90
    clear A90
    obtain ⟨t601, A100, H⟩ := Option.bind_eq_some_iff.mp H
    (try dsimp -simprocs only at H)
    have A10 := Aside0.mk A100
    clear A100
    have H' := Aside0.mk H
    clear H
    have p597 : 0 ≤ (x11_1 : Int) := of_decide_eq_true (by first | (with_reducible assumption) | assumption)
    have q597 : x11_1 < (l0.length : Int) := of_decide_eq_true (by first | (with_reducible assumption) | assumption)
    obtain ⟨ad597, e597, hx597_0⟩ := Kd.at_int HR0.out x11_1 p597 q597
    cases e597
    replace hx597_0 := (HB.out.cell (World.block_lt_of_cell? w _ hx597_0)).trans hx597_0
    replace p597 := eq_true p597
    replace q597 := eq_true q597
    go_wp2_with (first | ((with_reducible refine gate_callee (f := 68) rfl ?_); refine goesL_ (some 21) rfl rfl Tryd.func68 (by kernel_rfl) rfl #[.slice A1 l1.length c1, .int .i64 x11_1] rfl ga ?_; (with_reducible refine (gimbalref02_Up.calls k1 _ _ l1 x11_1 t598 _ ?side1 ?side2 A9.out).mono ?_); (case side1 => repeat (first | exact (Kd.C_below HR1.out HB.out) | (with_reducible refine Kd.C_alloc ?_ _) | (with_reducible refine Kd.C_drewN ?_ _) | (with_reducible refine Kd.C_drew ?_))); (case side2 => exact HC1.out); rintro e w11 ⟨v599, rfl, ho0, hb⟩; refine ⟨_, rfl, ?_⟩; refine ax3 (Kd.R_elder' (kr HO_5) (Kd.R_base ho0) hb) (Kd.R_lower (Kd.R_new' ho0 (Kd.R_lt (kr HO_5))) (below_size bel)) (below_step bel hb) ?_; clear HO_5; clear HB; intro HO_5 HO600 HB; (try clear hb); (try clear ho0); obtain ⟨Ao12, co12, eo12⟩ := Kd.R_slice HO_5.out; subst eo12; obtain ⟨Ao13, co13, eo13⟩ := Kd.R_slice HO600.out; subst eo13) | ((with_reducible refine gate_callee (f := 46) rfl ?_); refine goesL_ (some 22) rfl rfl Tryd.func46 (by kernel_rfl) rfl #[.slice Ao12 x5_1.length co12, .slice Ao13 t598.length co13] rfl ga ?_; (with_reducible refine (gimbalref02_Add.calls k1 _ _ x5_1 _ _ t598 t601 _ ?side1 ?side2 ?side3 ?side4 A10.out).mono ?_); (case side1 => exact ks HO_5); (case side2 => exact (Kd.R_reads' HO_5.out).2.1); (case side3 => exact ks HO600); (case side4 => exact (Kd.R_reads' HO600.out).2.1); rintro e w14 ⟨v602, rfl, ho0, hb⟩; refine ⟨_, rfl, ?_⟩; refine ax4 (Kd.R_elder' (kr HO_5) (Kd.R_base ho0) hb) (Kd.R_elder' (kr HO600) (Kd.R_base ho0) hb) (Kd.R_lower (Kd.R_new' (Kd.R_new' ho0 (Kd.R_lt (kr HO_5))) (Kd.R_lt (kr HO600))) (below_size bel)) (below_step bel hb) ?_; clear HO_5; clear HO600; clear HB; intro HO_5 HO600 HO603 HB; (try clear hb); (try clear ho0)))
    go_roundg k1
    case measure => have := HK1.out; omega
    case rel => exact ⟨(t601), (wrap64 (x11_1 + 1)), (by first | rfl | (simp; done) | (simp [*]; done)), H', ⟨by have := HK1.out; omega⟩, ⟨by (with_reducible repeat (first | apply Kd.R_alloc | apply Kd.R_drewN | apply Kd.R_drew)); exact Kd.R_mono HO603.out (fun _ hk => trivial)⟩, ⟨bel⟩⟩
   ·
    rw [if_neg c8] at H
    have c8b0 : ((rd l0 x11_1) == 1) = false := beq_eq_false_iff_ne.mpr c8
    have c8b1 : ((rd l0 x11_1) != 1) = true := bne_iff_ne.mpr c8
    have H' := Aside0.mk H
    clear H
    have p597 : 0 ≤ (x11_1 : Int) := of_decide_eq_true (by first | (with_reducible assumption) | assumption)
    have q597 : x11_1 < (l0.length : Int) := of_decide_eq_true (by first | (with_reducible assumption) | assumption)
    obtain ⟨ad597, e597, hx597_0⟩ := Kd.at_int HR0.out x11_1 p597 q597
    cases e597
    replace hx597_0 := (HB.out.cell (World.block_lt_of_cell? w _ hx597_0)).trans hx597_0
    replace p597 := eq_true p597
    replace q597 := eq_true q597
    go_wp2
    go_roundg k1
    case measure => have := HK1.out; omega
    case rel => exact ⟨(x5_1), (wrap64 (x11_1 + 1)), (by first | rfl | (simp; done) | (simp [*]; done)), H', ⟨by have := HK1.out; omega⟩, ⟨kr HO_5⟩, ⟨bel⟩⟩
end Go.Proofs.YtakegikedpcilaaDoor.F

-- Written by a program of this seat's session (mkprint), out of the translation.
import Derived.Test.YtfogmgcpajndcaaShort
import Derived.Test.YtfogmgcpajndcaaFx0
import Derived.Test.YtfogmgcpajndcaaFx2
import Derived.Test.YtfogmgcpajndcaaFx6
import Derived.Test.YtfogmgcpajndcaaFx8
namespace Go.Proofs.Ytfogmgcpajndcaa.F
open Go.RowKit Go.Proofs.YtfogmgcpajndcaaW.PrintWords Go.Proofs.YtfogmgcpajndcaaW.PrintLast Go.Proofs.YtfogmgcpajndcaaW.PrintMore
attribute [local go_sem] max2_int min2_int max_two min_two max_three min_three max_four min_four   -- for this text's walks alone
set_option linter.unusedVariables false
set_option linter.unusedSimpArgs false

/-- A state of type 40 at block g of W; what its slices lead to came in by w0. -/
def IsS40 (w0 W : World) (g : Nat) (f0 : Int) : Prop := W.heap[g]? = some (.cells #[.int .u8 f0] 40 (0, 0)) ∧ w0.heap.size ≤ g
theorem IsS40.grown {w0 W : World} {g : Nat} {f0 : Int} {W1 : World} {row : Option Nat} (h : IsS40 w0 W g f0) (hw : W.grownBy W1 row) (hne : some g ≠ row) : IsS40 w0 W1 g f0 := by
 obtain ⟨hb, hg⟩ := h
 exact ⟨blk_grown hb hw hne, hg⟩
theorem IsS40.own_neN {w0 W : World} {g : Nat} {f0 : Int} {α : Type} {d : Kd α} {e : Nat} {base : Nat} {ok : Nat → Prop} {v : Value} {xs : List α} (h : IsS40 w0 W g f0) (ho : Kd.N d e W base ok v xs) (ht : e ≠ 40) : some g ≠ v.ownBlock := by
 obtain ⟨hb, hg⟩ := h
 exact Kd.N_ne ho hb ht
theorem IsS40.fresh {w0 W : World} {g : Nat} {f0 : Int} (h : IsS40 w0 W g f0) : ∀ k, W.heap.size ≤ k → k ≠ g := by
 obtain ⟨hb, hg⟩ := h
 exact Kd.freshB hb
theorem IsS40.kept {w0 W : World} {g : Nat} {f0 : Int} {W1 : World} {S : Nat → Prop} (h : IsS40 w0 W g f0) (hk : Kept W W1 S) (hne : ¬ S g) : IsS40 w0 W1 g f0 := by
 obtain ⟨hb, hg⟩ := h
 exact ⟨blk_kept hb hk hne, hg⟩
theorem IsS40.below {w0 W : World} {g : Nat} {f0 : Int} {W1 : World} (h : IsS40 w0 W g f0) (hw : Below W.heap.size W W1) : IsS40 w0 W1 g f0 := h.grown (grown_of_below hw none) (by simp)
theorem IsS40.alloc {w0 W : World} {g : Nat} {f0 : Int} (h : IsS40 w0 W g f0) (o : Obj) : IsS40 w0 (W.alloc o) g f0 := h.below (below_alloc (Below.refl _ _) o)
theorem IsS40.drewN {w0 W : World} {g : Nat} {f0 : Int} (h : IsS40 w0 W g f0) (m : Nat) : IsS40 w0 (W.drewN m) g f0 := h
theorem IsS40.drew {w0 W : World} {g : Nat} {f0 : Int} (h : IsS40 w0 W g f0) : IsS40 w0 W.drew g f0 := h
theorem IsS40.at_ {w0 W : World} {g : Nat} {f0 : Int} {w' : World} {m : Nat} (hq : W.drewN m = w') (h : IsS40 w0 W g f0) : IsS40 w0 w' g f0 := by subst hq; exact IsS40.drewN h m
theorem IsS40.apart {w0 W : World} {g : Nat} {f0 : Int} {α : Type} {d : Kd α} {e : Nat} {base : Nat} {ok : Nat → Prop} {v : Value} {xs : List α} (h : IsS40 w0 W g f0) (ho : d.R e W base ok v xs) (ht : ∀ q, q ∈ e :: d.E → q ≠ 40) : d.R e W base (fun k => ok k ∧ k ≠ g) v xs := by
 obtain ⟨hb, hg⟩ := h
 exact Kd.R_types ho hb ht
theorem IsS40.own_ne {w0 W : World} {g : Nat} {f0 : Int} {α : Type} {d : Kd α} {e : Nat} {base : Nat} {ok : Nat → Prop} {v : Value} {xs : List α} (h : IsS40 w0 W g f0) (ho : d.R e W base ok v xs) (ht : e ≠ 40) : some g ≠ v.ownBlock := by
 obtain ⟨hb, hg⟩ := h
 exact Kd.R_ne ho hb ht
theorem IsS40.apartQ {w0 W : World} {g : Nat} {f0 : Int} {α : Type} {d : Kd α} {e : Nat} {base : Nat} {ok : Nat → Prop} {v : Value} {xs : List α} (h : IsS40 w0 W g f0) (ho : d.Q e W base ok v xs) (ht : ∀ q, q ∈ e :: d.E → q ≠ 40) : d.Q e W base (fun k => ok k ∧ k ≠ g) v xs := by
 obtain ⟨hb, hg⟩ := h
 exact Kd.Q_types ho hb ht
theorem IsS40.own_neQ {w0 W : World} {g : Nat} {f0 : Int} {α : Type} {d : Kd α} {e : Nat} {base : Nat} {ok : Nat → Prop} {v : Value} {xs : List α} (h : IsS40 w0 W g f0) (ho : d.Q e W base ok v xs) (ht : e ≠ 40) : some g ≠ v.ownBlock := by
 obtain ⟨hb, hg⟩ := h
 exact Kd.Q_ne ho hb ht
theorem IsS40.apartS {w0 W : World} {g : Nat} {f0 : Int} {α : Type} {d : Kd α} {e : Nat} {base : Nat} {ok : Nat → Prop} {v : Value} {xs : List α} (h : IsS40 w0 W g f0) (ho : d.S e W base ok v xs) (ht : ∀ q, q ∈ e :: d.E → q ≠ 40) : d.S e W base (fun k => ok k ∧ k ≠ g) v xs := by
 obtain ⟨hb, hg⟩ := h
 exact Kd.S_types ho hb ht
theorem IsS40.own_neS {w0 W : World} {g : Nat} {f0 : Int} {α : Type} {d : Kd α} {e : Nat} {base : Nat} {ok : Nat → Prop} {v : Value} {xs : List α} (h : IsS40 w0 W g f0) (ho : d.S e W base ok v xs) (ht : e ≠ 40) : some g ≠ v.ownBlock := by
 obtain ⟨hb, hg⟩ := h
 exact Kd.S_ne ho hb ht
theorem IsS40.lt {w0 W : World} {g : Nat} {f0 : Int} (h : IsS40 w0 W g f0) : g < W.heap.size := by
 obtain ⟨hb, hg⟩ := h
 exact blk_lt hb
theorem IsS40.ge {w0 W : World} {g : Nat} {f0 : Int} (h : IsS40 w0 W g f0) : w0.heap.size ≤ g := by
 obtain ⟨hb, hg⟩ := h
 exact hg
theorem IsS40.ne_blk {w0 W : World} {g : Nat} {f0 : Int} {a : Nat} {cs : Array Value} {t : TypeId} {fr : Nat × Nat} (h : IsS40 w0 W g f0) (hb2 : W.heap[a]? = some (.cells cs t fr)) (ht : t ≠ 40) : g ≠ a := by
 obtain ⟨hb, hg⟩ := h
 rintro rfl
 rw [hb] at hb2
 injection hb2 with hb2
 injection hb2 with _ ht2
 exact ht ht2.symm
theorem IsS40.far {w0 W : World} {g : Nat} {f0 : Int} {p : Addr} (h : IsS40 w0 W g f0) (hne : g ≠ p.block) (u : Value) : IsS40 w0 (W.setCell p u) g f0 := by
 obtain ⟨hb, hg⟩ := h
 exact ⟨blk_far hb hne u, hg⟩
theorem cellS40_0 {W : World} {g : Nat} {f0 : Int} (h : W.heap[g]? = some (.cells #[.int .u8 f0] 40 (0, 0))) : W.cell? ⟨g, 0, none⟩ = some (.int .u8 f0) := (blk_cell h 0).trans rfl
theorem IsS40.set_0 {w0 W : World} {g : Nat} {f0 : Int} (h : IsS40 w0 W g f0) (x : Int) : IsS40 w0 (W.setCell ⟨g, 0, none⟩ (.int .u8 x)) g x := by
 obtain ⟨hb, hg⟩ := h
 exact ⟨by simpa using blk_set hb 0 (.int .u8 x), hg⟩
theorem IsS40.new (w0 W : World) (f0 : Int) (hB : Below w0.heap.size w0 W) : IsS40 w0 (W.alloc (.cells #[.int .u8 f0] 40)) W.heap.size f0 := ⟨by simpa using heap_alloc_new W _, hB.size⟩
theorem ss40 {q p : Prop} (h0 : Aside0 q) (h : q → p := by intro h; repeat (first | (with_reducible first | exact h | apply IsS40.alloc | apply IsS40.drewN | apply IsS40.drew | apply IsS40.set_0 | refine IsS40.far ?_ (Aside0.out (by assumption)) _) | exact h)) : p := h h0.out
theorem sb40 {B : Nat} {w W : World} (h : Below B w W := by repeat (first | (with_reducible first | exact Aside0.out (by assumption) | apply below_alloc | apply pw_below_drewN | apply below_drew1 | refine below_set ?_ (Aside0.out (by assumption)) | refine below_set ?_ (IsS40.ge (Aside0.out (by assumption)))) | exact Aside0.out (by assumption))) : Below B w W := h

/-! ### soft_Calc_note: function 28 -/
def soft_Calc_note.f (s0_0 : Int) (a1 : Int) (a2 : Int) : Option (Int × Int) := some (a1, Go.bits .or .u8 s0_0 a2)
set_option maxHeartbeats 8000000 in
set_option maxRecDepth 100000 in
theorem soft_Calc_note.calls (g : Nat) (s0_0 : Int) (a1 : Int) (a2 : Int) (r1 : Int) (r2 : Int) (w0 w : World) (hI : IsS40 w0 w g s0_0) (hB : Below w0.heap.size w0 w) (h : soft_Calc_note.f s0_0 a1 a2 = some (r1, r2)) :
  Calls Try.prog 28 #[.pointer (some ⟨g, 0, none⟩), .int .u64 a1, .int .u8 a2] w fun e w' => e = .returned (.int .u64 r1) ∧ IsS40 w0 w' g r2 ∧ Below w0.heap.size w0 w' ∧ KeepBut w w' g none := by
 have HI0 := Aside0.mk hI
 have HK := Aside0.mk (KeepBut.refl w g none)
 have HL := Aside0.mk hB.size
 clear hI
 have HW0 := Aside0.mk hB.size
 have HB := Aside0.mk hB
 clear hB
 have H : (some (a1, Go.bits .or .u8 s0_0 a2)) = some (r1, r2) := h
 clear h
 simp only [Option.some.injEq, Prod.mk.injEq] at H
 obtain ⟨rfl, rfl⟩ := H
 obtain ⟨HGz4, hgz4⟩ := HI0.out
 have hcz4_0 := cellS40_0 HGz4
 have hfz4_0 := blk_frozen HGz4 0
 clear HGz4 hgz4
 go_enter Try.func28, Try.ntmps28
 go_wp2
 go_ret
 exact ⟨er, by repeat (first | (with_reducible first | exact HI0.out | apply IsS40.alloc | apply IsS40.drewN | apply IsS40.drew | apply IsS40.set_0) | exact HI0.out), by repeat (first | (with_reducible first | exact HB.out | apply below_alloc | apply pw_below_drewN | apply below_drew1 | refine below_set ?_ (IsS40.ge HI0.out)) | exact HB.out), by repeat (first | (with_reducible first | exact HK.out | apply KeepBut.set_ | apply keep_drewN | apply keep_drew | apply keep_alloc) | exact HK.out)⟩

/-! ### soft_Calc_Add: function 19 -/
def soft_Calc_Add.f (k : Nat) (s0_0 : Int) (a1 : Int) (a2 : Int) : Option (Int × Int) := (soft_Add.f k a1 a2).bind fun bt233 => ((soft_Calc_note.f s0_0 bt233.1 bt233.2).bind fun bt235 => (some (bt235.1, bt235.2)))
theorem soft_Calc_Add.mono : ∀ a0 a1 a2 k, LeO (soft_Calc_Add.f k a0 a1 a2) (soft_Calc_Add.f (k + 1) a0 a1 a2) := by
 intro a0 a1 a2 k
 unfold soft_Calc_Add.f
 repeat' with_reducible first | apply soft_Add.mono | exact LeO.refl _ | exact LeO.none _ | refine LeO.ite ?_ ?_ | refine LeO.bind ?_ (fun _ => ?_)
set_option maxHeartbeats 8000000 in
set_option maxRecDepth 100000 in
theorem soft_Calc_Add.calls (k : Nat) (g : Nat) (s0_0 : Int) (a1 : Int) (a2 : Int) (r1 : Int) (r2 : Int) (w0 w : World) (hI : IsS40 w0 w g s0_0) (hB : Below w0.heap.size w0 w) (h : soft_Calc_Add.f k s0_0 a1 a2 = some (r1, r2)) :
  Calls Try.prog 19 #[.pointer (some ⟨g, 0, none⟩), .int .u64 a1, .int .u64 a2] w fun e w' => e = .returned (.int .u64 r1) ∧ IsS40 w0 w' g r2 ∧ Below w0.heap.size w0 w' ∧ KeepBut w w' g none := by
 have HI0 := Aside0.mk hI
 have HK := Aside0.mk (KeepBut.refl w g none)
 have HL := Aside0.mk hB.size
 clear hI
 have HW0 := Aside0.mk hB.size
 have HB := Aside0.mk hB
 clear hB
 have H : ((soft_Add.f k a1 a2).bind fun bt233 => ((soft_Calc_note.f s0_0 bt233.1 bt233.2).bind fun bt235 => (some (bt235.1, bt235.2)))) = some (r1, r2) := h
 clear h
 obtain ⟨⟨t233, t234⟩, A40, H⟩ := Option.bind_eq_some_iff.mp H
 (try dsimp -simprocs only at H)
 have A4 := Aside0.mk A40
 clear A40
 obtain ⟨⟨t235, t236⟩, A50, H⟩ := Option.bind_eq_some_iff.mp H
 (try dsimp -simprocs only at H)
 have A5 := Aside0.mk A50
 clear A50
 simp only [Option.some.injEq, Prod.mk.injEq] at H
 obtain ⟨rfl, rfl⟩ := H
 go_enter Try.func19, Try.ntmps19
 go_wp2_with (first | ((with_reducible refine gate_callee (f := 30) rfl ?_); refine goesL_ (some 10) rfl rfl Try.func30 (by kernel_rfl) rfl #[.int .u64 a1, .int .u64 a2] rfl ga ?_; (with_reducible refine (soft_Add.calls k a1 a2 t233 t234 _ A4.out).mono ?_); rintro e w6 ⟨rfl, hb⟩; refine ⟨_, rfl, ?_⟩; refine ax3 (IsS40.below (ss40 HI0) hb) (KeepBut.trans (kz HK) (KeepBut.of_below hb g none) (.inl rfl)) (below_step sb40 hb) ?_; clear HI0; clear HK; clear HB; intro HI0 HK HB; (try clear hb)) | ((with_reducible refine gate_callee (f := 28) rfl ?_); refine goesL_ (some 13) rfl rfl Try.func28 (by kernel_rfl) rfl #[.pointer (some ⟨g, 0, none⟩), .int .u64 t233, .int .u8 t234] rfl ga ?_; (with_reducible refine (soft_Calc_note.calls g s0_0 t233 t234 t235 t236 w0 _ ?side1 ?side2 A5.out).mono ?_); (case side1 => repeat (first | (with_reducible first | exact HI0.out | apply IsS40.alloc | apply IsS40.drewN | apply IsS40.drew | apply IsS40.set_0) | exact HI0.out)); (case side2 => repeat (first | (with_reducible first | exact HB.out | apply below_alloc | apply pw_below_drewN | apply below_drew1 | refine below_set ?_ (IsS40.ge HI0.out)) | exact HB.out)); rintro e w7 ⟨rfl, hi, hb, hk⟩; refine ⟨_, rfl, ?_⟩; refine ax3 (KeepBut.trans (kz HK) hk (.inl rfl)) hb hi ?_; clear HK; clear HB; clear HI0; intro HK HB HI0; (try clear hb)))
 go_ret
 exact ⟨er, by repeat (first | (with_reducible first | exact HI0.out | apply IsS40.alloc | apply IsS40.drewN | apply IsS40.drew | apply IsS40.set_0) | exact HI0.out), by repeat (first | (with_reducible first | exact HB.out | apply below_alloc | apply pw_below_drewN | apply below_drew1 | refine below_set ?_ (IsS40.ge HI0.out)) | exact HB.out), by repeat (first | (with_reducible first | exact HK.out | apply KeepBut.set_ | apply keep_drewN | apply keep_drew | apply keep_alloc) | exact HK.out)⟩

/-! ### soft_Calc_Mul: function 18 -/
def soft_Calc_Mul.f (k : Nat) (s0_0 : Int) (a1 : Int) (a2 : Int) : Option (Int × Int) := (soft_Mul.f k a1 a2).bind fun bt312 => ((soft_Calc_note.f s0_0 bt312.1 bt312.2).bind fun bt314 => (some (bt314.1, bt314.2)))
theorem soft_Calc_Mul.mono : ∀ a0 a1 a2 k, LeO (soft_Calc_Mul.f k a0 a1 a2) (soft_Calc_Mul.f (k + 1) a0 a1 a2) := by
 intro a0 a1 a2 k
 unfold soft_Calc_Mul.f
 repeat' with_reducible first | apply soft_Mul.mono | exact LeO.refl _ | exact LeO.none _ | refine LeO.ite ?_ ?_ | refine LeO.bind ?_ (fun _ => ?_)
set_option maxHeartbeats 8000000 in
set_option maxRecDepth 100000 in
theorem soft_Calc_Mul.calls (k : Nat) (g : Nat) (s0_0 : Int) (a1 : Int) (a2 : Int) (r1 : Int) (r2 : Int) (w0 w : World) (hI : IsS40 w0 w g s0_0) (hB : Below w0.heap.size w0 w) (h : soft_Calc_Mul.f k s0_0 a1 a2 = some (r1, r2)) :
  Calls Try.prog 18 #[.pointer (some ⟨g, 0, none⟩), .int .u64 a1, .int .u64 a2] w fun e w' => e = .returned (.int .u64 r1) ∧ IsS40 w0 w' g r2 ∧ Below w0.heap.size w0 w' ∧ KeepBut w w' g none := by
 have HI0 := Aside0.mk hI
 have HK := Aside0.mk (KeepBut.refl w g none)
 have HL := Aside0.mk hB.size
 clear hI
 have HW0 := Aside0.mk hB.size
 have HB := Aside0.mk hB
 clear hB
 have H : ((soft_Mul.f k a1 a2).bind fun bt312 => ((soft_Calc_note.f s0_0 bt312.1 bt312.2).bind fun bt314 => (some (bt314.1, bt314.2)))) = some (r1, r2) := h
 clear h
 obtain ⟨⟨t312, t313⟩, A40, H⟩ := Option.bind_eq_some_iff.mp H
 (try dsimp -simprocs only at H)
 have A4 := Aside0.mk A40
 clear A40
 obtain ⟨⟨t314, t315⟩, A50, H⟩ := Option.bind_eq_some_iff.mp H
 (try dsimp -simprocs only at H)
 have A5 := Aside0.mk A50
 clear A50
 simp only [Option.some.injEq, Prod.mk.injEq] at H
 obtain ⟨rfl, rfl⟩ := H
 go_enter Try.func18, Try.ntmps18
 go_wp2_with (first | ((with_reducible refine gate_callee (f := 29) rfl ?_); refine goesL_ (some 10) rfl rfl Try.func29 (by kernel_rfl) rfl #[.int .u64 a1, .int .u64 a2] rfl ga ?_; (with_reducible refine (soft_Mul.calls k a1 a2 t312 t313 _ A4.out).mono ?_); rintro e w6 ⟨rfl, hb⟩; refine ⟨_, rfl, ?_⟩; refine ax3 (IsS40.below (ss40 HI0) hb) (KeepBut.trans (kz HK) (KeepBut.of_below hb g none) (.inl rfl)) (below_step sb40 hb) ?_; clear HI0; clear HK; clear HB; intro HI0 HK HB; (try clear hb)) | ((with_reducible refine gate_callee (f := 28) rfl ?_); refine goesL_ (some 13) rfl rfl Try.func28 (by kernel_rfl) rfl #[.pointer (some ⟨g, 0, none⟩), .int .u64 t312, .int .u8 t313] rfl ga ?_; (with_reducible refine (soft_Calc_note.calls g s0_0 t312 t313 t314 t315 w0 _ ?side1 ?side2 A5.out).mono ?_); (case side1 => repeat (first | (with_reducible first | exact HI0.out | apply IsS40.alloc | apply IsS40.drewN | apply IsS40.drew | apply IsS40.set_0) | exact HI0.out)); (case side2 => repeat (first | (with_reducible first | exact HB.out | apply below_alloc | apply pw_below_drewN | apply below_drew1 | refine below_set ?_ (IsS40.ge HI0.out)) | exact HB.out)); rintro e w7 ⟨rfl, hi, hb, hk⟩; refine ⟨_, rfl, ?_⟩; refine ax3 (KeepBut.trans (kz HK) hk (.inl rfl)) hb hi ?_; clear HK; clear HB; clear HI0; intro HK HB HI0; (try clear hb)))
 go_ret
 exact ⟨er, by repeat (first | (with_reducible first | exact HI0.out | apply IsS40.alloc | apply IsS40.drewN | apply IsS40.drew | apply IsS40.set_0) | exact HI0.out), by repeat (first | (with_reducible first | exact HB.out | apply below_alloc | apply pw_below_drewN | apply below_drew1 | refine below_set ?_ (IsS40.ge HI0.out)) | exact HB.out), by repeat (first | (with_reducible first | exact HK.out | apply KeepBut.set_ | apply keep_drewN | apply keep_drew | apply keep_alloc) | exact HK.out)⟩

/-! ### mul_Gemm: function 8 -/
mutual
def mul_Gemm.l0 : Nat → Int → Int → Int → Int → Int → Int → List Int → Int → Int → Int → List Int → Int → Int → Int → List Int → Option (Int × Int × Int × List Int × Int × Int)
 | 0, _, _, _, _, _, _, _, _, _, _, _, _, _, _, _ => none
 | k + 1, x27, x28, x1000, x324000, x324001, x324002, x324003, x325000, x325001, x325002, x325003, x334000, x334001, x334002, x334003 => if x28 < x27 then (mul_Gemm.l1 k x28 x27 x28 x334001 0 x1000 x324000 x324001 x324002 x324003 x325000 x325001 x325002 x325003 x334000 x334001 x334002 x334003) else (some (x334000, x334001, x334002, x334003, 0, x1000))
def mul_Gemm.l1 : Nat → Int → Int → Int → Int → Int → Int → Int → Int → Int → List Int → Int → Int → Int → List Int → Int → Int → Int → List Int → Option (Int × Int × Int × List Int × Int × Int)
 | 0, _, _, _, _, _, _, _, _, _, _, _, _, _, _, _, _, _, _ => none
 | k + 1, x10, x27, x28, x32, x33, x1000, x324000, x324001, x324002, x324003, x325000, x325001, x325002, x325003, x334000, x334001, x334002, x334003 => if x33 < x32 then (mul_Gemm.l2 k x10 x33 0 x27 x28 x32 x33 x324001 0 x1000 x324000 x324001 x324002 x324003 x325000 x325001 x325002 x325003 x334000 x334001 x334002 x334003) else (mul_Gemm.l0 k x27 (wrap64 (x28 + 1)) x1000 x324000 x324001 x324002 x324003 x325000 x325001 x325002 x325003 x334000 x334001 x334002 x334003)
def mul_Gemm.l2 : Nat → Int → Int → Int → Int → Int → Int → Int → Int → Int → Int → Int → Int → Int → List Int → Int → Int → Int → List Int → Int → Int → Int → List Int → Option (Int × Int × Int × List Int × Int × Int)
 | 0, _, _, _, _, _, _, _, _, _, _, _, _, _, _, _, _, _, _, _, _, _, _ => none
 | k + 1, x10, x11, x12, x27, x28, x32, x33, x37, x38, x1000, x324000, x324001, x324002, x324003, x325000, x325001, x325002, x325003, x334000, x334001, x334002, x334003 => if x38 < x37 then ((mat_Matrix_At.f x324000 x324001 x324002 x324003 x10 x38).bind fun t335 => ((mat_Matrix_At.f x325000 x325001 x325002 x325003 x38 x11).bind fun t336 => ((soft_Calc_Mul.f k x1000 t335 t336).bind fun bt337 => ((soft_Calc_Add.f k bt337.2 x12 bt337.1).bind fun bt339 => (mul_Gemm.l2 k x10 x11 bt339.1 x27 x28 x32 x33 x37 (wrap64 (x38 + 1)) bt339.2 x324000 x324001 x324002 x324003 x325000 x325001 x325002 x325003 x334000 x334001 x334002 x334003))))) else ((mat_Matrix_Set.f x334000 x334001 x334002 x334003 x10 x11 x12).bind fun t334 => (mul_Gemm.l1 k x10 x27 x28 x32 (wrap64 (x33 + 1)) x1000 x324000 x324001 x324002 x324003 x325000 x325001 x325002 x325003 x334000 x334001 x334002 t334))
end
def mul_Gemm.f (k : Nat) (s0_0 : Int) (a1_0 : Int) (a1_1 : Int) (a1_2 : Int) (l1_3 : List Int) (a2_0 : Int) (a2_1 : Int) (a2_2 : Int) (l2_3 : List Int) : Option (Int × Int × Int × List Int × Int × Int) := (mul_fits.f k a1_0 a1_1 a1_2 l1_3 a2_0 a2_1 a2_2 l2_3).bind fun t326 => (if t326 = 0 then ((mat_New.f a1_0 a2_1).bind fun bt327 => (mul_Gemm.l0 k bt327.1 0 s0_0 a1_0 a1_1 a1_2 l1_3 a2_0 a2_1 a2_2 l2_3 bt327.1 bt327.2.1 bt327.2.2.1 bt327.2.2.2)) else (some (0, 0, 0, ([] : List Int), t326, s0_0)))
theorem mul_Gemm.mono_l : ∀ k, (∀ y0 y1 y2 y3 y4 y5 y6 y7 y8 y9 y10 y11 y12 y13 y14, LeO (mul_Gemm.l0 k y0 y1 y2 y3 y4 y5 y6 y7 y8 y9 y10 y11 y12 y13 y14) (mul_Gemm.l0 (k + 1) y0 y1 y2 y3 y4 y5 y6 y7 y8 y9 y10 y11 y12 y13 y14)) ∧ (∀ y0 y1 y2 y3 y4 y5 y6 y7 y8 y9 y10 y11 y12 y13 y14 y15 y16 y17, LeO (mul_Gemm.l1 k y0 y1 y2 y3 y4 y5 y6 y7 y8 y9 y10 y11 y12 y13 y14 y15 y16 y17) (mul_Gemm.l1 (k + 1) y0 y1 y2 y3 y4 y5 y6 y7 y8 y9 y10 y11 y12 y13 y14 y15 y16 y17)) ∧ (∀ y0 y1 y2 y3 y4 y5 y6 y7 y8 y9 y10 y11 y12 y13 y14 y15 y16 y17 y18 y19 y20 y21, LeO (mul_Gemm.l2 k y0 y1 y2 y3 y4 y5 y6 y7 y8 y9 y10 y11 y12 y13 y14 y15 y16 y17 y18 y19 y20 y21) (mul_Gemm.l2 (k + 1) y0 y1 y2 y3 y4 y5 y6 y7 y8 y9 y10 y11 y12 y13 y14 y15 y16 y17 y18 y19 y20 y21))
 | 0 => ⟨fun _ _ _ _ _ _ _ _ _ _ _ _ _ _ _ r h => by simp [mul_Gemm.l0] at h, fun _ _ _ _ _ _ _ _ _ _ _ _ _ _ _ _ _ _ r h => by simp [mul_Gemm.l1] at h, fun _ _ _ _ _ _ _ _ _ _ _ _ _ _ _ _ _ _ _ _ _ _ r h => by simp [mul_Gemm.l2] at h⟩
 | k + 1 => by
  obtain ⟨ih0, ih1, ih2⟩ := mul_Gemm.mono_l k
  refine ⟨?_, ?_, ?_⟩ <;> intros <;> (first | unfold mul_Gemm.l0 | unfold mul_Gemm.l1 | unfold mul_Gemm.l2) <;>
   repeat' with_reducible first | apply ih0 | apply ih1 | apply ih2 | apply mul_fits.mono | apply soft_Calc_Add.mono | apply soft_Calc_Mul.mono | exact LeO.refl _ | exact LeO.none _ | refine LeO.ite ?_ ?_ | refine LeO.bind ?_ (fun _ => ?_)
theorem mul_Gemm.mono : ∀ a0 a1 a2 a3 a4 a5 a6 a7 a8 k, LeO (mul_Gemm.f k a0 a1 a2 a3 a4 a5 a6 a7 a8) (mul_Gemm.f (k + 1) a0 a1 a2 a3 a4 a5 a6 a7 a8) := by
 intro a0 a1 a2 a3 a4 a5 a6 a7 a8 k
 obtain ⟨ih0, ih1, ih2⟩ := mul_Gemm.mono_l k
 unfold mul_Gemm.f
 repeat' with_reducible first | apply ih0 | apply ih1 | apply ih2 | apply mul_fits.mono | apply soft_Calc_Add.mono | apply soft_Calc_Mul.mono | exact LeO.refl _ | exact LeO.none _ | refine LeO.ite ?_ ?_ | refine LeO.bind ?_ (fun _ => ?_)
def mul_Gemm.T15 : Bool × List (List Nat × List Nat) := (true, [([], []), ([], []), ([], []), ([], []), ([], []), ([], []), ([3, 4, 5], [3, 4, 5]), ([], []), ([], []), ([], []), ([7, 8, 9, 6], [7, 8, 9]), ([2, 6, 10, 10], [2, 6, 10]), ([0, 1, 11, 11], [0, 1, 11]), ([12, 12, 0, 1, 2, 3, 4, 5, 6, 7, 8, 9, 10, 11, 12], [1, 12])])
def mul_Gemm.B15 : List Nat := [0, 0, 0, 0, 0, 0, 56, 0, 0, 0, 1016, 2044, 4095, 8191]
theorem mul_Gemm.tab15 : rtab .any (opsOf Try.f8 15) = mul_Gemm.T15 := by kernel_rfl
theorem mul_Gemm.bits15 : waitsOk mul_Gemm.T15.2 mul_Gemm.B15 = true := by kernel_rfl
set_option maxHeartbeats 8000000 in
set_option maxRecDepth 100000 in
theorem mul_Gemm.calls (k : Nat) (g : Nat) (s0_0 : Int) (a1_0 : Int) (a1_1 : Int) (a1_2 : Int) (A1_3 : Option Addr) (c1_3 : Nat) (l1_3 : List Int) (a2_0 : Int) (a2_1 : Int) (a2_2 : Int) (A2_3 : Option Addr) (c2_3 : Nat) (l2_3 : List Int) (r1 : Int) (r2 : Int) (r3 : Int) (r4 : List Int) (r5 : Int) (r6 : Int) (w0 w : World) (hI : IsS40 w0 w g s0_0) (hB : Below w0.heap.size w0 w) (hr1_3 : Kd.C (Kd.int .u64) w A1_3 l1_3.length l1_3) (hc1_3 : l1_3.length ≤ c1_3) (hf1_3 : ∀ ad, A1_3 = some ad → 0 < l1_3.length → ad.block ≠ g) (hr2_3 : Kd.C (Kd.int .u64) w A2_3 l2_3.length l2_3) (hc2_3 : l2_3.length ≤ c2_3) (hf2_3 : ∀ ad, A2_3 = some ad → 0 < l2_3.length → ad.block ≠ g) (h : mul_Gemm.f k s0_0 a1_0 a1_1 a1_2 l1_3 a2_0 a2_1 a2_2 l2_3 = some (r1, r2, r3, r4, r5, r6)) :
  Calls Try.prog 8 #[.pointer (some ⟨g, 0, none⟩), .agg #[.int .i64 a1_0, .int .i64 a1_1, .int .i64 a1_2, .slice A1_3 l1_3.length c1_3], .agg #[.int .i64 a2_0, .int .i64 a2_1, .int .i64 a2_2, .slice A2_3 l2_3.length c2_3]] w fun e w' => ∃ v3_ : Value, e = .returned (.tuple #[.agg #[.int .i64 r1, .int .i64 r2, .int .i64 r3, v3_], .int .i64 r5]) ∧ Kd.R (Kd.int .u64) 33 w' w.heap.size (fun _ => True) v3_ r4 ∧ IsS40 w0 w' g r6 ∧ Below w0.heap.size w0 w' ∧ KeepBut w w' g none := by
 have hu25 := Try.underlying25
 have HR1_3 := Aside0.mk hr1_3
 have HC1_3 := Aside0.mk hc1_3
 clear hr1_3 hc1_3
 have HR2_3 := Aside0.mk hr2_3
 have HC2_3 := Aside0.mk hc2_3
 clear hr2_3 hc2_3
 have HI0 := Aside0.mk hI
 have HK := Aside0.mk (KeepBut.refl w g none)
 have HL := Aside0.mk hB.size
 clear hI
 have HW0 := Aside0.mk hB.size
 have HB := Aside0.mk hB
 clear hB
 have H : ((mul_fits.f k a1_0 a1_1 a1_2 l1_3 a2_0 a2_1 a2_2 l2_3).bind fun t326 => (if t326 = 0 then ((mat_New.f a1_0 a2_1).bind fun bt327 => (mul_Gemm.l0 k bt327.1 0 s0_0 a1_0 a1_1 a1_2 l1_3 a2_0 a2_1 a2_2 l2_3 bt327.1 bt327.2.1 bt327.2.2.1 bt327.2.2.2)) else (some (0, 0, 0, ([] : List Int), t326, s0_0)))) = some (r1, r2, r3, r4, r5, r6) := h
 clear h
 obtain ⟨t326, A40, H⟩ := Option.bind_eq_some_iff.mp H
 (try dsimp -simprocs only at H)
 have A4 := Aside0.mk A40
 clear A40
 by_cases c5 : t326 = 0
 rotate_left
 ·
  rw [if_neg c5] at H
  have c5b0 : (t326 == 0) = false := beq_eq_false_iff_ne.mpr c5
  have c5b1 : (t326 != 0) = true := bne_iff_ne.mpr c5
  simp only [Option.some.injEq, Prod.mk.injEq] at H
  obtain ⟨rfl, rfl, rfl, rfl, rfl, rfl⟩ := H
  go_enter Try.func8, Try.ntmps8
  go_wp2_with (first | ((with_reducible refine gate_dst (N := 4) rfl ?_); refine gbox (N := 4) (cs := #[.int .i64 a1_0, .int .i64 a1_1, .int .i64 a1_2, .slice A1_3 l1_3.length c1_3]) (t := 25) ?_; intro gb323 hg w68 hbox hb; refine ax8 (IsS40.below (ss40 HI0) hb) (KeepBut.trans (kz HK) (KeepBut.of_below hb g none) (.inl rfl)) (below_step sb40 hb) hbox ((by rw [hg]; exact (keep_size (w := w) (g := g) (row := none) (kz HK)) : w.heap.size ≤ gb323)) ((Nat.le_trans HW0.out (by rw [hg]; exact (keep_size (w := w) (g := g) (row := none) (kz HK)) : w.heap.size ≤ gb323) : w0.heap.size ≤ gb323)) ((by rw [hg]; exact Nat.ne_of_lt (IsS40.lt (show IsS40 w0 _ g s0_0 from ss40 HI0)) : g ≠ gb323)) ((by rw [hg]; exact Nat.ne_of_gt (IsS40.lt (show IsS40 w0 _ g s0_0 from ss40 HI0)) : gb323 ≠ g)) ?_; clear HI0; clear HK; clear HB; intro HI0 HK HB BK323 GW323 GE323 NB0_323 NB323_0; clear hb hbox hg) | ((with_reducible refine gate_dst (N := 5) rfl ?_); refine gbox (N := 5) (cs := #[.int .i64 a2_0, .int .i64 a2_1, .int .i64 a2_2, .slice A2_3 l2_3.length c2_3]) (t := 25) ?_; intro gb324 hg w69 hbox hb; refine ax11 (IsS40.below (ss40 HI0) hb) (bb BK323 hb) (KeepBut.trans (ky HK) (KeepBut.of_below hb g none) (.inl rfl)) (below_step sb40 hb) hbox ((by rw [hg]; exact (keep_size (w := w) (g := g) (row := none) (ky HK)) : w.heap.size ≤ gb324)) ((Nat.le_trans HW0.out (by rw [hg]; exact (keep_size (w := w) (g := g) (row := none) (ky HK)) : w.heap.size ≤ gb324) : w0.heap.size ≤ gb324)) (nl hg BK323) (ng hg BK323) ((by rw [hg]; exact Nat.ne_of_lt (IsS40.lt (show IsS40 w0 _ g s0_0 from ss40 HI0)) : g ≠ gb324)) ((by rw [hg]; exact Nat.ne_of_gt (IsS40.lt (show IsS40 w0 _ g s0_0 from ss40 HI0)) : gb324 ≠ g)) ?_; clear HI0; clear BK323; clear HK; clear HB; intro HI0 BK323 HK HB BK324 GW324 GE324 NB323_324 NB324_323 NB0_324 NB324_0; clear hb hbox hg) | ((with_reducible refine gate_dst (N := 6) rfl ?_); refine gbox (N := 6) (cs := #[.int .i64 0, .int .i64 0, .int .i64 0, .slice none 0 0]) (t := 25) ?_; intro gb325 hg w70 hbox hb; refine ax14 (IsS40.below (ss40 HI0) hb) (bb BK323 hb) (bb BK324 hb) (KeepBut.trans (ky HK) (KeepBut.of_below hb g none) (.inl rfl)) (below_step sb40 hb) hbox ((by rw [hg]; exact (keep_size (w := w) (g := g) (row := none) (ky HK)) : w.heap.size ≤ gb325)) ((Nat.le_trans HW0.out (by rw [hg]; exact (keep_size (w := w) (g := g) (row := none) (ky HK)) : w.heap.size ≤ gb325) : w0.heap.size ≤ gb325)) (nl hg BK323) (ng hg BK323) (nl hg BK324) (ng hg BK324) ((by rw [hg]; exact Nat.ne_of_lt (IsS40.lt (show IsS40 w0 _ g s0_0 from ss40 HI0)) : g ≠ gb325)) ((by rw [hg]; exact Nat.ne_of_gt (IsS40.lt (show IsS40 w0 _ g s0_0 from ss40 HI0)) : gb325 ≠ g)) ?_; clear HI0; clear BK323; clear BK324; clear HK; clear HB; intro HI0 BK323 BK324 HK HB BK325 GW325 GE325 NB323_325 NB325_323 NB324_325 NB325_324 NB0_325 NB325_0; clear hb hbox hg; have hnb71 := NB323_324.out; have hnc71 := NB324_323.out; have hnb72 := NB323_325.out; have hnc72 := NB325_323.out; have hnb73 := NB323_0.out; have hnc73 := NB0_323.out; have hcz74_0 := bc BK323 0 rfl; have hcz74_1 := bc BK323 1 rfl; have hcz74_2 := bc BK323 2 rfl; have hcz74_3 := bc BK323 3 rfl; have hfz74_0 := blk_frozen BK323.out 0; have hfz74_1 := blk_frozen BK323.out 1; have hfz74_2 := blk_frozen BK323.out 2; have hfz74_3 := blk_frozen BK323.out 3; have hnb75 := NB324_325.out; have hnc75 := NB325_324.out; have hnb76 := NB324_0.out; have hnc76 := NB0_324.out; have hcz77_0 := bc BK324 0 rfl; have hcz77_1 := bc BK324 1 rfl; have hcz77_2 := bc BK324 2 rfl; have hcz77_3 := bc BK324 3 rfl; have hfz77_0 := blk_frozen BK324.out 0; have hfz77_1 := blk_frozen BK324.out 1; have hfz77_2 := blk_frozen BK324.out 2; have hfz77_3 := blk_frozen BK324.out 3) | ((with_reducible refine gate_callee (f := 24) rfl ?_); refine goesL_ (some 16) rfl rfl Try.func24 (by kernel_rfl) rfl #[.agg #[.int .i64 a1_0, .int .i64 a1_1, .int .i64 a1_2, .slice A1_3 l1_3.length c1_3], .agg #[.int .i64 a2_0, .int .i64 a2_1, .int .i64 a2_2, .slice A2_3 l2_3.length c2_3]] rfl ga ?_; (with_reducible refine (mul_fits.calls k a1_0 a1_1 a1_2 _ _ l1_3 a2_0 a2_1 a2_2 _ _ l2_3 t326 _ ?side1 ?side2 ?side3 ?side4 A4.out).mono ?_); (case side1 => exact Kd.C_keep 0 HR1_3.out (ky HK) hf1_3); (case side2 => exact HC1_3.out); (case side3 => exact Kd.C_keep 0 HR2_3.out (ky HK) hf2_3); (case side4 => exact HC2_3.out); rintro e w78 ⟨rfl, hb⟩; refine ⟨_, rfl, ?_⟩; refine ax6 (IsS40.below (ss40 HI0) hb) (bb BK323 hb) (bb BK324 hb) (bb BK325 hb) (KeepBut.trans (ky HK) (KeepBut.of_below hb g none) (.inl rfl)) (below_step sb40 hb) ?_; clear HI0; clear BK323; clear BK324; clear BK325; clear HK; clear HB; intro HI0 BK323 BK324 BK325 HK HB; (try clear hb); have hnb79 := NB325_0.out; have hnc79 := NB0_325.out; have hcz80_0 := bc BK325 0 rfl; have hcz80_1 := bc BK325 1 rfl; have hcz80_2 := bc BK325 2 rfl; have hcz80_3 := bc BK325 3 rfl; have hfz80_0 := blk_frozen BK325.out 0; have hfz80_1 := blk_frozen BK325.out 1; have hfz80_2 := blk_frozen BK325.out 2; have hfz80_3 := blk_frozen BK325.out 3))
  refine bodyPost_ret (results_ct rfl _ _ gb325 25 #[.int .i64 0, .int .i64 0, .int .i64 0, .slice none 0 0] (0, 0) _ rfl (bp BK325) Try.underlying25 rfl (by kernel_rfl)) rfl ?_
  exact ⟨_, er, by first | exact Kd.R_nil _ _ _ _ _ | exact Kd.N_nil _ _ _ _ _ | exact Kd.V_nil _ _ _ _ _ | exact Kd.Q_nil _ _ _ _ _ | exact Kd.S_nil _ _ _ _ _, by repeat (first | (with_reducible first | exact HI0.out | apply IsS40.alloc | apply IsS40.drewN | apply IsS40.drew | apply IsS40.set_0 | refine IsS40.far ?_ NB0_323.out _ | refine IsS40.far ?_ NB0_324.out _ | refine IsS40.far ?_ NB0_325.out _) | exact HI0.out), by repeat (first | (with_reducible first | exact HB.out | apply below_alloc | apply pw_below_drewN | apply below_drew1 | refine below_set ?_ (IsS40.ge HI0.out) | refine below_set ?_ GE323.out | refine below_set ?_ GE324.out | refine below_set ?_ GE325.out) | exact HB.out), by repeat (first | (with_reducible first | exact HK.out | apply KeepBut.set_ | apply keep_drewN | apply keep_drew | apply keep_alloc | refine keep_far ?_ GW323.out _ | refine keep_far ?_ GW324.out _ | refine keep_far ?_ GW325.out _) | exact HK.out)⟩

 rw [if_pos c5] at H
 have c5b0 : (t326 == 0) = true := beq_iff_eq.mpr c5
 have c5b1 : (t326 != 0) = false := bne_eq_false_iff_eq.mpr c5
 clear c5
 obtain ⟨⟨t327, t328, t329, t330⟩, A60, H⟩ := Option.bind_eq_some_iff.mp H
 (try dsimp -simprocs only at H)
 have A6 := Aside0.mk A60
 clear A60
 have H' := Aside0.mk H
 clear H
 go_enter Try.func8, Try.ntmps8
 go_wp2_with (first | ((with_reducible refine gate_dst (N := 4) rfl ?_); refine gbox (N := 4) (cs := #[.int .i64 a1_0, .int .i64 a1_1, .int .i64 a1_2, .slice A1_3 l1_3.length c1_3]) (t := 25) ?_; intro gb323 hg w7 hbox hb; refine ax8 (IsS40.below (ss40 HI0) hb) (KeepBut.trans (kz HK) (KeepBut.of_below hb g none) (.inl rfl)) (below_step sb40 hb) hbox ((by rw [hg]; exact (keep_size (w := w) (g := g) (row := none) (kz HK)) : w.heap.size ≤ gb323)) ((Nat.le_trans HW0.out (by rw [hg]; exact (keep_size (w := w) (g := g) (row := none) (kz HK)) : w.heap.size ≤ gb323) : w0.heap.size ≤ gb323)) ((by rw [hg]; exact Nat.ne_of_lt (IsS40.lt (show IsS40 w0 _ g s0_0 from ss40 HI0)) : g ≠ gb323)) ((by rw [hg]; exact Nat.ne_of_gt (IsS40.lt (show IsS40 w0 _ g s0_0 from ss40 HI0)) : gb323 ≠ g)) ?_; clear HI0; clear HK; clear HB; intro HI0 HK HB BK323 GW323 GE323 NB0_323 NB323_0; clear hb hbox hg) | ((with_reducible refine gate_dst (N := 5) rfl ?_); refine gbox (N := 5) (cs := #[.int .i64 a2_0, .int .i64 a2_1, .int .i64 a2_2, .slice A2_3 l2_3.length c2_3]) (t := 25) ?_; intro gb324 hg w8 hbox hb; refine ax11 (IsS40.below (ss40 HI0) hb) (bb BK323 hb) (KeepBut.trans (ky HK) (KeepBut.of_below hb g none) (.inl rfl)) (below_step sb40 hb) hbox ((by rw [hg]; exact (keep_size (w := w) (g := g) (row := none) (ky HK)) : w.heap.size ≤ gb324)) ((Nat.le_trans HW0.out (by rw [hg]; exact (keep_size (w := w) (g := g) (row := none) (ky HK)) : w.heap.size ≤ gb324) : w0.heap.size ≤ gb324)) (nl hg BK323) (ng hg BK323) ((by rw [hg]; exact Nat.ne_of_lt (IsS40.lt (show IsS40 w0 _ g s0_0 from ss40 HI0)) : g ≠ gb324)) ((by rw [hg]; exact Nat.ne_of_gt (IsS40.lt (show IsS40 w0 _ g s0_0 from ss40 HI0)) : gb324 ≠ g)) ?_; clear HI0; clear BK323; clear HK; clear HB; intro HI0 BK323 HK HB BK324 GW324 GE324 NB323_324 NB324_323 NB0_324 NB324_0; clear hb hbox hg) | ((with_reducible refine gate_dst (N := 6) rfl ?_); refine gbox (N := 6) (cs := #[.int .i64 0, .int .i64 0, .int .i64 0, .slice none 0 0]) (t := 25) ?_; intro gb325 hg w9 hbox hb; refine ax14 (IsS40.below (ss40 HI0) hb) (bb BK323 hb) (bb BK324 hb) (KeepBut.trans (ky HK) (KeepBut.of_below hb g none) (.inl rfl)) (below_step sb40 hb) hbox ((by rw [hg]; exact (keep_size (w := w) (g := g) (row := none) (ky HK)) : w.heap.size ≤ gb325)) ((Nat.le_trans HW0.out (by rw [hg]; exact (keep_size (w := w) (g := g) (row := none) (ky HK)) : w.heap.size ≤ gb325) : w0.heap.size ≤ gb325)) (nl hg BK323) (ng hg BK323) (nl hg BK324) (ng hg BK324) ((by rw [hg]; exact Nat.ne_of_lt (IsS40.lt (show IsS40 w0 _ g s0_0 from ss40 HI0)) : g ≠ gb325)) ((by rw [hg]; exact Nat.ne_of_gt (IsS40.lt (show IsS40 w0 _ g s0_0 from ss40 HI0)) : gb325 ≠ g)) ?_; clear HI0; clear BK323; clear BK324; clear HK; clear HB; intro HI0 BK323 BK324 HK HB BK325 GW325 GE325 NB323_325 NB325_323 NB324_325 NB325_324 NB0_325 NB325_0; clear hb hbox hg; have hnb10 := NB323_324.out; have hnc10 := NB324_323.out; have hnb11 := NB323_325.out; have hnc11 := NB325_323.out; have hnb12 := NB323_0.out; have hnc12 := NB0_323.out; have hcz13_0 := bc BK323 0 rfl; have hcz13_1 := bc BK323 1 rfl; have hcz13_2 := bc BK323 2 rfl; have hcz13_3 := bc BK323 3 rfl; have hfz13_0 := blk_frozen BK323.out 0; have hfz13_1 := blk_frozen BK323.out 1; have hfz13_2 := blk_frozen BK323.out 2; have hfz13_3 := blk_frozen BK323.out 3; have hnb14 := NB324_325.out; have hnc14 := NB325_324.out; have hnb15 := NB324_0.out; have hnc15 := NB0_324.out; have hcz16_0 := bc BK324 0 rfl; have hcz16_1 := bc BK324 1 rfl; have hcz16_2 := bc BK324 2 rfl; have hcz16_3 := bc BK324 3 rfl; have hfz16_0 := blk_frozen BK324.out 0; have hfz16_1 := blk_frozen BK324.out 1; have hfz16_2 := blk_frozen BK324.out 2; have hfz16_3 := blk_frozen BK324.out 3) | ((with_reducible refine gate_callee (f := 24) rfl ?_); refine goesL_ (some 16) rfl rfl Try.func24 (by kernel_rfl) rfl #[.agg #[.int .i64 a1_0, .int .i64 a1_1, .int .i64 a1_2, .slice A1_3 l1_3.length c1_3], .agg #[.int .i64 a2_0, .int .i64 a2_1, .int .i64 a2_2, .slice A2_3 l2_3.length c2_3]] rfl ga ?_; (with_reducible refine (mul_fits.calls k a1_0 a1_1 a1_2 _ _ l1_3 a2_0 a2_1 a2_2 _ _ l2_3 t326 _ ?side1 ?side2 ?side3 ?side4 A4.out).mono ?_); (case side1 => exact Kd.C_keep 0 HR1_3.out (ky HK) hf1_3); (case side2 => exact HC1_3.out); (case side3 => exact Kd.C_keep 0 HR2_3.out (ky HK) hf2_3); (case side4 => exact HC2_3.out); rintro e w17 ⟨rfl, hb⟩; refine ⟨_, rfl, ?_⟩; refine ax6 (IsS40.below (ss40 HI0) hb) (bb BK323 hb) (bb BK324 hb) (bb BK325 hb) (KeepBut.trans (ky HK) (KeepBut.of_below hb g none) (.inl rfl)) (below_step sb40 hb) ?_; clear HI0; clear BK323; clear BK324; clear BK325; clear HK; clear HB; intro HI0 BK323 BK324 BK325 HK HB; (try clear hb); have hcz18_0 := bc BK323 0 rfl; have hcz18_1 := bc BK323 1 rfl; have hcz18_2 := bc BK323 2 rfl; have hcz18_3 := bc BK323 3 rfl; have hfz18_0 := blk_frozen BK323.out 0; have hfz18_1 := blk_frozen BK323.out 1; have hfz18_2 := blk_frozen BK323.out 2; have hfz18_3 := blk_frozen BK323.out 3; have hcz19_0 := bc BK324 0 rfl; have hcz19_1 := bc BK324 1 rfl; have hcz19_2 := bc BK324 2 rfl; have hcz19_3 := bc BK324 3 rfl; have hfz19_0 := blk_frozen BK324.out 0; have hfz19_1 := blk_frozen BK324.out 1; have hfz19_2 := blk_frozen BK324.out 2; have hfz19_3 := blk_frozen BK324.out 3) | ((with_reducible refine gate_callee (f := 20) rfl ?_); refine goesL_ (some 25) rfl rfl Try.func20 (by kernel_rfl) rfl #[.int .i64 a1_0, .int .i64 a2_1] rfl ga ?_; (with_reducible refine (mat_New.calls a1_0 a2_1 t327 t328 t329 t330 _ A6.out).mono ?_); rintro e w20 ⟨v331, rfl, ho0, hb⟩; refine ⟨_, rfl, ?_⟩; refine ax7 (Kd.R_lower ho0 (keep_size (w := w) (g := g) (row := none) (ky HK))) (IsS40.below (ss40 HI0) hb) (bb BK323 hb) (bb BK324 hb) (bb BK325 hb) (KeepBut.trans (ky HK) (KeepBut.of_below hb g none) (.inl rfl)) (below_step sb40 hb) ?_; clear HI0; clear BK323; clear BK324; clear BK325; clear HK; clear HB; intro HO332 HI0 BK323 BK324 BK325 HK HB; (try clear hb); (try clear ho0)) | ((with_reducible refine gate_dst (N := 9) rfl ?_); refine gbox (N := 9) (cs := #[.int .i64 0, .int .i64 0, .int .i64 0, .slice none 0 0]) (t := 25) ?_; intro gb333 hg w21 hbox hb; refine ax18 (Kd.R_below (kr HO332) hb) (IsS40.below (ss40 HI0) hb) (bb BK323 hb) (bb BK324 hb) (bb BK325 hb) (KeepBut.trans (ky HK) (KeepBut.of_below hb g none) (.inl rfl)) (below_step sb40 hb) hbox ((by rw [hg]; exact (keep_size (w := w) (g := g) (row := none) (ky HK)) : w.heap.size ≤ gb333)) ((Nat.le_trans HW0.out (by rw [hg]; exact (keep_size (w := w) (g := g) (row := none) (ky HK)) : w.heap.size ≤ gb333) : w0.heap.size ≤ gb333)) (nl hg BK323) (ng hg BK323) (nl hg BK324) (ng hg BK324) (nl hg BK325) (ng hg BK325) ((by rw [hg]; exact Nat.ne_of_lt (IsS40.lt (show IsS40 w0 _ g s0_0 from ss40 HI0)) : g ≠ gb333)) ((by rw [hg]; exact Nat.ne_of_gt (IsS40.lt (show IsS40 w0 _ g s0_0 from ss40 HI0)) : gb333 ≠ g)) ?_; clear HO332; clear HI0; clear BK323; clear BK324; clear BK325; clear HK; clear HB; intro HO332 HI0 BK323 BK324 BK325 HK HB BK333 GW333 GE333 NB323_333 NB333_323 NB324_333 NB333_324 NB325_333 NB333_325 NB0_333 NB333_0; clear hb hbox hg; have hnb22 := NB333_323.out; have hnc22 := NB323_333.out; have hnb23 := NB333_324.out; have hnc23 := NB324_333.out; have hnb24 := NB333_325.out; have hnc24 := NB325_333.out; have hnb25 := NB333_0.out; have hnc25 := NB0_333.out; have hcz26_0 := bc BK333 0 rfl; have hcz26_1 := bc BK333 1 rfl; have hcz26_2 := bc BK333 2 rfl; have hcz26_3 := bc BK333 3 rfl; have hfz26_0 := blk_frozen BK333.out 0; have hfz26_1 := blk_frozen BK333.out 1; have hfz26_2 := blk_frozen BK333.out 2; have hfz26_3 := blk_frozen BK333.out 3; obtain ⟨Ao27, co27, eo27⟩ := Kd.R_slice HO332.out; subst eo27))
 go_loopg [28] k (fun kq v28 w' => ∃ (x28_1 : Int) (x1000_1 : Int) (x334003_1 : List Int) (u334003 : Value), v28 = .int .i64 x28_1 ∧ Aside0 (mul_Gemm.l0 kq t327 x28_1 x1000_1 a1_0 a1_1 a1_2 l1_3 a2_0 a2_1 a2_2 l2_3 t327 t328 t329 x334003_1 = some (r1, r2, r3, r4, r5, r6)) ∧ Aside0 (kq ≤ k) ∧ Aside0 (Kd.R (Kd.int .u64) 33 w' w.heap.size (fun _ => True) u334003 x334003_1) ∧ Aside0 (w'.heap[gb323]? = some (.cells #[.int .i64 a1_0, .int .i64 a1_1, .int .i64 a1_2, (.slice A1_3 l1_3.length c1_3)] 25 (0, 0))) ∧ Aside0 (w'.heap[gb324]? = some (.cells #[.int .i64 a2_0, .int .i64 a2_1, .int .i64 a2_2, (.slice A2_3 l2_3.length c2_3)] 25 (0, 0))) ∧ Aside0 (w'.heap[gb325]? = some (.cells #[.int .i64 0, .int .i64 0, .int .i64 0, (.slice none 0 0)] 25 (0, 0))) ∧ Aside0 (w'.heap[gb333]? = some (.cells #[.int .i64 t327, .int .i64 t328, .int .i64 t329, u334003] 25 (0, 0))) ∧ Aside0 (IsS40 w0 w' g x1000_1) ∧ Aside0 (KeepBut w w' g none) ∧ Aside0 (Below w0.heap.size w0 w'))
 case atStart => exact ⟨(0), (s0_0), (t330), (.slice Ao27 t330.length co27), (by first | rfl | (simp; done) | (simp [*]; done)), H', ⟨Nat.le_refl _⟩, ⟨by (with_reducible repeat (first | apply Kd.R_alloc | apply Kd.R_drewN | apply Kd.R_drew)); exact Kd.R_mono (Kd.R_far (p := ⟨gb333, 3, none⟩) (Kd.R_far (p := ⟨gb333, 2, none⟩) (Kd.R_far (p := ⟨gb333, 1, none⟩) (Kd.R_far (p := ⟨gb333, 0, none⟩) (Kd.R_types HO332.out BK333.out (by decide)) (fun _ hk => hk.2) (.int .i64 t327)) (fun _ hk => hk.2) (.int .i64 t328)) (fun _ hk => hk.2) (.int .i64 t329)) (fun _ hk => hk.2) (.slice Ao27 t330.length co27)) (fun _ hk => trivial)⟩, ⟨bf BK323 NB323_333⟩, ⟨bf BK324 NB324_333⟩, ⟨bf BK325 NB325_333⟩, ⟨bp BK333⟩, ⟨ss40 HI0⟩, ⟨ky HK⟩, ⟨sb40⟩⟩
 case round =>
  clear H'
  try clear c1
  try clear c2
  try clear p2
  try clear c5
  try clear c5b0
  try clear c5b1
  try clear c8
  try clear c10
  try clear c11
  try clear c12
  try clear c14
  try clear c15
  try clear c20
  try clear c22
  try clear c23
  try clear c24
  try clear c25
  try clear hcz13_0
  try clear hcz13_1
  try clear hcz13_2
  try clear hcz13_3
  try clear hcz16_0
  try clear hcz16_1
  try clear hcz16_2
  try clear hcz16_3
  try clear hcz18_0
  try clear hcz18_1
  try clear hcz18_2
  try clear hcz18_3
  try clear hcz19_0
  try clear hcz19_1
  try clear hcz19_2
  try clear hcz19_3
  try clear hcz26_0
  try clear hcz26_1
  try clear hcz26_2
  try clear hcz26_3
  try clear hfz13_0
  try clear hfz13_1
  try clear hfz13_2
  try clear hfz13_3
  try clear hfz16_0
  try clear hfz16_1
  try clear hfz16_2
  try clear hfz16_3
  try clear hfz18_0
  try clear hfz18_1
  try clear hfz18_2
  try clear hfz18_3
  try clear hfz19_0
  try clear hfz19_1
  try clear hfz19_2
  try clear hfz19_3
  try clear hfz26_0
  try clear hfz26_1
  try clear hfz26_2
  try clear hfz26_3
  obtain ⟨x28_1, x1000_1, x334003_1, u334003, rfl, HA, HK1, HO_334003, BK323, BK324, BK325, BK333, HI0, HK, HB⟩ := hrel
  cases gk with
  | zero => exact absurd HA.out (by simp [mul_Gemm.l0])
  | succ k1 =>
   have H := HA.out
   clear HA
   simp only [mul_Gemm.l0] at H
   by_cases c28 : x28_1 < t327
   ·
    rw [if_pos c28] at H
    have c28b0 : decide (x28_1 < t327) = true := decide_eq_true c28
    clear c28
    have H' := Aside0.mk H
    clear H
    have hnb29 := NB333_323.out
    have hnc29 := NB323_333.out
    have hnb30 := NB333_324.out
    have hnc30 := NB324_333.out
    have hnb31 := NB333_325.out
    have hnc31 := NB325_333.out
    have hnb32 := NB333_0.out
    have hnc32 := NB0_333.out
    have hcz33_0 := bc BK333 0 rfl
    have hcz33_1 := bc BK333 1 rfl
    have hcz33_2 := bc BK333 2 rfl
    have hcz33_3 := bc BK333 3 rfl
    have hfz33_0 := blk_frozen BK333.out 0
    have hfz33_1 := blk_frozen BK333.out 1
    have hfz33_2 := blk_frozen BK333.out 2
    have hfz33_3 := blk_frozen BK333.out 3
    go_wp2
    go_loopg [33] k1 (fun kq v33 w' => ∃ (x33_2 : Int) (x1000_2 : Int) (x334003_2 : List Int) (u334003 : Value), v33 = .int .i64 x33_2 ∧ Aside0 (mul_Gemm.l1 kq x28_1 t327 x28_1 t328 x33_2 x1000_2 a1_0 a1_1 a1_2 l1_3 a2_0 a2_1 a2_2 l2_3 t327 t328 t329 x334003_2 = some (r1, r2, r3, r4, r5, r6)) ∧ Aside0 (kq ≤ k1) ∧ Aside0 (Kd.R (Kd.int .u64) 33 w' w.heap.size (fun _ => True) u334003 x334003_2) ∧ Aside0 (w'.heap[gb323]? = some (.cells #[.int .i64 a1_0, .int .i64 a1_1, .int .i64 a1_2, (.slice A1_3 l1_3.length c1_3)] 25 (0, 0))) ∧ Aside0 (w'.heap[gb324]? = some (.cells #[.int .i64 a2_0, .int .i64 a2_1, .int .i64 a2_2, (.slice A2_3 l2_3.length c2_3)] 25 (0, 0))) ∧ Aside0 (w'.heap[gb325]? = some (.cells #[.int .i64 0, .int .i64 0, .int .i64 0, (.slice none 0 0)] 25 (0, 0))) ∧ Aside0 (w'.heap[gb333]? = some (.cells #[.int .i64 t327, .int .i64 t328, .int .i64 t329, u334003] 25 (0, 0))) ∧ Aside0 (IsS40 w0 w' g x1000_2) ∧ Aside0 (KeepBut w w' g none) ∧ Aside0 (Below w0.heap.size w0 w'))
    case atStart => exact ⟨(0), (x1000_1), (x334003_1), (u334003), (by first | rfl | (simp; done) | (simp [*]; done)), H', ⟨Nat.le_refl _⟩, ⟨kr HO_334003⟩, ⟨kb BK323⟩, ⟨kb BK324⟩, ⟨kb BK325⟩, ⟨kb BK333⟩, ⟨ss40 HI0⟩, ⟨ky HK⟩, ⟨sb40⟩⟩
    case round =>
     clear H'
     try clear c1
     try clear c2
     try clear p2
     try clear c3
     try clear c5
     try clear c5b0
     try clear c5b1
     try clear c8
     try clear c10
     try clear c11
     try clear c12
     try clear c14
     try clear c15
     try clear c20
     try clear c22
     try clear c23
     try clear c24
     try clear c25
     try clear c28
     try clear c28b0
     try clear c29
     try clear c30
     try clear c31
     try clear c32
     try clear hcz13_0
     try clear hcz13_1
     try clear hcz13_2
     try clear hcz13_3
     try clear hcz16_0
     try clear hcz16_1
     try clear hcz16_2
     try clear hcz16_3
     try clear hcz18_0
     try clear hcz18_1
     try clear hcz18_2
     try clear hcz18_3
     try clear hcz19_0
     try clear hcz19_1
     try clear hcz19_2
     try clear hcz19_3
     try clear hcz26_0
     try clear hcz26_1
     try clear hcz26_2
     try clear hcz26_3
     try clear hcz33_0
     try clear hcz33_1
     try clear hcz33_2
     try clear hcz33_3
     try clear hfz13_0
     try clear hfz13_1
     try clear hfz13_2
     try clear hfz13_3
     try clear hfz16_0
     try clear hfz16_1
     try clear hfz16_2
     try clear hfz16_3
     try clear hfz18_0
     try clear hfz18_1
     try clear hfz18_2
     try clear hfz18_3
     try clear hfz19_0
     try clear hfz19_1
     try clear hfz19_2
     try clear hfz19_3
     try clear hfz26_0
     try clear hfz26_1
     try clear hfz26_2
     try clear hfz26_3
     try clear hfz33_0
     try clear hfz33_1
     try clear hfz33_2
     try clear hfz33_3
     try clear p2
     obtain ⟨x33_2, x1000_2, x334003_2, u334003, rfl, HA, HK2, HO_334003, BK323, BK324, BK325, BK333, HI0, HK, HB⟩ := hrel
     cases gk with
     | zero => exact absurd HA.out (by simp [mul_Gemm.l1])
     | succ k2 =>
      have H := HA.out
      clear HA
      simp only [mul_Gemm.l1] at H
      by_cases c34 : x33_2 < t328
      rotate_left
      ·
       rw [if_neg c34] at H
       have c34b0 : decide (x33_2 < t328) = false := decide_eq_false c34
       clear c34
       have H' := Aside0.mk H
       clear H
       go_wp2
       go_roundg k2
       case measure => have := HK1.out; have := HK2.out; omega
       case rel => exact ⟨(wrap64 (x28_1 + 1)), (x1000_2), (x334003_2), (u334003), (by first | rfl | (simp; done) | (simp [*]; done)), H', ⟨by have := HK1.out; have := HK2.out; omega⟩, ⟨kr HO_334003⟩, ⟨kb BK323⟩, ⟨kb BK324⟩, ⟨kb BK325⟩, ⟨kb BK333⟩, ⟨ss40 HI0⟩, ⟨ky HK⟩, ⟨sb40⟩⟩
      rw [if_pos c34] at H
      have c34b0 : decide (x33_2 < t328) = true := decide_eq_true c34
      clear c34
      have H' := Aside0.mk H
      clear H
      have hnb35 := NB323_324.out
      have hnc35 := NB324_323.out
      have hnb36 := NB323_325.out
      have hnc36 := NB325_323.out
      have hnb37 := NB323_333.out
      have hnc37 := NB333_323.out
      have hnb38 := NB323_0.out
      have hnc38 := NB0_323.out
      have hcz39_0 := bc BK323 0 rfl
      have hcz39_1 := bc BK323 1 rfl
      have hcz39_2 := bc BK323 2 rfl
      have hcz39_3 := bc BK323 3 rfl
      have hfz39_0 := blk_frozen BK323.out 0
      have hfz39_1 := blk_frozen BK323.out 1
      have hfz39_2 := blk_frozen BK323.out 2
      have hfz39_3 := blk_frozen BK323.out 3
      go_wp2
      go_loopg [12, 38] k2 (fun kq v12 v38 w' => ∃ (x12_3 : Int) (x38_3 : Int) (x1000_3 : Int), v12 = .int .u64 x12_3 ∧ v38 = .int .i64 x38_3 ∧ Aside0 (mul_Gemm.l2 kq x28_1 x33_2 x12_3 t327 x28_1 t328 x33_2 a1_1 x38_3 x1000_3 a1_0 a1_1 a1_2 l1_3 a2_0 a2_1 a2_2 l2_3 t327 t328 t329 x334003_2 = some (r1, r2, r3, r4, r5, r6)) ∧ Aside0 (kq ≤ k2) ∧ Aside0 (Kd.R (Kd.int .u64) 33 w' w.heap.size (fun _ => True) u334003 x334003_2) ∧ Aside0 (w'.heap[gb323]? = some (.cells #[.int .i64 a1_0, .int .i64 a1_1, .int .i64 a1_2, (.slice A1_3 l1_3.length c1_3)] 25 (0, 0))) ∧ Aside0 (w'.heap[gb324]? = some (.cells #[.int .i64 a2_0, .int .i64 a2_1, .int .i64 a2_2, (.slice A2_3 l2_3.length c2_3)] 25 (0, 0))) ∧ Aside0 (w'.heap[gb325]? = some (.cells #[.int .i64 0, .int .i64 0, .int .i64 0, (.slice none 0 0)] 25 (0, 0))) ∧ Aside0 (w'.heap[gb333]? = some (.cells #[.int .i64 t327, .int .i64 t328, .int .i64 t329, u334003] 25 (0, 0))) ∧ Aside0 (IsS40 w0 w' g x1000_3) ∧ Aside0 (KeepBut w w' g none) ∧ Aside0 (Below w0.heap.size w0 w'))
      case atStart => exact ⟨(0), (0), (x1000_2), (by first | rfl | (simp; done) | (simp [*]; done)), (by first | rfl | (simp; done) | (simp [*]; done)), H', ⟨Nat.le_refl _⟩, ⟨kr HO_334003⟩, ⟨kb BK323⟩, ⟨kb BK324⟩, ⟨kb BK325⟩, ⟨kb BK333⟩, ⟨ss40 HI0⟩, ⟨ky HK⟩, ⟨sb40⟩⟩
      case round =>
       clear H'
       try clear c1
       try clear c2
       try clear p2
       try clear c3
       try clear c5
       try clear c5b0
       try clear c5b1
       try clear c8
       try clear c10
       try clear c11
       try clear c12
       try clear c14
       try clear c15
       try clear c20
       try clear c22
       try clear c23
       try clear c24
       try clear c25
       try clear c28
       try clear c28b0
       try clear c29
       try clear c30
       try clear c31
       try clear c32
       try clear c34
       try clear c34b0
       try clear c35
       try clear c36
       try clear c37
       try clear c38
       try clear hcz13_0
       try clear hcz13_1
       try clear hcz13_2
       try clear hcz13_3
       try clear hcz16_0
       try clear hcz16_1
       try clear hcz16_2
       try clear hcz16_3
       try clear hcz18_0
       try clear hcz18_1
       try clear hcz18_2
       try clear hcz18_3
       try clear hcz19_0
       try clear hcz19_1
       try clear hcz19_2
       try clear hcz19_3
       try clear hcz26_0
       try clear hcz26_1
       try clear hcz26_2
       try clear hcz26_3
       try clear hcz33_0
       try clear hcz33_1
       try clear hcz33_2
       try clear hcz33_3
       try clear hcz39_0
       try clear hcz39_1
       try clear hcz39_2
       try clear hcz39_3
       try clear hfz13_0
       try clear hfz13_1
       try clear hfz13_2
       try clear hfz13_3
       try clear hfz16_0
       try clear hfz16_1
       try clear hfz16_2
       try clear hfz16_3
       try clear hfz18_0
       try clear hfz18_1
       try clear hfz18_2
       try clear hfz18_3
       try clear hfz19_0
       try clear hfz19_1
       try clear hfz19_2
       try clear hfz19_3
       try clear hfz26_0
       try clear hfz26_1
       try clear hfz26_2
       try clear hfz26_3
       try clear hfz33_0
       try clear hfz33_1
       try clear hfz33_2
       try clear hfz33_3
       try clear hfz39_0
       try clear hfz39_1
       try clear hfz39_2
       try clear hfz39_3
       try clear p2
       obtain ⟨x12_3, x38_3, x1000_3, rfl, rfl, HA, HK3, HO_334003, BK323, BK324, BK325, BK333, HI0, HK, HB⟩ := hrel
       cases gk with
       | zero => exact absurd HA.out (by simp [mul_Gemm.l2])
       | succ k3 =>
        have H := HA.out
        clear HA
        simp only [mul_Gemm.l2] at H
        by_cases c40 : x38_3 < a1_1
        ·
         rw [if_pos c40] at H
         have c40b0 : decide (x38_3 < a1_1) = true := decide_eq_true c40
         clear c40
         obtain ⟨t335, A410, H⟩ := Option.bind_eq_some_iff.mp H
         (try dsimp -simprocs only at H)
         have A41 := Aside0.mk A410
         clear A410
         obtain ⟨t336, A420, H⟩ := Option.bind_eq_some_iff.mp H
         (try dsimp -simprocs only at H)
         have A42 := Aside0.mk A420
         clear A420
         obtain ⟨⟨t337, t338⟩, A430, H⟩ := Option.bind_eq_some_iff.mp H
         (try dsimp -simprocs only at H)
         have A43 := Aside0.mk A430
         clear A430
         obtain ⟨⟨t339, t340⟩, A440, H⟩ := Option.bind_eq_some_iff.mp H
         (try dsimp -simprocs only at H)
         have A44 := Aside0.mk A440
         clear A440
         have H' := Aside0.mk H
         clear H
         try go_wp2
         refine ax8 (Kd.R_drew HO_334003.out) (blk_drew BK323.out) (blk_drew BK324.out) (blk_drew BK325.out) (blk_drew BK333.out) (IsS40.drew HI0.out) (keep_drew HK.out) (below_drew1 HB.out) ?_
         clear HO_334003 BK323 BK324 BK325 BK333 HI0 HK HB
         intro HO_334003 BK323 BK324 BK325 BK333 HI0 HK HB
         refine start_ (n := 14) (S := fun w' => w'.cell? ⟨gb323, 0, none⟩ = some (.int .i64 a1_0) ∧ w'.cell? ⟨gb323, 1, none⟩ = some (.int .i64 a1_1) ∧ w'.cell? ⟨gb323, 2, none⟩ = some (.int .i64 a1_2) ∧ w'.cell? ⟨gb323, 3, none⟩ = some (.slice A1_3 l1_3.length c1_3) ∧ w'.cell? ⟨gb324, 0, none⟩ = some (.int .i64 a2_0) ∧ w'.cell? ⟨gb324, 1, none⟩ = some (.int .i64 a2_1) ∧ w'.cell? ⟨gb324, 2, none⟩ = some (.int .i64 a2_2) ∧ w'.cell? ⟨gb324, 3, none⟩ = some (.slice A2_3 l2_3.length c2_3)) (ds := []) #[false, false, false, false, false, false, false, false, false, false, false, false, false, false] (by kernel_rfl) rfl rfl ⟨bk BK323 0, bk BK323 1, bk BK323 2, bk BK323 3, bk BK324 0, bk BK324 1, bk BK324 2, bk BK324 3⟩ (fun hHeld => ?_); refine with_tabW mul_Gemm.tab15 mul_Gemm.bits15 (fun HT_ HW_ => ?_)
         generalize wr.drew = w45 at HO_334003 BK323 BK324 BK325 BK333 HI0 HK HB hHeld ⊢
         refine pu 0 41 (lm 14 1) HT_ ?_
         refine pu 1 42 (lm 14 3) HT_ ?_
         refine pu 2 43 (lm 14 7) HT_ ?_
         refine pu 4 45 (lm 14 23) HT_ ?_
         refine pu 5 46 (lm 14 55) HT_ ?_
         refine pu 8 49 (lm 14 311) HT_ ?_
         refine pu 9 50 (lm 14 823) HT_ ?_
         refine ta 3 44 (lm 14 831) HT_ HW_ hHeld ?_
         refine ta 7 48 (lm 14 959) HT_ HW_ hHeld ?_
         refine on 6 (some 47) (lm 14 1023) HT_ (fun K hK => ?_)
         refine goes_ Try.func17 (by kernel_rfl) rfl #[.agg #[.int .i64 a1_0, .int .i64 a1_1, .int .i64 a1_2, .slice A1_3 l1_3.length c1_3], .int .i64 x28_1, .int .i64 x38_3] (by rfl) rfl rfl ga ?_
         with_reducible refine (mat_Matrix_At.calls a1_0 a1_1 a1_2 _ _ l1_3 x28_1 x38_3 t335 _ ?side1 ?side2 A41.out).mono ?_
         (case side1 => exact Kd.C_keep 0 HR1_3.out (ky HK) hf1_3)
         (case side2 => exact HC1_3.out)
         rintro e w46 ⟨rfl, hb⟩
         refine ⟨_, rfl, ?_⟩
         refine ax8 (Kd.R_below (kr HO_334003) hb) (bb BK323 hb) (bb BK324 hb) (bb BK325 hb) (bb BK333 hb) (IsS40.below (ss40 HI0) hb) (KeepBut.trans (ky HK) (KeepBut.of_below hb g none) (.inl rfl)) (below_step sb40 hb) ?_
         clear HO_334003 BK323 BK324 BK325 BK333 HI0 HK HB
         intro HO_334003 BK323 BK324 BK325 BK333 HI0 HK HB
         (try clear hb)
         (try clear hb2)
         (try clear hk)
         (try clear hi)
         refine hK.out _ _ ⟨bk BK323 0, bk BK323 1, bk BK323 2, bk BK323 3, bk BK324 0, bk BK324 1, bk BK324 2, bk BK324 3⟩ (fun hHeld => ?_)
         clear hK K
         refine no 47 ?_
         refine on 10 (some 51) (lm 14 2047) HT_ (fun K hK => ?_)
         refine goes_ Try.func17 (by kernel_rfl) rfl #[.agg #[.int .i64 a2_0, .int .i64 a2_1, .int .i64 a2_2, .slice A2_3 l2_3.length c2_3], .int .i64 x38_3, .int .i64 x33_2] (by rfl) rfl rfl ga ?_
         with_reducible refine (mat_Matrix_At.calls a2_0 a2_1 a2_2 _ _ l2_3 x38_3 x33_2 t336 _ ?side1 ?side2 A42.out).mono ?_
         (case side1 => exact Kd.C_keep 0 HR2_3.out (ky HK) hf2_3)
         (case side2 => exact HC2_3.out)
         rintro e w47 ⟨rfl, hb⟩
         refine ⟨_, rfl, ?_⟩
         refine ax8 (Kd.R_below (kr HO_334003) hb) (bb BK323 hb) (bb BK324 hb) (bb BK325 hb) (bb BK333 hb) (IsS40.below (ss40 HI0) hb) (KeepBut.trans (ky HK) (KeepBut.of_below hb g none) (.inl rfl)) (below_step sb40 hb) ?_
         clear HO_334003 BK323 BK324 BK325 BK333 HI0 HK HB
         intro HO_334003 BK323 BK324 BK325 BK333 HI0 HK HB
         (try clear hb)
         (try clear hb2)
         (try clear hk)
         (try clear hi)
         refine hK.out _ _ ⟨bk BK323 0, bk BK323 1, bk BK323 2, bk BK323 3, bk BK324 0, bk BK324 1, bk BK324 2, bk BK324 3⟩ (fun hHeld => ?_)
         clear hK K
         refine no 51 ?_
         refine on 11 (some 52) (lm 14 4095) HT_ (fun K hK => ?_)
         refine goes_ Try.func18 (by kernel_rfl) rfl #[.pointer (some ⟨g, 0, none⟩), .int .u64 t335, .int .u64 t336] (by rfl) rfl rfl ga ?_
         with_reducible refine (soft_Calc_Mul.calls k3 g x1000_3 t335 t336 t337 t338 w0 _ ?side1 ?side2 A43.out).mono ?_
         (case side1 => repeat (first | (with_reducible first | exact HI0.out | apply IsS40.alloc | apply IsS40.drewN | apply IsS40.drew | apply IsS40.set_0 | refine IsS40.far ?_ NB0_323.out _ | refine IsS40.far ?_ NB0_324.out _ | refine IsS40.far ?_ NB0_325.out _ | refine IsS40.far ?_ NB0_333.out _) | exact HI0.out))
         (case side2 => repeat (first | (with_reducible first | exact HB.out | apply below_alloc | apply pw_below_drewN | apply below_drew1 | refine below_set ?_ (IsS40.ge HI0.out) | refine below_set ?_ GE323.out | refine below_set ?_ GE324.out | refine below_set ?_ GE325.out | refine below_set ?_ GE333.out) | exact HB.out))
         rintro e w48 ⟨rfl, hi, hb, hk⟩
         refine ⟨_, rfl, ?_⟩
         refine ax8 (Kd.R_mono (Kd.R_keep (IsS40.apart (show IsS40 w0 _ g x1000_3 from ss40 HI0) (kr HO_334003) (by decide)) hk (fun _ h => h.2)) (fun _ h => h.1)) (KeepBut.blk hk (g' := gb323) (o := .cells #[.int .i64 a1_0, .int .i64 a1_1, .int .i64 a1_2, .slice A1_3 l1_3.length c1_3] 25 (0, 0)) (kb BK323) NB323_0.out (by simp)) (KeepBut.blk hk (g' := gb324) (o := .cells #[.int .i64 a2_0, .int .i64 a2_1, .int .i64 a2_2, .slice A2_3 l2_3.length c2_3] 25 (0, 0)) (kb BK324) NB324_0.out (by simp)) (KeepBut.blk hk (g' := gb325) (o := .cells #[.int .i64 0, .int .i64 0, .int .i64 0, .slice none 0 0] 25 (0, 0)) (kb BK325) NB325_0.out (by simp)) (KeepBut.blk hk (g' := gb333) (o := .cells #[.int .i64 t327, .int .i64 t328, .int .i64 t329, u334003] 25 (0, 0)) (kb BK333) NB333_0.out (by simp)) (KeepBut.trans (ky HK) hk (.inl rfl)) hb hi ?_
         clear HO_334003 BK323 BK324 BK325 BK333 HK HB HI0
         intro HO_334003 BK323 BK324 BK325 BK333 HK HB HI0
         (try clear hb)
         (try clear hb2)
         (try clear hk)
         (try clear hi)
         refine hK.out _ _ ⟨bk BK323 0, bk BK323 1, bk BK323 2, bk BK323 3, bk BK324 0, bk BK324 1, bk BK324 2, bk BK324 3⟩ (fun hHeld => ?_)
         clear hK K
         refine no 52 ?_
         refine on 12 (some 53) (lm 14 8191) HT_ (fun K hK => ?_)
         refine goes_ Try.func19 (by kernel_rfl) rfl #[.pointer (some ⟨g, 0, none⟩), .int .u64 x12_3, .int .u64 t337] (by rfl) rfl rfl ga ?_
         with_reducible refine (soft_Calc_Add.calls k3 g t338 x12_3 t337 t339 t340 w0 _ ?side1 ?side2 A44.out).mono ?_
         (case side1 => repeat (first | (with_reducible first | exact HI0.out | apply IsS40.alloc | apply IsS40.drewN | apply IsS40.drew | apply IsS40.set_0 | refine IsS40.far ?_ NB0_323.out _ | refine IsS40.far ?_ NB0_324.out _ | refine IsS40.far ?_ NB0_325.out _ | refine IsS40.far ?_ NB0_333.out _) | exact HI0.out))
         (case side2 => repeat (first | (with_reducible first | exact HB.out | apply below_alloc | apply pw_below_drewN | apply below_drew1 | refine below_set ?_ (IsS40.ge HI0.out) | refine below_set ?_ GE323.out | refine below_set ?_ GE324.out | refine below_set ?_ GE325.out | refine below_set ?_ GE333.out) | exact HB.out))
         rintro e w49 ⟨rfl, hi, hb, hk⟩
         refine ⟨_, rfl, ?_⟩
         refine ax8 (Kd.R_mono (Kd.R_keep (IsS40.apart (show IsS40 w0 _ g t338 from ss40 HI0) (kr HO_334003) (by decide)) hk (fun _ h => h.2)) (fun _ h => h.1)) (KeepBut.blk hk (g' := gb323) (o := .cells #[.int .i64 a1_0, .int .i64 a1_1, .int .i64 a1_2, .slice A1_3 l1_3.length c1_3] 25 (0, 0)) (kb BK323) NB323_0.out (by simp)) (KeepBut.blk hk (g' := gb324) (o := .cells #[.int .i64 a2_0, .int .i64 a2_1, .int .i64 a2_2, .slice A2_3 l2_3.length c2_3] 25 (0, 0)) (kb BK324) NB324_0.out (by simp)) (KeepBut.blk hk (g' := gb325) (o := .cells #[.int .i64 0, .int .i64 0, .int .i64 0, .slice none 0 0] 25 (0, 0)) (kb BK325) NB325_0.out (by simp)) (KeepBut.blk hk (g' := gb333) (o := .cells #[.int .i64 t327, .int .i64 t328, .int .i64 t329, u334003] 25 (0, 0)) (kb BK333) NB333_0.out (by simp)) (KeepBut.trans (ky HK) hk (.inl rfl)) hb hi ?_
         clear HO_334003 BK323 BK324 BK325 BK333 HK HB HI0
         intro HO_334003 BK323 BK324 BK325 BK333 HK HB HI0
         (try clear hb)
         (try clear hb2)
         (try clear hk)
         (try clear hi)
         refine hK.out _ _ ⟨bk BK323 0, bk BK323 1, bk BK323 2, bk BK323 3, bk BK324 0, bk BK324 1, bk BK324 2, bk BK324 3⟩ (fun hHeld => ?_)
         clear hK K
         refine no 53 ?_
         refine pu 13 12 (lm 14 16383) HT_ ?_
         refine done_ (done_of HT_.out (by kernel_rfl)) ?_
         try go_wp2
         go_roundg k3
         case measure => have := HK1.out; have := HK2.out; have := HK3.out; omega
         case rel => exact ⟨(t339), (wrap64 (x38_3 + 1)), (t340), (by first | rfl | (simp; done) | (simp [*]; done)), (by first | rfl | (simp; done) | (simp [*]; done)), H', ⟨by have := HK1.out; have := HK2.out; have := HK3.out; omega⟩, ⟨kr HO_334003⟩, ⟨kb BK323⟩, ⟨kb BK324⟩, ⟨kb BK325⟩, ⟨kb BK333⟩, ⟨ss40 HI0⟩, ⟨ky HK⟩, ⟨sb40⟩⟩
        ·
         rw [if_neg c40] at H
         have c40b0 : decide (x38_3 < a1_1) = false := decide_eq_false c40
         clear c40
         obtain ⟨t334, A500, H⟩ := Option.bind_eq_some_iff.mp H
         (try dsimp -simprocs only at H)
         have A50 := Aside0.mk A500
         clear A500
         have H' := Aside0.mk H
         clear H
         have hnb51 := NB333_323.out
         have hnc51 := NB323_333.out
         have hnb52 := NB333_324.out
         have hnc52 := NB324_333.out
         have hnb53 := NB333_325.out
         have hnc53 := NB325_333.out
         have hnb54 := NB333_0.out
         have hnc54 := NB0_333.out
         have hcz55_0 := bc BK333 0 rfl
         have hcz55_1 := bc BK333 1 rfl
         have hcz55_2 := bc BK333 2 rfl
         have hcz55_3 := bc BK333 3 rfl
         have hfz55_0 := blk_frozen BK333.out 0
         have hfz55_1 := blk_frozen BK333.out 1
         have hfz55_2 := blk_frozen BK333.out 2
         have hfz55_3 := blk_frozen BK333.out 3
         obtain ⟨Ao56, co56, eo56⟩ := Kd.R_slice HO_334003.out
         subst eo56
         go_wp2_with (first | ((with_reducible refine gate_callee (f := 21) rfl ?_); refine goesL_ (some 59) rfl rfl Try.func21 (by kernel_rfl) rfl #[.agg #[.int .i64 t327, .int .i64 t328, .int .i64 t329, .slice Ao56 x334003_2.length co56], .int .i64 x28_1, .int .i64 x33_2, .int .u64 x12_3] rfl ga ?_; (with_reducible refine (mat_Matrix_Set.calls t327 t328 t329 (fun k_ => some k_ = (.slice Ao56 x334003_2.length co56 : Value).ownBlock) (.slice Ao56 x334003_2.length co56) x334003_2 x28_1 x33_2 x12_3 t334 w0 _ ?side1 ?side2 A50.out).mono ?_); (case side1 => repeat (first | (with_reducible first | exact HB.out | apply below_alloc | apply pw_below_drewN | apply below_drew1 | refine below_set ?_ (IsS40.ge HI0.out) | refine below_set ?_ GE323.out | refine below_set ?_ GE324.out | refine below_set ?_ GE325.out | refine below_set ?_ GE333.out) | exact HB.out)); (case side2 => exact Kd.R_lower (Kd.R_tight rfl HO_334003.out) HL.out); rintro e w57 ⟨rfl, hy0, hb, hkp⟩; refine ⟨_, rfl, ?_⟩; refine ax8 (Kd.R_reok rfl (Kd.R_raise (d := (Kd.int .u64)) (b := w0.heap.size) (b' := w.heap.size) (fun _ _ _ _ h_ => h_) hy0 (fun k_ e_ => Or.elim (hy0.1 k_ e_) (fun hs_ => (fun e_ => Kd.R_base HO_334003.out k_ e_.symm) hs_) (fun hn_ => Nat.le_trans (keep_size (w := w) (g := g) (row := none) (ky HK)) hn_))) (fun k_ e_ => HO_334003.out.1 k_ e_)) (blk_kept (kb BK323) hkp (fun hs_ => (fun e_ => (Kd.R_ne HO_334003.out BK323.out (by decide)) e_) hs_)) (blk_kept (kb BK324) hkp (fun hs_ => (fun e_ => (Kd.R_ne HO_334003.out BK324.out (by decide)) e_) hs_)) (blk_kept (kb BK325) hkp (fun hs_ => (fun e_ => (Kd.R_ne HO_334003.out BK325.out (by decide)) e_) hs_)) (blk_kept (kb BK333) hkp (fun hs_ => (fun e_ => (Kd.R_ne HO_334003.out BK333.out (by decide)) e_) hs_)) (IsS40.kept (ss40 HI0) hkp (fun hs_ => (fun e_ => (IsS40.own_ne HI0.out HO_334003.out (by decide)) e_) hs_)) (Kept.keepG (ky HK) hkp (fun k_ hs_ => (fun e_ => .inr (Kd.R_base HO_334003.out k_ e_.symm)) hs_)) hb ?_; clear HO_334003; clear BK323; clear BK324; clear BK325; clear BK333; clear HI0; clear HK; clear HB; intro HO_334003 BK323 BK324 BK325 BK333 HI0 HK HB; (try clear hb); (try clear hkp); (try clear hy0)))
         go_roundg k3
         case measure => have := HK1.out; have := HK2.out; have := HK3.out; omega
         case rel => exact ⟨(wrap64 (x33_2 + 1)), (x1000_3), (t334), (.slice Ao56 x334003_2.length co56), (by first | rfl | (simp; done) | (simp [*]; done)), H', ⟨by have := HK1.out; have := HK2.out; have := HK3.out; omega⟩, ⟨kr HO_334003⟩, ⟨kb BK323⟩, ⟨kb BK324⟩, ⟨kb BK325⟩, ⟨kb BK333⟩, ⟨ss40 HI0⟩, ⟨ky HK⟩, ⟨sb40⟩⟩
   ·
    rw [if_neg c28] at H
    have c28b0 : decide (x28_1 < t327) = false := decide_eq_false c28
    clear c28
    simp only [Option.some.injEq, Prod.mk.injEq] at H
    obtain ⟨rfl, rfl, rfl, rfl, rfl, rfl⟩ := H
    have hnb58 := NB333_323.out
    have hnc58 := NB323_333.out
    have hnb59 := NB333_324.out
    have hnc59 := NB324_333.out
    have hnb60 := NB333_325.out
    have hnc60 := NB325_333.out
    have hnb61 := NB333_0.out
    have hnc61 := NB0_333.out
    have hcz62_0 := bc BK333 0 rfl
    have hcz62_1 := bc BK333 1 rfl
    have hcz62_2 := bc BK333 2 rfl
    have hcz62_3 := bc BK333 3 rfl
    have hfz62_0 := blk_frozen BK333.out 0
    have hfz62_1 := blk_frozen BK333.out 1
    have hfz62_2 := blk_frozen BK333.out 2
    have hfz62_3 := blk_frozen BK333.out 3
    have hnb63 := NB325_323.out
    have hnc63 := NB323_325.out
    have hnb64 := NB325_324.out
    have hnc64 := NB324_325.out
    have hnb65 := NB325_0.out
    have hnc65 := NB0_325.out
    have hcz66_0 := bc BK325 0 rfl
    have hcz66_1 := bc BK325 1 rfl
    have hcz66_2 := bc BK325 2 rfl
    have hcz66_3 := bc BK325 3 rfl
    have hfz66_0 := blk_frozen BK325.out 0
    have hfz66_1 := blk_frozen BK325.out 1
    have hfz66_2 := blk_frozen BK325.out 2
    have hfz66_3 := blk_frozen BK325.out 3
    obtain ⟨Ao67, co67, eo67⟩ := Kd.R_slice HO_334003.out
    subst eo67
    go_wp2
    refine bodyPost_ret (results_ct rfl _ _ gb325 25 #[.int .i64 t327, .int .i64 t328, .int .i64 t329, .slice Ao67 x334003_1.length co67] (0, 0) _ rfl (bp BK325) Try.underlying25 rfl (by kernel_rfl)) rfl ?_
    exact ⟨_, er, by (with_reducible repeat (first | apply Kd.R_alloc | apply Kd.R_drewN | apply Kd.R_drew)); exact Kd.R_mono (Kd.R_far (p := ⟨gb325, 3, none⟩) (Kd.R_far (p := ⟨gb325, 2, none⟩) (Kd.R_far (p := ⟨gb325, 1, none⟩) (Kd.R_far (p := ⟨gb325, 0, none⟩) (Kd.R_types HO_334003.out BK325.out (by decide)) (fun _ hk => hk.2) (.int .i64 t327)) (fun _ hk => hk.2) (.int .i64 t328)) (fun _ hk => hk.2) (.int .i64 t329)) (fun _ hk => hk.2) (.slice Ao67 x334003_1.length co67)) (fun _ hk => trivial), by repeat (first | (with_reducible first | exact HI0.out | apply IsS40.alloc | apply IsS40.drewN | apply IsS40.drew | apply IsS40.set_0 | refine IsS40.far ?_ NB0_323.out _ | refine IsS40.far ?_ NB0_324.out _ | refine IsS40.far ?_ NB0_325.out _ | refine IsS40.far ?_ NB0_333.out _) | exact HI0.out), by repeat (first | (with_reducible first | exact HB.out | apply below_alloc | apply pw_below_drewN | apply below_drew1 | refine below_set ?_ (IsS40.ge HI0.out) | refine below_set ?_ GE323.out | refine below_set ?_ GE324.out | refine below_set ?_ GE325.out | refine below_set ?_ GE333.out) | exact HB.out), by repeat (first | (with_reducible first | exact HK.out | apply KeepBut.set_ | apply keep_drewN | apply keep_drew | apply keep_alloc | refine keep_far ?_ GW323.out _ | refine keep_far ?_ GW324.out _ | refine keep_far ?_ GW325.out _ | refine keep_far ?_ GW333.out _) | exact HK.out)⟩
/-! ### gimballaw11_row: function 13 -/
def gimballaw11_row.l0 : Nat → Int → List Int → Int → Int → Int → Int → List Int → Option (List Int)
 | 0, _, _, _, _, _, _, _ => none
 | k + 1, x1, x5, x6, x479000, x479001, x479002, x479003 => if x6 < x479001 then ((mat_Matrix_At.f x479000 x479001 x479002 x479003 x1 x6).bind fun t482 => (if x5.length < 17592186044416 then (gimballaw11_row.l0 k x1 (x5 ++ [t482]) (wrap64 (x6 + 1)) x479000 x479001 x479002 x479003) else (none))) else (some x5)
def gimballaw11_row.f (k : Nat) (a0_0 : Int) (a0_1 : Int) (a0_2 : Int) (l0_3 : List Int) (a1 : Int) : Option (List Int) := gimballaw11_row.l0 k a1 (([] : List Int)) 0 a0_0 a0_1 a0_2 l0_3
theorem gimballaw11_row.mono_l : ∀ k, (∀ y0 y1 y2 y3 y4 y5 y6, LeO (gimballaw11_row.l0 k y0 y1 y2 y3 y4 y5 y6) (gimballaw11_row.l0 (k + 1) y0 y1 y2 y3 y4 y5 y6))
 | 0 => fun _ _ _ _ _ _ _ r h => by simp [gimballaw11_row.l0] at h
 | k + 1 => by
  have ih0 := gimballaw11_row.mono_l k
  ·
   intro y0 y1 y2 y3 y4 y5 y6
   unfold gimballaw11_row.l0
   repeat' with_reducible first | apply ih0 | exact LeO.refl _ | exact LeO.none _ | refine LeO.ite ?_ ?_ | refine LeO.bind ?_ (fun _ => ?_)
theorem gimballaw11_row.mono : ∀ a0 a1 a2 a3 a4 k, LeO (gimballaw11_row.f k a0 a1 a2 a3 a4) (gimballaw11_row.f (k + 1) a0 a1 a2 a3 a4) := by
 intro a0 a1 a2 a3 a4 k
 have ih0 := gimballaw11_row.mono_l k
 unfold gimballaw11_row.f
 repeat' with_reducible first | apply ih0 | exact LeO.refl _ | exact LeO.none _ | refine LeO.ite ?_ ?_ | refine LeO.bind ?_ (fun _ => ?_)
set_option maxHeartbeats 8000000 in
set_option maxRecDepth 100000 in
theorem gimballaw11_row.calls (k : Nat) (a0_0 : Int) (a0_1 : Int) (a0_2 : Int) (A0_3 : Option Addr) (c0_3 : Nat) (l0_3 : List Int) (a1 : Int) (r : List Int) (w : World) (hr0_3 : Kd.C (Kd.int .u64) w A0_3 l0_3.length l0_3) (hc0_3 : l0_3.length ≤ c0_3) (h : gimballaw11_row.f k a0_0 a0_1 a0_2 l0_3 a1 = some r) :
  Calls Try.prog 13 #[.agg #[.int .i64 a0_0, .int .i64 a0_1, .int .i64 a0_2, .slice A0_3 l0_3.length c0_3], .int .i64 a1] w fun e w' => ∃ v0_ : Value, e = .returned (v0_) ∧ Kd.R (Kd.int .u64) 33 w' w.heap.size (fun _ => True) v0_ r ∧ Below w.heap.size w w' := by
 have hu25 := Try.underlying25
 have HR0_3 := Aside0.mk hr0_3
 have HC0_3 := Aside0.mk hc0_3
 clear hr0_3 hc0_3
 have HB := Aside0.mk (Below.refl w.heap.size w)
 have H : (gimballaw11_row.l0 k a1 (([] : List Int)) 0 a0_0 a0_1 a0_2 l0_3) = some r := h
 clear h
 obtain ⟨y479, hy479⟩ : ∃ y_ : List Int, y_ = (([] : List Int)) := ⟨_, rfl⟩
 replace H : (gimballaw11_row.l0 k a1 y479 0 a0_0 a0_1 a0_2 l0_3) = some r := by first | (rw [hy479]; with_reducible exact H) | (have H2_ := (Option.bind_some _ _).symm.trans H; rw [hy479]; with_reducible exact H2_) | (have H2_ := (Option.bind_some _ _).symm.trans H; with_reducible exact H2_) | with_reducible exact H | (rw [hy479]; exact H) | exact H
 have Ny479 := Aside0.mk hy479
 clear hy479
 have H' := Aside0.mk H
 clear H
 go_enter Try.func13, Try.ntmps13
 go_wp2_with (first | ((with_reducible refine gate_dst (N := 2) rfl ?_); refine gbox (N := 2) (cs := #[.int .i64 a0_0, .int .i64 a0_1, .int .i64 a0_2, .slice A0_3 l0_3.length c0_3]) (t := 25) ?_; intro gb478 hg w3 hbox hb; refine ax4 (below_step bel hb) hbox ((ge hg : w.heap.size ≤ gb478)) ((ge hg : w.heap.size ≤ gb478)) ?_; clear HB; intro HB BK478 GW478 GE478; clear hb hbox hg) | ((with_reducible refine gate_dst (N := 7) rfl ?_); refine Kd.R_lit (Kd.int .u64) _ 33 ?hg (N := 7) ?hd (xs := ([] : List Int)) (inner := []) (ok := fun _ => True) (okp := fun _ => True) ?hr ?hp (fun _ hk => hk) trivial (Below.refl _ _) (Nat.le_refl _) (by simp) ?_; (case hd => rfl); (case hg => rfl); (case hr => first | (go_simp; done) | (go_simp; rfl)); (case hp => exact (Reps.none _ _)); intro v480 w4 ho5 hb hg_ hnew_; clear hg_ hnew_; (first | rw [← Ny479.out] at ho5 | (simp only [Int.reduceToNat] at ho5; rw [← Ny479.out] at ho5)); refine ax3 (Kd.R_lower ho5 (below_size bes)) (bb BK478 hb) (below_step bes hb) ?_; clear BK478; clear HB; intro HO481 BK478 HB; clear hb ho5))
 go_loopg [5, 6] k (fun kq v5 v6 w' => ∃ (x5_1 : List Int) (x6_1 : Int), v6 = .int .i64 x6_1 ∧ Aside0 (gimballaw11_row.l0 kq a1 x5_1 x6_1 a0_0 a0_1 a0_2 l0_3 = some r) ∧ Aside0 (kq ≤ k) ∧ Aside0 (Kd.R (Kd.int .u64) 33 w' w.heap.size (fun _ => True) v5 x5_1) ∧ Aside0 (w'.heap[gb478]? = some (.cells #[.int .i64 a0_0, .int .i64 a0_1, .int .i64 a0_2, (.slice A0_3 l0_3.length c0_3)] 25 (0, 0))) ∧ Aside0 (Below w.heap.size w w'))
 case atStart => exact ⟨(y479), (0), (by first | rfl | (simp; done) | (simp [*]; done)), H', ⟨Nat.le_refl _⟩, ⟨kr HO481⟩, ⟨kb BK478⟩, ⟨bes⟩⟩
 case round =>
  clear H'
  try clear c1
  try clear p2
  obtain ⟨x5_1, x6_1, rfl, HA, HK1, HO_5, BK478, HB⟩ := hrel
  cases gk with
  | zero => exact absurd HA.out (by simp [gimballaw11_row.l0])
  | succ k1 =>
   have H := HA.out
   clear HA
   simp only [gimballaw11_row.l0] at H
   by_cases c6 : x6_1 < a0_1
   ·
    rw [if_pos c6] at H
    have c6b0 : decide (x6_1 < a0_1) = true := decide_eq_true c6
    clear c6
    obtain ⟨t482, A70, H⟩ := Option.bind_eq_some_iff.mp H
    (try dsimp -simprocs only at H)
    have A7 := Aside0.mk A70
    clear A70
    by_cases c8 : x5_1.length < 17592186044416
    rotate_left
    ·
     rw [if_neg c8] at H
     exact absurd H (by simp)
    rw [if_pos c8] at H
    have LMc8 := Aside0.mk c8
    clear c8
    obtain ⟨y483, hy483⟩ : ∃ y_ : List Int, y_ = (x5_1 ++ [t482]) := ⟨_, rfl⟩
    replace H : (gimballaw11_row.l0 k1 a1 y483 (wrap64 (x6_1 + 1)) a0_0 a0_1 a0_2 l0_3) = some r := by first | (rw [hy483]; with_reducible exact H) | (have H2_ := (Option.bind_some _ _).symm.trans H; rw [hy483]; with_reducible exact H2_) | (have H2_ := (Option.bind_some _ _).symm.trans H; with_reducible exact H2_) | with_reducible exact H | (rw [hy483]; exact H) | exact H
    have Ny483 := Aside0.mk hy483
    clear hy483
    have H' := Aside0.mk H
    clear H
    have hcz9_0 := bc BK478 0 rfl
    have hcz9_1 := bc BK478 1 rfl
    have hcz9_2 := bc BK478 2 rfl
    have hcz9_3 := bc BK478 3 rfl
    have hfz9_0 := blk_frozen BK478.out 0
    have hfz9_1 := blk_frozen BK478.out 1
    have hfz9_2 := blk_frozen BK478.out 2
    have hfz9_3 := blk_frozen BK478.out 3
    go_wp2_with (first | ((with_reducible refine gate_callee (f := 17) rfl ?_); refine goesL_ (some 18) rfl rfl Try.func17 (by kernel_rfl) rfl #[.agg #[.int .i64 a0_0, .int .i64 a0_1, .int .i64 a0_2, .slice A0_3 l0_3.length c0_3], .int .i64 a1, .int .i64 x6_1] rfl ga ?_; (with_reducible refine (mat_Matrix_At.calls a0_0 a0_1 a0_2 _ _ l0_3 a1 x6_1 t482 _ ?side1 ?side2 A7.out).mono ?_); (case side1 => repeat (first | exact (Kd.C_below HR0_3.out HB.out) | (with_reducible refine Kd.C_alloc ?_ _) | (with_reducible refine Kd.C_drewN ?_ _) | (with_reducible refine Kd.C_drew ?_))); (case side2 => exact HC0_3.out); rintro e w10 ⟨rfl, hb⟩; refine ⟨_, rfl, ?_⟩; refine ax3 (Kd.R_below (kr HO_5) hb) (bb BK478 hb) (below_step bes hb) ?_; clear HO_5; clear BK478; clear HB; intro HO_5 BK478 HB; (try clear hb)) | ((with_reducible refine gate_builtin (b := .append) (xs := #[.tmp 14, .tmp 19]) rfl ?_); at_builtin; refine Kd.R_append (Kd.int .u64) (w0 := w) w.heap.size rfl (.tmp 14) (.tmp 19) 22 33 (.int .u64 0) 8 rfl Try.underlying22 info33 rfl (by decide) (by omega) u5 x5_1 t482 [.int .u64 t482] (fun _ => True) (fun _ => False) rfl rfl ?aP (fun _ hk => hk.elim) ?aF ?aO ?aB ?aS ?aL ?_; (case aP => exact rfl); (case aB => exact bes); (case aF => exact (fun _ _ => trivial)); (case aO => exact (kr HO_5)); (case aS => exact (below_size bes)); (case aL => have := LMc8.out; omega); intro v484 w11 ho hb hg hat; rw [← Ny483.out] at ho; refine ax3 (blk_grown (g := gb478) (o := .cells #[.int .i64 a0_0, .int .i64 a0_1, .int .i64 a0_2, .slice A0_3 l0_3.length c0_3] 25 (0, 0)) (kb BK478) hg (Kd.R_ne HO_5.out BK478.out (by decide))) hb ho ?_; clear BK478; clear HB; clear HO_5; intro BK478 HB HO485; clear ho hb hg hat))
    go_roundg k1
    case measure => have := HK1.out; omega
    case rel => exact ⟨(y483), (wrap64 (x6_1 + 1)), (by first | rfl | (simp; done) | (simp [*]; done)), H', ⟨by have := HK1.out; omega⟩, ⟨kr HO485⟩, ⟨kb BK478⟩, ⟨bes⟩⟩
   ·
    rw [if_neg c6] at H
    have c6b0 : decide (x6_1 < a0_1) = false := decide_eq_false c6
    clear c6
    obtain rfl := Option.some.inj H
    have hcz12_0 := bc BK478 0 rfl
    have hcz12_1 := bc BK478 1 rfl
    have hcz12_2 := bc BK478 2 rfl
    have hcz12_3 := bc BK478 3 rfl
    have hfz12_0 := blk_frozen BK478.out 0
    have hfz12_1 := blk_frozen BK478.out 1
    have hfz12_2 := blk_frozen BK478.out 2
    have hfz12_3 := blk_frozen BK478.out 3
    go_wp2
    go_ret
    exact ⟨_, er, kr HO_5, bes⟩

end Go.Proofs.Ytfogmgcpajndcaa.F

/- Short words for what the printed proofs say over and over: each is a statement with its own default proof. -/
import Derived.Test.YtnjobojkoaknpaaWordsMore

namespace Go.Proofs.YtnjobojkoaknpaaW.PrintWords
open Go Go.RowKit
set_option linter.unusedVariables false
theorem bel {B : Nat} {w W : World} (h : Below B w W := by repeat (first | (with_reducible first | exact Aside0.out (by assumption) | apply below_alloc | apply pw_below_drewN | apply below_drew1) | exact Aside0.out (by assumption))) : Below B w W := h
theorem kr {q p : Prop} (h0 : Aside0 q) (h : q → p := by intro h; (with_reducible repeat (first | apply Kd.R_alloc | apply Kd.R_drewN | apply Kd.R_drew)); exact h) : p := h h0.out
theorem ks {α : Type} {d : Kd α} {e : Nat} {w : World} {base : Nat} {ok : Nat → Prop} {A : Option Addr} {n c : Nat} {xs : List α} {p : Prop} (h0 : Aside0 (d.R e w base ok (.slice A n c) xs))
    (h : d.C w A xs.length xs → p := by intro h; repeat (first | exact h | (with_reducible refine Kd.C_alloc ?_ _) | (with_reducible refine Kd.C_drewN ?_ _) | (with_reducible refine Kd.C_drew ?_))) : p := h (Kd.R_reads' h0.out).2.2
theorem sa0 {α : Type} {l : List α} {i : Nat} {a : α} : l.toArray.setIfInBounds i a = (l.set i a).toArray := List.setIfInBounds_toArray _ _ _
theorem sa1 {α : Type} {x a : α} {xs : List α} : (x :: xs).set 0 a = a :: xs := List.set_cons_zero
theorem sa2 {α : Type} {x a : α} {xs : List α} {i : Nat} : (x :: xs).set (i + 1) a = x :: xs.set i a := List.set_cons_succ
theorem ga {p : Prop} (h : p := by (try simp only [List.map_toArray, List.map_cons, List.map_nil]); first | done | rfl | (simp only [List.length_drop, List.length_take]; rfl)) : p := h
theorem er {p : Prop} (h : p := by first | rfl | (simp [errW_none, errW_some] <;> rfl) | (simp [*, errW_none, errW_some] <;> rfl)) : p := h
theorem kb {q p : Prop} (h0 : Aside0 q) (h : q → p := by intro h; (with_reducible repeat (first | refine blk_drewN ?_ _ | refine blk_drew ?_ | refine blk_alloc ?_ _)); exact h) : p := h h0.out
theorem bes {B : Nat} {w W : World} (h : Below B w W := by repeat (first | (with_reducible first | exact Aside0.out (by assumption) | apply below_alloc | apply pw_below_drewN | apply below_drew1 | refine below_set ?_ (Aside0.out (by assumption))) | exact Aside0.out (by assumption))) : Below B w W := h
theorem kv {α : Type} {d : Kd α} {e : Nat} {w : World} {base : Nat} {ok : Nat → Prop} {v : Value} {xs : List α} {p : Prop} (h0 : Aside0 (Kd.V d e w base ok v xs)) (h : Kd.V d e w base ok v xs → p := by intro h; (with_reducible repeat (first | apply Kd.V_alloc | apply Kd.V_drewN | apply Kd.V_drew)); exact h) : p := h h0.out
theorem kvs {α : Type} {d : Kd α} {e : Nat} {w : World} {base : Nat} {ok : Nat → Prop} {A : Option Addr} {n c : Nat} {xs : List α} {p : Prop} (h0 : Aside0 (Kd.V d e w base ok (.slice A n c) xs))
    (h : d.C w A xs.length xs → p := by intro h; repeat (first | exact h | (with_reducible refine Kd.C_alloc ?_ _) | (with_reducible refine Kd.C_drewN ?_ _) | (with_reducible refine Kd.C_drew ?_))) : p := h (Kd.V_reads' h0.out).2.2
theorem bb {w0 w w1 : World} {g : Nat} {o : Obj} (h0 : Aside0 (w0.heap[g]? = some o)) (hb : Below w.heap.size w w1) (h : w0.heap[g]? = some o → w.heap[g]? = some o := by intro h; (with_reducible repeat (first | refine blk_drewN ?_ _ | refine blk_drew ?_ | refine blk_alloc ?_ _)); exact h) : w1.heap[g]? = some o := blk_below (h h0.out) hb
theorem nl {w0 w : World} {g g' : Nat} {o : Obj} (hg : g' = w.heap.size) (h0 : Aside0 (w0.heap[g]? = some o)) (h : w0.heap[g]? = some o → w.heap[g]? = some o := by intro h; (with_reducible repeat (first | refine blk_drewN ?_ _ | refine blk_drew ?_ | refine blk_alloc ?_ _)); exact h) : g ≠ g' := fun e => Nat.ne_of_lt (blk_lt (h h0.out)) (e.trans hg)
theorem ng {w0 w : World} {g g' : Nat} {o : Obj} (hg : g' = w.heap.size) (h0 : Aside0 (w0.heap[g]? = some o)) (h : w0.heap[g]? = some o → w.heap[g]? = some o := by intro h; (with_reducible repeat (first | refine blk_drewN ?_ _ | refine blk_drew ?_ | refine blk_alloc ?_ _)); exact h) : g' ≠ g := fun e => nl hg h0 h e.symm
theorem fb {w0 w : World} {g : Nat} {o : Obj} (h0 : Aside0 (w0.heap[g]? = some o)) (k : Nat) (hk : w.heap.size ≤ k) (h : w0.heap[g]? = some o → w.heap[g]? = some o := by intro h; (with_reducible repeat (first | refine blk_drewN ?_ _ | refine blk_drew ?_ | refine blk_alloc ?_ _)); exact h) : k ≠ g := Kd.freshB (h h0.out) k hk
theorem ge {w W : World} {g : Nat} (hg : g = W.heap.size) (h : Below w.heap.size w W := by repeat (first | (with_reducible first | exact Aside0.out (by assumption) | apply below_alloc | apply pw_below_drewN | apply below_drew1 | refine below_set ?_ (Aside0.out (by assumption))) | exact Aside0.out (by assumption))) : w.heap.size ≤ g := by rw [hg]; exact below_size h
theorem bc {w : World} {g : Nat} {l : List Value} {t : TypeId} {v : Value} (h0 : Aside0 (w.heap[g]? = some (.cells l.toArray t (0, 0)))) (i : Nat) (hv : l[i]? = some v) : w.cell? ⟨g, i, none⟩ = some v := by rw [blk_cell h0.out, List.getElem?_toArray]; exact hv
theorem gbox {P : Program} {ops : Array Oper} {rest : List Oper} {o : Oper} {a : Act} {Q : Exit → Act → World → Prop} {W : World} {N : Tmp} {cs : Array Value} {t : TypeId}
    (h : ∀ g, g = W.heap.size → ∀ w1, w1.heap[g]? = some (.cells cs t (0, 0)) → Below W.heap.size W w1 → wpList P ops Q rest (a.put o.dst (.pointer (some ⟨g, 0, none⟩))) w1)
    (hd : o.dst = some N := by rfl) (hgd : o.guard = none := by rfl) (hrun : (execOp a.eval o).run P W = .ok (.value (.pointer (some ⟨W.heap.size, 0, none⟩))) (W.alloc (.cells cs t (0, 0))) := by first | (go_simp; done) | (go_simp; rfl)) : wpList P ops Q (o :: rest) a W := box_event hgd hd hrun h
theorem bk {w : World} {g : Nat} {cs : Array Value} {t : TypeId} {v : Value} (h0 : Aside0 (w.heap[g]? = some (.cells cs t (0, 0)))) (i : Nat) (hv : cs[i]? = some v := by rfl) : w.cell? ⟨g, i, none⟩ = some v := (blk_cell h0.out i).trans hv
theorem km {α : Type} {d : Kd α} {e : Nat} {w w' : World} {base : Nat} {ok ok' : Nat → Prop} {v : Value} {xs : List α} (h0 : Aside0 (d.R e w base ok v xs)) (f : ∀ k, ok k → ok' k)
    (h : d.R e w base ok' v xs → d.R e w' base ok' v xs := by intro h; (with_reducible repeat (first | apply Kd.R_alloc | apply Kd.R_drewN | apply Kd.R_drew)); exact h) : d.R e w' base ok' v xs := h (Kd.R_mono h0.out f)
theorem kz {q p : Prop} (h0 : Aside0 q) (h : q → p := by intro h; repeat (first | (with_reducible first | exact h | apply KeepBut.set_ | apply keep_drewN | apply keep_drew | apply keep_alloc) | exact h)) : p := h h0.out
theorem ky {q p : Prop} (h0 : Aside0 q) (h : q → p := by intro h; repeat (first | (with_reducible first | exact h | apply KeepBut.set_ | apply keep_drewN | apply keep_drew | apply keep_alloc | refine keep_far ?_ (Aside0.out (by assumption)) _) | exact h)) : p := h h0.out
theorem bp {w : World} {g : Nat} {cs : Array Value} {t : TypeId} {p : Prop} (h0 : Aside0 (w.heap[g]? = some (.cells cs t (0, 0))))
    (h : w.heap[g]? = some (.cells cs t (0, 0)) → (∀ (W : World) (c c' : Array Value) (i : Nat) (u : Value), W.heap[g]? = some (.cells c t (0, 0)) → c.setIfInBounds i u = c' → (W.setCell ⟨g, i, none⟩ u).heap[g]? = some (.cells c' t (0, 0))) → p := by
      intro h st; (repeat (with_reducible first | exact h | (refine st _ ?_ _ _ _ ?_ ?_; rotate_left) | refine blk_drewN ?_ _ | refine blk_drew ?_ | refine blk_alloc ?_ _)); all_goals rfl) : p :=
  h h0.out fun _ _ _ i u hh e => blk_put hh i u e
theorem bf {q p : Prop} {g g' : Nat} (h0 : Aside0 q) (hn : Aside0 (g ≠ g')) (h : q → g ≠ g' → p := by intro h hn; repeat (first | (with_reducible first | exact h | refine blk_far ?_ hn _ | refine blk_drewN ?_ _ | refine blk_drew ?_ | refine blk_alloc ?_ _) | exact h)) : p := h h0.out hn.out
theorem ax1 {p0 q : Prop} (a0 : p0) (h : Aside0 p0 → q) : q := h ⟨a0⟩
theorem ax2 {p0 p1 q : Prop} (a0 : p0) (a1 : p1) (h : Aside0 p0 → Aside0 p1 → q) : q := h ⟨a0⟩ ⟨a1⟩
theorem ax3 {p0 p1 p2 q : Prop} (a0 : p0) (a1 : p1) (a2 : p2) (h : Aside0 p0 → Aside0 p1 → Aside0 p2 → q) : q := h ⟨a0⟩ ⟨a1⟩ ⟨a2⟩
theorem ax4 {p0 p1 p2 p3 q : Prop} (a0 : p0) (a1 : p1) (a2 : p2) (a3 : p3) (h : Aside0 p0 → Aside0 p1 → Aside0 p2 → Aside0 p3 → q) : q := h ⟨a0⟩ ⟨a1⟩ ⟨a2⟩ ⟨a3⟩
theorem ax5 {p0 p1 p2 p3 p4 q : Prop} (a0 : p0) (a1 : p1) (a2 : p2) (a3 : p3) (a4 : p4) (h : Aside0 p0 → Aside0 p1 → Aside0 p2 → Aside0 p3 → Aside0 p4 → q) : q := h ⟨a0⟩ ⟨a1⟩ ⟨a2⟩ ⟨a3⟩ ⟨a4⟩
theorem ax6 {p0 p1 p2 p3 p4 p5 q : Prop} (a0 : p0) (a1 : p1) (a2 : p2) (a3 : p3) (a4 : p4) (a5 : p5) (h : Aside0 p0 → Aside0 p1 → Aside0 p2 → Aside0 p3 → Aside0 p4 → Aside0 p5 → q) : q := h ⟨a0⟩ ⟨a1⟩ ⟨a2⟩ ⟨a3⟩ ⟨a4⟩ ⟨a5⟩
theorem ax7 {p0 p1 p2 p3 p4 p5 p6 q : Prop} (a0 : p0) (a1 : p1) (a2 : p2) (a3 : p3) (a4 : p4) (a5 : p5) (a6 : p6) (h : Aside0 p0 → Aside0 p1 → Aside0 p2 → Aside0 p3 → Aside0 p4 → Aside0 p5 → Aside0 p6 → q) : q := h ⟨a0⟩ ⟨a1⟩ ⟨a2⟩ ⟨a3⟩ ⟨a4⟩ ⟨a5⟩ ⟨a6⟩
theorem ax8 {p0 p1 p2 p3 p4 p5 p6 p7 q : Prop} (a0 : p0) (a1 : p1) (a2 : p2) (a3 : p3) (a4 : p4) (a5 : p5) (a6 : p6) (a7 : p7) (h : Aside0 p0 → Aside0 p1 → Aside0 p2 → Aside0 p3 → Aside0 p4 → Aside0 p5 → Aside0 p6 → Aside0 p7 → q) : q := h ⟨a0⟩ ⟨a1⟩ ⟨a2⟩ ⟨a3⟩ ⟨a4⟩ ⟨a5⟩ ⟨a6⟩ ⟨a7⟩
theorem ax9 {p0 p1 p2 p3 p4 p5 p6 p7 p8 q : Prop} (a0 : p0) (a1 : p1) (a2 : p2) (a3 : p3) (a4 : p4) (a5 : p5) (a6 : p6) (a7 : p7) (a8 : p8) (h : Aside0 p0 → Aside0 p1 → Aside0 p2 → Aside0 p3 → Aside0 p4 → Aside0 p5 → Aside0 p6 → Aside0 p7 → Aside0 p8 → q) : q := h ⟨a0⟩ ⟨a1⟩ ⟨a2⟩ ⟨a3⟩ ⟨a4⟩ ⟨a5⟩ ⟨a6⟩ ⟨a7⟩ ⟨a8⟩
theorem ax10 {p0 p1 p2 p3 p4 p5 p6 p7 p8 p9 q : Prop} (a0 : p0) (a1 : p1) (a2 : p2) (a3 : p3) (a4 : p4) (a5 : p5) (a6 : p6) (a7 : p7) (a8 : p8) (a9 : p9) (h : Aside0 p0 → Aside0 p1 → Aside0 p2 → Aside0 p3 → Aside0 p4 → Aside0 p5 → Aside0 p6 → Aside0 p7 → Aside0 p8 → Aside0 p9 → q) : q := h ⟨a0⟩ ⟨a1⟩ ⟨a2⟩ ⟨a3⟩ ⟨a4⟩ ⟨a5⟩ ⟨a6⟩ ⟨a7⟩ ⟨a8⟩ ⟨a9⟩
theorem ax12 {p0 p1 p2 p3 p4 p5 p6 p7 p8 p9 p10 p11 q : Prop} (a0 : p0) (a1 : p1) (a2 : p2) (a3 : p3) (a4 : p4) (a5 : p5) (a6 : p6) (a7 : p7) (a8 : p8) (a9 : p9) (a10 : p10) (a11 : p11) (h : Aside0 p0 → Aside0 p1 → Aside0 p2 → Aside0 p3 → Aside0 p4 → Aside0 p5 → Aside0 p6 → Aside0 p7 → Aside0 p8 → Aside0 p9 → Aside0 p10 → Aside0 p11 → q) : q := h ⟨a0⟩ ⟨a1⟩ ⟨a2⟩ ⟨a3⟩ ⟨a4⟩ ⟨a5⟩ ⟨a6⟩ ⟨a7⟩ ⟨a8⟩ ⟨a9⟩ ⟨a10⟩ ⟨a11⟩
theorem kfar2 {w w1 w2 : World} {g g2 : Nat} {row : Option Nat} (h : KeepBut w w1 g row) (k : KeepBut w1 w2 g2 none) (hg : w.heap.size ≤ g2) : KeepBut w w2 g row :=
  ⟨Nat.le_trans h.1 k.1, fun i hi h1 h2 => (k.2 i (Nat.lt_of_lt_of_le hi h.1) (Nat.ne_of_lt (Nat.lt_of_lt_of_le hi hg)) (by simp)).trans (h.2 i hi h1 h2)⟩
theorem dn2 {α : Type} {v : α} {w : World} {a b c : Nat} : v = v ∧ ∃ k, (w.drewN (a + b)).drewN c = w.drewN k := ⟨rfl, _, Eq.trans (World.drewN_drewN _ _ _) (congrArg (World.drewN _) (Nat.add_assoc _ _ _))⟩
theorem dn1 {α : Type} {v : α} {w : World} {m n : Nat} : v = v ∧ ∃ k, (w.drewN m).drewN n = w.drewN k := ⟨rfl, _, World.drewN_drewN _ _ _⟩
theorem cut_to3 {P : Program} (t e : TypeId) (kh : IntKind) {i : TypeInfo} (ht : P.underlying t = some (.slice e)) (hi : P.info? e = some i) (A : Option Addr) (n c : Nat) (j : Int) (h0 : 0 ≤ j) (hm : j ≤ n) (hc : n ≤ c) :
    ∀ W : World, (Instr.slice t (.slice A n c) none (some (.int kh j)) (some (.int kh j))).run P W = .ok (.slice A j.toNat j.toNat) W := by
  intro W
  have hel : P.elem t = e := by simp [Program.elem, ht]
  have hu : P.underlying t = some (.slice (P.elem t)) := by rw [hel]; exact ht
  have ha : (A.map fun x => x.add 0) = A := by cases A <;> simp [Addr.add]
  rw [run_slice_hm W t A n c hu kh kh j j h0 (Int.le_refl _) (by omega), hel]
  simp [sizeOf, typeInfo, hi, sliced, Result.andThen, ha]
section
variable {P : Program} {ops : Array Oper} {Q : Exit → Act → World → Prop} {rest : List Oper} {o : Oper} {a : Act} {α : Type}
/-- make([]T, n, c). -/
theorem Kd.R_makeC (d : Kd α) {w0 W : World} (base e : Nat) (hgd : o.guard = none) {N : Tmp} (hd : o.dst = some N) (t : TypeId) (x y : Operand) (ho : o.op = .makeSlice t x y) (n c : Int) (hx : a.eval x = .int .i64 n) (hy : a.eval y = .int .i64 c)
    (ht : P.underlying t = some (.slice e)) (z : Value) (bytes : Nat) (hinfo : (P.info? e).map (fun i => (i.zero, i.size, i.bytes)) = some (some z, d.sz, bytes)) (hz : z.cells.size = d.sz) (hs0 : 0 < d.sz) (hb0 : 0 < bytes)
    (z0 : α) {ok okp : Nat → Prop} (hzero : d.M W base okp z0 z.cells.toList) (hok : ∀ k, okp k → ok k) (hfresh : ok W.heap.size) (h0 : 0 ≤ n) (hnc : n ≤ c) (hl : c.toNat * bytes ≤ 281474976710656) (HB : Below base w0 W) (hbase : base ≤ W.heap.size)
    (h : ∀ v1 w1, d.R e w1 base ok v1 (List.replicate n.toNat z0) → Below base w0 w1 → W.grownBy w1 none → (∃ b, v1.ownBlock = some b ∧ W.heap.size ≤ b) → wpList P ops Q rest (a.put o.dst v1) w1) : wpList P ops Q (o :: rest) a W := by
  obtain ⟨m, rfl⟩ := Int.eq_ofNat_of_zero_le h0
  obtain ⟨q, rfl⟩ := Int.eq_ofNat_of_zero_le (Int.le_trans h0 hnc)
  simp only [Int.toNat_natCast] at hl h
  obtain ⟨i0, hi, hzz⟩ := Option.map_eq_some_iff.1 hinfo
  simp only [Prod.mk.injEq] at hzz
  obtain ⟨hz0, hz1, hz2⟩ := hzz
  have hq : q ≤ 281474976710656 := Nat.le_trans (Nat.le_mul_of_pos_right _ hb0) hl
  have hr := run_make (P := P) W t e i0 z ht hi hz0 .i64 .i64 (m : Int) (q : Int) (by omega) (by omega)
    (by
      have h3 : ((i0.bytes * q : Nat) : Int) ≤ 281474976710656 := by rw [hz2, Nat.mul_comm]; omega
      rwa [Int.natCast_mul] at h3) (by omega)
  simp only [Int.toNat_natCast] at hr
  rw [hz1] at hr
  have hrep : Reps (d.M W base okp) d.sz (List.replicate q z0) (madeCells z.cells (q * d.sz)).toList := reps_made hz hs0 hzero q
  have full : d.R e (W.alloc (.cells (madeCells z.cells (q * d.sz)) e)) base ok (.slice (some ⟨W.heap.size, 0, none⟩) q q) (List.replicate q z0) := by
    refine ⟨fun k hk => ?_, (madeCells z.cells (q * d.sz)).toList, ?_, ?_⟩
    · have : W.heap.size = k := by simpa [Value.ownBlock] using hk
      subst this
      exact hfresh
    · have h2 := World.ownsRow_lit (base := base) (e := e) (size := d.sz) W (madeCells z.cells (q * d.sz)) q hbase (by simp [maxLen]; omega) (by simp [size_madeCells])
      simpa using h2
    · refine hrep.imp_ (fun p c hp => d.M_mono (fun k hk => ⟨hok k hk.1, fun he => ?_⟩) (Kd.M_below (d.M_bound hp) (below_alloc (Below.refl _ _) _)))
      have h3 : k = W.heap.size := by simpa [Value.ownBlock] using he
      have := hk.2.2.1
      omega
  have cut := Kd.R_take (m := m) full (by simp; omega)
  rw [List.take_replicate, Nat.min_eq_left (by omega)] at cut
  refine event_run hgd (by simp [execOp, ho, hx, hy, hr]) (h _ _ cut (HB.alloc hbase _) (World.grownBy_alloc W _ none) ⟨W.heap.size, by simp [Value.ownBlock], Nat.le_refl _⟩)
end
end Go.Proofs.YtnjobojkoaknpaaW.PrintWords
namespace Go.Proofs.YtnjobojkoaknpaaW.PrintLast
open Go Go.RowKit Go.Proofs.YtnjobojkoaknpaaW.PrintWords
section
variable {P : Program} {ops : Array Oper} {Q : Exit → Act → World → Prop}
/-- A list of marks, by a number; the steps of a region that draws its order, each in one word. -/
def bitsL : Nat → Nat → List Bool
  | 0, _ => []
  | n + 1, m => Nat.beq (m % 2) 1 :: bitsL n (m / 2)
def lm (n m : Nat) : Array Bool := (bitsL n m).toArray
theorem pu {md : Region.Mode} {S : World → Prop} {ds : List Nat} (i : Nat) (D : Tmp) (l' : Array Bool) {T : Bool × List (List Nat × List Nat)} (HT : Aside0 (rtab md ops = T)) {oi : Oper} {v : Value} {fuel : Nat} {l : Array Bool} {a a' : Act} {w : World}
    (h : wpAnyLast P md ops Q S ds fuel l' a' w) (hi : ops[i]? = some oi := by exact rfl) (hN : oi.dst = some D := by exact rfl) (hc : anyT T l.toList l'.toList i = true := by kernel_rfl)
    (hQ : ∀ c a w, Q (.panic c) (a.put oi.dst v) w → Q (.panic c) a w := by exact fun _ _ _ h => h) (hw : Region.wanted oi (yielded ops a.tmps) = true := by rfl)
    (hy : ∀ w', (execOp a.eval oi).run P w' = .ok (.value v) w' := by intro w'; go_simp; with_reducible rfl) (ha : a.put (some D) v = a' := by (simp only [Act.put, sa0, sa1, sa2, i64_w, i32_w]); rfl) : wpAnyLast P md ops Q S ds (fuel + 1) l a w :=
  pure_ l' hi hN (any_of HT.out hc) hQ (Or.inl ⟨hw, hy⟩) ha h
theorem po {md : Region.Mode} {S : World → Prop} {ds : List Nat} (i : Nat) (D : Tmp) (l' : Array Bool) {T : Bool × List (List Nat × List Nat)} (HT : Aside0 (rtab md ops = T)) {oi : Oper} {fuel : Nat} {l : Array Bool} {a a' : Act} {w : World}
    (h : wpAnyLast P md ops Q S ds fuel l' a' w) (hi : ops[i]? = some oi := by exact rfl) (hN : oi.dst = some D := by exact rfl) (hc : anyT T l.toList l'.toList i = true := by kernel_rfl)
    (hQ : ∀ c a w, Q (.panic c) (a.put oi.dst undef) w → Q (.panic c) a w := by exact fun _ _ _ h => h) (hw : Region.wanted oi (yielded ops a.tmps) = false := by rfl)
    (ha : a.put (some D) undef = a' := by (simp only [Act.put, sa0, sa1, sa2, i64_w, i32_w]); rfl) : wpAnyLast P md ops Q S ds (fuel + 1) l a w :=
  pure_ l' hi hN (any_of HT.out hc) hQ (Or.inr ⟨hw, rfl⟩) ha h
theorem ta {md : Region.Mode} {S : World → Prop} {ds : List Nat} (i : Nat) (D : Tmp) (l' : Array Bool) {T : Bool × List (List Nat × List Nat)} {B : List Nat} (HT : Aside0 (rtab md ops = T)) (HW : Aside0 (waitsOk T.2 B = true)) {oi : Oper} {v : Value} {fuel : Nat} {l : Array Bool} {a a' : Act} {w : World}
    (hS : S w) (h : wpAnyLast P md ops Q S ds fuel l' a' w) (hi : ops[i]? = some oi := by exact rfl) (hN : oi.dst = some D := by exact rfl) (hc : takeW T B ds l.toList l'.toList i = true := by kernel_rfl)
    (hQ : ∀ c a w, Q (.panic c) (a.put oi.dst v) w → Q (.panic c) a w := by exact fun _ _ _ h => h) (hw : Region.wanted oi (yielded ops a.tmps) = true := by rfl)
    (hy : ∀ w', S w' → (execOp a.eval oi).run P w' = .ok (.value v) w' := by intro w' hs; (repeat (obtain ⟨_, hs⟩ := hs)); go_simp; with_reducible rfl) (ha : a.put (some D) v = a' := by (simp only [Act.put, sa0, sa1, sa2, i64_w, i32_w]); rfl) : wpAnyLast P md ops Q S ds (fuel + 1) l a w :=
  take_ l' hi hN (take_ofW HT.out HW.out hc) hQ (Or.inl ⟨hw, hy⟩) hS ha h
theorem no {md : Region.Mode} {S : World → Prop} {ds : List Nat} (D : Tmp) {v : Value} {fuel : Nat} {l : Array Bool} {a a' : Act} {w : World} (h : wpAnyLast P md ops Q S ds fuel l a' w) (ha : a.put (some D) v = a' := by (simp only [Act.put, sa0, sa1, sa2, i64_w, i32_w]); rfl) : wpAnyLast P md ops Q S ds fuel l (a.put (some D) v) w := norm_ ha h
theorem on {md : Region.Mode} {S : World → Prop} {ds : List Nat} (i : Nat) (N : Option Tmp) (l' : Array Bool) {T : Bool × List (List Nat × List Nat)} (HT : Aside0 (rtab md ops = T)) {oi : Oper} {fuel : Nat} {l : Array Bool} {a : Act} {w : World}
    (h : ∀ K : Act → World → Prop, Shut (∀ a' w', S w' → (S w' → wpAnyLast P md ops Q S ds fuel l' a' w') → K a' w') → if Region.wanted oi (yielded ops a.tmps) = true then Oper.wp P oi a w K Q else K (a.put N undef) w)
    (hi : ops[i]? = some oi := by exact rfl) (hN : oi.dst = N := by exact rfl) (hc : (readyT T.2 l.toList == [i] && l.toList.set i true == l'.toList) = true := by kernel_rfl) (hd : i ∉ ds := by decide) : wpAnyLast P md ops Q S ds (fuel + 1) l a w :=
  one_ l' hi hN (one_of HT.out hc) hd h
theorem nP {md : Region.Mode} {S : World → Prop} {ds : List Nat} {fuel : Nat} {l : Array Bool} {a a' : Act} {w : World} (h : wpAnyLast P md ops Q S ds fuel l a' w) (ha : a = a' := by simp only [putAll, Act.put, List.setIfInBounds_toArray, List.set_cons_zero, List.set_cons_succ]) : wpAnyLast P md ops Q S ds fuel l a w := norm_ ha h
/-- What is held while a region runs may be told anew, where nothing was held before. -/
theorem switch_aux {md : Region.Mode} {S' : World → Prop} {ds ds' : List Nat} : ∀ (fuel : Nat) (l : Array Bool) (a : Act) (w : World), wpAnyLast P md ops Q S' ds' fuel l a w → wpAnyLast P md ops Q (fun _ => True) ds fuel l a w
  | 0, _, _, _, h => h
  | fuel + 1, _, _, _, h => ⟨h.1, fun i hi => wpOp_mono (fun a' w' h' => ⟨fun _ _ => trivial, switch_aux fuel _ a' w' h'.2⟩) (h.2 i hi)⟩
theorem switch_ {md : Region.Mode} {S' : World → Prop} {ds : List Nat} {fuel : Nat} {l : Array Bool} {a : Act} {w : World} (hS : S' w) (h : S' w → wpAnyLast P md ops Q S' [] fuel l a w) : wpAnyLast P md ops Q (fun _ => True) ds fuel l a w := switch_aux fuel l a w (h hS)
/-- A call by a local that holds a function: in a region that draws; in a plain one. -/
theorem goesD_ {oi : Oper} {N : Option Tmp} {a : Act} {w : World} {K : Act → World → Prop} {f : FuncId} {fn : Func} {op : Operand} {os_ : Array Operand} {ts : Array TypeId} (hf : P.funcs[f]? = some fn) (hname : (fn.name == "runtime.NumGoroutine") = false) (hb : fn.body.isSome = true) (args : Array Value)
    (hw : Region.wanted oi (yielded ops a.tmps) = true) (hN : oi.dst = N) (hop : oi.op = .call { callee := .value op, args := os_, argTypes := ts }) (hargs : os_.map a.eval = args)
    (h : Calls P f args w fun e w' => ∃ v, e = .returned v ∧ K (a.put N v) w') (hv : a.eval op = a.eval (.func f) := by rfl) : if Region.wanted oi (yielded ops a.tmps) = true then Oper.wp P oi a w K Q else K (a.put N undef) w := by
  refine call_ f args hw hN ?_ h
  have he := enters_ hf hname hb args w
  unfold execOp
  simp only [hop, resolve, hv]
  simp [Deferred.ofValue, invoke, Act.eval, hargs, he]
theorem goesDL_ {rest : List Oper} {oi : Oper} {a : Act} {w : World} (N : Option Tmp) (hd : oi.dst = N) (hg : oi.guard = none) {f : FuncId} {fn : Func} {op : Operand} {os_ : Array Operand} {ts : Array TypeId} (hf : P.funcs[f]? = some fn) (hname : (fn.name == "runtime.NumGoroutine") = false) (hb : fn.body.isSome = true) (args : Array Value)
    (hop : oi.op = .call { callee := .value op, args := os_, argTypes := ts }) (hargs : os_.map a.eval = args)
    (h : Calls P f args w fun e w' => ∃ v, e = .returned v ∧ wpList P ops Q rest (a.put N v) w') (hv : a.eval op = a.eval (.func f) := by rfl) : wpList P ops Q (oi :: rest) a w := by
  refine wpList_plain hg fun K hK => ?_
  have he := enters_ hf hname hb args w
  have hrun : (execOp a.eval oi).run P w = .ok (.enter f args) w := by
    unfold execOp
    simp only [hop, resolve, hv]
    simp [Deferred.ofValue, invoke, Act.eval, hargs, he]
  unfold Oper.wp
  rw [hrun, Oper.upon_enter]
  refine h.mono fun e w'' hh => ?_
  obtain ⟨v, rfl, hk⟩ := hh
  subst hd
  exact hK _ _ hk
end
end Go.Proofs.YtnjobojkoaknpaaW.PrintLast

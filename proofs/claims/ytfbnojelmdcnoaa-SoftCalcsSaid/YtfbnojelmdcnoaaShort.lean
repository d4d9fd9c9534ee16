/- Short words for what the printed proofs say over and over: each is a statement with its own default proof. -/
import Derived.Test.YtfbnojelmdcnoaaWordsMore

namespace Go.Proofs.YtfbnojelmdcnoaaW.PrintWords
open Go Go.RowKit
set_option linter.unusedVariables false
theorem bel {B : Nat} {w W : World} (h : Below B w W := by repeat (first | (with_reducible first | exact Aside0.out (by assumption) | apply below_alloc | apply pw_below_drewN | apply below_drew1) | exact Aside0.out (by assumption))) : Below B w W := h
theorem kr {q p : Prop} (h0 : Aside0 q) (h : q → p := by intro h; (with_reducible repeat (first | apply Kd.R_alloc | apply Kd.R_drewN | apply Kd.R_drew)); exact h) : p := h h0.out
theorem ks {α : Type} {d : Kd α} {e : Nat} {w : World} {base : Nat} {ok : Nat → Prop} {A : Option Addr} {n c : Nat} {xs : List α} {p : Prop} (h0 : Aside0 (d.R e w base ok (.slice A n c) xs))
    (h : d.C w A xs.length xs → p := by intro h; repeat (first | exact h | (with_reducible refine Kd.C_alloc ?_ _) | (with_reducible refine Kd.C_drewN ?_ _) | (with_reducible refine Kd.C_drew ?_))) : p := h (Kd.R_reads' h0.out).2.2
theorem sa0 {α : Type} {l : List α} {i : Nat} {a : α} : l.toArray.setIfInBounds i a = (l.set i a).toArray := List.setIfInBounds_toArray _ _ _
theorem sa1 {α : Type} {x a : α} {xs : List α} : (x :: xs).set 0 a = a :: xs := List.set_cons_zero
theorem sa2 {α : Type} {x a : α} {xs : List α} {i : Nat} : (x :: xs).set (i + 1) a = x :: xs.set i a := List.set_cons_succ
theorem ga {p : Prop} (h : p := by (try simp only [List.map_toArray, List.map_cons, List.map_nil]); first | done | rfl | (simp only [List.length_drop, List.length_take]; rfl)) : p := h
theorem er {p : Prop} (h : p := by first | rfl | (simp [errW_none, errW_some] <;> rfl) | (simp [*, errW_none, errW_some] <;> rfl)) : p := h
theorem kb {q p : Prop} (h0 : Aside0 q) (h : q → p := by intro h; (with_reducible repeat (first | refine blk_drewN ?_ _ | refine blk_drew ?_ | refine blk_alloc ?_ _)); exact h) : p := h h0.out
theorem bes {B : Nat} {w W : World} (h : Below B w W := by repeat (first | (with_reducible first | exact Aside0.out (by assumption) | apply below_alloc | apply pw_below_drewN | apply below_drew1 | refine below_set ?_ (Aside0.out (by assumption))) | exact Aside0.out (by assumption))) : Below B w W := h
theorem kv {α : Type} {d : Kd α} {e : Nat} {w : World} {base : Nat} {ok : Nat → Prop} {v : Value} {xs : List α} {p : Prop} (h0 : Aside0 (Kd.V d e w base ok v xs)) (h : Kd.V d e w base ok v xs → p := by intro h; (with_reducible repeat (first | apply Kd.V_alloc | apply Kd.V_drewN | apply Kd.V_drew)); exact h) : p := h h0.out
theorem kvs {α : Type} {d : Kd α} {e : Nat} {w : World} {base : Nat} {ok : Nat → Prop} {A : Option Addr} {n c : Nat} {xs : List α} {p : Prop} (h0 : Aside0 (Kd.V d e w base ok (.slice A n c) xs))
    (h : d.C w A xs.length xs → p := by intro h; repeat (first | exact h | (with_reducible refine Kd.C_alloc ?_ _) | (with_reducible refine Kd.C_drewN ?_ _) | (with_reducible refine Kd.C_drew ?_))) : p := h (Kd.V_reads' h0.out).2.2
theorem bb {w0 w w1 : World} {g : Nat} {o : Obj} (h0 : Aside0 (w0.heap[g]? = some o)) (hb : Below w.heap.size w w1) (h : w0.heap[g]? = some o → w.heap[g]? = some o := by intro h; (with_reducible repeat (first | refine blk_drewN ?_ _ | refine blk_drew ?_ | refine blk_alloc ?_ _)); exact h) : w1.heap[g]? = some o := blk_below (h h0.out) hb
theorem nl {w0 w : World} {g g' : Nat} {o : Obj} (hg : g' = w.heap.size) (h0 : Aside0 (w0.heap[g]? = some o)) (h : w0.heap[g]? = some o → w.heap[g]? = some o := by intro h; (with_reducible repeat (first | refine blk_drewN ?_ _ | refine blk_drew ?_ | refine blk_alloc ?_ _)); exact h) : g ≠ g' := fun e => Nat.ne_of_lt (blk_lt (h h0.out)) (e.trans hg)
theorem ng {w0 w : World} {g g' : Nat} {o : Obj} (hg : g' = w.heap.size) (h0 : Aside0 (w0.heap[g]? = some o)) (h : w0.heap[g]? = some o → w.heap[g]? = some o := by intro h; (with_reducible repeat (first | refine blk_drewN ?_ _ | refine blk_drew ?_ | refine blk_alloc ?_ _)); exact h) : g' ≠ g := fun e => nl hg h0 h e.symm
theorem fb {w0 w : World} {g : Nat} {o : Obj} (h0 : Aside0 (w0.heap[g]? = some o)) (k : Nat) (hk : w.heap.size ≤ k) (h : w0.heap[g]? = some o → w.heap[g]? = some o := by intro h; (with_reducible repeat (first | refine blk_drewN ?_ _ | refine blk_drew ?_ | refine blk_alloc ?_ _)); exact h) : k ≠ g := Kd.freshB (h h0.out) k hk
theorem ge {w W : World} {g : Nat} (hg : g = W.heap.size) (h : Below w.heap.size w W := by repeat (first | (with_reducible first | exact Aside0.out (by assumption) | apply below_alloc | apply pw_below_drewN | apply below_drew1 | refine below_set ?_ (Aside0.out (by assumption))) | exact Aside0.out (by assumption))) : w.heap.size ≤ g := by rw [hg]; exact below_size h
theorem bc {w : World} {g : Nat} {l : List Value} {t : TypeId} {v : Value} (h0 : Aside0 (w.heap[g]? = some (.cells l.toArray t (0, 0)))) (i : Nat) (hv : l[i]? = some v) : w.cell? ⟨g, i, none⟩ = some v := by rw [blk_cell h0.out, List.getElem?_toArray]; exact hv
theorem gbox {P : Program} {ops : Array Oper} {rest : List Oper} {o : Oper} {a : Act} {Q : Exit → Act → World → Prop} {W : World} {N : Tmp} {cs : Array Value} {t : TypeId}
    (h : ∀ g, g = W.heap.size → ∀ w1, w1.heap[g]? = some (.cells cs t (0, 0)) → Below W.heap.size W w1 → wpList P ops Q rest (a.put o.dst (.pointer (some ⟨g, 0, none⟩))) w1)
    (hd : o.dst = some N := by rfl) (hgd : o.guard = none := by rfl) (hrun : (execOp a.eval o).run P W = .ok (.value (.pointer (some ⟨W.heap.size, 0, none⟩))) (W.alloc (.cells cs t (0, 0))) := by first | (go_simp; done) | (go_simp; rfl)) : wpList P ops Q (o :: rest) a W := box_event hgd hd hrun h
theorem ax1 {p0 q : Prop} (a0 : p0) (h : Aside0 p0 → q) : q := h ⟨a0⟩
theorem ax2 {p0 p1 q : Prop} (a0 : p0) (a1 : p1) (h : Aside0 p0 → Aside0 p1 → q) : q := h ⟨a0⟩ ⟨a1⟩
theorem ax3 {p0 p1 p2 q : Prop} (a0 : p0) (a1 : p1) (a2 : p2) (h : Aside0 p0 → Aside0 p1 → Aside0 p2 → q) : q := h ⟨a0⟩ ⟨a1⟩ ⟨a2⟩
theorem ax4 {p0 p1 p2 p3 q : Prop} (a0 : p0) (a1 : p1) (a2 : p2) (a3 : p3) (h : Aside0 p0 → Aside0 p1 → Aside0 p2 → Aside0 p3 → q) : q := h ⟨a0⟩ ⟨a1⟩ ⟨a2⟩ ⟨a3⟩
theorem ax7 {p0 p1 p2 p3 p4 p5 p6 q : Prop} (a0 : p0) (a1 : p1) (a2 : p2) (a3 : p3) (a4 : p4) (a5 : p5) (a6 : p6) (h : Aside0 p0 → Aside0 p1 → Aside0 p2 → Aside0 p3 → Aside0 p4 → Aside0 p5 → Aside0 p6 → q) : q := h ⟨a0⟩ ⟨a1⟩ ⟨a2⟩ ⟨a3⟩ ⟨a4⟩ ⟨a5⟩ ⟨a6⟩
theorem ax10 {p0 p1 p2 p3 p4 p5 p6 p7 p8 p9 q : Prop} (a0 : p0) (a1 : p1) (a2 : p2) (a3 : p3) (a4 : p4) (a5 : p5) (a6 : p6) (a7 : p7) (a8 : p8) (a9 : p9) (h : Aside0 p0 → Aside0 p1 → Aside0 p2 → Aside0 p3 → Aside0 p4 → Aside0 p5 → Aside0 p6 → Aside0 p7 → Aside0 p8 → Aside0 p9 → q) : q := h ⟨a0⟩ ⟨a1⟩ ⟨a2⟩ ⟨a3⟩ ⟨a4⟩ ⟨a5⟩ ⟨a6⟩ ⟨a7⟩ ⟨a8⟩ ⟨a9⟩
theorem dn2 {α : Type} {v : α} {w : World} {a b c : Nat} : v = v ∧ ∃ k, (w.drewN (a + b)).drewN c = w.drewN k := ⟨rfl, _, Eq.trans (World.drewN_drewN _ _ _) (congrArg (World.drewN _) (Nat.add_assoc _ _ _))⟩
theorem dn1 {α : Type} {v : α} {w : World} {m n : Nat} : v = v ∧ ∃ k, (w.drewN m).drewN n = w.drewN k := ⟨rfl, _, World.drewN_drewN _ _ _⟩
theorem cut_to3 {P : Program} (t e : TypeId) (kh : IntKind) {i : TypeInfo} (ht : P.underlying t = some (.slice e)) (hi : P.info? e = some i) (A : Option Addr) (n c : Nat) (j : Int) (h0 : 0 ≤ j) (hm : j ≤ n) (hc : n ≤ c) :
    ∀ W : World, (Instr.slice t (.slice A n c) none (some (.int kh j)) (some (.int kh j))).run P W = .ok (.slice A j.toNat j.toNat) W := by
  intro W
  have hel : P.elem t = e := by simp [Program.elem, ht]
  have hu : P.underlying t = some (.slice (P.elem t)) := by rw [hel]; exact ht
  have ha : (A.map fun x => x.add 0) = A := by cases A <;> simp [Addr.add]
  rw [run_slice_hm W t A n c hu kh kh j j h0 (Int.le_refl _) (by omega), hel]
  simp [sizeOf, typeInfo, hi, sliced, Result.andThen, ha]
section
variable {P : Program} {ops : Array Oper} {Q : Exit → Act → World → Prop} {rest : List Oper} {o : Oper} {a : Act} {α : Type}
/-- make([]T, n, c). -/
theorem Kd.R_makeC (d : Kd α) {w0 W : World} (base e : Nat) (hgd : o.guard = none) {N : Tmp} (hd : o.dst = some N) (t : TypeId) (x y : Operand) (ho : o.op = .makeSlice t x y) (n c : Int) (hx : a.eval x = .int .i64 n) (hy : a.eval y = .int .i64 c)
    (ht : P.underlying t = some (.slice e)) (z : Value) (bytes : Nat) (hinfo : (P.info? e).map (fun i => (i.zero, i.size, i.bytes)) = some (some z, d.sz, bytes)) (hz : z.cells.size = d.sz) (hs0 : 0 < d.sz) (hb0 : 0 < bytes)
    (z0 : α) {ok okp : Nat → Prop} (hzero : d.M W base okp z0 z.cells.toList) (hok : ∀ k, okp k → ok k) (hfresh : ok W.heap.size) (h0 : 0 ≤ n) (hnc : n ≤ c) (hl : c.toNat * bytes ≤ 281474976710656) (HB : Below base w0 W) (hbase : base ≤ W.heap.size)
    (h : ∀ v1 w1, d.R e w1 base ok v1 (List.replicate n.toNat z0) → Below base w0 w1 → W.grownBy w1 none → (∃ b, v1.ownBlock = some b ∧ W.heap.size ≤ b) → wpList P ops Q rest (a.put o.dst v1) w1) : wpList P ops Q (o :: rest) a W := by
  obtain ⟨m, rfl⟩ := Int.eq_ofNat_of_zero_le h0
  obtain ⟨q, rfl⟩ := Int.eq_ofNat_of_zero_le (Int.le_trans h0 hnc)
  simp only [Int.toNat_natCast] at hl h
  obtain ⟨i0, hi, hzz⟩ := Option.map_eq_some_iff.1 hinfo
  simp only [Prod.mk.injEq] at hzz
  obtain ⟨hz0, hz1, hz2⟩ := hzz
  have hq : q ≤ 281474976710656 := Nat.le_trans (Nat.le_mul_of_pos_right _ hb0) hl
  have hr := run_make (P := P) W t e i0 z ht hi hz0 .i64 .i64 (m : Int) (q : Int) (by omega) (by omega)
    (by
      have h3 : ((i0.bytes * q : Nat) : Int) ≤ 281474976710656 := by rw [hz2, Nat.mul_comm]; omega
      rwa [Int.natCast_mul] at h3) (by omega)
  simp only [Int.toNat_natCast] at hr
  rw [hz1] at hr
  have hrep : Reps (d.M W base okp) d.sz (List.replicate q z0) (madeCells z.cells (q * d.sz)).toList := reps_made hz hs0 hzero q
  have full : d.R e (W.alloc (.cells (madeCells z.cells (q * d.sz)) e)) base ok (.slice (some ⟨W.heap.size, 0, none⟩) q q) (List.replicate q z0) := by
    refine ⟨fun k hk => ?_, (madeCells z.cells (q * d.sz)).toList, ?_, ?_⟩
    · have : W.heap.size = k := by simpa [Value.ownBlock] using hk
      subst this
      exact hfresh
    · have h2 := World.ownsRow_lit (base := base) (e := e) (size := d.sz) W (madeCells z.cells (q * d.sz)) q hbase (by simp [maxLen]; omega) (by simp [size_madeCells])
      simpa using h2
    · refine hrep.imp_ (fun p c hp => d.M_mono (fun k hk => ⟨hok k hk.1, fun he => ?_⟩) (Kd.M_below (d.M_bound hp) (below_alloc (Below.refl _ _) _)))
      have h3 : k = W.heap.size := by simpa [Value.ownBlock] using he
      have := hk.2.2.1
      omega
  have cut := Kd.R_take (m := m) full (by simp; omega)
  rw [List.take_replicate, Nat.min_eq_left (by omega)] at cut
  refine event_run hgd (by simp [execOp, ho, hx, hy, hr]) (h _ _ cut (HB.alloc hbase _) (World.grownBy_alloc W _ none) ⟨W.heap.size, by simp [Value.ownBlock], Nat.le_refl _⟩)
end
end Go.Proofs.YtfbnojelmdcnoaaW.PrintWords
namespace Go.Proofs.YtfbnojelmdcnoaaW.PrintLast
open Go Go.RowKit Go.Proofs.YtfbnojelmdcnoaaW.PrintWords
section
variable {P : Program} {ops : Array Oper} {Q : Exit → Act → World → Prop}
/-- A call by a local that holds a function: in a region that draws; in a plain one. -/
theorem goesD_ {oi : Oper} {N : Option Tmp} {a : Act} {w : World} {K : Act → World → Prop} {f : FuncId} {fn : Func} {op : Operand} {os_ : Array Operand} {ts : Array TypeId} (hf : P.funcs[f]? = some fn) (hname : (fn.name == "runtime.NumGoroutine") = false) (hb : fn.body.isSome = true) (args : Array Value)
    (hw : Region.wanted oi (yielded ops a.tmps) = true) (hN : oi.dst = N) (hop : oi.op = .call { callee := .value op, args := os_, argTypes := ts }) (hargs : os_.map a.eval = args)
    (h : Calls P f args w fun e w' => ∃ v, e = .returned v ∧ K (a.put N v) w') (hv : a.eval op = a.eval (.func f) := by rfl) : if Region.wanted oi (yielded ops a.tmps) = true then Oper.wp P oi a w K Q else K (a.put N undef) w := by
  refine call_ f args hw hN ?_ h
  have he := enters_ hf hname hb args w
  unfold execOp
  simp only [hop, resolve, hv]
  simp [Deferred.ofValue, invoke, Act.eval, hargs, he]
theorem goesDL_ {rest : List Oper} {oi : Oper} {a : Act} {w : World} (N : Option Tmp) (hd : oi.dst = N) (hg : oi.guard = none) {f : FuncId} {fn : Func} {op : Operand} {os_ : Array Operand} {ts : Array TypeId} (hf : P.funcs[f]? = some fn) (hname : (fn.name == "runtime.NumGoroutine") = false) (hb : fn.body.isSome = true) (args : Array Value)
    (hop : oi.op = .call { callee := .value op, args := os_, argTypes := ts }) (hargs : os_.map a.eval = args)
    (h : Calls P f args w fun e w' => ∃ v, e = .returned v ∧ wpList P ops Q rest (a.put N v) w') (hv : a.eval op = a.eval (.func f) := by rfl) : wpList P ops Q (oi :: rest) a w := by
  refine wpList_plain hg fun K hK => ?_
  have he := enters_ hf hname hb args w
  have hrun : (execOp a.eval oi).run P w = .ok (.enter f args) w := by
    unfold execOp
    simp only [hop, resolve, hv]
    simp [Deferred.ofValue, invoke, Act.eval, hargs, he]
  unfold Oper.wp
  rw [hrun, Oper.upon_enter]
  refine h.mono fun e w'' hh => ?_
  obtain ⟨v, rfl, hk⟩ := hh
  subst hd
  exact hK _ _ hk
end
end Go.Proofs.YtfbnojelmdcnoaaW.PrintLast

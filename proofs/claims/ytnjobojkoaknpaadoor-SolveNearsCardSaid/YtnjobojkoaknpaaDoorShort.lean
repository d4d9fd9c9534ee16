/- Short words for what the printed proofs say over and over: each is a statement with its own default proof. -/
import Derived.Test.YtnjobojkoaknpaaDoorWordsMore
import Derived.Shelf.Spec.TrailingZeros
namespace Go.Proofs.YtnjobojkoaknpaaDoorW.PrintWords
open Go Go.RowKit
set_option linter.unusedVariables false
theorem bel {B : Nat} {w W : World} (h : Below B w W := by repeat (first | (with_reducible first | exact aa.out (by assumption) | apply ji | apply iy | apply gy) | exact aa.out (by assumption))) : Below B w W := h
theorem kr {q p : Prop} (h0 : aa q) (h : q → p := by intro h; (with_reducible repeat (first | apply Kd.lq | apply Kd.lu | apply Kd.jy)); exact h) : p := h h0.out
theorem ks {α : Type} {d : Kd α} {e : Nat} {w : World} {base : Nat} {ok : Nat → Prop} {A : Option Addr} {n c : Nat} {xs : List α} {p : Prop} (h0 : aa (d.R e w base ok (.slice A n c) xs))
    (h : d.C w A xs.length xs → p := by intro h; repeat (first | exact h | (with_reducible refine Kd.vo ?_ _) | (with_reducible refine Kd.wz ?_ _) | (with_reducible refine Kd.yl ?_))) : p := h (Kd.jq h0.out).2.2
theorem sa0 {α : Type} {l : List α} {i : Nat} {a : α} : l.toArray.setIfInBounds i a = (l.set i a).toArray := List.setIfInBounds_toArray _ _ _
theorem sa1 {α : Type} {x a : α} {xs : List α} : (x :: xs).set 0 a = a :: xs := List.set_cons_zero
theorem sa2 {α : Type} {x a : α} {xs : List α} {i : Nat} : (x :: xs).set (i + 1) a = x :: xs.set i a := List.set_cons_succ
theorem ga {p : Prop} (h : p := by (try simp only [List.map_toArray, List.map_cons, List.map_nil]); first | done | rfl | (simp only [List.length_drop, List.length_take]; rfl)) : p := h
theorem er {p : Prop} (h : p := by first | rfl | (simp [gu, gp] <;> rfl) | (simp [*, gu, gp] <;> rfl)) : p := h
theorem kb {q p : Prop} (h0 : aa q) (h : q → p := by intro h; (with_reducible repeat (first | refine jk ?_ _ | refine dz ?_ | refine jb ?_ _)); exact h) : p := h h0.out
theorem bes {B : Nat} {w W : World} (h : Below B w W := by repeat (first | (with_reducible first | exact aa.out (by assumption) | apply ji | apply iy | apply gy | refine jl ?_ (aa.out (by assumption))) | exact aa.out (by assumption))) : Below B w W := h
theorem kv {α : Type} {d : Kd α} {e : Nat} {w : World} {base : Nat} {ok : Nat → Prop} {v : Value} {xs : List α} {p : Prop} (h0 : aa (Kd.V d e w base ok v xs)) (h : Kd.V d e w base ok v xs → p := by intro h; (with_reducible repeat (first | apply Kd.fq | apply Kd.fo | apply Kd.gm)); exact h) : p := h h0.out
theorem kvs {α : Type} {d : Kd α} {e : Nat} {w : World} {base : Nat} {ok : Nat → Prop} {A : Option Addr} {n c : Nat} {xs : List α} {p : Prop} (h0 : aa (Kd.V d e w base ok (.slice A n c) xs))
    (h : d.C w A xs.length xs → p := by intro h; repeat (first | exact h | (with_reducible refine Kd.vo ?_ _) | (with_reducible refine Kd.wz ?_ _) | (with_reducible refine Kd.yl ?_))) : p := h (Kd.jv h0.out).2.2
theorem bb {w0 w w1 : World} {g : Nat} {o : Obj} (h0 : aa (w0.heap[g]? = some o)) (hb : Below w.heap.size w w1) (h : w0.heap[g]? = some o → w.heap[g]? = some o := by intro h; (with_reducible repeat (first | refine jk ?_ _ | refine dz ?_ | refine jb ?_ _)); exact h) : w1.heap[g]? = some o := ru (h h0.out) hb
theorem nl {w0 w : World} {g g' : Nat} {o : Obj} (hg : g' = w.heap.size) (h0 : aa (w0.heap[g]? = some o)) (h : w0.heap[g]? = some o → w.heap[g]? = some o := by intro h; (with_reducible repeat (first | refine jk ?_ _ | refine dz ?_ | refine jb ?_ _)); exact h) : g ≠ g' := fun e => Nat.ne_of_lt (De (h h0.out)) (e.trans hg)
theorem ng {w0 w : World} {g g' : Nat} {o : Obj} (hg : g' = w.heap.size) (h0 : aa (w0.heap[g]? = some o)) (h : w0.heap[g]? = some o → w.heap[g]? = some o := by intro h; (with_reducible repeat (first | refine jk ?_ _ | refine dz ?_ | refine jb ?_ _)); exact h) : g' ≠ g := fun e => nl hg h0 h e.symm
theorem fb {w0 w : World} {g : Nat} {o : Obj} (h0 : aa (w0.heap[g]? = some o)) (k : Nat) (hk : w.heap.size ≤ k) (h : w0.heap[g]? = some o → w.heap[g]? = some o := by intro h; (with_reducible repeat (first | refine jk ?_ _ | refine dz ?_ | refine jb ?_ _)); exact h) : k ≠ g := Kd.freshB (h h0.out) k hk
theorem ge {w W : World} {g : Nat} (hg : g = W.heap.size) (h : Below w.heap.size w W := by repeat (first | (with_reducible first | exact aa.out (by assumption) | apply ji | apply iy | apply gy | refine jl ?_ (aa.out (by assumption))) | exact aa.out (by assumption))) : w.heap.size ≤ g := by rw [hg]; exact az h
theorem bc {w : World} {g : Nat} {l : List Value} {t : TypeId} {v : Value} (h0 : aa (w.heap[g]? = some (.cells l.toArray t (0, 0)))) (i : Nat) (hv : l[i]? = some v) : w.cell? ⟨g, i, none⟩ = some v := by rw [Ce h0.out, List.getElem?_toArray]; exact hv
theorem ob {α β : Type} {x : Option α} {f : α → Option β} {r : β} (h : x.bind f = some r) : ∃ a, aa (x = some a) ∧ f a = some r := let ⟨a, e, g⟩ := Option.bind_eq_some_iff.mp h; ⟨a, ⟨e⟩, g⟩
theorem cf {w : World} {g : Nat} {l : List Value} {t : TypeId} {v : Value} (h0 : aa (w.heap[g]? = some (.cells l.toArray t (0, 0)))) (i : Nat) (hv : l[i]? = some v) : w.cell? ⟨g, i, none⟩ = some v ∧ w.frozen? ⟨g, i, none⟩ = false := ⟨bc h0 i hv, jr h0.out i⟩
theorem l5 {P : Program} {ops : Array Oper} {rest : List Oper} {o : Oper} {a : Act} {Q : Exit → Act → World → Prop} {W : World} {N : Tmp} {cs : Array Value} {t : TypeId}
    (h : ∀ g, g = W.heap.size → ∀ w1, w1.heap[g]? = some (.cells cs t (0, 0)) → Below W.heap.size W w1 → wpList P ops Q rest (a.put o.dst (.pointer (some ⟨g, 0, none⟩))) w1)
    (hd : o.dst = some N := by rfl) (hgd : o.guard = none := by rfl) (hrun : (execOp a.eval o).run P W = .ok (.value (.pointer (some ⟨W.heap.size, 0, none⟩))) (W.alloc (.cells cs t (0, 0))) := by first | (go_simp; done) | (go_simp; rfl)) : wpList P ops Q (o :: rest) a W := box_event hgd hd hrun h
theorem bk {w : World} {g : Nat} {cs : Array Value} {t : TypeId} {v : Value} (h0 : aa (w.heap[g]? = some (.cells cs t (0, 0)))) (i : Nat) (hv : cs[i]? = some v := by rfl) : w.cell? ⟨g, i, none⟩ = some v := (Ce h0.out i).trans hv
theorem kz {q p : Prop} (h0 : aa q) (h : q → p := by intro h; repeat (first | (with_reducible first | exact h | apply fw.set_ | apply xy | apply xh | apply xu) | exact h)) : p := h h0.out
theorem ky {q p : Prop} (h0 : aa q) (h : q → p := by intro h; repeat (first | (with_reducible first | exact h | apply fw.set_ | apply xy | apply xh | apply xu | refine E5 ?_ (aa.out (by assumption)) _) | exact h)) : p := h h0.out
theorem bp {w : World} {g : Nat} {cs : Array Value} {t : TypeId} {p : Prop} (h0 : aa (w.heap[g]? = some (.cells cs t (0, 0))))
    (h : w.heap[g]? = some (.cells cs t (0, 0)) → (∀ (W : World) (c c' : Array Value) (i : Nat) (u : Value), W.heap[g]? = some (.cells c t (0, 0)) → c.setIfInBounds i u = c' → (W.setCell ⟨g, i, none⟩ u).heap[g]? = some (.cells c' t (0, 0))) → p := by
      intro h st; (repeat (with_reducible first | exact h | (refine st _ ?_ _ _ _ ?_ ?_; rotate_left) | refine jk ?_ _ | refine dz ?_ | refine jb ?_ _)); all_goals rfl) : p :=
  h h0.out fun _ _ _ i u hh e => yz hh i u e
theorem bf {q p : Prop} {g g' : Nat} (h0 : aa q) (hn : aa (g ≠ g')) (h : q → g ≠ g' → p := by intro h hn; repeat (first | (with_reducible first | exact h | refine yj ?_ hn _ | refine jk ?_ _ | refine dz ?_ | refine jb ?_ _) | exact h)) : p := h h0.out hn.out
theorem ax1 {p0 q : Prop} (a0 : p0) (h : aa p0 → q) : q := h ⟨a0⟩
theorem ax2 {p0 p1 q : Prop} (a0 : p0) (a1 : p1) (h : aa p0 → aa p1 → q) : q := h ⟨a0⟩ ⟨a1⟩
theorem ax3 {p0 p1 p2 q : Prop} (a0 : p0) (a1 : p1) (a2 : p2) (h : aa p0 → aa p1 → aa p2 → q) : q := h ⟨a0⟩ ⟨a1⟩ ⟨a2⟩
theorem ax4 {p0 p1 p2 p3 q : Prop} (a0 : p0) (a1 : p1) (a2 : p2) (a3 : p3) (h : aa p0 → aa p1 → aa p2 → aa p3 → q) : q := h ⟨a0⟩ ⟨a1⟩ ⟨a2⟩ ⟨a3⟩
theorem ax5 {p0 p1 p2 p3 p4 q : Prop} (a0 : p0) (a1 : p1) (a2 : p2) (a3 : p3) (a4 : p4) (h : aa p0 → aa p1 → aa p2 → aa p3 → aa p4 → q) : q := h ⟨a0⟩ ⟨a1⟩ ⟨a2⟩ ⟨a3⟩ ⟨a4⟩
theorem ax6 {p0 p1 p2 p3 p4 p5 q : Prop} (a0 : p0) (a1 : p1) (a2 : p2) (a3 : p3) (a4 : p4) (a5 : p5) (h : aa p0 → aa p1 → aa p2 → aa p3 → aa p4 → aa p5 → q) : q := h ⟨a0⟩ ⟨a1⟩ ⟨a2⟩ ⟨a3⟩ ⟨a4⟩ ⟨a5⟩
theorem ax7 {p0 p1 p2 p3 p4 p5 p6 q : Prop} (a0 : p0) (a1 : p1) (a2 : p2) (a3 : p3) (a4 : p4) (a5 : p5) (a6 : p6) (h : aa p0 → aa p1 → aa p2 → aa p3 → aa p4 → aa p5 → aa p6 → q) : q := h ⟨a0⟩ ⟨a1⟩ ⟨a2⟩ ⟨a3⟩ ⟨a4⟩ ⟨a5⟩ ⟨a6⟩
theorem ax8 {p0 p1 p2 p3 p4 p5 p6 p7 q : Prop} (a0 : p0) (a1 : p1) (a2 : p2) (a3 : p3) (a4 : p4) (a5 : p5) (a6 : p6) (a7 : p7) (h : aa p0 → aa p1 → aa p2 → aa p3 → aa p4 → aa p5 → aa p6 → aa p7 → q) : q := h ⟨a0⟩ ⟨a1⟩ ⟨a2⟩ ⟨a3⟩ ⟨a4⟩ ⟨a5⟩ ⟨a6⟩ ⟨a7⟩
theorem ax9 {p0 p1 p2 p3 p4 p5 p6 p7 p8 q : Prop} (a0 : p0) (a1 : p1) (a2 : p2) (a3 : p3) (a4 : p4) (a5 : p5) (a6 : p6) (a7 : p7) (a8 : p8) (h : aa p0 → aa p1 → aa p2 → aa p3 → aa p4 → aa p5 → aa p6 → aa p7 → aa p8 → q) : q := h ⟨a0⟩ ⟨a1⟩ ⟨a2⟩ ⟨a3⟩ ⟨a4⟩ ⟨a5⟩ ⟨a6⟩ ⟨a7⟩ ⟨a8⟩
theorem ax10 {p0 p1 p2 p3 p4 p5 p6 p7 p8 p9 q : Prop} (a0 : p0) (a1 : p1) (a2 : p2) (a3 : p3) (a4 : p4) (a5 : p5) (a6 : p6) (a7 : p7) (a8 : p8) (a9 : p9) (h : aa p0 → aa p1 → aa p2 → aa p3 → aa p4 → aa p5 → aa p6 → aa p7 → aa p8 → aa p9 → q) : q := h ⟨a0⟩ ⟨a1⟩ ⟨a2⟩ ⟨a3⟩ ⟨a4⟩ ⟨a5⟩ ⟨a6⟩ ⟨a7⟩ ⟨a8⟩ ⟨a9⟩
theorem ax11 {p0 p1 p2 p3 p4 p5 p6 p7 p8 p9 p10 q : Prop} (a0 : p0) (a1 : p1) (a2 : p2) (a3 : p3) (a4 : p4) (a5 : p5) (a6 : p6) (a7 : p7) (a8 : p8) (a9 : p9) (a10 : p10) (h : aa p0 → aa p1 → aa p2 → aa p3 → aa p4 → aa p5 → aa p6 → aa p7 → aa p8 → aa p9 → aa p10 → q) : q := h ⟨a0⟩ ⟨a1⟩ ⟨a2⟩ ⟨a3⟩ ⟨a4⟩ ⟨a5⟩ ⟨a6⟩ ⟨a7⟩ ⟨a8⟩ ⟨a9⟩ ⟨a10⟩
theorem ax12 {p0 p1 p2 p3 p4 p5 p6 p7 p8 p9 p10 p11 q : Prop} (a0 : p0) (a1 : p1) (a2 : p2) (a3 : p3) (a4 : p4) (a5 : p5) (a6 : p6) (a7 : p7) (a8 : p8) (a9 : p9) (a10 : p10) (a11 : p11) (h : aa p0 → aa p1 → aa p2 → aa p3 → aa p4 → aa p5 → aa p6 → aa p7 → aa p8 → aa p9 → aa p10 → aa p11 → q) : q := h ⟨a0⟩ ⟨a1⟩ ⟨a2⟩ ⟨a3⟩ ⟨a4⟩ ⟨a5⟩ ⟨a6⟩ ⟨a7⟩ ⟨a8⟩ ⟨a9⟩ ⟨a10⟩ ⟨a11⟩
theorem ax13 {p0 p1 p2 p3 p4 p5 p6 p7 p8 p9 p10 p11 p12 q : Prop} (a0 : p0) (a1 : p1) (a2 : p2) (a3 : p3) (a4 : p4) (a5 : p5) (a6 : p6) (a7 : p7) (a8 : p8) (a9 : p9) (a10 : p10) (a11 : p11) (a12 : p12) (h : aa p0 → aa p1 → aa p2 → aa p3 → aa p4 → aa p5 → aa p6 → aa p7 → aa p8 → aa p9 → aa p10 → aa p11 → aa p12 → q) : q := h ⟨a0⟩ ⟨a1⟩ ⟨a2⟩ ⟨a3⟩ ⟨a4⟩ ⟨a5⟩ ⟨a6⟩ ⟨a7⟩ ⟨a8⟩ ⟨a9⟩ ⟨a10⟩ ⟨a11⟩ ⟨a12⟩
theorem ax14 {p0 p1 p2 p3 p4 p5 p6 p7 p8 p9 p10 p11 p12 p13 q : Prop} (a0 : p0) (a1 : p1) (a2 : p2) (a3 : p3) (a4 : p4) (a5 : p5) (a6 : p6) (a7 : p7) (a8 : p8) (a9 : p9) (a10 : p10) (a11 : p11) (a12 : p12) (a13 : p13) (h : aa p0 → aa p1 → aa p2 → aa p3 → aa p4 → aa p5 → aa p6 → aa p7 → aa p8 → aa p9 → aa p10 → aa p11 → aa p12 → aa p13 → q) : q := h ⟨a0⟩ ⟨a1⟩ ⟨a2⟩ ⟨a3⟩ ⟨a4⟩ ⟨a5⟩ ⟨a6⟩ ⟨a7⟩ ⟨a8⟩ ⟨a9⟩ ⟨a10⟩ ⟨a11⟩ ⟨a12⟩ ⟨a13⟩
theorem ax15 {p0 p1 p2 p3 p4 p5 p6 p7 p8 p9 p10 p11 p12 p13 p14 q : Prop} (a0 : p0) (a1 : p1) (a2 : p2) (a3 : p3) (a4 : p4) (a5 : p5) (a6 : p6) (a7 : p7) (a8 : p8) (a9 : p9) (a10 : p10) (a11 : p11) (a12 : p12) (a13 : p13) (a14 : p14) (h : aa p0 → aa p1 → aa p2 → aa p3 → aa p4 → aa p5 → aa p6 → aa p7 → aa p8 → aa p9 → aa p10 → aa p11 → aa p12 → aa p13 → aa p14 → q) : q := h ⟨a0⟩ ⟨a1⟩ ⟨a2⟩ ⟨a3⟩ ⟨a4⟩ ⟨a5⟩ ⟨a6⟩ ⟨a7⟩ ⟨a8⟩ ⟨a9⟩ ⟨a10⟩ ⟨a11⟩ ⟨a12⟩ ⟨a13⟩ ⟨a14⟩
theorem ax16 {p0 p1 p2 p3 p4 p5 p6 p7 p8 p9 p10 p11 p12 p13 p14 p15 q : Prop} (a0 : p0) (a1 : p1) (a2 : p2) (a3 : p3) (a4 : p4) (a5 : p5) (a6 : p6) (a7 : p7) (a8 : p8) (a9 : p9) (a10 : p10) (a11 : p11) (a12 : p12) (a13 : p13) (a14 : p14) (a15 : p15) (h : aa p0 → aa p1 → aa p2 → aa p3 → aa p4 → aa p5 → aa p6 → aa p7 → aa p8 → aa p9 → aa p10 → aa p11 → aa p12 → aa p13 → aa p14 → aa p15 → q) : q := h ⟨a0⟩ ⟨a1⟩ ⟨a2⟩ ⟨a3⟩ ⟨a4⟩ ⟨a5⟩ ⟨a6⟩ ⟨a7⟩ ⟨a8⟩ ⟨a9⟩ ⟨a10⟩ ⟨a11⟩ ⟨a12⟩ ⟨a13⟩ ⟨a14⟩ ⟨a15⟩
theorem ax18 {p0 p1 p2 p3 p4 p5 p6 p7 p8 p9 p10 p11 p12 p13 p14 p15 p16 p17 q : Prop} (a0 : p0) (a1 : p1) (a2 : p2) (a3 : p3) (a4 : p4) (a5 : p5) (a6 : p6) (a7 : p7) (a8 : p8) (a9 : p9) (a10 : p10) (a11 : p11) (a12 : p12) (a13 : p13) (a14 : p14) (a15 : p15) (a16 : p16) (a17 : p17) (h : aa p0 → aa p1 → aa p2 → aa p3 → aa p4 → aa p5 → aa p6 → aa p7 → aa p8 → aa p9 → aa p10 → aa p11 → aa p12 → aa p13 → aa p14 → aa p15 → aa p16 → aa p17 → q) : q := h ⟨a0⟩ ⟨a1⟩ ⟨a2⟩ ⟨a3⟩ ⟨a4⟩ ⟨a5⟩ ⟨a6⟩ ⟨a7⟩ ⟨a8⟩ ⟨a9⟩ ⟨a10⟩ ⟨a11⟩ ⟨a12⟩ ⟨a13⟩ ⟨a14⟩ ⟨a15⟩ ⟨a16⟩ ⟨a17⟩
theorem ax19 {p0 p1 p2 p3 p4 p5 p6 p7 p8 p9 p10 p11 p12 p13 p14 p15 p16 p17 p18 q : Prop} (a0 : p0) (a1 : p1) (a2 : p2) (a3 : p3) (a4 : p4) (a5 : p5) (a6 : p6) (a7 : p7) (a8 : p8) (a9 : p9) (a10 : p10) (a11 : p11) (a12 : p12) (a13 : p13) (a14 : p14) (a15 : p15) (a16 : p16) (a17 : p17) (a18 : p18) (h : aa p0 → aa p1 → aa p2 → aa p3 → aa p4 → aa p5 → aa p6 → aa p7 → aa p8 → aa p9 → aa p10 → aa p11 → aa p12 → aa p13 → aa p14 → aa p15 → aa p16 → aa p17 → aa p18 → q) : q := h ⟨a0⟩ ⟨a1⟩ ⟨a2⟩ ⟨a3⟩ ⟨a4⟩ ⟨a5⟩ ⟨a6⟩ ⟨a7⟩ ⟨a8⟩ ⟨a9⟩ ⟨a10⟩ ⟨a11⟩ ⟨a12⟩ ⟨a13⟩ ⟨a14⟩ ⟨a15⟩ ⟨a16⟩ ⟨a17⟩ ⟨a18⟩
theorem ax20 {p0 p1 p2 p3 p4 p5 p6 p7 p8 p9 p10 p11 p12 p13 p14 p15 p16 p17 p18 p19 q : Prop} (a0 : p0) (a1 : p1) (a2 : p2) (a3 : p3) (a4 : p4) (a5 : p5) (a6 : p6) (a7 : p7) (a8 : p8) (a9 : p9) (a10 : p10) (a11 : p11) (a12 : p12) (a13 : p13) (a14 : p14) (a15 : p15) (a16 : p16) (a17 : p17) (a18 : p18) (a19 : p19) (h : aa p0 → aa p1 → aa p2 → aa p3 → aa p4 → aa p5 → aa p6 → aa p7 → aa p8 → aa p9 → aa p10 → aa p11 → aa p12 → aa p13 → aa p14 → aa p15 → aa p16 → aa p17 → aa p18 → aa p19 → q) : q := h ⟨a0⟩ ⟨a1⟩ ⟨a2⟩ ⟨a3⟩ ⟨a4⟩ ⟨a5⟩ ⟨a6⟩ ⟨a7⟩ ⟨a8⟩ ⟨a9⟩ ⟨a10⟩ ⟨a11⟩ ⟨a12⟩ ⟨a13⟩ ⟨a14⟩ ⟨a15⟩ ⟨a16⟩ ⟨a17⟩ ⟨a18⟩ ⟨a19⟩
theorem ax21 {p0 p1 p2 p3 p4 p5 p6 p7 p8 p9 p10 p11 p12 p13 p14 p15 p16 p17 p18 p19 p20 q : Prop} (a0 : p0) (a1 : p1) (a2 : p2) (a3 : p3) (a4 : p4) (a5 : p5) (a6 : p6) (a7 : p7) (a8 : p8) (a9 : p9) (a10 : p10) (a11 : p11) (a12 : p12) (a13 : p13) (a14 : p14) (a15 : p15) (a16 : p16) (a17 : p17) (a18 : p18) (a19 : p19) (a20 : p20) (h : aa p0 → aa p1 → aa p2 → aa p3 → aa p4 → aa p5 → aa p6 → aa p7 → aa p8 → aa p9 → aa p10 → aa p11 → aa p12 → aa p13 → aa p14 → aa p15 → aa p16 → aa p17 → aa p18 → aa p19 → aa p20 → q) : q := h ⟨a0⟩ ⟨a1⟩ ⟨a2⟩ ⟨a3⟩ ⟨a4⟩ ⟨a5⟩ ⟨a6⟩ ⟨a7⟩ ⟨a8⟩ ⟨a9⟩ ⟨a10⟩ ⟨a11⟩ ⟨a12⟩ ⟨a13⟩ ⟨a14⟩ ⟨a15⟩ ⟨a16⟩ ⟨a17⟩ ⟨a18⟩ ⟨a19⟩ ⟨a20⟩
theorem dn2 {α : Type} {v : α} {w : World} {a b c : Nat} : v = v ∧ ∃ k, (w.drewN (a + b)).drewN c = w.drewN k := ⟨rfl, _, Eq.trans (World.drewN_drewN _ _ _) (congrArg (World.drewN _) (Nat.add_assoc _ _ _))⟩
theorem dn1 {α : Type} {v : α} {w : World} {m n : Nat} : v = v ∧ ∃ k, (w.drewN m).drewN n = w.drewN k := ⟨rfl, _, World.drewN_drewN _ _ _⟩
theorem cut_to3 {P : Program} (t e : TypeId) (kh : IntKind) {i : TypeInfo} (ht : P.underlying t = some (.slice e)) (hi : P.info? e = some i) (A : Option Addr) (n c : Nat) (j : Int) (h0 : 0 ≤ j) (hm : j ≤ n) (hc : n ≤ c) :
    ∀ W : World, (Instr.slice t (.slice A n c) none (some (.int kh j)) (some (.int kh j))).run P W = .ok (.slice A j.toNat j.toNat) W := by
  intro W
  have hel : P.elem t = e := by simp [Program.elem, ht]
  have hu : P.underlying t = some (.slice (P.elem t)) := by rw [hel]; exact ht
  have ha : (A.map fun x => x.add 0) = A := by cases A <;> simp [Addr.add]
  rw [run_slice_hm W t A n c hu kh kh j j h0 (Int.le_refl _) (by omega), hel]
  simp [sizeOf, typeInfo, hi, sliced, Result.andThen, ha]
section
variable {P : Program} {ops : Array Oper} {Q : Exit → Act → World → Prop} {rest : List Oper} {o : Oper} {a : Act} {α : Type}
theorem Kd.R_makeC (d : Kd α) {w0 W : World} (base e : Nat) (hgd : o.guard = none) {N : Tmp} (hd : o.dst = some N) (t : TypeId) (x y : Operand) (ho : o.op = .makeSlice t x y) (n c : Int) (hx : a.eval x = .int .i64 n) (hy : a.eval y = .int .i64 c)
    (ht : P.underlying t = some (.slice e)) (z : Value) (bytes : Nat) (hinfo : (P.info? e).map (fun i => (i.zero, i.size, i.bytes)) = some (some z, d.sz, bytes)) (hz : z.cells.size = d.sz) (hs0 : 0 < d.sz) (hb0 : 0 < bytes)
    (z0 : α) {ok okp : Nat → Prop} (hzero : d.M W base okp z0 z.cells.toList) (hok : ∀ k, okp k → ok k) (hfresh : ok W.heap.size) (h0 : 0 ≤ n) (hnc : n ≤ c) (hl : c.toNat * bytes ≤ 281474976710656) (HB : Below base w0 W) (hbase : base ≤ W.heap.size)
    (h : ∀ v1 w1, d.R e w1 base ok v1 (List.replicate n.toNat z0) → Below base w0 w1 → W.grownBy w1 none → (∃ b, v1.ownBlock = some b ∧ W.heap.size ≤ b) → wpList P ops Q rest (a.put o.dst v1) w1) : wpList P ops Q (o :: rest) a W := by
  obtain ⟨m, rfl⟩ := Int.eq_ofNat_of_zero_le h0
  obtain ⟨q, rfl⟩ := Int.eq_ofNat_of_zero_le (Int.le_trans h0 hnc)
  simp only [Int.toNat_natCast] at hl h
  obtain ⟨i0, hi, hzz⟩ := Option.map_eq_some_iff.1 hinfo
  simp only [Prod.mk.injEq] at hzz
  obtain ⟨hz0, hz1, hz2⟩ := hzz
  have hq : q ≤ 281474976710656 := Nat.le_trans (Nat.le_mul_of_pos_right _ hb0) hl
  have hr := run_make (P := P) W t e i0 z ht hi hz0 .i64 .i64 (m : Int) (q : Int) (by omega) (by omega)
    (by
      have h3 : ((i0.bytes * q : Nat) : Int) ≤ 281474976710656 := by rw [hz2, Nat.mul_comm]; omega
      rwa [Int.natCast_mul] at h3) (by omega)
  simp only [Int.toNat_natCast] at hr
  rw [hz1] at hr
  have hrep : qj (d.M W base okp) d.sz (List.replicate q z0) (madeCells z.cells (q * d.sz)).toList := reps_made hz hs0 hzero q
  have full : d.R e (W.alloc (.cells (madeCells z.cells (q * d.sz)) e)) base ok (.slice (some ⟨W.heap.size, 0, none⟩) q q) (List.replicate q z0) := by
    refine ⟨fun k hk => ?_, (madeCells z.cells (q * d.sz)).toList, ?_, ?_⟩
    · have : W.heap.size = k := by simpa [Value.ownBlock] using hk
      subst this
      exact hfresh
    · have h2 := World.ownsRow_lit (base := base) (e := e) (size := d.sz) W (madeCells z.cells (q * d.sz)) q hbase (by simp [maxLen]; omega) (by simp [size_madeCells])
      simpa using h2
    · refine hrep.imp_ (fun p c hp => d.M_mono (fun k hk => ⟨hok k hk.1, fun he => ?_⟩) (Kd.M_below (d.M_bound hp) (ji (Below.refl _ _) _)))
      have h3 : k = W.heap.size := by simpa [Value.ownBlock] using he
      have := hk.2.2.1
      omega
  have cut := Kd.R_take (m := m) full (by simp; omega)
  rw [List.take_replicate, Nat.min_eq_left (by omega)] at cut
  refine Fv hgd (by simp [execOp, ho, hx, hy, hr]) (h _ _ cut (HB.alloc hbase _) (World.grownBy_alloc W _ none) ⟨W.heap.size, by simp [Value.ownBlock], Nat.le_refl _⟩)
end
end Go.Proofs.YtnjobojkoaknpaaDoorW.PrintWords
namespace Go.Proofs.YtnjobojkoaknpaaDoorW.PrintLast
open Go Go.RowKit Go.Proofs.YtnjobojkoaknpaaDoorW.PrintWords
section
variable {P : Program} {ops : Array Oper} {Q : Exit → Act → World → Prop}
def bitsL : Nat → Nat → List Bool
  | 0, _ => []
  | n + 1, m => Nat.beq (m % 2) 1 :: bitsL n (m / 2)
def lm (n m : Nat) : Array Bool := (bitsL n m).toArray
theorem pu {md : Region.Mode} {S : World → Prop} {ds : List Nat} (i : Nat) (D : Tmp) (l' : Array Bool) {T : Bool × List (List Nat × List Nat)} (HT : aa (xe md ops = T)) {oi : Oper} {v : Value} {fuel : Nat} {l : Array Bool} {a a' : Act} {w : World}
    (h : iw P md ops Q S ds fuel l' a' w) (hi : ops[i]? = some oi := by exact rfl) (hN : oi.dst = some D := by exact rfl) (hc : anyT T l.toList l'.toList i = true := by kernel_rfl)
    (hQ : ∀ c a w, Q (.panic c) (a.put oi.dst v) w → Q (.panic c) a w := by exact fun _ _ _ h => h) (hw : Region.wanted oi (yielded ops a.tmps) = true := by rfl)
    (hy : ∀ w', (execOp a.eval oi).run P w' = .ok (.value v) w' := by intro w'; go_simp; with_reducible rfl) (ha : a.put (some D) v = a' := by (simp only [Act.put, sa0, sa1, sa2, jw, l8]); rfl) : iw P md ops Q S ds (fuel + 1) l a w :=
  pure_ l' hi hN (any_of HT.out hc) hQ (Or.inl ⟨hw, hy⟩) ha h
theorem po {md : Region.Mode} {S : World → Prop} {ds : List Nat} (i : Nat) (D : Tmp) (l' : Array Bool) {T : Bool × List (List Nat × List Nat)} (HT : aa (xe md ops = T)) {oi : Oper} {fuel : Nat} {l : Array Bool} {a a' : Act} {w : World}
    (h : iw P md ops Q S ds fuel l' a' w) (hi : ops[i]? = some oi := by exact rfl) (hN : oi.dst = some D := by exact rfl) (hc : anyT T l.toList l'.toList i = true := by kernel_rfl)
    (hQ : ∀ c a w, Q (.panic c) (a.put oi.dst undef) w → Q (.panic c) a w := by exact fun _ _ _ h => h) (hw : Region.wanted oi (yielded ops a.tmps) = false := by rfl)
    (ha : a.put (some D) undef = a' := by (simp only [Act.put, sa0, sa1, sa2, jw, l8]); rfl) : iw P md ops Q S ds (fuel + 1) l a w :=
  pure_ l' hi hN (any_of HT.out hc) hQ (Or.inr ⟨hw, rfl⟩) ha h
theorem ta {md : Region.Mode} {S : World → Prop} {ds : List Nat} (i : Nat) (D : Tmp) (l' : Array Bool) {T : Bool × List (List Nat × List Nat)} {B : List Nat} (HT : aa (xe md ops = T)) (HW : aa (r9 T.2 B = true)) {oi : Oper} {v : Value} {fuel : Nat} {l : Array Bool} {a a' : Act} {w : World}
    (hS : S w) (h : iw P md ops Q S ds fuel l' a' w) (hi : ops[i]? = some oi := by exact rfl) (hN : oi.dst = some D := by exact rfl) (hc : takeW T B ds l.toList l'.toList i = true := by kernel_rfl)
    (hQ : ∀ c a w, Q (.panic c) (a.put oi.dst v) w → Q (.panic c) a w := by exact fun _ _ _ h => h) (hw : Region.wanted oi (yielded ops a.tmps) = true := by rfl)
    (hy : ∀ w', S w' → (execOp a.eval oi).run P w' = .ok (.value v) w' := by intro w' hs; (repeat (obtain ⟨_, hs⟩ := hs)); go_simp; with_reducible rfl) (ha : a.put (some D) v = a' := by (simp only [Act.put, sa0, sa1, sa2, jw, l8]); rfl) : iw P md ops Q S ds (fuel + 1) l a w :=
  take_ l' hi hN (take_ofW HT.out HW.out hc) hQ (Or.inl ⟨hw, hy⟩) hS ha h
theorem no {md : Region.Mode} {S : World → Prop} {ds : List Nat} (D : Tmp) {v : Value} {fuel : Nat} {l : Array Bool} {a a' : Act} {w : World} (h : iw P md ops Q S ds fuel l a' w) (ha : a.put (some D) v = a' := by (simp only [Act.put, sa0, sa1, sa2, jw, l8]); rfl) : iw P md ops Q S ds fuel l (a.put (some D) v) w := yn ha h
theorem on {md : Region.Mode} {S : World → Prop} {ds : List Nat} (i : Nat) (N : Option Tmp) (l' : Array Bool) {T : Bool × List (List Nat × List Nat)} (HT : aa (xe md ops = T)) {oi : Oper} {fuel : Nat} {l : Array Bool} {a : Act} {w : World}
    (h : ∀ K : Act → World → Prop, Shut (∀ a' w', S w' → (S w' → iw P md ops Q S ds fuel l' a' w') → K a' w') → if Region.wanted oi (yielded ops a.tmps) = true then Oper.wp P oi a w K Q else K (a.put N undef) w)
    (hi : ops[i]? = some oi := by exact rfl) (hN : oi.dst = N := by exact rfl) (hc : (Ej T.2 l.toList == [i] && l.toList.set i true == l'.toList) = true := by kernel_rfl) (hd : i ∉ ds := by decide) : iw P md ops Q S ds (fuel + 1) l a w :=
  one_ l' hi hN (Dc HT.out hc) hd h
theorem goesD_ {oi : Oper} {N : Option Tmp} {a : Act} {w : World} {K : Act → World → Prop} {f : FuncId} {fn : Func} {op : Operand} {os_ : Array Operand} {ts : Array TypeId} (hf : P.funcs[f]? = some fn) (hname : (fn.name == "runtime.NumGoroutine") = false) (hb : fn.body.isSome = true) (args : Array Value)
    (hw : Region.wanted oi (yielded ops a.tmps) = true) (hN : oi.dst = N) (hop : oi.op = .call { callee := .value op, args := os_, argTypes := ts }) (hargs : os_.map a.eval = args)
    (h : Calls P f args w fun e w' => ∃ v, e = .returned v ∧ K (a.put N v) w') (hv : a.eval op = a.eval (.func f) := by rfl) : if Region.wanted oi (yielded ops a.tmps) = true then Oper.wp P oi a w K Q else K (a.put N undef) w := by
  refine call_ f args hw hN ?_ h
  have he := enters_ hf hname hb args w
  unfold execOp
  simp only [hop, resolve, hv]
  simp [Deferred.ofValue, invoke, Act.eval, hargs, he]
end
end Go.Proofs.YtnjobojkoaknpaaDoorW.PrintLast

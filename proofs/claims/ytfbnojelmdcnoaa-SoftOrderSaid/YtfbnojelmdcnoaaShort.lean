/- Short words for what the printed proofs say over and over: each is a statement with its own default proof. -/
import Derived.Test.YtfbnojelmdcnoaaWordsMore
namespace Go.Proofs.YtfbnojelmdcnoaaW.PrintWords
open Go Go.RowKit
set_option linter.unusedVariables false
theorem bel {B : Nat} {w W : World} (h : Below B w W := by repeat (first | (with_reducible first | exact Aside0.out (by assumption) | apply below_alloc | apply pw_below_drewN | apply below_drew1) | exact Aside0.out (by assumption))) : Below B w W := h
theorem kr {q p : Prop} (h0 : Aside0 q) (h : q → p := by intro h; (with_reducible repeat (first | apply Kd.R_alloc | apply Kd.R_drewN | apply Kd.R_drew)); exact h) : p := h h0.out
theorem ks {α : Type} {d : Kd α} {e : Nat} {w : World} {base : Nat} {ok : Nat → Prop} {A : Option Addr} {n c : Nat} {xs : List α} {p : Prop} (h0 : Aside0 (d.R e w base ok (.slice A n c) xs))
    (h : d.C w A xs.length xs → p := by intro h; repeat (first | exact h | (with_reducible refine Kd.C_alloc ?_ _) | (with_reducible refine Kd.C_drewN ?_ _) | (with_reducible refine Kd.C_drew ?_))) : p := h (Kd.R_reads' h0.out).2.2
theorem ga {p : Prop} (h : p := by (try simp only [List.map_toArray, List.map_cons, List.map_nil]); first | done | rfl | (simp only [List.length_drop, List.length_take]; rfl)) : p := h
theorem er {p : Prop} (h : p := by first | rfl | (simp [errW_none, errW_some] <;> rfl) | (simp [*, errW_none, errW_some] <;> rfl)) : p := h
theorem kb {q p : Prop} (h0 : Aside0 q) (h : q → p := by intro h; (with_reducible repeat (first | refine blk_drewN ?_ _ | refine blk_drew ?_ | refine blk_alloc ?_ _)); exact h) : p := h h0.out
theorem bes {B : Nat} {w W : World} (h : Below B w W := by repeat (first | (with_reducible first | exact Aside0.out (by assumption) | apply below_alloc | apply pw_below_drewN | apply below_drew1 | refine below_set ?_ (Aside0.out (by assumption))) | exact Aside0.out (by assumption))) : Below B w W := h
theorem dn1 {α : Type} {v : α} {w : World} {m n : Nat} : v = v ∧ ∃ k, (w.drewN m).drewN n = w.drewN k := ⟨rfl, _, World.drewN_drewN _ _ _⟩
end Go.Proofs.YtfbnojelmdcnoaaW.PrintWords

/- Texts of this claim, one behind the other: the functions, and that the machine does what they say. -/
import Derived.Test.YtnjobojkoaknpaaRx0
import Derived.Test.YtnjobojkoaknpaaRx1
import Derived.Test.YtnjobojkoaknpaaRun1
import Derived.Laws.BitsLemmas
import Derived.ArgAppend
import Derived.Lib.AppendStr
set_option linter.constructorNameAsVariable false
set_option linter.unusedSimpArgs false
set_option linter.unusedVariables false
set_option linter.unusedSectionVars false
namespace Go.Proofs.Ytnjobojkoaknpaa.F
open Go Go.RowKit Go.Proofs.YtnjobojkoaknpaaW.PrintWords
open Go.Rk hiding Rd
set_option linter.unusedVariables false
set_option linter.unusedSimpArgs false
set_option maxRecDepth 100000
set_option maxHeartbeats 8000000 in
set_option maxRecDepth 100000 in
theorem solve_Pivot.does_l {s0_0 : Int} {a1_0 : Int} {a1_1 : Int} {a1_2 : Int} {l1_3 : List Int} {l2 : List Int} {a3 : Int} (k : Nat) : (∀ (b_2 : List Int) (least_3 : Int) (n_11 : Int) (t_58 : Bool) (h0 : Int) (h1_0 : Int) (h1_1 : Int) (h1_2 : Int) (h1_3 : List Int) (r : (List Int) × Bool × Int × Int), solve_Pivot.j0 k b_2 least_3 n_11 t_58 h0 h1_0 h1_1 h1_2 h1_3 = some r → kont E0 (solve_Pivot.Q s0_0 a1_0 a1_1 a1_2 l1_3 l2 a3 r) (frs (bodyOf Try.f25) [1, 1, 0, 0] []) .normal ⟨[.p (some (0, 0)), .u, .r (b_2.map (V.i .u64)) b_2.length true, .i .u64 least_3, .u, .p (some (1, 0)), .u, .u, .u, .u, .u, .i .i64 n_11, .u, .u, .u, .u, .u, .u, .u, .u, .u, .u, .u, .u, .u, .u, .u, .u, .u, .u, .u, .u, .u, .u, .u, .u, .u, .u, .u, .u, .u, .u, .u, .u, .u, .u, .u, .u, .u, .u, .u, .u, .u, .u, .u, .u, .u, .u, .b t_58, .u, .u, .u, .u, .u, .u, .u, .u, .u, .u, .u, .u, .u, .u, .u, .u, .u, .u, .u, .u, .u, .u, .u, .u, .u, .u, .u, .u, .u, .u, .u, .u, .u, .u, .u, .u, .u, .u, .u, .u, .u, .u, .u, .u, .u, .u, .u, .u, .u, .u, .u, .u, .u, .u, .u, .u, .u, .u, .u, .u, .u, .u, .u, .u, .u, .u, .u, .u, .u, .u, .u, .u, .u, .u, .u, .u, .u, .u, .u, .u, .u, .u, .u, .u, .u, .u, .u, .u, .u, .u, .u, .u, .u, .u, .u, .u, .u, .u, .u, .u, .u, .u, .u, .u, .u, .u, .u, .u, .u, .u, .u, .u, .u, .u, .u, .u, .u, .u, .u, .u, .u, .u, .u, .u, .u, .u, .u, .u, .u, .u, .u, .u, .u, .u, .u, .u, .u, .u, .u, .u, .u, .u, .u, .u, .u, .u, .u, .u, .u, .u, .u, .u, .u, .u, .u, .u, .u, .u, .u, .u, .u, .u, .u, .u, .u, .u, .u, .u, .u, .u, .u, .u, .u, .u, .u, .u, .u, .u, .u, .u, .u, .u, .u, .u, .u, .u, .u, .u, .u, .u, .u, .u, .u, .u, .u, .u, .u, .u, .u, .u, .u, .u, .u, .u, .u, .u, .u, .u, .u, .u, .u, .u, .u, .u, .u, .u, .u, .u, .u, .u, .u, .u, .u, .u, .u, .u, .u, .u, .u, .u, .u, .u, .u, .u, .u, .u], ofL [.row [.i .u8 h0] 0 0 true false none, .row [.i .i64 h1_0, .i .i64 h1_1, .i .i64 h1_2, .r (h1_3.map (V.i .u64)) h1_3.length true] 0 0 true true none], 2, 1⟩) ∧
    (∀ (b_2 : List Int) (least_3 : Int) (n_11 : Int) (t_75 : Bool) (h0 : Int) (h1_0 : Int) (h1_1 : Int) (h1_2 : Int) (h1_3 : List Int) (r : (List Int) × Bool × Int × Int), solve_Pivot.j1 k b_2 least_3 n_11 t_75 h0 h1_0 h1_1 h1_2 h1_3 = some r → kont E0 (solve_Pivot.Q s0_0 a1_0 a1_1 a1_2 l1_3 l2 a3 r) (frs (bodyOf Try.f25) [1, 1, 1, 0, 0] []) .normal ⟨[.p (some (0, 0)), .u, .r (b_2.map (V.i .u64)) b_2.length true, .i .u64 least_3, .u, .p (some (1, 0)), .u, .u, .u, .u, .u, .i .i64 n_11, .u, .u, .u, .u, .u, .u, .u, .u, .u, .u, .u, .u, .u, .u, .u, .u, .u, .u, .u, .u, .u, .u, .u, .u, .u, .u, .u, .u, .u, .u, .u, .u, .u, .u, .u, .u, .u, .u, .u, .u, .u, .u, .u, .u, .u, .u, .u, .u, .u, .u, .u, .u, .u, .u, .u, .u, .u, .u, .u, .u, .u, .u, .u, .b t_75, .u, .u, .u, .u, .u, .u, .u, .u, .u, .u, .u, .u, .u, .u, .u, .u, .u, .u, .u, .u, .u, .u, .u, .u, .u, .u, .u, .u, .u, .u, .u, .u, .u, .u, .u, .u, .u, .u, .u, .u, .u, .u, .u, .u, .u, .u, .u, .u, .u, .u, .u, .u, .u, .u, .u, .u, .u, .u, .u, .u, .u, .u, .u, .u, .u, .u, .u, .u, .u, .u, .u, .u, .u, .u, .u, .u, .u, .u, .u, .u, .u, .u, .u, .u, .u, .u, .u, .u, .u, .u, .u, .u, .u, .u, .u, .u, .u, .u, .u, .u, .u, .u, .u, .u, .u, .u, .u, .u, .u, .u, .u, .u, .u, .u, .u, .u, .u, .u, .u, .u, .u, .u, .u, .u, .u, .u, .u, .u, .u, .u, .u, .u, .u, .u, .u, .u, .u, .u, .u, .u, .u, .u, .u, .u, .u, .u, .u, .u, .u, .u, .u, .u, .u, .u, .u, .u, .u, .u, .u, .u, .u, .u, .u, .u, .u, .u, .u, .u, .u, .u, .u, .u, .u, .u, .u, .u, .u, .u, .u, .u, .u, .u, .u, .u, .u, .u, .u, .u, .u, .u, .u, .u, .u, .u, .u, .u, .u, .u, .u, .u, .u, .u, .u, .u, .u, .u, .u, .u, .u, .u, .u, .u, .u, .u, .u, .u, .u, .u, .u], ofL [.row [.i .u8 h0] 0 0 true false none, .row [.i .i64 h1_0, .i .i64 h1_1, .i .i64 h1_2, .r (h1_3.map (V.i .u64)) h1_3.length true] 0 0 true true none], 2, 1⟩) ∧
    (∀ (least_3 : Int) (n_11 : Int) (h2 : List Int) (h3 : List Int) (t_83 : Int) (t_84 : Int) (h0 : Int) (h1_0 : Int) (h1_1 : Int) (h1_2 : Int) (h4 : List Int) (r : (List Int) × Bool × Int × Int), solve_Pivot.l0 k least_3 n_11 h2 h3 t_83 t_84 h0 h1_0 h1_1 h1_2 h4 = some r → wk_ E0 (solve_Pivot.Q s0_0 a1_0 a1_1 a1_2 l1_3 l2 a3 r) (frs (bodyOf Try.f25) [1, 1, 1, 1, 1, 1, 0, 1, 0] []) (sub (bodyOf Try.f25) [1, 1, 1, 1, 1, 1, 0, 1, 0]) ⟨[.p (some (0, 0)), .u, .u, .i .u64 least_3, .u, .u, .u, .u, .u, .u, .u, .i .i64 n_11, .p (some (1, 0)), .s (some (2, 0)) h2.length, .s (some (3, 0)) h3.length, .u, .u, .u, .u, .u, .u, .u, .u, .u, .u, .u, .u, .u, .u, .u, .u, .u, .u, .u, .u, .u, .u, .u, .u, .u, .u, .u, .u, .u, .u, .u, .u, .u, .u, .u, .u, .u, .u, .u, .u, .u, .u, .u, .u, .u, .u, .u, .u, .u, .u, .u, .u, .u, .u, .u, .u, .u, .u, .u, .u, .u, .u, .u, .u, .u, .u, .u, .u, .i .i64 t_83, .i .i64 t_84, .u, .u, .u, .u, .u, .u, .u, .u, .u, .u, .u, .u, .u, .u, .u, .u, .u, .u, .u, .u, .u, .u, .u, .u, .u, .u, .u, .u, .u, .u, .u, .u, .u, .u, .u, .u, .u, .u, .u, .u, .u, .u, .u, .u, .u, .u, .u, .u, .u, .u, .u, .u, .u, .u, .u, .u, .u, .u, .u, .u, .u, .u, .u, .u, .u, .u, .u, .u, .u, .u, .u, .u, .u, .u, .u, .u, .u, .u, .u, .u, .u, .u, .u, .u, .u, .u, .u, .u, .u, .u, .u, .u, .u, .u, .u, .u, .u, .u, .u, .u, .u, .u, .u, .u, .u, .u, .u, .u, .u, .u, .u, .u, .u, .u, .u, .u, .u, .u, .u, .u, .u, .u, .u, .u, .u, .u, .u, .u, .u, .u, .u, .u, .u, .u, .u, .u, .u, .u, .u, .u, .u, .u, .u, .u, .u, .u, .u, .u, .u, .u, .u, .u, .u, .u, .u, .u, .u, .u, .u, .u, .u, .u, .u, .u, .u, .u, .u, .u, .u, .u, .u, .u, .u, .u, .u, .u, .u, .u, .u, .u, .u, .u, .u, .u, .u, .u, .u, .u, .u, .u, .u, .u, .u, .u, .u, .u, .u, .u, .u, .u, .u, .u, .u, .u, .u, .u, .u, .u, .u, .u], ofL [.row [.i .u8 h0] 0 0 true false none, .row [.i .i64 h1_0, .i .i64 h1_1, .i .i64 h1_2, .s (some (4, 0)) h4.length] 0 0 true true none, .row (h2.map (V.i .u64)) 2 1 true true none, .row (h3.map (V.i .i64)) 2 1 true true none, .row (h4.map (V.i .u64)) 2 1 true true none], 5, 1⟩) ∧
    (∀ (least_3 : Int) (n_11 : Int) (h2 : List Int) (h3 : List Int) (made_16 : Bool) (t_92 : Int) (t_93 : Int) (h0 : Int) (h1_0 : Int) (h1_1 : Int) (h1_2 : Int) (h4 : List Int) (r : (List Int) × Bool × Int × Int), solve_Pivot.l1 k least_3 n_11 h2 h3 made_16 t_92 t_93 h0 h1_0 h1_1 h1_2 h4 = some r → wk_ E0 (solve_Pivot.Q s0_0 a1_0 a1_1 a1_2 l1_3 l2 a3 r) (frs (bodyOf Try.f25) [1, 1, 1, 1, 1, 1, 1, 1, 0, 1, 0] []) (sub (bodyOf Try.f25) [1, 1, 1, 1, 1, 1, 1, 1, 0, 1, 0]) ⟨[.p (some (0, 0)), .u, .u, .i .u64 least_3, .u, .u, .u, .u, .u, .u, .u, .i .i64 n_11, .p (some (1, 0)), .s (some (2, 0)) h2.length, .s (some (3, 0)) h3.length, .u, .b made_16, .u, .u, .u, .u, .u, .u, .u, .u, .u, .u, .u, .u, .u, .u, .u, .u, .u, .u, .u, .u, .u, .u, .u, .u, .u, .u, .u, .u, .u, .u, .u, .u, .u, .u, .u, .u, .u, .u, .u, .u, .u, .u, .u, .u, .u, .u, .u, .u, .u, .u, .u, .u, .u, .u, .u, .u, .u, .u, .u, .u, .u, .u, .u, .u, .u, .u, .u, .u, .u, .u, .u, .u, .u, .u, .u, .i .i64 t_92, .i .i64 t_93, .u, .u, .u, .u, .u, .u, .u, .u, .u, .u, .u, .u, .u, .u, .u, .u, .u, .u, .u, .u, .u, .u, .u, .u, .u, .u, .u, .u, .u, .u, .u, .u, .u, .u, .u, .u, .u, .u, .u, .u, .u, .u, .u, .u, .u, .u, .u, .u, .u, .u, .u, .u, .u, .u, .u, .u, .u, .u, .u, .u, .u, .u, .u, .u, .u, .u, .u, .u, .u, .u, .u, .u, .u, .u, .u, .u, .u, .u, .u, .u, .u, .u, .u, .u, .u, .u, .u, .u, .u, .u, .u, .u, .u, .u, .u, .u, .u, .u, .u, .u, .u, .u, .u, .u, .u, .u, .u, .u, .u, .u, .u, .u, .u, .u, .u, .u, .u, .u, .u, .u, .u, .u, .u, .u, .u, .u, .u, .u, .u, .u, .u, .u, .u, .u, .u, .u, .u, .u, .u, .u, .u, .u, .u, .u, .u, .u, .u, .u, .u, .u, .u, .u, .u, .u, .u, .u, .u, .u, .u, .u, .u, .u, .u, .u, .u, .u, .u, .u, .u, .u, .u, .u, .u, .u, .u, .u, .u, .u, .u, .u, .u, .u, .u, .u, .u, .u, .u, .u, .u, .u, .u, .u, .u, .u, .u, .u, .u, .u, .u, .u, .u], ofL [.row [.i .u8 h0] 0 0 true false none, .row [.i .i64 h1_0, .i .i64 h1_1, .i .i64 h1_2, .s (some (4, 0)) h4.length] 0 0 true true none, .row (h2.map (V.i .u64)) 2 1 true true none, .row (h3.map (V.i .i64)) 2 1 true true none, .row (h4.map (V.i .u64)) 2 1 true true none], 5, 1⟩) ∧
    (∀ (least_3 : Int) (n_11 : Int) (h2 : List Int) (h3 : List Int) (made_16 : Bool) (s_17 : Int) (r_18 : Int) (k_19 : Int) (most_20 : Int) (i_21 : Int) (t_92 : Int) (t_93 : Int) (h0 : Int) (h1_0 : Int) (h1_1 : Int) (h1_2 : Int) (h4 : List Int) (r : (List Int) × Bool × Int × Int), solve_Pivot.l2 k least_3 n_11 h2 h3 made_16 s_17 r_18 k_19 most_20 i_21 t_92 t_93 h0 h1_0 h1_1 h1_2 h4 = some r → wk_ E0 (solve_Pivot.Q s0_0 a1_0 a1_1 a1_2 l1_3 l2 a3 r) (frs (bodyOf Try.f25) [1, 1, 1, 1, 1, 1, 1, 1, 0, 1, 0, 0, 1, 1, 0, 0, 1, 1, 0, 1, 0] []) (sub (bodyOf Try.f25) [1, 1, 1, 1, 1, 1, 1, 1, 0, 1, 0, 0, 1, 1, 0, 0, 1, 1, 0, 1, 0]) ⟨[.p (some (0, 0)), .u, .u, .i .u64 least_3, .u, .u, .u, .u, .u, .u, .u, .i .i64 n_11, .p (some (1, 0)), .s (some (2, 0)) h2.length, .s (some (3, 0)) h3.length, .u, .b made_16, .i .i64 s_17, .i .i64 r_18, .i .i64 k_19, .i .u64 most_20, .i .i64 i_21, .u, .u, .u, .u, .u, .u, .u, .u, .u, .u, .u, .u, .u, .u, .u, .u, .u, .u, .u, .u, .u, .u, .u, .u, .u, .u, .u, .u, .u, .u, .u, .u, .u, .u, .u, .u, .u, .u, .u, .u, .u, .u, .u, .u, .u, .u, .u, .u, .u, .u, .u, .u, .u, .u, .u, .u, .u, .u, .u, .u, .u, .u, .u, .u, .u, .u, .u, .u, .u, .u, .i .i64 t_92, .i .i64 t_93, .u, .u, .u, .u, .u, .u, .u, .u, .u, .u, .u, .u, .u, .u, .u, .u, .u, .u, .u, .u, .u, .u, .u, .u, .u, .u, .u, .u, .u, .u, .u, .u, .u, .u, .u, .u, .u, .u, .u, .u, .u, .u, .u, .u, .u, .u, .u, .u, .u, .u, .u, .u, .u, .u, .u, .u, .u, .u, .u, .u, .u, .u, .u, .u, .u, .u, .u, .u, .u, .u, .u, .u, .u, .u, .u, .u, .u, .u, .u, .u, .u, .u, .u, .u, .u, .u, .u, .u, .u, .u, .u, .u, .u, .u, .u, .u, .u, .u, .u, .u, .u, .u, .u, .u, .u, .u, .u, .u, .u, .u, .u, .u, .u, .u, .u, .u, .u, .u, .u, .u, .u, .u, .u, .u, .u, .u, .u, .u, .u, .u, .u, .u, .u, .u, .u, .u, .u, .u, .u, .u, .u, .u, .u, .u, .u, .u, .u, .u, .u, .u, .u, .u, .u, .u, .u, .u, .u, .u, .u, .u, .u, .u, .u, .u, .u, .u, .u, .u, .u, .u, .u, .u, .u, .u, .u, .u, .u, .u, .u, .u, .u, .u, .u, .u, .u, .u, .u, .u, .u, .u, .u, .u, .u, .u, .u, .u, .u, .u, .u, .u, .u], ofL [.row [.i .u8 h0] 0 0 true false none, .row [.i .i64 h1_0, .i .i64 h1_1, .i .i64 h1_2, .s (some (4, 0)) h4.length] 0 0 true true none, .row (h2.map (V.i .u64)) 2 1 true true none, .row (h3.map (V.i .i64)) 2 1 true true none, .row (h4.map (V.i .u64)) 2 1 true true none], 5, 1⟩) ∧
    (∀ (made_16 : Bool) (h1 : List Int) (h2 : List Int) (h3 : List Int) (t_279 : Int) (t_280 : Int) (h0 : Int) (r : (List Int) × Bool × Int × Int), solve_Pivot.l3 k made_16 h1 h2 h3 t_279 t_280 h0 = some r → wk_ E0 (solve_Pivot.Q s0_0 a1_0 a1_1 a1_2 l1_3 l2 a3 r) (frs (bodyOf Try.f25) [1, 1, 1, 1, 1, 1, 1, 1, 1, 1, 1, 1, 0, 1, 0] []) (sub (bodyOf Try.f25) [1, 1, 1, 1, 1, 1, 1, 1, 1, 1, 1, 1, 0, 1, 0]) ⟨[.u, .u, .u, .u, .u, .u, .u, .u, .u, .u, .u, .u, .u, .u, .u, .u, .b made_16, .u, .u, .u, .u, .u, .u, .u, .u, .u, .u, .u, .u, .u, .u, .u, .u, .s (some (1, 0)) h1.length, .u, .s (some (2, 0)) h2.length, .u, .u, .u, .u, .u, .u, .u, .u, .u, .u, .u, .u, .u, .u, .u, .u, .u, .u, .u, .u, .u, .u, .u, .u, .u, .u, .u, .u, .u, .u, .u, .u, .u, .u, .u, .u, .u, .u, .u, .u, .u, .u, .u, .u, .u, .u, .u, .u, .u, .u, .u, .u, .u, .u, .u, .u, .u, .u, .u, .u, .u, .u, .u, .u, .u, .u, .u, .u, .u, .u, .u, .u, .u, .u, .u, .u, .u, .u, .u, .u, .u, .u, .u, .u, .u, .u, .u, .u, .u, .u, .u, .u, .u, .u, .u, .u, .u, .u, .u, .u, .u, .u, .u, .u, .u, .u, .u, .u, .u, .u, .u, .u, .u, .u, .u, .u, .u, .u, .u, .u, .u, .u, .u, .u, .u, .u, .u, .u, .u, .u, .u, .u, .u, .u, .u, .u, .u, .u, .u, .u, .u, .u, .u, .u, .u, .u, .u, .u, .u, .u, .u, .u, .u, .u, .u, .u, .u, .u, .u, .u, .u, .u, .u, .u, .u, .u, .u, .u, .u, .u, .u, .u, .u, .u, .u, .u, .u, .u, .u, .u, .u, .u, .u, .u, .u, .u, .u, .u, .u, .u, .u, .u, .u, .u, .u, .u, .u, .u, .u, .u, .u, .u, .u, .u, .u, .u, .u, .u, .u, .u, .u, .u, .u, .u, .u, .u, .u, .u, .u, .u, .u, .u, .u, .u, .u, .u, .u, .u, .u, .u, .u, .u, .u, .u, .u, .u, .u, .u, .u, .u, .u, .u, .s (some (3, 0)) h3.length, .i .i64 t_279, .i .i64 t_280, .u, .u, .u, .u, .u, .u, .u, .u, .u, .u, .u, .u, .u, .u], ofL [.row [.i .u8 h0] 0 0 true false none, .row (h1.map (V.i .u64)) 2 1 true true none, .row (h2.map (V.i .u64)) 2 1 true true none, .row (h3.map (V.i .i64)) 2 1 true true none], 4, 1⟩) ∧
    (∀ (least_3 : Int) (n_11 : Int) (h2 : List Int) (h3 : List Int) (made_16 : Bool) (s_17 : Int) (r_18 : Int) (k_19 : Int) (most_20 : Int) (i_21 : Int) (j_22 : Int) (t_92 : Int) (t_93 : Int) (h0 : Int) (h1_0 : Int) (h1_1 : Int) (h1_2 : Int) (h4 : List Int) (r : (List Int) × Bool × Int × Int), solve_Pivot.l4 k least_3 n_11 h2 h3 made_16 s_17 r_18 k_19 most_20 i_21 j_22 t_92 t_93 h0 h1_0 h1_1 h1_2 h4 = some r → wk_ E0 (solve_Pivot.Q s0_0 a1_0 a1_1 a1_2 l1_3 l2 a3 r) (frs (bodyOf Try.f25) [1, 1, 1, 1, 1, 1, 1, 1, 0, 1, 0, 0, 1, 1, 0, 0, 1, 1, 0, 1, 0, 0, 1, 0, 0, 1, 0] []) (sub (bodyOf Try.f25) [1, 1, 1, 1, 1, 1, 1, 1, 0, 1, 0, 0, 1, 1, 0, 0, 1, 1, 0, 1, 0, 0, 1, 0, 0, 1, 0]) ⟨[.p (some (0, 0)), .u, .u, .i .u64 least_3, .u, .u, .u, .u, .u, .u, .u, .i .i64 n_11, .p (some (1, 0)), .s (some (2, 0)) h2.length, .s (some (3, 0)) h3.length, .u, .b made_16, .i .i64 s_17, .i .i64 r_18, .i .i64 k_19, .i .u64 most_20, .i .i64 i_21, .i .i64 j_22, .u, .u, .u, .u, .u, .u, .u, .u, .u, .u, .u, .u, .u, .u, .u, .u, .u, .u, .u, .u, .u, .u, .u, .u, .u, .u, .u, .u, .u, .u, .u, .u, .u, .u, .u, .u, .u, .u, .u, .u, .u, .u, .u, .u, .u, .u, .u, .u, .u, .u, .u, .u, .u, .u, .u, .u, .u, .u, .u, .u, .u, .u, .u, .u, .u, .u, .u, .u, .u, .i .i64 t_92, .i .i64 t_93, .u, .u, .u, .u, .u, .u, .u, .u, .u, .u, .u, .u, .u, .u, .u, .u, .u, .u, .u, .u, .u, .u, .u, .u, .u, .u, .u, .u, .u, .u, .u, .u, .u, .u, .u, .u, .u, .u, .u, .u, .u, .u, .u, .u, .u, .u, .u, .u, .u, .u, .u, .u, .u, .u, .u, .u, .u, .u, .u, .u, .u, .u, .u, .u, .u, .u, .u, .u, .u, .u, .u, .u, .u, .u, .u, .u, .u, .u, .u, .u, .u, .u, .u, .u, .u, .u, .u, .u, .u, .u, .u, .u, .u, .u, .u, .u, .u, .u, .u, .u, .u, .u, .u, .u, .u, .u, .u, .u, .u, .u, .u, .u, .u, .u, .u, .u, .u, .u, .u, .u, .u, .u, .u, .u, .u, .u, .u, .u, .u, .u, .u, .u, .u, .u, .u, .u, .u, .u, .u, .u, .u, .u, .u, .u, .u, .u, .u, .u, .u, .u, .u, .u, .u, .u, .u, .u, .u, .u, .u, .u, .u, .u, .u, .u, .u, .u, .u, .u, .u, .u, .u, .u, .u, .u, .u, .u, .u, .u, .u, .u, .u, .u, .u, .u, .u, .u, .u, .u, .u, .u, .u, .u, .u, .u, .u, .u, .u, .u, .u, .u, .u], ofL [.row [.i .u8 h0] 0 0 true false none, .row [.i .i64 h1_0, .i .i64 h1_1, .i .i64 h1_2, .s (some (4, 0)) h4.length] 0 0 true true none, .row (h2.map (V.i .u64)) 2 1 true true none, .row (h3.map (V.i .i64)) 2 1 true true none, .row (h4.map (V.i .u64)) 2 1 true true none], 5, 1⟩) ∧
    (∀ (least_3 : Int) (n_11 : Int) (h2 : List Int) (h3 : List Int) (made_16 : Bool) (s_17 : Int) (r_18 : Int) (k_19 : Int) (t_92 : Int) (t_93 : Int) (t_121 : Int) (t_122 : Int) (h0 : Int) (h1_0 : Int) (h1_1 : Int) (h1_2 : Int) (h4 : List Int) (r : (List Int) × Bool × Int × Int), solve_Pivot.l5 k least_3 n_11 h2 h3 made_16 s_17 r_18 k_19 t_92 t_93 t_121 t_122 h0 h1_0 h1_1 h1_2 h4 = some r → wk_ E0 (solve_Pivot.Q s0_0 a1_0 a1_1 a1_2 l1_3 l2 a3 r) (frs (bodyOf Try.f25) [1, 1, 1, 1, 1, 1, 1, 1, 0, 1, 0, 0, 1, 1, 0, 0, 1, 1, 1, 0, 1, 0] []) (sub (bodyOf Try.f25) [1, 1, 1, 1, 1, 1, 1, 1, 0, 1, 0, 0, 1, 1, 0, 0, 1, 1, 1, 0, 1, 0]) ⟨[.p (some (0, 0)), .u, .u, .i .u64 least_3, .u, .u, .u, .u, .u, .u, .u, .i .i64 n_11, .p (some (1, 0)), .s (some (2, 0)) h2.length, .s (some (3, 0)) h3.length, .u, .b made_16, .i .i64 s_17, .i .i64 r_18, .i .i64 k_19, .u, .u, .u, .u, .u, .u, .u, .u, .u, .u, .u, .u, .u, .u, .u, .u, .u, .u, .u, .u, .u, .u, .u, .u, .u, .u, .u, .u, .u, .u, .u, .u, .u, .u, .u, .u, .u, .u, .u, .u, .u, .u, .u, .u, .u, .u, .u, .u, .u, .u, .u, .u, .u, .u, .u, .u, .u, .u, .u, .u, .u, .u, .u, .u, .u, .u, .u, .u, .u, .u, .u, .u, .i .i64 t_92, .i .i64 t_93, .u, .u, .u, .u, .u, .u, .u, .u, .u, .u, .u, .u, .u, .u, .u, .u, .u, .u, .u, .u, .u, .u, .u, .u, .u, .u, .u, .i .i64 t_121, .i .i64 t_122, .u, .u, .u, .u, .u, .u, .u, .u, .u, .u, .u, .u, .u, .u, .u, .u, .u, .u, .u, .u, .u, .u, .u, .u, .u, .u, .u, .u, .u, .u, .u, .u, .u, .u, .u, .u, .u, .u, .u, .u, .u, .u, .u, .u, .u, .u, .u, .u, .u, .u, .u, .u, .u, .u, .u, .u, .u, .u, .u, .u, .u, .u, .u, .u, .u, .u, .u, .u, .u, .u, .u, .u, .u, .u, .u, .u, .u, .u, .u, .u, .u, .u, .u, .u, .u, .u, .u, .u, .u, .u, .u, .u, .u, .u, .u, .u, .u, .u, .u, .u, .u, .u, .u, .u, .u, .u, .u, .u, .u, .u, .u, .u, .u, .u, .u, .u, .u, .u, .u, .u, .u, .u, .u, .u, .u, .u, .u, .u, .u, .u, .u, .u, .u, .u, .u, .u, .u, .u, .u, .u, .u, .u, .u, .u, .u, .u, .u, .u, .u, .u, .u, .u, .u, .u, .u, .u, .u, .u, .u, .u, .u, .u, .u, .u, .u, .u, .u, .u, .u, .u, .u, .u], ofL [.row [.i .u8 h0] 0 0 true false none, .row [.i .i64 h1_0, .i .i64 h1_1, .i .i64 h1_2, .s (some (4, 0)) h4.length] 0 0 true true none, .row (h2.map (V.i .u64)) 2 1 true true none, .row (h3.map (V.i .i64)) 2 1 true true none, .row (h4.map (V.i .u64)) 2 1 true true none], 5, 1⟩) ∧
    (∀ (least_3 : Int) (n_11 : Int) (h2 : List Int) (h3 : List Int) (made_16 : Bool) (s_17 : Int) (k_19 : Int) (t_92 : Int) (t_93 : Int) (t_158 : Int) (t_159 : Int) (h0 : Int) (h1_0 : Int) (h1_1 : Int) (h1_2 : Int) (h4 : List Int) (r : (List Int) × Bool × Int × Int), solve_Pivot.l6 k least_3 n_11 h2 h3 made_16 s_17 k_19 t_92 t_93 t_158 t_159 h0 h1_0 h1_1 h1_2 h4 = some r → wk_ E0 (solve_Pivot.Q s0_0 a1_0 a1_1 a1_2 l1_3 l2 a3 r) (frs (bodyOf Try.f25) [1, 1, 1, 1, 1, 1, 1, 1, 0, 1, 0, 0, 1, 1, 0, 0, 1, 1, 1, 1, 1, 0, 1, 0] []) (sub (bodyOf Try.f25) [1, 1, 1, 1, 1, 1, 1, 1, 0, 1, 0, 0, 1, 1, 0, 0, 1, 1, 1, 1, 1, 0, 1, 0]) ⟨[.p (some (0, 0)), .u, .u, .i .u64 least_3, .u, .u, .u, .u, .u, .u, .u, .i .i64 n_11, .p (some (1, 0)), .s (some (2, 0)) h2.length, .s (some (3, 0)) h3.length, .u, .b made_16, .i .i64 s_17, .u, .i .i64 k_19, .u, .u, .u, .u, .u, .u, .u, .u, .u, .u, .u, .u, .u, .u, .u, .u, .u, .u, .u, .u, .u, .u, .u, .u, .u, .u, .u, .u, .u, .u, .u, .u, .u, .u, .u, .u, .u, .u, .u, .u, .u, .u, .u, .u, .u, .u, .u, .u, .u, .u, .u, .u, .u, .u, .u, .u, .u, .u, .u, .u, .u, .u, .u, .u, .u, .u, .u, .u, .u, .u, .u, .u, .i .i64 t_92, .i .i64 t_93, .u, .u, .u, .u, .u, .u, .u, .u, .u, .u, .u, .u, .u, .u, .u, .u, .u, .u, .u, .u, .u, .u, .u, .u, .u, .u, .u, .u, .u, .u, .u, .u, .u, .u, .u, .u, .u, .u, .u, .u, .u, .u, .u, .u, .u, .u, .u, .u, .u, .u, .u, .u, .u, .u, .u, .u, .u, .u, .u, .u, .u, .u, .u, .u, .i .i64 t_158, .i .i64 t_159, .u, .u, .u, .u, .u, .u, .u, .u, .u, .u, .u, .u, .u, .u, .u, .u, .u, .u, .u, .u, .u, .u, .u, .u, .u, .u, .u, .u, .u, .u, .u, .u, .u, .u, .u, .u, .u, .u, .u, .u, .u, .u, .u, .u, .u, .u, .u, .u, .u, .u, .u, .u, .u, .u, .u, .u, .u, .u, .u, .u, .u, .u, .u, .u, .u, .u, .u, .u, .u, .u, .u, .u, .u, .u, .u, .u, .u, .u, .u, .u, .u, .u, .u, .u, .u, .u, .u, .u, .u, .u, .u, .u, .u, .u, .u, .u, .u, .u, .u, .u, .u, .u, .u, .u, .u, .u, .u, .u, .u, .u, .u, .u, .u, .u, .u, .u, .u, .u, .u, .u, .u, .u, .u, .u, .u, .u, .u, .u, .u, .u, .u, .u, .u, .u, .u], ofL [.row [.i .u8 h0] 0 0 true false none, .row [.i .i64 h1_0, .i .i64 h1_1, .i .i64 h1_2, .s (some (4, 0)) h4.length] 0 0 true true none, .row (h2.map (V.i .u64)) 2 1 true true none, .row (h3.map (V.i .i64)) 2 1 true true none, .row (h4.map (V.i .u64)) 2 1 true true none], 5, 1⟩) ∧
    (∀ (least_3 : Int) (n_11 : Int) (h2 : List Int) (h3 : List Int) (made_16 : Bool) (s_17 : Int) (t_92 : Int) (t_93 : Int) (h0 : Int) (h1_0 : Int) (h1_1 : Int) (h1_2 : Int) (h4 : List Int) (r : (List Int) × Bool × Int × Int), solve_Pivot.j9 k least_3 n_11 h2 h3 made_16 s_17 t_92 t_93 h0 h1_0 h1_1 h1_2 h4 = some r → kont E0 (solve_Pivot.Q s0_0 a1_0 a1_1 a1_2 l1_3 l2 a3 r) (frs (bodyOf Try.f25) [1, 1, 1, 1, 1, 1, 1, 1, 0, 1, 0, 0, 1, 1, 0, 0, 1, 1, 1, 1, 1, 1, 1, 0, 1] []) .normal ⟨[.p (some (0, 0)), .u, .u, .i .u64 least_3, .u, .u, .u, .u, .u, .u, .u, .i .i64 n_11, .p (some (1, 0)), .s (some (2, 0)) h2.length, .s (some (3, 0)) h3.length, .u, .b made_16, .i .i64 s_17, .u, .u, .u, .u, .u, .u, .u, .u, .u, .u, .u, .u, .u, .u, .u, .u, .u, .u, .u, .u, .u, .u, .u, .u, .u, .u, .u, .u, .u, .u, .u, .u, .u, .u, .u, .u, .u, .u, .u, .u, .u, .u, .u, .u, .u, .u, .u, .u, .u, .u, .u, .u, .u, .u, .u, .u, .u, .u, .u, .u, .u, .u, .u, .u, .u, .u, .u, .u, .u, .u, .u, .u, .u, .u, .i .i64 t_92, .i .i64 t_93, .u, .u, .u, .u, .u, .u, .u, .u, .u, .u, .u, .u, .u, .u, .u, .u, .u, .u, .u, .u, .u, .u, .u, .u, .u, .u, .u, .u, .u, .u, .u, .u, .u, .u, .u, .u, .u, .u, .u, .u, .u, .u, .u, .u, .u, .u, .u, .u, .u, .u, .u, .u, .u, .u, .u, .u, .u, .u, .u, .u, .u, .u, .u, .u, .u, .u, .u, .u, .u, .u, .u, .u, .u, .u, .u, .u, .u, .u, .u, .u, .u, .u, .u, .u, .u, .u, .u, .u, .u, .u, .u, .u, .u, .u, .u, .u, .u, .u, .u, .u, .u, .u, .u, .u, .u, .u, .u, .u, .u, .u, .u, .u, .u, .u, .u, .u, .u, .u, .u, .u, .u, .u, .u, .u, .u, .u, .u, .u, .u, .u, .u, .u, .u, .u, .u, .u, .u, .u, .u, .u, .u, .u, .u, .u, .u, .u, .u, .u, .u, .u, .u, .u, .u, .u, .u, .u, .u, .u, .u, .u, .u, .u, .u, .u, .u, .u, .u, .u, .u, .u, .u, .u, .u, .u, .u, .u, .u, .u, .u, .u, .u, .u, .u, .u, .u, .u, .u, .u, .u, .u, .u, .u, .u, .u, .u, .u, .u, .u, .u, .u, .u], ofL [.row [.i .u8 h0] 0 0 true false none, .row [.i .i64 h1_0, .i .i64 h1_1, .i .i64 h1_2, .s (some (4, 0)) h4.length] 0 0 true true none, .row (h2.map (V.i .u64)) 2 1 true true none, .row (h3.map (V.i .i64)) 2 1 true true none, .row (h4.map (V.i .u64)) 2 1 true true none], 5, 1⟩) ∧
    (∀ (least_3 : Int) (n_11 : Int) (h2 : List Int) (h3 : List Int) (made_16 : Bool) (s_17 : Int) (i_30 : Int) (t_92 : Int) (t_93 : Int) (h0 : Int) (h1_0 : Int) (h1_1 : Int) (h1_2 : Int) (h4 : List Int) (r : (List Int) × Bool × Int × Int), solve_Pivot.l7 k least_3 n_11 h2 h3 made_16 s_17 i_30 t_92 t_93 h0 h1_0 h1_1 h1_2 h4 = some r → wk_ E0 (solve_Pivot.Q s0_0 a1_0 a1_1 a1_2 l1_3 l2 a3 r) (frs (bodyOf Try.f25) [1, 1, 1, 1, 1, 1, 1, 1, 0, 1, 0, 0, 1, 1, 0, 0, 1, 1, 1, 1, 1, 1, 1, 1, 1, 0] []) (sub (bodyOf Try.f25) [1, 1, 1, 1, 1, 1, 1, 1, 0, 1, 0, 0, 1, 1, 0, 0, 1, 1, 1, 1, 1, 1, 1, 1, 1, 0]) ⟨[.p (some (0, 0)), .u, .u, .i .u64 least_3, .u, .u, .u, .u, .u, .u, .u, .i .i64 n_11, .p (some (1, 0)), .s (some (2, 0)) h2.length, .s (some (3, 0)) h3.length, .u, .b made_16, .i .i64 s_17, .u, .u, .u, .u, .u, .u, .u, .u, .u, .u, .u, .u, .i .i64 i_30, .u, .u, .u, .u, .u, .u, .u, .u, .u, .u, .u, .u, .u, .u, .u, .u, .u, .u, .u, .u, .u, .u, .u, .u, .u, .u, .u, .u, .u, .u, .u, .u, .u, .u, .u, .u, .u, .u, .u, .u, .u, .u, .u, .u, .u, .u, .u, .u, .u, .u, .u, .u, .u, .u, .u, .u, .u, .u, .u, .u, .u, .i .i64 t_92, .i .i64 t_93, .u, .u, .u, .u, .u, .u, .u, .u, .u, .u, .u, .u, .u, .u, .u, .u, .u, .u, .u, .u, .u, .u, .u, .u, .u, .u, .u, .u, .u, .u, .u, .u, .u, .u, .u, .u, .u, .u, .u, .u, .u, .u, .u, .u, .u, .u, .u, .u, .u, .u, .u, .u, .u, .u, .u, .u, .u, .u, .u, .u, .u, .u, .u, .u, .u, .u, .u, .u, .u, .u, .u, .u, .u, .u, .u, .u, .u, .u, .u, .u, .u, .u, .u, .u, .u, .u, .u, .u, .u, .u, .u, .u, .u, .u, .u, .u, .u, .u, .u, .u, .u, .u, .u, .u, .u, .u, .u, .u, .u, .u, .u, .u, .u, .u, .u, .u, .u, .u, .u, .u, .u, .u, .u, .u, .u, .u, .u, .u, .u, .u, .u, .u, .u, .u, .u, .u, .u, .u, .u, .u, .u, .u, .u, .u, .u, .u, .u, .u, .u, .u, .u, .u, .u, .u, .u, .u, .u, .u, .u, .u, .u, .u, .u, .u, .u, .u, .u, .u, .u, .u, .u, .u, .u, .u, .u, .u, .u, .u, .u, .u, .u, .u, .u, .u, .u, .u, .u, .u, .u, .u, .u, .u, .u, .u, .u, .u, .u, .u, .u, .u, .u], ofL [.row [.i .u8 h0] 0 0 true false none, .row [.i .i64 h1_0, .i .i64 h1_1, .i .i64 h1_2, .s (some (4, 0)) h4.length] 0 0 true true none, .row (h2.map (V.i .u64)) 2 1 true true none, .row (h3.map (V.i .i64)) 2 1 true true none, .row (h4.map (V.i .u64)) 2 1 true true none], 5, 1⟩) ∧
    (∀ (least_3 : Int) (n_11 : Int) (h2 : List Int) (h3 : List Int) (made_16 : Bool) (s_17 : Int) (i_30 : Int) (f_31 : Int) (j_32 : Int) (t_92 : Int) (t_93 : Int) (h0 : Int) (h1_0 : Int) (h1_1 : Int) (h1_2 : Int) (h4 : List Int) (r : (List Int) × Bool × Int × Int), solve_Pivot.l8 k least_3 n_11 h2 h3 made_16 s_17 i_30 f_31 j_32 t_92 t_93 h0 h1_0 h1_1 h1_2 h4 = some r → wk_ E0 (solve_Pivot.Q s0_0 a1_0 a1_1 a1_2 l1_3 l2 a3 r) (frs (bodyOf Try.f25) [1, 1, 1, 1, 1, 1, 1, 1, 0, 1, 0, 0, 1, 1, 0, 0, 1, 1, 1, 1, 1, 1, 1, 1, 1, 0, 0, 1, 0, 0, 1, 0, 1, 0] []) (sub (bodyOf Try.f25) [1, 1, 1, 1, 1, 1, 1, 1, 0, 1, 0, 0, 1, 1, 0, 0, 1, 1, 1, 1, 1, 1, 1, 1, 1, 0, 0, 1, 0, 0, 1, 0, 1, 0]) ⟨[.p (some (0, 0)), .u, .u, .i .u64 least_3, .u, .u, .u, .u, .u, .u, .u, .i .i64 n_11, .p (some (1, 0)), .s (some (2, 0)) h2.length, .s (some (3, 0)) h3.length, .u, .b made_16, .i .i64 s_17, .u, .u, .u, .u, .u, .u, .u, .u, .u, .u, .u, .u, .i .i64 i_30, .i .u64 f_31, .i .i64 j_32, .u, .u, .u, .u, .u, .u, .u, .u, .u, .u, .u, .u, .u, .u, .u, .u, .u, .u, .u, .u, .u, .u, .u, .u, .u, .u, .u, .u, .u, .u, .u, .u, .u, .u, .u, .u, .u, .u, .u, .u, .u, .u, .u, .u, .u, .u, .u, .u, .u, .u, .u, .u, .u, .u, .u, .u, .u, .u, .u, .i .i64 t_92, .i .i64 t_93, .u, .u, .u, .u, .u, .u, .u, .u, .u, .u, .u, .u, .u, .u, .u, .u, .u, .u, .u, .u, .u, .u, .u, .u, .u, .u, .u, .u, .u, .u, .u, .u, .u, .u, .u, .u, .u, .u, .u, .u, .u, .u, .u, .u, .u, .u, .u, .u, .u, .u, .u, .u, .u, .u, .u, .u, .u, .u, .u, .u, .u, .u, .u, .u, .u, .u, .u, .u, .u, .u, .u, .u, .u, .u, .u, .u, .u, .u, .u, .u, .u, .u, .u, .u, .u, .u, .u, .u, .u, .u, .u, .u, .u, .u, .u, .u, .u, .u, .u, .u, .u, .u, .u, .u, .u, .u, .u, .u, .u, .u, .u, .u, .u, .u, .u, .u, .u, .u, .u, .u, .u, .u, .u, .u, .u, .u, .u, .u, .u, .u, .u, .u, .u, .u, .u, .u, .u, .u, .u, .u, .u, .u, .u, .u, .u, .u, .u, .u, .u, .u, .u, .u, .u, .u, .u, .u, .u, .u, .u, .u, .u, .u, .u, .u, .u, .u, .u, .u, .u, .u, .u, .u, .u, .u, .u, .u, .u, .u, .u, .u, .u, .u, .u, .u, .u, .u, .u, .u, .u, .u, .u, .u, .u, .u, .u, .u, .u, .u, .u, .u, .u], ofL [.row [.i .u8 h0] 0 0 true false none, .row [.i .i64 h1_0, .i .i64 h1_1, .i .i64 h1_2, .s (some (4, 0)) h4.length] 0 0 true true none, .row (h2.map (V.i .u64)) 2 1 true true none, .row (h3.map (V.i .i64)) 2 1 true true none, .row (h4.map (V.i .u64)) 2 1 true true none], 5, 1⟩) := by
  induction k with
  | zero => exact ⟨fun _ _ _ _ _ _ _ _ _ r h => by simp [solve_Pivot.j0] at h, fun _ _ _ _ _ _ _ _ _ r h => by simp [solve_Pivot.j1] at h, fun _ _ _ _ _ _ _ _ _ _ _ r h => by simp [solve_Pivot.l0] at h, fun _ _ _ _ _ _ _ _ _ _ _ _ r h => by simp [solve_Pivot.l1] at h, fun _ _ _ _ _ _ _ _ _ _ _ _ _ _ _ _ _ r h => by simp [solve_Pivot.l2] at h, fun _ _ _ _ _ _ _ r h => by simp [solve_Pivot.l3] at h, fun _ _ _ _ _ _ _ _ _ _ _ _ _ _ _ _ _ _ r h => by simp [solve_Pivot.l4] at h, fun _ _ _ _ _ _ _ _ _ _ _ _ _ _ _ _ _ r h => by simp [solve_Pivot.l5] at h, fun _ _ _ _ _ _ _ _ _ _ _ _ _ _ _ _ r h => by simp [solve_Pivot.l6] at h, fun _ _ _ _ _ _ _ _ _ _ _ _ _ r h => by simp [solve_Pivot.j9] at h, fun _ _ _ _ _ _ _ _ _ _ _ _ _ _ r h => by simp [solve_Pivot.l7] at h, fun _ _ _ _ _ _ _ _ _ _ _ _ _ _ _ _ r h => by simp [solve_Pivot.l8] at h⟩
  | succ k ih =>
    obtain ⟨ih0, ih1, ih2, ih3, ih4, ih5, ih6, ih7, ih8, ih9, ih10, ih11⟩ := ih
    refine ⟨?_, ?_, ?_, ?_, ?_, ?_, ?_, ?_, ?_, ?_, ?_, ?_⟩
    · intro b_2 least_3 n_11 t_58 h0 h1_0 h1_1 h1_2 h1_3 r H
      unfold solve_Pivot.j0 at H
      simp only [bodyOf, Try.f25, frs, sub, if_true, if_false, Nat.one_ne_zero]
      refine k_seq ?_
      rcases its H with ⟨c5, H⟩ | ⟨c5, H⟩
      · have c5b : t_58 = true := c5; try simp only [c5b, nrm]
        refine w_cond rfl (fun _ => ?_) (fun h => Bool.noConfusion h)
        refine w_seq ?_
        refine wR fun K hK => ?_
        refine g_as rfl rfl (gT ?_)
        refine g_as rfl rfl (gT ?_)
        refine g_as rfl rfl (gT ?_)
        refine g_nil (hK _ _ _ ?_)
        refine k_seq ?_
        refine w_less (.at 8 [] 2 1 rfl rfl) ?_; simp only [nrmx, nrm, List.set_cons_zero, List.set_cons_succ, Nat.reduceAdd]
        refine w_ret ?_
        refine fin_wp (τ := [0, 14]) rfl (by decide) ?_; rw [← Option.some.inj H]; simp only [Try.f25]; exact gF
      · have c5b : t_58 = false := Bool.eq_false_iff.mpr c5; try simp only [c5b, nrm]
        refine w_cond rfl (fun h => Bool.noConfusion h) (fun _ => ?_)
        refine w_skip ?_
        refine k_seq ?_
        refine w_seq ?_
        refine w_seq ?_
        refine wR fun K hK => ?_
        refine g_lda rfl rfl ag25 sz25 rfl rfl (Nat.le_of_ble_eq_true rfl) (gT ?_)
        obtain ⟨q6, hq6, H⟩ := bnd H
        refine g_cs [] rfl rfl (by rfl) Try.func38 rfl (by decide) (mat_Matrix_Finite.does hq6) ⟨Nat.le_of_ble_eq_true rfl, Nat.le_of_ble_eq_true rfl⟩ ?_; refine gC ?_
        refine g_un rfl rfl rfl rfl (gT ?_)
        refine g_mv rfl rfl (gT ?_)
        rcases its H with ⟨c7, H⟩ | ⟨c7, H⟩
        · have c7b : q6 = true := c7; try simp only [c7b, nrm]
          refine g_mv rfl rfl (gT ?_)
          obtain ⟨q8, hq8, H⟩ := bnd H
          refine g_cs [] rfl rfl (by rfl) Try.func21 rfl (by decide) (word_Finite.does hq8) ⟨Nat.le_of_ble_eq_true rfl, Nat.le_of_ble_eq_true rfl⟩ ?_; refine gC ?_
          refine g_un rfl rfl rfl rfl (gT ?_)
          refine g_pick rfl rfl rfl (gT ?_)
          refine g_mv rfl rfl (gT ?_)
          rcases its H with ⟨c9, H⟩ | ⟨c9, H⟩
          · have c9b : q8 = true := c9; try simp only [c9b, nrm]
            refine g_mv rfl rfl (gT ?_)
            obtain ⟨q10, hq10, H⟩ := bnd H
            refine g_cs [] rfl rfl (by rfl) Try.func39 rfl (by decide) (word_Neg.does hq10) ⟨Nat.le_of_ble_eq_true rfl, Nat.le_of_ble_eq_true rfl⟩ ?_; refine gC ?_
            refine g_pick rfl rfl rfl (gT ?_)
            refine g_mv rfl rfl (gT ?_)
            rcases its H with ⟨c11, H⟩ | ⟨c11, H⟩
            · have c11b : q10 = true := c11; try simp only [c11b, nrm]
              refine g_sk rfl rfl (gT ?_)
              refine g_sk rfl rfl (gT ?_)
              refine g_sk rfl rfl (gT ?_)
              refine g_pick rfl rfl rfl (gT ?_)
              refine g_nil (hK _ _ _ ?_)
              refine k_wk (σ := [0, 1]) [0, 1, 0, 1, 5, 63] rfl (by decide) rfl ?_; refine gC ?_
              exact gI (ih1 b_2 least_3 n_11 true h0 h1_0 h1_1 h1_2 h1_3 r H)
            · have c11b : q10 = false := Bool.eq_false_iff.mpr c11; try simp only [c11b, nrm]
              refine g_mv rfl rfl (gT ?_)
              obtain ⟨q12, hq12, H⟩ := bnd H
              refine g_cs [] rfl rfl (by rfl) Try.func27 rfl (by decide) (word_Kind.does hq12) ⟨Nat.le_of_ble_eq_true rfl, Nat.le_of_ble_eq_true rfl⟩ ?_; refine gC ?_
              refine g_bin rfl rfl rfl rfl rfl (gT ?_)
              refine g_pick rfl rfl rfl (gT ?_)
              refine g_nil (hK _ _ _ ?_)
              refine k_wk (σ := [0, 1]) [0, 1, 0, 1, 5, 63] rfl (by decide) rfl ?_; refine gC ?_
              exact gI (ih1 b_2 least_3 n_11 (q12 == 1) h0 h1_0 h1_1 h1_2 h1_3 r H)
          · have c9b : q8 = false := Bool.eq_false_iff.mpr c9; try simp only [c9b, nrm]
            refine g_sk rfl rfl (gT ?_)
            refine g_sk rfl rfl (gT ?_)
            refine g_pick rfl rfl rfl (gT ?_)
            refine g_mv rfl rfl (gT ?_)
            refine g_sk rfl rfl (gT ?_)
            refine g_sk rfl rfl (gT ?_)
            refine g_sk rfl rfl (gT ?_)
            refine g_pick rfl rfl rfl (gT ?_)
            refine g_nil (hK _ _ _ ?_)
            refine k_wk (σ := [0, 1]) [0, 1, 0, 1, 5, 63] rfl (by decide) rfl ?_; refine gC ?_
            exact gI (ih1 b_2 least_3 n_11 true h0 h1_0 h1_1 h1_2 h1_3 r H)
        · have c7b : q6 = false := Bool.eq_false_iff.mpr c7; try simp only [c7b, nrm]
          refine g_sk rfl rfl (gT ?_)
          refine g_sk rfl rfl (gT ?_)
          refine g_sk rfl rfl (gT ?_)
          refine g_pick rfl rfl rfl (gT ?_)
          refine g_mv rfl rfl (gT ?_)
          refine g_sk rfl rfl (gT ?_)
          refine g_sk rfl rfl (gT ?_)
          refine g_pick rfl rfl rfl (gT ?_)
          refine g_mv rfl rfl (gT ?_)
          refine g_sk rfl rfl (gT ?_)
          refine g_sk rfl rfl (gT ?_)
          refine g_sk rfl rfl (gT ?_)
          refine g_pick rfl rfl rfl (gT ?_)
          refine g_nil (hK _ _ _ ?_)
          refine k_wk (σ := [0, 1]) [0, 1, 0, 1, 5, 63] rfl (by decide) rfl ?_; refine gC ?_
          exact gI (ih1 b_2 least_3 n_11 true h0 h1_0 h1_1 h1_2 h1_3 r H)
    · intro b_2 least_3 n_11 t_75 h0 h1_0 h1_1 h1_2 h1_3 r H
      unfold solve_Pivot.j1 at H
      simp only [bodyOf, Try.f25, frs, sub, if_true, if_false, Nat.one_ne_zero]
      refine k_seq ?_
      rcases its H with ⟨c13, H⟩ | ⟨c13, H⟩
      · have c13b : t_75 = true := c13; try simp only [c13b, nrm]
        refine w_cond rfl (fun _ => ?_) (fun h => Bool.noConfusion h)
        refine w_seq ?_
        refine wR fun K hK => ?_
        refine g_as rfl rfl (gT ?_)
        refine g_as rfl rfl (gT ?_)
        refine g_as rfl rfl (gT ?_)
        refine g_nil (hK _ _ _ ?_)
        refine k_seq ?_
        refine w_less (.at 8 [] 2 1 rfl rfl) ?_; simp only [nrmx, nrm, List.set_cons_zero, List.set_cons_succ, Nat.reduceAdd]
        refine w_ret ?_
        refine fin_wp (τ := [0, 14]) rfl (by decide) ?_; rw [← Option.some.inj H]; simp only [Try.f25]; exact gF
      · have c13b : t_75 = false := Bool.eq_false_iff.mpr c13; try simp only [c13b, nrm]
        refine w_cond rfl (fun h => Bool.noConfusion h) (fun _ => ?_)
        refine w_skip ?_
        refine k_seq ?_
        refine w_seq ?_
        refine wR fun K hK => ?_
        refine g_lda rfl rfl ag25 sz25 rfl rfl (Nat.le_of_ble_eq_true rfl) (gT ?_)
        obtain ⟨q14, hq14, H⟩ := bnd H
        refine g_cs [] rfl rfl (by rfl) Try.func40 rfl (by decide) (mat_Matrix_Clone.does hq14) ⟨Nat.le_of_ble_eq_true rfl, Nat.le_of_ble_eq_true rfl⟩ ?_; refine gC ?_
        refine g_mv rfl rfl (gT ?_)
        obtain ⟨c15, H⟩ := it1 H
        refine g_apnr rfl rfl Try.underlying22 Try.underlying22 sz35 by35 zr35 rfl rfl rfl (by unfold limit; omega) (by omega) (gU ?_)
        refine g_alloc rfl rfl zr25 (gU ?_)
        refine g_st rfl rfl sz25 rfl rfl rfl (by rfl) (Nat.le_of_ble_eq_true rfl) (gU ?_)
        refine g_as rfl rfl (gT ?_)
        refine g_nil (hK _ _ _ ?_)
        refine k_seq ?_
        refine w_seq ?_
        refine wR fun K hK => ?_
        refine g_mv rfl rfl (gT ?_)
        obtain ⟨c16, H⟩ := it1 H
        obtain ⟨c17, H⟩ := it1 H
        refine g_mk rfl rfl Try.underlying41 sz3 by3 zr3 rfl rfl rfl (by first | assumption | omega) (by omega) (by unfold limit; omega) (by omega) (gU ?_)
        refine g_as rfl rfl (gT ?_)
        refine g_nil (hK _ _ _ ?_)
        refine k_seq ?_
        refine w_seq ?_
        refine w_seq ?_
        refine wR fun K hK => ?_
        refine g_mv rfl rfl (gT ?_)
        refine g_len_s rfl rfl Try.underlying41 rfl (gT ?_)
        refine g_mv rfl rfl (gT ?_)
        refine g_nil (hK _ _ _ ?_)
        refine k_seq ?_
        refine w_block ?_
        refine w_wk (σ := [0, 18, 14, 34, 6]) [0, 2, 7, 0, 0, 0, 68, 0] rfl (by decide) ?_; refine gC ?_
        exact gI (ih2 least_3 n_11 b_2 (List.replicate n_11.toNat 0) (n_11.toNat : Int) 0 h0 q14.1 q14.2.1 q14.2.2.1 q14.2.2.2 r H)
    · intro least_3 n_11 h2 h3 t_83 t_84 h0 h1_0 h1_1 h1_2 h4 r H
      unfold solve_Pivot.l0 at H
      simp only [bodyOf, Try.f25, frs, sub, if_true, if_false, Nat.one_ne_zero]
      refine w_loop ?_
      refine w_seq ?_
      refine wR fun K hK => ?_
      refine g_bin rfl rfl rfl rfl rfl (gT ?_)
      refine g_nil (hK _ _ _ ?_)
      refine k_seq ?_
      refine w_seq ?_
      rcases its H with ⟨c18, H⟩ | ⟨c18, H⟩
      · have c18b := decide_eq_true c18; try simp only [c18b, nrm]
        refine w_cond rfl (fun _ => ?_) (fun h => Bool.noConfusion h)
        refine w_skip ?_
        refine k_seq ?_
        refine w_seq ?_
        refine w_block ?_
        refine w_seq ?_
        refine wR fun K hK => ?_
        refine g_mv rfl rfl (gT ?_)
        refine g_as rfl rfl (gT ?_)
        refine g_nil (hK _ _ _ ?_)
        refine k_seq ?_
        refine wR fun K hK => ?_
        refine g_mv rfl rfl (gT ?_)
        refine g_mv rfl rfl (gT ?_)
        refine g_mv rfl rfl (gT ?_)
        obtain ⟨c19, H⟩ := it1 H
        obtain ⟨c20, H⟩ := it1 H
        refine g_ixo rfl rfl Try.underlying41 sz3 rfl rfl (by first | assumption | omega) (by first | assumption | omega | (simp only [List.length_set, List.length_replicate] at *; omega)) (gT ?_)
        refine g_st rfl rfl sz3 rfl rfl rfl (by rfl) (by simp only [List.length_map, List.length_set, List.length_replicate]; first | assumption | omega) (gU ?_)
        refine g_nil (hK _ _ _ ?_)
        refine k_block ?_
        refine k_seq ?_
        refine wR fun K hK => ?_
        refine g_bin rfl rfl rfl rfl rfl (gT ?_)
        refine g_mv rfl rfl (gT ?_)
        refine g_nil (hK _ _ _ ?_)
        refine k_loop ?_
        refine w_wk (σ := [0, 1, 2, 3, 4]) [0, 2, 7, 0, 0, 0, 68, 0] rfl (by decide) ?_; refine gC ?_
        exact gI (ih2 least_3 n_11 h2 (h3.set t_84.toNat t_84) t_83 (wrap64 (t_84 + 1)) h0 h1_0 h1_1 h1_2 h4 r H)
      · have c18b := decide_eq_false c18; try simp only [c18b, nrm]
        refine w_cond rfl (fun h => Bool.noConfusion h) (fun _ => ?_)
        refine w_exit rfl ?_
        refine k_seq ?_
        refine w_seq ?_
        refine wR fun K hK => ?_
        refine g_as rfl rfl (gT ?_)
        refine g_nil (hK _ _ _ ?_)
        refine k_seq ?_
        refine w_seq ?_
        refine w_seq ?_
        refine wR fun K hK => ?_
        refine g_mv rfl rfl (gT ?_)
        refine g_mv rfl rfl (gT ?_)
        refine g_nil (hK _ _ _ ?_)
        refine k_seq ?_
        refine w_block ?_
        refine w_wk (σ := [0, 1, 2, 3, 4]) [0, 2, 7, 0, 0, 0, 1, 75, 0] rfl (by decide) ?_; refine gC ?_
        exact gI (ih3 least_3 n_11 h2 h3 false n_11 0 h0 h1_0 h1_1 h1_2 h4 r H)
    · intro least_3 n_11 h2 h3 made_16 t_92 t_93 h0 h1_0 h1_1 h1_2 h4 r H
      unfold solve_Pivot.l1 at H
      simp only [bodyOf, Try.f25, frs, sub, if_true, if_false, Nat.one_ne_zero]
      refine w_loop ?_
      refine w_seq ?_
      refine wR fun K hK => ?_
      refine g_bin rfl rfl rfl rfl rfl (gT ?_)
      refine g_nil (hK _ _ _ ?_)
      refine k_seq ?_
      refine w_seq ?_
      rcases its H with ⟨c21, H⟩ | ⟨c21, H⟩
      · have c21b := decide_eq_true c21; try simp only [c21b, nrm]
        refine w_cond rfl (fun _ => ?_) (fun h => Bool.noConfusion h)
        refine w_skip ?_
        refine k_seq ?_
        refine w_seq ?_
        refine w_block ?_
        refine w_seq ?_
        refine wR fun K hK => ?_
        refine g_mv rfl rfl (gT ?_)
        refine g_as rfl rfl (gT ?_)
        refine g_nil (hK _ _ _ ?_)
        refine k_seq ?_
        refine w_seq ?_
        refine wR fun K hK => ?_
        refine g_mv rfl rfl (gT ?_)
        refine g_mv rfl rfl (gT ?_)
        refine g_as rfl rfl (gT ?_)
        refine g_as rfl rfl (gT ?_)
        refine g_as rfl rfl (gT ?_)
        refine g_nil (hK _ _ _ ?_)
        refine k_seq ?_
        refine w_seq ?_
        refine w_seq ?_
        refine wR fun K hK => ?_
        refine g_mv rfl rfl (gT ?_)
        refine g_as rfl rfl (gT ?_)
        refine g_nil (hK _ _ _ ?_)
        refine k_seq ?_
        refine w_block ?_
        refine w_wk (σ := [0, 1, 2, 3, 4]) [0, 2, 7, 0, 0, 0, 1, 0, 0, 0, 0, 0, 70, 0] rfl (by decide) ?_; refine gC ?_
        exact gI (ih4 least_3 n_11 h2 h3 made_16 t_93 t_93 t_93 0 t_93 t_92 t_93 h0 h1_0 h1_1 h1_2 h4 r H)
      · have c21b := decide_eq_false c21; try simp only [c21b, nrm]
        refine w_cond rfl (fun h => Bool.noConfusion h) (fun _ => ?_)
        refine w_exit rfl ?_
        refine k_seq ?_
        refine w_seq ?_
        refine wR fun K hK => ?_
        refine g_mv rfl rfl (gT ?_)
        refine g_lda rfl rfl ag25 sz25 rfl rfl (Nat.le_of_ble_eq_true rfl) (gT ?_)
        refine g_mv rfl rfl (gT ?_)
        obtain ⟨q22, hq22, H⟩ := bnd H
        refine g_cs [0] rfl rfl (by rfl) Try.func9 rfl (by decide) (solve_Trsv.does hq22) ⟨Nat.le_of_ble_eq_true rfl, Nat.le_of_ble_eq_true rfl⟩ ?_; refine gC ?_
        refine g_mv rfl rfl (gT ?_)
        refine g_ext rfl rfl rfl (Nat.le_of_ble_eq_true rfl) (gT ?_)
        refine g_ext rfl rfl rfl (Nat.le_of_ble_eq_true rfl) (gT ?_)
        refine g_as rfl rfl (gT ?_)
        refine g_as rfl rfl (gT ?_)
        refine g_nil (hK _ _ _ ?_)
        refine k_seq ?_
        refine w_seq ?_
        refine w_seq ?_
        refine wR fun K hK => ?_
        refine g_mv rfl rfl (gT ?_)
        refine g_bin rfl rfl rfl rfl rfl (gT ?_)
        refine g_nil (hK _ _ _ ?_)
        refine k_seq ?_
        rcases its H with ⟨c23, H⟩ | ⟨c23, H⟩
        · have c23b := beq_iff_eq.mpr c23; have c23n := bne_eq_false_iff_eq.mpr c23; try simp only [c23b, c23n, nrm]
          refine w_cond rfl (fun h => Bool.noConfusion h) (fun _ => ?_)
          refine w_skip ?_
          refine k_seq ?_
          refine w_seq ?_
          refine wR fun K hK => ?_
          refine g_mv rfl rfl (gT ?_)
          obtain ⟨c24, H⟩ := it1 H
          obtain ⟨c25, H⟩ := it1 H
          refine g_mk rfl rfl Try.underlying22 sz35 by35 zr35 rfl rfl rfl (by first | assumption | omega) (by omega) (by unfold limit; omega) (by omega) (gU ?_)
          refine g_as rfl rfl (gT ?_)
          refine g_nil (hK _ _ _ ?_)
          refine k_seq ?_
          refine w_seq ?_
          refine w_seq ?_
          refine wR fun K hK => ?_
          refine g_mv rfl rfl (gT ?_)
          refine g_len_s rfl rfl Try.underlying41 rfl (gT ?_)
          refine g_mv rfl rfl (gT ?_)
          refine g_nil (hK _ _ _ ?_)
          refine k_seq ?_
          refine w_block ?_
          refine w_wk (σ := [0, 21, 57, 3]) [16, 16, 1, 242, 0, 0] rfl (by decide) ?_; refine gC ?_
          exact gI (ih5 made_16 q22.1 (List.replicate n_11.toNat 0) h3 (h3.length : Int) 0 q22.2.2 r H)
        · have c23b := beq_eq_false_iff_ne.mpr c23; have c23n := bne_iff_ne.mpr c23; try simp only [c23b, c23n, nrm]
          refine w_cond rfl (fun _ => ?_) (fun h => Bool.noConfusion h)
          refine w_seq ?_
          refine wR fun K hK => ?_
          refine g_mv rfl rfl (gT ?_)
          refine g_mv rfl rfl (gT ?_)
          refine g_as rfl rfl (gT ?_)
          refine g_as rfl rfl (gT ?_)
          refine g_as rfl rfl (gT ?_)
          refine g_nil (hK _ _ _ ?_)
          refine k_seq ?_
          refine w_less (.at 8 [] 2 1 rfl rfl) ?_; simp only [nrmx, nrm, List.set_cons_zero, List.set_cons_succ, Nat.reduceAdd]
          refine w_ret ?_
          refine fin_wp (τ := [0, 73]) rfl (by decide) ?_; rw [← Option.some.inj H]; simp only [Try.f25]; exact gF
    · intro least_3 n_11 h2 h3 made_16 s_17 r_18 k_19 most_20 i_21 t_92 t_93 h0 h1_0 h1_1 h1_2 h4 r H
      unfold solve_Pivot.l2 at H
      simp only [bodyOf, Try.f25, frs, sub, if_true, if_false, Nat.one_ne_zero]
      refine w_loop ?_
      refine w_seq ?_
      refine w_seq ?_
      refine wR fun K hK => ?_
      refine g_mv rfl rfl (gT ?_)
      refine g_mv rfl rfl (gT ?_)
      refine g_bin rfl rfl rfl rfl rfl (gT ?_)
      refine g_nil (hK _ _ _ ?_)
      refine k_seq ?_
      rcases its H with ⟨c26, H⟩ | ⟨c26, H⟩
      · have c26b := decide_eq_true c26; try simp only [c26b, nrm]
        refine w_cond rfl (fun _ => ?_) (fun h => Bool.noConfusion h)
        refine w_skip ?_
        refine k_seq ?_
        refine w_seq ?_
        refine w_block ?_
        refine w_seq ?_
        refine wR fun K hK => ?_
        refine g_mv rfl rfl (gT ?_)
        refine g_as rfl rfl (gT ?_)
        refine g_nil (hK _ _ _ ?_)
        refine k_seq ?_
        refine w_block ?_
        refine w_wk (σ := [0, 1, 2, 3, 4]) [0, 2, 7, 0, 0, 0, 1, 0, 0, 0, 0, 0, 0, 69, 0] rfl (by decide) ?_; refine gC ?_
        exact gI (ih6 least_3 n_11 h2 h3 made_16 s_17 r_18 k_19 most_20 i_21 s_17 t_92 t_93 h0 h1_0 h1_1 h1_2 h4 r H)
      · have c26b := decide_eq_false c26; try simp only [c26b, nrm]
        refine w_cond rfl (fun h => Bool.noConfusion h) (fun _ => ?_)
        refine w_exit rfl ?_
        refine k_seq ?_
        refine w_seq ?_
        refine w_seq ?_
        refine wR fun K hK => ?_
        refine g_mv rfl rfl (gT ?_)
        refine g_mv rfl rfl (gT ?_)
        refine g_nil (hK _ _ _ ?_)
        refine k_seq ?_
        refine w_block ?_
        refine w_wk (σ := [0, 1, 2, 3, 4]) [0, 2, 7, 0, 0, 0, 1, 0, 0, 0, 72, 0, 27, 0] rfl (by decide) ?_; refine gC ?_
        exact gI (ih7 least_3 n_11 h2 h3 made_16 s_17 r_18 k_19 t_92 t_93 n_11 0 h0 h1_0 h1_1 h1_2 h4 r H)
    · intro made_16 h1 h2 h3 t_279 t_280 h0 r H
      unfold solve_Pivot.l3 at H
      simp only [bodyOf, Try.f25, frs, sub, if_true, if_false, Nat.one_ne_zero]
      refine w_loop ?_
      refine w_seq ?_
      refine wR fun K hK => ?_
      refine g_bin rfl rfl rfl rfl rfl (gT ?_)
      refine g_nil (hK _ _ _ ?_)
      refine k_seq ?_
      refine w_seq ?_
      rcases its H with ⟨c27, H⟩ | ⟨c27, H⟩
      · have c27b := decide_eq_true c27; try simp only [c27b, nrm]
        refine w_cond rfl (fun _ => ?_) (fun h => Bool.noConfusion h)
        refine w_skip ?_
        refine k_seq ?_
        refine w_seq ?_
        refine w_block ?_
        refine w_seq ?_
        refine wR fun K hK => ?_
        refine g_mv rfl rfl (gT ?_)
        obtain ⟨c28, H⟩ := it1 H
        obtain ⟨c29, H⟩ := it1 H
        refine g_ixo rfl rfl Try.underlying41 sz3 rfl rfl (by first | assumption | omega) (by first | assumption | omega | (simp only [List.length_set, List.length_replicate] at *; omega)) (gT ?_)
        refine g_ldo rfl rfl ag3 sz3 rfl rfl (by first | assumption | omega | (simp only [List.length_set, List.length_replicate] at *; omega)) (gT ?_)
        refine g_as rfl rfl (gT ?_)
        refine g_as rfl rfl (gT ?_)
        refine g_nil (hK _ _ _ ?_)
        refine k_seq ?_
        refine wR fun K hK => ?_
        refine g_mv rfl rfl (gT ?_)
        refine g_mv rfl rfl (gT ?_)
        refine g_mv rfl rfl (gT ?_)
        refine g_mv rfl rfl (gT ?_)
        obtain ⟨c30, H⟩ := it1 H
        refine g_ixo rfl rfl Try.underlying22 sz35 rfl rfl (by first | assumption | omega) (by first | assumption | omega | (simp only [List.length_set, List.length_replicate] at *; omega)) (gT ?_)
        refine g_ldo rfl rfl ag35 sz35 rfl rfl (by first | assumption | omega | (simp only [List.length_set, List.length_replicate] at *; omega)) (gT ?_)
        obtain ⟨c31, H⟩ := it1 H
        obtain ⟨c32, H⟩ := it1 H
        refine g_ixo rfl rfl Try.underlying22 sz35 rfl rfl (by first | assumption | omega) (by first | assumption | omega | (simp only [List.length_set, List.length_replicate] at *; omega)) (gT ?_)
        refine g_st rfl rfl sz35 rfl rfl rfl (by rfl) (by simp only [List.length_map, List.length_set, List.length_replicate]; first | assumption | omega) (gU ?_)
        refine g_nil (hK _ _ _ ?_)
        refine k_block ?_
        refine k_seq ?_
        refine wR fun K hK => ?_
        refine g_bin rfl rfl rfl rfl rfl (gT ?_)
        refine g_mv rfl rfl (gT ?_)
        refine g_nil (hK _ _ _ ?_)
        refine k_loop ?_
        refine w_wk (σ := [0, 1, 2, 3]) [16, 16, 1, 242, 0, 0] rfl (by decide) ?_; refine gC ?_
        exact gI (ih5 made_16 h1 (h2.set (rd h3 t_280).toNat (rd h1 t_280)) h3 t_279 (wrap64 (t_280 + 1)) h0 r H)
      · have c27b := decide_eq_false c27; try simp only [c27b, nrm]
        refine w_cond rfl (fun h => Bool.noConfusion h) (fun _ => ?_)
        refine w_exit rfl ?_
        refine k_seq ?_
        refine w_seq ?_
        refine wR fun K hK => ?_
        refine g_mv rfl rfl (gT ?_)
        refine g_mv rfl rfl (gT ?_)
        refine g_as rfl rfl (gT ?_)
        refine g_as rfl rfl (gT ?_)
        refine g_as rfl rfl (gT ?_)
        refine g_nil (hK _ _ _ ?_)
        refine k_seq ?_
        refine w_ret ?_
        refine fin_wp (τ := [0, 2]) rfl (by decide) ?_; rw [← Option.some.inj H]; simp only [Try.f25]; exact gF
    · intro least_3 n_11 h2 h3 made_16 s_17 r_18 k_19 most_20 i_21 j_22 t_92 t_93 h0 h1_0 h1_1 h1_2 h4 r H
      unfold solve_Pivot.l4 at H
      simp only [bodyOf, Try.f25, frs, sub, if_true, if_false, Nat.one_ne_zero]
      refine w_loop ?_
      refine w_seq ?_
      refine w_seq ?_
      refine wR fun K hK => ?_
      refine g_mv rfl rfl (gT ?_)
      refine g_mv rfl rfl (gT ?_)
      refine g_bin rfl rfl rfl rfl rfl (gT ?_)
      refine g_nil (hK _ _ _ ?_)
      refine k_seq ?_
      rcases its H with ⟨c33, H⟩ | ⟨c33, H⟩
      · have c33b := decide_eq_true c33; try simp only [c33b, nrm]
        refine w_cond rfl (fun _ => ?_) (fun h => Bool.noConfusion h)
        refine w_skip ?_
        refine k_seq ?_
        refine w_seq ?_
        refine w_block ?_
        refine w_seq ?_
        refine wR fun K hK => ?_
        refine g_lda rfl rfl ag25 sz25 rfl rfl (Nat.le_of_ble_eq_true rfl) (gT ?_)
        refine g_mv rfl rfl (gT ?_)
        refine g_mv rfl rfl (gT ?_)
        obtain ⟨q34, hq34, H⟩ := bnd H
        refine g_cs [] rfl rfl (by rfl) Try.func11 rfl (by decide) (mat_Matrix_At.does hq34) ⟨Nat.le_of_ble_eq_true rfl, Nat.le_of_ble_eq_true rfl⟩ ?_; refine gC ?_
        obtain ⟨q35, hq35, H⟩ := bnd H
        refine g_cs [] rfl rfl (by rfl) Try.func10 rfl (by decide) (word_Abs.does hq35) ⟨Nat.le_of_ble_eq_true rfl, Nat.le_of_ble_eq_true rfl⟩ ?_; refine gC ?_
        refine g_as rfl rfl (gT ?_)
        refine g_nil (hK _ _ _ ?_)
        refine k_seq ?_
        refine w_seq ?_
        refine wR fun K hK => ?_
        refine g_mv rfl rfl (gT ?_)
        refine g_mv rfl rfl (gT ?_)
        refine g_bin rfl rfl rfl rfl rfl (gT ?_)
        refine g_nil (hK _ _ _ ?_)
        refine k_seq ?_
        rcases its H with ⟨c36, H⟩ | ⟨c36, H⟩
        · have c36b := decide_eq_true c36; try simp only [c36b, nrm]
          refine w_cond rfl (fun _ => ?_) (fun h => Bool.noConfusion h)
          refine wR fun K hK => ?_
          refine g_mv rfl rfl (gT ?_)
          refine g_mv rfl rfl (gT ?_)
          refine g_mv rfl rfl (gT ?_)
          refine g_as rfl rfl (gT ?_)
          refine g_as rfl rfl (gT ?_)
          refine g_as rfl rfl (gT ?_)
          refine g_nil (hK _ _ _ ?_)
          refine k_block ?_
          refine k_seq ?_
          refine wR fun K hK => ?_
          refine g_mv rfl rfl (gT ?_)
          refine g_bin rfl rfl rfl rfl rfl (gT ?_)
          refine g_as rfl rfl (gT ?_)
          refine g_nil (hK _ _ _ ?_)
          refine k_loop ?_
          refine w_wk (σ := [0, 1, 2, 3, 4]) [0, 2, 7, 0, 0, 0, 1, 0, 0, 0, 0, 0, 0, 69, 0] rfl (by decide) ?_; refine gC ?_
          exact gI (ih6 least_3 n_11 h2 h3 made_16 s_17 i_21 j_22 q35 i_21 (wrap64 (j_22 + 1)) t_92 t_93 h0 h1_0 h1_1 h1_2 h4 r H)
        · have c36b := decide_eq_false c36; try simp only [c36b, nrm]
          refine w_cond rfl (fun h => Bool.noConfusion h) (fun _ => ?_)
          refine w_skip ?_
          refine k_block ?_
          refine k_seq ?_
          refine wR fun K hK => ?_
          refine g_mv rfl rfl (gT ?_)
          refine g_bin rfl rfl rfl rfl rfl (gT ?_)
          refine g_as rfl rfl (gT ?_)
          refine g_nil (hK _ _ _ ?_)
          refine k_loop ?_
          refine w_wk (σ := [0, 1, 2, 3, 4]) [0, 2, 7, 0, 0, 0, 1, 0, 0, 0, 0, 0, 0, 69, 0] rfl (by decide) ?_; refine gC ?_
          exact gI (ih6 least_3 n_11 h2 h3 made_16 s_17 r_18 k_19 most_20 i_21 (wrap64 (j_22 + 1)) t_92 t_93 h0 h1_0 h1_1 h1_2 h4 r H)
      · have c33b := decide_eq_false c33; try simp only [c33b, nrm]
        refine w_cond rfl (fun h => Bool.noConfusion h) (fun _ => ?_)
        refine w_exit rfl ?_
        refine k_block ?_
        refine k_seq ?_
        refine wR fun K hK => ?_
        refine g_mv rfl rfl (gT ?_)
        refine g_bin rfl rfl rfl rfl rfl (gT ?_)
        refine g_as rfl rfl (gT ?_)
        refine g_nil (hK _ _ _ ?_)
        refine k_loop ?_
        refine w_wk (σ := [0, 1, 2, 3, 4]) [0, 2, 7, 0, 0, 0, 1, 0, 0, 0, 0, 0, 70, 0] rfl (by decide) ?_; refine gC ?_
        exact gI (ih4 least_3 n_11 h2 h3 made_16 s_17 r_18 k_19 most_20 (wrap64 (i_21 + 1)) t_92 t_93 h0 h1_0 h1_1 h1_2 h4 r H)
    · intro least_3 n_11 h2 h3 made_16 s_17 r_18 k_19 t_92 t_93 t_121 t_122 h0 h1_0 h1_1 h1_2 h4 r H
      unfold solve_Pivot.l5 at H
      simp only [bodyOf, Try.f25, frs, sub, if_true, if_false, Nat.one_ne_zero]
      refine w_loop ?_
      refine w_seq ?_
      refine wR fun K hK => ?_
      refine g_bin rfl rfl rfl rfl rfl (gT ?_)
      refine g_nil (hK _ _ _ ?_)
      refine k_seq ?_
      refine w_seq ?_
      rcases its H with ⟨c37, H⟩ | ⟨c37, H⟩
      · have c37b := decide_eq_true c37; try simp only [c37b, nrm]
        refine w_cond rfl (fun _ => ?_) (fun h => Bool.noConfusion h)
        refine w_skip ?_
        refine k_seq ?_
        refine w_seq ?_
        refine w_block ?_
        refine w_seq ?_
        refine wR fun K hK => ?_
        refine g_mv rfl rfl (gT ?_)
        refine g_as rfl rfl (gT ?_)
        refine g_nil (hK _ _ _ ?_)
        refine k_seq ?_
        refine w_seq ?_
        refine wD fun K hK => ?_
        refine g_lda rfl rfl ag25 sz25 rfl rfl (Nat.le_of_ble_eq_true rfl) (gT ?_)
        refine g_mv rfl rfl (gT ?_)
        refine g_mv rfl rfl (gT ?_)
        obtain ⟨q38, hq38, H⟩ := bnd H
        refine g_cs [] rfl rfl (by rfl) Try.func11 rfl (by decide) (mat_Matrix_At.does hq38) ⟨Nat.le_of_ble_eq_true rfl, Nat.le_of_ble_eq_true rfl⟩ ?_; refine gC ?_
        refine g_lda rfl rfl ag25 sz25 rfl rfl (Nat.le_of_ble_eq_true rfl) (gT ?_)
        refine g_mv rfl rfl (gT ?_)
        refine g_mv rfl rfl (gT ?_)
        obtain ⟨q39, hq39, H⟩ := bnd H
        refine g_cs [] rfl rfl (by rfl) Try.func11 rfl (by decide) (mat_Matrix_At.does hq39) ⟨Nat.le_of_ble_eq_true rfl, Nat.le_of_ble_eq_true rfl⟩ ?_; refine gC ?_
        refine g_as rfl rfl (gT ?_)
        refine g_as rfl rfl (gT ?_)
        refine g_nil (hK _ _ _ (by kernel_rfl) ?_)
        refine k_seq ?_
        refine w_seq ?_
        refine wR fun K hK => ?_
        refine g_lda rfl rfl ag25 sz25 rfl rfl (Nat.le_of_ble_eq_true rfl) (gT ?_)
        refine g_mv rfl rfl (gT ?_)
        refine g_mv rfl rfl (gT ?_)
        refine g_mv rfl rfl (gT ?_)
        obtain ⟨q40, hq40, H⟩ := bnd H
        have zq40_0 := mat_Matrix_Set.len hq40
        (try simp only [List.length_set, List.length_replicate, List.length_append, List.length_cons, List.length_nil, Nat.zero_add] at zq40_0)
        refine g_cs [4] rfl rfl (by rfl) Try.func20 rfl (by decide) (mat_Matrix_Set.does hq40) ⟨Nat.le_of_ble_eq_true rfl, Nat.le_of_ble_eq_true rfl⟩ ?_; simp only [nrm, nrmw, nrmc, nrme, nrmo, nrml, nrmb, nrmx, Nat.reduceEqDiff, Nat.reduceBEq, Nat.zero_add, Nat.add_zero, Nat.mul_one, List.length_cons, List.length_nil, List.length_map, List.length_set, List.length_replicate, List.drop_zero, List.drop_succ_cons, List.drop_nil, List.take_zero, List.take_succ_cons, List.take_nil, Nat.le_refl, if_true, if_false, Option.any_none, Option.any_some, List.contains_nil, Bool.not_false, Bool.or_true, Bool.true_or, Bool.or_false, Bool.false_or, Bool.and_true, Bool.true_and, Bool.and_self, reduceCtorEq, beq_self_eq_true, List.map_cons, List.map_nil, List.append_nil, List.nil_append, List.filter_cons, List.filter_nil, List.cons_append, Bool.false_eq_true, true_and, and_true, List.getElem_toArray, List.getElem_cons_zero, List.getElem_cons_succ, Nat.reduceAdd, Nat.reduceMul, Nat.reduceLT, Nat.reduceSub, Nat.reduceLeDiff, ← zq40_0]
        refine g_nil (hK _ _ _ ?_)
        refine k_seq ?_
        refine wR fun K hK => ?_
        refine g_lda rfl rfl ag25 sz25 rfl rfl (Nat.le_of_ble_eq_true rfl) (gT ?_)
        refine g_mv rfl rfl (gT ?_)
        refine g_mv rfl rfl (gT ?_)
        refine g_mv rfl rfl (gT ?_)
        obtain ⟨q41, hq41, H⟩ := bnd H
        have zq41_0 := mat_Matrix_Set.len hq41
        (try simp only [List.length_set, List.length_replicate, List.length_append, List.length_cons, List.length_nil, Nat.zero_add] at zq41_0)
        refine g_cs [4] rfl rfl (by rfl) Try.func20 rfl (by decide) (mat_Matrix_Set.does hq41) ⟨Nat.le_of_ble_eq_true rfl, Nat.le_of_ble_eq_true rfl⟩ ?_; simp only [nrm, nrmw, nrmc, nrme, nrmo, nrml, nrmb, nrmx, Nat.reduceEqDiff, Nat.reduceBEq, Nat.zero_add, Nat.add_zero, Nat.mul_one, List.length_cons, List.length_nil, List.length_map, List.length_set, List.length_replicate, List.drop_zero, List.drop_succ_cons, List.drop_nil, List.take_zero, List.take_succ_cons, List.take_nil, Nat.le_refl, if_true, if_false, Option.any_none, Option.any_some, List.contains_nil, Bool.not_false, Bool.or_true, Bool.true_or, Bool.or_false, Bool.false_or, Bool.and_true, Bool.true_and, Bool.and_self, reduceCtorEq, beq_self_eq_true, List.map_cons, List.map_nil, List.append_nil, List.nil_append, List.filter_cons, List.filter_nil, List.cons_append, Bool.false_eq_true, true_and, and_true, List.getElem_toArray, List.getElem_cons_zero, List.getElem_cons_succ, Nat.reduceAdd, Nat.reduceMul, Nat.reduceLT, Nat.reduceSub, Nat.reduceLeDiff, ← zq41_0]
        refine g_nil (hK _ _ _ ?_)
        refine k_block ?_
        refine k_seq ?_
        refine wR fun K hK => ?_
        refine g_bin rfl rfl rfl rfl rfl (gT ?_)
        refine g_mv rfl rfl (gT ?_)
        refine g_nil (hK _ _ _ ?_)
        refine k_loop ?_
        refine w_wk (σ := [0, 1, 2, 3, 4]) [0, 2, 7, 0, 0, 0, 1, 0, 0, 0, 72, 0, 27, 0] rfl (by decide) ?_; refine gC ?_
        exact gI (ih7 least_3 n_11 h2 h3 made_16 s_17 r_18 k_19 t_92 t_93 t_121 (wrap64 (t_122 + 1)) h0 h1_0 h1_1 h1_2 q41 r H)
      · have c37b := decide_eq_false c37; try simp only [c37b, nrm]
        refine w_cond rfl (fun h => Bool.noConfusion h) (fun _ => ?_)
        refine w_exit rfl ?_
        refine k_seq ?_
        refine w_seq ?_
        refine wD fun K hK => ?_
        refine g_mv rfl rfl (gT ?_)
        refine g_mv rfl rfl (gT ?_)
        refine g_mv rfl rfl (gT ?_)
        refine g_mv rfl rfl (gT ?_)
        refine g_mv rfl rfl (gT ?_)
        refine g_mv rfl rfl (gT ?_)
        obtain ⟨c42, H⟩ := it1 H
        obtain ⟨c43, H⟩ := it1 H
        refine g_ixo rfl rfl Try.underlying22 sz35 rfl rfl (by first | assumption | omega) (by first | assumption | omega | (simp only [List.length_set, List.length_replicate] at *; omega)) (gT ?_)
        refine g_ldo rfl rfl ag35 sz35 rfl rfl (by first | assumption | omega | (simp only [List.length_set, List.length_replicate] at *; omega)) (gT ?_)
        refine g_mv rfl rfl (gT ?_)
        refine g_mv rfl rfl (gT ?_)
        obtain ⟨c44, H⟩ := it1 H
        obtain ⟨c45, H⟩ := it1 H
        refine g_ixo rfl rfl Try.underlying22 sz35 rfl rfl (by first | assumption | omega) (by first | assumption | omega | (simp only [List.length_set, List.length_replicate] at *; omega)) (gT ?_)
        refine g_ldo rfl rfl ag35 sz35 rfl rfl (by first | assumption | omega | (simp only [List.length_set, List.length_replicate] at *; omega)) (gT ?_)
        refine g_ixo rfl rfl Try.underlying22 sz35 rfl rfl (by first | assumption | omega) (by first | assumption | omega | (simp only [List.length_set, List.length_replicate] at *; omega)) (gT ?_)
        refine g_st rfl rfl sz35 rfl rfl rfl (by rfl) (by simp only [List.length_map, List.length_set, List.length_replicate]; first | assumption | omega) (gU ?_)
        refine g_ixo rfl rfl Try.underlying22 sz35 rfl rfl (by first | assumption | omega) (by first | assumption | omega | (simp only [List.length_set, List.length_replicate] at *; omega)) (gT ?_)
        refine g_st rfl rfl sz35 rfl rfl rfl (by rfl) (by simp only [List.length_map, List.length_set, List.length_replicate]; first | assumption | omega) (gU ?_)
        refine g_nil (hK _ _ _ (by kernel_rfl) ?_)
        refine k_seq ?_
        refine w_seq ?_
        refine w_seq ?_
        refine wR fun K hK => ?_
        refine g_mv rfl rfl (gT ?_)
        refine g_mv rfl rfl (gT ?_)
        refine g_nil (hK _ _ _ ?_)
        refine k_seq ?_
        refine w_block ?_
        refine w_wk (σ := [0, 1, 2, 3, 4]) [0, 2, 7, 0, 0, 0, 1, 0, 1, 72, 0, 64, 0] rfl (by decide) ?_; refine gC ?_
        exact gI (ih8 least_3 n_11 ((h2.set s_17.toNat (rd h2 r_18)).set r_18.toNat (rd h2 s_17)) h3 made_16 s_17 k_19 t_92 t_93 n_11 0 h0 h1_0 h1_1 h1_2 h4 r H)
    · intro least_3 n_11 h2 h3 made_16 s_17 k_19 t_92 t_93 t_158 t_159 h0 h1_0 h1_1 h1_2 h4 r H
      unfold solve_Pivot.l6 at H
      simp only [bodyOf, Try.f25, frs, sub, if_true, if_false, Nat.one_ne_zero]
      refine w_loop ?_
      refine w_seq ?_
      refine wR fun K hK => ?_
      refine g_bin rfl rfl rfl rfl rfl (gT ?_)
      refine g_nil (hK _ _ _ ?_)
      refine k_seq ?_
      refine w_seq ?_
      rcases its H with ⟨c46, H⟩ | ⟨c46, H⟩
      · have c46b := decide_eq_true c46; try simp only [c46b, nrm]
        refine w_cond rfl (fun _ => ?_) (fun h => Bool.noConfusion h)
        refine w_skip ?_
        refine k_seq ?_
        refine w_seq ?_
        refine w_block ?_
        refine w_seq ?_
        refine wR fun K hK => ?_
        refine g_mv rfl rfl (gT ?_)
        refine g_as rfl rfl (gT ?_)
        refine g_nil (hK _ _ _ ?_)
        refine k_seq ?_
        refine w_seq ?_
        refine wD fun K hK => ?_
        refine g_lda rfl rfl ag25 sz25 rfl rfl (Nat.le_of_ble_eq_true rfl) (gT ?_)
        refine g_mv rfl rfl (gT ?_)
        refine g_mv rfl rfl (gT ?_)
        obtain ⟨q47, hq47, H⟩ := bnd H
        refine g_cs [] rfl rfl (by rfl) Try.func11 rfl (by decide) (mat_Matrix_At.does hq47) ⟨Nat.le_of_ble_eq_true rfl, Nat.le_of_ble_eq_true rfl⟩ ?_; refine gC ?_
        refine g_lda rfl rfl ag25 sz25 rfl rfl (Nat.le_of_ble_eq_true rfl) (gT ?_)
        refine g_mv rfl rfl (gT ?_)
        refine g_mv rfl rfl (gT ?_)
        obtain ⟨q48, hq48, H⟩ := bnd H
        refine g_cs [] rfl rfl (by rfl) Try.func11 rfl (by decide) (mat_Matrix_At.does hq48) ⟨Nat.le_of_ble_eq_true rfl, Nat.le_of_ble_eq_true rfl⟩ ?_; refine gC ?_
        refine g_as rfl rfl (gT ?_)
        refine g_as rfl rfl (gT ?_)
        refine g_nil (hK _ _ _ (by kernel_rfl) ?_)
        refine k_seq ?_
        refine w_seq ?_
        refine wR fun K hK => ?_
        refine g_lda rfl rfl ag25 sz25 rfl rfl (Nat.le_of_ble_eq_true rfl) (gT ?_)
        refine g_mv rfl rfl (gT ?_)
        refine g_mv rfl rfl (gT ?_)
        refine g_mv rfl rfl (gT ?_)
        obtain ⟨q49, hq49, H⟩ := bnd H
        have zq49_0 := mat_Matrix_Set.len hq49
        (try simp only [List.length_set, List.length_replicate, List.length_append, List.length_cons, List.length_nil, Nat.zero_add] at zq49_0)
        refine g_cs [4] rfl rfl (by rfl) Try.func20 rfl (by decide) (mat_Matrix_Set.does hq49) ⟨Nat.le_of_ble_eq_true rfl, Nat.le_of_ble_eq_true rfl⟩ ?_; simp only [nrm, nrmw, nrmc, nrme, nrmo, nrml, nrmb, nrmx, Nat.reduceEqDiff, Nat.reduceBEq, Nat.zero_add, Nat.add_zero, Nat.mul_one, List.length_cons, List.length_nil, List.length_map, List.length_set, List.length_replicate, List.drop_zero, List.drop_succ_cons, List.drop_nil, List.take_zero, List.take_succ_cons, List.take_nil, Nat.le_refl, if_true, if_false, Option.any_none, Option.any_some, List.contains_nil, Bool.not_false, Bool.or_true, Bool.true_or, Bool.or_false, Bool.false_or, Bool.and_true, Bool.true_and, Bool.and_self, reduceCtorEq, beq_self_eq_true, List.map_cons, List.map_nil, List.append_nil, List.nil_append, List.filter_cons, List.filter_nil, List.cons_append, Bool.false_eq_true, true_and, and_true, List.getElem_toArray, List.getElem_cons_zero, List.getElem_cons_succ, Nat.reduceAdd, Nat.reduceMul, Nat.reduceLT, Nat.reduceSub, Nat.reduceLeDiff, ← zq49_0]
        refine g_nil (hK _ _ _ ?_)
        refine k_seq ?_
        refine wR fun K hK => ?_
        refine g_lda rfl rfl ag25 sz25 rfl rfl (Nat.le_of_ble_eq_true rfl) (gT ?_)
        refine g_mv rfl rfl (gT ?_)
        refine g_mv rfl rfl (gT ?_)
        refine g_mv rfl rfl (gT ?_)
        obtain ⟨q50, hq50, H⟩ := bnd H
        have zq50_0 := mat_Matrix_Set.len hq50
        (try simp only [List.length_set, List.length_replicate, List.length_append, List.length_cons, List.length_nil, Nat.zero_add] at zq50_0)
        refine g_cs [4] rfl rfl (by rfl) Try.func20 rfl (by decide) (mat_Matrix_Set.does hq50) ⟨Nat.le_of_ble_eq_true rfl, Nat.le_of_ble_eq_true rfl⟩ ?_; simp only [nrm, nrmw, nrmc, nrme, nrmo, nrml, nrmb, nrmx, Nat.reduceEqDiff, Nat.reduceBEq, Nat.zero_add, Nat.add_zero, Nat.mul_one, List.length_cons, List.length_nil, List.length_map, List.length_set, List.length_replicate, List.drop_zero, List.drop_succ_cons, List.drop_nil, List.take_zero, List.take_succ_cons, List.take_nil, Nat.le_refl, if_true, if_false, Option.any_none, Option.any_some, List.contains_nil, Bool.not_false, Bool.or_true, Bool.true_or, Bool.or_false, Bool.false_or, Bool.and_true, Bool.true_and, Bool.and_self, reduceCtorEq, beq_self_eq_true, List.map_cons, List.map_nil, List.append_nil, List.nil_append, List.filter_cons, List.filter_nil, List.cons_append, Bool.false_eq_true, true_and, and_true, List.getElem_toArray, List.getElem_cons_zero, List.getElem_cons_succ, Nat.reduceAdd, Nat.reduceMul, Nat.reduceLT, Nat.reduceSub, Nat.reduceLeDiff, ← zq50_0]
        refine g_nil (hK _ _ _ ?_)
        refine k_block ?_
        refine k_seq ?_
        refine wR fun K hK => ?_
        refine g_bin rfl rfl rfl rfl rfl (gT ?_)
        refine g_mv rfl rfl (gT ?_)
        refine g_nil (hK _ _ _ ?_)
        refine k_loop ?_
        refine w_wk (σ := [0, 1, 2, 3, 4]) [0, 2, 7, 0, 0, 0, 1, 0, 1, 72, 0, 64, 0] rfl (by decide) ?_; refine gC ?_
        exact gI (ih8 least_3 n_11 h2 h3 made_16 s_17 k_19 t_92 t_93 t_158 (wrap64 (t_159 + 1)) h0 h1_0 h1_1 h1_2 q50 r H)
      · have c46b := decide_eq_false c46; try simp only [c46b, nrm]
        refine w_cond rfl (fun h => Bool.noConfusion h) (fun _ => ?_)
        refine w_exit rfl ?_
        refine k_seq ?_
        refine w_seq ?_
        refine wD fun K hK => ?_
        refine g_mv rfl rfl (gT ?_)
        refine g_mv rfl rfl (gT ?_)
        refine g_mv rfl rfl (gT ?_)
        refine g_mv rfl rfl (gT ?_)
        refine g_mv rfl rfl (gT ?_)
        refine g_mv rfl rfl (gT ?_)
        obtain ⟨c51, H⟩ := it1 H
        obtain ⟨c52, H⟩ := it1 H
        refine g_ixo rfl rfl Try.underlying41 sz3 rfl rfl (by first | assumption | omega) (by first | assumption | omega | (simp only [List.length_set, List.length_replicate] at *; omega)) (gT ?_)
        refine g_ldo rfl rfl ag3 sz3 rfl rfl (by first | assumption | omega | (simp only [List.length_set, List.length_replicate] at *; omega)) (gT ?_)
        refine g_mv rfl rfl (gT ?_)
        refine g_mv rfl rfl (gT ?_)
        obtain ⟨c53, H⟩ := it1 H
        obtain ⟨c54, H⟩ := it1 H
        refine g_ixo rfl rfl Try.underlying41 sz3 rfl rfl (by first | assumption | omega) (by first | assumption | omega | (simp only [List.length_set, List.length_replicate] at *; omega)) (gT ?_)
        refine g_ldo rfl rfl ag3 sz3 rfl rfl (by first | assumption | omega | (simp only [List.length_set, List.length_replicate] at *; omega)) (gT ?_)
        refine g_ixo rfl rfl Try.underlying41 sz3 rfl rfl (by first | assumption | omega) (by first | assumption | omega | (simp only [List.length_set, List.length_replicate] at *; omega)) (gT ?_)
        refine g_st rfl rfl sz3 rfl rfl rfl (by rfl) (by simp only [List.length_map, List.length_set, List.length_replicate]; first | assumption | omega) (gU ?_)
        refine g_ixo rfl rfl Try.underlying41 sz3 rfl rfl (by first | assumption | omega) (by first | assumption | omega | (simp only [List.length_set, List.length_replicate] at *; omega)) (gT ?_)
        refine g_st rfl rfl sz3 rfl rfl rfl (by rfl) (by simp only [List.length_map, List.length_set, List.length_replicate]; first | assumption | omega) (gU ?_)
        refine g_nil (hK _ _ _ (by kernel_rfl) ?_)
        refine k_seq ?_
        refine w_seq ?_
        refine w_seq ?_
        refine wR fun K hK => ?_
        refine g_lda rfl rfl ag25 sz25 rfl rfl (Nat.le_of_ble_eq_true rfl) (gT ?_)
        refine g_mv rfl rfl (gT ?_)
        refine g_mv rfl rfl (gT ?_)
        obtain ⟨q55, hq55, H⟩ := bnd H
        refine g_cs [] rfl rfl (by rfl) Try.func11 rfl (by decide) (mat_Matrix_At.does hq55) ⟨Nat.le_of_ble_eq_true rfl, Nat.le_of_ble_eq_true rfl⟩ ?_; refine gC ?_
        obtain ⟨q56, hq56, H⟩ := bnd H
        refine g_cs [] rfl rfl (by rfl) Try.func10 rfl (by decide) (word_Abs.does hq56) ⟨Nat.le_of_ble_eq_true rfl, Nat.le_of_ble_eq_true rfl⟩ ?_; refine gC ?_
        refine g_mv rfl rfl (gT ?_)
        refine g_bin rfl rfl rfl rfl rfl (gT ?_)
        refine g_nil (hK _ _ _ ?_)
        refine k_seq ?_
        rcases its H with ⟨c57, H⟩ | ⟨c57, H⟩
        · have c57b := decide_eq_true c57; try simp only [c57b, nrm]
          refine w_cond rfl (fun _ => ?_) (fun h => Bool.noConfusion h)
          refine w_seq ?_
          refine wR fun K hK => ?_
          refine g_lda rfl rfl ag25 sz25 rfl rfl (Nat.le_of_ble_eq_true rfl) (gT ?_)
          refine g_mv rfl rfl (gT ?_)
          refine g_mv rfl rfl (gT ?_)
          refine g_mv rfl rfl (gT ?_)
          obtain ⟨q58, hq58, H⟩ := bnd H
          have zq58_0 := mat_Matrix_Set.len hq58
          (try simp only [List.length_set, List.length_replicate, List.length_append, List.length_cons, List.length_nil, Nat.zero_add] at zq58_0)
          refine g_cs [4] rfl rfl (by rfl) Try.func20 rfl (by decide) (mat_Matrix_Set.does hq58) ⟨Nat.le_of_ble_eq_true rfl, Nat.le_of_ble_eq_true rfl⟩ ?_; simp only [nrm, nrmw, nrmc, nrme, nrmo, nrml, nrmb, nrmx, Nat.reduceEqDiff, Nat.reduceBEq, Nat.zero_add, Nat.add_zero, Nat.mul_one, List.length_cons, List.length_nil, List.length_map, List.length_set, List.length_replicate, List.drop_zero, List.drop_succ_cons, List.drop_nil, List.take_zero, List.take_succ_cons, List.take_nil, Nat.le_refl, if_true, if_false, Option.any_none, Option.any_some, List.contains_nil, Bool.not_false, Bool.or_true, Bool.true_or, Bool.or_false, Bool.false_or, Bool.and_true, Bool.true_and, Bool.and_self, reduceCtorEq, beq_self_eq_true, List.map_cons, List.map_nil, List.append_nil, List.nil_append, List.filter_cons, List.filter_nil, List.cons_append, Bool.false_eq_true, true_and, and_true, List.getElem_toArray, List.getElem_cons_zero, List.getElem_cons_succ, Nat.reduceAdd, Nat.reduceMul, Nat.reduceLT, Nat.reduceSub, Nat.reduceLeDiff, ← zq58_0]
          refine g_nil (hK _ _ _ ?_)
          refine k_seq ?_
          refine wR fun K hK => ?_
          refine g_as rfl rfl (gT ?_)
          refine g_nil (hK _ _ _ ?_)
          refine k_wk (σ := [0, 1, 2, 3, 4]) [0, 2, 7, 0, 0, 0, 1, 0, 74, 0] rfl (by decide) rfl ?_; refine gC ?_
          exact gI (ih9 least_3 n_11 h2 ((h3.set s_17.toNat (rd h3 k_19)).set k_19.toNat (rd h3 s_17)) true s_17 t_92 t_93 h0 h1_0 h1_1 h1_2 q58 r H)
        · have c57b := decide_eq_false c57; try simp only [c57b, nrm]
          refine w_cond rfl (fun h => Bool.noConfusion h) (fun _ => ?_)
          refine w_skip ?_
          refine k_wk (σ := [0, 1, 2, 3, 4]) [0, 2, 7, 0, 0, 0, 1, 0, 74, 0] rfl (by decide) rfl ?_; refine gC ?_
          exact gI (ih9 least_3 n_11 h2 ((h3.set s_17.toNat (rd h3 k_19)).set k_19.toNat (rd h3 s_17)) made_16 s_17 t_92 t_93 h0 h1_0 h1_1 h1_2 h4 r H)
    · intro least_3 n_11 h2 h3 made_16 s_17 t_92 t_93 h0 h1_0 h1_1 h1_2 h4 r H
      unfold solve_Pivot.j9 at H
      simp only [bodyOf, Try.f25, frs, sub, if_true, if_false, Nat.one_ne_zero]
      refine k_seq ?_
      refine w_seq ?_
      refine wR fun K hK => ?_
      refine g_mv rfl rfl (gT ?_)
      refine g_bin rfl rfl rfl rfl rfl (gT ?_)
      refine g_as rfl rfl (gT ?_)
      refine g_nil (hK _ _ _ ?_)
      refine k_seq ?_
      refine w_block ?_
      refine w_wk (σ := [0, 1, 2, 3, 4]) [0, 2, 7, 0, 0, 0, 1, 0, 12, 61, 0] rfl (by decide) ?_; refine gC ?_
      exact gI (ih10 least_3 n_11 h2 h3 made_16 s_17 (wrap64 (s_17 + 1)) t_92 t_93 h0 h1_0 h1_1 h1_2 h4 r H)
    · intro least_3 n_11 h2 h3 made_16 s_17 i_30 t_92 t_93 h0 h1_0 h1_1 h1_2 h4 r H
      unfold solve_Pivot.l7 at H
      simp only [bodyOf, Try.f25, frs, sub, if_true, if_false, Nat.one_ne_zero]
      refine w_loop ?_
      refine w_seq ?_
      refine w_seq ?_
      refine wR fun K hK => ?_
      refine g_mv rfl rfl (gT ?_)
      refine g_mv rfl rfl (gT ?_)
      refine g_bin rfl rfl rfl rfl rfl (gT ?_)
      refine g_nil (hK _ _ _ ?_)
      refine k_seq ?_
      rcases its H with ⟨c59, H⟩ | ⟨c59, H⟩
      · have c59b := decide_eq_true c59; try simp only [c59b, nrm]
        refine w_cond rfl (fun _ => ?_) (fun h => Bool.noConfusion h)
        refine w_skip ?_
        refine k_seq ?_
        refine w_seq ?_
        refine w_block ?_
        refine w_seq ?_
        refine wD fun K hK => ?_
        refine g_mv rfl rfl (gT ?_)
        refine g_lda rfl rfl ag25 sz25 rfl rfl (Nat.le_of_ble_eq_true rfl) (gT ?_)
        refine g_mv rfl rfl (gT ?_)
        refine g_mv rfl rfl (gT ?_)
        obtain ⟨q60, hq60, H⟩ := bnd H
        refine g_cs [] rfl rfl (by rfl) Try.func11 rfl (by decide) (mat_Matrix_At.does hq60) ⟨Nat.le_of_ble_eq_true rfl, Nat.le_of_ble_eq_true rfl⟩ ?_; refine gC ?_
        refine g_lda rfl rfl ag25 sz25 rfl rfl (Nat.le_of_ble_eq_true rfl) (gT ?_)
        refine g_mv rfl rfl (gT ?_)
        refine g_mv rfl rfl (gT ?_)
        obtain ⟨q61, hq61, H⟩ := bnd H
        refine g_cs [] rfl rfl (by rfl) Try.func11 rfl (by decide) (mat_Matrix_At.does hq61) ⟨Nat.le_of_ble_eq_true rfl, Nat.le_of_ble_eq_true rfl⟩ ?_; refine gC ?_
        obtain ⟨q62, hq62, H⟩ := bnd H
        refine g_cs [0] rfl rfl (by rfl) Try.func15 rfl (by decide) (soft_Calc_Div.does hq62) ⟨Nat.le_of_ble_eq_true rfl, Nat.le_of_ble_eq_true rfl⟩ ?_; refine gC ?_
        refine g_as rfl rfl (gT ?_)
        refine g_nil (hK _ _ _ (by kernel_rfl) ?_)
        refine k_seq ?_
        refine w_seq ?_
        refine w_seq ?_
        refine wR fun K hK => ?_
        refine g_mv rfl rfl (gT ?_)
        refine g_bin rfl rfl rfl rfl rfl (gT ?_)
        refine g_as rfl rfl (gT ?_)
        refine g_nil (hK _ _ _ ?_)
        refine k_seq ?_
        refine w_block ?_
        refine w_wk (σ := [0, 1, 2, 3, 4]) [0, 2, 7, 0, 0, 0, 1, 0, 12, 0, 0, 59, 0] rfl (by decide) ?_; refine gC ?_
        exact gI (ih11 least_3 n_11 h2 h3 made_16 s_17 i_30 q62.1 (wrap64 (s_17 + 1)) t_92 t_93 q62.2 h1_0 h1_1 h1_2 h4 r H)
      · have c59b := decide_eq_false c59; try simp only [c59b, nrm]
        refine w_cond rfl (fun h => Bool.noConfusion h) (fun _ => ?_)
        refine w_exit rfl ?_
        refine k_block ?_
        refine k_seq ?_
        refine wR fun K hK => ?_
        refine g_bin rfl rfl rfl rfl rfl (gT ?_)
        refine g_mv rfl rfl (gT ?_)
        refine g_nil (hK _ _ _ ?_)
        refine k_loop ?_
        refine w_wk (σ := [0, 1, 2, 3, 4]) [0, 2, 7, 0, 0, 0, 1, 75, 0] rfl (by decide) ?_; refine gC ?_
        exact gI (ih3 least_3 n_11 h2 h3 made_16 t_92 (wrap64 (t_93 + 1)) h0 h1_0 h1_1 h1_2 h4 r H)
    · intro least_3 n_11 h2 h3 made_16 s_17 i_30 f_31 j_32 t_92 t_93 h0 h1_0 h1_1 h1_2 h4 r H
      unfold solve_Pivot.l8 at H
      simp only [bodyOf, Try.f25, frs, sub, if_true, if_false, Nat.one_ne_zero]
      refine w_loop ?_
      refine w_seq ?_
      refine w_seq ?_
      refine wR fun K hK => ?_
      refine g_mv rfl rfl (gT ?_)
      refine g_mv rfl rfl (gT ?_)
      refine g_bin rfl rfl rfl rfl rfl (gT ?_)
      refine g_nil (hK _ _ _ ?_)
      refine k_seq ?_
      rcases its H with ⟨c63, H⟩ | ⟨c63, H⟩
      · have c63b := decide_eq_true c63; try simp only [c63b, nrm]
        refine w_cond rfl (fun _ => ?_) (fun h => Bool.noConfusion h)
        refine w_skip ?_
        refine k_seq ?_
        refine w_seq ?_
        refine w_block ?_
        refine wD fun K hK => ?_
        refine g_lda rfl rfl ag25 sz25 rfl rfl (Nat.le_of_ble_eq_true rfl) (gT ?_)
        refine g_mv rfl rfl (gT ?_)
        refine g_mv rfl rfl (gT ?_)
        refine g_mv rfl rfl (gT ?_)
        refine g_lda rfl rfl ag25 sz25 rfl rfl (Nat.le_of_ble_eq_true rfl) (gT ?_)
        refine g_mv rfl rfl (gT ?_)
        refine g_mv rfl rfl (gT ?_)
        obtain ⟨q64, hq64, H⟩ := bnd H
        refine g_cs [] rfl rfl (by rfl) Try.func11 rfl (by decide) (mat_Matrix_At.does hq64) ⟨Nat.le_of_ble_eq_true rfl, Nat.le_of_ble_eq_true rfl⟩ ?_; refine gC ?_
        refine g_mv rfl rfl (gT ?_)
        refine g_mv rfl rfl (gT ?_)
        refine g_lda rfl rfl ag25 sz25 rfl rfl (Nat.le_of_ble_eq_true rfl) (gT ?_)
        refine g_mv rfl rfl (gT ?_)
        refine g_mv rfl rfl (gT ?_)
        obtain ⟨q65, hq65, H⟩ := bnd H
        refine g_cs [] rfl rfl (by rfl) Try.func11 rfl (by decide) (mat_Matrix_At.does hq65) ⟨Nat.le_of_ble_eq_true rfl, Nat.le_of_ble_eq_true rfl⟩ ?_; refine gC ?_
        obtain ⟨q66, hq66, H⟩ := bnd H
        refine g_cs [0] rfl rfl (by rfl) Try.func14 rfl (by decide) (soft_Calc_Mul.does hq66) ⟨Nat.le_of_ble_eq_true rfl, Nat.le_of_ble_eq_true rfl⟩ ?_; refine gC ?_
        obtain ⟨q67, hq67, H⟩ := bnd H
        refine g_cs [0] rfl rfl (by rfl) Try.func13 rfl (by decide) (soft_Calc_Sub.does hq67) ⟨Nat.le_of_ble_eq_true rfl, Nat.le_of_ble_eq_true rfl⟩ ?_; refine gC ?_
        obtain ⟨q68, hq68, H⟩ := bnd H
        have zq68_0 := mat_Matrix_Set.len hq68
        (try simp only [List.length_set, List.length_replicate, List.length_append, List.length_cons, List.length_nil, Nat.zero_add] at zq68_0)
        refine g_cs [4] rfl rfl (by rfl) Try.func20 rfl (by decide) (mat_Matrix_Set.does hq68) ⟨Nat.le_of_ble_eq_true rfl, Nat.le_of_ble_eq_true rfl⟩ ?_; simp only [nrm, nrmw, nrmc, nrme, nrmo, nrml, nrmb, nrmx, Nat.reduceEqDiff, Nat.reduceBEq, Nat.zero_add, Nat.add_zero, Nat.mul_one, List.length_cons, List.length_nil, List.length_map, List.length_set, List.length_replicate, List.drop_zero, List.drop_succ_cons, List.drop_nil, List.take_zero, List.take_succ_cons, List.take_nil, Nat.le_refl, if_true, if_false, Option.any_none, Option.any_some, List.contains_nil, Bool.not_false, Bool.or_true, Bool.true_or, Bool.or_false, Bool.false_or, Bool.and_true, Bool.true_and, Bool.and_self, reduceCtorEq, beq_self_eq_true, List.map_cons, List.map_nil, List.append_nil, List.nil_append, List.filter_cons, List.filter_nil, List.cons_append, Bool.false_eq_true, true_and, and_true, List.getElem_toArray, List.getElem_cons_zero, List.getElem_cons_succ, Nat.reduceAdd, Nat.reduceMul, Nat.reduceLT, Nat.reduceSub, Nat.reduceLeDiff, ← zq68_0]
        refine g_nil (hK _ _ _ (by kernel_rfl) ?_)
        refine k_block ?_
        refine k_seq ?_
        refine wR fun K hK => ?_
        refine g_mv rfl rfl (gT ?_)
        refine g_bin rfl rfl rfl rfl rfl (gT ?_)
        refine g_as rfl rfl (gT ?_)
        refine g_nil (hK _ _ _ ?_)
        refine k_loop ?_
        refine w_wk (σ := [0, 1, 2, 3, 4]) [0, 2, 7, 0, 0, 0, 1, 0, 12, 0, 0, 59, 0] rfl (by decide) ?_; refine gC ?_
        exact gI (ih11 least_3 n_11 h2 h3 made_16 s_17 i_30 f_31 (wrap64 (j_32 + 1)) t_92 t_93 q67.2 h1_0 h1_1 h1_2 q68 r H)
      · have c63b := decide_eq_false c63; try simp only [c63b, nrm]
        refine w_cond rfl (fun h => Bool.noConfusion h) (fun _ => ?_)
        refine w_exit rfl ?_
        refine k_seq ?_
        refine wD fun K hK => ?_
        refine g_mv rfl rfl (gT ?_)
        refine g_mv rfl rfl (gT ?_)
        refine g_mv rfl rfl (gT ?_)
        refine g_mv rfl rfl (gT ?_)
        refine g_mv rfl rfl (gT ?_)
        obtain ⟨c69, H⟩ := it1 H
        obtain ⟨c70, H⟩ := it1 H
        refine g_ixo rfl rfl Try.underlying22 sz35 rfl rfl (by first | assumption | omega) (by first | assumption | omega | (simp only [List.length_set, List.length_replicate] at *; omega)) (gT ?_)
        refine g_ldo rfl rfl ag35 sz35 rfl rfl (by first | assumption | omega | (simp only [List.length_set, List.length_replicate] at *; omega)) (gT ?_)
        refine g_mv rfl rfl (gT ?_)
        refine g_mv rfl rfl (gT ?_)
        refine g_mv rfl rfl (gT ?_)
        refine g_mv rfl rfl (gT ?_)
        obtain ⟨c71, H⟩ := it1 H
        obtain ⟨c72, H⟩ := it1 H
        refine g_ixo rfl rfl Try.underlying22 sz35 rfl rfl (by first | assumption | omega) (by first | assumption | omega | (simp only [List.length_set, List.length_replicate] at *; omega)) (gT ?_)
        refine g_ldo rfl rfl ag35 sz35 rfl rfl (by first | assumption | omega | (simp only [List.length_set, List.length_replicate] at *; omega)) (gT ?_)
        obtain ⟨q73, hq73, H⟩ := bnd H
        refine g_cs [0] rfl rfl (by rfl) Try.func14 rfl (by decide) (soft_Calc_Mul.does hq73) ⟨Nat.le_of_ble_eq_true rfl, Nat.le_of_ble_eq_true rfl⟩ ?_; refine gC ?_
        obtain ⟨q74, hq74, H⟩ := bnd H
        refine g_cs [0] rfl rfl (by rfl) Try.func13 rfl (by decide) (soft_Calc_Sub.does hq74) ⟨Nat.le_of_ble_eq_true rfl, Nat.le_of_ble_eq_true rfl⟩ ?_; refine gC ?_
        refine g_ixo rfl rfl Try.underlying22 sz35 rfl rfl (by first | assumption | omega) (by first | assumption | omega | (simp only [List.length_set, List.length_replicate] at *; omega)) (gT ?_)
        refine g_st rfl rfl sz35 rfl rfl rfl (by rfl) (by simp only [List.length_map, List.length_set, List.length_replicate]; first | assumption | omega) (gU ?_)
        refine g_nil (hK _ _ _ (by kernel_rfl) ?_)
        refine k_block ?_
        refine k_seq ?_
        refine wR fun K hK => ?_
        refine g_mv rfl rfl (gT ?_)
        refine g_bin rfl rfl rfl rfl rfl (gT ?_)
        refine g_as rfl rfl (gT ?_)
        refine g_nil (hK _ _ _ ?_)
        refine k_loop ?_
        refine w_wk (σ := [0, 1, 2, 3, 4]) [0, 2, 7, 0, 0, 0, 1, 0, 12, 61, 0] rfl (by decide) ?_; refine gC ?_
        exact gI (ih10 least_3 n_11 (h2.set i_30.toNat q74.1) h3 made_16 s_17 (wrap64 (i_30 + 1)) t_92 t_93 q74.2 h1_0 h1_1 h1_2 h4 r H)
set_option maxHeartbeats 8000000 in
set_option maxRecDepth 100000 in
theorem solve_Pivot.does {k : Nat} {s0_0 : Int} {a1_0 : Int} {a1_1 : Int} {a1_2 : Int} {l1_3 : List Int} {l2 : List Int} {a3 : Int} {r : (List Int) × Bool × Int × Int} (H : solve_Pivot.f k s0_0 a1_0 a1_1 a1_2 l1_3 l2 a3 = some r) : Do E0 (.fn 25 [.p (some (0, 0)), .a [.i .i64 a1_0, .i .i64 a1_1, .i .i64 a1_2, .r (l1_3.map (V.i .u64)) l1_3.length true], .r (l2.map (V.i .u64)) l2.length true, .i .u64 a3] [.row [.i .u8 s0_0] 0 0 true false none] (.t [.s (some (1, 0)) r.1.length, .b r.2.1, .i .i64 r.2.2.1]) [.row [.i .u8 r.2.2.2] 0 0 true false none, .row (r.1.map (V.i .u64)) 2 1 true true none]) := by
  obtain ⟨ih0, ih1, ih2, ih3, ih4, ih5, ih6, ih7, ih8, ih9, ih10, ih11⟩ := solve_Pivot.does_l (s0_0 := s0_0) (a1_0 := a1_0) (a1_1 := a1_1) (a1_2 := a1_2) (l1_3 := l1_3) (l2 := l2) (a3 := a3) k
  refine fn_wpl Try.func25 rfl (Q := (solve_Pivot.Q s0_0 a1_0 a1_1 a1_2 l1_3 l2 a3 r)) (fun s h => h) ?_
  unfold solve_Pivot.f at H
  simp only [Try.ntmps25, List.length, List.replicate, Nat.reduceAdd, Nat.reduceSub, List.cons_append, List.nil_append]
  refine w_seq ?_
  refine wR fun K hK => ?_
  refine g_box rfl rfl rfl (by rfl) (gU ?_)
  refine g_as rfl rfl (gT ?_)
  refine g_as rfl rfl (gT ?_)
  refine g_as rfl rfl (gT ?_)
  refine g_nil (hK _ _ _ ?_)
  refine k_seq ?_
  refine w_seq ?_
  refine wR fun K hK => ?_
  refine g_fd rfl rfl fa25_0 rfl (gT ?_)
  refine g_ldc rfl rfl ag3 sz3 rfl rfl rfl (gT ?_)
  refine g_as rfl rfl (gT ?_)
  refine g_nil (hK _ _ _ ?_)
  refine k_seq ?_
  refine w_seq ?_
  refine w_seq ?_
  refine wR fun K hK => ?_
  refine g_lda rfl rfl ag25 sz25 rfl rfl (Nat.le_of_ble_eq_true rfl) (gT ?_)
  obtain ⟨q1, hq1, H⟩ := bnd H
  refine g_cs [] rfl rfl (by rfl) Try.func26 rfl (by decide) (mat_Matrix_Check.does hq1) ⟨Nat.le_of_ble_eq_true rfl, Nat.le_of_ble_eq_true rfl⟩ ?_; refine gC ?_
  refine g_bin rfl rfl rfl rfl rfl (gT ?_)
  refine g_mv rfl rfl (gT ?_)
  rcases its H with ⟨c2, H⟩ | ⟨c2, H⟩
  · have c2b := beq_iff_eq.mpr c2; have c2n := bne_eq_false_iff_eq.mpr c2; try simp only [c2b, c2n, nrm]
    refine g_fd rfl rfl fa25_1 rfl (gT ?_)
    refine g_ldc rfl rfl ag3 sz3 rfl rfl rfl (gT ?_)
    refine g_mv rfl rfl (gT ?_)
    refine g_bin rfl rfl rfl rfl rfl (gT ?_)
    refine g_pick rfl rfl rfl (gT ?_)
    refine g_mv rfl rfl (gT ?_)
    rcases its H with ⟨c3, H⟩ | ⟨c3, H⟩
    · have c3b := beq_iff_eq.mpr c3; have c3n := bne_eq_false_iff_eq.mpr c3; try simp only [c3b, c3n, nrm]
      refine g_mv rfl rfl (gT ?_)
      refine g_mv rfl rfl (gT ?_)
      refine g_len_r rfl rfl Try.underlying22 rfl (gT ?_)
      refine g_bin rfl rfl rfl rfl rfl (gT ?_)
      refine g_pick rfl rfl rfl (gT ?_)
      refine g_mv rfl rfl (gT ?_)
      rcases its H with ⟨c4, H⟩ | ⟨c4, H⟩
      · have c4b := beq_iff_eq.mpr c4; have c4n := bne_eq_false_iff_eq.mpr c4; try simp only [c4b, c4n, nrm]
        refine g_mv rfl rfl (gT ?_)
        refine g_bin rfl rfl rfl rfl rfl (gT ?_)
        refine g_pick rfl rfl rfl (gT ?_)
        refine g_nil (hK _ _ _ ?_)
        refine k_wk (σ := [0, 1]) [0, 1, 0, 1, 5, 46] rfl (by decide) rfl ?_; refine gC ?_
        exact gI (ih0 l2 a3 a1_0 (decide (a1_0 > 4)) s0_0 a1_0 a1_1 a1_2 l1_3 r H)
      · have c4b := beq_eq_false_iff_ne.mpr c4; have c4n := bne_iff_ne.mpr c4; try simp only [c4b, c4n, nrm]
        refine g_sk rfl rfl (gT ?_)
        refine g_sk rfl rfl (gT ?_)
        refine g_pick rfl rfl rfl (gT ?_)
        refine g_nil (hK _ _ _ ?_)
        refine k_wk (σ := [0, 1]) [0, 1, 0, 1, 5, 46] rfl (by decide) rfl ?_; refine gC ?_
        exact gI (ih0 l2 a3 a1_0 true s0_0 a1_0 a1_1 a1_2 l1_3 r H)
    · have c3b := beq_eq_false_iff_ne.mpr c3; have c3n := bne_iff_ne.mpr c3; try simp only [c3b, c3n, nrm]
      refine g_sk rfl rfl (gT ?_)
      refine g_sk rfl rfl (gT ?_)
      refine g_sk rfl rfl (gT ?_)
      refine g_sk rfl rfl (gT ?_)
      refine g_pick rfl rfl rfl (gT ?_)
      refine g_mv rfl rfl (gT ?_)
      refine g_sk rfl rfl (gT ?_)
      refine g_sk rfl rfl (gT ?_)
      refine g_pick rfl rfl rfl (gT ?_)
      refine g_nil (hK _ _ _ ?_)
      refine k_wk (σ := [0, 1]) [0, 1, 0, 1, 5, 46] rfl (by decide) rfl ?_; refine gC ?_
      exact gI (ih0 l2 a3 a1_0 true s0_0 a1_0 a1_1 a1_2 l1_3 r H)
  · have c2b := beq_eq_false_iff_ne.mpr c2; have c2n := bne_iff_ne.mpr c2; try simp only [c2b, c2n, nrm]
    refine g_sk rfl rfl (gT ?_)
    refine g_sk rfl rfl (gT ?_)
    refine g_sk rfl rfl (gT ?_)
    refine g_sk rfl rfl (gT ?_)
    refine g_pick rfl rfl rfl (gT ?_)
    refine g_mv rfl rfl (gT ?_)
    refine g_sk rfl rfl (gT ?_)
    refine g_sk rfl rfl (gT ?_)
    refine g_sk rfl rfl (gT ?_)
    refine g_sk rfl rfl (gT ?_)
    refine g_pick rfl rfl rfl (gT ?_)
    refine g_mv rfl rfl (gT ?_)
    refine g_sk rfl rfl (gT ?_)
    refine g_sk rfl rfl (gT ?_)
    refine g_pick rfl rfl rfl (gT ?_)
    refine g_nil (hK _ _ _ ?_)
    refine k_wk (σ := [0, 1]) [0, 1, 0, 1, 5, 46] rfl (by decide) rfl ?_; refine gC ?_
    exact gI (ih0 l2 a3 a1_0 true s0_0 a1_0 a1_1 a1_2 l1_3 r H)

set_option maxHeartbeats 8000000 in
set_option maxRecDepth 100000 in
theorem gimballaw12_in.does {a0 : Int} {a1 : Int} {a2 : Bool} {r : Bool} (H : gimballaw12_in.f a0 a1 a2 = some r) : Do E0 (.fn 12 [.i .i64 a0, .i .i64 a1, .b a2] [] (.b r) []) := by
  refine fn_wpl Try.func12 rfl (Q := (gimballaw12_in.Q a0 a1 a2 r)) (fun s h => h) ?_
  unfold gimballaw12_in.f at H
  simp only [Try.ntmps12, List.length, List.replicate, Nat.reduceAdd, Nat.reduceSub, List.cons_append, List.nil_append]
  refine w_seq ?_
  refine wR fun K hK => ?_
  refine g_as rfl rfl (gT ?_)
  refine g_nil (hK _ _ _ ?_)
  refine k_seq ?_
  refine w_seq ?_
  refine wR fun K hK => ?_
  refine g_mv rfl rfl (gT ?_)
  refine g_mv rfl rfl (gT ?_)
  rcases its H with ⟨c1, H⟩ | ⟨c1, H⟩
  · have c1b : a2 = true := c1; try simp only [c1b, nrm]
    refine g_mv rfl rfl (gT ?_)
    refine g_mv rfl rfl (gT ?_)
    refine g_bin rfl rfl rfl rfl rfl (gT ?_)
    refine g_pick rfl rfl rfl (gT ?_)
    refine g_mv rfl rfl (gT ?_)
    rcases its H with ⟨c2, H⟩ | ⟨c2, H⟩
    · have c2b := decide_eq_true c2; try simp only [c2b, nrm]
      refine g_sk rfl rfl (gT ?_)
      refine g_sk rfl rfl (gT ?_)
      refine g_sk rfl rfl (gT ?_)
      refine g_sk rfl rfl (gT ?_)
      refine g_sk rfl rfl (gT ?_)
      refine g_sk rfl rfl (gT ?_)
      refine g_sk rfl rfl (gT ?_)
      refine g_pick rfl rfl rfl (gT ?_)
      refine g_as rfl rfl (gT ?_)
      refine g_nil (hK _ _ _ ?_)
      refine k_seq ?_
      refine w_ret ?_
      refine fin_wp (τ := []) rfl (by decide) ?_; rw [← Option.some.inj H]; simp only [Try.f12]; exact gF
    · have c2b := decide_eq_false c2; try simp only [c2b, nrm]
      refine g_mv rfl rfl (gT ?_)
      refine g_un rfl rfl rfl rfl (gT ?_)
      refine g_mv rfl rfl (gT ?_)
      refine g_sk rfl rfl (gT ?_)
      refine g_sk rfl rfl (gT ?_)
      refine g_sk rfl rfl (gT ?_)
      refine g_pick rfl rfl rfl (gT ?_)
      refine g_pick rfl rfl rfl (gT ?_)
      refine g_as rfl rfl (gT ?_)
      refine g_nil (hK _ _ _ ?_)
      refine k_seq ?_
      refine w_ret ?_
      refine fin_wp (τ := []) rfl (by decide) ?_; rw [← Option.some.inj H]; simp only [Try.f12]; exact gF
  · have c1b : a2 = false := Bool.eq_false_iff.mpr c1; try simp only [c1b, nrm]
    refine g_sk rfl rfl (gT ?_)
    refine g_sk rfl rfl (gT ?_)
    refine g_sk rfl rfl (gT ?_)
    refine g_pick rfl rfl rfl (gT ?_)
    refine g_mv rfl rfl (gT ?_)
    refine g_mv rfl rfl (gT ?_)
    refine g_un rfl rfl rfl rfl (gT ?_)
    refine g_mv rfl rfl (gT ?_)
    refine g_mv rfl rfl (gT ?_)
    refine g_mv rfl rfl (gT ?_)
    refine g_bin rfl rfl rfl rfl rfl (gT ?_)
    refine g_pick rfl rfl rfl (gT ?_)
    refine g_pick rfl rfl rfl (gT ?_)
    refine g_as rfl rfl (gT ?_)
    refine g_nil (hK _ _ _ ?_)
    refine k_seq ?_
    refine w_ret ?_
    refine fin_wp (τ := []) rfl (by decide) ?_; rw [← Option.some.inj H]; simp only [Try.f12]; exact gF

set_option maxHeartbeats 8000000 in
set_option maxRecDepth 100000 in
theorem gimballaw12_SolveTimes.does_l {a0 : Int} {l1 : List Int} {a2 : Bool} {a3 : Bool} (k : Nat) : (∀ (n_0 : Int) (upper_2 : Bool) (unit_3 : Bool) (h1 : List Int) (h4 : List Int) (t_58 : Bool) (h0_0 : Int) (h0_1 : Int) (h0_2 : Int) (h2 : Int) (h3 : Int) (h5 : List Int) (r : Bool), gimballaw12_SolveTimes.j0 k n_0 upper_2 unit_3 h1 h4 t_58 h0_0 h0_1 h0_2 h2 h3 h5 = some r → kont E0 (gimballaw12_SolveTimes.Q a0 l1 a2 a3 r) (frs (bodyOf Try.f5) [1, 1, 1, 1, 1, 1, 1, 1, 1, 0, 0] []) .normal ⟨[.i .i64 n_0, .u, .b upper_2, .b unit_3, .u, .u, .u, .u, .u, .p (some (0, 0)), .s (some (1, 0)) h1.length, .p (some (2, 0)), .p (some (3, 0)), .s (some (4, 0)) h4.length, .u, .u, .u, .u, .u, .u, .u, .u, .u, .u, .u, .u, .u, .u, .u, .u, .u, .u, .u, .u, .u, .u, .u, .u, .u, .u, .u, .u, .u, .u, .u, .u, .u, .u, .u, .u, .u, .u, .u, .u, .u, .u, .u, .u, .b t_58, .u, .u, .u, .u, .u, .u, .u, .u, .u, .u, .u, .u, .u, .u, .u, .u, .u, .u, .u, .u, .u, .u, .u, .u, .u, .u, .u, .u, .u, .u, .u, .u, .u, .u, .u, .u, .u, .u, .u, .u, .u, .u, .u, .u, .u, .u, .u, .u, .u, .u, .u, .u, .u, .u, .u, .u, .u, .u, .u, .u, .u, .u, .u, .u, .u, .u, .u, .u, .u, .u, .u, .u, .u, .u, .u, .u, .u, .u, .u, .u, .u, .u, .u, .u, .u, .u, .u, .u, .u, .u, .u, .u, .u, .u, .u, .u, .u, .u, .u], ofL [.row [.i .i64 h0_0, .i .i64 h0_1, .i .i64 h0_2, .s (some (5, 0)) h5.length] 0 0 true true none, .row (h1.map (V.i .u64)) 2 1 true true none, .row [.i .u8 h2] 0 0 true true none, .row [.i .u8 h3] 0 0 true true none, .row (h4.map (V.i .u64)) 2 1 true true none, .row (h5.map (V.i .u64)) 2 1 true true none], 6, 0⟩) ∧
    (∀ (n_0 : Int) (upper_2 : Bool) (unit_3 : Bool) (h1 : List Int) (h4 : List Int) (i_15 : Int) (h0_0 : Int) (h0_1 : Int) (h0_2 : Int) (h2 : Int) (h3 : Int) (h5 : List Int) (r : Bool), gimballaw12_SolveTimes.l0 k n_0 upper_2 unit_3 h1 h4 i_15 h0_0 h0_1 h0_2 h2 h3 h5 = some r → wk_ E0 (gimballaw12_SolveTimes.Q a0 l1 a2 a3 r) (frs (bodyOf Try.f5) [1, 1, 1, 1, 1, 1, 1, 1, 1, 1, 0, 1, 0] []) (sub (bodyOf Try.f5) [1, 1, 1, 1, 1, 1, 1, 1, 1, 1, 0, 1, 0]) ⟨[.i .i64 n_0, .u, .b upper_2, .b unit_3, .u, .u, .u, .u, .u, .p (some (0, 0)), .s (some (1, 0)) h1.length, .p (some (2, 0)), .p (some (3, 0)), .s (some (4, 0)) h4.length, .u, .i .i64 i_15, .u, .u, .u, .u, .u, .u, .u, .u, .u, .u, .u, .u, .u, .u, .u, .u, .u, .u, .u, .u, .u, .u, .u, .u, .u, .u, .u, .u, .u, .u, .u, .u, .u, .u, .u, .u, .u, .u, .u, .u, .u, .u, .u, .u, .u, .u, .u, .u, .u, .u, .u, .u, .u, .u, .u, .u, .u, .u, .u, .u, .u, .u, .u, .u, .u, .u, .u, .u, .u, .u, .u, .u, .u, .u, .u, .u, .u, .u, .u, .u, .u, .u, .u, .u, .u, .u, .u, .u, .u, .u, .u, .u, .u, .u, .u, .u, .u, .u, .u, .u, .u, .u, .u, .u, .u, .u, .u, .u, .u, .u, .u, .u, .u, .u, .u, .u, .u, .u, .u, .u, .u, .u, .u, .u, .u, .u, .u, .u, .u, .u, .u, .u, .u, .u, .u, .u, .u, .u, .u, .u, .u, .u], ofL [.row [.i .i64 h0_0, .i .i64 h0_1, .i .i64 h0_2, .s (some (5, 0)) h5.length] 0 0 true true none, .row (h1.map (V.i .u64)) 2 1 true true none, .row [.i .u8 h2] 0 0 true true none, .row [.i .u8 h3] 0 0 true true none, .row (h4.map (V.i .u64)) 2 1 true true none, .row (h5.map (V.i .u64)) 2 1 true true none], 6, 0⟩) ∧
    (∀ (n_0 : Int) (upper_2 : Bool) (unit_3 : Bool) (h1 : List Int) (h4 : List Int) (i_15 : Int) (sum_16 : Int) (h0_0 : Int) (h0_1 : Int) (h0_2 : Int) (h2 : Int) (h3 : Int) (h5 : List Int) (r : Bool), gimballaw12_SolveTimes.j2 k n_0 upper_2 unit_3 h1 h4 i_15 sum_16 h0_0 h0_1 h0_2 h2 h3 h5 = some r → kont E0 (gimballaw12_SolveTimes.Q a0 l1 a2 a3 r) (frs (bodyOf Try.f5) [1, 1, 1, 1, 1, 1, 1, 1, 1, 1, 0, 1, 0, 0, 1, 0, 0, 1, 0, 1] []) .normal ⟨[.i .i64 n_0, .u, .b upper_2, .b unit_3, .u, .u, .u, .u, .u, .p (some (0, 0)), .s (some (1, 0)) h1.length, .p (some (2, 0)), .p (some (3, 0)), .s (some (4, 0)) h4.length, .u, .i .i64 i_15, .i .u64 sum_16, .u, .u, .u, .u, .u, .u, .u, .u, .u, .u, .u, .u, .u, .u, .u, .u, .u, .u, .u, .u, .u, .u, .u, .u, .u, .u, .u, .u, .u, .u, .u, .u, .u, .u, .u, .u, .u, .u, .u, .u, .u, .u, .u, .u, .u, .u, .u, .u, .u, .u, .u, .u, .u, .u, .u, .u, .u, .u, .u, .u, .u, .u, .u, .u, .u, .u, .u, .u, .u, .u, .u, .u, .u, .u, .u, .u, .u, .u, .u, .u, .u, .u, .u, .u, .u, .u, .u, .u, .u, .u, .u, .u, .u, .u, .u, .u, .u, .u, .u, .u, .u, .u, .u, .u, .u, .u, .u, .u, .u, .u, .u, .u, .u, .u, .u, .u, .u, .u, .u, .u, .u, .u, .u, .u, .u, .u, .u, .u, .u, .u, .u, .u, .u, .u, .u, .u, .u, .u, .u, .u, .u], ofL [.row [.i .i64 h0_0, .i .i64 h0_1, .i .i64 h0_2, .s (some (5, 0)) h5.length] 0 0 true true none, .row (h1.map (V.i .u64)) 2 1 true true none, .row [.i .u8 h2] 0 0 true true none, .row [.i .u8 h3] 0 0 true true none, .row (h4.map (V.i .u64)) 2 1 true true none, .row (h5.map (V.i .u64)) 2 1 true true none], 6, 0⟩) ∧
    (∀ (n_0 : Int) (upper_2 : Bool) (unit_3 : Bool) (h1 : List Int) (h4 : List Int) (i_15 : Int) (sum_16 : Int) (j_17 : Int) (h0_0 : Int) (h0_1 : Int) (h0_2 : Int) (h2 : Int) (h3 : Int) (h5 : List Int) (r : Bool), gimballaw12_SolveTimes.l1 k n_0 upper_2 unit_3 h1 h4 i_15 sum_16 j_17 h0_0 h0_1 h0_2 h2 h3 h5 = some r → wk_ E0 (gimballaw12_SolveTimes.Q a0 l1 a2 a3 r) (frs (bodyOf Try.f5) [1, 1, 1, 1, 1, 1, 1, 1, 1, 1, 0, 1, 0, 0, 1, 0, 0, 1, 1, 0, 1, 0] []) (sub (bodyOf Try.f5) [1, 1, 1, 1, 1, 1, 1, 1, 1, 1, 0, 1, 0, 0, 1, 0, 0, 1, 1, 0, 1, 0]) ⟨[.i .i64 n_0, .u, .b upper_2, .b unit_3, .u, .u, .u, .u, .u, .p (some (0, 0)), .s (some (1, 0)) h1.length, .p (some (2, 0)), .p (some (3, 0)), .s (some (4, 0)) h4.length, .u, .i .i64 i_15, .i .u64 sum_16, .i .i64 j_17, .u, .u, .u, .u, .u, .u, .u, .u, .u, .u, .u, .u, .u, .u, .u, .u, .u, .u, .u, .u, .u, .u, .u, .u, .u, .u, .u, .u, .u, .u, .u, .u, .u, .u, .u, .u, .u, .u, .u, .u, .u, .u, .u, .u, .u, .u, .u, .u, .u, .u, .u, .u, .u, .u, .u, .u, .u, .u, .u, .u, .u, .u, .u, .u, .u, .u, .u, .u, .u, .u, .u, .u, .u, .u, .u, .u, .u, .u, .u, .u, .u, .u, .u, .u, .u, .u, .u, .u, .u, .u, .u, .u, .u, .u, .u, .u, .u, .u, .u, .u, .u, .u, .u, .u, .u, .u, .u, .u, .u, .u, .u, .u, .u, .u, .u, .u, .u, .u, .u, .u, .u, .u, .u, .u, .u, .u, .u, .u, .u, .u, .u, .u, .u, .u, .u, .u, .u, .u, .u, .u], ofL [.row [.i .i64 h0_0, .i .i64 h0_1, .i .i64 h0_2, .s (some (5, 0)) h5.length] 0 0 true true none, .row (h1.map (V.i .u64)) 2 1 true true none, .row [.i .u8 h2] 0 0 true true none, .row [.i .u8 h3] 0 0 true true none, .row (h4.map (V.i .u64)) 2 1 true true none, .row (h5.map (V.i .u64)) 2 1 true true none], 6, 0⟩) := by
  induction k with
  | zero => exact ⟨fun _ _ _ _ _ _ _ _ _ _ _ _ r h => by simp [gimballaw12_SolveTimes.j0] at h, fun _ _ _ _ _ _ _ _ _ _ _ _ r h => by simp [gimballaw12_SolveTimes.l0] at h, fun _ _ _ _ _ _ _ _ _ _ _ _ _ r h => by simp [gimballaw12_SolveTimes.j2] at h, fun _ _ _ _ _ _ _ _ _ _ _ _ _ _ r h => by simp [gimballaw12_SolveTimes.l1] at h⟩
  | succ k ih =>
    obtain ⟨ih0, ih1, ih2, ih3⟩ := ih
    refine ⟨?_, ?_, ?_, ?_⟩
    · intro n_0 upper_2 unit_3 h1 h4 t_58 h0_0 h0_1 h0_2 h2 h3 h5 r H
      unfold gimballaw12_SolveTimes.j0 at H
      simp only [bodyOf, Try.f5, frs, sub, if_true, if_false, Nat.one_ne_zero]
      refine k_seq ?_
      rcases its H with ⟨c7, H⟩ | ⟨c7, H⟩
      · have c7b : t_58 = true := c7; try simp only [c7b, nrm]
        refine w_cond rfl (fun _ => ?_) (fun h => Bool.noConfusion h)
        refine w_seq ?_
        refine wR fun K hK => ?_
        refine g_as rfl rfl (gT ?_)
        refine g_nil (hK _ _ _ ?_)
        refine k_seq ?_
        refine w_ret ?_
        refine fin_wp (τ := []) rfl (by decide) ?_; rw [← Option.some.inj H]; simp only [Try.f5]; exact gF
      · have c7b : t_58 = false := Bool.eq_false_iff.mpr c7; try simp only [c7b, nrm]
        refine w_cond rfl (fun h => Bool.noConfusion h) (fun _ => ?_)
        refine w_skip ?_
        refine k_seq ?_
        refine w_seq ?_
        refine w_seq ?_
        refine wR fun K hK => ?_
        refine g_as rfl rfl (gT ?_)
        refine g_nil (hK _ _ _ ?_)
        refine k_seq ?_
        refine w_block ?_
        refine w_wk (σ := [0, 1, 2, 3, 4, 5]) [0, 1, 0, 5, 0, 0, 0, 0, 1] rfl (by decide) ?_; refine gC ?_
        exact gI (ih1 n_0 upper_2 unit_3 h1 h4 0 h0_0 h0_1 h0_2 h2 h3 h5 r H)
    · intro n_0 upper_2 unit_3 h1 h4 i_15 h0_0 h0_1 h0_2 h2 h3 h5 r H
      unfold gimballaw12_SolveTimes.l0 at H
      simp only [bodyOf, Try.f5, frs, sub, if_true, if_false, Nat.one_ne_zero]
      refine w_loop ?_
      refine w_seq ?_
      refine w_seq ?_
      refine wR fun K hK => ?_
      refine g_mv rfl rfl (gT ?_)
      refine g_mv rfl rfl (gT ?_)
      refine g_bin rfl rfl rfl rfl rfl (gT ?_)
      refine g_nil (hK _ _ _ ?_)
      refine k_seq ?_
      rcases its H with ⟨c8, H⟩ | ⟨c8, H⟩
      · have c8b := decide_eq_true c8; try simp only [c8b, nrm]
        refine w_cond rfl (fun _ => ?_) (fun h => Bool.noConfusion h)
        refine w_skip ?_
        refine k_seq ?_
        refine w_seq ?_
        refine w_block ?_
        refine w_seq ?_
        refine wR fun K hK => ?_
        refine g_mv rfl rfl (gT ?_)
        refine g_mv rfl rfl (gT ?_)
        obtain ⟨c9, H⟩ := it1 H
        obtain ⟨c10, H⟩ := it1 H
        refine g_ixo rfl rfl Try.underlying22 sz35 rfl rfl (by first | assumption | omega) (by first | assumption | omega | (simp only [List.length_set, List.length_replicate] at *; omega)) (gT ?_)
        refine g_ldo rfl rfl ag35 sz35 rfl rfl (by first | assumption | omega | (simp only [List.length_set, List.length_replicate] at *; omega)) (gT ?_)
        refine g_as rfl rfl (gT ?_)
        refine g_nil (hK _ _ _ ?_)
        refine k_seq ?_
        refine w_seq ?_
        refine w_seq ?_
        refine wR fun K hK => ?_
        refine g_mv rfl rfl (gT ?_)
        refine g_un rfl rfl rfl rfl (gT ?_)
        refine g_nil (hK _ _ _ ?_)
        refine k_seq ?_
        rcases its H with ⟨c11, H⟩ | ⟨c11, H⟩
        · have c11b : unit_3 = true := c11; try simp only [c11b, nrm]
          refine w_cond rfl (fun h => Bool.noConfusion h) (fun _ => ?_)
          refine w_skip ?_
          refine k_wk (σ := [0, 1, 2, 3, 4, 5]) [0, 1, 0, 5, 0, 0, 0, 0, 1, 0] rfl (by decide) rfl ?_; refine gC ?_
          exact gI (ih2 n_0 upper_2 true h1 h4 i_15 (rd h1 i_15) h0_0 h0_1 h0_2 h2 h3 h5 r H)
        · have c11b : unit_3 = false := Bool.eq_false_iff.mpr c11; try simp only [c11b, nrm]
          refine w_cond rfl (fun _ => ?_) (fun h => Bool.noConfusion h)
          refine wR fun K hK => ?_
          refine g_mv rfl rfl (gT ?_)
          refine g_lda rfl rfl ag25 sz25 rfl rfl (Nat.le_of_ble_eq_true rfl) (gT ?_)
          refine g_mv rfl rfl (gT ?_)
          refine g_mv rfl rfl (gT ?_)
          obtain ⟨q12, hq12, H⟩ := bnd H
          refine g_cs [] rfl rfl (by rfl) Try.func11 rfl (by decide) (mat_Matrix_At.does hq12) ⟨Nat.le_of_ble_eq_true rfl, Nat.le_of_ble_eq_true rfl⟩ ?_; refine gC ?_
          refine g_mv rfl rfl (gT ?_)
          obtain ⟨q13, hq13, H⟩ := bnd H
          refine g_cs [3] rfl rfl (by rfl) Try.func14 rfl (by decide) (soft_Calc_Mul.does hq13) ⟨Nat.le_of_ble_eq_true rfl, Nat.le_of_ble_eq_true rfl⟩ ?_; refine gC ?_
          refine g_as rfl rfl (gT ?_)
          refine g_nil (hK _ _ _ ?_)
          refine k_wk (σ := [0, 1, 2, 3, 4, 5]) [0, 1, 0, 5, 0, 0, 0, 0, 1, 0] rfl (by decide) rfl ?_; refine gC ?_
          exact gI (ih2 n_0 upper_2 false h1 h4 i_15 q13.1 h0_0 h0_1 h0_2 h2 q13.2 h5 r H)
      · have c8b := decide_eq_false c8; try simp only [c8b, nrm]
        refine w_cond rfl (fun h => Bool.noConfusion h) (fun _ => ?_)
        refine w_exit rfl ?_
        refine k_seq ?_
        refine w_seq ?_
        refine wD fun K hK => ?_
        refine g_mv rfl rfl (gT ?_)
        refine g_lda rfl rfl ag25 sz25 rfl rfl (Nat.le_of_ble_eq_true rfl) (gT ?_)
        refine g_mv rfl rfl (gT ?_)
        refine g_mv rfl rfl (gT ?_)
        refine g_mv rfl rfl (gT ?_)
        refine g_bsl (k := .u64) (xs := [0]) rfl rfl Try.underlying22 sz35 zr35 (by decide) rfl rfl rfl (gU ?_)
        obtain ⟨c14, H⟩ := it1 H
        refine g_aps rfl rfl Try.underlying22 Try.underlying22 sz35 by35 zr35 rfl rfl rfl rfl rfl rfl (by unfold limit; omega) (by omega) ?_; refine gN ?_
        obtain ⟨q15, hq15, H⟩ := bnd H
        refine g_cs [2] rfl rfl (by rfl) Try.func23 rfl (by decide) (solve_Trmv.does hq15) ⟨Nat.le_of_ble_eq_true rfl, Nat.le_of_ble_eq_true rfl⟩ ?_; refine gC ?_
        refine g_mv rfl rfl (gT ?_)
        refine g_ext rfl rfl rfl (Nat.le_of_ble_eq_true rfl) (gT ?_)
        refine g_ext rfl rfl rfl (Nat.le_of_ble_eq_true rfl) (gT ?_)
        refine g_as rfl rfl (gT ?_)
        refine g_as rfl rfl (gT ?_)
        refine g_nil (hK _ _ _ (by kernel_rfl) ?_)
        refine k_seq ?_
        refine w_seq ?_
        refine wD fun K hK => ?_
        refine g_mv rfl rfl (gT ?_)
        refine g_lda rfl rfl ag25 sz25 rfl rfl (Nat.le_of_ble_eq_true rfl) (gT ?_)
        refine g_mv rfl rfl (gT ?_)
        refine g_mv rfl rfl (gT ?_)
        refine g_mv rfl rfl (gT ?_)
        refine g_bsl (k := .u64) (xs := [0]) rfl rfl Try.underlying22 sz35 zr35 (by decide) rfl rfl rfl (gU ?_)
        refine g_aps2 rfl rfl Try.underlying22 Try.underlying22 sz35 by35 zr35 rfl rfl rfl rfl rfl rfl (by unfold limit; omega) (by omega) ?_; refine gN ?_
        obtain ⟨q16, hq16, H⟩ := bnd H
        refine g_cs [2] rfl rfl (by rfl) Try.func9 rfl (by decide) (solve_Trsv.does hq16) ⟨Nat.le_of_ble_eq_true rfl, Nat.le_of_ble_eq_true rfl⟩ ?_; refine gC ?_
        refine g_mv rfl rfl (gT ?_)
        refine g_ext rfl rfl rfl (Nat.le_of_ble_eq_true rfl) (gT ?_)
        refine g_ext rfl rfl rfl (Nat.le_of_ble_eq_true rfl) (gT ?_)
        refine g_as rfl rfl (gT ?_)
        refine g_as rfl rfl (gT ?_)
        refine g_nil (hK _ _ _ (by kernel_rfl) ?_)
        refine k_seq ?_
        refine w_seq ?_
        refine wD fun K hK => ?_
        refine g_mv rfl rfl (gT ?_)
        refine g_lda rfl rfl ag25 sz25 rfl rfl (Nat.le_of_ble_eq_true rfl) (gT ?_)
        refine g_mv rfl rfl (gT ?_)
        refine g_bsl (k := .u64) (xs := [0]) rfl rfl Try.underlying22 sz35 zr35 (by decide) rfl rfl rfl (gU ?_)
        refine g_aps2 rfl rfl Try.underlying22 Try.underlying22 sz35 by35 zr35 rfl rfl rfl rfl rfl rfl (by unfold limit; omega) (by omega) ?_; refine gN ?_
        obtain ⟨q17, hq17, H⟩ := bnd H
        refine g_cs [2] rfl rfl (by rfl) Try.func25 rfl (by decide) (solve_Pivot.does hq17) ⟨Nat.le_of_ble_eq_true rfl, Nat.le_of_ble_eq_true rfl⟩ ?_; refine gC ?_
        refine g_mv rfl rfl (gT ?_)
        refine g_ext rfl rfl rfl (Nat.le_of_ble_eq_true rfl) (gT ?_)
        refine g_ext rfl rfl rfl (Nat.le_of_ble_eq_true rfl) (gT ?_)
        refine g_ext rfl rfl rfl (Nat.le_of_ble_eq_true rfl) (gT ?_)
        refine g_as rfl rfl (gT ?_)
        refine g_as rfl rfl (gT ?_)
        refine g_as rfl rfl (gT ?_)
        refine g_nil (hK _ _ _ (by kernel_rfl) ?_)
        refine k_seq ?_
        refine w_seq ?_
        refine wD fun K hK => ?_
        refine g_mv rfl rfl (gT ?_)
        refine g_nc rfl rfl rfl (gT ?_)
        refine g_fd rfl rfl fa31_0 rfl (gT ?_)
        refine g_ldc rfl rfl ag29 sz29 rfl rfl rfl (gT ?_)
        refine g_mv rfl rfl (gT ?_)
        refine g_nc rfl rfl rfl (gT ?_)
        refine g_fd rfl rfl fa31_0 rfl (gT ?_)
        refine g_ldc rfl rfl ag29 sz29 rfl rfl rfl (gT ?_)
        refine g_bin rfl rfl rfl rfl rfl (gT ?_)
        refine g_mv rfl rfl (gT ?_)
        rcases its H with ⟨c18, H⟩ | ⟨c18, H⟩
        · have c18b := beq_iff_eq.mpr c18; have c18n := bne_eq_false_iff_eq.mpr c18; try simp only [c18b, c18n, nrm]
          refine g_mv rfl rfl (gT ?_)
          refine g_bin rfl rfl rfl rfl rfl (gT ?_)
          refine g_pick rfl rfl rfl (gT ?_)
          refine g_mv rfl rfl (gT ?_)
          rcases its H with ⟨c19, H⟩ | ⟨c19, H⟩
          · have c19b := beq_iff_eq.mpr c19; have c19n := bne_eq_false_iff_eq.mpr c19; try simp only [c19b, c19n, nrm]
            refine g_mv rfl rfl (gT ?_)
            refine g_bin rfl rfl rfl rfl rfl (gT ?_)
            refine g_pick rfl rfl rfl (gT ?_)
            refine g_mv rfl rfl (gT ?_)
            rcases its H with ⟨c20, H⟩ | ⟨c20, H⟩
            · have c20b := beq_iff_eq.mpr c20; have c20n := bne_eq_false_iff_eq.mpr c20; try simp only [c20b, c20n, nrm]
              refine g_mv rfl rfl (gT ?_)
              refine g_bin rfl rfl rfl rfl rfl (gT ?_)
              refine g_pick rfl rfl rfl (gT ?_)
              refine g_as rfl rfl (gT ?_)
              refine g_nil (hK _ _ _ (by kernel_rfl) ?_)
              refine k_seq ?_
              refine w_ret ?_
              refine fin_wp (τ := []) rfl (by decide) ?_; rw [← Option.some.inj H]; simp only [Try.f5]; exact gF
            · have c20b := beq_eq_false_iff_ne.mpr c20; have c20n := bne_iff_ne.mpr c20; try simp only [c20b, c20n, nrm]
              refine g_sk rfl rfl (gT ?_)
              refine g_sk rfl rfl (gT ?_)
              refine g_pick rfl rfl rfl (gT ?_)
              refine g_as rfl rfl (gT ?_)
              refine g_nil (hK _ _ _ (by kernel_rfl) ?_)
              refine k_seq ?_
              refine w_ret ?_
              refine fin_wp (τ := []) rfl (by decide) ?_; rw [← Option.some.inj H]; simp only [Try.f5]; exact gF
          · have c19b := beq_eq_false_iff_ne.mpr c19; have c19n := bne_iff_ne.mpr c19; try simp only [c19b, c19n, nrm]
            refine g_sk rfl rfl (gT ?_)
            refine g_sk rfl rfl (gT ?_)
            refine g_pick rfl rfl rfl (gT ?_)
            refine g_mv rfl rfl (gT ?_)
            refine g_sk rfl rfl (gT ?_)
            refine g_sk rfl rfl (gT ?_)
            refine g_pick rfl rfl rfl (gT ?_)
            refine g_as rfl rfl (gT ?_)
            refine g_nil (hK _ _ _ (by kernel_rfl) ?_)
            refine k_seq ?_
            refine w_ret ?_
            refine fin_wp (τ := []) rfl (by decide) ?_; rw [← Option.some.inj H]; simp only [Try.f5]; exact gF
        · have c18b := beq_eq_false_iff_ne.mpr c18; have c18n := bne_iff_ne.mpr c18; try simp only [c18b, c18n, nrm]
          refine g_sk rfl rfl (gT ?_)
          refine g_sk rfl rfl (gT ?_)
          refine g_pick rfl rfl rfl (gT ?_)
          refine g_mv rfl rfl (gT ?_)
          refine g_sk rfl rfl (gT ?_)
          refine g_sk rfl rfl (gT ?_)
          refine g_pick rfl rfl rfl (gT ?_)
          refine g_mv rfl rfl (gT ?_)
          refine g_sk rfl rfl (gT ?_)
          refine g_sk rfl rfl (gT ?_)
          refine g_pick rfl rfl rfl (gT ?_)
          refine g_as rfl rfl (gT ?_)
          refine g_nil (hK _ _ _ (by kernel_rfl) ?_)
          refine k_seq ?_
          refine w_ret ?_
          refine fin_wp (τ := []) rfl (by decide) ?_; rw [← Option.some.inj H]; simp only [Try.f5]; exact gF
    · intro n_0 upper_2 unit_3 h1 h4 i_15 sum_16 h0_0 h0_1 h0_2 h2 h3 h5 r H
      unfold gimballaw12_SolveTimes.j2 at H
      simp only [bodyOf, Try.f5, frs, sub, if_true, if_false, Nat.one_ne_zero]
      refine k_seq ?_
      refine w_seq ?_
      refine w_seq ?_
      refine wR fun K hK => ?_
      refine g_as rfl rfl (gT ?_)
      refine g_nil (hK _ _ _ ?_)
      refine k_seq ?_
      refine w_block ?_
      refine w_wk (σ := [0, 1, 2, 3, 4, 5]) [0, 1, 0, 5, 0, 0, 0, 0, 1, 0, 0] rfl (by decide) ?_; refine gC ?_
      exact gI (ih3 n_0 upper_2 unit_3 h1 h4 i_15 sum_16 0 h0_0 h0_1 h0_2 h2 h3 h5 r H)
    · intro n_0 upper_2 unit_3 h1 h4 i_15 sum_16 j_17 h0_0 h0_1 h0_2 h2 h3 h5 r H
      unfold gimballaw12_SolveTimes.l1 at H
      simp only [bodyOf, Try.f5, frs, sub, if_true, if_false, Nat.one_ne_zero]
      refine w_loop ?_
      refine w_seq ?_
      refine w_seq ?_
      refine wR fun K hK => ?_
      refine g_mv rfl rfl (gT ?_)
      refine g_mv rfl rfl (gT ?_)
      refine g_bin rfl rfl rfl rfl rfl (gT ?_)
      refine g_nil (hK _ _ _ ?_)
      refine k_seq ?_
      rcases its H with ⟨c21, H⟩ | ⟨c21, H⟩
      · have c21b := decide_eq_true c21; try simp only [c21b, nrm]
        refine w_cond rfl (fun _ => ?_) (fun h => Bool.noConfusion h)
        refine w_skip ?_
        refine k_seq ?_
        refine w_seq ?_
        refine w_block ?_
        refine w_seq ?_
        refine wR fun K hK => ?_
        refine g_mv rfl rfl (gT ?_)
        refine g_mv rfl rfl (gT ?_)
        refine g_mv rfl rfl (gT ?_)
        obtain ⟨q22, hq22, H⟩ := bnd H
        refine g_cs [] rfl rfl (by rfl) Try.func12 rfl (by decide) (gimballaw12_in.does hq22) ⟨Nat.le_of_ble_eq_true rfl, Nat.le_of_ble_eq_true rfl⟩ ?_; refine gC ?_
        refine g_nil (hK _ _ _ ?_)
        refine k_seq ?_
        rcases its H with ⟨c23, H⟩ | ⟨c23, H⟩
        · have c23b : q22 = true := c23; try simp only [c23b, nrm]
          refine w_cond rfl (fun _ => ?_) (fun h => Bool.noConfusion h)
          refine wD fun K hK => ?_
          refine g_mv rfl rfl (gT ?_)
          refine g_mv rfl rfl (gT ?_)
          refine g_mv rfl rfl (gT ?_)
          refine g_lda rfl rfl ag25 sz25 rfl rfl (Nat.le_of_ble_eq_true rfl) (gT ?_)
          refine g_mv rfl rfl (gT ?_)
          refine g_mv rfl rfl (gT ?_)
          obtain ⟨q24, hq24, H⟩ := bnd H
          refine g_cs [] rfl rfl (by rfl) Try.func11 rfl (by decide) (mat_Matrix_At.does hq24) ⟨Nat.le_of_ble_eq_true rfl, Nat.le_of_ble_eq_true rfl⟩ ?_; refine gC ?_
          refine g_mv rfl rfl (gT ?_)
          refine g_mv rfl rfl (gT ?_)
          obtain ⟨c25, H⟩ := it1 H
          obtain ⟨c26, H⟩ := it1 H
          refine g_ixo rfl rfl Try.underlying22 sz35 rfl rfl (by first | assumption | omega) (by first | assumption | omega | (simp only [List.length_set, List.length_replicate] at *; omega)) (gT ?_)
          refine g_ldo rfl rfl ag35 sz35 rfl rfl (by first | assumption | omega | (simp only [List.length_set, List.length_replicate] at *; omega)) (gT ?_)
          obtain ⟨q27, hq27, H⟩ := bnd H
          refine g_cs [3] rfl rfl (by rfl) Try.func14 rfl (by decide) (soft_Calc_Mul.does hq27) ⟨Nat.le_of_ble_eq_true rfl, Nat.le_of_ble_eq_true rfl⟩ ?_; refine gC ?_
          obtain ⟨q28, hq28, H⟩ := bnd H
          refine g_cs [3] rfl rfl (by rfl) Try.func24 rfl (by decide) (soft_Calc_Add.does hq28) ⟨Nat.le_of_ble_eq_true rfl, Nat.le_of_ble_eq_true rfl⟩ ?_; refine gC ?_
          refine g_as rfl rfl (gT ?_)
          refine g_nil (hK _ _ _ (by kernel_rfl) ?_)
          refine k_block ?_
          refine k_seq ?_
          refine wR fun K hK => ?_
          refine g_mv rfl rfl (gT ?_)
          refine g_bin rfl rfl rfl rfl rfl (gT ?_)
          refine g_as rfl rfl (gT ?_)
          refine g_nil (hK _ _ _ ?_)
          refine k_loop ?_
          refine w_wk (σ := [0, 1, 2, 3, 4, 5]) [0, 1, 0, 5, 0, 0, 0, 0, 1, 0, 0] rfl (by decide) ?_; refine gC ?_
          exact gI (ih3 n_0 upper_2 unit_3 h1 h4 i_15 q28.1 (wrap64 (j_17 + 1)) h0_0 h0_1 h0_2 h2 q28.2 h5 r H)
        · have c23b : q22 = false := Bool.eq_false_iff.mpr c23; try simp only [c23b, nrm]
          refine w_cond rfl (fun h => Bool.noConfusion h) (fun _ => ?_)
          refine w_skip ?_
          refine k_block ?_
          refine k_seq ?_
          refine wR fun K hK => ?_
          refine g_mv rfl rfl (gT ?_)
          refine g_bin rfl rfl rfl rfl rfl (gT ?_)
          refine g_as rfl rfl (gT ?_)
          refine g_nil (hK _ _ _ ?_)
          refine k_loop ?_
          refine w_wk (σ := [0, 1, 2, 3, 4, 5]) [0, 1, 0, 5, 0, 0, 0, 0, 1, 0, 0] rfl (by decide) ?_; refine gC ?_
          exact gI (ih3 n_0 upper_2 unit_3 h1 h4 i_15 sum_16 (wrap64 (j_17 + 1)) h0_0 h0_1 h0_2 h2 h3 h5 r H)
      · have c21b := decide_eq_false c21; try simp only [c21b, nrm]
        refine w_cond rfl (fun h => Bool.noConfusion h) (fun _ => ?_)
        refine w_exit rfl ?_
        refine k_seq ?_
        refine w_seq ?_
        refine wR fun K hK => ?_
        refine g_mv rfl rfl (gT ?_)
        refine g_mv rfl rfl (gT ?_)
        obtain ⟨c29, H⟩ := it1 H
        obtain ⟨c30, H⟩ := it1 H
        refine g_ixo rfl rfl Try.underlying22 sz35 rfl rfl (by first | assumption | omega) (by first | assumption | omega | (simp only [List.length_set, List.length_replicate] at *; omega)) (gT ?_)
        refine g_ldo rfl rfl ag35 sz35 rfl rfl (by first | assumption | omega | (simp only [List.length_set, List.length_replicate] at *; omega)) (gT ?_)
        refine g_mv rfl rfl (gT ?_)
        refine g_bin rfl rfl rfl rfl rfl (gT ?_)
        refine g_nil (hK _ _ _ ?_)
        refine k_seq ?_
        rcases its H with ⟨c31, H⟩ | ⟨c31, H⟩
        · have c31b := beq_iff_eq.mpr c31; have c31n := bne_eq_false_iff_eq.mpr c31; try simp only [c31b, c31n, nrm]
          refine w_cond rfl (fun h => Bool.noConfusion h) (fun _ => ?_)
          refine w_skip ?_
          refine k_block ?_
          refine k_seq ?_
          refine wR fun K hK => ?_
          refine g_mv rfl rfl (gT ?_)
          refine g_bin rfl rfl rfl rfl rfl (gT ?_)
          refine g_as rfl rfl (gT ?_)
          refine g_nil (hK _ _ _ ?_)
          refine k_loop ?_
          refine w_wk (σ := [0, 1, 2, 3, 4, 5]) [0, 1, 0, 5, 0, 0, 0, 0, 1] rfl (by decide) ?_; refine gC ?_
          exact gI (ih1 n_0 upper_2 unit_3 h1 h4 (wrap64 (i_15 + 1)) h0_0 h0_1 h0_2 h2 h3 h5 r H)
        · have c31b := beq_eq_false_iff_ne.mpr c31; have c31n := bne_iff_ne.mpr c31; try simp only [c31b, c31n, nrm]
          refine w_cond rfl (fun _ => ?_) (fun h => Bool.noConfusion h)
          refine w_seq ?_
          refine wR fun K hK => ?_
          refine g_as rfl rfl (gT ?_)
          refine g_nil (hK _ _ _ ?_)
          refine k_seq ?_
          refine w_ret ?_
          refine fin_wp (τ := []) rfl (by decide) ?_; rw [← Option.some.inj H]; simp only [Try.f5]; exact gF
set_option maxHeartbeats 8000000 in
set_option maxRecDepth 100000 in
theorem gimballaw12_SolveTimes.does {k : Nat} {a0 : Int} {l1 : List Int} {a2 : Bool} {a3 : Bool} {r : Bool} (H : gimballaw12_SolveTimes.f k a0 l1 a2 a3 = some r) : Do E0 (.fn 5 [.i .i64 a0, .r (l1.map (V.i .u64)) l1.length true, .b a2, .b a3] [] (.b r) []) := by
  obtain ⟨ih0, ih1, ih2, ih3⟩ := gimballaw12_SolveTimes.does_l (a0 := a0) (l1 := l1) (a2 := a2) (a3 := a3) k
  refine fn_wpl Try.func5 rfl (Q := (gimballaw12_SolveTimes.Q a0 l1 a2 a3 r)) (fun s h => h) ?_
  unfold gimballaw12_SolveTimes.f at H
  simp only [Try.ntmps5, List.length, List.replicate, Nat.reduceAdd, Nat.reduceSub, List.cons_append, List.nil_append]
  refine w_seq ?_
  refine wR fun K hK => ?_
  refine g_as rfl rfl (gT ?_)
  refine g_nil (hK _ _ _ ?_)
  refine k_seq ?_
  refine w_seq ?_
  refine w_seq ?_
  refine wR fun K hK => ?_
  obtain ⟨q1, hq1, H⟩ := bnd H
  refine g_cs [] rfl rfl (by rfl) Try.func6 rfl (by decide) (gimballaw12_head_ok.does hq1) ⟨Nat.le_of_ble_eq_true rfl, Nat.le_of_ble_eq_true rfl⟩ ?_; refine gC ?_
  refine g_un rfl rfl rfl rfl (gT ?_)
  refine g_nil (hK _ _ _ ?_)
  refine k_seq ?_
  refine w_cond rfl (fun h => Bool.noConfusion h) (fun _ => ?_)
  refine w_skip ?_
  refine k_seq ?_
  refine w_seq ?_
  refine w_seq ?_
  refine wR fun K hK => ?_
  refine g_mv rfl rfl (gT ?_)
  refine g_len_r rfl rfl Try.underlying22 rfl (gT ?_)
  refine g_bin rfl rfl rfl rfl rfl (gT ?_)
  refine g_nil (hK _ _ _ ?_)
  refine k_seq ?_
  rcases its H with ⟨c2, H⟩ | ⟨c2, H⟩
  · have c2b := decide_eq_true c2; try simp only [c2b, nrm]
    refine w_cond rfl (fun _ => ?_) (fun h => Bool.noConfusion h)
    refine w_seq ?_
    refine wR fun K hK => ?_
    refine g_as rfl rfl (gT ?_)
    refine g_nil (hK _ _ _ ?_)
    refine k_seq ?_
    refine w_ret ?_
    refine fin_wp (τ := []) rfl (by decide) ?_; rw [← Option.some.inj H]; simp only [Try.f5]; exact gF
  · have c2b := decide_eq_false c2; try simp only [c2b, nrm]
    refine w_cond rfl (fun h => Bool.noConfusion h) (fun _ => ?_)
    refine w_skip ?_
    refine k_seq ?_
    refine w_seq ?_
    refine wR fun K hK => ?_
    refine g_mv rfl rfl (gT ?_)
    refine g_bin rfl rfl rfl rfl rfl (gT ?_)
    refine g_as rfl rfl (gT ?_)
    refine g_nil (hK _ _ _ ?_)
    refine k_seq ?_
    refine w_seq ?_
    refine wR fun K hK => ?_
    refine g_mv rfl rfl (gT ?_)
    refine g_mv rfl rfl (gT ?_)
    obtain ⟨q3, hq3, H⟩ := bnd H
    refine g_cs [] rfl rfl (by rfl) Try.func7 rfl (by decide) (gimballaw12_made.does hq3) ⟨Nat.le_of_ble_eq_true rfl, Nat.le_of_ble_eq_true rfl⟩ ?_; refine gC ?_
    refine g_alloc rfl rfl zr25 (gU ?_)
    refine g_st rfl rfl sz25 rfl rfl rfl (by rfl) (Nat.le_of_ble_eq_true rfl) (gU ?_)
    refine g_nil (hK _ _ _ ?_)
    refine k_seq ?_
    refine w_seq ?_
    refine wR fun K hK => ?_
    refine g_mv rfl rfl (gT ?_)
    refine g_mv rfl rfl (gT ?_)
    obtain ⟨q4, hq4, H⟩ := bnd H
    refine g_cs [] rfl rfl (by rfl) Try.func8 rfl (by decide) (gimballaw12_list.does hq4) ⟨Nat.le_of_ble_eq_true rfl, Nat.le_of_ble_eq_true rfl⟩ ?_; refine gC ?_
    refine g_as rfl rfl (gT ?_)
    refine g_nil (hK _ _ _ ?_)
    refine k_seq ?_
    refine w_seq ?_
    refine wR fun K hK => ?_
    refine g_bd rfl rfl zr31 Try.underlying31 (pl := [(0, 1)]) (by kernel_rfl) ?_; refine gB ?_
    refine g_box rfl rfl rfl (by rfl) (gU ?_)
    refine g_as rfl rfl (gT ?_)
    refine g_nil (hK _ _ _ ?_)
    refine k_seq ?_
    refine w_seq ?_
    refine wR fun K hK => ?_
    refine g_bd rfl rfl zr31 Try.underlying31 (pl := [(0, 1)]) (by kernel_rfl) ?_; refine gB ?_
    refine g_box rfl rfl rfl (by rfl) (gU ?_)
    refine g_as rfl rfl (gT ?_)
    refine g_nil (hK _ _ _ ?_)
    refine k_seq ?_
    refine w_seq ?_
    refine wR fun K hK => ?_
    refine g_mv rfl rfl (gT ?_)
    refine g_lda rfl rfl ag25 sz25 rfl rfl (Nat.le_of_ble_eq_true rfl) (gT ?_)
    refine g_mv rfl rfl (gT ?_)
    refine g_mv rfl rfl (gT ?_)
    refine g_mv rfl rfl (gT ?_)
    obtain ⟨q5, hq5, H⟩ := bnd H
    refine g_cs [76] rfl rfl (by rfl) Try.func23 rfl (by decide) (solve_Trmv.does hq5) ⟨Nat.le_of_ble_eq_true rfl, Nat.le_of_ble_eq_true rfl⟩ ?_; refine gC ?_
    refine g_mv rfl rfl (gT ?_)
    refine g_ext rfl rfl rfl (Nat.le_of_ble_eq_true rfl) (gT ?_)
    refine g_ext rfl rfl rfl (Nat.le_of_ble_eq_true rfl) (gT ?_)
    refine g_as rfl rfl (gT ?_)
    refine g_as rfl rfl (gT ?_)
    refine g_nil (hK _ _ _ ?_)
    refine k_seq ?_
    refine w_seq ?_
    refine w_seq ?_
    refine wR fun K hK => ?_
    refine g_mv rfl rfl (gT ?_)
    refine g_bin rfl rfl rfl rfl rfl (gT ?_)
    refine g_mv rfl rfl (gT ?_)
    rcases its H with ⟨c6, H⟩ | ⟨c6, H⟩
    · have c6b := beq_iff_eq.mpr c6; have c6n := bne_eq_false_iff_eq.mpr c6; try simp only [c6b, c6n, nrm]
      refine g_mv rfl rfl (gT ?_)
      refine g_len_s rfl rfl Try.underlying22 rfl (gT ?_)
      refine g_mv rfl rfl (gT ?_)
      refine g_bin rfl rfl rfl rfl rfl (gT ?_)
      refine g_pick rfl rfl rfl (gT ?_)
      refine g_nil (hK _ _ _ ?_)
      refine k_wk (σ := [48, 64, 76, 88, 116, 44]) [0, 1, 0, 5, 0, 0, 0, 0, 44] rfl (by decide) rfl ?_; refine gC ?_
      exact gI (ih0 (Go.bits .and .i64 a0 7) a2 a3 q4 q5.1 ((q5.1.length : Int) != (Go.bits .and .i64 a0 7)) q3.1 q3.2.1 q3.2.2.1 q5.2.2 0 q3.2.2.2 r H)
    · have c6b := beq_eq_false_iff_ne.mpr c6; have c6n := bne_iff_ne.mpr c6; try simp only [c6b, c6n, nrm]
      refine g_sk rfl rfl (gT ?_)
      refine g_sk rfl rfl (gT ?_)
      refine g_sk rfl rfl (gT ?_)
      refine g_sk rfl rfl (gT ?_)
      refine g_pick rfl rfl rfl (gT ?_)
      refine g_nil (hK _ _ _ ?_)
      refine k_wk (σ := [48, 64, 76, 88, 116, 44]) [0, 1, 0, 5, 0, 0, 0, 0, 44] rfl (by decide) rfl ?_; refine gC ?_
      exact gI (ih0 (Go.bits .and .i64 a0 7) a2 a3 q4 q5.1 true q3.1 q3.2.1 q3.2.2.1 q5.2.2 0 q3.2.2.2 r H)

end Go.Proofs.Ytnjobojkoaknpaa.F
namespace Go.Proofs.Ytnjobojkoaknpaa.F
open Go Go.RowKit Go.Proofs.YtnjobojkoaknpaaW.PrintWords
open Go.Rk hiding Rd
set_option linter.unusedVariables false
set_option maxRecDepth 100000
def sub64Entry_ : Array Value → Sem Value := fun args => do
  let (x, y, b) ← Extern.MathBitsCarry.three "Sub64" args
  pure (Extern.MathBitsCarry.pair ((x + Extern.MathBitsCarry.m64 - y - b) % Extern.MathBitsCarry.m64) (if x < y + b then 1 else 0))
theorem run_sub64_ {P : Program} (x y b : Nat) (hb : b ≤ 1) (w : World) :
    (sub64Entry_ #[.int .u64 x, .int .u64 y, .int .u64 b]).run P w =
      .ok (.tuple #[.int .u64 (((x + 18446744073709551616 - y - b) % 18446744073709551616 : Nat) : Int), .int .u64 ((if x < y + b then 1 else 0 : Nat) : Int)]) w := by
  have : b = 0 ∨ b = 1 := by omega
  rcases this with rfl | rfl <;> rfl
theorem vs3 {ι : Io} {μ : Mu} {k k' k'' : IntKind} {x y c : Int} {args' : List Value} (h : Vs ι μ [.i k x, .i k' y, .i k'' c] args') : args' = [.int k x, .int k' y, .int k'' c] := by
  obtain ⟨a, l, rfl, ha, h⟩ := h.head
  obtain ⟨b, l, rfl, hb, h⟩ := h.head
  obtain ⟨d, l, rfl, hd, h⟩ := h.head
  rw [h.nil', ha.i_inv, hb.i_inv, hd.i_inv]
theorem vr2 {ι : Io} {μ : Mu} {x y : Int} : VR ι μ (.t [.i .u64 x, .i .u64 y]) (.tuple #[.int .u64 x, .int .u64 y]) :=
  .t (cs := [.int .u64 x, .int .u64 y]) rfl fun j hj => by
    match j, hj with
    | 0, _ => exact .c .i
    | 1, _ => exact .c .i
theorem envOk : EnvOk E0 where
  mixed := by kernel_rfl
  noNG := by
    intro f fn h
    have h0 : (Try.prog.funcs.toList.all fun fn => !(fn.name == "runtime.NumGoroutine")) = true := by kernel_rfl
    have h1 : fn ∈ Try.prog.funcs.toList := by
      have h : Try.prog.funcs[f]? = some fn := h
      exact Array.mem_toList_iff.2 (Array.mem_of_getElem? h)
    have := List.all_eq_true.1 h0 fn h1
    simpa using this
  ext := by
    intro f fn args args' ι μ w v hf hb he hv
    simp only [E0] at he
    split at he
    · rename_i e; subst e
      unfold addX at he
      split at he
      · split at he
        · rename_i hc
          cases he
          obtain ⟨c1, c2, c3, c4⟩ := hc
          rw [vs3 hv]
          refine ⟨_, ?_, vr2⟩
          show (callFunc 51 #[_, _, _]).run Try.prog w = _
          rw [run_callFunc_extern Try.func51 (by kernel_rfl) (by kernel_rfl) (by kernel_rfl) (e := add64Entry) (by kernel_rfl), run_add64 _ _ _ c1 c2 c3 c4]
          rfl
        · cases he
      · cases he
    · split at he
      · rename_i e; subst e
        unfold subX at he
        split at he
        · split at he
          · rename_i x y c hc
            cases he
            obtain ⟨c1, c2, c5, c3, c4⟩ := hc
            rw [vs3 hv]
            obtain ⟨x, rfl⟩ := Int.eq_ofNat_of_zero_le c1
            obtain ⟨y, rfl⟩ := Int.eq_ofNat_of_zero_le c2
            obtain ⟨b, rfl⟩ := Int.eq_ofNat_of_zero_le c3
            have e1 : (((x + 18446744073709551616 - y - b) % 18446744073709551616 : Nat) : Int) = ((x : Int) - y - b) % 18446744073709551616 := by omega
            have e2 : ((if x < y + b then 1 else 0 : Nat) : Int) = if (x : Int) < y + b then 1 else 0 := by split <;> split <;> omega
            rw [← e1, ← e2]
            refine ⟨_, ?_, vr2⟩
            show (callFunc 60 #[_, _, _]).run Try.prog w = _
            rw [run_callFunc_extern Try.func60 (by kernel_rfl) (by kernel_rfl) (by kernel_rfl) (e := sub64Entry_) (by kernel_rfl), run_sub64_ x y b (by omega)]
            rfl
          · cases he
        · cases he
      · cases he
end Go.Proofs.Ytnjobojkoaknpaa.F

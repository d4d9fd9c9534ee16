/- SolveBack: what a triangle of whole numbers, with ones on its diagonal, makes of whole numbers leads back to these, exactly; for every input. -/
import Derived.Test.YtnjobojkoaknpaaDoorTUnit
import Derived.Test.YtnjobojkoaknpaaDoorFx9
import Derived.Test.YtnjobojkoaknpaaDoorFx12
namespace Go.Proofs.YtnjobojkoaknpaaDoor.Pure
open Gim Go Go.RowKit Go.Proofs.YtnjobojkoaknpaaDoor.F Go.Proofs.YtnjobojkoaknpaaDoorW.PrintWords Go.Proofs.YtnjobojkoaknpaaDoorW.PrintLast
set_option linter.unusedVariables false
set_option linter.unusedSectionVars false

theorem head_ok : gimballaw12_head.f 200 = some true := by decide +kernel
theorem head_ev : Ev (fun k => gimballaw12_head.f k) true := Ev.of (fun k => gimballaw12_head.mono k) head_ok
def chk (i : Fin 1024) : Bool := match gimballaw12_SolveBack_1.f 100 ((i.val : Int) - 500) with
  | some a => isWhole ((i.val : Int) - 500) a
  | none => false
theorem all_ok : ∀ i : Fin 1024, chk i = true := by decide +kernel
theorem whole_ev {k : Int} (h1 : -500 ≤ k) (h2 : k ≤ 523) : ∃ a, Is a k ∧ Ev (fun K => gimballaw12_SolveBack_1.f K k) a := by
  have h := all_ok ⟨(k + 500).toNat, by omega⟩
  have e : (((k + 500).toNat : Nat) : Int) - 500 = k := by omega
  unfold chk at h
  simp only [e] at h
  split at h
  · rename_i a ha
    exact ⟨a, isWhole_ok h, Ev.of (fun K => gimballaw12_SolveBack_1.mono k K) ha⟩
  · exact absurd h (by decide)
theorem and7_nat (x : Int) : ∃ n : Nat, Go.bits .and .i64 x 7 = (n : Int) ∧ n ≤ 7 := by
  rw [and7]
  exact ⟨(x % 8).toNat, by omega, by omega⟩
theorem and1023 (x : Int) : Go.bits .and .i64 x 1023 = x % 1024 := i64_and 10 (by decide) x
theorem rd_add {l : List Int} {a : Int} {k : Nat} (h : k < l.length + 1) : rd (l ++ [a]) (k : Int) = if k < l.length then rd l (k : Int) else a := by
  have hl : k < (l ++ [a]).length := by rw [List.length_append]; exact h
  rw [rd_lt hl]
  by_cases c : k < l.length
  · rw [if_pos c, List.getElem_append_left c, rd_lt c]
  · rw [if_neg c, List.getElem_append_right (by omega)]
    simp
theorem is_zero : Isz 0 0 := ⟨⟨by decide, by decide⟩, fin_zero, by rw [val_zero]; rfl⟩
/-- Numbers of a matrix of small whole numbers. -/
def Few (n : Nat) (d : List Int) : Prop := Words (n * n) d ∧ ∀ y : Nat, y < n * n → ∃ w, Isz (rd d (y : Int)) w ∧ 0 ≤ w ∧ w ≤ 7
/-- A list of small whole numbers. -/
def Lot (t : Nat) (v : List Int) : Prop := Words t v ∧ ∀ k : Nat, k < t → ∃ X, Is (rd v (k : Int)) X ∧ -500 ≤ X ∧ X ≤ 523
section
variable {n : Nat} (hn : n ≤ 7)
include hn
theorem compare {v z : List Int} (lv : v.length = n) (lz : z.length = n) (h : ∀ i : Nat, i < n → rd z (i : Int) = rd v (i : Int)) : ∀ m i, i + m = n → Ev (fun K => gimballaw12_SolveBack.l2 K v z n i) true := by
  intro m
  induction m with
  | zero => intro i h1
            refine Ev.succ ?_
            simp only [gimballaw12_SolveBack.l2]
            exact Ev.neg (by omega) (Ev.now _)
  | succ m ih =>
    intro i h1
    have hh := ih (i + 1) (by omega)
    refine Ev.succ ?_
    simp only [gimballaw12_SolveBack.l2]
    rw [w64 (x := (i : Int) + 1) (by omega) (by omega)]
    exact Ev.pos (by omega) (Ev.pos (by omega) (Ev.pos (by omega) (Ev.pos (by omega) (Ev.pos (h i (by omega)) hh))))
theorem final {x2 d v : List Int} {up : Bool} (hd : Few n d) (hv : Lot n v) : Ev (fun K => gimballaw12_SolveBack.l1 K n x2 up v n n n n d) true := by
  have wd := hd.1
  have hA := at_UU (show n ≤ 100 by omega) wd
  obtain ⟨w, hw⟩ := Classical.skolem.mp (fun y : Nat => show ∃ w, y < n * n → Isz (rd d (y : Int)) w ∧ 0 ≤ w ∧ w ≤ 7 from by
    by_cases c : y < n * n
    · obtain ⟨w, h⟩ := hd.2 y c
      exact ⟨w, fun _ => h⟩
    · exact ⟨0, fun h => absurd h c⟩)
  obtain ⟨X, hX⟩ := Classical.skolem.mp (fun k : Nat => show ∃ X, k < n → Is (rd v (k : Int)) X ∧ -500 ≤ X ∧ X ≤ 523 from by
    by_cases c : k < n
    · obtain ⟨X, h⟩ := hv.2 k c
      exact ⟨X, fun _ => h⟩
    · exact ⟨0, fun h => absurd h c⟩)
  have ey := trmv_ev (show n ≤ 100 by omega) wd hv.1 (up := up) (one := true)
  have back := unit_back (n := n) (A := fun i k => at4 n n n d i k) hA (up := up) (W := fun i k => w (i * n + k)) (X := X) hv.1 hn (fun i k hi hk => by
    show Isz (at4 n n n d i k) _ ∧ _
    rw [at_dense wd.1 hi hk]
    exact hw _ (place_lt hi hk)) hX
  have vU : ∀ i, U (vOne n (fun i k => at4 n n n d i k) up true (fun k => rd v (k : Int)) i) := by
    intro i
    unfold vOne
    rw [if_pos rfl]
    exact vSum_U (hA i) (fun k => rd_U hv.1.2 k) _ _ _ (rd_U hv.1.2 i)
  generalize hy : cnt n (vOne n (fun i k => at4 n n n d i k) up true (fun k => rd v (k : Int))) = y at ey back
  have wy : Words n y := by rw [← hy]; exact ⟨cnt_len _ _, cnt_U vU⟩
  have ez := trsvn_ev (show n ≤ 100 by omega) wd (up := up) (one := true) wy (fun j _ h => absurd h.1 (by decide))
  have lz := (nRun_W hA (up := up) (one := true) n 0 y (by omega) wy).1
  have ne : (((nRun n (fun i k => at4 n n n d i k) up true 0 n y).length : Int) != (n : Int)) = false := by rw [lz]; simp
  refine Ev.succ ?_
  simp only [gimballaw12_SolveBack.l1]
  refine Ev.neg (by omega) (Ev.bind ey (Ev.bind ez (Ev.pos rfl (Ev.pos rfl (Ev.succ ?_)))))
  simp only [gimballaw12_SolveBack.j3]
  rw [ne, lz]
  exact Ev.neg (by simp) (compare hn hv.1.1 lz back n 0 (by omega))
theorem l1_ev {x2 d : List Int} {up : Bool} (hx : x2.length ≤ 100) (hd : Few n d) : ∀ m t (v : List Int), t + m = n → Lot t v → Ev (fun K => gimballaw12_SolveBack.l1 K n x2 up v t n n n d) true := by
  intro m
  induction m with
  | zero =>
    intro t v ht hv
    obtain rfl : t = n := by omega
    exact final hn hd hv
  | succ m ih =>
    intro t v ht hv
    have hlen := hv.1.1
    have next : ∀ k : Int, -500 ≤ k → k ≤ 523 → Ev (fun K => (gimballaw12_SolveBack_1.f K k).bind fun t493 => (if v.length < 17592186044416 then (gimballaw12_SolveBack.l1 K n x2 up (v ++ [t493]) ((t : Int) + 1) n n n d) else (none))) true := by
      intro k k1 k2
      obtain ⟨a, ia, ea⟩ := whole_ev k1 k2
      have lot : Lot (t + 1) (v ++ [a]) := by
        refine ⟨⟨by rw [List.length_append, hlen]; rfl, fun y hy => ?_⟩, fun q hq => ?_⟩
        · rcases List.mem_append.mp hy with hy | hy
          · exact hv.1.2 y hy
          · rw [List.mem_singleton.mp hy]; exact ia.1.1
        · rw [rd_add (by omega)]
          by_cases c : q < v.length
          · rw [if_pos c]; exact hv.2 q (by omega)
          · rw [if_neg c]; exact ⟨k, ia, k1, k2⟩
      exact Ev.bind ea (Ev.pos (by omega) (ih (t + 1) _ (by omega) lot))
    refine Ev.succ ?_
    simp only [gimballaw12_SolveBack.l1]
    rw [w64 (x := (t : Int) + 1) (by omega) (by omega)]
    refine Ev.pos (by omega) ?_
    by_cases c : (x2.length : Int) > 0
    · have i0 : 0 ≤ Int.tmod (t : Int) (x2.length : Int) := Int.tmod_nonneg _ (by omega)
      have i1 : Int.tmod (t : Int) (x2.length : Int) < (x2.length : Int) := Int.tmod_lt_of_pos _ c
      refine Ev.pos c (Ev.neg (by omega) (Ev.pos i0 (Ev.pos i1 ?_)))
      clear i0 i1
      generalize rd x2 (Int.tmod (t : Int) (x2.length : Int)) = q
      rw [and1023, w64 (x := q % 1024 - 500) (by omega) (by omega)]
      exact next _ (by omega) (by omega)
    · exact Ev.neg c (next (-500) (by decide) (by decide))
theorem l0_ev {all x2 : List Int} {up : Bool} (ha : all.length ≤ 100) (hx : x2.length ≤ 100) : ∀ m t (d : List Int), t + m = n * n → Few n d → Ev (fun K => gimballaw12_SolveBack.l0 K n all x2 up ((n * n : Nat) : Int) t n n n d) true := by
  have nn : n * n ≤ 49 := Nat.mul_le_mul hn hn
  intro m
  induction m with
  | zero =>
    intro t d ht hd
    refine Ev.succ ?_
    simp only [gimballaw12_SolveBack.l0]
    exact Ev.neg (by omega) (l1_ev hn hx hd n 0 [] (by omega) ⟨⟨rfl, fun y hy => by simp at hy⟩, fun k hk => by omega⟩)
  | succ m ih =>
    intro t d ht hd
    have hlen := hd.1.1
    refine Ev.succ ?_
    simp only [gimballaw12_SolveBack.l0]
    rw [w64 (x := (t : Int) + 1) (by omega) (by omega)]
    refine Ev.pos (by omega) ?_
    by_cases c : (all.length : Int) > 0
    · have i0 : 0 ≤ Int.tmod (t : Int) (all.length : Int) := Int.tmod_nonneg _ (by omega)
      have i1 : Int.tmod (t : Int) (all.length : Int) < (all.length : Int) := Int.tmod_lt_of_pos _ c
      refine Ev.pos c (Ev.neg (by omega) (Ev.pos i0 (Ev.pos i1 ?_)))
      clear i0 i1
      generalize rd all (Int.tmod (t : Int) (all.length : Int)) = q
      rw [and7]
      obtain ⟨a, ia, ea⟩ := whole_ev (k := q % 8) (by omega) (by omega)
      have few : Few n (d.set t a) := by
        refine ⟨hd.1.set _ ia.1.1, fun y hy => ?_⟩
        rw [rd_set (by omega)]
        by_cases e : t = y
        · rw [if_pos e]; exact ⟨q % 8, ia.1, by omega, by omega⟩
        · rw [if_neg e]; exact hd.2 y hy
      exact Ev.bind ea (Ev.pos (by omega) (Ev.pos (by omega) (ih (t + 1) _ (by omega) few)))
    · exact Ev.neg c (ih (t + 1) _ (by omega) hd)
end
theorem SolveBack : gimballaw12_SolveBack.Pure := by
  intro a0 all x2 up _ _ _ _ _ _ _
  apply Ev.rounds
  unfold gimballaw12_SolveBack.f
  refine Ev.bind head_ev (Ev.pos rfl ?_)
  obtain ⟨n, en, hn⟩ := and7_nat a0
  rw [en]
  have out : ∀ {b : Bool}, b = true → Ev (fun K => gimballaw12_SolveBack.j0 K n all x2 up b) true := by
    intro b hb
    subst hb
    refine Ev.succ ?_
    simp only [gimballaw12_SolveBack.j0]
    exact Ev.pos (by simp) (Ev.now _)
  by_cases h1 : (all.length : Int) > 100
  · exact Ev.pos h1 (out rfl)
  refine Ev.neg h1 ?_
  by_cases h2 : (x2.length : Int) > 100
  · exact out (decide_eq_true h2)
  rw [decide_eq_false h2]
  refine Ev.succ ?_
  simp only [gimballaw12_SolveBack.j0]
  refine Ev.neg (by simp) (Ev.call (new_eq (by omega) (by omega)) ?_)
  dsimp only
  rw [List.length_replicate]
  refine l0_ev hn (by omega) (by omega) (n * n) 0 _ (by omega) ⟨Words.zeros _, fun y hy => ⟨0, ?_, by decide, by decide⟩⟩
  have hy2 : y < (List.replicate (n * n) (0 : Int)).length := by rw [List.length_replicate]; exact hy
  rw [rd_lt hy2, List.getElem_replicate]
  exact is_zero
end Go.Proofs.YtnjobojkoaknpaaDoor.Pure

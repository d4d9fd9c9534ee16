/- MatScales: all numbers of a matrix times a power of two are, each, layer 5's product with it, and the flags are those of all of them; for every matrix that the statement makes. -/
import Derived.Test.YtenegelkbfmjkaaTScale
import Derived.Test.YtenegelkbfmjkaaTRes
import Derived.Test.YtenegelkbfmjkaaTClone
import Derived.Test.YtenegelkbfmjkaaTMade
import Derived.Test.YtenegelkbfmjkaaTCheck
import Derived.Test.YtenegelkbfmjkaaFx5
import Derived.Test.YtenegelkbfmjkaaFx10
namespace Go.Proofs.Ytenegelkbfmjkaa.Pure
open Gim Go.RowKit Go.Proofs.Ytenegelkbfmjkaa.F Go.Proofs.YtenegelkbfmjkaaW.PrintWords Go.Proofs.YtenegelkbfmjkaaW.PrintLast
set_option linter.unusedVariables false

theorem head_ok : gimballaw09_head.f 200 = some true := by decide +kernel
theorem head_ev : Ev (fun k => gimballaw09_head.f k) true := Ev.of (fun k => gimballaw09_head.mono k) head_ok

/-- A pattern times a power of two, and the flags, as the program's layer 5 tells. -/
noncomputable def scl (n x : Int) : Int × Int := resOf (fun k => more_Scale.f k x n)
theorem scl_ev {n x : Int} (hx : U x) : Ev (fun k => more_Scale.f k x n) (scl n x) := by
  obtain ⟨r, f, ev, _⟩ := more_Scale_ev hx n
  exact Ev.resE ev
/-- The flags of the first i of some numbers. -/
noncomputable def flagsOf (n : Int) (G : List Int) (i : Nat) : Int := (G.take i).foldl (fun a x => Go.bits .or .u8 a (scl n x).2) 0
theorem flagsOf_succ {n : Int} {G : List Int} {i : Nat} (h : i < G.length) : flagsOf n G (i + 1) = Go.bits .or .u8 (flagsOf n G i) (scl n G[i]).2 := by
  unfold flagsOf
  rw [List.take_succ_eq_append_getElem h, List.foldl_append]
  rfl
/-- Of some numbers the first i are scaled. -/
noncomputable def part1 (n : Int) (G : List Int) (i : Nat) : List Int := (G.take i).map (fun x => (scl n x).1) ++ G.drop i
theorem part1_length {n : Int} {G : List Int} {i : Nat} (h : i ≤ G.length) : (part1 n G i).length = G.length := by
  simp [part1]; omega
theorem part1_get {n : Int} {G : List Int} {i : Nat} (h : i < G.length) : rd (part1 n G i) (i : Int) = G[i] := by
  rw [rd_lt (by rw [part1_length (by omega)]; exact h)]
  unfold part1
  rw [List.getElem_append_right (by simp; omega)]
  simp [show min i G.length = i by omega]
theorem part1_set {n : Int} {G : List Int} {i : Nat} (h : i < G.length) : (part1 n G i).set i (scl n G[i]).1 = part1 n G (i + 1) := by
  apply List.ext_getElem
  · rw [List.length_set, part1_length (by omega), part1_length (by omega)]
  · intro x h1 h2
    rw [List.getElem_set]
    have hx : x < G.length := by rw [part1_length (by omega)] at h2; exact h2
    have get : ∀ j, (hj : j ≤ G.length) → ∀ hh : x < (part1 n G j).length, (part1 n G j)[x] = if x < j then (scl n G[x]).1 else G[x] := by
      intro j hj hh
      simp only [part1]
      by_cases c : x < j
      · rw [if_pos c, List.getElem_append_left (by simp; omega)]
        simp
      · rw [if_neg c, List.getElem_append_right (by simp; omega)]
        simp [show min j G.length = j by omega, show j + (x - j) = x by omega]
    by_cases e : i = x
    · subst e
      rw [if_pos rfl, get (i + 1) (by omega) h2, if_pos (by omega)]
    · rw [if_neg e, get i (by omega) _, get (i + 1) (by omega) h2]
      by_cases c : x < i
      · rw [if_pos c, if_pos (by omega)]
      · rw [if_neg c, if_neg (by omega)]
theorem scale_l0 {r c s n : Int} {G : List Int} (hG : ∀ x ∈ G, U x) (hl : G.length ≤ 1000000) :
    ∀ m i : Nat, G.length - i = m → i ≤ G.length → Ev (fun K => mat_Matrix_Scale.l0 K n (flagsOf n G i) (part1 n G i) (G.length : Int) i r c s) (r, c, s, G.map (fun x => (scl n x).1), flagsOf n G G.length) := by
  intro m
  induction m with
  | zero =>
    intro i h1 h2
    obtain rfl : i = G.length := by omega
    refine Ev.succ ?_
    simp only [mat_Matrix_Scale.l0]
    refine Ev.neg (by omega) ?_
    have e : part1 n G G.length = G.map (fun x => (scl n x).1) := by unfold part1; simp
    rw [e]
    exact Ev.now _
  | succ m ih =>
    intro i h1 h2
    have hi : i < G.length := by omega
    refine Ev.succ ?_
    simp only [mat_Matrix_Scale.l0]
    refine Ev.pos (by omega) (Ev.pos (by omega) (Ev.pos (by rw [part1_length h2]; omega) ?_))
    rw [part1_get hi]
    refine Ev.bind (scl_ev (hG _ (List.getElem_mem hi))) ?_
    rw [w64 (by omega) (by omega), Int.toNat_natCast, part1_set hi, ← flagsOf_succ hi]
    exact ih (i + 1) (by omega) (by omega)
theorem mat_scale_ev {R C : Nat} (hR : R ≤ 100) (hC : C ≤ 100) {s n : Int} (hs : s ≤ 1099511627776) {d : List Int} (hd : ∀ x ∈ d, U x) :
    Ev (fun K => mat_Matrix_Scale.f K R C s d n) ((R : Int), (C : Int), (C : Int), (gat R C (atN R C s d)).map (fun x => (scl n x).1), flagsOf n (gat R C (atN R C s d)) (R * C)) := by
  have hm : R * C ≤ 100 * 100 := Nat.mul_le_mul hR hC
  have hU : ∀ x ∈ gat R C (atN R C s d), U x := gat_U (fun i k => at_U hd _ _)
  have := scale_l0 (r := (R : Int)) (c := (C : Int)) (s := (C : Int)) (n := n) hU (by rw [gat_length]; omega) (R * C) 0 (by rw [gat_length]; omega) (by omega)
  unfold mat_Matrix_Scale.f
  refine Ev.bind (clone_ev (by omega) (by omega) hs d) ?_
  have e1 : part1 n (gat R C (atN R C s d)) 0 = gat R C (atN R C s d) := by unfold part1; simp
  have e2 : flagsOf n (gat R C (atN R C s d)) 0 = 0 := by unfold flagsOf; simp
  rw [e1, e2] at this
  rw [gat_length] at this ⊢
  exact this

section
variable {R C : Nat} (hR : R ≤ 100) (hC : C ≤ 100) {s n : Int} (hs : s ≤ 1099511627776) {d : List Int} (hd : ∀ x ∈ d, U x)
theorem rd_map {G : List Int} {f : Int → Int} {i : Nat} (h : i < G.length) : rd (G.map f) (i : Int) = f G[i] := by
  rw [rd_lt (by simpa using h)]; simp
include hR hC hs hd
theorem law_l1 {i : Nat} (hi : i < R)
    (hk : Ev (fun K => gimballaw09_MatScales.l0 K n (flagsOf n (gat R C (atN R C s d)) (R * C)) (flagsOf n (gat R C (atN R C s d)) ((i + 1) * C)) ((i : Int) + 1) R C s d R C C ((gat R C (atN R C s d)).map (fun x => (scl n x).1))) true) :
    ∀ m k : Nat, C - k = m → k ≤ C → Ev (fun K => gimballaw09_MatScales.l1 K n (flagsOf n (gat R C (atN R C s d)) (R * C)) (flagsOf n (gat R C (atN R C s d)) (i * C + k)) i k R C s d R C C ((gat R C (atN R C s d)).map (fun x => (scl n x).1))) true := by
  intro m
  induction m with
  | zero =>
    intro k h1 h2
    obtain rfl : k = C := by omega
    refine Ev.succ ?_
    simp only [gimballaw09_MatScales.l1]
    refine Ev.neg (by omega) ?_
    rw [w64 (by omega) (by omega), row_end]
    exact hk
  | succ m ih =>
    intro k h1 h2
    have hkC : k < C := by omega
    have hp := place_lt hi hkC
    have hl : i * C + k < (gat R C (atN R C s d)).length := by rw [gat_length]; exact hp
    have hg : (gat R C (atN R C s d))[i * C + k] = at4 R C s d i k := by rw [← rd_lt hl, rd_gat hi hkC]; rfl
    refine Ev.succ ?_
    simp only [gimballaw09_MatScales.l1]
    refine Ev.pos (by omega) (Ev.call (at_eq ⟨by omega, by omega, hs⟩ d i k) (Ev.bind (scl_ev (at_U hd _ _)) (Ev.call (at_eq (Sm.nat (by omega) (by omega)) _ i k) (Ev.pos ?_ ?_))))
    · rw [at_dense (by rw [List.length_map, gat_length]) hi hkC, rd_map hl, hg]
    · have := ih (k + 1) (by omega) (by omega)
      rw [← Nat.add_assoc, flagsOf_succ hl, hg] at this
      rw [w64 (by omega) (by omega)]
      exact this
theorem law_l0 : ∀ m i : Nat, R - i = m → i ≤ R → Ev (fun K => gimballaw09_MatScales.l0 K n (flagsOf n (gat R C (atN R C s d)) (R * C)) (flagsOf n (gat R C (atN R C s d)) (i * C)) i R C s d R C C ((gat R C (atN R C s d)).map (fun x => (scl n x).1))) true := by
  intro m
  induction m with
  | zero =>
    intro i h1 h2
    obtain rfl : i = R := by omega
    refine Ev.succ ?_
    simp only [gimballaw09_MatScales.l0]
    refine Ev.neg (by omega) (Ev.pos trivial (Ev.pos trivial (Ev.pos trivial (Ev.bind (check_dense (by omega) (by omega) (by rw [List.length_map, gat_length])) ?_))))
    exact Ev.ofEq rfl
  | succ m ih =>
    intro i h1 h2
    refine Ev.succ ?_
    simp only [gimballaw09_MatScales.l0]
    refine Ev.pos (by omega) ?_
    have := law_l1 hR hC hs hd (i := i) (by omega) (ih (i + 1) (by omega) (by omega)) C 0 (by omega) (by omega)
    exact this
end
theorem MatScales : gimballaw09_MatScales.Pure := by
  intro a0 a1 a2 l3 a4 w0 w1 w2 _ _ wl w4
  apply Ev.rounds
  unfold gimballaw09_MatScales.f
  refine Ev.bind head_ev (Ev.pos rfl ?_)
  by_cases hl : (l3.length : Int) > 100
  · exact Ev.pos hl (Ev.now _)
  · refine Ev.neg hl ?_
    have hU : ∀ x ∈ l3, U x := fun x hx => U_wf (wl x hx)
    obtain ⟨R, C, S, L, ev, hR, hC, hCS, hS, hL, eR, eC⟩ := made_ev a0 a1 a2 hU
    refine Ev.bind ev (Ev.bind (mat_scale_ev (s := (S : Int)) (by omega) (by omega) (by omega) hL.2) ?_)
    have := law_l0 (R := R) (C := C) (by omega) (by omega) (s := S) (n := a4) (by omega) hL.2 R 0 (by omega) (by omega)
    have e2 : flagsOf a4 (gat R C (atN R C S L)) (0 * C) = 0 := by unfold flagsOf; simp
    rw [e2] at this
    exact this
end Go.Proofs.Ytenegelkbfmjkaa.Pure

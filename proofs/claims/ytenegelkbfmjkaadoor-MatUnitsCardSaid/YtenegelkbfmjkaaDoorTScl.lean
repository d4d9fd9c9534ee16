/- Matrices times a power of two. -/
import Derived.Test.YtenegelkbfmjkaaDoorTScale
import Derived.Test.YtenegelkbfmjkaaDoorTRes
import Derived.Test.YtenegelkbfmjkaaDoorTClone
import Derived.Test.YtenegelkbfmjkaaDoorFx5
namespace Gim
open Go.RowKit Go.Proofs.YtenegelkbfmjkaaDoor.F Go.Proofs.YtenegelkbfmjkaaDoorW.PrintWords Go.Proofs.YtenegelkbfmjkaaDoorW.PrintLast
set_option linter.unusedVariables false

/-- A pattern times a power of two, and the flags, as the program's layer 5 tells. -/
noncomputable def scl (n x : Int) : Int × Int := resOf (fun k => more_Scale.f k x n)
theorem scl_ev {n x : Int} (hx : U x) : Ev (fun k => more_Scale.f k x n) (scl n x) := by
  obtain ⟨r, f, ev, _⟩ := more_Scale_ev hx n
  exact Ev.resE ev
/-- The flags of the first i of some numbers. -/
noncomputable def flagsOf (n : Int) (G : List Int) (i : Nat) : Int := (G.take i).foldl (fun a x => Go.bits .or .u8 a (scl n x).2) 0
theorem flagsOf_succ {n : Int} {G : List Int} {i : Nat} (h : i < G.length) : flagsOf n G (i + 1) = Go.bits .or .u8 (flagsOf n G i) (scl n G[i]).2 := by
  unfold flagsOf
  rw [List.take_succ_eq_append_getElem h, List.foldl_append]
  rfl
/-- Of some numbers the first i are scaled. -/
noncomputable def part1 (n : Int) (G : List Int) (i : Nat) : List Int := (G.take i).map (fun x => (scl n x).1) ++ G.drop i
theorem part1_length {n : Int} {G : List Int} {i : Nat} (h : i ≤ G.length) : (part1 n G i).length = G.length := by
  simp [part1]; omega
theorem part1_get {n : Int} {G : List Int} {i : Nat} (h : i < G.length) : rd (part1 n G i) (i : Int) = G[i] := by
  rw [rd_lt (by rw [part1_length (by omega)]; exact h)]
  unfold part1
  rw [List.getElem_append_right (by simp; omega)]
  simp [show min i G.length = i by omega]
theorem part1_set {n : Int} {G : List Int} {i : Nat} (h : i < G.length) : (part1 n G i).set i (scl n G[i]).1 = part1 n G (i + 1) := by
  apply List.ext_getElem
  · rw [List.length_set, part1_length (by omega), part1_length (by omega)]
  · intro x h1 h2
    rw [List.getElem_set]
    have hx : x < G.length := by rw [part1_length (by omega)] at h2; exact h2
    have get : ∀ j, (hj : j ≤ G.length) → ∀ hh : x < (part1 n G j).length, (part1 n G j)[x] = if x < j then (scl n G[x]).1 else G[x] := by
      intro j hj hh
      simp only [part1]
      by_cases c : x < j
      · rw [if_pos c, List.getElem_append_left (by simp; omega)]
        simp
      · rw [if_neg c, List.getElem_append_right (by simp; omega)]
        simp [show min j G.length = j by omega, show j + (x - j) = x by omega]
    by_cases e : i = x
    · subst e
      rw [if_pos rfl, get (i + 1) (by omega) h2, if_pos (by omega)]
    · rw [if_neg e, get i (by omega) _, get (i + 1) (by omega) h2]
      by_cases c : x < i
      · rw [if_pos c, if_pos (by omega)]
      · rw [if_neg c, if_neg (by omega)]
theorem scale_l0 {r c s n : Int} {G : List Int} (hG : ∀ x ∈ G, U x) (hl : G.length ≤ 1000000) :
    ∀ m i : Nat, G.length - i = m → i ≤ G.length → Ev (fun K => mat_Matrix_Scale.l0 K n (flagsOf n G i) (part1 n G i) (G.length : Int) i r c s) (r, c, s, G.map (fun x => (scl n x).1), flagsOf n G G.length) := by
  intro m
  induction m with
  | zero =>
    intro i h1 h2
    obtain rfl : i = G.length := by omega
    refine Ev.succ ?_
    simp only [mat_Matrix_Scale.l0]
    refine Ev.neg (by omega) ?_
    have e : part1 n G G.length = G.map (fun x => (scl n x).1) := by unfold part1; simp
    rw [e]
    exact Ev.now _
  | succ m ih =>
    intro i h1 h2
    have hi : i < G.length := by omega
    refine Ev.succ ?_
    simp only [mat_Matrix_Scale.l0]
    refine Ev.pos (by omega) (Ev.pos (by omega) (Ev.pos (by rw [part1_length h2]; omega) ?_))
    rw [part1_get hi]
    refine Ev.bind (scl_ev (hG _ (List.getElem_mem hi))) ?_
    rw [w64 (by omega) (by omega), Int.toNat_natCast, part1_set hi, ← flagsOf_succ hi]
    exact ih (i + 1) (by omega) (by omega)
theorem mat_scale_ev {R C : Nat} (hR : R ≤ 100) (hC : C ≤ 100) {s n : Int} (hs : s ≤ 1099511627776) {d : List Int} (hd : ∀ x ∈ d, U x) :
    Ev (fun K => mat_Matrix_Scale.f K R C s d n) ((R : Int), (C : Int), (C : Int), (gat R C (atN R C s d)).map (fun x => (scl n x).1), flagsOf n (gat R C (atN R C s d)) (R * C)) := by
  have hm : R * C ≤ 100 * 100 := Nat.mul_le_mul hR hC
  have hU : ∀ x ∈ gat R C (atN R C s d), U x := gat_U (fun i k => at_U hd _ _)
  have := scale_l0 (r := (R : Int)) (c := (C : Int)) (s := (C : Int)) (n := n) hU (by rw [gat_length]; omega) (R * C) 0 (by rw [gat_length]; omega) (by omega)
  unfold mat_Matrix_Scale.f
  refine Ev.bind (clone_ev (by omega) (by omega) hs d) ?_
  have e1 : part1 n (gat R C (atN R C s d)) 0 = gat R C (atN R C s d) := by unfold part1; simp
  have e2 : flagsOf n (gat R C (atN R C s d)) 0 = 0 := by unfold flagsOf; simp
  rw [e1, e2] at this
  rw [gat_length] at this ⊢
  exact this

theorem rd_map {G : List Int} {f : Int → Int} {i : Nat} (h : i < G.length) : rd (G.map f) (i : Int) = f G[i] := by
  rw [rd_lt (by simpa using h)]; simp
end Gim

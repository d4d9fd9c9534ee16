/- Matrices as numbers in rows: what stands where, and the list that comes of filling one row by row. -/
import Derived.Test.YtnjobojkoaknpaaTWord
import Derived.Test.YtnjobojkoaknpaaFx2
import Derived.Test.YtnjobojkoaknpaaFx10
namespace Gim
open Go Go.RowKit Go.Proofs.YtnjobojkoaknpaaW.PrintWords Go.Proofs.YtnjobojkoaknpaaW.PrintLast Go.Proofs.YtnjobojkoaknpaaW.PrintMore Go.Proofs.Ytnjobojkoaknpaa.F
set_option linter.unusedVariables false

/-- There is such a place. -/
def inB (r c s : Int) (d : List Int) (i k : Int) : Prop := 0 ≤ i ∧ i < r ∧ 0 ≤ k ∧ k < c ∧ 0 ≤ s ∧ i * s + k < (d.length : Int)
instance (r c s : Int) (d : List Int) (i k : Int) : Decidable (inB r c s d i k) := by unfold inB; exact inferInstance
/-- What stands there; of what isn't there: no number. -/
def at4 (r c s : Int) (d : List Int) (i k : Int) : Int := if inB r c s d i k then rd d (i * s + k) else 9221120237041090560
def set4 (r c s : Int) (d : List Int) (i k v : Int) : List Int := if inB r c s d i k then d.set (i * s + k).toNat v else d
/-- Sizes at which no index goes beyond a word. -/
def Sm (r c s : Int) : Prop := r ≤ 4096 ∧ c ≤ 4096 ∧ s ≤ 1099511627776

theorem idx_bound {i k r c s : Int} (h : Sm r c s) (h0 : 0 ≤ i) (h1 : i < r) (h2 : 0 ≤ k) (h3 : k < c) (h4 : 0 ≤ s) :
    wrap64 (i * s) = i * s ∧ wrap64 (wrap64 (i * s) + k) = i * s + k ∧ 0 ≤ i * s + k ∧ 0 ≤ i * s ∧ i * s + k ≤ 4503599627374592 := by
  obtain ⟨ha, hb, hc⟩ := h
  obtain ⟨b0, b1⟩ := mul_bound h0 h4 (show i ≤ 4096 by omega) hc
  have e : wrap64 (i * s) = i * s := w64 (by omega) (by omega)
  rw [e]
  exact ⟨rfl, w64 (by omega) (by omega), by omega, b0, by omega⟩
theorem in_eq {r c s : Int} (h : Sm r c s) (d : List Int) (i k : Int) : mat_Matrix_in.f r c s d i k = some (decide (inB r c s d i k)) := by
  unfold mat_Matrix_in.f
  by_cases h0 : i ≥ 0
  · rw [if_pos h0]
    by_cases h1 : i < r
    · rw [if_pos h1]
      by_cases h2 : k ≥ 0
      · rw [if_pos h2]
        by_cases h3 : k < c
        · rw [if_pos h3]
          by_cases h4 : s ≥ 0
          · rw [if_pos h4, (idx_bound h h0 h1 h2 h3 h4).2.1]
            congr 1
            rw [decide_eq_decide]
            exact ⟨fun h5 => ⟨h0, h1, h2, h3, h4, h5⟩, fun h5 => h5.2.2.2.2.2⟩
          · rw [if_neg h4, decide_eq_false (show ¬ inB r c s d i k from fun hb => h4 hb.2.2.2.2.1)]
        · rw [if_neg h3, decide_eq_false (show ¬ inB r c s d i k from fun hb => h3 hb.2.2.2.1)]
      · rw [if_neg h2, decide_eq_false (show ¬ inB r c s d i k from fun hb => h2 hb.2.2.1)]
    · rw [if_neg h1, decide_eq_false (show ¬ inB r c s d i k from fun hb => h1 hb.2.1)]
  · rw [if_neg h0, decide_eq_false (show ¬ inB r c s d i k from fun hb => h0 hb.1)]
theorem at_eq {r c s : Int} (h : Sm r c s) (d : List Int) (i k : Int) : mat_Matrix_At.f r c s d i k = some (at4 r c s d i k) := by
  unfold mat_Matrix_At.f at4
  rw [in_eq h]
  simp only [Option.bind_some]
  by_cases hb : inB r c s d i k
  · obtain ⟨h0, h1, h2, h3, h4, h5⟩ := id hb
    obtain ⟨e1, e2, e3, e4, e5⟩ := idx_bound h h0 h1 h2 h3 h4
    rw [if_pos (decide_eq_true hb), e2, if_pos e3, if_pos h5, if_pos hb]
  · rw [if_neg (by simpa using hb), if_neg hb]
theorem set_eq {r c s : Int} (h : Sm r c s) (d : List Int) (i k v : Int) : mat_Matrix_Set.f r c s d i k v = some (set4 r c s d i k v) := by
  unfold mat_Matrix_Set.f set4
  rw [in_eq h]
  simp only [Option.bind_some]
  by_cases hb : inB r c s d i k
  · obtain ⟨h0, h1, h2, h3, h4, h5⟩ := id hb
    obtain ⟨e1, e2, e3, e4, e5⟩ := idx_bound h h0 h1 h2 h3 h4
    rw [if_pos (decide_eq_true hb), e2, if_pos e3, if_pos h5, if_pos hb]
  · rw [if_neg (by simpa using hb), if_neg hb]
theorem new_eq {R C : Nat} (hR : R ≤ 4096) (hC : C ≤ 4096) : mat_New.f R C = some ((R : Int), (C : Int), (C : Int), List.replicate (R * C) 0) := by
  have hm : R * C ≤ 4096 * 4096 := Nat.mul_le_mul hR hC
  have e : wrap64 ((R : Int) * (C : Int)) = ((R * C : Nat) : Int) := by rw [← Int.natCast_mul]; exact w64 (by omega) (by omega)
  unfold mat_New.f
  rw [if_neg (by omega), if_neg (by omega), if_neg (by omega), if_neg (by omega), e, if_pos (by omega), if_pos (by omega)]
  rfl
theorem new_none {r c : Int} (h : r < 0 ∨ c < 0 ∨ 4096 < r ∨ 4096 < c) : mat_New.f r c = some (0, 0, 0, []) := by
  unfold mat_New.f
  by_cases h0 : r < 0
  · rw [if_pos h0]
  · rw [if_neg h0]
    by_cases h1 : c < 0
    · rw [if_pos h1]
    · rw [if_neg h1]
      by_cases h2 : r > 4096
      · rw [if_pos h2]
      · rw [if_neg h2, if_pos (by omega)]

theorem U_wf {a : Int} (h : (Lit.int .u64 a).wf = true) : U a := by
  simp [Lit.wf, IntKind.min, IntKind.max, IntKind.signed, IntKind.bits] at h
  unfold U; omega
theorem rd_set {l : List Int} {n m : Nat} {v : Int} (h : n < l.length) : rd (l.set n v) (m : Int) = if n = m then v else rd l m := by
  unfold rd
  simp only [Int.toNat_natCast, List.getD_eq_getElem?_getD, List.getElem?_set]
  by_cases e : n = m
  · subst e; simp [h]
  · simp [e]
theorem rd_lt {l : List Int} {n : Nat} (h : n < l.length) : rd l (n : Int) = l[n] := by
  unfold rd; simp [List.getD_eq_getElem?_getD, h]
theorem rd_mem {l : List Int} {i : Int} (h0 : 0 ≤ i) (h : i < (l.length : Int)) : rd l i ∈ l := by
  obtain ⟨n, rfl⟩ := Int.eq_ofNat_of_zero_le h0
  rw [rd_lt (by omega)]; exact List.getElem_mem _

/-- The numbers of a matrix of R rows and C columns, row by row. -/
def gat (R C : Nat) (g : Nat → Nat → Int) : List Int := (List.range (R * C)).map fun x => g (x / C) (x % C)
/-- The same, of which the first n stand already. -/
def part (R C : Nat) (g : Nat → Nat → Int) (n : Nat) : List Int := (List.range (R * C)).map fun x => if x < n then g (x / C) (x % C) else 0
theorem gat_length {R C : Nat} {g : Nat → Nat → Int} : (gat R C g).length = R * C := by simp [gat]
theorem part_length {R C n : Nat} {g : Nat → Nat → Int} : (part R C g n).length = R * C := by simp [part]
theorem part_zero {R C : Nat} {g : Nat → Nat → Int} : part R C g 0 = List.replicate (R * C) 0 := by
  apply List.ext_getElem
  · simp [part]
  · intro i h1 h2; simp [part]
theorem part_full {R C : Nat} {g : Nat → Nat → Int} : part R C g (R * C) = gat R C g := by
  apply List.ext_getElem
  · simp [part, gat]
  · intro i h1 h2
    have : i < R * C := by simpa [part] using h1
    simp [part, gat, this]
theorem place_lt {R C i k : Nat} (hi : i < R) (hk : k < C) : i * C + k < R * C := by
  have : (i + 1) * C ≤ R * C := Nat.mul_le_mul_right C hi
  rw [Nat.add_mul] at this; omega
theorem place_div {C i k : Nat} (hk : k < C) : (i * C + k) / C = i := by
  rw [Nat.mul_comm, Nat.mul_add_div (by omega), Nat.div_eq_of_lt hk, Nat.add_zero]
theorem place_mod {C i k : Nat} (hk : k < C) : (i * C + k) % C = k := by
  rw [Nat.mul_comm, Nat.mul_add_mod, Nat.mod_eq_of_lt hk]
theorem part_set {R C i k : Nat} {g : Nat → Nat → Int} (hi : i < R) (hk : k < C) : (part R C g (i * C + k)).set (i * C + k) (g i k) = part R C g (i * C + k + 1) := by
  apply List.ext_getElem
  · simp [part]
  · intro x h1 h2
    simp only [List.getElem_set, part, List.getElem_map, List.getElem_range]
    by_cases e : i * C + k = x
    · subst e
      rw [if_pos rfl, if_pos (by omega), place_div hk, place_mod hk]
    · rw [if_neg e]
      by_cases e2 : x < i * C + k
      · rw [if_pos e2, if_pos (by omega)]
      · rw [if_neg e2, if_neg (by omega)]
theorem inB_dense {R C : Nat} {d : List Int} (hd : d.length = R * C) {i k : Nat} (hi : i < R) (hk : k < C) : inB R C C d i k := by
  have := place_lt hi hk
  refine ⟨by omega, by omega, by omega, by omega, by omega, ?_⟩
  rw [hd, ← Int.natCast_mul, ← Int.natCast_add]; omega
theorem set_part {R C i k : Nat} {g : Nat → Nat → Int} (hi : i < R) (hk : k < C) : set4 R C C (part R C g (i * C + k)) i k (g i k) = part R C g (i * C + k + 1) := by
  unfold set4
  rw [if_pos (inB_dense part_length hi hk)]
  have e : ((i : Int) * (C : Int) + (k : Int)).toNat = i * C + k := by rw [← Int.natCast_mul, ← Int.natCast_add]; rfl
  rw [e]; exact part_set hi hk
theorem at_dense {R C : Nat} {d : List Int} (hd : d.length = R * C) {i k : Nat} (hi : i < R) (hk : k < C) : at4 R C C d i k = rd d ((i * C + k : Nat) : Int) := by
  unfold at4
  rw [if_pos (inB_dense hd hi hk)]; push_cast; rfl
theorem rd_gat {R C i k : Nat} {g : Nat → Nat → Int} (hi : i < R) (hk : k < C) : rd (gat R C g) ((i * C + k : Nat) : Int) = g i k := by
  have := place_lt hi hk
  rw [rd_lt (by rw [gat_length]; exact this)]
  simp [gat, place_div hk, place_mod hk]
theorem at_gat {R C i k : Nat} {g : Nat → Nat → Int} (hi : i < R) (hk : k < C) : at4 R C C (gat R C g) i k = g i k := by
  rw [at_dense gat_length hi hk, rd_gat hi hk]
theorem gat_congr {R C : Nat} {g g' : Nat → Nat → Int} (h : ∀ i k, i < R → k < C → g i k = g' i k) : gat R C g = gat R C g' := by
  unfold gat
  apply List.map_congr_left
  intro x hx
  have hx := List.mem_range.mp hx
  by_cases hC : C = 0
  · subst hC; simp at hx
  · exact h _ _ (Nat.div_lt_of_lt_mul (by rw [Nat.mul_comm]; exact hx)) (Nat.mod_lt _ (by omega))
theorem row_end {i C : Nat} : i * C + C = (i + 1) * C := by rw [Nat.add_mul]; omega
theorem at_out {r c s : Int} {d : List Int} {i k : Int} (h : ¬ inB r c s d i k) : at4 r c s d i k = 9221120237041090560 := if_neg h
theorem Sm.nat {R C : Nat} (hR : R ≤ 4096) (hC : C ≤ 4096) : Sm R C C := ⟨by omega, by omega, by omega⟩
theorem at_U {r c s : Int} {d : List Int} (hd : ∀ x ∈ d, U x) (i k : Int) : U (at4 r c s d i k) := by
  unfold at4
  split
  · rename_i h
    obtain ⟨h0, h1, h2, h3, h4, h5⟩ := h
    have := Int.mul_nonneg h0 h4
    exact hd _ (rd_mem (by omega) h5)
  · exact ⟨by decide, by decide⟩
theorem gat_U {R C : Nat} {g : Nat → Nat → Int} (h : ∀ i k, U (g i k)) : ∀ x ∈ gat R C g, U x := by
  intro x hx
  unfold gat at hx
  obtain ⟨y, _, rfl⟩ := List.mem_map.mp hx
  exact h _ _
end Gim

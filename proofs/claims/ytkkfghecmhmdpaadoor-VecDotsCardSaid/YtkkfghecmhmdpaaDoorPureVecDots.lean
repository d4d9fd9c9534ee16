/- VecDots: a sum of products is near the exact one, where nothing was too great or too small; for every input. -/
import Derived.Test.YtkkfghecmhmdpaaDoorTx0
import Derived.Test.YtkkfghecmhmdpaaDoorRx0
set_option linter.constructorNameAsVariable false
set_option linter.unusedSimpArgs false
set_option linter.unusedVariables false
set_option linter.unusedSectionVars false
namespace Go.Proofs.YtkkfghecmhmdpaaDoor.Pure
open Gim Go Go.RowKit Go.Proofs.YtkkfghecmhmdpaaDoor.F Go.Proofs.YtkkfghecmhmdpaaDoorW.PrintWords Go.Proofs.YtkkfghecmhmdpaaDoorW.PrintLast
set_option linter.unusedVariables false
set_option linter.unusedSectionVars false

theorem rsgn_le {x : Rat} (h : x ≤ 0) : rsgn x ≤ 0 := by
  unfold rsgn
  split
  · decide
  · split
    · decide
    · rename_i h1 h2
      exfalso
      grind
theorem none_ {a : Int} (ha : U a) (fa : ¬ fin a) : Ev (fun K => dyad_Of.f K a) (false, [], 0, false) := ⟨0, fun k _ => of_none ha fa k⟩
theorem mn_len (a b : Nat) : mn (a : Int) (b : Int) = ((min a b : Nat) : Int) := by unfold mn; split <;> omega
theorem rd_take {l : List Int} {n i : Nat} (h : i < n) : rd (List.take n l) (i : Int) = rd l (i : Int) := by
  unfold rd
  rw [Int.toNat_natCast, List.getD_eq_getElem?_getD, List.getD_eq_getElem?_getD, List.getElem?_take_of_lt h]
section
variable {l0 l1 : List Int} (w0 : ∀ x ∈ l0, U x) (w1 : ∀ x ∈ l1, U x) {n : Nat} (hn : n ≤ 40) (h0 : n ≤ l0.length) (h1 : n ≤ l1.length)
include w0 w1 hn h0 h1
theorem loop {d : Int} (ud : U d) (h : (∀ j, j < n → fin (rd l0 (j : Int)) ∧ fin (rd l1 (j : Int))) → fin d ∧ rabs (val d - sm (fun i => val (rd l0 (i : Int)) * val (rd l1 (i : Int))) n) ≤ sm (fun i => rabs (val (rd l0 (i : Int)) * val (rd l1 (i : Int)))) n * ((2 * (n : Int) : Int) : Rat) * pw (-53)) :
    ∀ m i (E : Int) (r1 r2 : Bool) (k1 k2 : List Int) (e1 e2 : Int), i + m = n → (∀ j, j < i → fin (rd l0 (j : Int)) ∧ fin (rd l1 (j : Int))) → 2148 ≤ E → E + m ≤ 10000 →
      Nm E (sm (fun i => val (rd l0 (i : Int)) * val (rd l1 (i : Int))) i) r1 k1 e1 → Nm E (sm (fun i => rabs (val (rd l0 (i : Int)) * val (rd l1 (i : Int)))) i) r2 k2 e2 →
      Ev (fun K => gimballaw10_VecDots.l0 K l0 l1 n d i r1 k1 e1 r2 k2 e2) true := by
  intro m
  induction m with
  | zero =>
    intro i E r1 r2 k1 k2 e1 e2 hi hf hE hE2 n1 n2
    obtain rfl : i = n := by omega
    obtain ⟨fd, hb⟩ := h hf
    obtain ⟨p1, p2, p3, ep, np⟩ := of_ev rfl ud fd
    obtain ⟨s1, s2, s3, es, ns⟩ := num_sub_ev (E := E) (by omega) (by omega) (np.mono (by omega)) n1
    obtain ⟨ab, nab⟩ := abs_ev ns
    obtain ⟨i1, i2, i3, ei, ni⟩ := int_ev (z := 2 * (i : Int)) (by omega) (by omega)
    obtain ⟨m1, m2, m3, em, nm⟩ := num_mul_ev (E := E) (E' := 64) (by omega) (by omega) (by decide) (by decide) n2 ni
    obtain ⟨t, nt⟩ := two_ev (E := 53) (a := -53) (by decide) (by decide) (by decide) (by decide)
    obtain ⟨q1, q2, q3, ek, nk⟩ := num_mul_ev (E := E + 64) (E' := 53) (by omega) (by omega) (by decide) (by decide) nm nt
    have ec := num_cmp_ev (E := E + 64 + 53) (by omega) (by omega) (nab.mono (by omega)) nk
    have es0 := rsgn_le (x := rabs (val d - sm (fun i => val (rd l0 (i : Int)) * val (rd l1 (i : Int))) i) - sm (fun i => rabs (val (rd l0 (i : Int)) * val (rd l1 (i : Int)))) i * ((2 * (i : Int) : Int) : Rat) * pw (-53)) (by grind)
    refine Ev.succ ?_
    simp only [gimballaw10_VecDots.l0]
    rw [w64 (x := 2 * (i : Int)) (by omega) (by omega)]
    refine Ev.neg (by omega) (Ev.bind ep (Ev.pos rfl (Ev.bind es (Ev.call ab (Ev.bind ei (Ev.bind em (Ev.call t (Ev.bind ek (Ev.bind ec ?_)))))))))
    rw [decide_eq_true es0]
    exact Ev.now _
  | succ m ih =>
    intro i E r1 r2 k1 k2 e1 e2 hi hf hE hE2 n1 n2
    have ux : U (rd l0 (i : Int)) := rd_U w0 i
    have uy : U (rd l1 (i : Int)) := rd_U w1 i
    have c1 : (i : Int) < (n : Int) := by omega
    have c2 : (0 : Int) ≤ (i : Int) := by omega
    have c3 : (i : Int) < (l0.length : Int) := by omega
    have c4 : (i : Int) < (l1.length : Int) := by omega
    refine Ev.succ ?_
    simp only [gimballaw10_VecDots.l0]
    have out : ∀ {t : Bool} {a1 a2 : Bool} {a3 a4 : List Int} {a5 a6 : Int}, t = true → Ev (fun K => gimballaw10_VecDots.j1 K l0 l1 n d i t r1 k1 e1 r2 k2 e2 a1 a3 a5 a2 a4 a6) true := by
      intro t a1 a2 a3 a4 a5 a6 ht
      refine Ev.succ ?_
      simp only [gimballaw10_VecDots.j1]
      exact Ev.pos ht (Ev.now _)
    by_cases fx : fin (rd l0 (i : Int))
    · obtain ⟨p1, p2, p3, ep, np⟩ := of_ev rfl ux fx
      by_cases fy : fin (rd l1 (i : Int))
      · obtain ⟨q1, q2, q3, eq, nq⟩ := of_ev rfl uy fy
        obtain ⟨m1, m2, m3, em, nm⟩ := num_mul_ev (by decide) (by decide) (by decide) (by decide) np nq
        obtain ⟨a1, a2, a3, ea, na⟩ := num_add_ev (E := E) (by omega) (by omega) n1 (nm.mono (by omega))
        obtain ⟨ab, nab⟩ := abs_ev nm
        obtain ⟨b1, b2, b3, eb, nb⟩ := num_add_ev (E := E) (by omega) (by omega) n2 (nab.mono (by omega))
        have hh := ih (i + 1) (E + 1) a1 b1 a2 b2 a3 b3 (by omega) (fun j hj => by
          by_cases e : j = i
          · subst e; exact ⟨fx, fy⟩
          · exact hf j (by omega)) (by omega) (by omega) na nb
        refine Ev.pos c1 (Ev.pos c2 (Ev.pos c3 (Ev.bind ep (Ev.pos c4 (Ev.bind eq (Ev.pos rfl (Ev.succ ?_)))))))
        simp only [gimballaw10_VecDots.j1]
        rw [w64 (x := (i : Int) + 1) (by omega) (by omega)]
        exact Ev.neg (by simp) (Ev.bind em (Ev.bind ea (Ev.bind em (Ev.call ab (Ev.bind eb hh)))))
      · exact Ev.pos c1 (Ev.pos c2 (Ev.pos c3 (Ev.bind ep (Ev.pos c4 (Ev.bind (none_ uy fy) (Ev.pos rfl (out rfl)))))))
    · refine Ev.pos c1 (Ev.pos c2 (Ev.pos c3 (Ev.bind (none_ ux fx) (Ev.pos c4 ?_))))
      by_cases fy : fin (rd l1 (i : Int))
      · obtain ⟨q1, q2, q3, eq, nq⟩ := of_ev rfl uy fy
        exact Ev.bind eq (Ev.neg (by simp) (out rfl))
      · exact Ev.bind (none_ uy fy) (Ev.neg (by simp) (out rfl))
end
theorem VecDots (l0 : List Int) (u0 : ∀ x ∈ l0, (Lit.int .u64 x).wf = true) (l1 : List Int) (u1 : ∀ x ∈ l1, (Lit.int .u64 x).wf = true) : ∃ k, gimballaw10_VecDots.f k l0 l1 = some true := by
  have w0 : ∀ x ∈ l0, U x := fun x hx => U_of_wf (u0 x hx)
  have w1 : ∀ x ∈ l1, U x := fun x hx => U_of_wf (u1 x hx)
  apply Ev.rounds
  unfold gimballaw10_VecDots.f
  rw [mn_len]
  refine Ev.call rfl ?_
  obtain ⟨n, en⟩ : ∃ n, n = min l0.length l1.length := ⟨_, rfl⟩
  rw [← en]
  by_cases hn : (n : Int) > 40
  · exact Ev.pos hn (Ev.now _)
  have h0 : n ≤ l0.length := by omega
  have h1 : n ≤ l1.length := by omega
  rw [Int.toNat_natCast]
  have lx : (List.take n l0).length = n := by rw [List.length_take]; omega
  have ly : (List.take n l1).length = n := by rw [List.length_take]; omega
  have wx : ∀ x ∈ List.take n l0, U x := fun x hx => w0 x (List.mem_of_mem_take hx)
  have wy : ∀ x ∈ List.take n l1, U x := fun x hx => w1 x (List.mem_of_mem_take hx)
  obtain ⟨F, ev, f8, eF⟩ := dot_ev (x := List.take n l0) (y := List.take n l1) (F := 0) wx wy (by rw [lx, ly]) (by omega) F8_0
  rw [lx] at ev eF
  rw [B8_0, BitVec.zero_or] at eF
  refine Ev.neg hn (Ev.pos (by omega) (Ev.pos (by omega) (Ev.pos (by omega) (Ev.bind ev (Ev.pos rfl ?_)))))
  by_cases c : Go.bits .and .u8 F 22 = 0
  · refine Ev.pos c ?_
    have hU := dS_U (x := fun i => rd (List.take n l0) (i : Int)) (y := fun i => rd (List.take n l1) (i : Int)) (rd_U wx) (rd_U wy) n
    have hc := cln_and c
    rw [eF] at hc
    have e1 : ∀ {f : Rat → Rat} m, m ≤ n → sm (fun i => f (val (rd (List.take n l0) (i : Int)) * val (rd (List.take n l1) (i : Int)))) m = sm (fun i => f (val (rd l0 (i : Int)) * val (rd l1 (i : Int)))) m := by
      intro f m
      induction m with
      | zero => intro _; rfl
      | succ m ih =>
        intro hm
        simp only [sm]
        rw [ih (by omega), rd_take (by omega), rd_take (by omega)]
    refine loop w0 w1 (by omega) h0 h1 hU (fun hf => ?_) n 0 2148 _ _ _ _ _ _ (by omega) (fun j hj => by omega) (by decide) (by omega) (Nm.zero (by decide)) (Nm.zero (by decide))
    have hd := dot_near (x := fun i => rd (List.take n l0) (i : Int)) (y := fun i => rd (List.take n l1) (i : Int)) (rd_U wx) (rd_U wy) (n := n) (by omega)
      (fun i hi => by show fin (rd (List.take n l0) (i : Int)); rw [rd_take hi]; exact (hf i hi).1) (fun i hi => by show fin (rd (List.take n l1) (i : Int)); rw [rd_take hi]; exact (hf i hi).2) hc
    have e2 := e1 (f := fun x => x) n (Nat.le_refl n)
    have e3 := e1 (f := rabs) n (Nat.le_refl n)
    rw [e2, e3] at hd
    exact hd
  · exact Ev.neg c (Ev.now _)
end Go.Proofs.YtkkfghecmhmdpaaDoor.Pure

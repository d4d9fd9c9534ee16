/- VecNorms: a root of a sum of squares is near the exact one, however great or small the numbers are; for every input. -/
import Derived.Test.YtkkfghecmhmdpaaDoorTx0
import Derived.Test.YtkkfghecmhmdpaaDoorTx1
import Derived.Test.YtkkfghecmhmdpaaDoorRx0
set_option linter.constructorNameAsVariable false
set_option linter.unusedSimpArgs false
set_option linter.unusedVariables false
set_option linter.unusedSectionVars false
namespace Go.Proofs.YtkkfghecmhmdpaaDoor.Pure
open Gim Go Go.RowKit Go.Proofs.YtkkfghecmhmdpaaDoor.F Go.Proofs.YtkkfghecmhmdpaaDoorW.PrintWords Go.Proofs.YtkkfghecmhmdpaaDoorW.PrintLast
set_option linter.unusedVariables false
set_option linter.unusedSectionVars false

theorem none_ {a : Int} (ha : U a) (fa : ¬ fin a) : Ev (fun K => dyad_Of.f K a) (false, [], 0, false) := ⟨0, fun k _ => of_none ha fa k⟩
theorem rsgn_le {x : Rat} (h : x ≤ 0) : rsgn x ≤ 0 := by
  unfold rsgn
  split
  · decide
  · split
    · decide
    · exfalso
      grind
theorem rsgn_ge {x : Rat} (h : 0 ≤ x) : rsgn x ≥ 0 := by
  unfold rsgn
  split
  · decide
  · split
    · exfalso
      grind
    · decide
section
variable {l : List Int} (w : ∀ x ∈ l, U x) (hn : l.length ≤ 40)
include w hn
theorem loop {r F : Int} (ur : U r)
    (hno : (∃ x ∈ l, ¬ fin x) → ∃ j, Ev (fun K => order_Greatest.f K l) (r, j) ∧ F = 0)
    (hyes : (∀ x ∈ l, fin x) → Go.bits .and .u8 F 6 = 0 → fin r ∧
      sm (fun i => val (rd l (i : Int)) * val (rd l (i : Int))) l.length * ((1 - ((l.length : Int) + 4 : Int) * pw (-53)) * (1 - ((l.length : Int) + 4 : Int) * pw (-53))) ≤ val r * val r ∧
      val r * val r ≤ sm (fun i => val (rd l (i : Int)) * val (rd l (i : Int))) l.length * ((1 + ((l.length : Int) + 4 : Int) * pw (-53)) * (1 + ((l.length : Int) + 4 : Int) * pw (-53)))) :
    ∀ m i (E : Int) (r1 : Bool) (k1 : List Int) (e1 : Int), i + m = l.length → (∀ j (h : j < l.length), j < i → fin l[j]) → 2148 ≤ E → E + m ≤ 10000 →
      Nm E (sm (fun i => val (rd l (i : Int)) * val (rd l (i : Int))) i) r1 k1 e1 →
      Ev (fun K => gimballaw10_VecNorms.l0 K l r (l.length : Int) i F r1 k1 e1) true := by
  intro m
  induction m with
  | zero =>
    intro i E r1 k1 e1 hi hf hE hE2 n1
    obtain rfl : i = l.length := by omega
    have hfin : ∀ x ∈ l, fin x := by
      intro x hx
      obtain ⟨k, hk, rfl⟩ := List.getElem_of_mem hx
      exact hf k hk hk
    refine Ev.succ ?_
    simp only [gimballaw10_VecNorms.l0]
    rw [w64 (x := (l.length : Int) + 4) (by omega) (by omega)]
    refine Ev.neg (by omega) ?_
    by_cases c : Go.bits .and .u8 F 6 = 0
    · obtain ⟨fr, b1, b2⟩ := hyes hfin c
      obtain ⟨p1, p2, p3, ep, np⟩ := of_ev rfl ur fr
      obtain ⟨i1, i2, i3, ei, ni⟩ := int_ev (z := (l.length : Int) + 4) (by omega) (by omega)
      obtain ⟨t, nt⟩ := two_ev (E := 53) (a := -53) (by decide) (by decide) (by decide) (by decide)
      obtain ⟨q1, q2, q3, ek, nk⟩ := num_mul_ev (E := 64) (E' := 53) (by decide) (by decide) (by decide) (by decide) ni nt
      obtain ⟨o1, o2, o3, eo, no⟩ := int_ev (z := 1) (by omega) (by omega)
      have no : Nm 64 (1 : Rat) o1 o2 o3 := no
      obtain ⟨s1, s2, s3, es, ns⟩ := num_sub_ev (E := 117) (by decide) (by decide) (no.mono (by decide)) (nk.mono (by decide))
      obtain ⟨a1, a2, a3, ea, na⟩ := num_add_ev (E := 117) (by decide) (by decide) (no.mono (by decide)) (nk.mono (by decide))
      obtain ⟨g1, g2, g3, eg, ng⟩ := num_mul_ev (by decide) (by decide) (by decide) (by decide) np np
      obtain ⟨x1, x2, x3, ex, nx⟩ := num_mul_ev (E := E) (E' := 118) (by omega) (by omega) (by decide) (by decide) n1 (ns.mono (by decide))
      obtain ⟨y1, y2, y3, ey, ny⟩ := num_mul_ev (E := E + 118) (E' := 118) (by omega) (by omega) (by decide) (by decide) nx (ns.mono (by decide))
      obtain ⟨z1, z2, z3, ez, nz⟩ := num_mul_ev (E := E) (E' := 118) (by omega) (by omega) (by decide) (by decide) n1 (na.mono (by decide))
      obtain ⟨v1, v2, v3, ev, nv⟩ := num_mul_ev (E := E + 118) (E' := 118) (by omega) (by omega) (by decide) (by decide) nz (na.mono (by decide))
      have c1 := num_cmp_ev (E := E + 118 + 118) (by omega) (by omega) (ng.mono (by omega)) ny
      have c2 := num_cmp_ev (E := E + 118 + 118) (by omega) (by omega) (ng.mono (by omega)) nv
      refine Ev.pos c (Ev.bind ep (Ev.pos rfl (Ev.bind ei (Ev.call t (Ev.bind ek (Ev.bind eo (Ev.bind es (Ev.bind eo (Ev.bind ea (Ev.bind eg (Ev.bind ex (Ev.bind ey (Ev.bind c1 (Ev.pos (rsgn_ge (by grind)) (Ev.bind ez (Ev.bind ev (Ev.bind c2 ?_)))))))))))))))))
      rw [decide_eq_true (rsgn_le (by grind))]
      exact Ev.now _
    · exact Ev.neg c (Ev.now _)
  | succ m ih =>
    intro i E r1 k1 e1 hi hf hE hE2 n1
    have ux : U (rd l (i : Int)) := rd_U w i
    have hil : i < l.length := by omega
    refine Ev.succ ?_
    simp only [gimballaw10_VecNorms.l0]
    refine Ev.pos (by omega) (Ev.pos (by omega) (Ev.pos (by omega) ?_))
    by_cases fx : fin (rd l (i : Int))
    · obtain ⟨p1, p2, p3, ep, np⟩ := of_ev rfl ux fx
      obtain ⟨m1, m2, m3, em, nm⟩ := num_mul_ev (by decide) (by decide) (by decide) (by decide) np np
      obtain ⟨a1, a2, a3, ea, na⟩ := num_add_ev (E := E) (by omega) (by omega) n1 (nm.mono (by omega))
      have hh := ih (i + 1) (E + 1) a1 a2 a3 (by omega) (fun j h hj => by
        by_cases e : j = i
        · subst e; rw [rd_at hil] at fx; exact fx
        · exact hf j h (by omega)) (by omega) (by omega) na
      rw [w64 (x := (i : Int) + 1) (by omega) (by omega)]
      exact Ev.bind ep (Ev.pos rfl (Ev.bind em (Ev.bind ea hh)))
    · obtain ⟨j, eg, rfl⟩ := hno ⟨l[i], List.getElem_mem hil, by rw [rd_at hil] at fx; exact fx⟩
      exact Ev.bind (none_ ux fx) (Ev.neg (by simp) (Ev.bind eg (Ev.pos rfl (Ev.now _))))
end
theorem VecNorms (l0 : List Int) (u0 : ∀ x ∈ l0, (Lit.int .u64 x).wf = true) : ∃ k, gimballaw10_VecNorms.f k l0 = some true := by
  have w0 : ∀ x ∈ l0, U x := fun x hx => U_of_wf (u0 x hx)
  apply Ev.rounds
  unfold gimballaw10_VecNorms.f
  refine Ev.call rfl ?_
  by_cases hn : (l0.length : Int) > 40
  · exact Ev.pos hn (Ev.now _)
  refine Ev.neg hn ?_
  by_cases hf : ∀ x ∈ l0, fin x
  · obtain ⟨r, F, ev, ur, hb⟩ := nrm_near (l := l0) (fun x hx => ⟨w0 x hx, hf x hx⟩) (by omega)
    exact Ev.bind ev (loop w0 (by omega) ur (fun ⟨x, hx, nf⟩ => absurd (hf x hx) nf) (fun _ => hb) l0.length 0 2148 _ _ _ (by omega) (fun j h hj => by omega) (by decide) (by omega) (Nm.zero (by decide)))
  · have hx : ∃ x ∈ l0, ¬ fin x := by
      refine Classical.byContradiction fun h => hf fun x hx => Classical.byContradiction fun h2 => h ⟨x, hx, h2⟩
    obtain ⟨m, j, eg, ev⟩ := nrm_none w0 (by omega) hx 0
    obtain ⟨m', j', eg', um⟩ := greatest_ev w0 (by omega)
    obtain ⟨rfl, rfl⟩ := Prod.mk.inj (Ev.det eg eg')
    exact Ev.bind ev (loop w0 (by omega) um (fun _ => ⟨_, eg, rfl⟩) (fun h => absurd h hf) l0.length 0 2148 _ _ _ (by omega) (fun j h hj => by omega) (by decide) (by omega) (Nm.zero (by decide)))
end Go.Proofs.YtkkfghecmhmdpaaDoor.Pure

/- Texts of this claim, one behind the other: a machine over plain data, and that it is the model's. -/
import Derived.Test.YtdmhepgfmickdaaDoorRun1
import Derived.Scope
import Derived.Test.YtdmhepgfmickdaaDoorRun0
import Derived.Below
set_option linter.constructorNameAsVariable false
set_option linter.unusedSimpArgs false
set_option linter.unusedVariables false
set_option linter.unusedSectionVars false
namespace Go.Rk
open Go Classical
set_option linter.unusedVariables false
set_option linter.unusedSimpArgs false

variable {E : Env} {X : Cx} {ι : Io} {μ : Mu} {h : Hp} {sl : Nat} {w : World} {R : List Nat}

theorem lit_vr (v : Value) : VR ι μ (lit v) v := by
  have sc : ∀ v : Value, VR ι μ ((scalar v).getD .u) v := by
    intro v
    cases hq : scalar v with
    | none => exact .u
    | some u => exact .c (scalar_vr hq).1.to0
  cases v with
  | agg cs =>
    simp only [lit]
    split
    · rename_i l hl
      have := VR.mk_a ((scalars_vs hl).1 ι μ)
      simpa using this
    · exact .u
  | tuple cs =>
    simp only [lit]
    split
    · rename_i he
      have : cs = #[] := by simpa using he
      subst this
      exact vr_undef
    · exact .u
  | _ => unfold lit; exact sc _

theorem rho_vr {t : List V} {a : Act} (hI : Rel E ι μ h w) (ht : Vs ι μ t a.tmps.toList) (x : Operand) : VR ι μ (rho E t x) (a.eval x) := by
  cases x with
  | tmp y =>
    simp only [rho, Act.eval, List.getD_eq_getElem?_getD, Array.getD_eq_getD_getElem?]
    cases hq : t[y]? with
    | none =>
      have : a.tmps[y]? = none := by
        have h1 := List.getElem?_eq_none_iff.1 hq
        have h2 := ht.1
        simp only [Array.length_toList] at h2
        exact Array.getElem?_eq_none (by omega)
      rw [this]; exact vr_undef
    | some v =>
      obtain ⟨c, hc, hv⟩ := ht.2 y v hq
      have : a.tmps[y]? = some c := by simpa using hc
      rw [this]; exact hv
  | const v => exact lit_vr v
  | global g =>
    simp only [rho, Act.eval]
    split
    · exact .u
    · rename_i l hne
      exact .c (hI.glob g (by intro e; exact hne e))
  | func f => exact .mk_f (cs := []) (ds := []) .nil .nil
theorem vals_vr {t : List V} {a : Act} (hI : Rel E ι μ h w) (ht : Vs ι μ t a.tmps.toList) : ∀ l : List Operand, Vs ι μ (l.map (rho E t)) (l.map a.eval)
  | [] => .nil
  | x :: l => .cons (rho_vr hI ht x) (vals_vr hI ht l)

theorem vs_put {t : List V} {a : Act} (ht : Vs ι μ t a.tmps.toList) {d : Option Tmp} {v : V} {x : Value} (hv : VR ι μ v x) : Vs ι μ (put t d v) (a.put d x).tmps.toList := by
  cases d with
  | none => exact ht
  | some d =>
    refine ⟨by simp [put, Act.put]; simpa using ht.1, fun j u hu => ?_⟩
    simp only [put, List.getElem?_set] at hu
    simp only [Act.put, Array.toList_setIfInBounds, List.getElem?_set]
    have hlen := ht.1
    split at hu
    · subst ‹d = j›
      split at hu
      · cases hu
        rw [if_pos rfl, if_pos (by omega)]
        exact ⟨x, rfl, hv⟩
      · cases hu
    · rw [if_neg ‹_›]
      exact ht.2 j u hu

theorem wanted_run {os : Array Oper} {o : Oper} {t : List V} {a : Act} {b : Bool} (hw : wantedV os o t = some b) (ht : Vs ι μ t a.tmps.toList) : Region.wanted o (yielded os a.tmps) = b := by
  unfold wantedV at hw
  unfold Region.wanted
  split at hw
  · rename_i hg; rw [hg]; cases hw; rfl
  · rename_i j want hg
    rw [hg]
    simp only
    split at hw
    · cases hw
    · rename_i d hd
      unfold yielded
      rw [hd]
      simp only [Option.bind_some]
      split at hw
      · rename_i x hx
        cases hw
        obtain ⟨c, hc, hv⟩ := ht.2 d _ hx
        have hc' : a.tmps[d]? = some c := by simpa using hc
        rw [hc', hv.b_inv]
        cases x <;> cases want <;> rfl
      · rename_i hx
        cases hw
        obtain ⟨c, hc, hv⟩ := ht.2 d _ hx
        have hc' : a.tmps[d]? = some c := by simpa using hc
        obtain ⟨cs, rfl, _⟩ := hv.t_inv
        rw [hc']
        rfl
      · cases hw

/-- The state of a region under way. -/
structure Mid (E : Env) (X : Cx) (ι : Io) (μ : Mu) (sl : Nat) (is : List Nat) (t : List V) (h : Hp) (a : Act) (w : World) : Prop where
  tm : Vs ι μ t a.tmps.toList
  inv : Inv E X ι μ h w
  fresh : ∀ i, i ∈ is → ∀ j, j < 4 → ι (sl + 4 * i + j) = none
  le : X.a ≤ sl
  df : a.defers = []

/-- One step of a region: the model does it, and the rest goes on from a state that fits. -/
theorem step_run {os : Array Oper} {i : Nat} {t t1 : List V} {h1 : Hp} {x : Nat × List Nat × List Nat} {a : Act} {is : List Nat} (hs : Step E os sl i t h t1 h1 x) (hm : Mid E X ι μ sl (i :: is) t h a w) (hn : i ∉ is)
    {K : Act → World → Prop} {Q : Exit → Act → World → Prop}
    (hK : ∀ ι' μ' a' w', Mid E X ι' μ' sl is t1 h1 a' w' → (∀ y, (y < sl + 4 * i ∨ sl + 4 * i + 4 ≤ y) → ι' y = ι y) → (∀ y q, ι y = some q → ι' y = some q) → (∀ b cs, μ b = some cs → μ' b = some cs) → K a' w') :
    wpOp E.P os Q i K a w := by
  cases hs with
  | no ho hw =>
    rename_i o
    unfold wpOp
    rw [ho]
    simp only
    rw [wanted_run hw hm.tm]
    simp only [Bool.false_eq_true, if_false]
    refine hK ι μ _ w ⟨vs_put hm.tm vr_undef, hm.inv, fun k hk => hm.fresh k (by simp [hk]), hm.le, ?_⟩ (fun _ _ => rfl) (fun _ _ h => h) (fun _ _ h => h)
    cases o.dst <;> exact hm.df
  | yes ho hw hop =>
    rename_i o v U R
    unfold wpOp
    rw [ho]
    simp only
    rw [wanted_run hw hm.tm]
    simp only [if_true]
    left
    refine hop h (fun _ _ => rfl) X ι μ w a o rfl hm.inv (fun j hj => hm.fresh i (by simp) j hj) (by have := hm.le; omega) (vals_vr hm.inv.rel hm.tm _) K Q ?_
    intro y w' ι' μ' hv hI' hmono hother hμ
    refine hK ι' μ' _ w' ⟨vs_put (hm.tm.mono hmono hμ) hv, hI', fun k hk j hj => ?_, hm.le, ?_⟩ hother hmono hμ
    · have hki : k ≠ i := by rintro rfl; exact hn hk
      rw [hother _ (by omega)]
      exact hm.fresh k (by simp [hk]) j hj
    · cases o.dst <;> exact hm.df

theorem ops_range {os : Array Oper} {is : List Nat} {t t' : List V} {h h' : Hp} {tr : Tr} (ho : OpsG E os sl is t h t' h' tr) : ∀ {ι μ a w}, is.Nodup → Mid E X ι μ sl is t h a w → ∀ {Q : Exit → Act → World → Prop},
    (∀ ι' μ' a' w', Mid E X ι' μ' sl [] t' h' a' w' → (∀ y, (∀ i, i ∈ is → y < sl + 4 * i ∨ sl + 4 * i + 4 ≤ y) → ι' y = ι y) → (∀ b cs, μ b = some cs → μ' b = some cs) → Q .normal a' w') → wpOps E.P os Q is a w := by
  induction ho with
  | nil =>
    intro ι μ a w _ hm Q hQ
    exact hQ ι μ a w hm (fun _ _ => rfl) (fun _ _ h => h)
  | cons hst hr ih =>
    intro ι μ a w hn hm Q hQ
    rw [wpOps_cons]
    refine step_run hst hm (List.nodup_cons.1 hn).1 fun ι1 μ1 a1 w1 hm1 hoth hmo hmu => ?_
    refine ih (List.nodup_cons.1 hn).2 hm1 fun ι2 μ2 a2 w2 hm2 hoth2 hmu2 => ?_
    refine hQ ι2 μ2 a2 w2 hm2 (fun y hy => ?_) (fun b cs hb => hmu2 b cs (hmu b cs hb))
    rw [hoth2 y fun k hk => hy k (by simp [hk]), hoth y (hy _ (by simp))]

theorem befs_spec {os : Array Oper} : ∀ (l : List Oper) (acc : List Nat), (∀ j, l[j]? = os[acc.length + j]?) →
    (∀ (i m : Nat), acc[i]? = some m → ∀ L : Nat → Prop, (∀ (i : Nat) o, L i → os[i]? = some o → ∀ e, e ∈ o.after.toList → Region.binds .any e = true → L e.on) →
      (∀ o, os[i]? = some o → ∀ e, e ∈ o.after.toList → Region.binds .any e = true → L e.on) → ∀ k, m.testBit k = true → L k) →
    ∀ (i m : Nat), (befs l acc)[i]? = some m → ∀ L : Nat → Prop, (∀ (i : Nat) o, L i → os[i]? = some o → ∀ e, e ∈ o.after.toList → Region.binds .any e = true → L e.on) →
      (∀ o, os[i]? = some o → ∀ e, e ∈ o.after.toList → Region.binds .any e = true → L e.on) → ∀ k, m.testBit k = true → L k := by
  intro l
  induction l with
  | nil => intro acc _ hacc; exact hacc
  | cons o l ih =>
    intro acc hl hacc
    refine ih _ (fun j => ?_) ?_
    · have := hl (j + 1)
      simp only [List.length_append, List.length_singleton]
      rw [show acc.length + 1 + j = acc.length + (j + 1) by omega]
      simpa using this
    · intro i m hm L hdown hi k hk
      by_cases hia : i < acc.length
      · rw [List.getElem?_append_left hia] at hm
        exact hacc i m hm L hdown hi k hk
      · rw [List.getElem?_append_right (by omega)] at hm
        have hi0 : i = acc.length := by
          have := (List.getElem?_eq_some_iff.1 hm).1
          simp at this; omega
        subst hi0
        simp only [Nat.sub_self, List.getElem?_cons_zero, Option.some.injEq] at hm
        subst hm
        have ho : os[acc.length]? = some o := by have := hl 0; simpa using this.symm
        have key : ∀ (es : List Edge) (s : Nat), (∀ e, e ∈ es → Region.binds .any e = true → L e.on) → (∀ k, s.testBit k = true → L k) →
            ∀ k, (es.foldl (fun s e => if Region.binds .any e = true then s ||| 2 ^ e.on ||| acc.getD e.on 0 else s) s).testBit k = true → L k := by
          intro es
          induction es with
          | nil => intro s _ hs k hk; exact hs k hk
          | cons e es ihe =>
            intro s he hs k hk
            refine ihe _ (fun e' he' => he e' (by simp [he'])) ?_ k hk
            intro k' hk'
            simp only at hk'
            split at hk'
            · rename_i hb
              have hLe := he e (by simp) hb
              simp only [Nat.testBit_or, Bool.or_eq_true] at hk'
              rcases hk' with (hk' | hk') | hk'
              · exact hs k' hk'
              · rw [Nat.testBit_two_pow] at hk'
                have : e.on = k' := by simpa using hk'
                rw [← this]; exact hLe
              · rw [List.getD_eq_getElem?_getD] at hk'
                cases hq : acc[e.on]? with
                | none => rw [hq] at hk'; simp at hk'
                | some m' =>
                  rw [hq] at hk'
                  exact hacc e.on m' hq L hdown (fun o' ho' e' he' hb' => hdown _ o' hLe ho' e' he' hb') k' hk'
            · exact hs k' hk'
        exact key _ 0 (hi o ho) (by simp) k hk

theorem backw_spec {os : Array Oper} : ∀ (l : List Oper) (i : Nat), backw os i l = true → ∀ (j : Nat) o, l[j]? = some o → ∀ e, e ∈ o.after.toList → Region.binds .any e = true → e.on < i + j := by
  intro l
  induction l with
  | nil => intro i _ j o ho; simp at ho
  | cons p l ih =>
    intro i hb j o ho e he hbd
    simp only [backw, Bool.and_eq_true, List.all_eq_true] at hb
    cases j with
    | zero =>
      cases ho
      have := hb.1 e he
      simp [hbd] at this
      omega
    | succ j =>
      have := ih (i + 1) hb.2 j o (by simpa using ho) e he hbd
      omega

theorem indepP_spec {os : Array Oper} {pre : List Nat} : ∀ (tr : Tr), indepP os pre tr = true → tr.Pairwise fun x y => (pre.getD y.1 0).testBit x.1 = true ∨ pairOk os x y = true := by
  intro tr
  induction tr with
  | nil => intro _; exact .nil
  | cons x tr ih =>
    intro hp
    simp only [indepP, Bool.and_eq_true, List.all_eq_true] at hp
    refine .cons (fun y hy => ?_) (ih hp.2)
    have := hp.1 y hy
    simpa [Bool.or_eq_true] using this

def remOf (n : Nat) (listed : Array Bool) : List Nat := (List.range n).filter fun i => !listed.getD i true

theorem any_run {os : Array Oper} {t' : List V} {h' : Hp} {Q : Exit → Act → World → Prop} {ι0 : Io} {μ0 : Mu}
    (hback : ∀ (i : Nat) o, os[i]? = some o → ∀ e, e ∈ o.after.toList → Region.binds .any e = true → e.on < i)
    (hQ : ∀ ι' μ' a' w', Mid E X ι' μ' sl [] t' h' a' w' → (∀ y, (∀ i, i < os.size → y < sl + 4 * i ∨ sl + 4 * i + 4 ≤ y) → ι' y = ι0 y) → (∀ b cs, μ0 b = some cs → μ' b = some cs) → Q .normal a' w') :
    ∀ (fuel : Nat) (listed : Array Bool) (t : List V) (h : Hp) (tr : Tr) (ι : Io) (μ : Mu) (a : Act) (w : World), listed.size = os.size → (remOf os.size listed).length = fuel →
      OpsG E os sl (remOf os.size listed) t h t' h' tr → (tr.Pairwise fun x y => ((pres os).getD y.1 0).testBit x.1 = true ∨ pairOk os x y = true) →
      (∀ (i : Nat) o, listed.getD i false = true → os[i]? = some o → ∀ e, e ∈ o.after.toList → Region.binds .any e = true → listed.getD e.on false = true) →
      Mid E X ι μ sl (remOf os.size listed) t h a w → (∀ y, (∀ i, i < os.size → y < sl + 4 * i ∨ sl + 4 * i + 4 ≤ y) → ι y = ι0 y) → (∀ b cs, μ0 b = some cs → μ b = some cs) →
      wpAny E.P .any os Q fuel listed a w := by
  intro fuel
  have hready : ∀ listed : Array Bool, ∀ i, i ∈ Region.ready .any os listed → i ∈ remOf os.size listed ∧ ∀ o, os[i]? = some o → ∀ e, e ∈ o.after.toList → Region.binds .any e = true → listed.getD e.on false = true := by
    intro listed i hi
    simp only [Region.ready, List.mem_filter, Bool.and_eq_true] at hi
    refine ⟨List.mem_filter.2 ⟨hi.1, hi.2.1⟩, fun o ho e he hb => ?_⟩
    have h2 := hi.2.2
    rw [ho] at h2
    simp only [Option.map_some, Option.getD_some] at h2
    have := (Array.all_eq_true'.1 h2) e (by simpa using he)
    simpa [hb] using this
  induction fuel with
  | zero =>
    intro listed t h tr ι μ a w hsz hlen ho hp hdown hm hoth hmu
    have hrem : remOf os.size listed = [] := List.eq_nil_of_length_eq_zero hlen
    rw [hrem] at ho hm
    cases ho
    refine ⟨?_, hQ ι μ a w hm hoth hmu⟩
    refine List.eq_nil_iff_forall_not_mem.2 fun i hi => ?_
    have := (hready listed i hi).1
    rw [hrem] at this; cases this
  | succ fuel ih =>
    intro listed t h tr ι μ a w hsz hlen ho hp hdown hm hoth hmu
    refine ⟨fun hnil => ?_, fun i hi => ?_⟩
    · -- the least that is left may come up
      exfalso
      cases hrem : remOf os.size listed with
      | nil => rw [hrem] at hlen; cases hlen
      | cons m rest =>
        have hmm : m ∈ remOf os.size listed := by rw [hrem]; simp
        have hm1 := (List.mem_filter.1 hmm)
        have hmlt : m < os.size := by simpa using hm1.1
        have : m ∈ Region.ready .any os listed := by
          simp only [Region.ready, List.mem_filter, Bool.and_eq_true]
          refine ⟨hm1.1, hm1.2, ?_⟩
          rw [Array.getElem?_eq_getElem hmlt]
          simp only [Option.map_some, Option.getD_some]
          refine Array.all_eq_true'.2 fun e he => ?_
          by_cases hb : Region.binds .any e = true
          · simp only [hb, Bool.not_true, Bool.false_or]
            have hlt := hback m _ (Array.getElem?_eq_getElem hmlt) e (by simpa using he) hb
            -- it is listed, being less than the least that isn't
            have hsorted : (remOf os.size listed).Pairwise (· < ·) := List.Pairwise.filter _ List.pairwise_lt_range
            rw [hrem] at hsorted
            cases hq : listed.getD e.on false with
            | true => rfl
            | false =>
              have : e.on ∈ remOf os.size listed := by
                refine List.mem_filter.2 ⟨by simp; omega, ?_⟩
                have hlt2 : e.on < listed.size := by omega
                simp [Array.getD, hlt2] at hq ⊢
                exact hq
              rw [hrem] at this
              rcases List.mem_cons.1 this with h1 | h1
              · omega
              · have := (List.pairwise_cons.1 hsorted).1 _ h1; omega
          · simp [hb]
        rw [hnil] at this; cases this
    · obtain ⟨hir, hpre⟩ := hready listed i hi
      obtain ⟨p, s, hps⟩ := List.append_of_mem hir
      have hnd : (remOf os.size listed).Nodup := List.Pairwise.filter _ List.nodup_range
      rw [hps] at ho
      obtain ⟨t1, h1, tr1, tr2, e1, e2, e3, e4⟩ := ops_split p (i :: s) _ _ _ _ _ ho
      cases e2 with
      | cons hst hrest =>
        rename_i t2 h2 x tr3
        have hx1 : x.1 = i := by cases hst <;> rfl
        subst e3
        have hcl : ∀ k, ((pres os).getD i 0).testBit k = true → listed.getD k false = true := by
          intro k hk
          rw [List.getD_eq_getElem?_getD] at hk
          cases hq : (pres os)[i]? with
          | none => rw [hq] at hk; simp at hk
          | some m =>
            rw [hq] at hk
            exact befs_spec os.toList [] (fun j => by simp) (fun i m hm => by simp at hm) i m hq (fun k => listed.getD k false = true) hdown hpre k hk
        have hall : ∀ y, y ∈ tr1 → pairOk os y x = true := by
          intro y hy
          have hpw := (List.pairwise_append.1 hp).2.2 y hy x (by simp)
          rcases hpw with h5 | h5
          · exfalso
            rw [hx1] at h5
            have h6 := hcl _ h5
            have h7 : y.1 ∈ p := by rw [← e4]; exact List.mem_map.2 ⟨y, hy, rfl⟩
            have h8 : y.1 ∈ remOf os.size listed := by rw [hps]; simp [h7]
            have h9 := (List.mem_filter.1 h8).2
            have hlt2 : y.1 < listed.size := by have := (List.mem_filter.1 h8).1; simp at this; omega
            simp [Array.getD, hlt2] at h6 h9
            rw [h6] at h9; cases h9
          · exact h5
        obtain ⟨t3, h3, f1, f2⟩ := ops_front e1 hst hall
        have hops' := ops_join f2 hrest
        rw [hps] at hnd
        have hins : i ∉ p ++ s := by
          have := List.nodup_append.1 hnd
          intro hmem
          rcases List.mem_append.1 hmem with h5 | h5
          · exact this.2.2 i h5 i (by simp) rfl
          · exact (List.nodup_cons.1 this.2.1).1 h5
        have hilt : i < listed.size := by have := (List.mem_filter.1 hir).1; simp at this; omega
        have hrem' : remOf os.size (listed.setIfInBounds i true) = p ++ s := by
          have hg : ∀ k, (listed.setIfInBounds i true).getD k true = if k = i then true else listed.getD k true := by
            intro k
            simp only [Array.getD_eq_getD_getElem?, Array.getElem?_setIfInBounds]
            by_cases hk : k = i
            · subst hk; simp [hilt]
            · have : ¬ i = k := fun e => hk e.symm
              simp [hk, this]
          have : remOf os.size (listed.setIfInBounds i true) = (remOf os.size listed).filter fun k => k ≠ i := by
            unfold remOf
            rw [List.filter_filter]
            refine List.filter_congr fun k _ => ?_
            rw [hg k]
            by_cases hk : k = i <;> simp [hk]
          rw [this, hps, List.filter_append, List.filter_cons]
          simp only [ne_eq, not_true_eq_false, decide_false, Bool.false_eq_true, if_false]
          rw [← List.filter_append]
          refine List.filter_eq_self.2 fun k hk => ?_
          simp only [decide_eq_true_eq]
          rintro rfl; exact hins hk
        have hm' : Mid E X ι μ sl (i :: (p ++ s)) t h a w := ⟨hm.tm, hm.inv, fun k hk => hm.fresh k (by rw [hps]; simp at hk ⊢; rcases hk with h5 | h5 | h5 <;> simp [h5]), hm.le, hm.df⟩
        refine step_run f1 hm' hins fun ι1 μ1 a1 w1 hm1 ho1 hmo1 hmu1 => ?_
        refine ih (listed.setIfInBounds i true) t3 h3 (tr1 ++ tr3) ι1 μ1 a1 w1 (by simp [hsz]) ?_ (by rw [hrem']; exact hops') ?_ ?_ (by rw [hrem']; exact hm1) ?_ ?_
        · rw [hrem']; rw [hps] at hlen; simp at hlen ⊢; omega
        · refine hp.sublist ?_
          exact List.Sublist.append_left (List.sublist_cons_self _ _) _
        · intro k o hk hok e he hb
          have hg : ∀ k, (listed.setIfInBounds i true).getD k false = if k = i then true else listed.getD k false := by
            intro k
            simp only [Array.getD_eq_getD_getElem?, Array.getElem?_setIfInBounds]
            by_cases hk : k = i
            · subst hk; simp [hilt]
            · have : ¬ i = k := fun e => hk e.symm
              simp [hk, this]
          rw [hg] at hk ⊢
          by_cases hki : k = i
          · subst hki
            have := hpre o hok e he hb
            split
            · rfl
            · exact this
          · rw [if_neg hki] at hk
            have := hdown k o hk hok e he hb
            split
            · rfl
            · exact this
        · intro y hy
          have hilt2 : i < os.size := by omega
          rw [ho1 y (hy i hilt2)]; exact hoth y hy
        · intro b cs hb; exact hmu1 b cs (hmu b cs hb)


variable {E : Env} {X : Cx} {ι : Io} {μ : Mu} {h : Hp} {sl : Nat} {w : World} {R : List Nat}

structure SR (E : Env) (X : Cx) (ι : Io) (μ : Mu) (s : S) (a : Act) (w : World) : Prop where
  tm : Vs ι μ s.t a.tmps.toList
  inv : Inv E X ι μ s.h w
  dom : ∀ x, ι x ≠ none → x < s.n
  an : X.a = s.a
  le : s.a ≤ s.n
  df : a.defers = []

theorem wkT_vs {σ : List Nat} {keep : Nat → Bool} {μ' : Mu} (hI : Rel E ι μ h w) (hμ : ∀ b cs, μ b = some cs → μ' b = some cs) : ∀ (j : Nat) (t t' : List V) (R : List Nat) (cs : List Value), (wkT σ keep j t).run h = some (t', R) →
    Lends ι h w σ R μ' → Vs ι μ t cs → Vs (Io.via ι σ) μ' t' cs := by
  intro j t
  induction t generalizing j with
  | nil => intro t' R cs hp hB hv; cases hp; rw [hv.nil']; exact .nil
  | cons v t ih =>
    intro t' R cs hp hB hv
    simp only [wkT] at hp
    obtain ⟨v1, R1, R2, h1, h2, rfl⟩ := Rd.run_bind hp
    obtain ⟨t1, R3, R4, h3, h4, rfl⟩ := Rd.run_bind h2
    cases h4
    obtain ⟨c, cs', rfl, hc, hl⟩ := hv.head
    refine .cons ?_ (ih _ _ _ _ h3 (hB.mono fun y hy => by simp [hy]) hl)
    split at h1
    · exact mv_vr hI hμ v v1 c R1 h1 (hB.mono fun y hy => by simp [hy]) hc
    · cases h1; exact .u
theorem wkT_reads {σ : List Nat} {keep : Nat → Bool} : ∀ (j : Nat) (t t' : List V) (R : List Nat), (wkT σ keep j t).run h = some (t', R) → ∀ y, y ∈ R → ReadOk false σ h y := by
  intro j t
  induction t generalizing j with
  | nil => intro t' R hp y hy; cases hp; cases hy
  | cons v t ih =>
    intro t' R hp y hy
    simp only [wkT] at hp
    obtain ⟨v1, R1, R2, h1, h2, rfl⟩ := Rd.run_bind hp
    obtain ⟨t1, R3, R4, h3, h4, rfl⟩ := Rd.run_bind h2
    cases h4
    simp only [List.append_nil, List.mem_append] at hy
    rcases hy with hy | hy
    · split at h1
      · exact mv_reads v v1 R1 h1 y hy
      · cases h1; cases hy
    · exact ih _ _ _ h3 y hy

theorem take_range {σ : List Nat} {a k : Nat} (hs : σ.take a = List.range a) (hk : k < a) : σ[k]? = some k := by
  have := congrArg (fun l => l[k]?) hs
  simp only [List.getElem?_take, if_pos hk, List.getElem?_range hk] at this
  exact this
theorem ge_of_nodup {σ : List Nat} {a k x : Nat} (hs : σ.take a = List.range a) (hn : σ.Nodup) (hk : a ≤ k) (hx : σ[k]? = some x) : a ≤ x := by
  rcases Nat.lt_or_ge x a with h1 | h1
  · have h2 := take_range hs h1
    have h3 := pos_of hn hx
    rw [pos_of hn h2] at h3
    have := Option.some.inj h3
    omega
  · exact h1

/-- What is known behind a new telling, of an invariant. -/
theorem Inv.told {σ : List Nat} {H : List O} {R0 Rr : List Nat} (hI : Inv E X ι μ h w) (hs : σ.take X.a = List.range X.a) (hn : σ.Nodup) (hm : (O.mvs false σ σ).run h = some (H, R0)) (hsub : ∀ y, y ∈ R0 → y ∈ Rr)
    (hRr : ∀ y, y ∈ Rr → ReadOk false σ h y) : Inv E X (Io.via ι σ) (lendMu ι μ h w σ Rr) (ofL H) w := by
  obtain ⟨hrel, hlen, hflag⟩ := marsh_rel hI.rel hn hm hsub hRr
  obtain ⟨_, _, hall⟩ := omvs _ _ _ hm
  have hget : ∀ (k : Nat) o', (ofL H) k = some o' → ∃ x o, σ[k]? = some x ∧ h x = some o ∧ (o'.wr = true → o.wr = true) ∧ (∀ l k sz wr sib, o' = .row l k sz wr true sib → ∃ l k sz wr sib, o = .row l k sz wr true sib) := by
    intro k o' ho'
    have hk : k < σ.length := by have := (List.getElem?_eq_some_iff.1 (show H[k]? = some o' from ho')).1; omega
    obtain ⟨o, o2, R', e1, e2, e3, e4⟩ := hall k σ[k] (List.getElem?_eq_getElem hk)
    rw [show (ofL H) k = H[k]? from rfl, e2] at ho'
    cases ho'
    obtain ⟨g1, g2, g3⟩ := hflag k _ _ _ (List.getElem?_eq_getElem hk) e2 e1
    exact ⟨_, o, List.getElem?_eq_getElem hk, e1, fun hw => (g1 hw).1, fun l k sz wr sib he => (g3 l k sz wr sib he).2⟩
  constructor
  · exact hrel
  · intro x hx
    rw [Io.via_some (take_range hs hx)]; exact hI.anch x hx
  · intro k L hk hL
    unfold Io.via at hL
    cases hq : σ[k]? with
    | none => rw [hq] at hL; cases hL
    | some x =>
      rw [hq] at hL
      exact hI.new x L (ge_of_nodup hs hn hk hq) hL
  · intro k o' L hk ho' hwr hL
    obtain ⟨x, o, e1, e2, e3, e4⟩ := hget k o' ho'
    rw [take_range hs hk] at e1; cases e1
    rw [Io.via_some (take_range hs hk)] at hL
    exact hI.wrM k o L hk e2 (e3 hwr) hL
  · intro k l kk sz wr sib hk ho'
    obtain ⟨x, o, e1, e2, e3, e4⟩ := hget k _ ho'
    rw [take_range hs hk] at e1; cases e1
    obtain ⟨l2, k2, sz2, wr2, sib2, rfl⟩ := e4 _ _ _ _ _ rfl
    exact hI.own k _ _ _ _ _ hk e2
  · exact hI.fr
  · intro b cs hb; exact lendMu_mono _ _ (hI.mu b cs hb)
  · intro b cs hb hlt
    rcases (lendMu_cells hI.rel hb).2 with h1 | ⟨y, hyR, hyσ, l, k, sz, wr, ow, sib, L, q1, q2, q3⟩
    · exact hI.muB b cs h1 hlt
    · have : X.a ≤ y := by
        rcases Nat.lt_or_ge y X.a with h5 | h5
        · exact (hyσ (List.mem_of_getElem? (take_range hs h5))).elim
        · exact h5
      have := hI.new y L this q2
      omega
  · exact hI.size

theorem SR.weak {s s2 : S} {a : Act} {σ : List Nat} {keep : Nat → Bool} (hs : SR E X ι μ s a w) (hw : wk σ keep s = some s2) : ∃ ι' μ', SR E X ι' μ' s2 a w := by
  unfold wk at hw
  split at hw
  · rename_i hc
    obtain ⟨hc1, hc2⟩ := hc
    split at hw
    · rename_i t H Rr hp
      cases hw
      obtain ⟨t1, R1, R2, h1, h2, rfl⟩ := Rd.run_bind hp
      obtain ⟨H1, R3, R4, h3, h4, rfl⟩ := Rd.run_bind h2
      cases h4
      have hc1' : σ.take X.a = List.range X.a := by rw [hs.an]; exact hc1
      have hRr : ∀ y, y ∈ R1 ++ (R3 ++ []) → ReadOk false σ s.h y := by
        intro y hy
        simp only [List.append_nil, List.mem_append] at hy
        rcases hy with hy | hy
        · exact wkT_reads _ _ _ _ h1 y hy
        · exact omvs_reads _ _ _ (fun _ h => h) h3 y hy
      have hsub : ∀ y, y ∈ R3 → y ∈ R1 ++ (R3 ++ []) := fun y hy => by simp [hy]
      have hinv := hs.inv.told hc1' hc2 h3 hsub hRr
      obtain ⟨hlen, _, _⟩ := omvs _ _ _ h3
      refine ⟨_, _, ⟨?_, hinv, ?_, hs.an, ?_, hs.df⟩⟩
      · exact wkT_vs hs.inv.rel lendMu_mono _ _ _ _ _ h1 ((lendMu_lends hs.inv.rel).mono fun y hy => by simp [hy]) hs.tm
      · intro k hk
        show k < H.length
        rw [hlen]
        rcases Nat.lt_or_ge k σ.length with h5 | h5
        · exact h5
        · exact (hk (by simp [Io.via, List.getElem?_eq_none h5])).elim
      · show s.a ≤ H.length
        rw [hlen]
        have := congrArg List.length hc1
        simp at this; omega
    · cases hw
  · cases hw

def toExit : Ex → Exit
  | .normal => .normal
  | .exit id => .exit id
  | .goto l => .goto l
  | .ret => .ret
def CodeQ (E : Env) (X : Cx) (e : Ex) (s' : S) : Exit → Act → World → Prop := fun e' a' w' => e' = toExit e ∧ ∃ ι' μ', SR E X ι' μ' s' a' w'

/-- A loop's body, under way. -/
def wpL (P : Program) (c : Code) (Q : Exit → Act → World → Prop) (a : Act) (w : World) : Prop :=
  ∀ (b : Frame) (k : List Item) (cs : List Frame), ∃ e a' w', Q e a' w' ∧ Arrives P (lone (b.at a (.code c :: .inLoop c :: k)) cs w) b k cs e a' w'
theorem wp_of_wpL {P : Program} {c : Code} {Q : Exit → Act → World → Prop} {a : Act} (h : wpL P c Q a w) : (Code.loop c).wp P Q a w := by
  intro b k cs
  obtain ⟨e, a', w', hq, harr⟩ := h b k cs
  exact ⟨e, a', w', hq, .of_steps (.one step_loop) harr⟩
theorem wpL_more {P : Program} {c : Code} {Q : Exit → Act → World → Prop} {a : Act} (h : c.wp P (Exit.then (wpL P c Q) Q) a w) : wpL P c Q a w := by
  intro b k cs
  obtain ⟨e, a₁, w₁, hq, harr⟩ := h b (.inLoop c :: k) cs
  cases e with
  | normal =>
    obtain ⟨e₂, a₂, w₂, hq₂, harr₂⟩ := hq b k cs
    exact ⟨e₂, a₂, w₂, hq₂, .of_steps (Steps.trans harr (.one step_inLoop)) harr₂⟩
  | exit id => exact ⟨_, a₁, w₁, hq, .pass (x := .inLoop c) rfl (fun _ _ => .inl (by simp)) harr⟩
  | goto l => exact ⟨_, a₁, w₁, hq, .pass (x := .inLoop c) rfl (fun _ _ => .inl (by simp)) harr⟩
  | ret => exact ⟨_, a₁, w₁, hq, .pass (x := .inLoop c) rfl (fun _ _ => .inl (by simp)) harr⟩
  | panic ch => exact ⟨_, a₁, w₁, hq, .pass (x := .inLoop c) rfl (fun _ _ => .inl (by simp)) harr⟩
  | outgrown => exact ⟨_, a₁, w₁, hq, .pass (x := .inLoop c) rfl (fun _ _ => .inl (by simp)) harr⟩

def CodeS (E : Env) (c : Code) (s : S) (e : Ex) (s' : S) : Prop :=
  ∀ (X : Cx) (ι : Io) (μ : Mu) (a : Act) (w : World), SR E X ι μ s a w → c.wp E.P (CodeQ E X e s') a w ∧ ∀ c0, c = .loop c0 → wpL E.P c0 (CodeQ E X e s') a w

def FnS (E : Env) (f : Nat) (args : List V) (H : List O) (r : V) (H' : List O) : Prop :=
  ∀ (ι : Io) (μ : Mu) (w : World) (args' : List Value), Rel E ι μ (ofL H) w → (∀ x, ι x ≠ none → x < H.length) → (∀ (k : Nat) l kk sz wr sib, H[k]? = some (.row l kk sz wr true sib) → False) → Vs ι μ args args' →
    Calls E.P f args'.toArray w fun e w' => ∃ x ι' μ', e = .returned x ∧ FnPost E ι μ H w r H' x ι' μ' w'

def Good (E : Env) : J → Prop
  | .op sl op vals h v U R => OpS E sl op vals h v U R
  | .ops os sl is t h t' h' tr => OpsG E os sl is t h t' h' tr
  | .code c s e s' => CodeS E c s e s'
  | .fn f args H r H' => FnS E f args H r H'

theorem Inv.drew (hI : Inv E X ι μ h w) : Inv E X ι μ h w.drew := by
  refine ⟨⟨?_, hI.rel.sep, hI.rel.sym, hI.rel.kin, hI.rel.imm, hI.rel.off, hI.rel.glob⟩, hI.anch, hI.new, hI.wrM, hI.own, hI.fr.trans ⟨rfl, rfl, rfl, Nat.le_refl _, fun _ _ _ => rfl⟩, hI.mu, hI.muB, hI.size⟩
  intro x o hx
  exact (hI.rel.obj x o hx).frame (fun _ _ h => h) (fun _ _ h => h) fun _ _ => rfl

def resOne (ts : Array Value) : ResultVar → Sem Value
  | .tmp t => pure (ts.getD t undef)
  | .cell a t => do loadVar t (← asAddr (ts.getD a undef))
theorem results_eq (fn : Func) (ts : Array Value) : results fn ts = (do
    let vs ← fn.results.mapM (resOne ts)
    pure (if h : vs.size = 1 then vs[0] else .tuple vs)) := by
  unfold results
  congr 1

theorem results_run {ts : Array Value} {t : List V} (hI : Rel E ι μ h w) (ht : Vs ι μ t ts.toList) : ∀ (rs : List ResultVar) (vs : List V) (R : List Nat), (resR E.P t rs).run h = some (vs, R) →
    ∃ xs : List Value, (rs.mapM (resOne ts)).run E.P w = .ok xs w ∧ Vs ι μ vs xs := by
  have hget : ∀ x, VR ι μ (t.getD x (.t [])) (ts.getD x undef) := by
    intro x
    have := rho_vr (E := E) (w := w) hI (a := ⟨ts, []⟩) ht (.tmp x)
    exact this
  intro rs
  induction rs with
  | nil => intro vs R hp; cases hp; exact ⟨[], rfl, .nil⟩
  | cons r rs ih =>
    intro vs R hp
    cases r with
    | tmp x =>
      simp only [resR] at hp
      obtain ⟨vs1, R1, R2, h1, h2, rfl⟩ := Rd.run_bind hp
      cases h2
      obtain ⟨xs, hx, hv⟩ := ih vs1 R1 h1
      refine ⟨ts.getD x undef :: xs, ?_, .cons (hget x) hv⟩
      rw [List.mapM_cons, Sem.run_bind]
      simp only [resOne, Sem.run_pure, Result.andThen_ok, Sem.run_bind]
      rw [show (rs.mapM (resOne ts)).run E.P w = _ from hx]
      rfl
    | cell x ty =>
      simp only [resR] at hp
      obtain ⟨c, R1, R2, h1, h2, rfl⟩ := Rd.run_bind hp
      obtain ⟨n, R3, R4, h3, h4, rfl⟩ := Rd.run_bind h2
      obtain ⟨v, R5, R6, h5, h6, rfl⟩ := Rd.run_bind h4
      obtain ⟨vs1, R7, R8, h7, h8, rfl⟩ := Rd.run_bind h6
      cases h8
      obtain ⟨xs, hx, hv⟩ := ih vs1 R7 h7
      obtain ⟨z, hz, hr⟩ := load_run (w := w) hI h1 h3 h5 (hget x)
      refine ⟨z :: xs, ?_, .cons hr hv⟩
      have hptr : ∃ a, ts.getD x undef = .pointer (some a) := by
        have hg := hget x
        unfold loadV at h5
        split at h5
        · rename_i y o he
          rw [he] at hg
          obtain ⟨L, _, e⟩ := hg.p_inv
          exact ⟨_, e⟩
        · rename_i l o pl he
          rw [he] at hg
          obtain ⟨blk, bo, cs, g, e, _⟩ := hg.q_inv.q_cases
          exact ⟨_, e⟩
        · cases h5
      obtain ⟨p, hp2⟩ := hptr
      rw [hp2] at hz
      rw [List.mapM_cons, Sem.run_bind]
      have : (resOne ts (.cell x ty)).run E.P w = .ok z w := by
        show (do loadVar ty (← asAddr (ts.getD x undef)) : Sem Value).run E.P w = .ok z w
        rw [hp2]
        have e1 : (Instr.loadAt ty (.pointer (some p))) = loadVar ty p := rfl
        rw [e1] at hz
        simpa [asAddr] using hz
      rw [this]
      simp only [Result.andThen_ok, Sem.run_bind, hx, Sem.run_pure]


variable {E : Env} {X : Cx} {ι : Io} {μ : Mu} {h : Hp} {sl : Nat} {w : World} {R : List Nat}

theorem CodeS.mk {c : Code} {s s' : S} {e : Ex} (h : ∀ (X : Cx) (ι : Io) (μ : Mu) (a : Act) (w : World), SR E X ι μ s a w → c.wp E.P (CodeQ E X e s') a w) (hl : ∀ c0, c ≠ .loop c0) : CodeS E c s e s' :=
  fun X ι μ a w hs => ⟨h X ι μ a w hs, fun c0 hc => (hl c0 hc).elim⟩

theorem op_prim (hE : EnvOk E) {op : Op} {vals : List V} {v : V} {U : Up} (hp : (pop E sl op vals).run h = some ((v, U), R)) : OpS E sl op vals h v U R := by
  intro h2 hh X ι μ w a o ho hI hsl ha hv next Q hK
  have hp2 := Rd.local hp hh
  obtain ⟨x, w', ι', hr, hvr, hI', hoth, hmono⟩ := pop_goes hE hp2 hI (by simpa using hsl 0 (by omega)) ha ho hv
  have hK' := hK x w' ι' μ hvr hI' hmono (fun y hy => hoth y (by omega)) (fun _ _ h => h)
  unfold Oper.wp
  rcases hr with hr | ⟨hr, rfl⟩
  · rw [hr]; exact hK'
  · rw [hr]; exact hK'

theorem op_call (hE : EnvOk E) {fo : Operand} {as : Array Operand} {ts : Array TypeId} {g : Nat} {x y vs : List V} {σ : List Nat} {args : List V} {H : List O} {r : V} {H' : List O} {u1 u2 u3 : Up} {R1 R2 R3 bs : List Nat} {fn : Func}
    (hfn : E.P.funcs[g]? = some fn) (hbody : fn.body.isSome = true) (hn : σ.Nodup) (hm : (marsh true σ (x ++ vs ++ y)).run h = some ((args, H), R)) (ih : FnS E g args H r H') (hl1 : σ.length ≤ H'.length) (hl2 : H'.length ≤ σ.length + 4)
    (hb : (backs (homeOf σ sl) σ H').run h = some (u1, R1)) (hnw : news (homeOf σ sl) σ.length sl (H'.drop σ.length) = some u2) (hlt : (lent σ R).run h = some (bs, R2))
    (hd : (demote (if r.hasR || H'.any O.hasR then bs else [])).run h = some (u3, R3)) :
    OpS E sl (.call ⟨.value fo, as, ts⟩) (.f g x y :: vs) h (r.ren (homeOf σ sl)) (u1 ++ u2 ++ u3) (R ++ R1 ++ R2 ++ R3) := by
  intro h2 hh X ι μ w a o ho hI hsl ha hv next Q hK
  have hm2 := Rd.local hm fun z hz => hh z (by simp [hz])
  have hb2 := Rd.local hb fun z hz => hh z (by simp [hz])
  have hlt2 := Rd.local hlt fun z hz => hh z (by simp [hz])
  have hd2 := Rd.local hd fun z hz => hh z (by simp [hz])
  obtain ⟨args1, Ra, Rb, h1, h3, rfl⟩ := Rd.run_bind hm2
  obtain ⟨H1, Rc, Rd', h4, h5, rfl⟩ := Rd.run_bind h3
  cases h5
  have hRr : ∀ z, z ∈ Ra ++ (Rc ++ []) → ReadOk true σ h2 z := by
    intro z hz
    simp only [List.append_nil, List.mem_append] at hz
    rcases hz with hz | hz
    · exact mvs_reads _ _ _ h1 z hz
    · exact omvs_reads _ _ _ (fun _ h => h) h4 z hz
  have hsub : ∀ z, z ∈ Rc → z ∈ Ra ++ (Rc ++ []) := fun z hz => by simp [hz]
  obtain ⟨hrel, hlen, hflag⟩ := marsh_rel hI.rel hn h4 hsub hRr
  obtain ⟨_, hmem, hall⟩ := omvs _ _ _ h4
  have hops : (Op.call ⟨.value fo, as, ts⟩).operands.toList.map a.eval = a.eval fo :: (as.map a.eval).toList := by simp [Op.operands, Call.operands]
  rw [hops] at hv
  obtain ⟨x1, l1, e1, hx, hvs⟩ := hv.head
  cases e1
  obtain ⟨cs, ds, hf, h8, h9⟩ := hx.f_inv
  have hargs := mvs_vr hI.rel (lendMu_mono (ι := ι) (μ := μ) (h := h2) (w := w) (σ := σ) (R := Ra ++ (Rc ++ []))) _ _ _ _ h1 ((lendMu_lends hI.rel).mono fun z hz => by simp [hz]) ((h8.append hvs).append h9)
  have hcall := ih _ _ w _ hrel (by
      intro k hk
      rw [hlen]
      rcases Nat.lt_or_ge k σ.length with h5 | h5
      · exact h5
      · exact (hk (by simp [Io.via, List.getElem?_eq_none h5])).elim) (by
      intro k l kk sz wr sib hk
      have hk2 : k < σ.length := by have := (List.getElem?_eq_some_iff.1 hk).1; omega
      obtain ⟨o1, o2, R', q1, q2, q3, q4⟩ := hall k _ (List.getElem?_eq_getElem hk2)
      rw [hk] at q2; cases q2
      obtain ⟨_, _, g3⟩ := hflag k _ _ _ (List.getElem?_eq_getElem hk2) hk q1
      have := (g3 _ _ _ _ _ rfl).1
      cases this) hargs
  have hrun : (execOp a.eval o).run E.P w = .ok (.enter g (cs ++ (as.map a.eval).toList ++ ds).toArray) w := by
    obtain ⟨dst, op', type, pos, after, guard⟩ := o
    simp only at ho
    subst ho
    show (do let d ← resolve a.eval ⟨.value fo, as, ts⟩ type; invoke d.target d.args : Sem Next).run E.P w = _
    simp only [resolve, hf, Deferred.ofValue, pure_bind, invoke]
    have e2 : (cs.toArray ++ as.map a.eval ++ ds.toArray) = (cs ++ (as.map a.eval).toList ++ ds).toArray := by
      apply Array.ext'; simp
    rw [e2]
    have hnb : fn.body.isNone = false := by cases hq : fn.body <;> simp [hq] at hbody ⊢
    simp only [callFunc, Sem.run_bind, run_program, Result.andThen_ok, hfn, hE.noNG g fn hfn, hnb, Bool.false_eq_true, if_false, Sem.run_pure]
  unfold Oper.wp
  rw [hrun]
  show Calls E.P g _ w _
  refine hcall.mono fun e w' he => ?_
  obtain ⟨z, ι', μ', rfl, hP⟩ := he
  obtain ⟨ιn, μn, g1, g2, g3, g4, g5⟩ := call_back (args := x ++ vs ++ y) (args' := args) (cs := cs) hI hn h4 hsub hRr (fun z hz => by simp [hmem z hz]) hP hl1 hl2 hsl ha hb2 hnw hlt2 hd2
  exact hK z w' ιn μn g1 g2 g3 g4 g5

theorem vs_start {args : List V} {args' : List Value} {n : Nat} (hv : Vs ι μ args args') : Vs ι μ (args ++ List.replicate (n - args.length) (.t [])) (args'.toArray ++ Array.replicate (n - args'.toArray.size) undef).toList := by
  have : (args'.toArray ++ Array.replicate (n - args'.toArray.size) undef).toList = args' ++ List.replicate (n - args.length) undef := by
    simp [hv.1]
  rw [this]
  refine hv.append ?_
  generalize n - args.length = k
  induction k with
  | zero => exact .nil
  | succ k ih => exact .cons vr_undef ih

theorem fn_run {f : Nat} {args : List V} {H : List O} {r : V} {H' : List O} {fn : Func} {c : Code} {e : Ex} {s' : S} {rs : List V} {τ R' : List Nat} (hfn : E.P.funcs[f]? = some fn) (hb : fn.body = some c)
    (ih : CodeS E c ⟨args ++ List.replicate (fn.ntmps - args.length) (.t []), ofL H, H.length, H.length⟩ e s') (he : e = .normal ∨ e = .ret)
    (hr : (resR E.P s'.t fn.results.toList).run s'.h = some (rs, R')) (hτ : τ.take H.length = List.range H.length) (hn : τ.Nodup) (hm : (marsh false τ [one1 rs]).run s'.h = some (([r], H'), R)) : FnS E f args H r H' := by
  intro ι μ w args' hrel hdom hown hv
  refine calls_of_wp hfn hb ?_
  let X : Cx := ⟨w.heap.size, WrB ι H, w, H.length, ι, μ⟩
  have hI : Inv E X ι μ (ofL H) w := by
    refine ⟨hrel, fun _ _ => rfl, fun x L hx hL => ?_, fun x o L hx ho hwr hL => ?_, fun x l k sz wr sib hx ho => hown x l k sz wr sib ho, Fr.refl _ _ _, fun _ _ h => h, fun b cs hb _ => .inl hb, Nat.le_refl _⟩
    · have := hdom x (by simp [hL])
      have : H.length ≤ x := hx
      omega
    · exact .inr ⟨x, o, L, ho, hwr, hL, rfl⟩
  have hs : SR E X ι μ ⟨args ++ List.replicate (fn.ntmps - args.length) (.t []), ofL H, H.length, H.length⟩ { tmps := args'.toArray ++ Array.replicate (fn.ntmps - args'.toArray.size) undef, defers := [] } w :=
    ⟨vs_start hv, hI, hdom, rfl, Nat.le_refl _, rfl⟩
  refine wp_mono (ih X ι μ _ w hs).1 fun e' a' w' hq => ?_
  obtain ⟨rfl, ι', μ', hs'⟩ := hq
  have main : a'.defers = [] ∧ ∃ v, (results fn a'.tmps).run E.P w' = .ok v w' ∧ ∃ x ι'' μ'', Ending.returned v = .returned x ∧ FnPost E ι μ H w r H' x ι'' μ'' w' := by
    refine ⟨hs'.df, ?_⟩
    obtain ⟨xs, hxs, hvx⟩ := results_run (w := w') hs'.inv.rel hs'.tm _ _ _ hr
    obtain ⟨v, hv1, hv2⟩ : ∃ v, (results fn a'.tmps).run E.P w' = .ok v w' ∧ VR ι' μ' (one1 rs) v := by
      have hmap : (fn.results.mapM (resOne a'.tmps)).run E.P w' = .ok xs.toArray w' := by
        rw [← Array.toArray_toList (xs := fn.results)]
        simp only [List.mapM_toArray, Sem.run_map, hxs, Result.andThen_ok]
      refine ⟨if h : xs.toArray.size = 1 then xs.toArray[0] else .tuple xs.toArray, ?_, ?_⟩
      · rw [results_eq, Sem.run_bind, hmap]
        rfl
      · match rs, xs, hvx with
        | [], [], hvx => exact .mk_t (cs := []) .nil
        | [u], [y], hvx => exact Vs.one hvx
        | u :: u' :: l, y :: y' :: l', hvx =>
          have : ¬ ((y :: y' :: l').toArray.size = 1) := by simp
          rw [dif_neg this]
          exact .mk_t hvx
        | [], _ :: _, hvx => have := hvx.1; simp at this
        | _ :: _, [], hvx => have := hvx.1; simp at this
        | [u], _ :: _ :: _, hvx => have := hvx.1; simp at this
        | _ :: _ :: _, [y], hvx => have := hvx.1; simp at this
    refine ⟨v, hv1, ?_⟩
    obtain ⟨r1, Ra, Rb, h1, h3, rfl⟩ := Rd.run_bind hm
    obtain ⟨H1, Rc, Rd', h4, h5, rfl⟩ := Rd.run_bind h3
    cases h5
    have hRr : ∀ z, z ∈ Ra ++ (Rc ++ []) → ReadOk false τ s'.h z := by
      intro z hz
      simp only [List.append_nil, List.mem_append] at hz
      rcases hz with hz | hz
      · exact mvs_reads _ _ _ h1 z hz
      · exact omvs_reads _ _ _ (fun _ h => h) h4 z hz
    have hsub : ∀ z, z ∈ Rc → z ∈ Ra ++ (Rc ++ []) := fun z hz => by simp [hz]
    have hinv := hs'.inv.told (σ := τ) hτ hn h4 hsub hRr
    obtain ⟨hlen, _, _⟩ := omvs _ _ _ h4
    have hval := mvs_vr hs'.inv.rel (lendMu_mono (ι := ι') (μ := μ') (h := s'.h) (w := w') (σ := τ) (R := Ra ++ (Rc ++ []))) _ _ _ _ h1 ((lendMu_lends hs'.inv.rel).mono fun z hz => by simp [hz]) (.cons hv2 .nil)
    refine ⟨v, _, _, rfl, ⟨Vs.one hval, hinv.rel, fun k hk => hinv.anch k hk, fun k L hk hL => hinv.new k L hk hL, fun k hk => ?_, hinv.fr, hinv.mu, hinv.muB⟩⟩
    rw [hlen]
    rcases Nat.lt_or_ge k τ.length with h5 | h5
    · exact h5
    · exact (hk (by simp [Io.via, List.getElem?_eq_none h5])).elim
  rcases he with rfl | rfl
  · exact main
  · exact main

theorem region_end {os : Array Oper} {s : S} {t' : List V} {h' : Hp} {a' : Act} {w' : World} {ι0 ι' : Io} {μ' : Mu} (hdom : ∀ x, ι0 x ≠ none → x < s.n) (han : X.a = s.a) (hle : s.a ≤ s.n) (hm : Mid E X ι' μ' s.n [] t' h' a' w')
    (hoth : ∀ y, (∀ i, i < os.size → y < s.n + 4 * i ∨ s.n + 4 * i + 4 ≤ y) → ι' y = ι0 y) : SR E X ι' μ' ⟨t', h', s.n + 4 * os.size, s.a⟩ a' w' := by
  refine ⟨hm.tm, hm.inv, fun y hy => ?_, han, by simp only; omega, hm.df⟩
  rcases Nat.lt_or_ge y (s.n + 4 * os.size) with h1 | h1
  · exact h1
  · exfalso
    have h2 := hoth y fun i hi => by omega
    rw [h2] at hy
    have := hdom y hy
    omega

theorem ros_eq : ∀ l : List V, V.ros l = l.map V.ro
  | [] => rfl
  | v :: l => by rw [V.ros, ros_eq l]; rfl
theorem VR.ro {ι : Io} {μ : Mu} {v x} (h : VR ι μ v x) : VR ι μ v.ro x := by
  induction h with
  | u => exact .u
  | c h =>
    cases h with
    | sn h => exact .c .r0
    | b => exact .c .b
    | i => exact .c .i
    | pn => exact .c .pn
    | z => exact .c .z
    | tx => exact .c .tx
    | r g h1 h2 h3 h4 => exact .c (.r g h1 h2 h3 h4)
    | r0 => exact .c .r0
    | q g h1 h2 h3 => exact .c (.q g h1 h2 h3)
  | p h => exact .p h
  | s h h2 h3 => exact .s h h2 h3
  | s0 h => exact .s0 h
  | m h => exact .m h
  | f hx hy h1 h2 => exact .f hx hy h1 h2
  | a hl _ ih =>
    rw [V.ro, ros_eq]
    exact .a (by simpa using hl) fun j hj => by simpa using ih j (by simpa using hj)
  | t hl _ ih =>
    rw [V.ro, ros_eq]
    exact .t (by simpa using hl) fun j hj => by simpa using ih j (by simpa using hj)
theorem roT_vs {ι : Io} {μ : Mu} {m : Nat → Bool} : ∀ (l : List V) (j : Nat) (cs : List Value), Vs ι μ l cs → Vs ι μ (roT m j l) cs
  | [], _, _, h => h
  | v :: l, j, cs, h => by
    obtain ⟨x, cs', rfl, hv, hl⟩ := h.head
    refine .cons ?_ (roT_vs l (j + 1) cs' hl)
    split
    · exact hv.ro
    · exact hv
theorem VR.nilAt {ι : Io} {μ : Mu} {y : V} (hy : VR ι μ y (.slice none 0 0)) : ∀ (ps : List Nat) (v v' : V) (x : Value), VR ι μ v x → V.nilAt y ps v = some v' → VR ι μ v' x := by
  intro ps
  induction ps with
  | nil =>
    intro v v' x hv h
    unfold V.nilAt at h
    split at h
    · cases h
      cases hv with
      | c h => cases h; exact hy
    all_goals first | contradiction | cases h
  | cons j ps ih =>
    intro v v' x hv h
    unfold V.nilAt at h
    split at h
    · rename_i e; cases e
    · rename_i e; cases e
      rename_i l
      split at h
      · rename_i u hu
        split at h
        · rename_i u' hu'
          cases h
          cases hv with
          | c h => cases h
          | a hl hh =>
            refine .a (by simpa using hl) fun i hi => ?_
            have hi' : i < l.length := by simpa using hi
            rw [List.getElem_set]
            split
            · rename_i e; subst e
              obtain ⟨hj, rfl⟩ := List.getElem?_eq_some_iff.1 hu
              exact ih _ _ _ (hh _ hj) hu'
            · exact hh i hi'
        · cases h
      · cases h
    · rename_i e; cases e
      rename_i l
      split at h
      · rename_i u hu
        split at h
        · rename_i u' hu'
          cases h
          cases hv with
          | c h => cases h
          | t hl hh =>
            refine .t (by simpa using hl) fun i hi => ?_
            have hi' : i < l.length := by simpa using hi
            rw [List.getElem_set]
            split
            · rename_i e; subst e
              obtain ⟨hj, rfl⟩ := List.getElem?_eq_some_iff.1 hu
              exact ih _ _ _ (hh _ hj) hu'
            · exact hh i hi'
        · cases h
      · cases h
    · cases h
theorem Inv.cell (hI : Inv E X ι μ h w) {y c : Nat} {l : List V} {sz : Nat} {wr ow : Bool} {sib : Option Nat} {v v' : V} (hy : h y = some (.row l 0 sz wr ow sib)) (hl : l[c]? = some v)
    (hv : ∀ z, VR ι μ v z → VR ι μ v' z) : Inv E X ι μ (h.set y (some (.row (l.set c v') 0 sz wr ow sib))) w := by
  have key : ∀ x o, (h.set y (some (.row (l.set c v') 0 sz wr ow sib))) x = some o → ∃ o', h x = some o' ∧ o'.wr = o.wr ∧ o'.sib = o.sib := by
    intro x o hx
    simp only [Hp.set] at hx
    split at hx
    · rename_i e; subst e; cases hx; exact ⟨_, hy, rfl, rfl⟩
    · exact ⟨o, hx, rfl, rfl⟩
  refine ⟨⟨?_, ?_, ?_, ?_, hI.rel.imm, ?_, hI.rel.glob⟩, hI.anch, hI.new, ?_, ?_, hI.fr, hI.mu, hI.muB, hI.size⟩
  · intro x o hx
    simp only [Hp.set] at hx
    split at hx
    · rename_i e; subst e; cases hx
      obtain ⟨h1, h2⟩ := hI.rel.obj _ _ hy
      refine ⟨h1, ?_⟩
      rcases h2 with ⟨rfl, _⟩ | ⟨L, hL, hz, hN, cs, e, fz, hw, hc, hf, hh⟩
      · simp at hl
      · refine .inr ⟨L, hL, hz, by simpa using hN, cs, e, fz, hw, hc, hf, fun j u hu => ?_⟩
        rw [List.getElem?_set] at hu
        split at hu
        · rename_i e; subst e
          split at hu
          · cases hu
            obtain ⟨z, hz1, hz2, hz3⟩ := hh _ _ hl
            exact ⟨z, hz1, hv z hz2, hz3⟩
          · cases hu
        · exact hh j u hu
    · exact hI.rel.obj _ _ hx
  · intro x z ox oz L M hx hz hne hwr hL hM hb
    obtain ⟨o1, e1, e2, e3⟩ := key _ _ hx
    obtain ⟨o2, e4, e5, e6⟩ := key _ _ hz
    rw [← e3]
    exact hI.rel.sep x z o1 o2 L M e1 e4 hne (by rw [e2]; exact hwr) hL hM hb
  · intro x z ox oz hx hz hs
    obtain ⟨o1, e1, e2, e3⟩ := key _ _ hx
    obtain ⟨o2, e4, e5, e6⟩ := key _ _ hz
    rw [← e6]
    exact hI.rel.sym x z o1 o2 e1 e4 (by rw [e3]; exact hs)
  · intro x ox z hx hs
    obtain ⟨o1, e1, e2, e3⟩ := key _ _ hx
    exact hI.rel.kin x o1 z e1 (by rw [e3]; exact hs)
  · intro b cs hb x ox L hx hwr hL
    obtain ⟨o1, e1, e2, e3⟩ := key _ _ hx
    exact hI.rel.off b cs hb x o1 L e1 (by rw [e2]; exact hwr) hL
  · intro x o L hx ho hwr hL
    obtain ⟨o1, e1, e2, e3⟩ := key _ _ ho
    exact hI.wrM x o1 L hx e1 (by rw [e2]; exact hwr) hL
  · intro x l2 k sz2 wr2 sib2 hx ho
    simp only [Hp.set] at ho
    split at ho
    · rename_i e; subst e; cases ho; exact hI.own _ _ _ _ _ _ hx hy
    · exact hI.own _ _ _ _ _ _ hx ho
theorem Inv.flag (hI : Inv E X ι μ h w) {y : Nat} {l : List V} {k sz : Nat} {wr ow wr' ow' : Bool} {sib : Option Nat} (hy : h y = some (.row l k sz wr ow sib)) (h1 : wr' = true → wr = true) (h2 : ow' = true → ow = true) (h3 : ow' = true → wr' = true) :
    Inv E X ι μ (h.set y (some (.row l k sz wr' ow' sib))) w := by
  have key : ∀ x o, (h.set y (some (.row l k sz wr' ow' sib))) x = some o → ∃ o', h x = some o' ∧ (o.wr = true → o'.wr = true) ∧ o'.sib = o.sib := by
    intro x o hx
    simp only [Hp.set] at hx
    split at hx
    · rename_i e; subst e; cases hx; exact ⟨_, hy, h1, rfl⟩
    · exact ⟨o, hx, id, rfl⟩
  refine ⟨⟨?_, ?_, ?_, ?_, hI.rel.imm, ?_, hI.rel.glob⟩, hI.anch, hI.new, ?_, ?_, hI.fr, hI.mu, hI.muB, hI.size⟩
  · intro x o hx
    simp only [Hp.set] at hx
    split at hx
    · rename_i e; subst e; cases hx
      obtain ⟨g1, g2⟩ := hI.rel.obj _ _ hy
      refine ⟨h3, ?_⟩
      rcases g2 with g2 | ⟨L, hL, hz, hN, cs, e, fz, hw, hc, hf, hh⟩
      · exact .inl g2
      · exact .inr ⟨L, hL, hz, hN, cs, e, fz, hw, hc, fun q => hf (h1 q), hh⟩
    · exact hI.rel.obj _ _ hx
  · intro x z ox oz L M hx hz hne hwr hL hM hb
    obtain ⟨o1, e1, e2, e3⟩ := key _ _ hx
    obtain ⟨o2, e4, e5, e6⟩ := key _ _ hz
    rw [← e3]
    exact hI.rel.sep x z o1 o2 L M e1 e4 hne (e2 hwr) hL hM hb
  · intro x z ox oz hx hz hs
    obtain ⟨o1, e1, e2, e3⟩ := key _ _ hx
    obtain ⟨o2, e4, e5, e6⟩ := key _ _ hz
    rw [← e6]
    exact hI.rel.sym x z o1 o2 e1 e4 (by rw [e3]; exact hs)
  · intro x ox z hx hs
    obtain ⟨o1, e1, e2, e3⟩ := key _ _ hx
    exact hI.rel.kin x o1 z e1 (by rw [e3]; exact hs)
  · intro b cs hb x ox L hx hwr hL
    obtain ⟨o1, e1, e2, e3⟩ := key _ _ hx
    exact hI.rel.off b cs hb x o1 L e1 (e2 hwr) hL
  · intro x o L hx ho hwr hL
    obtain ⟨o1, e1, e2, e3⟩ := key _ _ ho
    exact hI.wrM x o1 L hx e1 (e2 hwr) hL
  · intro x l2 k sz2 wr2 sib2 hx ho
    simp only [Hp.set] at ho
    split at ho
    · rename_i e; subst e; cases ho
      have := h2 rfl
      subst this
      exact hI.own _ _ _ _ _ _ hx hy
    · exact hI.own _ _ _ _ _ _ hx ho
theorem SR.less {s s2 : S} {a : Act} (hs : SR E X ι μ s a w) (hw : Less s s2) : ∃ ι' μ', SR E X ι' μ' s2 a w := by
  have hsl : ι s.n = none := Classical.byContradiction fun hc => Nat.lt_irrefl _ (hs.dom _ hc)
  have hdom : ∀ x, (Io.set ι s.n none) x ≠ none → x < s.n + 1 := by
    intro x hx
    simp only [Io.set] at hx
    split at hx
    · rename_i e; subst e; exact Nat.lt_succ_self _
    · exact Nat.lt_succ_of_lt (hs.dom x hx)
  cases hw with
  | «at» j ps k sz hj hp =>
    have ha := hs.inv.alloc (q := none) (o := .row [] k sz true true none) (w' := w) hsl (by rw [hs.an]; exact hs.le) rfl (fun L h => by cases h) ⟨Nat.le_refl _, rfl, rfl, rfl, fun _ _ => rfl⟩ ⟨fun _ => rfl, .inl ⟨rfl, by simp [Io.set]⟩⟩
    refine ⟨_, _, ⟨?_, ha, hdom, hs.an, Nat.le_succ_of_le hs.le, hs.df⟩⟩
    have hv := hs.tm.mono (ι' := Io.set ι s.n none) (Io.set_mono _ hsl) (fun _ _ h => h)
    refine ⟨by simpa using hv.1, fun i v hi => ?_⟩
    rw [List.getElem?_set] at hi
    split at hi
    · rename_i e
      subst e
      split at hi
      · cases hi
        obtain ⟨x, hx, hr⟩ := hv.2 j _ hj
        exact ⟨x, hx, VR.nilAt (.s0 (q := none) (by simp [Io.set])) _ _ _ _ hr hp⟩
      · cases hi
    · exact hv.2 i v hi
  | cell y c k sz hy hc =>
    have ha := hs.inv.alloc (q := none) (o := .row [] k sz true true none) (w' := w) hsl (by rw [hs.an]; exact hs.le) rfl (fun L h => by cases h) ⟨Nat.le_refl _, rfl, rfl, rfl, fun _ _ => rfl⟩ ⟨fun _ => rfl, .inl ⟨rfl, by simp [Io.set]⟩⟩
    have hne : y ≠ s.n := by rintro rfl; exact (hs.inv.rel.obj _ _ hy).some hsl
    have hy2 : (s.h.set s.n (some (.row [] k sz true true none))) y = _ := (by simp only [Hp.set, if_neg hne]; exact hy)
    refine ⟨_, _, ⟨?_, ha.cell hy2 hc fun z hz => ?_, hdom, hs.an, Nat.le_succ_of_le hs.le, hs.df⟩⟩
    · exact hs.tm.mono (ι' := Io.set ι s.n none) (Io.set_mono _ hsl) (fun _ _ h => h)
    · cases hz with
      | c h => cases h; exact .s0 (q := none) (by simp [Io.set])
  | flag y w' ow' hy hc =>
    simp only [Bool.and_eq_true, Bool.or_eq_true, Bool.not_eq_true'] at hc
    obtain ⟨⟨c1, c2⟩, c3⟩ := hc
    exact ⟨_, _, ⟨hs.tm, hs.inv.flag hy (fun q => by simp [q] at c1; exact c1) (fun q => by simp [q] at c2; exact c2) (fun q => by simp [q] at c3; exact c3), hs.dom, hs.an, hs.le, hs.df⟩⟩
  | roc y c hy hc =>
    refine ⟨_, _, ⟨hs.tm, hs.inv.cell hy hc fun z hz => ?_, hs.dom, hs.an, hs.le, hs.df⟩⟩
    cases hz with
    | c h => cases h; exact .c .r0
  | ro m => exact ⟨ι, μ, roT_vs _ _ _ hs.tm, hs.inv, hs.dom, hs.an, hs.le, hs.df⟩
  | own j k sz hj =>
    have hsl : ι s.n = none := Classical.byContradiction fun hc => Nat.lt_irrefl _ (hs.dom _ hc)
    have ha := hs.inv.alloc (q := none) (o := .row [] k sz true true none) (w' := w) hsl (by rw [hs.an]; exact hs.le) rfl (fun L h => by cases h) ⟨Nat.le_refl _, rfl, rfl, rfl, fun _ _ => rfl⟩ ⟨fun _ => rfl, .inl ⟨rfl, by simp [Io.set]⟩⟩
    refine ⟨_, _, ⟨?_, ha, ?_, hs.an, Nat.le_succ_of_le hs.le, hs.df⟩⟩
    · have hv := hs.tm.mono (ι' := Io.set ι s.n none) (Io.set_mono _ hsl) (fun _ _ h => h)
      obtain ⟨x, hx, hr⟩ := hs.tm.2 j _ hj
      have hx0 : x = .slice none 0 0 := by
        cases hr with
        | c h => cases h; rfl
      subst hx0
      refine ⟨by simpa using hv.1, fun i v hi => ?_⟩
      rw [List.getElem?_set] at hi
      split at hi
      · rename_i e
        subst e
        split at hi
        · cases hi
          exact ⟨_, hx, .s0 (q := none) (by simp [Io.set])⟩
        · cases hi
      · exact hv.2 i v hi
    · intro x hx
      simp only [Io.set] at hx
      split at hx
      · rename_i e; subst e; exact Nat.lt_succ_self _
      · exact Nat.lt_succ_of_lt (hs.dom x hx)
/-- **The theorem.** -/
theorem sound (hE : EnvOk E) {j : J} (hd : Do E j) : Good E j := by
  induction hd with
  | prim hp => exact op_prim hE hp
  | call hfn hb hn hm _ hl1 hl2 hb2 hnw hlt hdm ih => exact op_call hE hfn hb hn hm ih hl1 hl2 hb2 hnw hlt hdm
  | nil => exact .nil
  | no ho hw _ ih => exact .cons (.no ho hw) ih
  | yes ho hw _ _ ih1 ih2 => exact .cons (.yes ho hw ih1) ih2
  | skip => exact CodeS.mk (fun X ι μ a w hs => wp_skip ⟨rfl, ι, μ, hs⟩) (fun _ => by simp)
  | label => exact CodeS.mk (fun X ι μ a w hs => wp_label ⟨rfl, ι, μ, hs⟩) (fun _ => by simp)
  | ret => exact CodeS.mk (fun X ι μ a w hs => wp_ret ⟨rfl, ι, μ, hs⟩) (fun _ => by simp)
  | exit => exact CodeS.mk (fun X ι μ a w hs => wp_exit ⟨rfl, ι, μ, hs⟩) (fun _ => by simp)
  | goto => exact CodeS.mk (fun X ι μ a w hs => wp_goto ⟨rfl, ι, μ, hs⟩) (fun _ => by simp)
  | @region id os s t' h' tr _ ih =>
    refine CodeS.mk (fun X ι μ a w hs => ?_) (fun _ => by simp)
    refine wp_region (ops_range (X := X) (ι := ι) (μ := μ) ih List.nodup_range ⟨hs.tm, hs.inv, fun i _ j _ => ?_, by rw [hs.an]; exact hs.le, hs.df⟩ ?_)
    · cases hq : ι (s.n + 4 * i + j) with
      | none => rfl
      | some q => have := hs.dom (s.n + 4 * i + j) (by simp [hq]); omega
    · intro ι' μ' a' w' hm hoth _
      refine ⟨rfl, ι', μ', region_end hs.dom hs.an hs.le hm fun y hy => hoth y fun i hi => hy i (by simpa using hi)⟩
  | @draw id os s t' h' tr _ hind ih =>
    refine CodeS.mk (fun X ι μ a w hs => ?_) (fun _ => by simp)
    simp only [indep, Bool.and_eq_true] at hind
    have hrem : remOf os.size (Array.replicate os.size false) = List.range os.size := by
      unfold remOf
      refine List.filter_eq_self.2 fun i hi => ?_
      have : i < os.size := by simpa using hi
      simp [Array.getD, this]
    refine wp_region_any hE.mixed ?_
    refine any_run (X := X) (ι0 := ι) (μ0 := μ) (t' := t') (h' := h') (fun i o ho e he hb => ?_) ?_ os.size _ s.t s.h tr ι μ a _ (by simp) (by rw [hrem]; simp) (by rw [hrem]; exact ih) (indepP_spec _ hind.2) ?_ ?_ (fun _ _ => rfl) (fun _ _ h => h)
    · have := backw_spec os.toList 0 hind.1 i o (by simpa using ho) e he hb
      omega
    · intro ι' μ' a' w' hm hoth _
      exact ⟨rfl, ι', μ', region_end hs.dom hs.an hs.le hm hoth⟩
    · intro i o hi
      simp only [Array.getD_eq_getD_getElem?, Array.getElem?_replicate] at hi
      split at hi <;> simp at hi
    · rw [hrem]
      refine ⟨hs.tm, hs.inv.drew, fun i _ j _ => ?_, by rw [hs.an]; exact hs.le, hs.df⟩
      cases hq : ι (s.n + 4 * i + j) with
      | none => rfl
      | some q => have := hs.dom (s.n + 4 * i + j) (by simp [hq]); omega
  | seq _ _ ih1 ih2 =>
    refine CodeS.mk (fun X ι μ a w hs => ?_) (fun _ => by simp)
    refine wp_seq (wp_mono (ih1 X ι μ a w hs).1 fun e a' w' hq => ?_)
    obtain ⟨rfl, ι', μ', hs'⟩ := hq
    exact (ih2 X ι' μ' a' w' hs').1
  | @seqx x y s e s1 _ hne ih =>
    refine CodeS.mk (fun X ι μ a w hs => ?_) (fun _ => by simp)
    refine wp_seq (wp_mono (ih X ι μ a w hs).1 fun e' a' w' hq => ?_)
    obtain ⟨rfl, hq2⟩ := hq
    cases e with
    | normal => exact (hne rfl).elim
    | exit id => exact ⟨rfl, hq2⟩
    | goto l => exact ⟨rfl, hq2⟩
    | ret => exact ⟨rfl, hq2⟩
  | @cond c x y s e s1 b hc _ ih =>
    refine CodeS.mk (fun X ι μ a w hs => ?_) (fun _ => by simp)
    have hv := rho_vr (E := E) (w := w) hs.inv.rel hs.tm c
    rw [hc] at hv
    exact wp_cond hv.b_inv (ih X ι μ a w hs).1
  | @block id c s e s1 _ ih =>
    refine CodeS.mk (fun X ι μ a w hs => ?_) (fun _ => by simp)
    refine wp_block (wp_mono (ih X ι μ a w hs).1 fun e' a' w' hq => ?_)
    obtain ⟨rfl, hq2⟩ := hq
    cases e with
    | normal => exact ⟨rfl, hq2⟩
    | exit id' =>
      show (if id' = id then _ else _)
      by_cases hid : id' = id
      · subst hid
        rw [if_pos rfl]
        rw [if_pos rfl]
        exact ⟨rfl, hq2⟩
      · rw [if_neg hid]
        have : ¬ (Ex.exit id' = Ex.exit id) := by intro e; cases e; exact hid rfl
        rw [if_neg this]
        exact ⟨rfl, hq2⟩
    | goto l => exact ⟨rfl, hq2⟩
    | ret => exact ⟨rfl, hq2⟩
  | @loop c s s1 e s2 _ _ ih1 ih2 =>
    intro X ι μ a w hs
    have key : wpL E.P c (CodeQ E X e s2) a w := by
      refine wpL_more (wp_mono (ih1 X ι μ a w hs).1 fun e' a' w' hq => ?_)
      obtain ⟨rfl, ι', μ', hs'⟩ := hq
      exact (ih2 X ι' μ' a' w' hs').2 c rfl
    refine ⟨wp_of_wpL key, fun c0 hc => ?_⟩
    cases hc; exact key
  | @loopx c s e s1 _ hne ih =>
    intro X ι μ a w hs
    have key : wpL E.P c (CodeQ E X e s1) a w := by
      refine wpL_more (wp_mono (ih X ι μ a w hs).1 fun e' a' w' hq => ?_)
      obtain ⟨rfl, hq2⟩ := hq
      cases e with
      | normal => exact (hne rfl).elim
      | exit id => exact ⟨rfl, hq2⟩
      | goto l => exact ⟨rfl, hq2⟩
      | ret => exact ⟨rfl, hq2⟩
    refine ⟨wp_of_wpL key, fun c0 hc => ?_⟩
    cases hc; exact key
  | @scope c s e s1 _ hne ih =>
    refine CodeS.mk (fun X ι μ a w hs => ?_) (fun _ => by simp)
    refine wp_scope_straight (wp_mono (ih X ι μ a w hs).1 fun e' a' w' hq => ?_)
    obtain ⟨rfl, hq2⟩ := hq
    cases e with
    | normal => exact ⟨rfl, hq2⟩
    | exit id => exact ⟨rfl, hq2⟩
    | goto l => exact (hne l rfl).elim
    | ret => exact ⟨rfl, hq2⟩
  | weak hw _ ih =>
    intro X ι μ a w hs
    obtain ⟨ι', μ', hs'⟩ := hs.weak hw
    exact ih X ι' μ' a w hs'
  | less hw _ ih =>
    intro X ι μ a w hs
    obtain ⟨ι', μ', hs'⟩ := hs.less hw
    exact ih X ι' μ' a w hs'
  | fnl _ ih =>
    intro ι μ w args' hrel hdom hown hv
    refine (ih ι μ w args' hrel hdom hown hv).mono fun e w' ⟨x, ι', μ', he, hp⟩ => ⟨x, ι', μ', he, ?_⟩
    exact { hp with val := hp.val.ro }
  | @weaker c s e s1 s2 σ keep _ hw ih =>
    intro X ι μ a w hs
    have conv : ∀ e' a' w', CodeQ E X e s1 e' a' w' → CodeQ E X e s2 e' a' w' := by
      intro e' a' w' ⟨h1, ι', μ', hs'⟩
      obtain ⟨ι2, μ2, hs2⟩ := hs'.weak hw
      exact ⟨h1, ι2, μ2, hs2⟩
    obtain ⟨h1, h2⟩ := ih X ι μ a w hs
    refine ⟨wp_mono h1 conv, fun c0 hc b k cs => ?_⟩
    obtain ⟨e', a', w', q, r⟩ := h2 c0 hc b k cs
    exact ⟨e', a', w', conv _ _ _ q, r⟩
  | fn hfn hb _ he hr hτ hn hm ih => exact fn_run hfn hb ih he hr hτ hn hm

#print axioms sound
end Go.Rk
namespace Go.Rk
open Go
set_option linter.unusedVariables false

def Rd.wp {α : Type} (x : Rd α) (h : Hp) (K : α → List Nat → Prop) : Prop := ∃ a R, x.run h = some (a, R) ∧ K a R
section
variable {α β : Type} {h : Hp}
theorem wp_ret {a : α} {K} : (Rd.ret a).wp h K = K a [] := by
  apply propext; constructor
  · rintro ⟨_, _, e, hk⟩; cases e; exact hk
  · intro hk; exact ⟨_, _, rfl, hk⟩
theorem wp_bad {K : α → List Nat → Prop} : (Rd.bad : Rd α).wp h K = False := by
  apply propext; constructor
  · rintro ⟨_, _, e, _⟩; cases e
  · exact False.elim
theorem wp_get {x : Nat} {k : Option O → Rd α} {K} : (Rd.get x k).wp h K = (k (h x)).wp h (fun a R => K a (x :: R)) := by
  apply propext; constructor
  · rintro ⟨a, R, e, hk⟩
    simp only [Rd.run] at e
    split at e
    · cases e; exact ⟨_, _, ‹_›, hk⟩
    · cases e
  · rintro ⟨a, R, e, hk⟩
    exact ⟨a, x :: R, by simp [Rd.run, e], hk⟩
theorem wp_bind {x : Rd α} {f : α → Rd β} {K} : (x.bind f).wp h K = x.wp h (fun a R1 => (f a).wp h (fun b R2 => K b (R1 ++ R2))) := by
  apply propext; constructor
  · rintro ⟨b, R, e, hk⟩
    induction x generalizing R K with
    | ret a => exact ⟨a, [], rfl, b, R, e, hk⟩
    | get y k ih =>
      simp only [Rd.bind, Rd.run] at e
      split at e
      · rename_i c R' hc
        cases e
        obtain ⟨a, R1, e1, b2, R2, e2, hk2⟩ := ih (h y) (K := fun a R => K a (y :: R)) R' hc hk
        exact ⟨a, y :: R1, by simp [Rd.run, e1], b2, R2, e2, hk2⟩
      · cases e
    | bad => cases e
  · rintro ⟨a, R1, e1, b, R2, e2, hk⟩
    refine ⟨b, R1 ++ R2, ?_, hk⟩
    induction x generalizing R1 K with
    | ret c => cases e1; exact e2
    | get y k ih =>
      simp only [Rd.run] at e1
      split at e1
      · rename_i c R' hc
        cases e1
        have := ih (h y) (K := fun _ _ => True) R' hc trivial
        simp [Rd.bind, Rd.run, this]
      · cases e1
    | bad => cases e1
end

/-- One operation. -/
def wpO (E : Env) (sl : Nat) (op : Op) (vals : List V) (h : Hp) (K : V → Up → List Nat → Prop) : Prop := ∃ v U R, Do E (.op sl op vals h v U R) ∧ K v U R
def wpC (E : Env) (c : Code) (s : S) (Q : Ex → S → Prop) : Prop := ∃ e s', Do E (.code c s e s') ∧ Q e s'

section
variable {E : Env} {s : S} {Q : Ex → S → Prop}
theorem c_skip (h : Q .normal s) : wpC E .skip s Q := ⟨_, _, .skip, h⟩
theorem c_ret (h : Q .ret s) : wpC E .ret s Q := ⟨_, _, .ret, h⟩
theorem c_exit {id} (h : Q (.exit id) s) : wpC E (.exit id) s Q := ⟨_, _, .exit, h⟩
def thenC (E : Env) (y : Code) (Q : Ex → S → Prop) : Ex → S → Prop
  | .normal, s => wpC E y s Q
  | e, s => Q e s
theorem c_seq {x y} (h : wpC E x s (thenC E y Q)) : wpC E (.seq x y) s Q := by
  obtain ⟨e, s1, hd, hk⟩ := h
  cases e with
  | normal => obtain ⟨e2, s2, hd2, hk2⟩ := hk; exact ⟨e2, s2, .seq hd hd2, hk2⟩
  | exit id => exact ⟨_, s1, .seqx hd (by simp), hk⟩
  | goto l => exact ⟨_, s1, .seqx hd (by simp), hk⟩
  | ret => exact ⟨_, s1, .seqx hd (by simp), hk⟩
theorem c_cond {c x y b} (hc : rho E s.t c = .b b) (h : if b = true then wpC E x s Q else wpC E y s Q) : wpC E (.cond c x y) s Q := by
  cases b with
  | true => obtain ⟨e, s1, hd, hk⟩ := h; exact ⟨e, s1, .cond hc hd, hk⟩
  | false => obtain ⟨e, s1, hd, hk⟩ := h; exact ⟨e, s1, .cond hc hd, hk⟩
theorem c_block {id c} (h : wpC E c s fun e s => Q (if e = .exit id then .normal else e) s) : wpC E (.block id c) s Q := by
  obtain ⟨e, s1, hd, hk⟩ := h
  exact ⟨_, s1, .block hd, hk⟩
theorem c_loop {c} (h : wpC E c s (thenC E (.loop c) Q)) : wpC E (.loop c) s Q := by
  obtain ⟨e, s1, hd, hk⟩ := h
  cases e with
  | normal => obtain ⟨e2, s2, hd2, hk2⟩ := hk; exact ⟨e2, s2, .loop hd hd2, hk2⟩
  | exit id => exact ⟨_, s1, .loopx hd (by simp), hk⟩
  | goto l => exact ⟨_, s1, .loopx hd (by simp), hk⟩
  | ret => exact ⟨_, s1, .loopx hd (by simp), hk⟩
theorem c_weak {c s1 σ keep} (hw : wk σ keep s = some s1) (h : wpC E c s1 Q) : wpC E c s Q := by
  obtain ⟨e, s2, hd, hk⟩ := h
  exact ⟨e, s2, .weak hw hd, hk⟩
theorem wpC.mono {c} {Q' : Ex → S → Prop} (h : wpC E c s Q) (hq : ∀ e s, Q e s → Q' e s) : wpC E c s Q' := by
  obtain ⟨e, s1, hd, hk⟩ := h; exact ⟨e, s1, hd, hq _ _ hk⟩
end


inductive Fm where
  | seq (c : Code)
  | block (id : Nat)
  | loop (c : Code)
  | scope

def kont (E : Env) (Q : S → Prop) : List Fm → Ex → S → Prop
  | [], e, s => (e = .normal ∨ e = .ret) ∧ Q s
  | .seq y :: ks, e, s => match e with
    | .normal => wpC E y s (kont E Q ks)
    | e => kont E Q ks e s
  | .block id :: ks, e, s => kont E Q ks (if e = .exit id then .normal else e) s
  | .loop c :: ks, e, s => match e with
    | .normal => wpC E (.loop c) s (kont E Q ks)
    | e => kont E Q ks e s
  | .scope :: ks, e, s => (match e with | .goto _ => False | _ => True) ∧ kont E Q ks e s

/-- Code `c`, then what the frames say, then `Q`. -/
def wk_ (E : Env) (Q : S → Prop) (ks : List Fm) (c : Code) (s : S) : Prop := wpC E c s (kont E Q ks)
section
variable {E : Env} {Q : S → Prop} {ks : List Fm} {s : S}
theorem k_seq {y} (h : wk_ E Q ks y s) : kont E Q (.seq y :: ks) .normal s := h
theorem k_loop {c} (h : wk_ E Q ks (.loop c) s) : kont E Q (.loop c :: ks) .normal s := h
theorem k_ret (h : Q s) : ∀ ks : List Fm, kont E Q ks .ret s
  | [] => ⟨.inr rfl, h⟩
  | .seq y :: ks => k_ret h ks
  | .loop c :: ks => k_ret h ks
  | .block id :: ks => by
    have := k_ret h ks
    simpa [kont] using this
  | .scope :: ks => ⟨trivial, k_ret h ks⟩
theorem k_block {id} (h : kont E Q ks .normal s) : kont E Q (.block id :: ks) .normal s := by simpa [kont] using h
/-- Where an exit leads. -/
def leave (id : Nat) : List Fm → Option (List Fm)
  | [] => none
  | .block j :: ks => if id = j then some ks else leave id ks
  | _ :: ks => leave id ks
theorem k_exit {id} : ∀ {ks ks' : List Fm}, leave id ks = some ks' → kont E Q ks' .normal s → kont E Q ks (.exit id) s
  | [], _, h, _ => by cases h
  | .seq y :: ks, ks', h, hk => k_exit (ks := ks) h hk
  | .loop y :: ks, ks', h, hk => k_exit (ks := ks) h hk
  | .scope :: ks, ks', h, hk => ⟨trivial, k_exit (ks := ks) h hk⟩
  | .block j :: ks, ks', h, hk => by
    simp only [leave] at h
    split at h
    · rename_i e; subst e; cases h; simpa [kont] using hk
    · rename_i e
      have := k_exit (ks := ks) h hk
      simp only [kont]
      rw [if_neg (fun he => e (by cases he; rfl))]
      exact this

theorem w_seq {x y} (h : wk_ E Q (.seq y :: ks) x s) : wk_ E Q ks (.seq x y) s := by
  refine c_seq (wpC.mono h fun e s1 hk => ?_)
  cases e <;> exact hk
theorem w_skip (h : kont E Q ks .normal s) : wk_ E Q ks .skip s := c_skip h
theorem w_ret (h : Q s) : wk_ E Q ks .ret s := c_ret (k_ret h ks)
theorem w_exit {id ks'} (hl : leave id ks = some ks') (h : kont E Q ks' .normal s) : wk_ E Q ks (.exit id) s := c_exit (k_exit hl h)
theorem w_cond {c x y b} (hc : rho E s.t c = .b b) (h1 : b = true → wk_ E Q ks x s) (h2 : b = false → wk_ E Q ks y s) : wk_ E Q ks (.cond c x y) s := by
  refine c_cond hc ?_
  cases b with
  | true => exact h1 rfl
  | false => exact h2 rfl
theorem w_block {id c} (h : wk_ E Q (.block id :: ks) c s) : wk_ E Q ks (.block id c) s := c_block h
theorem w_loop {c} (h : wk_ E Q (.loop c :: ks) c s) : wk_ E Q ks (.loop c) s := by
  refine c_loop (wpC.mono h fun e s1 hk => ?_)
  cases e <;> exact hk
theorem w_weak {c s1 σ keep} (hw : wk σ keep s = some s1) (h : wk_ E Q ks c s1) : wk_ E Q ks c s := c_weak hw h
end

/-- What a function leaves: its results, the objects that it was handed, and what else the results name. -/
def fin (E : Env) (fn : Func) (m : Nat) (τ : List Nat) (s : S) : Option (V × List O) :=
  if τ.take m = List.range m ∧ τ.Nodup then match (resR E.P s.t fn.results.toList).run s.h with
    | none => none
    | some (rs, _) => match (marsh false τ [one1 rs]).run s.h with
      | some (([r], H'), _) => some (r, H')
      | _ => none
  else none
theorem fn_wp {E : Env} {f args H r H' fn c} (hf : E.P.funcs[f]? = some fn) (hb : fn.body = some c)
    (h : wk_ E (fun s => ∃ τ, fin E fn H.length τ s = some (r, H')) [] c ⟨args ++ List.replicate (fn.ntmps - args.length) (.t []), ofL H, H.length, H.length⟩) :
    Do E (.fn f args H r H') := by
  obtain ⟨e, s', hd, he, τ, hq⟩ := h
  unfold fin at hq
  split at hq
  · rename_i ht
    split at hq
    · cases hq
    · rename_i rs R hr
      split at hq
      · rename_i r0 H0 R' hm
        cases hq
        exact .fn hf hb hd he hr ht.1 ht.2 hm
      · cases hq
  · cases hq


/-- What is left of a region. -/
def gD (E : Env) (os : Array Oper) (sl : Nat) (is : List Nat) (t : List V) (h : Hp) (tr : Tr) (K : List V → Hp → Tr → Prop) : Prop :=
  ∃ t' h' tr', Do E (.ops os sl is t h t' h' tr') ∧ K t' h' (tr ++ tr')
section
variable {E : Env} {os : Array Oper} {sl i : Nat} {is : List Nat} {t : List V} {h : Hp} {tr : Tr} {K : List V → Hp → Tr → Prop} {o : Oper}
theorem g_nil (hk : K t h tr) : gD E os sl [] t h tr K := ⟨t, h, [], .nil, by rw [List.append_nil]; exact hk⟩
theorem g_yes (ho : os[i]? = some o) (hg : wantedV os o t = some true)
    (hp : wpO E (sl + 4 * i) o.op (o.op.operands.toList.map (rho E t)) h fun v U R => gD E os sl is (put t o.dst v) (h.sets U) (tr ++ [(i, R, U.map (·.1))]) K) : gD E os sl (i :: is) t h tr K := by
  obtain ⟨v, U, R, hd, t', h', tr', hds, hk⟩ := hp
  exact ⟨t', h', (i, R, U.map (·.1)) :: tr', .yes ho hg hd hds, by rw [List.append_assoc] at hk; exact hk⟩
theorem g_skip (ho : os[i]? = some o) (hg : wantedV os o t = some false)
    (hk : gD E os sl is (put t o.dst (.t [])) h (tr ++ [(i, [], [])]) K) : gD E os sl (i :: is) t h tr K := by
  obtain ⟨t', h', tr', hds, hk⟩ := hk
  exact ⟨t', h', (i, [], []) :: tr', .no ho hg hds, by rw [List.append_assoc] at hk; exact hk⟩
end
section
variable {E : Env} {Q : S → Prop} {ks : List Fm} {s : S}
theorem w_reg {id os} (h : gD E os s.n (List.range os.size) s.t s.h [] fun t' h' _ => kont E Q ks .normal ⟨t', h', s.n + 4 * os.size, s.a⟩) : wk_ E Q ks (.region id os false) s := by
  obtain ⟨t', h', tr', hd, hk⟩ := h
  exact ⟨_, _, .region hd, hk⟩
theorem w_drw {id os} (h : gD E os s.n (List.range os.size) s.t s.h [] fun t' h' tr => indep os (pres os) tr = true ∧ kont E Q ks .normal ⟨t', h', s.n + 4 * os.size, s.a⟩) : wk_ E Q ks (.region id os true) s := by
  obtain ⟨t', h', tr', hd, hi, hk⟩ := h
  exact ⟨_, _, .draw hd hi, hk⟩
end

def binI (op : BinOp) (k : IntKind) (x y : Int) : Option V := match op with
  | .add => some (.i k (k.wrap (x + y)))
  | .sub => some (.i k (k.wrap (x - y)))
  | .mul => some (.i k (k.wrap (x * y)))
  | .and => some (.i k (Go.bits .and k x y))
  | .or => some (.i k (Go.bits .or k x y))
  | .xor => some (.i k (Go.bits .xor k x y))
  | .andNot => some (.i k (Go.bits .andNot k x y))
  | .eql => some (.b (x == y))
  | .neq => some (.b (x != y))
  | .lss => some (.b (decide (x < y)))
  | .leq => some (.b (decide (x ≤ y)))
  | .gtr => some (.b (decide (x > y)))
  | .geq => some (.b (decide (x ≥ y)))
  | _ => none
theorem binI_eq {P t op k x y v} (h : binI op k x y = some v) : binV P t op (.i k x) (.i k y) = .ret v := by
  cases op <;> simp [binI] at h <;> subst h <;> simp [binV, bitsI]
def unI (op : UnOp) (v : V) : Option V := match op, v with
  | .neg, .i k n => some (.i k (k.wrap (0 - n)))
  | .xor, .i k n => some (.i k (Go.bits .xor k (if k.signed then -1 else k.max) n))
  | .not, .b x => some (.b !x)
  | _, _ => none
theorem unI_eq {op x v} (h : unI op x = some v) : unV op x = .ret v := by
  unfold unI at h; split at h <;> first | (cases h; rfl) | cases h

section
variable {E : Env} {os : Array Oper} {sl i : Nat} {is : List Nat} {t : List V} {h : Hp} {tr : Tr} {K : List V → Hp → Tr → Prop}
variable {dd : Option Tmp} {d : Tmp} {op : Op} {a b c : Operand} {ty : TypeId} {ps : String} {af : Array Edge} {gu : Option (Nat × Bool)}
theorem g_pop {v U R} (ho : os[i]? = some ⟨dd, op, ty, ps, af, gu⟩) (hg : wantedV os ⟨dd, op, ty, ps, af, gu⟩ t = some true)
    (hp : (pop E (sl + 4 * i) op (op.operands.toList.map (rho E t))).run h = some ((v, U), R)) (hk : gD E os sl is (put t dd v) (h.sets U) (tr ++ [(i, R, U.map (·.1))]) K) : gD E os sl (i :: is) t h tr K :=
  g_yes ho hg ⟨v, U, R, .prim hp, hk⟩
theorem g_mv (ho : os[i]? = some ⟨some d, .move a, ty, ps, af, gu⟩) (hg : wantedV os ⟨some d, .move a, ty, ps, af, gu⟩ t = some true)
    (hk : gD E os sl is (t.set d (rho E t a)) h (tr ++ [(i, [], [])]) K) : gD E os sl (i :: is) t h tr K := g_pop (U := []) ho hg rfl hk
theorem g_as (ho : os[i]? = some ⟨some d, .assign a, ty, ps, af, gu⟩) (hg : wantedV os ⟨some d, .assign a, ty, ps, af, gu⟩ t = some true)
    (hk : gD E os sl is (t.set d (rho E t a)) h (tr ++ [(i, [], [])]) K) : gD E os sl (i :: is) t h tr K := g_pop (U := []) ho hg rfl hk
theorem g_bin {bo t1 t2 k x y v} (ho : os[i]? = some ⟨some d, .binOp bo t1 a b t2, ty, ps, af, gu⟩) (hg : wantedV os ⟨some d, .binOp bo t1 a b t2, ty, ps, af, gu⟩ t = some true)
    (hx : rho E t a = .i k x) (hy : rho E t b = .i k y) (hv : binI bo k x y = some v)
    (hk : gD E os sl is (t.set d v) h (tr ++ [(i, [], [])]) K) : gD E os sl (i :: is) t h tr K :=
  g_pop (U := []) ho hg (by
    show (pop E _ _ [rho E t a, rho E t b]).run h = _
    rw [hx, hy]; simp only [pop, binI_eq hv]; rfl) hk
theorem g_shl {t1 t2 k k' x y} (ho : os[i]? = some ⟨some d, .binOp .shl t1 a b t2, ty, ps, af, gu⟩) (hg : wantedV os ⟨some d, .binOp .shl t1 a b t2, ty, ps, af, gu⟩ t = some true)
    (hx : rho E t a = .i k x) (hy : rho E t b = .i k' y) (hv : 0 ≤ y)
    (hk : gD E os sl is (t.set d (.i k (shlI k x y))) h (tr ++ [(i, [], [])]) K) : gD E os sl (i :: is) t h tr K :=
  g_pop (U := []) ho hg (by
    show (pop E _ _ [rho E t a, rho E t b]).run h = _
    rw [hx, hy]; simp only [pop, binV, if_pos hv]; rfl) hk
theorem g_shr {t1 t2 k k' x y} (ho : os[i]? = some ⟨some d, .binOp .shr t1 a b t2, ty, ps, af, gu⟩) (hg : wantedV os ⟨some d, .binOp .shr t1 a b t2, ty, ps, af, gu⟩ t = some true)
    (hx : rho E t a = .i k x) (hy : rho E t b = .i k' y) (hv : 0 ≤ y)
    (hk : gD E os sl is (t.set d (.i k (shrI k x y))) h (tr ++ [(i, [], [])]) K) : gD E os sl (i :: is) t h tr K :=
  g_pop (U := []) ho hg (by
    show (pop E _ _ [rho E t a, rho E t b]).run h = _
    rw [hx, hy]; simp only [pop, binV, if_pos hv]; rfl) hk
theorem g_shlc {t1 t2 k k' x y p} (ho : os[i]? = some ⟨some d, .binOp .shl t1 a b t2, ty, ps, af, gu⟩) (hg : wantedV os ⟨some d, .binOp .shl t1 a b t2, ty, ps, af, gu⟩ t = some true)
    (hx : rho E t a = .i k x) (hy : rho E t b = .i k' y) (hv : 0 ≤ y) (hp : (2 : Int) ^ min y.toNat k.bits = p)
    (hk : gD E os sl is (t.set d (.i k (k.wrap (x * p)))) h (tr ++ [(i, [], [])]) K) : gD E os sl (i :: is) t h tr K := by
  subst hp; exact g_shl ho hg hx hy hv hk
theorem g_shrc {t1 t2 k k' x y p} (ho : os[i]? = some ⟨some d, .binOp .shr t1 a b t2, ty, ps, af, gu⟩) (hg : wantedV os ⟨some d, .binOp .shr t1 a b t2, ty, ps, af, gu⟩ t = some true)
    (hx : rho E t a = .i k x) (hy : rho E t b = .i k' y) (hv : 0 ≤ y) (hp : (2 : Int) ^ min y.toNat k.bits = p)
    (hk : gD E os sl is (t.set d (.i k (x / p))) h (tr ++ [(i, [], [])]) K) : gD E os sl (i :: is) t h tr K := by
  subst hp; exact g_shr ho hg hx hy hv hk
theorem g_quo {t1 t2 k x y} (ho : os[i]? = some ⟨some d, .binOp .quo t1 a b t2, ty, ps, af, gu⟩) (hg : wantedV os ⟨some d, .binOp .quo t1 a b t2, ty, ps, af, gu⟩ t = some true)
    (hx : rho E t a = .i k x) (hy : rho E t b = .i k y) (hv : ¬ y = 0)
    (hk : gD E os sl is (t.set d (.i k (k.wrap (x.tdiv y)))) h (tr ++ [(i, [], [])]) K) : gD E os sl (i :: is) t h tr K :=
  g_pop (U := []) ho hg (by
    show (pop E _ _ [rho E t a, rho E t b]).run h = _
    rw [hx, hy]; simp only [pop, binV, if_true, if_neg hv]; rfl) hk
theorem g_rem {t1 t2 k x y} (ho : os[i]? = some ⟨some d, .binOp .rem t1 a b t2, ty, ps, af, gu⟩) (hg : wantedV os ⟨some d, .binOp .rem t1 a b t2, ty, ps, af, gu⟩ t = some true)
    (hx : rho E t a = .i k x) (hy : rho E t b = .i k y) (hv : ¬ y = 0)
    (hk : gD E os sl is (t.set d (.i k (x.tmod y))) h (tr ++ [(i, [], [])]) K) : gD E os sl (i :: is) t h tr K :=
  g_pop (U := []) ho hg (by
    show (pop E _ _ [rho E t a, rho E t b]).run h = _
    rw [hx, hy]; simp only [pop, binV, if_true, if_neg hv]; rfl) hk
theorem g_same {t1 t2 bo c} (ho : os[i]? = some ⟨some d, .binOp bo t1 a b t2, ty, ps, af, gu⟩) (hg : wantedV os ⟨some d, .binOp bo t1 a b t2, ty, ps, af, gu⟩ t = some true)
    (hp : binV E.P t1 bo (rho E t a) (rho E t b) = .ret c)
    (hk : gD E os sl is (t.set d c) h (tr ++ [(i, [], [])]) K) : gD E os sl (i :: is) t h tr K :=
  g_pop (U := []) ho hg (by
    show (pop E _ _ [rho E t a, rho E t b]).run h = _
    simp only [pop, hp]; rfl) hk
theorem g_un {uo t1 x v} (ho : os[i]? = some ⟨some d, .unOp uo t1 a, ty, ps, af, gu⟩) (hg : wantedV os ⟨some d, .unOp uo t1 a, ty, ps, af, gu⟩ t = some true)
    (hx : rho E t a = x) (hv : unI uo x = some v)
    (hk : gD E os sl is (t.set d v) h (tr ++ [(i, [], [])]) K) : gD E os sl (i :: is) t h tr K :=
  g_pop (U := []) ho hg (by
    show (pop E _ _ [rho E t a]).run h = _
    rw [hx]; simp only [pop, unI_eq hv]; rfl) hk
theorem g_conv {t1 t2 k0 k k' x} (ho : os[i]? = some ⟨some d, .convert t1 t2 a, ty, ps, af, gu⟩) (hg : wantedV os ⟨some d, .convert t1 t2 a, ty, ps, af, gu⟩ t = some true)
    (h1 : E.P.underlying t1 = some (.int k0)) (h2 : E.P.underlying t2 = some (.int k)) (hx : rho E t a = .i k' x)
    (hk : gD E os sl is (t.set d (.i k (k.wrap x))) h (tr ++ [(i, [], [])]) K) : gD E os sl (i :: is) t h tr K :=
  g_pop (U := []) ho hg (by
    show (pop E _ _ [rho E t a]).run h = _
    rw [hx]; simp only [pop, h1, h2]; rfl) hk
theorem g_pick {x} (ho : os[i]? = some ⟨some d, .pick c a b, ty, ps, af, gu⟩) (hg : wantedV os ⟨some d, .pick c a b, ty, ps, af, gu⟩ t = some true)
    (hx : rho E t c = .b x)
    (hk : gD E os sl is (t.set d (if x = true then rho E t a else rho E t b)) h (tr ++ [(i, [], [])]) K) : gD E os sl (i :: is) t h tr K :=
  g_pop (U := []) ho hg (by
    show (pop E _ _ [rho E t c, rho E t a, rho E t b]).run h = _
    rw [hx]; rfl) hk
theorem g_ext {j l} (ho : os[i]? = some ⟨some d, .extract a j, ty, ps, af, gu⟩) (hg : wantedV os ⟨some d, .extract a j, ty, ps, af, gu⟩ t = some true)
    (hx : rho E t a = .t l) (hj : j < l.length)
    (hk : gD E os sl is (t.set d (l.getD j .u)) h (tr ++ [(i, [], [])]) K) : gD E os sl (i :: is) t h tr K :=
  g_pop (U := []) ho hg (by
    show (pop E _ _ [rho E t a]).run h = _
    rw [hx]; simp only [pop, if_pos hj]; rfl) hk
end
section
variable {E : Env} {os : Array Oper} {sl i : Nat} {is : List Nat} {t : List V} {h : Hp} {tr : Tr} {K : List V → Hp → Tr → Prop}
variable {dd : Option Tmp} {d : Tmp} {op : Op} {a b c : Operand} {ty : TypeId} {ps : String} {af : Array Edge} {gu : Option (Nat × Bool)}

theorem bind_run {α β : Type} {x : Rd α} {f : α → Rd β} {v R w R2} (h1 : x.run h = some (v, R)) (h2 : (f v).run h = some (w, R2)) : (x.bind f).run h = some (w, R ++ R2) := by
  induction x generalizing R with
  | ret c => cases h1; simpa [Rd.bind] using h2
  | get y k ih =>
    simp only [Rd.run] at h1
    split at h1
    · rename_i c R' hc
      cases h1
      have := ih (h y) hc
      simp [Rd.bind, Rd.run, this]
    · cases h1
  | bad => cases h1

/-- An element of an immutable list of whole numbers. -/
theorem g_ldq {tl k off pl} {xs : List Int} (ho : os[i]? = some ⟨some d, .load tl a, ty, ps, af, gu⟩) (hg : wantedV os ⟨some d, .load tl a, ty, ps, af, gu⟩ t = some true)
    (ha : aggOf E.P tl = .ret false) (hs : szOf E.P tl = .ret 1) (hx : rho E t a = .q (xs.map (V.i k)) off pl) (hj : off < xs.length)
    (hk : gD E os sl is (t.set d (.i k (xs.getD off 0))) h (tr ++ [(i, [], [])]) K) : gD E os sl (i :: is) t h tr K :=
  g_pop (U := []) (R := []) ho hg (by
    show (pop E _ _ [rho E t a]).run h = _
    rw [hx]
    simp only [pop, ha, hs, Rd.bind, loadV, ld]
    simp [Rd.bind, hj, Rd.run]) hk
/-- An element of a row of whole numbers. -/
theorem g_ldo {tl k y off kk sz w ow sib} {xs : List Int} (ho : os[i]? = some ⟨some d, .load tl a, ty, ps, af, gu⟩) (hg : wantedV os ⟨some d, .load tl a, ty, ps, af, gu⟩ t = some true)
    (ha : aggOf E.P tl = .ret false) (hs : szOf E.P tl = .ret 1) (hx : rho E t a = .p (some (y, off))) (hy : h y = some (.row (xs.map (V.i k)) kk sz w ow sib)) (hj : off < xs.length)
    (hk : gD E os sl is (t.set d (.i k (xs.getD off 0))) h (tr ++ [(i, [y], [])]) K) : gD E os sl (i :: is) t h tr K :=
  g_pop (U := []) (R := [y]) ho hg (by
    show (pop E _ _ [rho E t a]).run h = _
    rw [hx]
    simp only [pop, ha, hs, Rd.bind, loadV, ld]
    simp [Rd.row, Rd.bind, hj, Rd.run, hy]) hk
/-- A cell of a row of which all cells are told. -/
theorem g_ldc {tl y off l kk sz w ow sib v} (ho : os[i]? = some ⟨some d, .load tl a, ty, ps, af, gu⟩) (hg : wantedV os ⟨some d, .load tl a, ty, ps, af, gu⟩ t = some true)
    (ha : aggOf E.P tl = .ret false) (hs : szOf E.P tl = .ret 1) (hx : rho E t a = .p (some (y, off))) (hy : h y = some (.row l kk sz w ow sib)) (hv : l[off]? = some v)
    (hk : gD E os sl is (t.set d v) h (tr ++ [(i, [y], [])]) K) : gD E os sl (i :: is) t h tr K :=
  g_pop (U := []) (R := [y]) ho hg (by
    show (pop E _ _ [rho E t a]).run h = _
    rw [hx]
    obtain ⟨hj, rfl⟩ := List.getElem?_eq_some_iff.1 hv
    simp only [pop, ha, hs, Rd.bind, loadV, ld]
    simp [Rd.row, Rd.bind, hj, Rd.run, hy]) hk
/-- Some cells of a row. -/
theorem g_lda {tl y off l kk sz w ow sib n} (ho : os[i]? = some ⟨some d, .load tl a, ty, ps, af, gu⟩) (hg : wantedV os ⟨some d, .load tl a, ty, ps, af, gu⟩ t = some true)
    (ha : aggOf E.P tl = .ret true) (hs : szOf E.P tl = .ret n) (hx : rho E t a = .p (some (y, off))) (hy : h y = some (.row l kk sz w ow sib)) (hj : off + n ≤ l.length)
    (hk : gD E os sl is (t.set d (.a ((l.drop off).take n))) h (tr ++ [(i, [y], [])]) K) : gD E os sl (i :: is) t h tr K :=
  g_pop (U := []) (R := [y]) ho hg (by
    show (pop E _ _ [rho E t a]).run h = _
    rw [hx]
    simp only [pop, ha, hs, Rd.bind, loadV, ld]
    simp [Rd.row, Rd.bind, hj, Rd.run, hy]) hk
/-- A store into a row whose other name, if any, is forgotten. -/
theorem g_st {tl y off l kk sz ow v n} (ho : os[i]? = some ⟨dd, .store tl a b, ty, ps, af, gu⟩) (hg : wantedV os ⟨dd, .store tl a b, ty, ps, af, gu⟩ t = some true)
    (hs : szOf E.P tl = .ret n) (hx : rho E t a = .p (some (y, off))) (hv : rho E t b = v) (hy : h y = some (.row l kk sz true ow none))
    (hok : (v.ok && (v.cells.length == n) && fits kk v.cells) = true) (hj : off + n ≤ l.length)
    (hk : gD E os sl is (put t dd (.t [])) (h.set y (some (.row (putCells l off v.cells) kk sz true ow none))) (tr ++ [(i, [y], [y])]) K) : gD E os sl (i :: is) t h tr K := by
  simp only [Bool.and_eq_true, beq_iff_eq] at hok
  exact g_pop (U := [(y, some (.row (putCells l off v.cells) kk sz true ow none))]) (R := [y]) ho hg (by
    show (pop E _ _ [rho E t a, rho E t b]).run h = _
    rw [hx, hv]
    simp only [pop, hs, Rd.bind, Rd.row, Rd.run, hy]
    simp [hok.1.1, hok.1.2, hok.2, hj, touch, kill, Rd.bind, Rd.run]) hk
theorem g_alloc {tl z} (ho : os[i]? = some ⟨some d, .alloc tl, ty, ps, af, gu⟩) (hg : wantedV os ⟨some d, .alloc tl, ty, ps, af, gu⟩ t = some true)
    (hz : zeroOf E.P tl = .ret z)
    (hk : gD E os sl is (t.set d (.p (some (sl + 4 * i, 0)))) (h.set (sl + 4 * i) (some (.row z 0 0 true true none))) (tr ++ [(i, [], [sl + 4 * i])]) K) : gD E os sl (i :: is) t h tr K :=
  g_pop (U := [(sl + 4 * i, some (.row z 0 0 true true none))]) (R := []) ho hg (by
    show (pop E _ _ []).run h = _
    simp only [pop, hz, Rd.bind, newRowV]; rfl) hk
theorem g_box {tl v} (ho : os[i]? = some ⟨some d, .box tl a, ty, ps, af, gu⟩) (hg : wantedV os ⟨some d, .box tl a, ty, ps, af, gu⟩ t = some true)
    (hv : rho E t a = v) (hok : v.ok = true)
    (hk : gD E os sl is (t.set d (.p (some (sl + 4 * i, 0)))) (h.set (sl + 4 * i) (some (.row v.cells 0 0 true true none))) (tr ++ [(i, [], [sl + 4 * i])]) K) : gD E os sl (i :: is) t h tr K :=
  g_pop (U := [(sl + 4 * i, some (.row v.cells 0 0 true true none))]) (R := []) ho hg (by
    show (pop E _ _ [rho E t a]).run h = _
    rw [hv]; simp only [pop, hok, if_true, newRowV]; rfl) hk
theorem g_fa {tl f y off fs fd n} (ho : os[i]? = some ⟨some d, .fieldAddr tl a f, ty, ps, af, gu⟩) (hg : wantedV os ⟨some d, .fieldAddr tl a f, ty, ps, af, gu⟩ t = some true)
    (hf : fieldsOf E.P tl = .ret fs) (hd : fs[f]? = some fd) (hs : szOf E.P fd.type = .ret (n + 1)) (hx : rho E t a = .p (some (y, off)))
    (hk : gD E os sl is (t.set d (.p (some (y, off + fd.offset)))) h (tr ++ [(i, [], [])]) K) : gD E os sl (i :: is) t h tr K :=
  g_pop (U := []) (R := []) ho hg (by
    show (pop E _ _ [rho E t a]).run h = _
    rw [hx]; simp only [pop, hf, Rd.bind, hd, hs]; rfl) hk
theorem g_nc {tl y off} (ho : os[i]? = some ⟨some d, .nilCheck tl, ty, ps, af, gu⟩) (hg : wantedV os ⟨some d, .nilCheck tl, ty, ps, af, gu⟩ t = some true)
    (hx : rho E t tl = .p (some (y, off)))
    (hk : gD E os sl is (t.set d (.p (some (y, off)))) h (tr ++ [(i, [], [])]) K) : gD E os sl (i :: is) t h tr K :=
  g_pop (U := []) (R := []) ho hg (by
    show (pop E _ _ [rho E t tl]).run h = _
    rw [hx]; rfl) hk
/-- An element's place in an immutable list. -/
theorem g_ixr {tl e l n pl k j} (ho : os[i]? = some ⟨some d, .indexAddr tl a b, ty, ps, af, gu⟩) (hg : wantedV os ⟨some d, .indexAddr tl a b, ty, ps, af, gu⟩ t = some true)
    (hu : E.P.underlying tl = some (.slice e)) (hs : szOf E.P e = .ret 1) (hx : rho E t a = .r l n pl) (hj : rho E t b = .i k j) (h0 : 0 ≤ j) (h1 : j < n)
    (hk : gD E os sl is (t.set d (.q l j.toNat pl)) h (tr ++ [(i, [], [])]) K) : gD E os sl (i :: is) t h tr K :=
  g_pop (U := []) (R := []) ho hg (by
    show (pop E _ _ [rho E t a, rho E t b]).run h = _
    rw [hx, hj]; simp only [pop, hu, hs, Rd.bind, if_pos h0, if_pos h1, Nat.mul_one]; rfl) hk
theorem g_ixo {tl e y off n k j} (ho : os[i]? = some ⟨some d, .indexAddr tl a b, ty, ps, af, gu⟩) (hg : wantedV os ⟨some d, .indexAddr tl a b, ty, ps, af, gu⟩ t = some true)
    (hu : E.P.underlying tl = some (.slice e)) (hs : szOf E.P e = .ret 1) (hx : rho E t a = .s (some (y, off)) n) (hj : rho E t b = .i k j) (h0 : 0 ≤ j) (h1 : j < n)
    (hk : gD E os sl is (t.set d (.p (some (y, off + j.toNat)))) h (tr ++ [(i, [], [])]) K) : gD E os sl (i :: is) t h tr K :=
  g_pop (U := []) (R := []) ho hg (by
    show (pop E _ _ [rho E t a, rho E t b]).run h = _
    rw [hx, hj]; simp only [pop, hu, hs, Rd.bind, if_pos h0, if_pos h1, Nat.mul_one]; rfl) hk
end

def bodyOf (fn : Func) : Code := match fn.body with
  | some c => c
  | none => .skip
def sub : Code → List Nat → Code
  | c, [] => c
  | .seq x y, i :: p => if i = 0 then sub x p else sub y p
  | .cond _ x y, i :: p => if i = 0 then sub x p else sub y p
  | .block _ c, _ :: p => sub c p
  | .loop c, _ :: p => sub c p
  | .scope c, _ :: p => sub c p
  | c, _ => c
def frs : Code → List Nat → List Fm → List Fm
  | _, [], ks => ks
  | .seq x y, i :: p, ks => if i = 0 then frs x p (.seq y :: ks) else frs y p ks
  | .cond _ x y, i :: p, ks => if i = 0 then frs x p ks else frs y p ks
  | .block id c, _ :: p, ks => frs c p (.block id :: ks)
  | .loop c, _ :: p, ks => frs c p (.loop c :: ks)
  | .scope c, _ :: p, ks => frs c p (.scope :: ks)
  | _, _, ks => ks
theorem it1 {α : Type} {c : Prop} [Decidable c] {x : Option α} {r : α} (h : (if c then x else none) = some r) : c ∧ x = some r := by
  split at h
  · exact ⟨‹_›, h⟩
  · cases h
theorem its {α : Type} {c : Prop} [Decidable c] {x y : Option α} {r : α} (h : (if c then x else y) = some r) : (c ∧ x = some r) ∨ (¬ c ∧ y = some r) := by
  split at h
  · exact .inl ⟨‹_›, h⟩
  · exact .inr ⟨‹_›, h⟩
theorem bnd {α β : Type} {x : Option α} {f : α → Option β} {r : β} (h : x.bind f = some r) : ∃ a, x = some a ∧ f a = some r := Option.bind_eq_some_iff.1 h
theorem fn_wpl {E : Env} {f : Nat} {args : List V} {H : List O} {r : V} {H' : List O} {fn : Func} {c : Code} {Q : S → Prop} (hf : E.P.funcs[f]? = some fn) (hb : fn.body = some c)
    (hQ : ∀ s, Q s → ∃ τ r', fin E fn H.length τ s = some (r', H') ∧ r'.ro = r)
    (h : wk_ E Q [] c ⟨args ++ List.replicate (fn.ntmps - args.length) (.t []), ofL H, H.length, H.length⟩) : Do E (.fn f args H r H') := by
  obtain ⟨e, s', hd, he, hq⟩ := h
  obtain ⟨τ, r', hq, rfl⟩ := hQ _ hq
  exact .fnl (fn_wp hf hb ⟨e, s', hd, he, τ, hq⟩)
section
variable {E : Env} {Q : S → Prop} {ks : List Fm} {s : S}
theorem w_less {c s1} (hw : Less s s1) (h : wk_ E Q ks c s1) : wk_ E Q ks c s := by
  obtain ⟨e, s2, hd, hk⟩ := h
  exact ⟨e, s2, .less hw hd, hk⟩
/-- Does code follow? -/
def goes : List Fm → Bool
  | .seq _ :: _ => true
  | .loop _ :: _ => true
  | _ :: ks => goes ks
  | [] => false
/-- What follows may be told less, too. -/
theorem k_of {s1} (hw : ∀ c, ∀ e s2, Do E (.code c s1 e s2) → Do E (.code c s e s2)) : ∀ {ks : List Fm}, goes ks = true → kont E Q ks .normal s1 → kont E Q ks .normal s
  | [], hg, h => by cases hg
  | .seq y :: ks, _, ⟨e, s2, hd, hk⟩ => ⟨e, s2, hw _ _ _ hd, hk⟩
  | .loop y :: ks, _, ⟨e, s2, hd, hk⟩ => ⟨e, s2, hw _ _ _ hd, hk⟩
  | .block id :: ks, hg, h => by
    have h : kont E Q ks .normal s1 := by simpa [kont] using h
    have := k_of (ks := ks) hw hg h
    simpa [kont] using this
  | .scope :: ks, hg, h => ⟨trivial, k_of (ks := ks) hw hg h.2⟩
theorem k_weak {s1 σ keep} (hw : wk σ keep s = some s1) (hg : goes ks = true) (h : kont E Q ks .normal s1) : kont E Q ks .normal s :=
  k_of (fun c e s2 hd => .weak hw hd) hg h
end
section
variable {E : Env} {os : Array Oper} {sl i : Nat} {is : List Nat} {t : List V} {h : Hp} {tr : Tr} {K : List V → Hp → Tr → Prop}
variable {dd : Option Tmp} {d : Tmp} {a b c fo : Operand} {ty : TypeId} {ps : String} {af : Array Edge} {gu : Option (Nat × Bool)}
theorem g_len_r {e l n pl tl} (ho : os[i]? = some ⟨some d, .call ⟨.builtin .len, #[a], #[tl]⟩, ty, ps, af, gu⟩) (hg : wantedV os ⟨some d, .call ⟨.builtin .len, #[a], #[tl]⟩, ty, ps, af, gu⟩ t = some true)
    (hu : E.P.underlying tl = some (.slice e)) (hx : rho E t a = .r l n pl)
    (hk : gD E os sl is (t.set d (.i .i64 n)) h (tr ++ [(i, [], [])]) K) : gD E os sl (i :: is) t h tr K :=
  g_pop (U := []) (R := []) ho hg (by
    show (pop E _ _ [rho E t a]).run h = _
    rw [hx]
    show Rd.run ((Rd.of (some tl)).bind fun t0 => match E.P.underlying t0, V.r l n pl with
      | some (.slice _), .s _ n => Rd.ret (V.i .i64 n, ([] : Up))
      | some (.slice _), .r _ n _ => .ret (.i .i64 n, [])
      | some (.array n _), _ => .ret (.i .i64 n, [])
      | _, _ => .bad) h = _
    simp only [Rd.of, Rd.bind, hu]; rfl) hk
theorem g_len_s {e o n tl} (ho : os[i]? = some ⟨some d, .call ⟨.builtin .len, #[a], #[tl]⟩, ty, ps, af, gu⟩) (hg : wantedV os ⟨some d, .call ⟨.builtin .len, #[a], #[tl]⟩, ty, ps, af, gu⟩ t = some true)
    (hu : E.P.underlying tl = some (.slice e)) (hx : rho E t a = .s o n)
    (hk : gD E os sl is (t.set d (.i .i64 n)) h (tr ++ [(i, [], [])]) K) : gD E os sl (i :: is) t h tr K :=
  g_pop (U := []) (R := []) ho hg (by
    show (pop E _ _ [rho E t a]).run h = _
    rw [hx]
    show Rd.run ((Rd.of (some tl)).bind fun t0 => match E.P.underlying t0, V.s o n with
      | some (.slice _), .s _ n => Rd.ret (V.i .i64 n, ([] : Up))
      | some (.slice _), .r _ n _ => .ret (.i .i64 n, [])
      | some (.array n _), _ => .ret (.i .i64 n, [])
      | _, _ => .bad) h = _
    simp only [Rd.of, Rd.bind, hu]; rfl) hk
end
theorem nrm :
    (∀ E t x, rho E t (.tmp x) = t.getD x (.t [])) ∧ (∀ E t v, rho E t (.const v) = lit v) ∧ (∀ E t f, rho E t (.func f) = .f f [] []) ∧
    (∀ k n, lit (.int k n) = .i k n) ∧ (∀ b, lit (.bool b) = .b b) ∧ (lit (.pointer none) = .p none) ∧ (lit (.slice none 0 0) = .s none 0) ∧ (lit .nilFunc = .z) ∧
    (∀ (x : V) l y, (x :: l).set 0 y = y :: l) ∧ (∀ (x : V) l n y, (x :: l).set (n + 1) y = x :: l.set n y) ∧
    (∀ (x : V) l d, (x :: l).getD 0 d = x) ∧ (∀ (x : V) l n d, (x :: l).getD (n + 1) d = l.getD n d) ∧
    (∀ t d v, put t (some d) v = t.set d v) ∧ (∀ t v, put t none v = t) ∧
    (∀ h : Hp, h.sets [] = h) ∧ (∀ (h : Hp) x o us, h.sets ((x, o) :: us) = (h.set x o).sets us) ∧
    (∀ φ k x, V.ren φ (.i k x) = .i k x) ∧ (∀ φ x, V.ren φ (.b x) = .b x) ∧ (∀ φ l n p, V.ren φ (.r l n p) = .r l n p) ∧ (∀ φ n, V.ren φ (.s none n) = .s none n) ∧
    (∀ φ l, V.ren φ (.a l) = .a (V.rens φ l)) ∧ (∀ φ l, V.ren φ (.t l) = .t (V.rens φ l)) ∧ (∀ φ, V.rens φ [] = []) ∧ (∀ φ v l, V.rens φ (v :: l) = v.ren φ :: V.rens φ l) ∧
    (∀ k x, V.ro (.i k x) = .i k x) ∧ (∀ x, V.ro (.b x) = .b x) ∧ (∀ l n p, V.ro (.r l n p) = .r l n p) ∧ (∀ n, V.ro (.s none n) = .r [] 0 true) ∧
    (∀ l, V.ro (.a l) = .a (V.ros l)) ∧ (∀ l, V.ro (.t l) = .t (V.ros l)) ∧ (V.ros [] = []) ∧ (∀ v l, V.ros (v :: l) = v.ro :: V.ros l) ∧
    (∀ (α : Type) (x y : α), (if true = true then x else y) = x) ∧ (∀ (α : Type) (x y : α), (if false = true then x else y) = y) ∧ ((!true) = false) ∧ ((!false) = true) ∧ (∀ v, one1 [v] = v) ∧ (∀ v w l, one1 (v :: w :: l) = .t (v :: w :: l)) := by
  refine ⟨?_, ?_, ?_, ?_, ?_, ?_, ?_, ?_, ?_, ?_, ?_, ?_, ?_, ?_, ?_, ?_, ?_, ?_, ?_, ?_, ?_, ?_, ?_, ?_, ?_, ?_, ?_, ?_, ?_, ?_, ?_, ?_, ?_, ?_, ?_, ?_, ?_, ?_⟩ <;> intros <;> rfl

/-- Some temporaries stay: so many are left out, then one stays, and again. -/
def wkG (σ : List Nat) : List Nat → List V → Rd (List V)
  | _, [] => .ret []
  | [], _ :: l => (wkG σ [] l).bind fun l => .ret (.u :: l)
  | 0 :: g, v :: l => (v.mv false σ).bind fun v => (wkG σ g l).bind fun l => .ret (v :: l)
  | (n + 1) :: g, _ :: l => (wkG σ (n :: g) l).bind fun l => .ret (.u :: l)
def kp : List Nat → Nat → Bool
  | [], _ => false
  | 0 :: _, 0 => true
  | 0 :: g, j + 1 => kp g j
  | (_ + 1) :: _, 0 => false
  | (n + 1) :: g, j + 1 => kp (n :: g) j
theorem wkG_eq {σ : List Nat} {keep : Nat → Bool} : ∀ (t : List V) (g : List Nat) (j : Nat), (∀ i, keep (j + i) = kp g i) → wkT σ keep j t = wkG σ g t := by
  intro t
  induction t with
  | nil => intro g j _; cases g with
    | nil => rfl
    | cons n g => cases n <;> rfl
  | cons v t ih =>
    intro g j hk
    have h0 := hk 0
    have hs : ∀ g', (∀ i, kp g (i + 1) = kp g' i) → wkT σ keep (j + 1) t = wkG σ g' t := fun g' hg => ih g' (j + 1) fun i => by
      rw [← hg i, ← hk (i + 1)]; congr 1; omega
    match g with
    | [] =>
      simp only [kp, Nat.add_zero] at h0
      simp only [wkT, wkG, h0, hs [] fun _ => by simp only [kp]]
      rfl
    | 0 :: g =>
      simp only [kp, Nat.add_zero] at h0
      simp only [wkT, wkG, h0, if_true, hs g fun _ => by simp only [kp]]
    | (n + 1) :: g =>
      simp only [kp, Nat.add_zero] at h0
      simp only [wkT, wkG, h0, hs (n :: g) fun _ => by simp only [kp]]
      rfl
section
variable {E : Env} {Q : S → Prop} {ks : List Fm} {s : S} {c : Code}
theorem wk_some {σ g : List Nat} {K : S → Prop} (hσ : σ.take s.a = List.range s.a) (hn : σ.Nodup)
    (h : (wkG σ g s.t).wp s.h fun t _ => (O.mvs false σ σ).wp s.h fun H _ => K ⟨t, ofL H, H.length, s.a⟩) : ∃ s1, wk σ (kp g) s = some s1 ∧ K s1 := by
  have h2 : ((wkG σ g s.t).bind fun t => (O.mvs false σ σ).bind fun H => .ret (t, H)).wp s.h fun tH _ => K ⟨tH.1, ofL tH.2, tH.2.length, s.a⟩ := by
    rw [wp_bind]
    obtain ⟨t, R, e, h⟩ := h
    refine ⟨t, R, e, ?_⟩
    show ((O.mvs false σ σ).bind fun H => Rd.ret (t, H)).wp s.h _
    rw [wp_bind]
    obtain ⟨H, R2, e2, h⟩ := h
    refine ⟨H, R2, e2, ?_⟩
    show (Rd.ret (t, H)).wp s.h _
    rw [wp_ret]; exact h
  obtain ⟨tH, R, e, hK⟩ := h2
  refine ⟨_, ?_, hK⟩
  unfold wk
  rw [if_pos ⟨hσ, hn⟩, wkG_eq s.t g 0 (fun i => by rw [Nat.zero_add]), e]
theorem w_wk {σ : List Nat} (g : List Nat) (hσ : σ.take s.a = List.range s.a) (hn : σ.Nodup)
    (h : (wkG σ g s.t).wp s.h fun t _ => (O.mvs false σ σ).wp s.h fun H _ => wk_ E Q ks c ⟨t, ofL H, H.length, s.a⟩) : wk_ E Q ks c s := by
  obtain ⟨s1, hw, h⟩ := wk_some hσ hn h
  exact w_weak hw h
theorem k_wk {σ : List Nat} (g : List Nat) (hσ : σ.take s.a = List.range s.a) (hn : σ.Nodup) (hg : goes ks = true)
    (h : (wkG σ g s.t).wp s.h fun t _ => (O.mvs false σ σ).wp s.h fun H _ => kont E Q ks .normal ⟨t, ofL H, H.length, s.a⟩) : kont E Q ks .normal s := by
  obtain ⟨s1, hw, h⟩ := wk_some hσ hn h
  exact k_weak hw hg h
end
section
variable {E : Env} {os : Array Oper} {sl i : Nat} {is : List Nat} {t : List V} {h : Hp} {tr : Tr} {K : List V → Hp → Tr → Prop}
theorem g_sk {dd op ty ps af gu} (ho : os[i]? = some ⟨dd, op, ty, ps, af, gu⟩) (hg : wantedV os ⟨dd, op, ty, ps, af, gu⟩ t = some false)
    (hk : gD E os sl is (put t dd (.t [])) h (tr ++ [(i, [], [])]) K) : gD E os sl (i :: is) t h tr K := g_skip ho hg hk
theorem ops_call {fo : Operand} {as : Array Operand} {ts : Array TypeId} : (Op.call ⟨.value fo, as, ts⟩).operands.toList = fo :: as.toList := by
  simp [Op.operands, Call.operands]
theorem nrmc : (∀ (h : Hp) (α : Type) (a : α) K, (Rd.ret a).wp h K = K a []) ∧ (∀ (h : Hp) (α β : Type) (x : Rd α) (f : α → Rd β) K, (x.bind f).wp h K = x.wp h (fun a R1 => (f a).wp h (fun b R2 => K b (R1 ++ R2)))) ∧
    (∀ (h : Hp) K, (lent [] []).wp h K = K [] []) ∧ (∀ (h : Hp) K, (demote []).wp h K = K [] []) ∧ (∀ (α : Type) (c : Prop) [Decidable c] (x : α), (if c then x else x) = x) ∧
    (∀ b σ k x, V.mv b σ (.i k x) = .ret (.i k x)) ∧ (∀ b σ x, V.mv b σ (.b x) = .ret (.b x)) ∧ (∀ b σ, V.mv b σ .u = .ret .u) ∧ (∀ b σ l n p, V.mv b σ (.r l n p) = .ret (.r l n p)) ∧ (∀ b σ n, V.mv b σ (.s none n) = .ret (.s none n)) ∧ (∀ b σ, V.mv b σ (.p none) = .ret (.p none)) ∧
    (∀ b σ l, V.mv b σ (.a l) = (V.mvs b σ l).bind fun l => .ret (.a l)) ∧ (∀ b σ l, V.mv b σ (.t l) = (V.mvs b σ l).bind fun l => .ret (.t l)) ∧ (∀ b σ, V.mvs b σ [] = .ret []) ∧ (∀ b σ v l, V.mvs b σ (v :: l) = (v.mv b σ).bind fun v => (V.mvs b σ l).bind fun l => .ret (v :: l)) ∧
    (∀ b σ, O.mvs b σ [] = .ret []) ∧ (∀ σ g, wkG σ g [] = .ret []) ∧ (∀ σ v l, wkG σ [] (v :: l) = (wkG σ [] l).bind fun l => .ret (.u :: l)) ∧
    (∀ σ g v l, wkG σ (0 :: g) (v :: l) = (v.mv false σ).bind fun v => (wkG σ g l).bind fun l => .ret (v :: l)) ∧ (∀ σ n g v l, wkG σ ((n + 1) :: g) (v :: l) = (wkG σ (n :: g) l).bind fun l => .ret (.u :: l)) ∧
    (∀ k x, V.hasR (.i k x) = false) ∧ (∀ x, V.hasR (.b x) = false) ∧ (∀ l n p, V.hasR (.r l n p) = true) ∧ (∀ l, V.hasR (.a l) = V.hasRs l) ∧ (∀ l, V.hasR (.t l) = V.hasRs l) ∧ (V.hasRs [] = false) ∧ (∀ v l, V.hasRs (v :: l) = (v.hasR || V.hasRs l)) ∧
    ((false || false) = false) ∧ (∀ x, (true || x) = true) ∧ (∀ x, (false || x) = x) := by
  refine ⟨fun _ _ _ _ => wp_ret, fun _ _ _ _ _ _ => wp_bind, fun _ _ => wp_ret, fun _ _ => wp_ret, fun _ c _ x => by split <;> rfl, ?_⟩
  refine ⟨fun _ _ _ _ => by simp only [V.mv], fun _ _ _ => by simp only [V.mv], fun _ _ => by simp only [V.mv], fun _ _ _ _ _ => by simp only [V.mv], fun _ _ _ => by simp only [V.mv], fun _ _ => by simp only [V.mv], fun _ _ _ => by simp only [V.mv], fun _ _ _ => by simp only [V.mv], fun _ _ => by simp only [V.mvs], fun _ _ _ _ => by simp only [V.mvs], ?_⟩
  refine ⟨fun _ _ => rfl, fun _ g => by cases g with | nil => rfl | cons n g => cases n <;> rfl, fun _ _ _ => rfl, fun _ _ _ _ => rfl, fun _ _ _ _ _ => rfl, ?_⟩
  refine ⟨fun _ _ => by simp only [V.hasR], fun _ => by simp only [V.hasR], fun _ _ _ => by simp only [V.hasR], fun _ => by simp only [V.hasR], fun _ => by simp only [V.hasR], by simp only [V.hasRs], fun _ _ => by simp only [V.hasRs], rfl, fun x => by simp, fun x => by simp⟩
end
section
variable {E : Env} {os : Array Oper} {sl i : Nat} {is : List Nat} {t : List V} {h : Hp} {tr : Tr} {K : List V → Hp → Tr → Prop}
variable {dd : Option Tmp} {d : Tmp} {op : Op} {a b c : Operand} {ty : TypeId} {ps : String} {af : Array Edge} {gu : Option (Nat × Bool)}
/-- A struct's literal. -/
theorem g_bd {tl : TypeId} {psb : Array (Nat × Operand)} {z fs pl} (ho : os[i]? = some ⟨some d, .build tl psb, ty, ps, af, gu⟩) (hg : wantedV os ⟨some d, .build tl psb, ty, ps, af, gu⟩ t = some true)
    (hz : zeroOf E.P tl = .ret z) (hu : E.P.underlying tl = some (.struct fs)) (hp : placesOf E.P fs.toList = some pl)
    (hk : (fillV (pl[·]?) z ((psb.toList.map (·.1)).zip (psb.toList.map fun p => rho E t p.2))).wp h fun l R => gD E os sl is (t.set d (.a l)) h (tr ++ [(i, R, [])]) K) : gD E os sl (i :: is) t h tr K := by
  obtain ⟨l, R, e, hk⟩ := hk
  refine g_pop (U := []) ho hg (v := .a l) (R := R) ?_ hk
  have hv : (Op.build tl psb).operands.toList.map (rho E t) = psb.toList.map fun p => rho E t p.2 := by simp [Op.operands]
  rw [hv]
  simp only [pop, hz, hu, hp, Rd.bind, Rd.of]
  have := bind_run e (f := fun l => Rd.ret (V.a l, ([] : Up))) (R2 := []) rfl
  simpa using this
/-- A slice's literal: single cells. -/
theorem g_bs {tl e : TypeId} {n : Nat} {psb : Array (Nat × Operand)} {z} (ho : os[i]? = some ⟨some d, .buildSlice tl n psb, ty, ps, af, gu⟩) (hg : wantedV os ⟨some d, .buildSlice tl n psb, ty, ps, af, gu⟩ t = some true)
    (hu : E.P.underlying tl = some (.slice e)) (hs : szOf E.P e = .ret 1) (hz : zeroOf E.P e = .ret [z]) (hn : n * 1 ≤ 2 ^ 24)
    (hk : (fillV (fun i => some (i * 1, 1)) (List.replicate n [z]).flatten ((psb.toList.map (·.1)).zip (psb.toList.map fun p => rho E t p.2))).wp h fun l R =>
      gD E os sl is (t.set d (.s (some (sl + 4 * i, 0)) n)) (h.set (sl + 4 * i) (some (.row l (kindOf l) 1 true true none))) (tr ++ [(i, R, [sl + 4 * i])]) K) : gD E os sl (i :: is) t h tr K := by
  obtain ⟨l, R, e, hk⟩ := hk
  refine g_pop (U := [(sl + 4 * i, some (.row l (kindOf l) 1 true true none))]) ho hg (v := .s (some (sl + 4 * i, 0)) n) (R := R) ?_ hk
  have hv : (Op.buildSlice tl n psb).operands.toList.map (rho E t) = psb.toList.map fun p => rho E t p.2 := by simp [Op.operands]
  rw [hv]
  simp only [pop, elemOf, hu, hs, hz, Rd.bind]
  rw [if_pos ⟨hn, rfl, by decide⟩]
  have := bind_run e (f := fun l => Rd.ret (V.s (some (sl + 4 * i, 0)) n, [(sl + 4 * i, some (O.row l (kindOf l) 1 true true none))])) (R2 := []) rfl
  simpa using this
/-- make([]T, n) -/
theorem g_mk {tl e : TypeId} {k1 k2 l c z by_} (ho : os[i]? = some ⟨some d, .makeSlice tl a b, ty, ps, af, gu⟩) (hg : wantedV os ⟨some d, .makeSlice tl a b, ty, ps, af, gu⟩ t = some true)
    (hu : E.P.underlying tl = some (.slice e)) (hs : szOf E.P e = .ret 1) (hb : bytesOf E.P e = .ret by_) (hz : zeroOf E.P e = .ret [z]) (hzc : z.closed = true)
    (hx : rho E t a = .i k1 l) (hy : rho E t b = .i k2 c) (h0 : 0 ≤ l) (h1 : l ≤ c) (h2 : c < limit) (h3 : c * by_ ≤ 281474976710656)
    (hk : gD E os sl is (t.set d (.s (some (sl + 4 * i, 0)) l.toNat)) (h.set (sl + 4 * i) (some (.row (List.replicate l.toNat z) (kindOf [z]) 1 true true none))) (tr ++ [(i, [], [sl + 4 * i])]) K) : gD E os sl (i :: is) t h tr K := by
  refine g_pop (U := [(sl + 4 * i, some (.row (List.replicate l.toNat z) (kindOf [z]) 1 true true none))]) ho hg (v := .s (some (sl + 4 * i, 0)) l.toNat) (R := []) ?_ hk
  show (pop E _ _ [rho E t a, rho E t b]).run h = _
  have hf : (List.replicate l.toNat [z]).flatten = List.replicate l.toNat z := by
    generalize l.toNat = n
    induction n with
    | zero => rfl
    | succ n ih => simp [List.replicate_succ, ih]
  rw [hx, hy]
  simp only [pop, elemOf, hu, hs, hb, hz, Rd.bind, hf]
  rw [if_pos ⟨rfl, by decide, by simp [hzc]⟩, if_pos h0, if_pos ⟨h1, h2, h3⟩]
  rfl
end
section
variable {E : Env} {os : Array Oper} {sl i : Nat} {is : List Nat} {t : List V} {h : Hp} {tr : Tr} {K : List V → Hp → Tr → Prop}
variable {dd : Option Tmp} {d : Tmp} {op : Op} {a b c : Operand} {ty : TypeId} {ps : String} {af : Array Edge} {gu : Option (Nat × Bool)}
/-- Where a field stands. -/
def FA (P : Program) (tl : TypeId) (f off : Nat) : Prop := ∃ fs fd n, fieldsOf P tl = .ret fs ∧ fs[f]? = some fd ∧ szOf P fd.type = .ret (n + 1) ∧ fd.offset = off
theorem g_fd {tl f y off o2} (ho : os[i]? = some ⟨some d, .fieldAddr tl a f, ty, ps, af, gu⟩) (hg : wantedV os ⟨some d, .fieldAddr tl a f, ty, ps, af, gu⟩ t = some true)
    (hf : FA E.P tl f o2) (hx : rho E t a = .p (some (y, off)))
    (hk : gD E os sl is (t.set d (.p (some (y, off + o2)))) h (tr ++ [(i, [], [])]) K) : gD E os sl (i :: is) t h tr K := by
  obtain ⟨fs, fd, n, h1, h2, h3, rfl⟩ := hf
  exact g_fa ho hg h1 h2 h3 hx hk
/-- A function without a body. -/
theorem g_ex {g fn} {as : Array Operand} {ts : Array TypeId} {v} (ho : os[i]? = some ⟨some d, .call ⟨.value (.func g), as, ts⟩, ty, ps, af, gu⟩) (hg : wantedV os ⟨some d, .call ⟨.value (.func g), as, ts⟩, ty, ps, af, gu⟩ t = some true)
    (hf : E.P.funcs[g]? = some fn) (hb : fn.body.isNone = true) (he : E.ext g (as.toList.map (rho E t)) = some v)
    (hk : gD E os sl is (t.set d v) h (tr ++ [(i, [], [])]) K) : gD E os sl (i :: is) t h tr K := by
  refine g_pop (U := []) ho hg (v := v) (R := []) ?_ hk
  rw [ops_call, List.map_cons]
  show (pop E _ (.call ⟨.value (.func g), as, ts⟩) (.f g [] [] :: as.toList.map (rho E t))).run h = _
  simp only [pop, hf, hb, if_true, List.nil_append, List.append_nil, he, Rd.of, Rd.bind]
  rfl
end
theorem nrmb :
    (∀ f c, fillV f c [] = .ret c) ∧
    (∀ (f : Nat → Option (Nat × Nat)) c i v r, fillV f c ((i, v) :: r) = match f i with
      | none => .bad
      | some (off, size) => if v.ok = true ∧ v.cells.length = size ∧ off + size ≤ c.length then fillV f (putCells c off v.cells) r else .bad) ∧
    (∀ k x, V.ok (.i k x) = true) ∧ (∀ x, V.ok (.b x) = true) ∧ (∀ l n p, V.ok (.r l n p) = true) ∧ (∀ o n, V.ok (.s o n) = true) ∧ (∀ o, V.ok (.p o) = true) ∧ (V.ok .z = true) ∧ (∀ l, V.ok (.a l) = l.all V.one) ∧
    (∀ k x, V.one (.i k x) = true) ∧ (∀ x, V.one (.b x) = true) ∧ (∀ l n p, V.one (.r l n p) = true) ∧ (∀ o n, V.one (.s o n) = true) ∧ (∀ o, V.one (.p o) = true) ∧
    (∀ k x, V.cells (.i k x) = [.i k x]) ∧ (∀ x, V.cells (.b x) = [.b x]) ∧ (∀ l n p, V.cells (.r l n p) = [.r l n p]) ∧ (∀ o n, V.cells (.s o n) = [.s o n]) ∧ (∀ o, V.cells (.p o) = [.p o]) ∧ (V.cells .z = [.z]) ∧ (∀ l, V.cells (.a l) = l) ∧
    (∀ l n, putCells l n [] = l) ∧ (∀ l n v vs, putCells l n (v :: vs) = putCells (l.set n v) (n + 1) vs) ∧
    (∀ k a, kindOf [V.i k a] = 2) ∧ (∀ k k' a b, kindOf [V.i k a, V.i k' b] = 2) ∧
    (∀ k a sz w o s, O.row [V.i k a] 2 sz w o s = .row (List.map (V.i k) [a]) 2 sz w o s) ∧
    (∀ k a b sz w o s, O.row [V.i k a, V.i k b] 2 sz w o s = .row (List.map (V.i k) [a, b]) 2 sz w o s) ∧
    (∀ n k a, List.replicate n (V.i k a) = List.map (V.i k) (List.replicate n a)) ∧
    (∀ xs n k a, (List.map (V.i k) xs).set n (.i k a) = List.map (V.i k) (xs.set n a)) ∧
    (∀ xs n k, (List.map (V.i k) xs).drop n = List.map (V.i k) (xs.drop n)) ∧ (∀ xs n k, (List.map (V.i k) xs).take n = List.map (V.i k) (xs.take n)) := by
  refine ⟨fun _ _ => rfl, fun _ _ _ _ _ => rfl, fun _ _ => rfl, fun _ => rfl, fun _ _ _ => rfl, fun _ _ => rfl, fun _ => rfl, rfl, fun _ => rfl, fun _ _ => rfl, fun _ => rfl, fun _ _ _ => rfl, fun _ _ => rfl, fun _ => rfl, fun _ _ => rfl, fun _ => rfl, fun _ _ _ => rfl, fun _ _ => rfl, fun _ => rfl, rfl, fun _ => rfl, fun _ _ => rfl, fun _ _ _ _ => rfl, fun _ _ => rfl, fun _ _ _ _ => rfl, fun _ _ _ _ _ _ => rfl, fun _ _ _ _ _ _ _ => rfl, ?_, ?_, ?_, ?_⟩
  · intro n k a; simp
  · intro xs n k a; simp [List.map_set]
  · intro xs n k; simp [List.map_drop]
  · intro xs n k; simp [List.map_take]
theorem fin_wp {E : Env} {fn : Func} {s : S} {m : Nat} {τ : List Nat} {H' : List O} {r : V} (h1 : τ.take m = List.range m) (h2 : τ.Nodup)
    (h : (resR E.P s.t fn.results.toList).wp s.h fun rs _ => (V.mv false τ (one1 rs)).wp s.h fun r' _ => (O.mvs false τ τ).wp s.h fun H _ => r'.ro = r ∧ H = H') :
    ∃ τ r', fin E fn m τ s = some (r', H') ∧ r'.ro = r := by
  obtain ⟨rs, R, hr, r', R', hm, H, R2, hH, he, rfl⟩ := h
  refine ⟨τ, r', ?_, he⟩
  have : (marsh false τ [one1 rs]).run s.h = some (([r'], H), R' ++ (R2 ++ [])) := by
    refine bind_run (v := [r']) ?_ ?_
    · have := bind_run (f := fun v => (V.mvs false τ []).bind fun l => Rd.ret (v :: l)) hm (w := [r']) (R2 := []) rfl
      simpa [V.mvs] using this
    · exact bind_run hH rfl
  unfold fin
  rw [if_pos ⟨h1, h2⟩]
  simp only [hr, this]
theorem nrmo :
    (∀ (o : O) l, ofL (o :: l) 0 = some o) ∧ (∀ (o : O) l n, ofL (o :: l) (n + 1) = ofL l n) ∧ (∀ n, ofL [] n = none) ∧
    (∀ b σ x o, V.mv b σ (.p (some (x, o))) = match pos σ x with
      | some k => .ret (.p (some (k, o)))
      | none => .bad) ∧ (∀ x, pos [] x = none) ∧ (∀ x y l, pos (y :: l) x = if y = x then some 0 else match pos l x with
      | some k => some (k + 1)
      | none => none) ∧
    (∀ b σ x l, O.mvs b σ (x :: l) = .get x fun
      | some o => (o.mv b σ).bind fun o => (O.mvs b σ l).bind fun l => .ret (o :: l)
      | none => .bad) ∧
    (∀ σ l k sz w o, O.mv false σ (.row l k sz w o none) = (if k = 0 then V.mvs false σ l else .ret l).bind fun l => .ret (.row l k sz w (o && true) none)) ∧
    (∀ σ l k sz w o y, O.mv false σ (.row l k sz w o (some y)) = (if k = 0 then V.mvs false σ l else .ret l).bind fun l => match pos σ y with
      | some j => .ret (.row l k sz w (o && true) (some j))
      | none => .ret (.row l k sz (w && true) (o && true) none)) ∧
    (∀ b σ x o n, V.mv b σ (.s (some (x, o)) n) = match pos σ x with
      | some k => .ret (.s (some (k, o)) n)
      | none => Rd.get x fun
        | some (.row l k sz _ _ sib) => if k = 0 then .bad else
          if b || !(sib.any σ.contains) then .ret (.r ((l.drop o).take (n * sz)) n (k == 2)) else .bad
        | _ => .bad) ∧ ((true && true) = true) := by
  refine ⟨fun _ _ => rfl, fun _ _ _ => rfl, fun _ => rfl, fun b σ x o => by simp only [V.mv] <;> cases pos σ x <;> rfl, fun _ => rfl, fun _ _ _ => rfl, fun _ _ _ _ => rfl, fun _ _ _ _ _ _ => rfl, fun σ l k sz w o y => by simp only [O.mv] <;> congr 1, fun b σ x o n => by simp only [V.mv] <;> cases pos σ x <;> rfl, rfl⟩
theorem nrme :
    (∀ P t, resR P t [] = .ret []) ∧ (∀ P t x l, resR P t (.tmp x :: l) = (resR P t l).bind fun vs => .ret (t.getD x (.t []) :: vs)) ∧
    (∀ P t x ty l, resR P t (.cell x ty :: l) = (aggOf P ty).bind fun c => (szOf P ty).bind fun n => (loadV c n (t.getD x (.t []))).bind fun v => (resR P t l).bind fun vs => .ret (v :: vs)) ∧
    (∀ c n x o, loadV c n (.p (some (x, o))) = (Rd.row x).bind fun r => ld c n r.1 o) ∧
    (∀ n l o, ld true n l o = if o + n ≤ l.length then .ret (.a ((l.drop o).take n)) else .bad) ∧ (∀ n l o, ld false n l o = if o < l.length then .ret (l.getD o .u) else .bad) ∧
    (∀ (h : Hp) x y o, (h.set x o) y = if y = x then o else h y) ∧
    (∀ (h : Hp) (α : Type) x (k : Option O → Rd α) K, (Rd.get x k).wp h K = (k (h x)).wp h (fun a R => K a (x :: R))) ∧
    (∀ (h : Hp) (α : Type) (c : Prop) [Decidable c] (x y : Rd α) K, (if c then x else y).wp h K = (if c then x.wp h K else y.wp h K)) ∧
    (∀ (h : Hp) x K, (Rd.row x).wp h K = match h x with
      | some (.row l k sz w o s) => K (l, k, sz, w, o, s) [x]
      | _ => False) ∧
    (∀ b x o n, V.mv b [] (.s (some (x, o)) n) = Rd.get x fun
      | some (.row l k sz _ _ sib) => if k = 0 then .bad else
        if b || !(sib.any ([] : List Nat).contains) then .ret (.r ((l.drop o).take (n * sz)) n (k == 2)) else .bad
      | _ => .bad) ∧
    (∀ (xs : List Int) n k, xs.length ≤ n → (List.map (V.i k) xs).take n = List.map (V.i k) xs) := by
  refine ⟨fun _ _ => rfl, fun _ _ _ _ => rfl, fun _ _ _ _ _ => rfl, fun _ _ _ _ => rfl, fun _ _ _ => rfl, fun _ _ _ => rfl, fun _ _ _ _ => rfl, fun _ _ _ _ _ => wp_get, ?_, ?_, ?_, ?_⟩
  · intro h α c _ x y K; split <;> rfl
  · intro h x K
    show (Rd.get x _).wp h K = _
    rw [wp_get]
    cases h x with
    | none => exact wp_bad
    | some o => cases o with
      | row l k sz w o s => exact wp_ret
      | map es => exact wp_bad
  · intro b x o n; simp only [V.mv, pos] <;> rfl
  · intro xs n k hn; exact List.take_of_length_le (by simpa using hn)
section
variable {E : Env} {os : Array Oper} {sl i : Nat} {is : List Nat} {t : List V} {h : Hp} {tr : Tr} {K : List V → Hp → Tr → Prop}
variable {dd : Option Tmp} {d : Tmp} {op : Op} {a b c : Operand} {ty : TypeId} {ps : String} {af : Array Edge} {gu : Option (Nat × Bool)}
theorem ops_bi {bi : Builtin} {as : Array Operand} {ts : Array TypeId} : (Op.call ⟨.builtin bi, as, ts⟩).operands.toList = as.toList := by
  simp [Op.operands, Call.operands]
theorem g_bi {bi : Builtin} {as : Array Operand} {ts : Array TypeId} {v U R} (ho : os[i]? = some ⟨some d, .call ⟨.builtin bi, as, ts⟩, ty, ps, af, gu⟩) (hg : wantedV os ⟨some d, .call ⟨.builtin bi, as, ts⟩, ty, ps, af, gu⟩ t = some true)
    (hp : (builtinV E (sl + 4 * i) bi ts (as.toList.map (rho E t))).run h = some ((v, U), R))
    (hk : gD E os sl is (t.set d v) (h.sets U) (tr ++ [(i, R, U.map (·.1))]) K) : gD E os sl (i :: is) t h tr K :=
  g_pop ho hg (by rw [ops_bi]; exact hp) hk
theorem g_min {ts : Array TypeId} {k x y m} (ho : os[i]? = some ⟨some d, .call ⟨.builtin .min, #[a, b], ts⟩, ty, ps, af, gu⟩) (hg : wantedV os ⟨some d, .call ⟨.builtin .min, #[a, b], ts⟩, ty, ps, af, gu⟩ t = some true)
    (hx : rho E t a = .i k x) (hy : rho E t b = .i k y) (hm : (if y < x then y else x) = m)
    (hk : gD E os sl is (t.set d (.i k m)) h (tr ++ [(i, [], [])]) K) : gD E os sl (i :: is) t h tr K := by
  subst hm
  refine g_bi (U := []) (R := []) ho hg ?_ hk
  show (builtinV E _ .min ts [rho E t a, rho E t b]).run h = _
  rw [hx, hy]; rfl
theorem g_max {ts : Array TypeId} {k x y m} (ho : os[i]? = some ⟨some d, .call ⟨.builtin .max, #[a, b], ts⟩, ty, ps, af, gu⟩) (hg : wantedV os ⟨some d, .call ⟨.builtin .max, #[a, b], ts⟩, ty, ps, af, gu⟩ t = some true)
    (hx : rho E t a = .i k x) (hy : rho E t b = .i k y) (hm : (if x < y then y else x) = m)
    (hk : gD E os sl is (t.set d (.i k m)) h (tr ++ [(i, [], [])]) K) : gD E os sl (i :: is) t h tr K := by
  subst hm
  refine g_bi (U := []) (R := []) ho hg ?_ hk
  show (builtinV E _ .max ts [rho E t a, rho E t b]).run h = _
  rw [hx, hy]; rfl
/-- Truths compared. -/
theorem g_eqb {t1 t2 x y} (ho : os[i]? = some ⟨some d, .binOp .eql t1 a b t2, ty, ps, af, gu⟩) (hg : wantedV os ⟨some d, .binOp .eql t1 a b t2, ty, ps, af, gu⟩ t = some true)
    (hu : E.P.underlying t1 = some .bool) (hx : rho E t a = .b x) (hy : rho E t b = .b y)
    (hk : gD E os sl is (t.set d (.b (x == y))) h (tr ++ [(i, [], [])]) K) : gD E os sl (i :: is) t h tr K :=
  g_same ho hg (by rw [hx, hy]; simp only [binV, sameV, V.same, hu]; rfl) hk
theorem g_neb {t1 t2 x y} (ho : os[i]? = some ⟨some d, .binOp .neq t1 a b t2, ty, ps, af, gu⟩) (hg : wantedV os ⟨some d, .binOp .neq t1 a b t2, ty, ps, af, gu⟩ t = some true)
    (hu : E.P.underlying t1 = some .bool) (hx : rho E t a = .b x) (hy : rho E t b = .b y)
    (hk : gD E os sl is (t.set d (.b (x != y))) h (tr ++ [(i, [], [])]) K) : gD E os sl (i :: is) t h tr K :=
  g_same ho hg (by rw [hx, hy]; simp only [binV, sameV, V.same, hu]; rfl) hk
theorem g_ixt {tl : TypeId} {x : ByteArray} {k j v} (ho : os[i]? = some ⟨some d, .index tl a b, ty, ps, af, gu⟩) (hg : wantedV os ⟨some d, .index tl a b, ty, ps, af, gu⟩ t = some true)
    (hu : E.P.underlying tl = some .string) (hx : rho E t a = .tx x) (hj : rho E t b = .i k j) (h0 : 0 ≤ j) (h1 : j.toNat < x.size) (hv : ((x[j.toNat]'h1).toNat : Int) = v)
    (hk : gD E os sl is (t.set d (.i .u8 v)) h (tr ++ [(i, [], [])]) K) : gD E os sl (i :: is) t h tr K := by
  subst hv
  refine g_pop (U := []) (R := []) ho hg ?_ hk
  show (pop E _ _ [rho E t a, rho E t b]).run h = _
  have e : x[j.toNat]? = some (x[j.toNat]'h1) := by simp [h1]
  rw [hx, hj]
  simp only [pop, hu, if_pos h0, e]; rfl
end
section
variable {E : Env} {Q : S → Prop} {ks : List Fm} {s : S}
end
theorem nrml :
    (∀ σ, lent σ [] = .ret []) ∧ (∀ σ x R, lent σ (x :: R) = .get x fun
      | some o => (lent σ R).bind fun l => .ret ((if σ.contains x then [] else [x]) ++ ((match o with | .row _ _ _ _ _ sib => sib | .map _ => none).toList.filter fun y => !σ.contains y) ++ l)
      | none => lent σ R) ∧
    (demote [] = .ret []) ∧ (∀ x l, demote (x :: l) = .get x fun
      | some (.row r k sz _ _ sib) => (demote l).bind fun u => .ret ((x, some (.row r k sz false false sib)) :: u)
      | none => (demote l).bind fun u => .ret u
      | _ => .bad) ∧ (∀ (p : Nat → Bool), List.filter p [] = []) ∧ ((none : Option Nat).toList = []) ∧ (∀ x : Nat, (some x).toList = [x]) := by
  refine ⟨fun _ => rfl, fun _ _ _ => rfl, rfl, fun _ _ => rfl, fun _ => rfl, rfl, fun _ => rfl⟩
/-- Some temporaries' nil slices are empty lists. -/
def roG : List Nat → List V → List V
  | _, [] => []
  | [], l => l
  | 0 :: g, v :: l => v.ro :: roG g l
  | (n + 1) :: g, v :: l => v :: roG (n :: g) l
theorem roG_eq {m : Nat → Bool} : ∀ (t : List V) (g : List Nat) (j : Nat), (∀ i, m (j + i) = kp g i) → roT m j t = roG g t := by
  intro t
  induction t with
  | nil => intro g j _; cases g with
    | nil => rfl
    | cons n g => cases n <;> rfl
  | cons v t ih =>
    intro g j hk
    have h0 := hk 0
    have hs : ∀ g', (∀ i, kp g (i + 1) = kp g' i) → roT m (j + 1) t = roG g' t := fun g' hg => ih g' (j + 1) fun i => by
      rw [← hg i, ← hk (i + 1)]; congr 1; omega
    match g with
    | [] =>
      simp only [kp, Nat.add_zero] at h0
      simp only [roT, h0, hs [] fun _ => by simp only [kp]]
      cases t with
      | nil => simp [roG]
      | cons u t => simp [roG]
    | 0 :: g =>
      simp only [kp, Nat.add_zero] at h0
      simp only [roT, roG, h0, if_true, hs g fun _ => by simp only [kp]]
    | (n + 1) :: g =>
      simp only [kp, Nat.add_zero] at h0
      simp only [roT, roG, h0, hs (n :: g) fun _ => by simp only [kp]]
      rfl
section
variable {E : Env} {Q : S → Prop} {ks : List Fm} {s : S} {c : Code}
theorem less_ro (g : List Nat) : Less s ⟨roG g s.t, s.h, s.n, s.a⟩ := by
  have := Less.ro (s := s) (kp g)
  rw [roG_eq s.t g 0 (fun i => by rw [Nat.zero_add])] at this
  exact this
theorem w_ro (g : List Nat) (h : wk_ E Q ks c ⟨roG g s.t, s.h, s.n, s.a⟩) : wk_ E Q ks c s := w_less (less_ro g) h
end
section
variable {E : Env} {os : Array Oper} {sl i : Nat} {is : List Nat} {t : List V} {h : Hp} {tr : Tr} {K : List V → Hp → Tr → Prop}
variable {dd : Option Tmp} {d : Tmp} {op : Op} {a b c : Operand} {ty : TypeId} {ps : String} {af : Array Edge} {gu : Option (Nat × Bool)}
/-- A call that is handed the objects σ, of a function of which it is told what it does. -/
theorem g_cs (σ : List Nat) {g : Nat} {fn : Func} {fo : Operand} {as : Array Operand} {ts : Array TypeId} {x y args : List V} {H H' : List O} {r : V}
    (ho : os[i]? = some ⟨dd, .call ⟨.value fo, as, ts⟩, ty, ps, af, gu⟩) (hg : wantedV os ⟨dd, .call ⟨.value fo, as, ts⟩, ty, ps, af, gu⟩ t = some true)
    (hfo : rho E t fo = .f g x y) (hf : E.P.funcs[g]? = some fn) (hb : fn.body.isSome = true) (hn : σ.Nodup) (hd : Do E (.fn g args H r H'))
    (hl : σ.length ≤ H'.length ∧ H'.length ≤ σ.length + 4)
    (hm : (V.mvs true σ (x ++ as.toList.map (rho E t) ++ y)).wp h fun args0 R => (O.mvs true σ σ).wp h fun H0 R0 => args0 = args ∧ H0 = H ∧
      (backs (homeOf σ (sl + 4 * i)) σ H').wp h fun u1 R1 => match news (homeOf σ (sl + 4 * i)) σ.length (sl + 4 * i) (H'.drop σ.length) with
        | none => False
        | some u2 => (lent σ (R ++ R0)).wp h fun bs R2 => (demote (if (r.hasR || H'.any O.hasR) = true then bs else [])).wp h fun u3 R3 =>
          gD E os sl is (put t dd (r.ren (homeOf σ (sl + 4 * i)))) (h.sets (u1 ++ u2 ++ u3)) (tr ++ [(i, R ++ R0 ++ R1 ++ R2 ++ R3, (u1 ++ u2 ++ u3).map (·.1))]) K) : gD E os sl (i :: is) t h tr K := by
  obtain ⟨args0, R, e1, H0, R0, e2, rfl, rfl, u1, R1, e3, hm⟩ := hm
  cases e4 : news (homeOf σ (sl + 4 * i)) σ.length (sl + 4 * i) (H'.drop σ.length) with
  | none => rw [e4] at hm; exact hm.elim
  | some u2 =>
    rw [e4] at hm
    obtain ⟨bs, R2, e5, u3, R3, e6, hk⟩ := hm
    refine g_yes ho hg ?_
    show wpO E _ (.call ⟨.value fo, as, ts⟩) _ h _
    rw [show (Oper.op ⟨dd, .call ⟨.value fo, as, ts⟩, ty, ps, af, gu⟩).operands.toList = _ from ops_call, List.map_cons, hfo]
    have hm' : (marsh true σ (x ++ as.toList.map (rho E t) ++ y)).run h = some ((args0, H0), R ++ (R0 ++ [])) := bind_run e1 (bind_run e2 rfl)
    rw [List.append_nil] at hm'
    exact ⟨_, _, _, .call (σ := σ) (x := x) (y := y) (H := H0) (H' := H') (u1 := u1) (u2 := u2) (u3 := u3) (R := R ++ R0) (R1 := R1) (R2 := R2) (R3 := R3) (r := r) (args := args0) (bs := bs) hf hb hn hm' hd hl.1 hl.2 e3 e4 e5 e6, hk⟩
/-- A field of a struct's value. -/
def FX (P : Program) (tl : TypeId) (f off : Nat) (ag : Bool) (n : Nat) : Prop := ∃ fs fd, fieldsOf P tl = .ret fs ∧ fs[f]? = some fd ∧ fd.offset = off ∧ aggOf P fd.type = .ret ag ∧ szOf P fd.type = .ret n
/-- Whole numbers in a new row, by a literal. -/
theorem fill_all {f : Nat → Option (Nat × Nat)} (hf : ∀ i, f i = some (i, 1)) : ∀ (vs : List V) (m : Nat) (pre : List V) (z : V), pre.length = m → (∀ v ∈ vs, v.ok = true ∧ v.cells = [v]) →
    fillV f (pre ++ List.replicate vs.length z) ((List.range' m vs.length).zip vs) = .ret (pre ++ vs) := by
  intro vs
  induction vs with
  | nil => intro m pre z _ _; simp [fillV]
  | cons v vs ih =>
    intro m pre z hm hv
    obtain ⟨h1, h2⟩ := hv v (by simp)
    simp only [List.length_cons, List.range'_succ, List.zip_cons_cons, fillV, hf]
    rw [if_pos ⟨h1, by rw [h2]; rfl, by simp [hm]⟩, h2]
    simp only [putCells]
    have e : (pre ++ List.replicate (vs.length + 1) z).set m v = (pre ++ [v]) ++ List.replicate vs.length z := by
      subst hm
      rw [List.replicate_succ, List.set_append_right _ _ (Nat.le_refl _), Nat.sub_self]
      simp
    rw [e, ih (m + 1) (pre ++ [v]) z (by simp [hm]) (fun u hu => hv u (by simp [hu]))]
    simp
theorem g_bsl {tl e : TypeId} {n : Nat} {psb : Array (Nat × Operand)} {z : V} {k : IntKind} (xs : List Int) (ho : os[i]? = some ⟨some d, .buildSlice tl n psb, ty, ps, af, gu⟩) (hg : wantedV os ⟨some d, .buildSlice tl n psb, ty, ps, af, gu⟩ t = some true)
    (hu : E.P.underlying tl = some (.slice e)) (hs : szOf E.P e = .ret 1) (hz : zeroOf E.P e = .ret [z]) (hn : n * 1 ≤ 2 ^ 24)
    (hi : psb.toList.map (·.1) = List.range' 0 xs.length) (hv : psb.toList.map (fun p => rho E t p.2) = xs.map (V.i k)) (hl : n = xs.length)
    (hk : gD E os sl is (t.set d (.s (some (sl + 4 * i, 0)) n)) (h.set (sl + 4 * i) (some (.row (xs.map (V.i k)) 2 1 true true none))) (tr ++ [(i, [], [sl + 4 * i])]) K) : gD E os sl (i :: is) t h tr K := by
  refine g_bs ho hg hu hs hz hn ⟨xs.map (V.i k), [], ?_, ?_⟩
  · rw [hi, hv]
    have hf : (List.replicate n [z]).flatten = List.replicate (xs.map (V.i k)).length z := by
      rw [List.length_map, ← hl]
      clear hn hl
      induction n with
      | zero => rfl
      | succ n ih => simp [List.replicate_succ, ih]
    have := fill_all (f := fun i => some (i * 1, 1)) (fun i => by rw [Nat.mul_one]) (xs.map (V.i k)) 0 [] z rfl (fun v hv => by obtain ⟨x, _, rfl⟩ := List.mem_map.1 hv; exact ⟨rfl, rfl⟩)
    rw [List.length_map] at this
    rw [hf, List.length_map]
    rw [List.nil_append, List.nil_append] at this
    rw [this]; rfl
  · have : kindOf (xs.map (V.i k)) = 2 := by
      unfold kindOf
      rw [if_pos]
      simp [V.plain]
    show gD E os sl is (t.set d (V.s (some (sl + 4 * i, 0)) n)) (h.set (sl + 4 * i) (some (O.row _ (kindOf (xs.map (V.i k))) 1 true true none))) (tr ++ [(i, [], [sl + 4 * i])]) K
    rw [this]
    exact hk
end
def cpy {α : Type} (d s : List α) : List α := s.take d.length ++ d.drop s.length
theorem tk {α β : Type} (f : α → β) (ys : List α) : (List.map f ys).take ys.length = List.map f ys := List.take_of_length_le (by simp)
theorem cpy_len {α : Type} (d s : List α) : (cpy d s).length = d.length := by simp [cpy]; omega
section
variable {E : Env} {os : Array Oper} {sl i : Nat} {is : List Nat} {t : List V} {h : Hp} {tr : Tr} {K : List V → Hp → Tr → Prop}
variable {dd : Option Tmp} {d : Tmp} {op : Op} {a b c : Operand} {ty : TypeId} {ps : String} {af : Array Edge} {gu : Option (Nat × Bool)}
theorem ap_run {sl' by_ : Nat} {dv x v : V} {U : Up} {R : List Nat} {t0 t1 e e1 : TypeId} {zz : V} (hu : E.P.underlying t0 = some (.slice e)) (hu1 : E.P.underlying t1 = some (.slice e1)) (hs : szOf E.P e = .ret 1) (hb : bytesOf E.P e = .ret by_) (hz : zeroOf E.P e = .ret [zz])
    (hp : (appendV sl' 1 by_ dv x).run h = some ((v, U), R)) : (builtinV E sl' .append #[t0, t1] [dv, x]).run h = some ((v, U), R) := by
  have e0 : (#[t0, t1] : Array TypeId)[0]? = some t0 := rfl
  have e1 : (#[t0, t1] : Array TypeId)[1]? = some t1 := rfl
  simp only [builtinV, e0, e1, Rd.of, Rd.bind, elemOf, hu, hu1, hs, hb, hz]
  rw [if_pos ⟨rfl, rfl, by decide⟩]
  exact hp
/-- To a row of one's own, from a row. -/
theorem g_aps {f : Int → V} {t0 t1 e e1 : TypeId} {y z n m xs ys by_ zz w2 ow2 sb} (ho : os[i]? = some ⟨some d, .call ⟨.builtin .append, #[a, b], #[t0, t1]⟩, ty, ps, af, gu⟩) (hg : wantedV os ⟨some d, .call ⟨.builtin .append, #[a, b], #[t0, t1]⟩, ty, ps, af, gu⟩ t = some true)
    (hu : E.P.underlying t0 = some (.slice e)) (hu1 : E.P.underlying t1 = some (.slice e1)) (hs : szOf E.P e = .ret 1) (hb : bytesOf E.P e = .ret by_) (hz : zeroOf E.P e = .ret [zz])
    (hx : rho E t a = .s (some (y, 0)) n) (hv : rho E t b = .s (some (z, 0)) m)
    (hy : h y = some (.row (List.map f xs) 2 1 true true none)) (hzr : h z = some (.row (List.map f ys) 2 1 w2 ow2 sb)) (hn : n = xs.length) (hn2 : m = ys.length)
    (hl : n + m < limit) (hm : (n + m) * by_ ≤ 140737488355328)
    (hk : gD E os sl is (t.set d (.s (some (sl + 4 * i, 0)) (xs ++ ys).length)) ((h.set y (some (.row (List.map f xs) 2 1 true true (some (sl + 4 * i))))).set (sl + 4 * i) (some (.row (List.map f (xs ++ ys)) 2 1 true true (some y)))) (tr ++ [(i, [z, y], [y, sl + 4 * i])]) K) : gD E os sl (i :: is) t h tr K := by
  subst hn hn2
  refine g_bi (U := [(y, some (.row (List.map f xs) 2 1 true true (some (sl + 4 * i)))), (sl + 4 * i, some (.row (List.map f (xs ++ ys)) 2 1 true true (some y)))]) (v := .s (some (sl + 4 * i, 0)) (xs ++ ys).length) (R := [z, y]) ho hg ?_ hk
  show (builtinV E _ .append #[t0, t1] [rho E t a, rho E t b]).run h = _
  rw [hx, hv]
  refine ap_run hu hu1 hs hb hz ?_
  simp [tk, appendV, srcOf, Rd.row, Rd.bind, Rd.run, hzr, hy, touch, kill, hl, hm]
theorem g_mf {g : Nat} {x y : Array Operand} (ho : os[i]? = some ⟨some d, .makeFunc (.func g) x y, ty, ps, af, gu⟩) (hg : wantedV os ⟨some d, .makeFunc (.func g) x y, ty, ps, af, gu⟩ t = some true)
    (hv : (((x ++ y).toList.map (rho E t)).all V.ok) = true)
    (hk : gD E os sl is (t.set d (.f g (((x ++ y).toList.map (rho E t)).take x.size) (((x ++ y).toList.map (rho E t)).drop x.size))) h (tr ++ [(i, [], [])]) K) : gD E os sl (i :: is) t h tr K := by
  refine g_pop (U := []) (R := []) ho hg ?_ hk
  show (pop E _ (.makeFunc (.func g) x y) ((x ++ y).toList.map (rho E t))).run h = _
  simp only [pop, hv, if_true]; rfl
theorem g_bda {tl e : TypeId} {n m : Nat} {psb : Array (Nat × Operand)} {z} (ho : os[i]? = some ⟨some d, .build tl psb, ty, ps, af, gu⟩) (hg : wantedV os ⟨some d, .build tl psb, ty, ps, af, gu⟩ t = some true)
    (hz : zeroOf E.P tl = .ret z) (hu : E.P.underlying tl = some (.array m e)) (hs : szOf E.P e = .ret n)
    (hk : (fillV (fun i => some (i * n, n)) z ((psb.toList.map (·.1)).zip (psb.toList.map fun p => rho E t p.2))).wp h fun l R => gD E os sl is (t.set d (.a l)) h (tr ++ [(i, R, [])]) K) : gD E os sl (i :: is) t h tr K := by
  obtain ⟨l, R, e, hk⟩ := hk
  refine g_pop (U := []) ho hg (v := .a l) (R := R) ?_ hk
  have hv : (Op.build tl psb).operands.toList.map (rho E t) = psb.toList.map fun p => rho E t p.2 := by simp [Op.operands]
  rw [hv]
  simp only [pop, hz, hu, hs, Rd.bind]
  have := bind_run e (f := fun l => Rd.ret (V.a l, ([] : Up))) (R2 := []) rfl
  simpa using this
theorem g_ixa {tl e : TypeId} {y off n m k j} (ho : os[i]? = some ⟨some d, .indexAddr tl a b, ty, ps, af, gu⟩) (hg : wantedV os ⟨some d, .indexAddr tl a b, ty, ps, af, gu⟩ t = some true)
    (hu : E.P.underlying tl = some (.array m e)) (hs : szOf E.P e = .ret n) (hx : rho E t a = .p (some (y, off))) (hj : rho E t b = .i k j) (h0 : 0 ≤ j) (h1 : j < m)
    (hk : gD E os sl is (t.set d (.p (some (y, off + j.toNat * n)))) h (tr ++ [(i, [], [])]) K) : gD E os sl (i :: is) t h tr K :=
  g_pop (U := []) (R := []) ho hg (by
    show (pop E _ _ [rho E t a, rho E t b]).run h = _
    rw [hx, hj]; simp only [pop, hu, hs, Rd.bind, if_pos h0, if_pos h1]; rfl) hk
end
theorem nrmx :
    (∀ φ, V.ren φ (.p none) = .p none) ∧ (∀ φ x o, V.ren φ (.p (some (x, o))) = .p (some (φ x, o))) ∧ (∀ φ x o n, V.ren φ (.s (some (x, o)) n) = .s (some (φ x, o)) n) ∧ (∀ φ x, V.ren φ (.m x) = .m (φ x)) ∧ (∀ φ, V.ren φ .z = .z) ∧
    (∀ φ g x y, V.ren φ (.f g x y) = .f g (V.rens φ x) (V.rens φ y)) ∧
    (∀ φ k sz w o sib, O.ren φ (.row [] k sz w o sib) = .row [] k sz w o (sib.map φ)) ∧
    (∀ φ l sz w o sib, O.ren φ (.row l 0 sz w o sib) = .row (V.rens φ l) 0 sz w o (sib.map φ)) ∧ (∀ φ l sz w o sib, O.ren φ (.row l 1 sz w o sib) = .row l 1 sz w o (sib.map φ)) ∧
    (∀ φ l sz w o sib, O.ren φ (.row l 2 sz w o sib) = .row l 2 sz w o (sib.map φ)) ∧ (∀ φ es, O.ren φ (.map es) = .map es) ∧
    (∀ σ sl k, homeOf σ sl k = if k < σ.length then σ.getD k 0 else sl + (k - σ.length)) ∧ (∀ (x : Nat) l d, (x :: l).getD 0 d = x) ∧ (∀ (x : Nat) l n d, (x :: l).getD (n + 1) d = l.getD n d) ∧
    (∀ φ m sl, news φ m sl [] = some []) ∧ (∀ φ m sl l k sz w o H, news φ m sl (.row l k sz w o none :: H) = (news φ m (sl + 1) H).map ((sl, some (O.ren φ (.row l k sz w o none))) :: ·)) ∧
    (∀ φ m sl l k sz w o y H, news φ m sl (.row l k sz w o (some y) :: H) = if y < m then none else (news φ m (sl + 1) H).map ((sl, some (O.ren φ (.row l k sz w o (some y)))) :: ·)) ∧
    (∀ φ m sl es H, news φ m sl (.map es :: H) = (news φ m (sl + 1) H).map ((sl, some (O.ren φ (.map es))) :: ·)) ∧
    (∀ (α β : Type) (f : α → β) a, (some a).map f = some (f a)) ∧ (∀ (α β : Type) (f : α → β), (none : Option α).map f = none) ∧
    (∀ φ H, backs φ [] H = .ret []) ∧ (∀ φ x σ o H, backs φ (x :: σ) (o :: H) = .get x fun
      | none => .bad
      | some old => match backO φ old o with
        | some o2 => (backs φ σ H).bind fun u => .ret ((x, some o2) :: u)
        | none => .bad) ∧
    (∀ φ l k sz w ow sib l' k' sz' w' ow' sib', backO φ (.row l k sz w ow sib) (.row l' k' sz' w' ow' sib') = if sz = sz' ∧ k = k' ∧ l.length = l'.length then some (.row (if k' = 0 then V.rens φ l' else l') k' sz (w && w') (ow && w') sib) else none) ∧
    (∀ φ es es', backO φ (.map es) (.map es') = some (.map es')) ∧
    (∀ b σ x, V.mv b σ (.m x) = match pos σ x with
      | some k => .ret (.m k)
      | none => .bad) ∧ (∀ b σ, V.mv b σ .z = .ret .z) ∧
    (∀ b σ g x y, V.mv b σ (.f g x y) = (V.mvs b σ x).bind fun x => (V.mvs b σ y).bind fun y => .ret (.f g x y)) ∧
    (∀ σ l k sz w o, O.mv true σ (.row l k sz w o none) = (if k = 0 then V.mvs true σ l else .ret l).bind fun l => .ret (.row l k sz w (o && false) none)) ∧
    (∀ b σ es, O.mv b σ (.map es) = .ret (.map es)) ∧ (∀ (b : Bool), (b && false) = false) ∧
    (∀ x n, V.hasR (.s x n) = false) ∧ (∀ x, V.hasR (.p x) = false) ∧ (∀ x, V.hasR (.m x) = false) ∧ (V.hasR .z = false) ∧
    (∀ l k sz w o sib, O.hasR (.row l k sz w o sib) = if k = 2 then false else if k = 1 then true else V.hasRs l) ∧ (∀ es, O.hasR (.map es) = false) ∧
    (∀ p, List.any ([] : List O) p = false) ∧ (∀ (p : O → Bool) a l, List.any (a :: l) p = (p a || List.any l p)) ∧
    (∀ g, roG g [] = []) ∧ (∀ v l, roG [] (v :: l) = v :: l) ∧ (∀ g v l, roG (0 :: g) (v :: l) = v.ro :: roG g l) ∧ (∀ n g v l, roG ((n + 1) :: g) (v :: l) = v :: roG (n :: g) l) ∧
    (∀ (h : Hp) α K, (Rd.bad : Rd α).wp h K = False) ∧
    (∀ n v, List.replicate n (V.b v) = List.map V.b (List.replicate n v)) ∧ (∀ a, kindOf [V.b a] = 2) ∧
    (∀ xs n a, (List.map V.b xs).set n (.b a) = List.map V.b (xs.set n a)) ∧ (∀ (d s : List Int), (cpy d s).length = d.length) ∧
    (∀ (xs : List Bool) n, xs.length ≤ n → (List.map V.b xs).take n = List.map V.b xs) ∧ (∀ x, V.ok (.m x) = true) ∧ (∀ g x y, V.ok (.f g x y) = true) ∧ (∀ φ, V.ren φ .u = .u) ∧
    (∀ b σ l off pl, V.mv b σ (.q l off pl) = .ret (.q l off pl)) ∧ (∀ x, V.ro (.p x) = .p x) ∧ (∀ x o n, V.ro (.s (some (x, o)) n) = .s (some (x, o)) n) ∧ (∀ x, V.ro (.m x) = .m x) ∧ (V.ro .u = .u) ∧ (one1 [] = .t []) := by
  refine ⟨fun _ => rfl, fun _ _ _ => rfl, fun _ _ _ _ => rfl, fun _ _ => rfl, fun _ => rfl, fun _ _ _ _ => by simp only [V.ren], ?_⟩
  refine ⟨fun φ k sz w o sib => by simp only [O.ren, V.rens]; split <;> rfl, fun _ _ _ _ _ _ => rfl, fun _ _ _ _ _ _ => rfl, fun _ _ _ _ _ _ => rfl, fun _ _ => rfl, fun _ _ _ => rfl, fun _ _ _ => rfl, fun _ _ _ _ => rfl, ?_⟩
  refine ⟨fun _ _ _ => rfl, fun _ _ _ _ _ _ _ _ _ => rfl, fun _ _ _ _ _ _ _ _ _ _ => rfl, fun _ _ _ _ _ => rfl, fun _ _ _ _ => rfl, fun _ _ _ => rfl, fun _ _ => rfl, fun _ _ _ _ _ => by simp only [backs] <;> congr 1, fun _ _ _ _ _ _ _ _ _ _ _ _ _ => rfl, fun _ _ _ => rfl, ?_⟩
  refine ⟨fun b σ x => by simp only [V.mv] <;> cases pos σ x <;> rfl, fun _ _ => by simp only [V.mv], fun _ _ _ _ _ => by simp only [V.mv], fun _ _ _ _ _ _ => rfl, fun _ _ _ => rfl, fun b => by cases b <;> rfl, ?_⟩
  refine ⟨fun _ _ => by simp only [V.hasR], fun _ => by simp only [V.hasR], fun _ => by simp only [V.hasR], by simp only [V.hasR], fun _ _ _ _ _ _ => rfl, fun _ => rfl, fun _ => rfl, fun _ _ _ => rfl, ?_⟩
  refine ⟨fun g => by cases g with | nil => rfl | cons n g => cases n <;> rfl, fun _ _ => rfl, fun _ _ _ => rfl, fun _ _ _ _ => rfl, fun _ _ _ => wp_bad, ?_⟩
  refine ⟨fun _ _ => by simp, fun _ => rfl, fun _ _ _ => by simp [List.map_set], cpy_len, fun xs n hn => List.take_of_length_le (by simpa using hn), fun _ => rfl, fun _ _ _ => rfl, fun _ => rfl, fun _ _ _ _ _ => by simp only [V.mv], fun _ => rfl, fun _ _ _ => rfl, fun _ => rfl, rfl, rfl⟩
section
variable {E : Env} {os : Array Oper} {sl i : Nat} {is : List Nat} {t : List V} {h : Hp} {tr : Tr} {K : List V → Hp → Tr → Prop}
variable {dd : Option Tmp} {d : Tmp} {op : Op} {a b c : Operand} {ty : TypeId} {ps : String} {af : Array Edge} {gu : Option (Nat × Bool)}
theorem bound_at {k : IntKind} {x : Int} {n : Nat} (h0 : 0 ≤ x) (h1 : x ≤ (n : Int)) : bound n (.i k x) = .ret x.toNat := by
  show (if 0 ≤ x then (if x ≤ (n : Int) then Rd.ret x.toNat else .bad) else .bad) = _
  rw [if_pos h0, if_pos h1]
/-- What stands ahead of a place. -/
theorem g_cth {α : Type} {f : α → V} {tl e : TypeId} {xs : List α} {n k j pl} (ho : os[i]? = some ⟨some d, .slice tl a none (some b) none, ty, ps, af, gu⟩) (hg : wantedV os ⟨some d, .slice tl a none (some b) none, ty, ps, af, gu⟩ t = some true)
    (hu : E.P.underlying tl = some (.slice e)) (hs : szOf E.P e = .ret 1) (hx : rho E t a = .r (List.map f xs) n pl) (hj : rho E t b = .i k j) (hn : n = xs.length) (h0 : 0 ≤ j) (h1 : j ≤ (xs.length : Int))
    (hk : gD E os sl is (t.set d (.r (List.map f (List.take j.toNat xs)) (List.take j.toNat xs).length pl)) h (tr ++ [(i, [], [])]) K) : gD E os sl (i :: is) t h tr K := by
  subst hn
  refine g_pop (U := []) ho hg (v := .r (List.map f (List.take j.toNat xs)) (List.take j.toNat xs).length pl) (R := []) ?_ hk
  show (pop E _ _ [rho E t a, rho E t b]).run h = _
  rw [hx, hj]
  simp only [pop, elemOf, hu, hs, Rd.bind, takeO, Option.isSome_none, Bool.false_eq_true, false_implies, if_true, cutV, bound_at h0 h1, List.length_map]
  have : min j.toNat xs.length = j.toNat := by omega
  simp [Rd.bind, Rd.run, List.map_take, this]
/-- What stands from a place on. -/
theorem g_ctl {α : Type} {f : α → V} {tl e : TypeId} {xs : List α} {n k j pl} (ho : os[i]? = some ⟨some d, .slice tl a (some b) none none, ty, ps, af, gu⟩) (hg : wantedV os ⟨some d, .slice tl a (some b) none none, ty, ps, af, gu⟩ t = some true)
    (hu : E.P.underlying tl = some (.slice e)) (hs : szOf E.P e = .ret 1) (hx : rho E t a = .r (List.map f xs) n pl) (hj : rho E t b = .i k j) (hn : n = xs.length) (h0 : 0 ≤ j) (h1 : j ≤ (xs.length : Int))
    (hk : gD E os sl is (t.set d (.r (List.map f (List.drop j.toNat xs)) (List.drop j.toNat xs).length pl)) h (tr ++ [(i, [], [])]) K) : gD E os sl (i :: is) t h tr K := by
  subst hn
  refine g_pop (U := []) ho hg (v := .r (List.map f (List.drop j.toNat xs)) (List.drop j.toNat xs).length pl) (R := []) ?_ hk
  show (pop E _ _ [rho E t a, rho E t b]).run h = _
  rw [hx, hj]
  simp only [pop, elemOf, hu, hs, Rd.bind, takeO, Option.isSome_none, Bool.false_eq_true, false_implies, if_true, cutV, bound_at h0 h1, List.length_map]
  simp [Rd.bind, Rd.run, List.map_drop]
  exact List.take_of_length_le (by simp)
/-- The same, with its room told. -/
theorem g_csm {tl e : TypeId} {y o l n kk w ow sib k j k2 j2} (ho : os[i]? = some ⟨some d, .slice tl a none (some b) (some c), ty, ps, af, gu⟩) (hg : wantedV os ⟨some d, .slice tl a none (some b) (some c), ty, ps, af, gu⟩ t = some true)
    (hu : E.P.underlying tl = some (.slice e)) (hs : szOf E.P e = .ret 1) (hx : rho E t a = .s (some (y, o)) n) (hj : rho E t b = .i k j) (hj2 : rho E t c = .i k2 j2) (hy : h y = some (.row l kk 1 w ow sib)) (h0 : 0 ≤ j) (h1 : j ≤ j2) (h2 : j2 ≤ (n : Int))
    (hk : gD E os sl is (t.set d (.s (some (y, o)) j.toNat)) h (tr ++ [(i, [y], [])]) K) : gD E os sl (i :: is) t h tr K := by
  refine g_pop (U := []) ho hg (v := .s (some (y, o)) j.toNat) (R := [y]) ?_ hk
  show (pop E _ _ [rho E t a, rho E t b, rho E t c]).run h = _
  rw [hx, hj, hj2]
  simp only [pop, elemOf, hu, hs, Rd.bind, takeO, Option.isSome_some, true_implies, if_true, cutV, bound_at (show 0 ≤ j2 by omega) h2, bound_at h0 (show j ≤ ((j2.toNat : Nat) : Int) by omega)]
  simp [Rd.row, Rd.bind, Rd.run, hy]
/-- An element of a package's table. -/
theorem g_ixg {tl e : TypeId} {l n pl k j} (ho : os[i]? = some ⟨some d, .indexAddr tl a b, ty, ps, af, gu⟩) (hg : wantedV os ⟨some d, .indexAddr tl a b, ty, ps, af, gu⟩ t = some true)
    (hu : E.P.underlying tl = some (.array n e)) (hs : szOf E.P e = .ret 1) (hx : rho E t a = .q l 0 pl) (hj : rho E t b = .i k j) (h0 : 0 ≤ j) (h1 : j < n)
    (hk : gD E os sl is (t.set d (.q l j.toNat pl)) h (tr ++ [(i, [], [])]) K) : gD E os sl (i :: is) t h tr K :=
  g_pop (U := []) (R := []) ho hg (by
    show (pop E _ _ [rho E t a, rho E t b]).run h = _
    rw [hx, hj]; simp only [pop, hu, hs, Rd.bind, if_pos h0, if_pos h1, Nat.mul_one, Nat.zero_add]; rfl) hk
/-- An element of an array in cells, its place told by a test. -/
theorem g_ixv {tl e : TypeId} {y off n m k j} (q : Nat) (ho : os[i]? = some ⟨some d, .indexAddr tl a b, ty, ps, af, gu⟩) (hg : wantedV os ⟨some d, .indexAddr tl a b, ty, ps, af, gu⟩ t = some true)
    (hu : E.P.underlying tl = some (.array m e)) (hs : szOf E.P e = .ret n) (hx : rho E t a = .p (some (y, off))) (hj : rho E t b = .i k j) (hq : j = (q : Int)) (h1 : (q : Int) < m)
    (hk : gD E os sl is (t.set d (.p (some (y, off + q * n)))) h (tr ++ [(i, [], [])]) K) : gD E os sl (i :: is) t h tr K :=
  g_pop (U := []) (R := []) ho hg (by
    subst hq
    show (pop E _ _ [rho E t a, rho E t b]).run h = _
    rw [hx, hj]; simp only [pop, hu, hs, Rd.bind, if_pos (Int.natCast_nonneg q), if_pos h1]; rfl) hk
end
theorem nrmf : (∀ f x y, V.ok (.f f x y) = true) ∧ (∀ f x y, V.one (.f f x y) = true) ∧ (∀ f x y, V.cells (.f f x y) = [.f f x y]) := ⟨fun _ _ _ => rfl, fun _ _ _ => rfl, fun _ _ _ => rfl⟩
theorem it0 {α : Type} {p : Prop} [Decidable p] {x : Option α} {r : α} (h : (if p then none else x) = some r) : ¬ p ∧ x = some r := by
  by_cases c : p
  · rw [if_pos c] at h; cases h
  · rw [if_neg c] at h; exact ⟨c, h⟩
end Go.Rk
namespace Go.Rk
open Go Classical Go.RowKit
set_option linter.unusedVariables false
/-- All that lies in memory now. -/
noncomputable def muW (w : World) : Mu := fun b => match w.heap[b]? with
  | some (.cells cs _ _) => some cs
  | _ => none
theorem muW_some {w : World} {b : Nat} {cs : Array Value} (h : muW w b = some cs) : ∃ e fz, w.heap[b]? = some (.cells cs e fz) := by
  unfold muW at h
  split at h
  · cases h; exact ⟨_, _, ‹_›⟩
  · cases h
theorem rel_start {E : Env} {w : World} (hg : ∀ g, E.G g ≠ [] → VC (muW w) (.q (E.G g) 0 true) (.pointer (some ⟨g, 0, none⟩))) : Rel E (fun _ => none) (muW w) (ofL []) w := by
  refine ⟨?_, ?_, ?_, ?_, fun b cs hb => muW_some hb, ?_, hg⟩ <;> intro x <;> intros <;> simp [ofL] at *
/-- **A call of a function that is handed nothing to write.** -/
theorem calls_of {E : Env} (hE : EnvOk E) {f : Nat} {args : List V} {r : V} {H' : List O} {w : World} {args' : Array Value} (hd : Do E (.fn f args [] r H'))
    (hg : ∀ g, E.G g ≠ [] → VC (muW w) (.q (E.G g) 0 true) (.pointer (some ⟨g, 0, none⟩))) (hv : Vs (fun _ => none) (muW w) args args'.toList) :
    Calls E.P f args' w fun e w' => (∃ x ι' μ', e = .returned x ∧ VR ι' μ' r x) ∧ Below w.heap.size w w' := by
  have h := sound hE hd
  have := h (fun _ => none) (muW w) w args'.toList (rel_start hg) (fun x hx => (hx rfl).elim) (fun k l kk sz wr sib hk => by simp at hk) hv
  simp only [Array.toArray_toList] at this
  refine this.mono fun e w' he => ?_
  obtain ⟨x, ι', μ', rfl, hP⟩ := he
  refine ⟨⟨x, ι', μ', rfl, hP.val⟩, hP.fr.os, hP.fr.tape, hP.fr.output, hP.fr.size, fun b hb => hP.fr.block b hb ?_⟩
  rintro ⟨k, o, L, ho, _⟩
  simp at ho
theorem calls_true {E : Env} (hE : EnvOk E) {f : Nat} {args : List V} {H' : List O} {w : World} {args' : Array Value} (hd : Do E (.fn f args [] (.b true) H'))
    (hg : ∀ g, E.G g ≠ [] → VC (muW w) (.q (E.G g) 0 true) (.pointer (some ⟨g, 0, none⟩))) (hv : Vs (fun _ => none) (muW w) args args'.toList) :
    Calls E.P f args' w fun e w' => e = .returned (.bool true) ∧ Below w.heap.size w w' := by
  refine (calls_of hE hd hg hv).mono fun e w' he => ?_
  obtain ⟨⟨x, ι', μ', rfl, hx⟩, hb⟩ := he
  refine ⟨?_, hb⟩
  cases hx with
  | c h => cases h; rfl
end Go.Rk

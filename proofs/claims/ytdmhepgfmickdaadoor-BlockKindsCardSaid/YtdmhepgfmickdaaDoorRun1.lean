/- Texts of this claim, one behind the other: a machine over plain data, and that it is the model's. -/
import Derived.Test.YtdmhepgfmickdaaDoorRun0
import Derived.Laws.Slices
set_option linter.constructorNameAsVariable false
set_option linter.unusedSimpArgs false
set_option linter.unusedVariables false
set_option linter.unusedSectionVars false
namespace Go.Rk
open Go
set_option linter.unusedVariables false
set_option linter.unusedSimpArgs false

variable {E : Env} {X : Cx} {ι : Io} {μ : Mu} {h : Hp} {sl : Nat} {w : World} {R : List Nat}

theorem bound_run {hi : Nat} {v : V} {n : Nat} {x : Value} (hb : (bound hi v).run h = some (n, R)) (hv : VR ι μ v x) {y : Nat} (hy : hi ≤ y) (code : BoundsCode) :
    n ≤ hi ∧ (Instr.sliceBound x y code).run E.P w = .ok n w := by
  unfold bound at hb
  split at hb
  · rename_i k q
    rw [hv.i_inv]
    split at hb
    · split at hb
      · rename_i h0 h1
        cases hb
        refine ⟨by omega, ?_⟩
        rw [run_sliceBound _ k q y code h0 (by omega)]
      · cases hb
    · cases hb
  · cases hb

def VRo (ι : Io) (μ : Mu) : Option V → Option Value → Prop
  | none, none => True
  | some v, some x => VR ι μ v x
  | _, _ => False

theorem bounds_run {n cap : Nat} {lo hi mx : Option V} {lo' hi' mx' : Option Value} {α : Type} {k : Nat → Nat → Rd α} {b : α}
    (hp : ((match mx with | some v => bound n v | none => .ret n).bind fun m => (match hi with | some v => bound m v | none => .ret n).bind fun h1 =>
      (match lo with | some v => bound h1 v | none => .ret 0).bind fun l => k l h1).run h = some (b, R)) (hn : n ≤ cap)
    (hlo : VRo ι μ lo lo') (hhi : VRo ι μ hi hi') (hmx : VRo ι μ mx mx') (hm : mx.isSome = true → hi.isSome = true) :
    ∃ l h1 m R', (k l h1).run h = some (b, R') ∧ l ≤ h1 ∧ h1 ≤ n ∧ h1 ≤ m ∧ m ≤ cap ∧ (Instr.sliceBounds true n cap lo' hi' mx').run E.P w = .ok (l, h1, m) w := by
  obtain ⟨m, R1, R2, h1, h2, rfl⟩ := Rd.run_bind hp
  obtain ⟨g, R3, R4, h3, h4, rfl⟩ := Rd.run_bind h2
  obtain ⟨l, R5, R6, h5, h6, rfl⟩ := Rd.run_bind h4
  have hlow : ∀ (y : Nat) (code : BoundsCode), g ≤ y → l ≤ g ∧ (match lo' with | some v => Instr.sliceBound v g code | none => pure 0 : Sem Nat).run E.P w = .ok l w := by
    intro y code hy
    cases lo with
    | none => cases h5; cases lo' with | none => exact ⟨Nat.zero_le _, rfl⟩ | some _ => exact hlo.elim
    | some v => cases lo' with | none => exact hlo.elim | some x => exact bound_run h5 hlo (Nat.le_refl _) code
  cases mx with
  | none =>
    cases h1
    cases mx' with | some _ => exact hmx.elim | none => ?_
    cases hi with
    | none =>
      cases h3
      cases hi' with | some _ => exact hhi.elim | none => ?_
      obtain ⟨e1, e2⟩ := hlow n .sliceB (Nat.le_refl _)
      refine ⟨l, n, cap, R6, h6, e1, Nat.le_refl _, hn, Nat.le_refl _, ?_⟩
      simp only [Instr.sliceBounds, Sem.run_bind, Sem.run_pure, Result.andThen_ok]
      cases lo' with
      | none => simp at e2 ⊢; exact e2
      | some v => simp at e2 ⊢; simp [e2]
    | some v =>
      cases hi' with | none => exact hhi.elim | some x => ?_
      obtain ⟨f1, f2⟩ := bound_run (E := E) (w := w) h3 hhi hn .sliceAcap
      obtain ⟨e1, e2⟩ := hlow n .sliceB f1
      refine ⟨l, g, cap, R6, h6, e1, f1, by omega, Nat.le_refl _, ?_⟩
      simp only [Instr.sliceBounds, Sem.run_bind, Sem.run_pure, Result.andThen_ok, if_true, f2]
      cases lo' with
      | none => simp at e2 ⊢; exact e2
      | some v => simp at e2 ⊢; simp [e2]
  | some u =>
    cases mx' with | none => exact hmx.elim | some u' => ?_
    obtain ⟨d1, d2⟩ := bound_run (E := E) (w := w) h1 hmx hn .slice3Acap
    cases hi with
    | none => cases (hm rfl)
    | some v =>
      cases hi' with | none => exact hhi.elim | some x => ?_
      obtain ⟨f1, f2⟩ := bound_run (E := E) (w := w) h3 hhi (Nat.le_refl m) .slice3B
      obtain ⟨e1, e2⟩ := hlow n .slice3C (by omega)
      refine ⟨l, g, m, R6, h6, e1, by omega, f1, by omega, ?_⟩
      simp only [Instr.sliceBounds, Sem.run_bind, Sem.run_pure, Result.andThen_ok, if_true, d2, f2]
      cases lo' with
      | none => simp at e2 ⊢; exact e2
      | some v => simp at e2 ⊢; simp [e2]

theorem slice_run {P : Program} {t e : TypeId} {i : TypeInfo} (ht : P.underlying t = some (.slice e)) (hi : P.info? e = some i) {a : Option Addr} {n cap : Nat} {lo hi' mx : Option Value} {l g m : Nat}
    (hb : (Instr.sliceBounds true n cap lo hi' mx).run P w = .ok (l, g, m) w) :
    (Instr.sliceAt t (.slice a n cap) lo hi' mx).run P w = .ok (.slice (if m = l then a else a.map (·.add (l * i.size))) (g - l) (m - l)) w := by
  simp [Instr.sliceAt, run_underlying ht, Instr.slice, hb, sizeOf, typeInfo, hi]

theorem cut_run {t e : TypeId} {i : TypeInfo} {x v : V} {x' : Value} {lo hi mx : Option V} {lo' hi' mx' : Option Value} (ht : E.P.underlying t = some (.slice e)) (hi0 : E.P.info? e = some i) (hI : Rel E ι μ h w)
    (hp : (cutV i.size x lo hi mx).run h = some (v, R)) (hx : VR ι μ x x') (hlo : VRo ι μ lo lo') (hhi : VRo ι μ hi hi') (hmx : VRo ι μ mx mx') (hm : mx.isSome = true → hi.isSome = true) :
    ∃ z, (Instr.sliceAt t x' lo' hi' mx').run E.P w = .ok z w ∧ VR ι μ v z := by
  unfold cutV at hp
  dsimp only at hp
  split at hp
  · obtain ⟨rfl, _⟩ := hx.sn_inv
    obtain ⟨l, g, m, R', h1, h2, h3, h4, h5, h6⟩ := bounds_run (E := E) (w := w) hp (Nat.le_refl 0) hlo hhi hmx hm
    cases h1
    obtain rfl : m = 0 := by omega
    obtain rfl : l = 0 := by omega
    obtain rfl : g = 0 := by omega
    exact ⟨_, slice_run ht hi0 h6, .c (by simpa using VC.sn rfl)⟩
  · rename_i y o n
    rcases hx.s_inv with ⟨L, cap, hL, hcap, hN, rfl⟩ | ⟨hm0, hyι, a, rfl⟩
    · obtain ⟨l, g, m, R', h1, h2, h3, h4, h5, h6⟩ := bounds_run (E := E) (w := w) hp hcap hlo hhi hmx hm
      obtain ⟨r, R1, R2, h7, h8, rfl⟩ := Rd.run_bind h1
      have hrow := Rd.run_row h7
      split at h8
      · rename_i hsz
        cases h8
        refine ⟨_, slice_run ht hi0 h6, ?_⟩
        have hLs : L.sz = i.size := by
          rcases (hI.obj _ _ hrow).2 with ⟨_, hx0⟩ | ⟨L', hL', hs, _⟩
          · rw [hL] at hx0; cases hx0
          · rw [hL] at hL'; cases hL'; rw [hs]; exact hsz
        by_cases hml : m = l
        · subst hml
          obtain rfl : g = m := by omega
          rw [if_pos rfl]
          simp only [Nat.sub_self]
          exact .s0 hL
        · rw [if_neg hml]
          simp only [Option.map_some, add_off]
          have := VR.s (ι := ι) (μ := μ) (x := y) (o := o + l * i.size) (n := g - l) (cap := m - l) hL (by omega) (by
            have h9 : m * L.sz ≤ cap * L.sz := Nat.mul_le_mul_right _ h5
            have h10 : l * L.sz ≤ m * L.sz := Nat.mul_le_mul_right _ (by omega)
            rw [← hLs, Nat.sub_mul]; omega)
          rw [Nat.add_assoc]; exact this
      · cases h8
    · subst hm0
      obtain ⟨l, g, m, R', h1, h2, h3, h4, h5, h6⟩ := bounds_run (E := E) (w := w) hp (Nat.le_refl 0) hlo hhi hmx hm
      obtain ⟨r, R1, R2, h7, h8, rfl⟩ := Rd.run_bind h1
      split at h8
      · cases h8
        obtain rfl : m = 0 := by omega
        obtain rfl : l = 0 := by omega
        obtain rfl : g = 0 := by omega
        refine ⟨_, slice_run ht hi0 h6, ?_⟩
        simp only [if_true, Nat.sub_self]
        cases hq : ι y with
        | none => exact (hyι hq).elim
        | some q => exact .s0 hq
      · cases h8
  · rename_i xs n pl
    rcases hx.r_inv.r_cases with ⟨rfl, rfl, a, rfl⟩ | ⟨blk, bo, cap, cs, g0, rfl, hb, hn, hc, hr⟩
    · obtain ⟨l, g, m, R', h1, h2, h3, h4, h5, h6⟩ := bounds_run (E := E) (w := w) hp (Nat.le_refl 0) hlo hhi hmx hm
      split at h1
      · cases h1
        obtain rfl : m = 0 := by omega
        obtain rfl : l = 0 := by omega
        obtain rfl : g = 0 := by omega
        refine ⟨_, slice_run ht hi0 h6, ?_⟩
        simp only [if_true, Nat.sub_self, List.drop_nil, List.take_nil]
        exact .c .r0
      · cases h1
    · obtain ⟨l, g, m, R', h1, h2, h3, h4, h5, h6⟩ := bounds_run (E := E) (w := w) hp hn hlo hhi hmx hm
      split at h1
      · rename_i hlen
        cases h1
        refine ⟨_, slice_run ht hi0 h6, ?_⟩
        have hg1 : g * i.size ≤ n * i.size := Nat.mul_le_mul_right _ h3
        have hl1 : l * i.size ≤ g * i.size := Nat.mul_le_mul_right _ h2
        by_cases hml : m = l
        · subst hml
          obtain rfl : g = m := by omega
          rw [if_pos rfl]
          simp only [Nat.sub_self, Nat.zero_mul, List.take_zero]
          exact .c .r0
        · rw [if_neg hml]
          simp only [Option.map_some, add_off]
          refine .c (.r (fun j => g0 (l * i.size + j)) hb (by omega) ?_ ?_)
          · intro j hj
            simp only [List.length_take, List.length_drop] at hj
            have := hc (l * i.size + j) (by omega)
            rw [Nat.add_assoc]; exact this
          · intro j hj
            simp only [List.length_take, List.length_drop] at hj
            simp only [List.getElem_take, List.getElem_drop]
            exact hr _ _
      · cases h1
  · cases hp

/-! Filling. -/
theorem fold_set (cs : List Value) (off : Nat) : ∀ (vs : List Value) (j : Nat) (a : Array Value), a.toList = cs → off + j + vs.length ≤ cs.length →
    ((vs.zipIdx j).foldl (fun cs (c, j) => cs.setIfInBounds (off + j) c) a).toList = cs.take (off + j) ++ (vs ++ cs.drop (off + j + vs.length)) := by
  intro vs
  induction vs generalizing cs with
  | nil => intro j a ha hl; simp [ha]
  | cons v vs ih =>
    intro j a ha hl
    simp only [List.length_cons] at hl
    simp only [List.zipIdx_cons, List.foldl_cons]
    rw [ih (cs.set (off + j) v) (j + 1) _ (by simp [ha]) (by simp; omega)]
    have hlt : off + j < cs.length := by omega
    rw [List.set_eq_take_append_cons_drop, if_pos hlt]
    have h1 : (cs.take (off + j)).length = off + j := by simp; omega
    have h4 : (cs.take (off + j) ++ v :: cs.drop (off + j + 1)).take (off + (j + 1)) = cs.take (off + j) ++ [v] := by
      rw [List.take_append, h1, List.take_of_length_le (by omega)]
      congr 1
      rw [show off + (j + 1) - (off + j) = 1 by omega]; rfl
    have h5 : (cs.take (off + j) ++ v :: cs.drop (off + j + 1)).drop (off + (j + 1) + vs.length) = cs.drop (off + j + (vs.length + 1)) := by
      rw [List.drop_append, h1, List.drop_eq_nil_of_le (by omega), show off + (j + 1) + vs.length - (off + j) = vs.length + 1 by omega]
      simp [List.drop_drop]; congr 1; omega
    rw [h4, h5]; simp

theorem Vs.take {l cs} (h : Vs ι μ l cs) (n : Nat) : Vs ι μ (l.take n) (cs.take n) := by
  refine ⟨by simp [h.1], fun j v hv => ?_⟩
  rw [List.getElem?_take] at hv
  split at hv
  · obtain ⟨x, hx, hr⟩ := h.2 j v hv
    exact ⟨x, by rw [List.getElem?_take_of_lt ‹_›]; exact hx, hr⟩
  · cases hv
theorem Vs.drop {l cs} (h : Vs ι μ l cs) (n : Nat) : Vs ι μ (l.drop n) (cs.drop n) := by
  refine ⟨by simp [h.1], fun j v hv => ?_⟩
  rw [List.getElem?_drop] at hv ⊢
  exact h.2 _ v hv

theorem fill_run {place place' : Nat → Option (Nat × Nat)} (hpl : ∀ j, place j = place' j) : ∀ (ps : List (Nat × V)) (ps' : List (Nat × Value)) (l z : List V) (cs : Array Value),
    ps.map (·.1) = ps'.map (·.1) → Vs ι μ (ps.map (·.2)) (ps'.map (·.2)) → Vs ι μ z cs.toList → (∀ c ∈ cs.toList, oneV c = true) → (fillV place z ps).run h = some (l, R) →
    R = [] ∧ ∃ cs' : Array Value, Instr.fill place' cs ps' = some cs' ∧ Vs ι μ l cs'.toList ∧ ∀ c ∈ cs'.toList, oneV c = true := by
  intro ps
  induction ps generalizing R with
  | nil =>
    intro ps' l z cs h1 h2 h3 h4 h5
    cases ps' with
    | cons _ _ => simp at h1
    | nil => cases h5; exact ⟨rfl, cs, rfl, h3, h4⟩
  | cons p ps ih =>
    intro ps' l z cs h1 h2 h3 h4 h5
    obtain ⟨i, v⟩ := p
    cases ps' with
    | nil => simp at h1
    | cons q qs =>
      obtain ⟨i', x⟩ := q
      simp only [List.map_cons, List.cons.injEq] at h1
      obtain ⟨rfl, h1⟩ := h1
      obtain ⟨x0, ys, e, hvx, htl⟩ := h2.head
      simp only [List.map_cons, List.cons.injEq] at e
      obtain ⟨rfl, rfl⟩ := e
      simp only [fillV] at h5
      split at h5
      · cases h5
      · rename_i off size hpi
        split at h5
        · rename_i hc
          obtain ⟨hok, hsz, hlen⟩ := hc
          obtain ⟨vc, hvc, hvs, hone⟩ := hvx.cells hok
          have hl1 := hvs.1
          have hl3 := h3.1
          simp only [Array.length_toList] at hl3
          rw [putCells_eq _ _ _ (by omega)] at h5
          have hl4 : vc.length = size := by rw [← hl1]; exact hsz
          have hl5 : off + size ≤ cs.size := by rw [← hl3]; exact hlen
          have hfold := fold_set cs.toList off vc 0 cs rfl (by simp; omega)
          simp only [Nat.add_zero] at hfold
          have hcs1 : Vs ι μ (z.take off ++ (v.cells ++ z.drop (off + v.cells.length))) (((vc.zipIdx 0).foldl (fun cs (c, j) => cs.setIfInBounds (off + j) c) cs).toList) := by
            rw [hfold, hl1]
            exact (h3.take _).append (hvs.append (h3.drop _))
          have hone1 : ∀ c ∈ ((vc.zipIdx 0).foldl (fun cs (c, j) => cs.setIfInBounds (off + j) c) cs).toList, oneV c = true := by
            rw [hfold]
            intro c hc
            rcases List.mem_append.1 hc with hc | hc
            · exact h4 c (List.mem_of_mem_take hc)
            · rcases List.mem_append.1 hc with hc | hc
              · exact hone c hc
              · exact h4 c (List.mem_of_mem_drop hc)
          obtain ⟨hR, cs', hf, hv', ho'⟩ := ih qs l _ _ h1 htl hcs1 hone1 h5
          refine ⟨hR, cs', ?_, hv', ho'⟩
          simp only [Instr.fill, ← hpl, hpi, hvc]
          have : ¬ (vc.toArray.size ≠ size ∨ off + vc.toArray.size > cs.size) := by simp; omega
          rw [if_neg (by simpa using this)]
          rw [← hf]
          congr 1
          rw [← Array.foldl_toList]
          simp
        · cases h5


variable {E : Env} {X : Cx} {ι : Io} {μ : Mu} {h : Hp} {sl : Nat} {w : World} {R : List Nat}

structure EnvOk (E : Env) : Prop where
  mixed : E.P.follows .mixedOrders = true
  noNG : ∀ (f : Nat) (fn : Func), E.P.funcs[f]? = some fn → (fn.name == "runtime.NumGoroutine") = false
  ext : ∀ (f : Nat) (fn : Func) args (args' : List Value) ι μ w v, E.P.funcs[f]? = some fn → fn.body.isNone = true → E.ext f args = some v → Vs ι μ args args' →
    ∃ x, (callFunc f args'.toArray).run E.P w = .ok (.value x) w ∧ VR ι μ v x

theorem Vs.one {v x} (h : Vs ι μ [v] [x]) : VR ι μ v x := by obtain ⟨y, l, e, hv, _⟩ := h.head; cases e; exact hv
theorem Vs.two {v x u y} (h : Vs ι μ [v, u] [x, y]) : VR ι μ v x ∧ VR ι μ u y := by obtain ⟨z, l, e, hv, h2⟩ := h.head; cases e; exact ⟨hv, h2.one⟩
theorem Vs.three {v x u y t z} (h : Vs ι μ [v, u, t] [x, y, z]) : VR ι μ v x ∧ VR ι μ u y ∧ VR ι μ t z := by obtain ⟨_, l, e, hv, h2⟩ := h.head; cases e; exact ⟨hv, h2.two⟩

theorem fold_mx {mx : Bool} : ∀ (l : List V) (v r : V) (x : Value) (xs : List Value), (foldMx mx v l).run h = some (r, R) → VR ι μ v x → Vs ι μ l xs →
    ∃ z, (xs.foldlM (if mx = true then Builtin.max2 else Builtin.min2) x).run E.P w = .ok z w ∧ VR ι μ r z := by
  intro l
  induction l with
  | nil =>
    intro v r x xs hp hx hs
    rw [hs.nil']
    cases hp
    exact ⟨x, rfl, hx⟩
  | cons u l ih =>
    intro v r x xs hp hx hs
    obtain ⟨y, ys, rfl, hy, hs'⟩ := hs.head
    unfold foldMx at hp
    split at hp
    · rename_i e; cases e
    · rename_i k a k' b l' e
      cases e
      rw [hx.i_inv, hy.i_inv]
      obtain ⟨z, hz, hv⟩ := ih _ _ _ _ hp (.c .i) hs'
      refine ⟨z, ?_, hv⟩
      rw [List.foldlM_cons, Sem.run_bind, ← hz]
      cases mx <;> rfl
    · cases hp

theorem VRo.none : VRo ι μ none none := trivial
theorem takeO_run {c : Option Operand} {vs : List V} {ρ : Operand → Value} {rest : List Value} (h : Vs ι μ vs ((c.toList.map ρ) ++ rest)) :
    VRo ι μ (takeO c vs).1 (c.map ρ) ∧ Vs ι μ (takeO c vs).2 rest := by
  cases c with
  | none => exact ⟨trivial, h⟩
  | some o =>
    cases vs with
    | nil => have := h.1; simp at this
    | cons v vs =>
      obtain ⟨x, l, e, hv, h2⟩ := h.head
      simp at e
      obtain ⟨rfl, rfl⟩ := e
      exact ⟨hv, h2⟩

theorem places_run {P : Program} : ∀ (fs : List Field) (pl : List (Nat × Nat)), placesOf P fs = some pl →
    (fs.mapM (m := Sem) fun f => do pure (f.offset, ← sizeOf f.type)).run P w = .ok pl w := by
  intro fs
  induction fs with
  | nil => intro pl h; cases h; rfl
  | cons f fs ih =>
    intro pl h
    simp only [placesOf] at h
    split at h
    · rename_i i l h1 h2
      cases h
      have := ih l h2
      have hs : (sizeOf f.type).run P w = .ok i.size w := by simp [sizeOf, typeInfo, h1]
      rw [List.mapM_cons, Sem.run_bind, Sem.run_bind, hs, Result.andThen_ok]
      simp only [Sem.run_pure, Result.andThen_ok, Sem.run_bind, this]
    · cases h

/-- A built literal. -/
theorem build_run {R' : List Nat} {t : TypeId} {ps : Array (Nat × Operand)} {vs z : List V} {r : V} {U : Up} {ρ : Operand → Value} (hI : Rel E ι μ h w) (hz : (zeroOf E.P t).run h = some (z, R'))
    (hp : (match E.P.underlying t with
      | some (.struct fs) => (Rd.of (placesOf E.P fs.toList)).bind fun pl => (fillV (pl[·]?) z ((ps.toList.map (fun p : Nat × Operand => p.1)).zip vs)).bind fun l => .ret (V.a l, ([] : Up))
      | some (.array _ e) => (szOf E.P e).bind fun n => (fillV (fun i => some (i * n, n)) z ((ps.toList.map (fun p : Nat × Operand => p.1)).zip vs)).bind fun l => .ret (.a l, [])
      | _ => .bad).run h = some ((r, U), R)) (hv : Vs ι μ vs (ps.toList.map fun p => ρ p.2)) :
    U = [] ∧ ∃ x, (Instr.build t (ps.map fun (i, x) => (i, ρ x))).run E.P w = .ok x w ∧ VR ι μ r x := by
  obtain ⟨hR', i, zv, hi, hzz, hzs⟩ := zeroOf_run hz
  obtain ⟨s1, s2, s3, s4⟩ := scalars_vs hzs
  have hln := hv.1
  simp only [List.length_map] at hln
  have hm1 : ((ps.toList.map (·.1)).zip vs).map (·.1) = ((ps.map fun (i, x) => (i, ρ x)).toList).map (·.1) := by
    rw [List.map_fst_zip (by simp [hln])]; simp
  have hm2 : Vs ι μ (((ps.toList.map (·.1)).zip vs).map (·.2)) (((ps.map fun (i, x) => (i, ρ x)).toList).map (·.2)) := by
    rw [List.map_snd_zip (by simp [hln]), Array.toList_map, List.map_map]; exact hv
  split at hp
  · rename_i fs hu
    obtain ⟨pl, R1, R2, h1, h2, rfl⟩ := Rd.run_bind hp
    obtain ⟨l, R3, R4, h3, h4, rfl⟩ := Rd.run_bind h2
    cases h4
    have hpl := places_run (w := w) fs.toList pl (Rd.run_of h1).1
    obtain ⟨_, cs', hf, hvs, _⟩ := fill_run (place' := (pl.toArray[·]?)) (fun j => by simp) _ _ _ _ zv.cells hm1 hm2 (s1 ι μ) s2 h3
    refine ⟨rfl, .agg cs', ?_, ?_⟩
    · have : (fs.mapM (m := Sem) fun f => do pure (f.offset, ← sizeOf f.type)).run E.P w = .ok pl.toArray w := by
        rw [← Array.toArray_toList (xs := fs)]
        simp only [List.mapM_toArray, Sem.run_map, hpl, Result.andThen_ok]
      simp only [Instr.build, Sem.run_bind, zeroValue, typeInfo, Sem.run_bind, run_program, Result.andThen_ok, hi, Sem.run_pure, hzz, run_underlying hu, this]
      have hf' : Instr.fill (fun x => pl.toArray[x]?) zv.cells (ps.map fun (i, x) => (i, ρ x)).toList = some cs' := hf
      show ((match Instr.fill (fun x => pl.toArray[x]?) zv.cells (ps.map fun (i, x) => (i, ρ x)).toList with | some cells => Pure.pure (.agg cells) | _ => stuck _ : Sem Value)).run E.P w = _
      rw [hf']; rfl
    · have := VR.mk_a hvs; simpa using this
  · rename_i n e hu
    obtain ⟨sz, R1, R2, h1, h2, rfl⟩ := Rd.run_bind hp
    obtain ⟨l, R3, R4, h3, h4, rfl⟩ := Rd.run_bind h2
    cases h4
    have hs := sizeOf_run h1 w
    obtain ⟨_, cs', hf, hvs, _⟩ := fill_run (place' := fun i => some (i * sz, sz)) (fun j => rfl) _ _ _ _ zv.cells hm1 hm2 (s1 ι μ) s2 h3
    refine ⟨rfl, .agg cs', ?_, ?_⟩
    · simp only [Instr.build, Sem.run_bind, zeroValue, typeInfo, Sem.run_bind, run_program, Result.andThen_ok, hi, Sem.run_pure, hzz, run_underlying hu, hs]
      rw [hf]
      simp
    · have := VR.mk_a hvs; simpa using this
  · cases hp


variable {E : Env} {X : Cx} {ι : Io} {μ : Mu} {h : Hp} {sl : Nat} {w : World} {R : List Nat}

/-- Another object at a block that is one object's alone. -/
theorem Inv.putObj (hI : Inv E X ι μ h w) {x : Nat} {es es1 : List (V × V)} {L : Loc} {o' : Obj} (hx : h x = some (.map es)) (hL : ι x = some (some L))
    (ho : RO ι μ { w with heap := w.heap.setIfInBounds L.b o' } x (.map es1)) :
    Inv E X ι μ (h.set x (some (.map es1))) { w with heap := w.heap.setIfInBounds L.b o' } := by
  have hne : ∀ y oy M, h y = some oy → y ≠ x → ι y = some (some M) → M.b ≠ L.b := by
    intro y oy M hy hyx hM hb
    have := hI.rel.sep x y _ oy L M hx hy (Ne.symm hyx) rfl hL hM hb.symm
    cases this
  have hoth : ∀ b, b ≠ L.b → (w.heap.setIfInBounds L.b o')[b]? = w.heap[b]? := fun b hb => by
    rw [Array.getElem?_setIfInBounds_ne (Ne.symm hb)]
  have hset : ∀ y p, (h.set x (some (.map es1))) y = some p → (y = x ∧ p = .map es1) ∨ (y ≠ x ∧ h y = some p) := by
    intro y p hp
    by_cases hy : y = x
    · subst hy; rw [Hp.set_same] at hp; cases hp; exact .inl ⟨rfl, rfl⟩
    · rw [Hp.set_ne _ _ hy] at hp; exact .inr ⟨hy, hp⟩
  constructor
  · constructor
    · intro y p hp
      rcases hset y p hp with ⟨rfl, rfl⟩ | ⟨hy, hp⟩
      · exact ho
      · exact (hI.rel.obj y p hp).frame (fun _ _ h => h) (fun _ _ h => h) fun M hM => hoth _ (hne y p M hp hy hM)
    · intro y z oy oz M M' hy hz hyz hwr hM hM' hb
      rcases hset y oy hy with ⟨rfl, rfl⟩ | ⟨hy1, hy3⟩
      · rcases hset z oz hz with ⟨rfl, rfl⟩ | ⟨hz1, hz3⟩
        · exact (hyz rfl).elim
        · rw [hL] at hM; cases hM
          exact (hne z oz M' hz3 hz1 hM' hb.symm).elim
      · rcases hset z oz hz with ⟨rfl, rfl⟩ | ⟨hz1, hz3⟩
        · rw [hL] at hM'; cases hM'
          exact (hne y oy M hy3 hy1 hM hb).elim
        · exact hI.rel.sep y z oy oz M M' hy3 hz3 hyz hwr hM hM' hb
    · intro y z oy oz hy hz hsb
      rcases hset y oy hy with ⟨rfl, rfl⟩ | ⟨hy1, hy3⟩
      · cases hsb
      · rcases hset z oz hz with ⟨rfl, rfl⟩ | ⟨hz1, hz3⟩
        · have := hI.rel.sym y z oy _ hy3 hx hsb; cases this
        · exact hI.rel.sym y z oy oz hy3 hz3 hsb
    · intro y p z hy hsb
      rcases hset y p hy with ⟨rfl, rfl⟩ | ⟨hy1, hy3⟩
      · cases hsb
      · exact hI.rel.kin y p z hy3 hsb
    · intro b cs1 hb
      obtain ⟨e1, fz1, h1⟩ := hI.rel.imm b cs1 hb
      have := hI.rel.off b cs1 hb x _ L hx rfl hL
      exact ⟨e1, fz1, by rw [show _ = _ from hoth b (Ne.symm this)]; exact h1⟩
    · intro b cs1 hb y oy M hy hwr hM
      rcases hset y oy hy with ⟨rfl, rfl⟩ | ⟨hy1, hy3⟩
      · exact hI.rel.off b cs1 hb y _ M hx rfl hM
      · exact hI.rel.off b cs1 hb y oy M hy3 hwr hM
    · exact hI.rel.glob
  · exact hI.anch
  · exact hI.new
  · intro y p M hya hp hwr hM
    rcases hset y p hp with ⟨rfl, rfl⟩ | ⟨hy1, hy3⟩
    · exact hI.wrM y _ M hya hx rfl hM
    · exact hI.wrM y p M hya hy3 hwr hM
  · intro y l1 k1 sz1 wr1 sib1 hya hp
    rcases hset y _ hp with ⟨rfl, h5⟩ | ⟨hy1, hy3⟩
    · cases h5
    · exact hI.own y _ _ _ _ _ hya hy3
  · refine hI.fr.trans ⟨rfl, rfl, rfl, by simp, fun b hb hm => hoth b ?_⟩
    rintro rfl
    by_cases hxa : x < X.a
    · rcases hI.wrM x _ L hxa hx rfl hL with h1 | h1
      · omega
      · exact hm h1
    · have := hI.new x L (by omega) hL; omega
  · exact hI.mu
  · exact hI.muB
  · simpa using hI.size

def MapRel (es : List (V × V)) (es' : List MapEntry) : Prop :=
  es.length = es'.length ∧ ∀ (j : Nat) k v, es[j]? = some (k, v) → ∃ e : MapEntry, es'[j]? = some e ∧ VC mu0 k e.key ∧ VC mu0 v e.val
theorem MapRel.tail {p es e es'} (h : MapRel (p :: es) (e :: es')) : MapRel es es' :=
  ⟨by simpa using h.1, fun j k v hj => h.2 (j + 1) k v hj⟩
theorem MapRel.head {k v es e es'} (h : MapRel ((k, v) :: es) (e :: es')) : VC mu0 k e.key ∧ VC mu0 v e.val := by
  obtain ⟨e', he, h1⟩ := h.2 0 k v rfl; cases he; exact h1

theorem mapFind_run {kd : IntKind} {k : V} {x : Value} (hk : VR ι μ k x) : ∀ (es : List (V × V)) (es' : List MapEntry) (i : Nat) (r : Option V), mapFind k es = some r → MapRel es es' →
    (r = none ∧ Instr.findNow (.int kd) x es' i = some none) ∨ ∃ v j e, r = some v ∧ Instr.findNow (.int kd) x es' i = some (some (i + j, e)) ∧ VC mu0 v e ∧ j < es.length := by
  intro es
  induction es with
  | nil =>
    intro es' i r hr hm
    cases hr
    have : es' = [] := List.eq_nil_of_length_eq_zero hm.1.symm
    subst this
    exact .inl ⟨rfl, rfl⟩
  | cons p es ih =>
    intro es' i r hr hm
    obtain ⟨k', v⟩ := p
    cases es' with
    | nil => have := hm.1; simp at this
    | cons e es' =>
      obtain ⟨h1, h2⟩ := hm.head
      simp only [mapFind] at hr
      split at hr
      · rename_i a q b y
        split at hr
        · subst ‹a = b›
          have hx := hk.i_inv
          have he : e.key = .int a y := (VR.c (ι := ι) h1).i_inv
          split at hr
          · subst ‹q = y›
            cases hr
            refine .inr ⟨v, 0, e.val, rfl, ?_, h2, by simp⟩
            simp [Instr.findNow, he, hx, Instr.sameNow]
          · have hn : (q == y) = false := by simpa using ‹¬ q = y›
            rcases ih es' (i + 1) r hr hm.tail with ⟨h3, h4⟩ | ⟨v', j, e', h3, h4, h5, h6⟩
            · refine .inl ⟨h3, ?_⟩
              simp [Instr.findNow, he, hx, Instr.sameNow, hn] at h4 ⊢
              exact h4
            · refine .inr ⟨v', j + 1, e', h3, ?_, h5, by simp; omega⟩
              have : i + (j + 1) = i + 1 + j := by omega
              rw [this]
              simp [Instr.findNow, he, hx, Instr.sameNow, hn] at h4 ⊢
              exact h4
        · cases hr
      · cases hr

theorem getObj_map {P : Program} {r : Nat} {es : Array MapEntry} {clk : Nat} (hb : w.heap[r]? = some (.map es clk)) : (getObj r).run P w = .ok (.map es clk) w := by
  simp [getObj, Sem.run, hb]
theorem setObj_map {P : Program} {r : Nat} {es es2 : Array MapEntry} {clk c2 : Nat} (hb : w.heap[r]? = some (.map es clk)) :
    (setObj r (.map es2 c2)).run P w = .ok () { w with heap := w.heap.setIfInBounds r (.map es2 c2) } := by
  simp [setObj, Sem.run, hb]
theorem checkKey_int {P : Program} {t : TypeId} {kd : IntKind} (hu : P.underlying t = some (.int kd)) (e : Bool) (d : Nat) (v : Value) : (Instr.checkKey e (d + 1) t v).run P w = .ok () w := by
  rw [Instr.checkKey, Sem.run_bind, run_underlying hu]; rfl
theorem findKey_int {P : Program} {t : TypeId} {kd : IntKind} (hu : P.underlying t = some (.int kd)) {k : Value} {es : List MapEntry} {r} (hf : Instr.findNow (.int kd) k es 0 = some r) :
    (Instr.findKey t k es).run P w = .ok r w := by
  simp [Instr.findKey, run_underlying hu, hf]

theorem lookup_goes {t kt e : TypeId} {kd : IntKind} {ok : Bool} {x : Nat} {k : V} {es : List (V × V)} {r : Option V} {z : V} {x' k' zv : Value} {i : TypeInfo} (hu : E.P.underlying t = some (.map kt e)) (hk0 : E.P.underlying kt = some (.int kd))
    (hI : Rel E ι μ h w) (hi : E.P.info? e = some i) (hzz : i.zero = some zv) (hzs : scalar zv = some z) (hes : h x = some (.map es)) (hf : mapFind k es = some r) (hx : VR ι μ (.m x) x') (hk : VR ι μ k k') :
    ∃ y, (Instr.lookup t x' k' ok).run E.P w = .ok y w ∧ VR ι μ (if ok = true then .t [r.getD z, .b r.isSome] else r.getD z) y := by
  obtain ⟨L, hL, rfl⟩ := hx.m_inv
  obtain ⟨L', hL', es', clk, hw, hlen, hrel⟩ := hI.obj _ _ hes
  rw [hL] at hL'; cases hL'
  have hm : MapRel es es'.toList := ⟨by simpa using hlen, fun j k v hj => by simpa using hrel j k v hj⟩
  have hck := checkKey_int (w := w) hk0 es'.isEmpty 9999 k'
  have hcz := (scalar_vr hzs).1
  rcases mapFind_run (kd := kd) hk es es'.toList 0 r hf hm with ⟨rfl, h1⟩ | ⟨v, j, e1, rfl, h1, h2, h3⟩
  · have hfk := findKey_int (w := w) hk0 h1
    refine ⟨if ok = true then .tuple #[zv, .bool false] else zv, ?_, ?_⟩
    · simp only [Instr.lookup, Sem.run_bind, run_underlying hu, getObj_map hw, Result.andThen_ok, Sem.run_pure, show Instr.checkKey es'.isEmpty 10000 kt k' = Instr.checkKey es'.isEmpty (9999 + 1) kt k' from rfl, hck, hfk, zeroValue, typeInfo, run_program, hi, hzz]
    · cases ok
      · exact .c hcz.to0
      · exact .mk_t (cs := [zv, .bool false]) (.cons (.c hcz.to0) (.cons (.c .b) .nil))
  · have hfk := findKey_int (w := w) hk0 h1
    refine ⟨if ok = true then .tuple #[e1, .bool true] else e1, ?_, ?_⟩
    · simp only [Instr.lookup, Sem.run_bind, run_underlying hu, getObj_map hw, Result.andThen_ok, Sem.run_pure, show Instr.checkKey es'.isEmpty 10000 kt k' = Instr.checkKey es'.isEmpty (9999 + 1) kt k' from rfl, hck, hfk, zeroValue, typeInfo, run_program, hi, hzz]
    · cases ok
      · exact .c h2.to0
      · exact .mk_t (cs := [e1, .bool true]) (.cons (.c h2.to0) (.cons (.c .b) .nil))

/-- Where a key is put, and what of it. -/
theorem mapPut_run {kd : IntKind} {k v : V} {x y : Value} (hk : VR ι μ k x) (hv : VC mu0 v y) (hkc : VC mu0 k x) (clk : Nat) : ∀ (es : List (V × V)) (es' : List MapEntry) (i : Nat) (es1 : List (V × V)), mapPut k v es = some es1 → MapRel es es' →
    (Instr.findNow (.int kd) x es' i = some none ∧ MapRel es1 (es' ++ [{ key := x, val := y, born := clk }])) ∨
    ∃ j e, Instr.findNow (.int kd) x es' i = some (some (i + j, e)) ∧ j < es'.length ∧ (∀ e, es'[j]? = some e → e.key = x) ∧
      MapRel es1 (es'.modify j fun e => { e with key := x, val := y }) := by
  intro es
  induction es with
  | nil =>
    intro es' i es1 hr hm
    cases hr
    have : es' = [] := List.eq_nil_of_length_eq_zero hm.1.symm
    subst this
    refine .inl ⟨rfl, rfl, fun j k' v' hj => ?_⟩
    cases j with
    | zero => cases hj; exact ⟨_, rfl, hkc, hv⟩
    | succ j => simp at hj
  | cons p es ih =>
    intro es' i es1 hr hm
    obtain ⟨k', v'⟩ := p
    cases es' with
    | nil => have := hm.1; simp at this
    | cons e es' =>
      obtain ⟨h1, h2⟩ := hm.head
      simp only [mapPut] at hr
      split at hr
      · rename_i a q b y'
        split at hr
        · subst ‹a = b›
          have hx := hk.i_inv
          have he : e.key = .int a y' := (VR.c (ι := ι) h1).i_inv
          split at hr
          · subst ‹q = y'›
            cases hr
            refine .inr ⟨0, e.val, ?_, by simp, fun e0 h0 => ?_, ?_⟩
            · simp [Instr.findNow, he, hx, Instr.sameNow]
            · cases h0; rw [he, hx]
            · refine ⟨by simpa using hm.1, fun j k1 v1 hj => ?_⟩
              cases j with
              | zero => cases hj; exact ⟨_, rfl, hkc, hv⟩
              | succ j => exact hm.2 (j + 1) k1 v1 hj
          · have hn : (q == y') = false := by simpa using ‹¬ q = y'›
            cases hq : mapPut (.i a q) v es with
            | none => rw [hq] at hr; cases hr
            | some es2 =>
              rw [hq] at hr; cases hr
              have lift : ∀ l, MapRel es2 l → MapRel ((.i a y', v') :: es2) (e :: l) := by
                intro l hl
                refine ⟨by simp [hl.1], fun j k1 v1 hj => ?_⟩
                cases j with
                | zero => cases hj; exact ⟨e, rfl, h1, h2⟩
                | succ j => exact hl.2 j k1 v1 (by simpa using hj)
              rcases ih es' (i + 1) es2 hq hm.tail with ⟨h3, h4⟩ | ⟨j, e', h3, h4, h5, h6⟩
              · refine .inl ⟨?_, lift _ h4⟩
                simp [Instr.findNow, he, hx, Instr.sameNow, hn] at h3 ⊢
                exact h3
              · refine .inr ⟨j + 1, e', ?_, by simp; omega, fun e0 h0 => h5 e0 (by simpa using h0), by simpa using lift _ h6⟩
                have : i + (j + 1) = i + 1 + j := by omega
                rw [this]
                simp [Instr.findNow, he, hx, Instr.sameNow, hn] at h3 ⊢
                exact h3
        · cases hr
      · cases hr

theorem mapUpdate_goes {t kt e : TypeId} {kd : IntKind} {x : Nat} {k v : V} {es es1 : List (V × V)} {x' k' v' : Value} {r : Result Next} (hu : E.P.underlying t = some (.map kt e)) (hk0 : E.P.underlying kt = some (.int kd))
    (hI : Inv E X ι μ h w) (hes : h x = some (.map es)) (hf : mapPut k v es = some es1) (hx : VR ι μ (.m x) x') (hk : VR ι μ k k') (hkp : k.plain = true) (hv : VR ι μ v v') (hvp : v.plain = true)
    (hr : ∀ w', (Instr.mapUpdate t x' k' v').run E.P w = .ok () w' → r = .ok .skip w') : Goes E X ι μ h sl w r (.t []) [(x, some (.map es1))] := by
  obtain ⟨L, hL, rfl⟩ := hx.m_inv
  obtain ⟨L', hL', es', clk, hw, hlen, hrel⟩ := hI.rel.obj _ _ hes
  rw [hL] at hL'; cases hL'
  have hm : MapRel es es'.toList := ⟨by simpa using hlen, fun j k v hj => by simpa using hrel j k v hj⟩
  have hck := checkKey_int (w := w) hk0 false 9999 k'
  have hlt : L.b < w.heap.size := (Array.getElem?_eq_some_iff.1 hw).1
  have fin : ∀ (es2 : Array MapEntry) (c2 : Nat), MapRel es1 es2.toList → (Instr.mapUpdate t (.map (some L.b)) k' v').run E.P w = .ok () { w with heap := w.heap.setIfInBounds L.b (.map es2 c2) } →
      Goes E X ι μ h sl w r (.t []) [(x, some (.map es1))] := by
    intro es2 c2 hm2 hrun
    refine Goes.skip (hr _ hrun) ?_
    refine hI.putObj hes hL ⟨L, hL, es2, c2, ?_, by simpa using hm2.1, fun j k v hj => by simpa using hm2.2 j k v hj⟩
    show (w.heap.setIfInBounds L.b _)[L.b]? = _
    simp [hlt]
  rcases mapPut_run (kd := kd) hk (VC.of_plain hv hvp) (VC.of_plain hk hkp) clk es es'.toList 0 es1 hf hm with ⟨h1, h2⟩ | ⟨j, e1, h1, h2, h3, h4⟩
  · have hfk := findKey_int (w := w) hk0 h1
    refine fin (es'.push { key := k', val := v', born := clk }) (clk + 1) (by simpa using h2) ?_
    simp only [Instr.mapUpdate, Sem.run_bind, run_underlying hu, getObj_map hw, Result.andThen_ok, show Instr.checkKey false 10000 kt k' = Instr.checkKey false (9999 + 1) kt k' from rfl, hck, hfk, setObj_map hw]
  · have hfk := findKey_int (w := w) hk0 h1
    simp only [Nat.zero_add] at hfk
    have hkey : ((es'[j]?).map (·.key)).getD k' = k' := by
      cases hq : es'[j]? with
      | none => rfl
      | some e0 => exact h3 e0 (by simpa using hq)
    have hst : (Instr.keyThatStays k' k').run E.P w = .ok k' w := by
      have : Instr.sameBits 10000 k' k' = true := by
        cases k <;> first | (cases hkp; done) | skip
        · rw [hk.b_inv]; simp [Instr.sameBits]
        · rw [hk.i_inv]; simp [Instr.sameBits]
      simp only [Instr.keyThatStays, this, if_true, Sem.run_pure]
    refine fin (es'.modify j fun e => { e with key := k', val := v' }) clk (by simpa using h4) ?_
    simp only [Instr.mapUpdate, Sem.run_bind, run_underlying hu, getObj_map hw, Result.andThen_ok, show Instr.checkKey false 10000 kt k' = Instr.checkKey false (9999 + 1) kt k' from rfl, hck, hfk, hkey, hst, setObj_map hw]


variable {E : Env} {X : Cx} {ι : Io} {μ : Mu} {h : Hp} {sl : Nat} {w : World} {R : List Nat}

theorem builtin_goes {bi : Builtin} {ts : Array TypeId} {ty : TypeId} {cs : Array Bool} {vs : List V} {v : V} {U : Up} {args : Array Value} (hE : EnvOk E) (hp : (builtinV E sl bi ts vs).run h = some ((v, U), R))
    (hI : Inv E X ι μ h w) (hsl : ι sl = none) (ha : X.a ≤ sl) (hv : Vs ι μ vs args.toList) : Goes E X ι μ h sl w ((builtin bi ts ty cs args).run E.P w) v U := by
  unfold builtinV at hp
  split at hp
  · -- append
    rename_i d x
    obtain ⟨t0, R1, R2, h1, h2, rfl⟩ := Rd.run_bind hp
    obtain ⟨t1, R3, R4, h3, h4, rfl⟩ := Rd.run_bind h2
    obtain ⟨e, R5, R6, h5, h6, rfl⟩ := Rd.run_bind h4
    obtain ⟨e1, R7, R8, h7, h8, rfl⟩ := Rd.run_bind h6
    obtain ⟨sz, R9, R10, h9, h10, rfl⟩ := Rd.run_bind h8
    obtain ⟨by_, R11, R12, h11, h12, rfl⟩ := Rd.run_bind h10
    obtain ⟨z, R13, R14, h13, h14, rfl⟩ := Rd.run_bind h12
    obtain ⟨hts0, _⟩ := Rd.run_of h1
    obtain ⟨hts1, _⟩ := Rd.run_of h3
    obtain ⟨_, ht⟩ := run_elemOf h5
    obtain ⟨_, hu1⟩ := run_elemOf h7
    obtain ⟨_, i, hi, rfl⟩ := run_szOf h9
    obtain ⟨_, i', hi', rfl⟩ := run_bytesOf h11
    rw [hi] at hi'; cases hi'
    obtain ⟨_, i', zv, hi', hz, hzs⟩ := zeroOf_run h13
    rw [hi] at hi'; cases hi'
    split at h14
    · rename_i hc
      obtain ⟨hc0, hc2, hc3⟩ := hc
      obtain ⟨x1, l1, e1, hd, ht1⟩ := hv.head
      obtain ⟨x2, l2, e2, hx, ht2⟩ := ht1.head
      have e3 := ht2.nil'
      subst e3 e2
      have hargs : args = #[x1, x2] := by apply Array.ext'; rw [e1]
      subst hargs
      have hts : ts = #[t0, t1] := by
        obtain ⟨l⟩ := ts
        match l, hc2 with
        | [a, b], _ => simp at hts0 hts1; rw [hts0, hts1]
      have hzsz : zv.cells.size = i.size := by
        have := ((scalars_vs hzs).1 ι μ).1
        simp at this; omega
      refine append_goes rfl hI hsl ha ht hu1 hi hz hzsz hc3 h14 hd hx (ty := ty) fun y w' hy => ?_
      rw [hts]
      show ((do pure (Next.value (← Builtin.append_ _ _ _)) : Sem Next)).run E.P w = _
      exact run_v hy
    · cases h14
  · -- copy
    rename_i d x
    obtain ⟨t0, R5, R6, h5, h6, rfl⟩ := Rd.run_bind hp
    obtain ⟨e, R1, R2, h1, h2, rfl⟩ := Rd.run_bind h6
    obtain ⟨sz, R3, R4, h3, h4, rfl⟩ := Rd.run_bind h2
    obtain ⟨hts, _⟩ := Rd.run_of h5
    obtain ⟨_, ht⟩ := run_elemOf h1
    obtain ⟨_, i, hi, rfl⟩ := run_szOf h3
    split at h4
    · rename_i hc
      obtain ⟨x1, l1, e1, hd, ht1⟩ := hv.head
      obtain ⟨x2, l2, e2, hx, ht2⟩ := ht1.head
      have e3 := ht2.nil'
      subst e3 e2
      have hargs : args = #[x1, x2] := by apply Array.ext'; rw [e1]
      subst hargs
      refine copy_goes hI hts ht hi hc h4 hd hx (ty := ty) fun y w' hy => ?_
      show ((do pure (Next.value (← Builtin.copy_ _ _ _)) : Sem Next)).run E.P w = _
      exact run_v hy
    · cases h4
  · -- len
    rename_i x
    obtain ⟨t0, R5, R6, h5, h6, rfl⟩ := Rd.run_bind hp
    obtain ⟨hts, _⟩ := Rd.run_of h5
    obtain ⟨x1, l1, e1, hx, ht1⟩ := hv.head
    have e3 := ht1.nil'
    subst e3
    have hargs : args = #[x1] := by apply Array.ext'; rw [e1]
    subst hargs
    have fin : ∀ n : Nat, (Builtin.len_ ts ty #[x1]).run E.P w = .ok (.int .i64 n) w → Goes E X ι μ h sl w ((builtin .len ts ty cs #[x1]).run E.P w) (.i .i64 n) [] := by
      intro n hn
      refine Goes.pure hI ?_ (.c .i)
      show ((do pure (Next.value (← Builtin.len_ _ _ _)) : Sem Next)).run E.P w = _
      exact run_v hn
    split at h6
    · rename_i e0 o n0 hu
      cases h6
      refine fin _ ?_
      cases o with
      | none => obtain ⟨rfl, rfl⟩ := hx.sn_inv; simp [Builtin.len_, hts, run_underlying hu, goInt]
      | some q =>
        obtain ⟨y, off⟩ := q
        rcases hx.s_inv with ⟨L, cap, _, _, _, rfl⟩ | ⟨rfl, _, a, rfl⟩ <;> simp [Builtin.len_, hts, run_underlying hu, goInt]
    · rename_i hu
      cases h6
      refine fin _ ?_
      rcases hx.r_inv.r_cases with ⟨rfl, rfl, a, rfl⟩ | ⟨blk, bo, cap, cs, g0, rfl, _⟩ <;> simp [Builtin.len_, hts, run_underlying hu, goInt]
    · rename_i hu
      cases h6
      refine fin _ ?_
      simp [Builtin.len_, hts, run_underlying hu, goInt]
    · cases h6
  · -- clear
    rename_i d
    obtain ⟨t0, R7, R8, h7, h8, rfl⟩ := Rd.run_bind hp
    obtain ⟨hts, _⟩ := Rd.run_of h7
    obtain ⟨e, R1, R2, h1, h2, rfl⟩ := Rd.run_bind h8
    obtain ⟨sz, R3, R4, h3, h4, rfl⟩ := Rd.run_bind h2
    obtain ⟨z, R5, R6, h5, h6, rfl⟩ := Rd.run_bind h4
    obtain ⟨_, ht⟩ := run_elemOf h1
    obtain ⟨_, i, hi, rfl⟩ := run_szOf h3
    obtain ⟨_, i', zv, hi', hz, hzs⟩ := zeroOf_run h5
    rw [hi] at hi'; cases hi'
    obtain ⟨x1, l1, e1, hx, ht1⟩ := hv.head
    have e3 := ht1.nil'
    subst e3
    have hargs : args = #[x1] := by apply Array.ext'; rw [e1]
    subst hargs
    split at h6
    · refine clear_goes hI hts ht hi ‹_› hz hzs h6 hx (ty := ty) fun y w' hy => ?_
      show ((do pure (Next.value (← Builtin.clear_ _ _ _)) : Sem Next)).run E.P w = _
      exact run_v hy
    · cases h6
  · -- max
    rename_i u l
    obtain ⟨r, R1, R2, h1, h2, rfl⟩ := Rd.run_bind hp
    cases h2
    obtain ⟨x1, l1, e1, hx, ht1⟩ := hv.head
    obtain ⟨z, hz, hr⟩ := fold_mx (E := E) (w := w) l u _ x1 l1 h1 hx ht1
    refine Goes.pure hI ?_ hr
    show ((do pure (Next.value (← Builtin.max_ _ _ _)) : Sem Next)).run E.P w = _
    refine run_v ?_
    simpa [Builtin.max_, e1] using hz
  · -- min
    rename_i u l
    obtain ⟨r, R1, R2, h1, h2, rfl⟩ := Rd.run_bind hp
    cases h2
    obtain ⟨x1, l1, e1, hx, ht1⟩ := hv.head
    obtain ⟨z, hz, hr⟩ := fold_mx (E := E) (w := w) l u _ x1 l1 h1 hx ht1
    refine Goes.pure hI ?_ hr
    show ((do pure (Next.value (← Builtin.min_ _ _ _)) : Sem Next)).run E.P w = _
    refine run_v ?_
    simpa [Builtin.min_, e1] using hz
  · cases hp

theorem fill_size {place : Nat → Option (Nat × Nat)} : ∀ {ps : List (Nat × Value)} {cs cs' : Array Value}, Instr.fill place cs ps = some cs' → cs'.size = cs.size := by
  intro ps
  induction ps with
  | nil => intro cs cs' hf; simp only [Instr.fill] at hf; cases hf; rfl
  | cons p ps ih =>
    intro cs cs' hf
    obtain ⟨i, v⟩ := p
    simp only [Instr.fill] at hf
    split at hf
    · cases hf
    · split at hf
      · cases hf
      · rw [ih hf, ← Array.foldl_toList]
        generalize v.cells.zipIdx.toList = l
        generalize hcs : cs = cs1
        clear hf hcs
        induction l generalizing cs1 with
        | nil => rfl
        | cons q l ih2 => rw [List.foldl_cons, ih2]; simp

theorem pop_goes (hE : EnvOk E) {op : Op} {vals : List V} {v : V} {U : Up} (hp : (pop E sl op vals).run h = some ((v, U), R)) (hI : Inv E X ι μ h w) (hsl : ι sl = none) (ha : X.a ≤ sl)
    {o : Oper} (ho : o.op = op) {ρ : Operand → Value} (hv : Vs ι μ vals (op.operands.toList.map ρ)) : Goes E X ι μ h sl w ((execOp ρ o).run E.P w) v U := by
  obtain ⟨dst, op', type, pos, after, guard⟩ := o
  simp only at ho
  subst ho
  unfold pop at hp
  split at hp
  · -- move
    cases hp
    exact Goes.pure hI rfl (Vs.one hv)
  · cases hp
    exact Goes.pure hI rfl (Vs.one hv)
  · -- pick
    rename_i oc oa ob c x y
    cases hp
    obtain ⟨h1, h2, h3⟩ := Vs.three hv
    refine Goes.pure hI (x := if c = true then ρ oa else ρ ob) ?_ ?_
    · simp only [execOp, h1.b_inv, asBool, pure_bind, Sem.run_bind, Sem.run_pure, Result.andThen_ok]
    · cases c <;> simp <;> assumption
  · -- alloc
    rename_i t
    obtain ⟨z, R1, R2, h1, h2, rfl⟩ := Rd.run_bind hp
    cases h2
    obtain ⟨_, i, zv, hi, hzz, hzs⟩ := zeroOf_run h1
    obtain ⟨s1, s2, s3, s4⟩ := scalars_vs hzs
    have hr : (execOp ρ ⟨dst, .alloc t, type, pos, after, guard⟩).run E.P w = .ok (.value (.pointer (some ⟨w.heap.size, 0, none⟩))) (w.alloc (.cells (zv.cells.toList ++ []).toArray t)) := by
      simp [execOp, Instr.alloc, zeroValue, typeInfo, hi, hzz, newVar, newRow]
    refine Goes.new (n := z.length) (sz := 0) (cs := zv.cells.toList) (more := []) hI hsl ha (w1 := w) ⟨rfl, rfl, rfl, rfl⟩ _ hr ?_ (Nat.le_refl _) ?_ (s1 ι μ).1 ?_
    · exact VR.p (L := ⟨w.heap.size, 0, z.length, 0⟩) (o := 0) (Io.set_same _ _ _)
    · have := (s1 ι μ).1; simp at this ⊢; omega
    · intro j v x hv hx
      exact ⟨by simpa using VR.c (s4 j v x hv hx).to0, s2 x (List.mem_of_getElem? hx)⟩
  · -- box
    rename_i t ov v0
    split at hp
    · rename_i hok
      cases hp
      obtain ⟨cs, hcs, hvs, hone⟩ := (Vs.one hv).cells hok
      have hr : (execOp ρ ⟨dst, .box t ov, type, pos, after, guard⟩).run E.P w = .ok (.value (.pointer (some ⟨w.heap.size, 0, none⟩))) (w.alloc (.cells (cs ++ []).toArray t)) := by
        simp [execOp, Instr.box, newVar, newRow, hcs]
      refine Goes.new (n := v0.cells.length) (sz := 0) (cs := cs) (more := []) hI hsl ha (w1 := w) ⟨rfl, rfl, rfl, rfl⟩ _ hr ?_ (Nat.le_refl _) ?_ hvs.1 ?_
      · exact VR.p (L := ⟨w.heap.size, 0, v0.cells.length, 0⟩) (o := 0) (Io.set_same _ _ _)
      · have := hvs.1; simp; omega
      · exact kindOf_cr hvs hone 0 (.inl rfl)
    · cases hp
  · -- build
    rename_i _ t ps
    obtain ⟨z, R1, R2, h1, h2, rfl⟩ := Rd.run_bind hp
    have hv' : Vs ι μ vals (ps.toList.map fun p => ρ p.2) := by
      have : (Op.build t ps).operands.toList.map ρ = ps.toList.map fun p => ρ p.2 := by simp [Op.operands, Function.comp_def]
      rw [this] at hv; exact hv
    obtain ⟨rfl, x, hx, hr⟩ := build_run (w := w) hI.rel h1 h2 hv'
    refine Goes.pure hI ?_ hr
    show ((do pure (Next.value (← Instr.build t (ps.map fun (i, x) => (i, ρ x)))) : Sem Next)).run E.P w = _
    exact run_v hx
  · -- buildSlice
    rename_i _ t n ps
    obtain ⟨e, R1, R2, h1, h2, rfl⟩ := Rd.run_bind hp
    obtain ⟨sz, R3, R4, h3, h4, rfl⟩ := Rd.run_bind h2
    obtain ⟨z, R5, R6, h5, h6, rfl⟩ := Rd.run_bind h4
    obtain ⟨_, ht⟩ := run_elemOf h1
    have hs := sizeOf_run h3 w
    obtain ⟨_, i, hi, rfl⟩ := run_szOf h3
    obtain ⟨_, i', zv, hi', hzz, hzs⟩ := zeroOf_run h5
    rw [hi] at hi'; cases hi'
    obtain ⟨s1, s2, s3, s4⟩ := scalars_vs hzs
    split at h6
    · rename_i hc
      obtain ⟨hc1, hc2, hc3⟩ := hc
      obtain ⟨l, R7, R8, h7, h8, rfl⟩ := Rd.run_bind h6
      cases h8
      have hv' : Vs ι μ vals (ps.toList.map fun p => ρ p.2) := by
        have : (Op.buildSlice t n ps).operands.toList.map ρ = ps.toList.map fun p => ρ p.2 := by simp [Op.operands, Function.comp_def]
        rw [this] at hv; exact hv
      have hln := hv'.1
      simp only [List.length_map] at hln
      have hm1 : ((ps.toList.map (fun p : Nat × Operand => p.1)).zip vals).map (·.1) = ((ps.map fun (i, x) => (i, ρ x)).toList).map (·.1) := by
        rw [List.map_fst_zip (by simp [hln])]; simp
      have hm2 : Vs ι μ (((ps.toList.map (fun p : Nat × Operand => p.1)).zip vals).map (·.2)) (((ps.map fun (i, x) => (i, ρ x)).toList).map (·.2)) := by
        rw [List.map_snd_zip (by simp [hln]), Array.toList_map, List.map_map]; exact hv'
      have hz0 : zv.cells.size = i.size := by have := (s1 ι μ).1; simp at this; omega
      let cs0 : Array Value := (Array.range (n * i.size)).map (zv.cells[· % zv.cells.size]!)
      have hcs0 : cs0.toList = (List.replicate n zv.cells.toList).flatten := by
        rw [← zero_list zv.cells n (by omega)]
        simp only [cs0, Builtin.zeroCells, hz0]
      have hzv : Vs ι μ (List.replicate n z).flatten cs0.toList := by
        rw [hcs0]
        obtain ⟨e1, e2⟩ := replicate_vs (P := VR ι μ) (s1 ι μ).1 (fun j v x hv hx => .c (s4 j v x hv hx).to0) n
        refine ⟨e1, fun j v hj => ?_⟩
        have hj2 := (List.getElem?_eq_some_iff.1 hj).1
        exact ⟨_, List.getElem?_eq_getElem (by omega), e2 j v _ hj (List.getElem?_eq_getElem (by omega))⟩
      have hone : ∀ c ∈ cs0.toList, oneV c = true := by
        rw [hcs0]
        intro c hc
        obtain ⟨x, hx, hc⟩ := List.mem_flatten.1 hc
        rw [List.eq_of_mem_replicate hx] at hc
        exact s2 c hc
      obtain ⟨_, cs', hf, hvs, ho'⟩ := fill_run (place' := fun i_1 => some (i_1 * i.size, i.size)) (fun j => rfl) _ _ _ _ cs0 hm1 hm2 hzv hone h7
      have hr : (execOp ρ ⟨dst, .buildSlice t n ps, type, pos, after, guard⟩).run E.P w = .ok (.value (.slice (some ⟨w.heap.size, 0, none⟩) n n)) (w.alloc (.cells (cs'.toList ++ []).toArray e)) := by
        show ((do pure (Next.value (← Instr.buildSlice t n (ps.map fun (i, x) => (i, ρ x)))) : Sem Next)).run E.P w = _
        refine run_v ?_
        have hgt : ¬ (n * i.size > 2 ^ 24) := by omega
        have hcont : ∀ zero : Array Value, ((Array.range (n * i.size)).map (zero[· % zero.size]!)) = cs0 → (match Instr.fill (fun i_1 => some (i_1 * i.size, i.size)) ((Array.range (n * i.size)).map (zero[· % zero.size]!)) (ps.map fun (i, x) => (i, ρ x)).toList with
            | some cells => (do pure (.slice (some (← newRow e cells)) n n))
            | _ => stuck "buildSlice: a part of the wrong size" : Sem Value).run E.P w = .ok (.slice (some ⟨w.heap.size, 0, none⟩) n n) (w.alloc (.cells (cs'.toList ++ []).toArray e)) := by
          intro zero hz
          rw [hz, hf]
          simp [newRow]
        by_cases h0 : n * i.size = 0
        · have := hcont #[] (by simp only [cs0]; rw [h0]; simp)
          rw [← this]
          simp only [Instr.buildSlice, Sem.run_bind, run_underlying ht, Result.andThen_ok, hs, if_neg hgt, if_pos h0, Sem.run_pure]
          rfl
        · have := hcont zv.cells rfl
          rw [← this]
          simp only [Instr.buildSlice, Sem.run_bind, run_underlying ht, Result.andThen_ok, hs, if_neg hgt, if_neg h0, Sem.run_pure, zeroValue, typeInfo, run_program, hi, hzz]
          rfl
      have hl1 := hvs.1
      have hlen : l.length = n * i.size := by
        have hsz : cs'.toList.length = cs0.toList.length := by
          simpa using fill_size hf
        rw [hl1, hsz]; simp [cs0]
      refine Goes.new (n := n * i.size) (cs := cs'.toList) (more := []) hI hsl ha (w1 := w) ⟨rfl, rfl, rfl, rfl⟩ _ hr ?_ (by omega) (by simp; simp at hl1; omega) hl1 ?_
      · have := VR.s (ι := Io.set ι sl (some ⟨w.heap.size, 0, n * i.size, i.size⟩)) (μ := μ) (x := sl) (o := 0) (n := n) (cap := n) (Io.set_same _ _ _) (Nat.le_refl _) (by simp)
        simpa using this
      · exact kindOf_cr hvs ho' _ (.inr rfl)
    · cases h6
  · -- load
    rename_i t oa x
    obtain ⟨c, R1, R2, h1, h2, rfl⟩ := Rd.run_bind hp
    obtain ⟨n, R3, R4, h3, h4, rfl⟩ := Rd.run_bind h2
    obtain ⟨v', R5, R6, h5, h6, rfl⟩ := Rd.run_bind h4
    cases h6
    obtain ⟨z, hz, hr⟩ := load_run hI.rel h1 h3 h5 (Vs.one hv)
    exact Goes.pure hI (run_v hz) hr
  · -- store
    rename_i t oa ob x o' v0
    obtain ⟨hx, hv0⟩ := Vs.two hv
    exact store_goes (t := t) (x := .p (some (x, o'))) (v := v0) hI hp hx hv0 fun w' hw => run_u hw
  · -- nilCheck
    rename_i oa x
    have hx := Vs.one hv
    split at hp
    · cases hp
      rename_i q
      obtain ⟨y, off⟩ := q
      obtain ⟨L, _, hx'⟩ := hx.p_inv
      refine Goes.pure hI ?_ hx
      simp only [execOp]
      rw [show ρ oa = _ from hx']; rfl
    · cases hp
      refine Goes.pure hI ?_ hx
      obtain ⟨blk, bo, cs, g, hx', _⟩ := hx.q_inv.q_cases
      simp only [execOp]
      rw [show ρ oa = _ from hx']; rfl
    · cases hp
      obtain ⟨cs, ds, hx', h1, h2⟩ := hx.f_inv
      refine Goes.pure hI ?_ hx
      simp only [execOp]
      rw [show ρ oa = _ from hx']; rfl
    · cases hp
  · -- binOp
    rename_i op t ox oy t2 x y
    obtain ⟨v', R1, R2, h1, h2, rfl⟩ := Rd.run_bind hp
    cases h2
    obtain ⟨hx, hy⟩ := Vs.two hv
    obtain ⟨z, hz, hr⟩ := binV_run h1 hx hy w ox oy
    exact Goes.pure hI (run_v hz) hr
  · -- unOp
    rename_i op t ox x
    obtain ⟨v', R1, R2, h1, h2, rfl⟩ := Rd.run_bind hp
    cases h2
    have hx := Vs.one hv
    unfold unV at h1
    split at h1
    · cases h1
      refine Goes.pure hI (run_v (s := Op.unary .neg (ρ ox)) ?_) (.c .i)
      rw [show ρ ox = _ from hx.i_inv]; rfl
    · cases h1
      refine Goes.pure hI (run_v (s := Op.unary .xor (ρ ox)) ?_) (.c .i)
      rw [show ρ ox = _ from hx.i_inv]; rfl
    · cases h1
      refine Goes.pure hI (run_v (s := Op.unary .not (ρ ox)) ?_) (.c .b)
      rw [show ρ ox = _ from hx.b_inv]; rfl
    · cases h1
  · -- convert
    rename_i src dst' ox x
    have hx := Vs.one hv
    split at hp
    · rename_i k0 k q n hu1 hu2
      cases hp
      refine Goes.pure hI (run_v (s := convert src dst' (ρ ox)) ?_) (.c .i)
      rw [show ρ ox = _ from hx.i_inv]
      simp only [convert, Sem.run_bind, run_underlying hu1, run_underlying hu2, Result.andThen_ok]
      rfl
    · cases hp
  · -- makeFunc
    rename_i _ g xs ys
    split at hp
    · rename_i hok
      cases hp
      have hv' : Vs ι μ vals ((xs.map ρ).toList ++ (ys.map ρ).toList) := by
        have : (Op.makeFunc (.func g) xs ys).operands.toList.map ρ = (xs.map ρ).toList ++ (ys.map ρ).toList := by simp [Op.operands]
        rw [this] at hv; exact hv
      have h1 : Vs ι μ (vals.take xs.size) (xs.map ρ).toList := by
        have e : (xs.map ρ).toList.length = xs.size := by simp
        have := hv'.take xs.size
        rwa [List.take_append_of_le_length (Nat.le_of_eq e.symm), List.take_of_length_le (l := (xs.map ρ).toList) (Nat.le_of_eq e)] at this
      have h2 : Vs ι μ (vals.drop xs.size) (ys.map ρ).toList := by
        have e : (xs.map ρ).toList.length = xs.size := by simp
        have := hv'.drop xs.size
        rwa [List.drop_append_of_le_length (Nat.le_of_eq e.symm), List.drop_eq_nil_of_le (as := (xs.map ρ).toList) (Nat.le_of_eq e), List.nil_append] at this
      refine Goes.pure hI (x := .func (.func g) (xs.map ρ) (ys.map ρ)) rfl ?_
      have := VR.mk_f (g := g) h1 h2
      rwa [Array.toArray_toList, Array.toArray_toList] at this
    · cases hp
  · -- makeMap
    rename_i t
    cases hp
    have hr : (execOp ρ ⟨dst, .makeMap t none, type, pos, after, guard⟩).run E.P w = .ok (.value (.map (some w.heap.size))) (w.alloc (.map #[] 0)) := by
      simp [execOp, Instr.makeMap]
    refine ⟨_, _, Io.set ι sl (some ⟨w.heap.size, 0, 0, 0⟩), .inl hr, .m (L := ⟨w.heap.size, 0, 0, 0⟩) (Io.set_same _ _ _), ?_, fun y hy => Io.set_ne _ _ hy, Io.set_mono _ hsl⟩
    refine hI.alloc hsl ha rfl (q := some ⟨w.heap.size, 0, 0, 0⟩) (fun L h => by cases h; rfl) ⟨by simp, rfl, rfl, rfl, fun b hb => RowKit.Below.heap_alloc _ _ _ hb⟩ ?_
    exact ⟨_, Io.set_same _ _ _, #[], 0, by show (w.heap.push _)[w.heap.size]? = _; simp, rfl, by simp⟩
  · -- makeSlice
    rename_i t o1 o2 k1 l k2 c
    obtain ⟨e, R1, R2, h1, h2, rfl⟩ := Rd.run_bind hp
    obtain ⟨sz, R3, R4, h3, h4, rfl⟩ := Rd.run_bind h2
    obtain ⟨by_, R5, R6, h5, h6, rfl⟩ := Rd.run_bind h4
    obtain ⟨z, R7, R8, h7, h8, rfl⟩ := Rd.run_bind h6
    obtain ⟨_, ht⟩ := run_elemOf h1
    obtain ⟨_, i, hi, rfl⟩ := run_szOf h3
    obtain ⟨_, i', hi', rfl⟩ := run_bytesOf h5
    rw [hi] at hi'; cases hi'
    obtain ⟨_, i', zv, hi', hzz, hzs⟩ := zeroOf_run h7
    rw [hi] at hi'; cases hi'
    obtain ⟨s1, s2, s3, s4⟩ := scalars_vs hzs
    split at h8
    · rename_i hc
      obtain ⟨hc1, hc2, hc3⟩ := hc
      split at h8
      · split at h8
        · rename_i h0 hlc
          obtain ⟨hlc, hlim, hby⟩ := hlc
          cases h8
          obtain ⟨hx, hy⟩ := Vs.two hv
          have hz0 : zv.cells.size = i.size := by have := (s1 ι μ).1; simp at this; omega
          have hmade : (madeCells zv.cells (c.toNat * i.size)).toList = (List.replicate c.toNat zv.cells.toList).flatten := by
            rw [← zero_list zv.cells c.toNat (by omega)]
            simp only [madeCells, Builtin.zeroCells, hz0]
          have hrun := run_make (P := E.P) w t e i zv ht hi hzz k1 k2 l c h0 hlc (by rw [Int.mul_comm]; omega) (by simp only [limit] at hlim; omega)
          have hsplit : (List.replicate c.toNat zv.cells.toList).flatten = (List.replicate l.toNat zv.cells.toList).flatten ++ (List.replicate (c.toNat - l.toNat) zv.cells.toList).flatten := by
            rw [← List.flatten_append, List.replicate_append_replicate]
            congr 2; omega
          have hr : (execOp ρ ⟨dst, .makeSlice t o1 o2, type, pos, after, guard⟩).run E.P w = .ok (.value (.slice (some ⟨w.heap.size, 0, none⟩) l.toNat c.toNat))
              (w.alloc (.cells ((List.replicate l.toNat zv.cells.toList).flatten ++ (List.replicate (c.toNat - l.toNat) zv.cells.toList).flatten).toArray e)) := by
            show ((do pure (Next.value (← Instr.makeSlice t (ρ o1) (ρ o2))) : Sem Next)).run E.P w = _
            rw [show ρ o1 = _ from hx.i_inv, show ρ o2 = _ from hy.i_inv]
            rw [run_v hrun, ← hsplit, ← hmade]
          obtain ⟨e1, e2⟩ := replicate_vs (P := CR ι μ (kindOf z)) (s1 ι μ).1 (kindOf_cr (s1 ι μ) s2 _ (.inr rfl)) l.toNat
          have hln : (List.replicate l.toNat z).flatten.length = l.toNat * i.size := by rw [length_rep, hc1]
          refine Goes.new (n := c.toNat * i.size) hI hsl ha (w1 := w) ⟨rfl, rfl, rfl, rfl⟩ _ hr ?_ ?_ ?_ e1 e2
          · have := VR.s (ι := Io.set ι sl (some ⟨w.heap.size, 0, c.toNat * i.size, i.size⟩)) (μ := μ) (x := sl) (o := 0) (n := l.toNat) (cap := c.toNat) (Io.set_same _ _ _) (by omega) (by simp)
            simpa using this
          · rw [hln]; exact Nat.mul_le_mul_right _ (by omega)
          · rw [← hsplit, length_rep]; simp [hz0]
        · cases h8
      · cases h8
    · cases h8
  · -- slice
    rename_i t ox lo hi mx x vs
    obtain ⟨e, R1, R2, h1, h2, rfl⟩ := Rd.run_bind hp
    obtain ⟨sz, R3, R4, h3, h4, rfl⟩ := Rd.run_bind h2
    obtain ⟨_, ht⟩ := run_elemOf h1
    obtain ⟨_, i, hi0, rfl⟩ := run_szOf h3
    split at h4
    · rename_i hmh
      obtain ⟨v', R5, R6, h5, h6, rfl⟩ := Rd.run_bind h4
      cases h6
      have hops : (Op.slice t ox lo hi mx).operands.toList.map ρ = ρ ox :: ((lo.toList.map ρ) ++ ((hi.toList.map ρ) ++ ((mx.toList.map ρ) ++ []))) := by
        simp [Op.operands]
      rw [hops] at hv
      obtain ⟨x1, l1, e1, hx, hvs⟩ := hv.head
      cases e1
      obtain ⟨g1, g2⟩ := takeO_run hvs
      obtain ⟨g3, g4⟩ := takeO_run g2
      obtain ⟨g5, g6⟩ := takeO_run g4
      obtain ⟨z, hz, hr⟩ := cut_run ht hi0 hI.rel h5 hx g1 g3 g5 (by simpa using hmh)
      exact Goes.pure hI (run_v hz) hr
    · cases h4
  · -- fieldAddr
    rename_i t ox f x
    obtain ⟨fs, R1, R2, h1, h2, rfl⟩ := Rd.run_bind hp
    obtain ⟨_, hf⟩ := run_fieldsOf h1
    split at h2
    · rename_i fd hfd
      obtain ⟨n, R3, R4, h3, h4, rfl⟩ := Rd.run_bind h2
      split at h4
      · cases h4
      · rename_i hn0
        have hx := Vs.one hv
        split at h4
        · rename_i y off
          cases h4
          obtain ⟨L, hL, hx'⟩ := hx.p_inv
          refine Goes.pure hI (run_v (s := Instr.fieldAt t (ρ ox) f) (x := .pointer (some ((⟨L.b, L.β + off, none⟩ : Addr).add fd.offset))) ?_) ?_
          · rw [show ρ ox = _ from hx']; exact fieldAt_run hf hfd h3 hn0 _
          · rw [add_off, Nat.add_assoc]; exact .p hL
        · rename_i l0 off pl
          cases h4
          obtain ⟨blk, bo, cs, g, hx', hb, hc, hr⟩ := hx.q_inv.q_cases
          refine Goes.pure hI (run_v (s := Instr.fieldAt t (ρ ox) f) (x := .pointer (some ((⟨blk, bo + off, none⟩ : Addr).add fd.offset))) ?_) ?_
          · rw [show ρ ox = _ from hx']; exact fieldAt_run hf hfd h3 hn0 _
          · rw [add_off, Nat.add_assoc]; exact .c (.q g hb hc hr)
        · cases h4
    · cases h2
  · -- field
    rename_i t ox f l
    obtain ⟨fs, R1, R2, h1, h2, rfl⟩ := Rd.run_bind hp
    obtain ⟨_, hf⟩ := run_fieldsOf h1
    split at h2
    · rename_i fd hfd
      obtain ⟨v', R3, R4, h3, h4, rfl⟩ := Rd.run_bind h2
      cases h4
      obtain ⟨cs, hx', hvs⟩ := (Vs.one hv).a_inv
      obtain ⟨_, z, hz, hr⟩ := part_run (w := w) h3 hvs
      refine Goes.pure hI (run_v (s := Instr.field t (ρ ox) f) (x := z) ?_) hr
      rw [show ρ ox = _ from hx']
      simp only [Instr.field, Sem.run_bind, run_underlying hf, Result.andThen_ok, hfd, asAgg, Sem.run_pure, hz]
    · cases h2
  · -- indexAddr
    rename_i t ox oj x k j
    obtain ⟨hx, hj⟩ := Vs.two hv
    have hj' : ρ oj = .int k j := hj.i_inv
    split at hp
    · rename_i e y o n hu
      obtain ⟨sz, R3, R4, h3, h4, rfl⟩ := Rd.run_bind hp
      split at h4
      · rename_i h0
        split at h4
        · rename_i hjn
          cases h4
          have hs := sizeOf_run h3 w
          rcases hx.s_inv with ⟨L, cap, hL, hcap, hN, hx'⟩ | ⟨rfl, _, a, hx'⟩
          · refine Goes.pure hI (run_v (s := Instr.indexAt t (ρ ox) (ρ oj)) (x := .pointer (some ⟨L.b, L.β + (o + j.toNat * sz), none⟩)) ?_) (.p hL)
            rw [show ρ ox = _ from hx', hj']
            simp [Instr.indexAt, asIntOf, run_underlying hu, h0, hjn, hs, add_off, Nat.add_assoc]
          · omega
        · cases h4
      · cases h4
    · rename_i e l n pl hu
      obtain ⟨sz, R3, R4, h3, h4, rfl⟩ := Rd.run_bind hp
      split at h4
      · rename_i h0
        split at h4
        · rename_i hjn
          cases h4
          have hs := sizeOf_run h3 w
          rcases hx.r_inv.r_cases with ⟨rfl, rfl, a, hx'⟩ | ⟨blk, bo, cap, cs, g, hx', hb, hn, hc, hr⟩
          · omega
          · refine Goes.pure hI (run_v (s := Instr.indexAt t (ρ ox) (ρ oj)) (x := .pointer (some ⟨blk, bo + j.toNat * sz, none⟩)) ?_) (.c (.q g hb hc hr))
            rw [show ρ ox = _ from hx', hj']
            simp [Instr.indexAt, asIntOf, run_underlying hu, h0, hjn, hs, add_off]
        · cases h4
      · cases h4
    · rename_i n e y o hu
      obtain ⟨sz, R3, R4, h3, h4, rfl⟩ := Rd.run_bind hp
      split at h4
      · rename_i h0
        split at h4
        · rename_i hjn
          cases h4
          have hs := sizeOf_run h3 w
          obtain ⟨L, hL, hx'⟩ := hx.p_inv
          refine Goes.pure hI (run_v (s := Instr.indexAt t (ρ ox) (ρ oj)) (x := .pointer (some ⟨L.b, L.β + (o + j.toNat * sz), none⟩)) ?_) (.p hL)
          rw [show ρ ox = _ from hx', hj']
          simp [Instr.indexAt, asIntOf, run_underlying hu, Instr.sureAddr, h0, hjn, hs, add_off, Nat.add_assoc]
        · cases h4
      · cases h4
    · rename_i n e l o pl hu
      obtain ⟨sz, R3, R4, h3, h4, rfl⟩ := Rd.run_bind hp
      split at h4
      · rename_i h0
        split at h4
        · rename_i hjn
          cases h4
          have hs := sizeOf_run h3 w
          obtain ⟨blk, bo, cs, g, hx', hb, hc, hr⟩ := hx.q_inv.q_cases
          refine Goes.pure hI (run_v (s := Instr.indexAt t (ρ ox) (ρ oj)) (x := .pointer (some ⟨blk, bo + (o + j.toNat * sz), none⟩)) ?_) (.c (.q g hb hc hr))
          rw [show ρ ox = _ from hx', hj']
          simp [Instr.indexAt, asIntOf, run_underlying hu, Instr.sureAddr, h0, hjn, hs, add_off, Nat.add_assoc]
        · cases h4
      · cases h4
    · cases hp
  · -- index
    rename_i t ox oj l k j
    obtain ⟨hx, hj⟩ := Vs.two hv
    have hj' : ρ oj = .int k j := hj.i_inv
    obtain ⟨cs, hx', hvs⟩ := hx.a_inv
    split at hp
    · rename_i n e hu
      obtain ⟨sz, R3, R4, h3, h4, rfl⟩ := Rd.run_bind hp
      split at h4
      · rename_i hjn
        obtain ⟨v', R5, R6, h5, h6, rfl⟩ := Rd.run_bind h4
        cases h6
        have hs := sizeOf_run h3 w
        obtain ⟨_, z, hz, hr⟩ := part_run (w := w) h5 hvs
        refine Goes.pure hI (run_v (s := Instr.index t (ρ ox) (ρ oj)) (x := z) ?_) hr
        rw [show ρ ox = _ from hx', hj']
        simp only [Instr.index, asIntOf, pure_bind, Sem.run_bind, Sem.run_pure, run_underlying hu, Result.andThen_ok, if_pos hjn, hs, hz]
      · cases h4
    · cases hp
  · -- a byte of a text
    rename_i t ox oj s k j
    obtain ⟨hx, hj⟩ := Vs.two hv
    have hj' : ρ oj = .int k j := hj.i_inv
    split at hp
    · rename_i hu
      split at hp
      · rename_i h0
        split at hp
        · rename_i b hb
          cases hp
          refine Goes.pure hI (run_v (s := Instr.index t (ρ ox) (ρ oj)) (x := .int .u8 b.toNat) ?_) (.c .i)
          rw [show ρ ox = _ from hx.tx_inv, hj']
          simp only [Instr.index, asIntOf, pure_bind, Sem.run_bind, Sem.run_pure, run_underlying hu, Result.andThen_ok, if_pos h0, hb]
        · cases hp
      · cases hp
    · cases hp
  · -- lookup
    rename_i t om ok ok' x k
    split at hp
    · rename_i kt e hu
      split at hp
      · rename_i kd hk0
        obtain ⟨z, R3, R4, h3, h4, rfl⟩ := Rd.run_bind hp
        simp only [Rd.run] at h4
        split at h4
        · rename_i q R' h5
          cases h4
          split at h5
          · rename_i es hes
            obtain ⟨r, R5, R6, h6, h7, rfl⟩ := Rd.run_bind h5
            cases h7
            obtain ⟨h8, _⟩ := Rd.run_of h6
            obtain ⟨hx, hk⟩ := Vs.two hv
            obtain ⟨i, zv, hi, hzz, hzs⟩ : ∃ i zv, E.P.info? e = some i ∧ i.zero = some zv ∧ scalar zv = some z := by
              unfold zero1 at h3
              split at h3
              · rename_i i hi
                split at h3
                · rename_i zv hzz; exact ⟨i, zv, hi, hzz, (Rd.run_of h3).1⟩
                · cases h3
              · cases h3
            obtain ⟨y, hy, hr⟩ := lookup_goes (ok := ok') hu hk0 hI.rel hi hzz hzs hes h8 hx hk
            exact Goes.pure hI (run_v hy) hr
          · cases h5
        · cases h4
      · cases hp
    · cases hp
  · -- mapUpdate
    rename_i t om ok ov x k v0
    split at hp
    · rename_i kt e hu
      split at hp
      · rename_i kd hk0
        split at hp
        · rename_i hpl
          simp only [Rd.run] at hp
          split at hp
          · rename_i q R' h5
            cases hp
            split at h5
            · rename_i es hes
              obtain ⟨es1, R5, R6, h6, h7, rfl⟩ := Rd.run_bind h5
              cases h7
              obtain ⟨h8, _⟩ := Rd.run_of h6
              obtain ⟨hx, hk, hv0⟩ := Vs.three hv
              exact mapUpdate_goes hu hk0 hI hes h8 hx hk hpl.2 hv0 hpl.1 fun w' hw => run_u hw
            · cases h5
          · cases hp
        · cases hp
      · cases hp
    · cases hp
  · -- extract
    rename_i ox j l
    split at hp
    · rename_i hj
      cases hp
      obtain ⟨cs, hx', hvs⟩ := (Vs.one hv).t_inv
      obtain ⟨c, hc, hr⟩ := hvs.2 j (l.getD j .u) (by rw [List.getD_eq_getElem?_getD, List.getElem?_eq_getElem hj]; rfl)
      refine Goes.pure hI (run_v (s := Instr.extract (ρ ox) j) (x := c) ?_) hr
      rw [show ρ ox = _ from hx']
      simp [Instr.extract, hc]
    · cases hp
  · -- a builtin
    rename_i bi as ts
    have hv' : Vs ι μ vals (as.map ρ).toList := by
      have : (Op.call ⟨.builtin bi, as, ts⟩).operands.toList.map ρ = (as.map ρ).toList := by simp [Op.operands, Call.operands]
      rw [this] at hv; exact hv
    exact builtin_goes hE hp hI hsl ha hv'
  · -- a function without a body
    rename_i fo as ts g x y vs
    split at hp
    · rename_i fn hfn
      split at hp
      · rename_i hb
        obtain ⟨v', R5, R6, h5, h6, rfl⟩ := Rd.run_bind hp
        cases h6
        obtain ⟨h7, _⟩ := Rd.run_of h5
        have hops : (Op.call ⟨.value fo, as, ts⟩).operands.toList.map ρ = ρ fo :: (as.map ρ).toList := by simp [Op.operands, Call.operands]
        rw [hops] at hv
        obtain ⟨x1, l1, e1, hx, hvs⟩ := hv.head
        cases e1
        obtain ⟨cs, ds, hf, h8, h9⟩ := hx.f_inv
        obtain ⟨z, hz, hr⟩ := hE.ext g fn _ _ ι μ w _ hfn hb h7 ((h8.append hvs).append h9)
        refine Goes.pure hI ?_ hr
        show (do let d ← resolve ρ ⟨.value fo, as, ts⟩ type; invoke d.target d.args : Sem Next).run E.P w = _
        simp only [resolve, hf, Deferred.ofValue, pure_bind, invoke]
        have : (cs.toArray ++ as.map ρ ++ ds.toArray) = (cs ++ (as.map ρ).toList ++ ds).toArray := by
          apply Array.ext'; simp
        rw [this]; exact hz
      · cases hp
    · cases hp
  · cases hp


variable {E : Env} {X : Cx} {ι : Io} {μ : Mu} {h : Hp} {sl : Nat} {w : World} {R : List Nat}

theorem pos_some {σ : List Nat} {x k : Nat} (hp : pos σ x = some k) : σ[k]? = some x := by
  induction σ generalizing k with
  | nil => cases hp
  | cons y l ih =>
    simp only [pos] at hp
    split at hp
    · cases hp; simp [*]
    · split at hp
      · cases hp; simpa using ih ‹_›
      · cases hp
theorem pos_none {σ : List Nat} {x : Nat} (hp : pos σ x = none) : x ∉ σ := by
  induction σ with
  | nil => simp
  | cons y l ih =>
    simp only [pos] at hp
    split at hp
    · cases hp
    · split at hp
      · cases hp
      · rename_i h1 _ h2
        have := ih h2
        simp only [List.mem_cons, not_or]
        exact ⟨fun h => h1 h.symm, this⟩
theorem pos_of {σ : List Nat} (hn : σ.Nodup) {x k : Nat} (hk : σ[k]? = some x) : pos σ x = some k := by
  cases hp : pos σ x with
  | none => exact (pos_none hp (List.mem_of_getElem? hk)).elim
  | some j =>
    have hj := pos_some hp
    congr 1
    obtain ⟨h1, h2⟩ := List.getElem?_eq_some_iff.1 hk
    obtain ⟨h3, h4⟩ := List.getElem?_eq_some_iff.1 hj
    have hpw := List.pairwise_iff_getElem.1 hn
    rcases Nat.lt_trichotomy j k with h5 | h5 | h5
    · exact (hpw j k h3 h1 h5 (h4.trans h2.symm)).elim
    · exact h5
    · exact (hpw k j h1 h3 h5 (h2.trans h4.symm)).elim

def Io.via (ι : Io) (σ : List Nat) : Io := fun k => (σ[k]?).bind ι
theorem Io.via_some {σ : List Nat} {k x : Nat} (hk : σ[k]? = some x) : Io.via ι σ k = ι x := by simp [Io.via, hk]

/-- The memory that may not be written holds the rows that are lent. -/
def Lends (ι : Io) (h : Hp) (w : World) (σ R : List Nat) (μ' : Mu) : Prop :=
  ∀ y, y ∈ R → y ∉ σ → ∀ l k sz wr ow sib, h y = some (.row l k sz wr ow sib) → ∀ L, ι y = some (some L) → ∀ cs e fz, w.heap[L.b]? = some (.cells cs e fz) → μ' L.b = some cs
theorem Lends.mono {σ R R' : List Nat} {μ'} (h1 : Lends ι h w σ R μ') (hs : ∀ y, y ∈ R' → y ∈ R) : Lends ι h w σ R' μ' := fun y hy => h1 y (hs y hy)

theorem VR.via_p {σ : List Nat} {k x o y} {μ' : Mu} (hk : σ[k]? = some x) (hx : VR ι μ (.p (some (x, o))) y) : VR (Io.via ι σ) μ' (.p (some (k, o))) y := by
  obtain ⟨L, hL, rfl⟩ := hx.p_inv
  exact .p (by rw [Io.via_some hk]; exact hL)

theorem mv_slice {call : Bool} {σ : List Nat} {x o n} {v' : V} {y : Value} {μ' : Mu} (hI : Rel E ι μ h w) (hμ : ∀ b cs, μ b = some cs → μ' b = some cs)
    (hp : ((V.s (some (x, o)) n).mv call σ).run h = some (v', R)) (hB : Lends ι h w σ R μ') (hx : VR ι μ (.s (some (x, o)) n) y) : VR (Io.via ι σ) μ' v' y := by
  simp only [V.mv] at hp
  split at hp
  · rename_i k hk
    cases hp
    have hs := pos_some hk
    rcases hx.s_inv with ⟨L, cap, hL, hcap, hN, rfl⟩ | ⟨rfl, hι, a, rfl⟩
    · exact .s (by rw [Io.via_some hs]; exact hL) hcap hN
    · cases hq : ι x with
      | none => exact (hι hq).elim
      | some q => exact .s0 (q := q) (by rw [Io.via_some hs]; exact hq)
  · rename_i hk
    have hns := pos_none hk
    simp only [Rd.run] at hp
    split at hp
    · rename_i a R' h1
      cases hp
      split at h1
      · rename_i l k sz wr ow sib hrow
        split at h1
        · cases h1
        · rename_i hk0
          split at h1
          · cases h1
            rcases hx.s_inv with ⟨L, cap, hL, hcap, hN, rfl⟩ | ⟨rfl, hι, a, rfl⟩
            · rcases (hI.obj _ _ hrow).2 with ⟨rfl, hx0⟩ | ⟨L', hL', hsz, hln, cs, e, fz, hw, hsize, hfz, hcc⟩
              · rw [hL] at hx0; cases hx0
              rw [hL] at hL'; cases hL'
              have hb := hB x (by simp) hns _ _ _ _ _ _ hrow L hL cs e fz hw
              have hex : ∀ j, ∃ c, j < ((l.drop o).take (n * sz)).length → cs[L.β + o + j]? = some c ∧ VC (if (k == 2) = true then mu0 else μ') (((l.drop o).take (n * sz)).getD j .u) c := by
                intro j
                by_cases hj : j < ((l.drop o).take (n * sz)).length
                · simp only [List.length_take, List.length_drop] at hj
                  have hlt : o + j < l.length := by omega
                  obtain ⟨c, hc1, hc2⟩ := hcc (o + j) _ (List.getElem?_eq_getElem hlt)
                  refine ⟨c, fun _ => ⟨by rw [Nat.add_assoc]; exact hc1, ?_⟩⟩
                  have he : ((l.drop o).take (n * sz)).getD j .u = l[o + j] := by
                    rw [List.getD_eq_getElem?_getD, List.getElem?_take_of_lt (by omega), List.getElem?_drop, List.getElem?_eq_getElem hlt]; rfl
                  rw [he]
                  have h3 := hc2.1
                  by_cases hk2 : k = 2
                  · subst hk2; simpa using h3
                  · have : (k == 2) = false := by simpa using hk2
                    rw [this]
                    simp only [Bool.false_eq_true, if_false]
                    split at h3
                    · exact h3.to0
                    · split at h3
                      · exact h3.mono hμ
                      · omega
                · exact ⟨undef, fun h => (hj h).elim⟩
              obtain ⟨g, hg⟩ := Classical.axiomOfChoice hex
              refine .c (.r g hb hcap (fun j hj => (hg j hj).1) fun j hj => ?_)
              have := (hg j hj).2
              rw [List.getD_eq_getElem?_getD, List.getElem?_eq_getElem hj] at this
              exact this
            · simp only [Nat.zero_mul, List.take_zero]
              exact .c .r0
          · cases h1
      · cases h1
    · cases hp

mutual
theorem mv_vr {call : Bool} {σ : List Nat} {μ' : Mu} (hI : Rel E ι μ h w) (hμ : ∀ b cs, μ b = some cs → μ' b = some cs) : ∀ (v v' : V) (y : Value) (R : List Nat),
    (v.mv call σ).run h = some (v', R) → Lends ι h w σ R μ' → VR ι μ v y → VR (Io.via ι σ) μ' v' y
  | .u, v', y, R, hp, hB, hx => by cases hp; exact .u
  | .b _, v', y, R, hp, hB, hx => by cases hp; rw [hx.b_inv]; exact .c .b
  | .i _ _, v', y, R, hp, hB, hx => by cases hp; rw [hx.i_inv]; exact .c .i
  | .p none, v', y, R, hp, hB, hx => by cases hp; rw [hx.pn_inv]; exact .c .pn
  | .p (some (x, o)), v', y, R, hp, hB, hx => by
    simp only [V.mv] at hp
    split at hp
    · rename_i k hk
      cases hp
      exact hx.via_p (pos_some hk)
    · cases hp
  | .q _ _ _, v', y, R, hp, hB, hx => by cases hp; exact .c (hx.q_inv.mono hμ)
  | .s none _, v', y, R, hp, hB, hx => by cases hp; obtain ⟨rfl, h0⟩ := hx.sn_inv; exact .c (.sn h0)
  | .s (some (x, o)) n, v', y, R, hp, hB, hx => mv_slice hI hμ hp hB hx
  | .r _ _ _, v', y, R, hp, hB, hx => by cases hp; exact .c (hx.r_inv.mono hμ)
  | .f g xs ys, v', y, R, hp, hB, hx => by
    simp only [V.mv] at hp
    obtain ⟨xs', R1, R2, h1, h2, rfl⟩ := Rd.run_bind hp
    obtain ⟨ys', R3, R4, h3, h4, rfl⟩ := Rd.run_bind h2
    cases h4
    obtain ⟨cs, ds, rfl, hc, hd⟩ := hx.f_inv
    exact .mk_f (mvs_vr hI hμ xs xs' cs R1 h1 (hB.mono fun y hy => by simp [hy]) hc) (mvs_vr hI hμ ys ys' ds R3 h3 (hB.mono fun y hy => by simp [hy]) hd)
  | .z, v', y, R, hp, hB, hx => by cases hp; rw [hx.z_inv]; exact .c .z
  | .tx _, v', y, R, hp, hB, hx => by cases hp; rw [hx.tx_inv]; exact .c .tx
  | .m x, v', y, R, hp, hB, hx => by
    simp only [V.mv] at hp
    split at hp
    · rename_i k hk
      cases hp
      obtain ⟨L, hL, rfl⟩ := hx.m_inv
      exact .m (by rw [Io.via_some (pos_some hk)]; exact hL)
    · cases hp
  | .a l, v', y, R, hp, hB, hx => by
    simp only [V.mv] at hp
    obtain ⟨l', R1, R2, h1, h2, rfl⟩ := Rd.run_bind hp
    cases h2
    obtain ⟨cs, rfl, hc⟩ := hx.a_inv
    exact .mk_a (mvs_vr hI hμ l l' cs R1 h1 (hB.mono fun y hy => by simp [hy]) hc)
  | .t l, v', y, R, hp, hB, hx => by
    simp only [V.mv] at hp
    obtain ⟨l', R1, R2, h1, h2, rfl⟩ := Rd.run_bind hp
    cases h2
    obtain ⟨cs, rfl, hc⟩ := hx.t_inv
    exact .mk_t (mvs_vr hI hμ l l' cs R1 h1 (hB.mono fun y hy => by simp [hy]) hc)
theorem mvs_vr {call : Bool} {σ : List Nat} {μ' : Mu} (hI : Rel E ι μ h w) (hμ : ∀ b cs, μ b = some cs → μ' b = some cs) : ∀ (l l' : List V) (cs : List Value) (R : List Nat),
    (V.mvs call σ l).run h = some (l', R) → Lends ι h w σ R μ' → Vs ι μ l cs → Vs (Io.via ι σ) μ' l' cs
  | [], l', cs, R, hp, hB, hx => by cases hp; rw [hx.nil']; exact .nil
  | v :: l, l', cs, R, hp, hB, hx => by
    simp only [V.mvs] at hp
    obtain ⟨v1, R1, R2, h1, h2, rfl⟩ := Rd.run_bind hp
    obtain ⟨l1, R3, R4, h3, h4, rfl⟩ := Rd.run_bind h2
    cases h4
    obtain ⟨c, cs', rfl, hv, hl⟩ := hx.head
    exact .cons (mv_vr hI hμ v v1 c R1 h1 (hB.mono fun y hy => by simp [hy]) hv) (mvs_vr hI hμ l l1 cs' R3 h3 (hB.mono fun y hy => by simp [hy]) hl)
end

end Go.Rk
namespace Go.Rk
open Go Classical
set_option linter.unusedVariables false
set_option linter.unusedSimpArgs false

variable {E : Env} {X : Cx} {ι : Io} {μ : Mu} {h : Hp} {sl : Nat} {w : World} {R : List Nat}

def cellsAt (w : World) (b : Nat) : Option (Array Value) := match w.heap[b]? with
  | some (.cells cs _ _) => some cs
  | _ => none
def Lent (ι : Io) (h : Hp) (σ R : List Nat) (b : Nat) : Prop :=
  ∃ y, y ∈ R ∧ y ∉ σ ∧ ∃ l k sz wr ow sib L, h y = some (.row l k sz wr ow sib) ∧ ι y = some (some L) ∧ L.b = b
noncomputable def lendMu (ι : Io) (μ : Mu) (h : Hp) (w : World) (σ R : List Nat) : Mu := fun b => match μ b with
  | some cs => some cs
  | none => if Lent ι h σ R b then cellsAt w b else none

theorem lendMu_mono {σ R : List Nat} : ∀ b cs, μ b = some cs → lendMu ι μ h w σ R b = some cs := by intro b cs hb; simp [lendMu, hb]
theorem lendMu_cells {σ R : List Nat} (hI : Rel E ι μ h w) {b cs} (hb : lendMu ι μ h w σ R b = some cs) : (∃ e fz, w.heap[b]? = some (.cells cs e fz)) ∧ (μ b = some cs ∨ Lent ι h σ R b) := by
  unfold lendMu at hb
  split at hb
  · rename_i cs' hq
    cases hb
    exact ⟨hI.imm _ _ hq, .inl hq⟩
  · split at hb
    · rename_i hl
      refine ⟨?_, .inr hl⟩
      unfold cellsAt at hb
      split at hb
      · cases hb; exact ⟨_, _, ‹_›⟩
      · cases hb
    · cases hb
theorem lendMu_lends {σ R : List Nat} (hI : Rel E ι μ h w) : Lends ι h w σ R (lendMu ι μ h w σ R) := by
  intro y hy hns l k sz wr ow sib hrow L hL cs e fz hw
  unfold lendMu
  split
  · rename_i cs' hq
    obtain ⟨e', fz', h1⟩ := hI.imm _ _ hq
    rw [hw] at h1; cases h1; rfl
  · rw [if_pos ⟨y, hy, hns, l, k, sz, wr, ow, sib, L, hrow, hL, rfl⟩]
    simp [cellsAt, hw]

theorem mvs_one {call : Bool} {σ : List Nat} : ∀ (l l' : List V) (R : List Nat), (V.mvs call σ l).run h = some (l', R) → l'.length = l.length := by
  intro l
  induction l with
  | nil => intro l' R hp; cases hp; rfl
  | cons v l ih =>
    intro l' R hp
    simp only [V.mvs] at hp
    obtain ⟨v1, R1, R2, h1, h2, rfl⟩ := Rd.run_bind hp
    obtain ⟨l1, R3, R4, h3, h4, rfl⟩ := Rd.run_bind h2
    cases h4
    simp [ih l1 R3 h3]

/-- One object, told anew. -/
theorem omv {call : Bool} {σ : List Nat} {x k : Nat} {o o' : O} {μ' : Mu} (hI : Rel E ι μ h w) (hμ : ∀ b cs, μ b = some cs → μ' b = some cs) (hx : h x = some o) (hk : σ[k]? = some x)
    (hp : (o.mv call σ).run h = some (o', R)) (hB : Lends ι h w σ R μ') :
    RO (Io.via ι σ) μ' w k o' ∧ (o'.wr = true → o.wr = true ∧ (call = true → ∀ y, o.sib = some y → (pos σ y).isSome = true)) ∧ o'.sib = o.sib.bind (pos σ) ∧
    (∀ l k sz wr sib, o' = .row l k sz wr true sib → call = false ∧ ∃ l k sz wr sib, o = .row l k sz wr true sib) := by
  cases o with
  | map es =>
    cases hp
    obtain ⟨L, hL, es', clk, hw, hl, hc⟩ := hI.obj _ _ hx
    exact ⟨⟨L, by rw [Io.via_some hk]; exact hL, es', clk, hw, hl, hc⟩, fun _ => ⟨rfl, fun _ y hy => by cases hy⟩, rfl, fun l k sz wr sib he => by cases he⟩
  | row l kk sz wr ow sib =>
    simp only [O.mv] at hp
    obtain ⟨l', R1, R2, h1, h2, rfl⟩ := Rd.run_bind hp
    have hro := hI.obj _ _ hx
    have hlen : l'.length = l.length := by
      split at h1
      · exact mvs_one _ _ _ h1
      · cases h1; rfl
    have base : ∀ (wr' ow' : Bool) (sib' : Option Nat), (wr' = true → wr = true) → (ow' = true → wr' = true) → RO (Io.via ι σ) μ' w k (.row l' kk sz wr' ow' sib') := by
      intro wr' ow' sib' e1 e2
      refine ⟨e2, ?_⟩
      rcases hro.2 with ⟨rfl, hx0⟩ | ⟨L, hL, hs, hn, cs, e, fz, hw, hN, hf, hc⟩
      · left
        refine ⟨List.eq_nil_of_length_eq_zero (by simpa using hlen), by rw [Io.via_some hk]; exact hx0⟩
      · right
        refine ⟨L, by rw [Io.via_some hk]; exact hL, hs, by omega, cs, e, fz, hw, hN, fun hw' => hf (e1 hw'), ?_⟩
        split at h1
        · rename_i hk0
          subst hk0
          -- an open row: cell by cell
          have hcs : ∃ ds : List Value, ds.length = l.length ∧ ∀ (j : Nat) c, ds[j]? = some c → cs[L.β + j]? = some c ∧ CR ι μ 0 (l.getD j .u) c := by
            have hex : ∀ j, ∃ c, j < l.length → cs[L.β + j]? = some c ∧ CR ι μ 0 (l.getD j .u) c := by
              intro j
              by_cases hj : j < l.length
              · obtain ⟨c, h3, h4⟩ := hc j _ (List.getElem?_eq_getElem hj)
                exact ⟨c, fun _ => ⟨h3, by rw [List.getD_eq_getElem?_getD, List.getElem?_eq_getElem hj]; exact h4⟩⟩
              · exact ⟨undef, fun h => (hj h).elim⟩
            obtain ⟨g, hg⟩ := Classical.axiomOfChoice hex
            refine ⟨(List.range l.length).map g, by simp, fun j c hj => ?_⟩
            have hj1 : j < l.length := by have := (List.getElem?_eq_some_iff.1 hj).1; simpa using this
            simp [hj1] at hj; subst hj
            exact hg j hj1
          obtain ⟨ds, hd1, hd2⟩ := hcs
          have hvs : Vs ι μ l ds := by
            refine ⟨hd1.symm, fun j v hv => ?_⟩
            have hj : j < ds.length := by have := (List.getElem?_eq_some_iff.1 hv).1; omega
            refine ⟨ds[j], List.getElem?_eq_getElem hj, ?_⟩
            have := (hd2 j _ (List.getElem?_eq_getElem hj)).2
            rw [List.getD_eq_getElem?_getD, hv] at this
            exact this.vr
          have hvs' := mvs_vr hI hμ l l' ds R1 h1 (hB.mono fun y hy => by simp [hy]) hvs
          intro j v hv
          obtain ⟨c, hc1, hc2⟩ := hvs'.2 j v hv
          obtain ⟨h5, h6⟩ := hd2 j c hc1
          exact ⟨c, h5, by simpa using hc2, h6.2⟩
        · rename_i hk0
          cases h1
          intro j v hv
          obtain ⟨c, hc1, hc2⟩ := hc j v hv
          refine ⟨c, hc1, ?_, hc2.2⟩
          have h3 := hc2.1
          split
          · rw [if_pos ‹_›] at h3; exact h3
          · rw [if_neg ‹_›] at h3
            split
            · rw [if_pos ‹_›] at h3; exact h3.mono hμ
            · omega
    split at h2
    · cases h2
      refine ⟨base _ _ _ id (fun he => hro.1 (by simpa using (Bool.and_eq_true_iff.1 he).1)), fun hw' => ⟨hw', fun _ y hy => by cases hy⟩, rfl, ?_⟩
      intro l2 k2 sz2 wr2 sib2 he
      simp only [O.row.injEq] at he
      have := he.2.2.2.2.1
      simp only [Bool.and_eq_true, Bool.not_eq_true'] at this
      obtain ⟨rfl, hcall⟩ := this
      exact ⟨hcall, _, _, _, _, _, rfl⟩
    · rename_i y
      split at h2
      · rename_i j hj
        cases h2
        refine ⟨base _ _ _ id (fun he => hro.1 (by simpa using (Bool.and_eq_true_iff.1 he).1)), fun hw' => ⟨hw', fun _ z hz => ?_⟩, by simp [O.sib, hj], ?_⟩
        · cases hz; simp [hj]
        · intro l2 k2 sz2 wr2 sib2 he
          simp only [O.row.injEq] at he
          have := he.2.2.2.2.1
          simp only [Bool.and_eq_true, Bool.not_eq_true'] at this
          obtain ⟨rfl, hcall⟩ := this
          exact ⟨hcall, _, _, _, _, _, rfl⟩
      · rename_i hj
        cases h2
        refine ⟨base _ _ _ (fun he => (Bool.and_eq_true_iff.1 he).1) (fun he => ?_), fun hw' => ?_, by simp [O.sib, hj], ?_⟩
        · simp only [Bool.and_eq_true] at he ⊢
          exact ⟨hro.1 he.1, he.2⟩
        · simp only [O.wr, Bool.and_eq_true, Bool.not_eq_true'] at hw'
          refine ⟨hw'.1, fun hc => ?_⟩
          rw [hc] at hw'; exact absurd hw'.2 (by simp)
        · intro l2 k2 sz2 wr2 sib2 he
          simp only [O.row.injEq] at he
          have := he.2.2.2.2.1
          simp only [Bool.and_eq_true, Bool.not_eq_true'] at this
          obtain ⟨rfl, hcall⟩ := this
          exact ⟨hcall, _, _, _, _, _, rfl⟩

theorem omvs {call : Bool} {σ : List Nat} : ∀ (τ : List Nat) (H : List O) (R : List Nat), (O.mvs call σ τ).run h = some (H, R) →
    H.length = τ.length ∧ (∀ x, x ∈ τ → x ∈ R) ∧ ∀ (k : Nat) x, τ[k]? = some x → ∃ o o' R', h x = some o ∧ H[k]? = some o' ∧ (o.mv call σ).run h = some (o', R') ∧ ∀ y, y ∈ R' → y ∈ R := by
  intro τ
  induction τ with
  | nil => intro H R hp; cases hp; exact ⟨rfl, by simp, by simp⟩
  | cons x τ ih =>
    intro H R hp
    simp only [O.mvs, Rd.run] at hp
    split at hp
    · rename_i a R0 h0
      cases hp
      split at h0
      · rename_i o hx
        obtain ⟨o', R1, R2, h1, h2, rfl⟩ := Rd.run_bind h0
        obtain ⟨H', R3, R4, h3, h4, rfl⟩ := Rd.run_bind h2
        cases h4
        obtain ⟨i1, i2, i3⟩ := ih H' R3 h3
        refine ⟨by simp [i1], ?_, ?_⟩
        · intro y hy
          rcases List.mem_cons.1 hy with rfl | hy
          · simp
          · simp [i2 y hy]
        · intro k y hk
          cases k with
          | zero => cases hk; exact ⟨o, o', R1, hx, rfl, h1, fun y hy => by simp [hy]⟩
          | succ k =>
            obtain ⟨p, p', R', e1, e2, e3, e4⟩ := i3 k y (by simpa using hk)
            exact ⟨p, p', R', e1, by simpa using e2, e3, fun z hz => by simp [e4 z hz]⟩
      · cases h0
    · cases hp


variable {E : Env} {X : Cx} {ι : Io} {μ : Mu} {h : Hp} {sl : Nat} {w : World} {R : List Nat}

def ReadOk (call : Bool) (σ : List Nat) (h : Hp) (y : Nat) : Prop := y ∈ σ ∨ ∃ l k sz wr ow sib, h y = some (.row l k sz wr ow sib) ∧ (call = true ∨ ∀ z, sib = some z → z ∉ σ)

mutual
theorem mv_reads {call : Bool} {σ : List Nat} : ∀ (v v' : V) (R : List Nat), (v.mv call σ).run h = some (v', R) → ∀ y, y ∈ R → ReadOk call σ h y
  | .u, v', R, hp, y, hy => by cases hp; cases hy
  | .b _, v', R, hp, y, hy => by cases hp; cases hy
  | .i _ _, v', R, hp, y, hy => by cases hp; cases hy
  | .p none, v', R, hp, y, hy => by cases hp; cases hy
  | .p (some (x, o)), v', R, hp, y, hy => by
    simp only [V.mv] at hp
    split at hp <;> cases hp
    cases hy
  | .q _ _ _, v', R, hp, y, hy => by cases hp; cases hy
  | .s none _, v', R, hp, y, hy => by cases hp; cases hy
  | .s (some (x, o)) n, v', R, hp, y, hy => by
    simp only [V.mv] at hp
    split at hp
    · cases hp; cases hy
    · simp only [Rd.run] at hp
      split at hp
      · rename_i a R' h1
        cases hp
        split at h1
        · rename_i l k sz wr ow sib hrow
          split at h1
          · cases h1
          · split at h1
            · rename_i hc
              cases h1
              have : y = x := by simpa using hy
              subst this
              refine .inr ⟨_, _, _, _, _, _, hrow, ?_⟩
              simp only [Bool.or_eq_true, Bool.not_eq_true'] at hc
              rcases hc with hc | hc
              · exact .inl hc
              · refine .inr fun z hz hm => ?_
                subst hz
                simp at hc
                exact hc hm
            · cases h1
        · cases h1
      · cases hp
  | .r _ _ _, v', R, hp, y, hy => by cases hp; cases hy
  | .f g xs ys, v', R, hp, y, hy => by
    simp only [V.mv] at hp
    obtain ⟨xs', R1, R2, h1, h2, rfl⟩ := Rd.run_bind hp
    obtain ⟨ys', R3, R4, h3, h4, rfl⟩ := Rd.run_bind h2
    cases h4
    simp only [List.append_nil, List.mem_append] at hy
    rcases hy with hy | hy
    · exact mvs_reads xs xs' R1 h1 y hy
    · exact mvs_reads ys ys' R3 h3 y hy
  | .z, v', R, hp, y, hy => by cases hp; cases hy
  | .tx _, v', R, hp, y, hy => by cases hp; cases hy
  | .m x, v', R, hp, y, hy => by
    simp only [V.mv] at hp
    split at hp <;> cases hp
    cases hy
  | .a l, v', R, hp, y, hy => by
    simp only [V.mv] at hp
    obtain ⟨l', R1, R2, h1, h2, rfl⟩ := Rd.run_bind hp
    cases h2
    exact mvs_reads l l' R1 h1 y (by simpa using hy)
  | .t l, v', R, hp, y, hy => by
    simp only [V.mv] at hp
    obtain ⟨l', R1, R2, h1, h2, rfl⟩ := Rd.run_bind hp
    cases h2
    exact mvs_reads l l' R1 h1 y (by simpa using hy)
theorem mvs_reads {call : Bool} {σ : List Nat} : ∀ (l l' : List V) (R : List Nat), (V.mvs call σ l).run h = some (l', R) → ∀ y, y ∈ R → ReadOk call σ h y
  | [], l', R, hp, y, hy => by cases hp; cases hy
  | v :: l, l', R, hp, y, hy => by
    simp only [V.mvs] at hp
    obtain ⟨v1, R1, R2, h1, h2, rfl⟩ := Rd.run_bind hp
    obtain ⟨l1, R3, R4, h3, h4, rfl⟩ := Rd.run_bind h2
    cases h4
    simp only [List.append_nil, List.mem_append] at hy
    rcases hy with hy | hy
    · exact mv_reads v v1 R1 h1 y hy
    · exact mvs_reads l l1 R3 h3 y hy
end

theorem omvs_reads {call : Bool} {σ : List Nat} : ∀ (τ : List Nat) (H : List O) (R : List Nat), (∀ x, x ∈ τ → x ∈ σ) → (O.mvs call σ τ).run h = some (H, R) → ∀ y, y ∈ R → ReadOk call σ h y := by
  intro τ
  induction τ with
  | nil => intro H R _ hp y hy; cases hp; cases hy
  | cons x τ ih =>
    intro H R hs hp y hy
    simp only [O.mvs, Rd.run] at hp
    split at hp
    · rename_i a R0 h0
      cases hp
      rcases List.mem_cons.1 hy with rfl | hy
      · exact .inl (hs y (by simp))
      split at h0
      · rename_i o hx
        obtain ⟨o', R1, R2, h1, h2, rfl⟩ := Rd.run_bind h0
        obtain ⟨H', R3, R4, h3, h4, rfl⟩ := Rd.run_bind h2
        cases h4
        simp only [List.append_nil, List.mem_append] at hy
        rcases hy with hy | hy
        · cases o with
          | map es => cases h1; cases hy
          | row l kk sz wr ow sib =>
            simp only [O.mv] at h1
            obtain ⟨l', R5, R6, h5, h6, rfl⟩ := Rd.run_bind h1
            have hR6 : R6 = [] := by
              split at h6
              · cases h6; rfl
              · split at h6 <;> cases h6 <;> rfl
            subst hR6
            simp only [List.append_nil] at hy
            split at h5
            · exact mvs_reads _ _ _ h5 y hy
            · cases h5; cases hy
        · exact ih H' R3 (fun z hz => hs z (by simp [hz])) h3 y hy
      · cases h0
    · cases hp

/-- **The state told anew.** -/
theorem marsh_rel {call : Bool} {σ : List Nat} {H : List O} {Rr : List Nat} (hI : Rel E ι μ h w) (hn : σ.Nodup) (hp : (O.mvs call σ σ).run h = some (H, R)) (hsub : ∀ y, y ∈ R → y ∈ Rr) (hRr : ∀ y, y ∈ Rr → ReadOk call σ h y) :
    Rel E (Io.via ι σ) (lendMu ι μ h w σ Rr) (ofL H) w ∧ H.length = σ.length ∧
    (∀ (k : Nat) x o o', σ[k]? = some x → H[k]? = some o' → h x = some o → (o'.wr = true → o.wr = true ∧ (call = true → ∀ y, o.sib = some y → (pos σ y).isSome = true)) ∧
      o'.sib = o.sib.bind (pos σ) ∧ (∀ l k sz wr sib, o' = .row l k sz wr true sib → call = false ∧ ∃ l k sz wr sib, o = .row l k sz wr true sib)) := by
  obtain ⟨hlen, hmem, hall⟩ := omvs _ _ _ hp
  have hmono := lendMu_mono (ι := ι) (μ := μ) (h := h) (w := w) (σ := σ) (R := Rr)
  have hl := (lendMu_lends (σ := σ) (R := Rr) hI)
  have get : ∀ (k : Nat) o', (ofL H) k = some o' → ∃ x o, σ[k]? = some x ∧ h x = some o ∧ RO (Io.via ι σ) (lendMu ι μ h w σ Rr) w k o' ∧
      (o'.wr = true → o.wr = true ∧ (call = true → ∀ y, o.sib = some y → (pos σ y).isSome = true)) ∧ o'.sib = o.sib.bind (pos σ) ∧
      (∀ l k sz wr sib, o' = .row l k sz wr true sib → call = false ∧ ∃ l k sz wr sib, o = .row l k sz wr true sib) := by
    intro k o' ho'
    have hk : k < σ.length := by
      have := (List.getElem?_eq_some_iff.1 (show H[k]? = some o' from ho')).1
      omega
    obtain ⟨o, o2, R', e1, e2, e3, e4⟩ := hall k σ[k] (List.getElem?_eq_getElem hk)
    rw [show (ofL H) k = H[k]? from rfl, e2] at ho'
    cases ho'
    exact ⟨σ[k], o, List.getElem?_eq_getElem hk, e1, omv hI hmono e1 (List.getElem?_eq_getElem hk) e3 (hl.mono fun y hy => hsub y (e4 y hy))⟩
  refine ⟨⟨?_, ?_, ?_, ?_, ?_, ?_, ?_⟩, hlen, ?_⟩
  · intro k o' ho'
    obtain ⟨x, o, _, _, h3, _⟩ := get k o' ho'
    exact h3
  · intro i j oi oj L M hi hj hij hwr hL hM hb
    obtain ⟨x, o, a1, a2, a3, a4, a5, _⟩ := get i oi hi
    obtain ⟨y, p, b1, b2, b3, b4, b5, _⟩ := get j oj hj
    rw [Io.via_some a1] at hL; rw [Io.via_some b1] at hM
    have hxy : x ≠ y := by
      rintro rfl
      have := pos_of hn a1
      rw [pos_of hn b1] at this
      exact hij (Option.some.inj this).symm
    have := hI.sep x y o p L M a2 b2 hxy (a4 hwr).1 hL hM hb
    rw [a5, this]
    exact pos_of hn b1
  · intro i j oi oj hi hj hs
    obtain ⟨x, o, a1, a2, a3, a4, a5, _⟩ := get i oi hi
    obtain ⟨y, p, b1, b2, b3, b4, b5, _⟩ := get j oj hj
    rw [a5] at hs
    obtain ⟨z, hz1, hz2⟩ := Option.bind_eq_some_iff.1 hs
    have hz3 := pos_some hz2
    rw [b1] at hz3; cases hz3
    have := hI.sym x y o p a2 b2 hz1
    rw [b5, this]
    exact pos_of hn a1
  · intro i oi j hi hs
    obtain ⟨x, o, a1, a2, a3, a4, a5, _⟩ := get i oi hi
    rw [a5] at hs
    obtain ⟨z, hz1, hz2⟩ := Option.bind_eq_some_iff.1 hs
    rw [Io.via_some (pos_some hz2)]
    exact hI.kin x o z a2 hz1
  · intro b cs hb
    exact (lendMu_cells hI hb).1
  · intro b cs hb i oi L hi hwr hL hLb
    obtain ⟨x, o, a1, a2, a3, a4, a5, _⟩ := get i oi hi
    rw [Io.via_some a1] at hL
    obtain ⟨hw1, hw2⟩ := a4 hwr
    rcases (lendMu_cells hI hb).2 with h1 | ⟨y, hyR, hyσ, l, k, sz, wr, ow, sib, M, hy1, hy2, hy3⟩
    · exact hI.off b cs h1 x o L a2 hw1 hL hLb
    · have hxy : x ≠ y := by rintro rfl; exact hyσ (List.mem_of_getElem? a1)
      have hs := hI.sep x y o _ L M a2 hy1 hxy hw1 hL hy2 (hLb.trans hy3.symm)
      rcases hRr y hyR with h2 | ⟨l2, k2, sz2, wr2, ow2, sib2, h2, h3⟩
      · exact hyσ h2
      · rw [hy1] at h2; cases h2
        rcases h3 with h3 | h3
        · have := hw2 h3 y hs
          cases hq : pos σ y with
          | none => rw [hq] at this; cases this
          | some k => exact hyσ (List.mem_of_getElem? (pos_some hq))
        · have := hI.sym x y o _ a2 hy1 hs
          exact h3 x this (List.mem_of_getElem? a1)
  · intro g hg
    exact (hI.glob g hg).mono hmono
  · intro k x o o' hk ho' ho
    obtain ⟨x2, o2, a1, a2, a3, a4, a5, a6⟩ := get k o' ho'
    rw [hk] at a1; cases a1
    rw [ho] at a2; cases a2
    exact ⟨a4, a5, a6⟩


variable {E : Env} {X : Cx} {ι : Io} {μ : Mu} {h : Hp} {sl : Nat} {w : World} {R : List Nat}

theorem sets_not (us : Up) : ∀ (h : Hp) (x : Nat), (∀ p, p ∈ us → p.1 ≠ x) → (h.sets us) x = h x := by
  induction us with
  | nil => intro h x _; rfl
  | cons p us ih =>
    intro h x hn
    obtain ⟨y, o⟩ := p
    simp only [Hp.sets]
    rw [ih _ _ fun q hq => hn q (by simp [hq]), Hp.set_ne _ _ (fun e => hn (y, o) (by simp) e.symm)]
theorem sets_in (us : Up) : ∀ (h : Hp) (x : Nat) (o : Option O), (x, o) ∈ us → (∀ p, p ∈ us → p.1 = x → p.2 = o) → (h.sets us) x = o := by
  induction us with
  | nil => intro h x o hm; cases hm
  | cons p us ih =>
    intro h x o hm hall
    obtain ⟨y, q⟩ := p
    simp only [Hp.sets]
    by_cases hx : ∃ o', (x, o') ∈ us
    · obtain ⟨o', ho'⟩ := hx
      have : o' = o := hall (x, o') (by simp [ho']) rfl
      subst this
      exact ih _ _ _ ho' fun p hp => hall p (by simp [hp])
    · rw [sets_not us _ _ fun p hp e => hx ⟨p.2, by rw [← e]; exact hp⟩]
      rcases List.mem_cons.1 hm with hm | hm
      · cases hm; exact Hp.set_same _ _ _
      · exact (hx ⟨o, hm⟩).elim

theorem backs_run {φ : Nat → Nat} : ∀ (σ : List Nat) (H : List O) (u : Up) (R : List Nat), (backs φ σ H).run h = some (u, R) →
    (∀ p, p ∈ u → p.1 ∈ σ) ∧ ∀ (k : Nat) x, σ[k]? = some x → ∃ old o o2, h x = some old ∧ H[k]? = some o ∧ backO φ old o = some o2 ∧ (σ.Nodup → (x, some o2) ∈ u ∧ ∀ p, p ∈ u → p.1 = x → p.2 = some o2) := by
  intro σ
  induction σ with
  | nil => intro H u R hp; cases hp; exact ⟨by simp, by simp⟩
  | cons y σ ih =>
    intro H u R hp
    cases H with
    | nil => cases hp
    | cons o H =>
      simp only [backs, Rd.run] at hp
      split at hp
      · rename_i a R' h1
        cases hp
        split at h1
        · cases h1
        · rename_i old hold
          split at h1
          · rename_i o2 h2
            obtain ⟨u', R1, R2, h3, h4, rfl⟩ := Rd.run_bind h1
            cases h4
            obtain ⟨i1, i2⟩ := ih H u' R1 h3
            refine ⟨?_, ?_⟩
            · intro p hp
              rcases List.mem_cons.1 hp with rfl | hp
              · simp
              · simp [i1 p hp]
            · intro k x hk
              cases k with
              | zero =>
                cases hk
                refine ⟨old, o, o2, hold, rfl, h2, fun hn => ⟨by simp, fun p hp he => ?_⟩⟩
                rcases List.mem_cons.1 hp with rfl | hp
                · rfl
                · have := i1 p hp
                  rw [he] at this
                  exact ((List.nodup_cons.1 hn).1 this).elim
              | succ k =>
                obtain ⟨old', o', o2', e1, e2, e3, e4⟩ := i2 k x (by simpa using hk)
                refine ⟨old', o', o2', e1, by simpa using e2, e3, fun hn => ?_⟩
                obtain ⟨e5, e6⟩ := e4 (List.nodup_cons.1 hn).2
                refine ⟨by simp [e5], fun p hp he => ?_⟩
                rcases List.mem_cons.1 hp with rfl | hp
                · simp only at he
                  have : x ∈ σ := List.mem_of_getElem? (by simpa using hk)
                  rw [← he] at this
                  exact ((List.nodup_cons.1 hn).1 this).elim
                · exact e6 p hp he
          · cases h1
      · cases hp

theorem news_run {φ : Nat → Nat} {m : Nat} : ∀ (H : List O) (sl : Nat) (u : Up), news φ m sl H = some u →
    (∀ p, p ∈ u → ∃ j o, p = (sl + j, some (O.ren φ o)) ∧ H[j]? = some o) ∧ (∀ (j : Nat) o, H[j]? = some o → (sl + j, some (O.ren φ o)) ∈ u ∧ ∀ y, o.sib = some y → m ≤ y) := by
  intro H
  induction H with
  | nil => intro sl u hp; cases hp; exact ⟨by simp, by simp⟩
  | cons o H ih =>
    intro sl u hp
    have main : ∀ u', news φ m (sl + 1) H = some u' → u = (sl, some (o.ren φ)) :: u' → (∀ y, o.sib = some y → m ≤ y) →
        (∀ p, p ∈ u → ∃ j o', p = (sl + j, some (O.ren φ o')) ∧ (o :: H)[j]? = some o') ∧ (∀ (j : Nat) o', (o :: H)[j]? = some o' → (sl + j, some (O.ren φ o')) ∈ u ∧ ∀ y, o'.sib = some y → m ≤ y) := by
      intro u' h1 h2 h3
      obtain ⟨i1, i2⟩ := ih (sl + 1) u' h1
      subst h2
      refine ⟨?_, ?_⟩
      · intro p hp
        rcases List.mem_cons.1 hp with rfl | hp
        · exact ⟨0, o, rfl, rfl⟩
        · obtain ⟨j, o', e1, e2⟩ := i1 p hp
          exact ⟨j + 1, o', by rw [e1]; congr 1; omega, by simpa using e2⟩
      · intro j o' hj
        cases j with
        | zero => cases hj; exact ⟨by simp, h3⟩
        | succ j =>
          obtain ⟨e1, e2⟩ := i2 j o' (by simpa using hj)
          refine ⟨?_, e2⟩
          have : sl + (j + 1) = sl + 1 + j := by omega
          rw [this]; simp [e1]
    simp only [news] at hp
    split at hp
    · rename_i y
      split at hp
      · cases hp
      · cases hq : news φ m (sl + 1) H with
        | none => rw [hq] at hp; cases hp
        | some u' =>
          rw [hq] at hp; cases hp
          exact main u' hq rfl fun z hz => by cases hz; omega
    · rename_i hne
      cases hq : news φ m (sl + 1) H with
      | none => rw [hq] at hp; cases hp
      | some u' =>
        rw [hq] at hp; cases hp
        refine main u' hq rfl fun z hz => ?_
        cases o with
        | map _ => cases hz
        | row l k sz wr ow sib => cases hz; exact (hne _ _ _ _ _ _ rfl).elim

theorem lent_run {σ : List Nat} : ∀ (R0 bs : List Nat) (R : List Nat), (lent σ R0).run h = some (bs, R) →
    (∀ y, y ∈ bs → y ∉ σ) ∧ (∀ y o, y ∈ R0 → y ∉ σ → h y = some o → y ∈ bs) ∧ (∀ y o z, y ∈ R0 → h y = some o → o.sib = some z → z ∉ σ → z ∈ bs) := by
  intro R0
  induction R0 with
  | nil => intro bs R hp; cases hp; exact ⟨by simp, by simp, by simp⟩
  | cons x R0 ih =>
    intro bs R hp
    simp only [lent, Rd.run] at hp
    split at hp
    · rename_i a R' h1
      cases hp
      split at h1
      · rename_i o ho
        obtain ⟨l, R1, R2, h2, h3, rfl⟩ := Rd.run_bind h1
        cases h3
        obtain ⟨i1, i2, i3⟩ := ih l R1 h2
        refine ⟨?_, ?_, ?_⟩
        · intro y hy
          rcases List.mem_append.1 hy with hy | hy
          · rcases List.mem_append.1 hy with hy | hy
            · split at hy
              · cases hy
              · rename_i hc
                have : y = x := by simpa using hy
                subst this
                simpa using hc
            · have := (List.mem_filter.1 hy).2
              simpa using this
          · exact i1 y hy
        · intro y o' hy hn ho'
          rcases List.mem_cons.1 hy with rfl | hy
          · have : (σ.contains y) = false := by simpa using hn
            simp [this]
            simp only [hn, if_false]
            simp
          · exact List.mem_append.2 (.inr (i2 y o' hy hn ho'))
        · intro y o' z hy ho' hz hn
          rcases List.mem_cons.1 hy with rfl | hy
          · rw [ho] at ho'; cases ho'
            refine List.mem_append.2 (.inl (List.mem_append.2 (.inr (List.mem_filter.2 ⟨?_, by simpa using hn⟩))))
            cases o with
            | map _ => cases hz
            | row l k sz wr ow sib =>
              have : sib = some z := hz
              subst this; simp
          · exact List.mem_append.2 (.inr (i3 y o' z hy ho' hz hn))
      · rename_i ho
        obtain ⟨i1, i2, i3⟩ := ih _ R' h1
        refine ⟨i1, ?_, ?_⟩
        · intro y o' hy hn ho'
          rcases List.mem_cons.1 hy with rfl | hy
          · rw [ho] at ho'; cases ho'
          · exact i2 y o' hy hn ho'
        · intro y o' z hy ho' hz hn
          rcases List.mem_cons.1 hy with rfl | hy
          · rw [ho] at ho'; cases ho'
          · exact i3 y o' z hy ho' hz hn
    · cases hp

def O.dem : O → O
  | .row r k sz _ _ sib => .row r k sz false false sib
  | .map es => .map es
theorem demote_run : ∀ (bs : List Nat) (u : Up) (R : List Nat), (demote bs).run h = some (u, R) →
    (∀ p, p ∈ u → p.1 ∈ bs ∧ ∃ l k sz wr ow sib, h p.1 = some (.row l k sz wr ow sib) ∧ p.2 = some (.row l k sz false false sib)) ∧
    (∀ x, x ∈ bs → ∀ o, h x = some o → (x, some o.dem) ∈ u) := by
  intro bs
  induction bs with
  | nil => intro u R hp; cases hp; exact ⟨by simp, by simp⟩
  | cons x bs ih =>
    intro u R hp
    simp only [demote, Rd.run] at hp
    split at hp
    · rename_i a R' h1
      cases hp
      split at h1
      · rename_i l k sz wr ow sib ho
        obtain ⟨u', R1, R2, h2, h3, rfl⟩ := Rd.run_bind h1
        cases h3
        obtain ⟨i1, i2⟩ := ih u' R1 h2
        refine ⟨?_, ?_⟩
        · intro p hp
          rcases List.mem_cons.1 hp with rfl | hp
          · exact ⟨by simp, l, k, sz, wr, ow, sib, ho, rfl⟩
          · obtain ⟨e1, e2⟩ := i1 p hp
            exact ⟨by simp [e1], e2⟩
        · intro y hy o hoy
          rcases List.mem_cons.1 hy with rfl | hy
          · rw [ho] at hoy; cases hoy; simp [O.dem]
          · simp [i2 y hy o hoy]
      · rename_i ho
        obtain ⟨u', R1, R2, h2, h3, rfl⟩ := Rd.run_bind h1
        cases h3
        obtain ⟨i1, i2⟩ := ih _ R1 h2
        refine ⟨?_, ?_⟩
        · intro p hp
          obtain ⟨e1, e2⟩ := i1 p hp
          exact ⟨by simp [e1], e2⟩
        · intro y hy o hoy
          rcases List.mem_cons.1 hy with rfl | hy
          · rw [ho] at hoy; cases hoy
          · exact i2 y hy o hoy
      · cases h1
    · cases hp

/-! Renaming. -/
def RenOk (φ : Nat → Nat) (ι' ιn : Io) : Prop := ∀ k q, ι' k = some q → ιn (φ k) = some q
mutual
theorem vr_ren {φ : Nat → Nat} {ι' ιn : Io} (hφ : RenOk φ ι' ιn) : ∀ (v : V) (x : Value), VR ι' μ v x → VR ιn μ (v.ren φ) x
  | .u, x, hx => .u
  | .b _, x, hx => by rw [hx.b_inv]; exact .c .b
  | .i _ _, x, hx => by rw [hx.i_inv]; exact .c .i
  | .p none, x, hx => by rw [hx.pn_inv]; exact .c .pn
  | .p (some (k, o)), x, hx => by
    obtain ⟨L, hL, rfl⟩ := hx.p_inv
    exact .p (hφ _ _ hL)
  | .q _ _ _, x, hx => .c hx.q_inv
  | .s none _, x, hx => by obtain ⟨rfl, h0⟩ := hx.sn_inv; exact .c (.sn h0)
  | .s (some (k, o)) n, x, hx => by
    rcases hx.s_inv with ⟨L, cap, hL, hcap, hN, rfl⟩ | ⟨rfl, hι, a, rfl⟩
    · exact .s (hφ _ _ hL) hcap hN
    · cases hq : ι' k with
      | none => exact (hι hq).elim
      | some q => exact .s0 (hφ _ _ hq)
  | .r _ _ _, x, hx => .c hx.r_inv
  | .f g xs ys, x, hx => by
    obtain ⟨cs, ds, rfl, hc, hd⟩ := hx.f_inv
    exact .mk_f (vrs_ren hφ xs cs hc) (vrs_ren hφ ys ds hd)
  | .z, x, hx => by rw [hx.z_inv]; exact .c .z
  | .tx _, x, hx => by rw [hx.tx_inv]; exact .c .tx
  | .m k, x, hx => by obtain ⟨L, hL, rfl⟩ := hx.m_inv; exact .m (hφ _ _ hL)
  | .a l, x, hx => by obtain ⟨cs, rfl, hc⟩ := hx.a_inv; exact .mk_a (vrs_ren hφ l cs hc)
  | .t l, x, hx => by obtain ⟨cs, rfl, hc⟩ := hx.t_inv; exact .mk_t (vrs_ren hφ l cs hc)
theorem vrs_ren {φ : Nat → Nat} {ι' ιn : Io} (hφ : RenOk φ ι' ιn) : ∀ (l : List V) (cs : List Value), Vs ι' μ l cs → Vs ιn μ (V.rens φ l) cs
  | [], cs, hx => by rw [hx.nil']; exact .nil
  | v :: l, cs, hx => by
    obtain ⟨c, cs', rfl, hv, hl⟩ := hx.head
    exact .cons (vr_ren hφ v c hv) (vrs_ren hφ l cs' hl)
end

mutual
theorem vr_noR {μ2 : Mu} : ∀ (v : V) (x : Value), VR ι μ v x → v.hasR = false → VR ι μ2 v x
  | .u, x, hx, _ => .u
  | .b _, x, hx, _ => by rw [hx.b_inv]; exact .c .b
  | .i _ _, x, hx, _ => by rw [hx.i_inv]; exact .c .i
  | .p none, x, hx, _ => by rw [hx.pn_inv]; exact .c .pn
  | .p (some (k, o)), x, hx, _ => by
    obtain ⟨L, hL, rfl⟩ := hx.p_inv
    exact .p hL
  | .q _ _ _, x, hx, h => by cases h
  | .s none _, x, hx, _ => by obtain ⟨rfl, h0⟩ := hx.sn_inv; exact .c (.sn h0)
  | .s (some (k, o)) n, x, hx, _ => by
    rcases hx.s_inv with ⟨L, cap, hL, hcap, hN, rfl⟩ | ⟨rfl, hι, a, rfl⟩
    · exact .s hL hcap hN
    · cases hq : ι k with
      | none => exact (hι hq).elim
      | some q => exact .s0 hq
  | .r _ _ _, x, hx, h => by cases h
  | .f g xs ys, x, hx, h => by
    obtain ⟨cs, ds, rfl, hc, hd⟩ := hx.f_inv
    simp only [V.hasR, Bool.or_eq_false_iff] at h
    exact .mk_f (vrs_noR xs cs hc h.1) (vrs_noR ys ds hd h.2)
  | .z, x, hx, _ => by rw [hx.z_inv]; exact .c .z
  | .tx _, x, hx, _ => by rw [hx.tx_inv]; exact .c .tx
  | .m k, x, hx, _ => by obtain ⟨L, hL, rfl⟩ := hx.m_inv; exact .m hL
  | .a l, x, hx, h => by obtain ⟨cs, rfl, hc⟩ := hx.a_inv; exact .mk_a (vrs_noR l cs hc h)
  | .t l, x, hx, h => by obtain ⟨cs, rfl, hc⟩ := hx.t_inv; exact .mk_t (vrs_noR l cs hc h)
theorem vrs_noR {μ2 : Mu} : ∀ (l : List V) (cs : List Value), Vs ι μ l cs → V.hasRs l = false → Vs ι μ2 l cs
  | [], cs, hx, _ => by rw [hx.nil']; exact .nil
  | v :: l, cs, hx, h => by
    obtain ⟨c, cs', rfl, hv, hl⟩ := hx.head
    simp only [V.hasRs, Bool.or_eq_false_iff] at h
    exact .cons (vr_noR v c hv h.1) (vrs_noR l cs' hl h.2)
end


variable {E : Env} {X : Cx} {ι : Io} {μ : Mu} {h : Hp} {sl : Nat} {w : World} {R : List Nat}

theorem rens_get {φ : Nat → Nat} : ∀ (l : List V) (j : Nat), (V.rens φ l)[j]? = (l[j]?).map (V.ren φ) := by
  intro l
  induction l with
  | nil => intro j; simp [V.rens]
  | cons v l ih => intro j; cases j <;> simp [V.rens, ih]
theorem rens_len {φ : Nat → Nat} : ∀ (l : List V), (V.rens φ l).length = l.length := by
  intro l; induction l <;> simp [V.rens, *]
theorem hasRs_get : ∀ {l : List V} {j : Nat} {v : V}, V.hasRs l = false → l[j]? = some v → v.hasR = false := by
  intro l
  induction l with
  | nil => intro j v _ h; simp at h
  | cons u l ih =>
    intro j v h hj
    simp only [V.hasRs, Bool.or_eq_false_iff] at h
    cases j with
    | zero => cases hj; exact h.1
    | succ j => exact ih h.2 (by simpa using hj)

theorem cr_back {φ : Nat → Nat} {ι' ιn : Io} {μ' μn : Mu} {k : Nat} {l : List V} {sz wr ow sib} (hφ : RenOk φ ι' ιn) (hR : μn = μ' ∨ O.hasR (.row l k sz wr ow sib) = false) {j : Nat} {v : V} {c : Value}
    (hj : l[j]? = some v) (hc : CR ι' μ' k v c) : CR ιn μn k (if k = 0 then v.ren φ else v) c := by
  refine ⟨?_, hc.2⟩
  have h1 := hc.1
  by_cases h2 : 2 ≤ k
  · rw [if_pos h2] at h1 ⊢; rw [if_neg (by omega)]; exact h1
  · rw [if_neg h2] at h1 ⊢
    by_cases h3 : k = 1
    · rw [if_pos h3] at h1 ⊢; rw [if_neg (by omega)]
      rcases hR with rfl | hR
      · exact h1
      · simp [O.hasR, h3] at hR
    · rw [if_neg h3] at h1 ⊢
      have h0 : k = 0 := by omega
      rw [if_pos h0]
      rcases hR with rfl | hR
      · exact vr_ren hφ v c h1
      · subst h0
        simp only [O.hasR] at hR
        exact vr_ren hφ v c (vr_noR v c h1 (hasRs_get (by simpa using hR) hj))

theorem ro_back {φ : Nat → Nat} {ι' ιn : Io} {μ' μn : Mu} {k kk x : Nat} {l : List V} {sz} {wr ow wr2 ow2 : Bool} {sib sib2 : Option Nat} {w' : World} (hφ : RenOk φ ι' ιn) (hR : μn = μ' ∨ O.hasR (.row l kk sz wr ow sib) = false)
    (ho : RO ι' μ' w' k (.row l kk sz wr ow sib)) (hx : ιn x = ι' k) (h1 : wr2 = true → wr = true) (h2 : ow2 = true → wr2 = true) :
    RO ιn μn w' x (.row (if kk = 0 then V.rens φ l else l) kk sz wr2 ow2 sib2) := by
  refine ⟨h2, ?_⟩
  have hlen : (if kk = 0 then V.rens φ l else l).length = l.length := by split <;> simp [rens_len]
  rcases ho.2 with ⟨rfl, hx0⟩ | ⟨L, hL, hs, hn, cs, e, fz, hw, hN, hf, hc⟩
  · left
    refine ⟨by split <;> rfl, by rw [hx]; exact hx0⟩
  · right
    refine ⟨L, by rw [hx]; exact hL, hs, by omega, cs, e, fz, hw, hN, fun e1 => hf (h1 e1), ?_⟩
    intro j v hj
    by_cases h0 : kk = 0
    · rw [if_pos h0, rens_get] at hj
      obtain ⟨u, hu, rfl⟩ := Option.map_eq_some_iff.1 hj
      obtain ⟨c, hc1, hc2⟩ := hc j u hu
      have := cr_back hφ hR hu hc2
      rw [if_pos h0] at this
      exact ⟨c, hc1, this⟩
    · rw [if_neg h0] at hj
      obtain ⟨c, hc1, hc2⟩ := hc j v hj
      have := cr_back hφ hR hj hc2
      rw [if_neg h0] at this
      exact ⟨c, hc1, this⟩

def WrB (ι : Io) (H : List O) (b : Nat) : Prop := ∃ (k : Nat) (o : O) (L : Loc), H[k]? = some o ∧ o.wr = true ∧ ι k = some (some L) ∧ L.b = b

/-- What holds behind a function's call. -/
structure FnPost (E : Env) (ι : Io) (μ : Mu) (H : List O) (w : World) (r : V) (H' : List O) (x : Value) (ι' : Io) (μ' : Mu) (w' : World) : Prop where
  val : VR ι' μ' r x
  rel : Rel E ι' μ' (ofL H') w'
  anch : ∀ k, k < H.length → ι' k = ι k
  new : ∀ k L, H.length ≤ k → ι' k = some (some L) → w.heap.size ≤ L.b
  dom : ∀ k, ι' k ≠ none → k < H'.length
  fr : Fr w.heap.size (WrB ι H) w w'
  mu : ∀ b cs, μ b = some cs → μ' b = some cs
  muB : ∀ b cs, μ' b = some cs → b < w.heap.size → μ b = some cs ∨ ∃ k L, k < H.length ∧ ι k = some (some L) ∧ L.b = b

def backIo (ι ι' : Io) (m sl n : Nat) : Io := fun x => if sl ≤ x ∧ x < sl + n then ι' (m + (x - sl)) else ι x

theorem call_back {args : List V} {args' : List V} {H : List O} {cs : List Value} {σ : List Nat} {r : V} {H' : List O} {x : Value} {ι' : Io} {μ' : Mu} {w' : World} {u1 u2 u3 : Up} {R0 R1 R2 R3 : List Nat} {bs : List Nat}
    (hI : Inv E X ι μ h w) (hn : σ.Nodup) (hm : (O.mvs true σ σ).run h = some (H, R0)) (hsub : ∀ y, y ∈ R0 → y ∈ R) (hRr : ∀ y, y ∈ R → ReadOk true σ h y) (hσR : ∀ y, y ∈ σ → y ∈ R)
    (hP : FnPost E (Io.via ι σ) (lendMu ι μ h w σ R) H w r H' x ι' μ' w')
    (hl1 : σ.length ≤ H'.length) (hl2 : H'.length ≤ σ.length + 4) (hsl : ∀ j, j < 4 → ι (sl + j) = none) (ha : X.a ≤ sl)
    (hb : (backs (homeOf σ sl) σ H').run h = some (u1, R1)) (hnw : news (homeOf σ sl) σ.length sl (H'.drop σ.length) = some u2)
    (hlt : (lent σ R).run h = some (bs, R2)) (hd : (demote (if r.hasR || H'.any O.hasR then bs else [])).run h = some (u3, R3)) :
    ∃ ιn μn, VR ιn μn (r.ren (homeOf σ sl)) x ∧ Inv E X ιn μn (h.sets (u1 ++ u2 ++ u3)) w' ∧ (∀ y q, ι y = some q → ιn y = some q) ∧ (∀ y, (y < sl ∨ sl + 4 ≤ y) → ιn y = ι y) ∧ (∀ b cs, μ b = some cs → μn b = some cs) := by
  obtain ⟨hrel, hHl, hflag⟩ := marsh_rel hI.rel hn hm hsub hRr
  have hHlen : H.length = σ.length := hHl
  let m := σ.length
  let n := H'.length - m
  let φ := homeOf σ sl
  let ιn := backIo ι ι' m sl n
  let needR := (r.hasR || H'.any O.hasR)
  let μn := if needR = true then μ' else μ
  have hμ : ∀ b cs, μ b = some cs → μ' b = some cs := fun b cs hb => hP.mu _ _ (lendMu_mono _ _ hb)
  have hμn : ∀ b cs, μ b = some cs → μn b = some cs := by
    intro b cs hb
    show (if needR = true then μ' else μ) b = some cs
    split
    · exact hμ b cs hb
    · exact hb
  have hμn' : ∀ b cs, μn b = some cs → μ' b = some cs := by
    intro b cs hb
    have hb : (if needR = true then μ' else μ) b = some cs := hb
    split at hb
    · exact hb
    · exact hμ b cs hb
  have hn4 : n ≤ 4 := by show H'.length - σ.length ≤ 4; omega
  have hslot : ∀ y q, ι y = some q → ¬ (sl ≤ y ∧ y < sl + n) := by
    intro y q hy hc
    have := hsl (y - sl) (by omega)
    rw [show sl + (y - sl) = y by omega, hy] at this
    cases this
  have hmono : ∀ y q, ι y = some q → ιn y = some q := by
    intro y q hy
    show (if sl ≤ y ∧ y < sl + n then _ else ι y) = _
    rw [if_neg (hslot y q hy)]; exact hy
  have hold : ∀ y, ι y ≠ none → ιn y = ι y := by
    intro y hy
    cases hq : ι y with
    | none => exact (hy hq).elim
    | some q => exact hmono y q hq
  have hfresh : ∀ j, j < n → ιn (sl + j) = ι' (m + j) := by
    intro j hj
    show (if sl ≤ sl + j ∧ sl + j < sl + n then ι' (m + (sl + j - sl)) else _) = _
    rw [if_pos ⟨by omega, by omega⟩]; congr 1; omega
  have hφ : RenOk φ ι' ιn := by
    intro k q hk
    by_cases hkm : k < m
    · have e1 : φ k = σ[k]'hkm := by
        show (if k < σ.length then σ.getD k 0 else _) = _
        rw [if_pos hkm, List.getD_eq_getElem?_getD, List.getElem?_eq_getElem hkm]; rfl
      rw [e1]
      have := hP.anch k (by omega)
      rw [hk, Io.via_some (List.getElem?_eq_getElem hkm)] at this
      exact hmono _ _ this.symm
    · have hkH := hP.dom k (by simp [hk])
      have e1 : φ k = sl + (k - m) := by
        show (if k < σ.length then _ else _) = _
        rw [if_neg hkm]
      rw [e1, hfresh (k - m) (by show k - m < H'.length - m; omega), show m + (k - m) = k by omega]
      exact hk
  have hval : VR ιn μn (r.ren φ) x := by
    show VR ιn (if needR = true then μ' else μ) (r.ren φ) x
    split
    · exact vr_ren hφ r x hP.val
    · rename_i hnr
      have : r.hasR = false := by
        cases hq : r.hasR with
        | false => rfl
        | true => exact (hnr (by show (r.hasR || _) = true; rw [hq]; rfl)).elim
      exact vr_ren hφ r x (vr_noR r x hP.val this)
  have hOR : ∀ (k : Nat) o, H'[k]? = some o → μn = μ' ∨ o.hasR = false := by
    intro k o hk
    by_cases hnr : needR = true
    · left; show (if needR = true then μ' else μ) = μ'; rw [if_pos hnr]
    · right
      cases hq : o.hasR with
      | false => rfl
      | true =>
        refine (hnr ?_).elim
        show (r.hasR || H'.any O.hasR) = true
        rw [List.any_eq_true.2 ⟨o, List.mem_of_getElem? hk, hq⟩]; simp
  obtain ⟨b1, b2⟩ := backs_run _ _ _ _ hb
  obtain ⟨n1, n2⟩ := news_run _ _ _ hnw
  obtain ⟨l1, l2, l3⟩ := lent_run _ _ _ hlt
  obtain ⟨d1, d2⟩ := demote_run _ _ _ hd
  have hdbs : ∀ y, y ∈ (if r.hasR || H'.any O.hasR then bs else []) → y ∈ bs := by
    intro y hy; split at hy
    · exact hy
    · cases hy
  -- the new heap
  have hu2 : ∀ p, p ∈ u2 → ι p.1 = none := by
    intro p hp
    obtain ⟨j, o, rfl, hj⟩ := n1 p hp
    have := (List.getElem?_eq_some_iff.1 hj).1
    simp only [List.length_drop] at this
    exact hsl j (by omega)
  have hu1 : ∀ p, p ∈ u1 → p.1 ∈ σ := b1
  have hu3 : ∀ p, p ∈ u3 → p.1 ∉ σ ∧ ι p.1 ≠ none := by
    intro p hp
    obtain ⟨e1, l, k, sz, wr, ow, sib, e2, _⟩ := d1 p hp
    exact ⟨l1 _ (hdbs _ e1), (hI.rel.obj _ _ e2).some⟩
  have hσι : ∀ y, y ∈ σ → ι y ≠ none := by
    intro y hy
    obtain ⟨k, hk, rfl⟩ := List.getElem_of_mem hy
    obtain ⟨old, o, o2, e1, _⟩ := b2 k _ (List.getElem?_eq_getElem hk)
    exact (hI.rel.obj _ _ e1).some
  have hA : ∀ (k : Nat) y, σ[k]? = some y → ∃ old o o2, h y = some old ∧ H'[k]? = some o ∧ backO φ old o = some o2 ∧ (h.sets (u1 ++ u2 ++ u3)) y = some o2 := by
    intro k y hk
    obtain ⟨old, o, o2, e1, e2, e3, e4⟩ := b2 k y hk
    obtain ⟨e5, e6⟩ := e4 hn
    have hyσ := List.mem_of_getElem? hk
    refine ⟨old, o, o2, e1, e2, e3, sets_in _ _ _ _ (by simp [e5]) fun p hp he => ?_⟩
    simp only [List.append_assoc, List.mem_append] at hp
    rcases hp with hp | hp | hp
    · exact e6 p hp he
    · have := hu2 p hp; rw [he] at this; exact (hσι y hyσ this).elim
    · have := (hu3 p hp).1; rw [he] at this; exact (this hyσ).elim
  have hB : ∀ (j : Nat) o, H'[m + j]? = some o → (h.sets (u1 ++ u2 ++ u3)) (sl + j) = some (o.ren φ) ∧ ∀ y, o.sib = some y → m ≤ y := by
    intro j o hj
    have hj' : (H'.drop σ.length)[j]? = some o := by rw [List.getElem?_drop]; exact hj
    obtain ⟨e1, e2⟩ := n2 j o hj'
    have hj4 : j < 4 := by have := (List.getElem?_eq_some_iff.1 hj).1; show j < 4; have : m = σ.length := rfl; omega
    refine ⟨sets_in _ _ _ _ (List.mem_append.2 (.inl (List.mem_append.2 (.inr e1)))) fun p hp he => ?_, e2⟩
    simp only [List.append_assoc, List.mem_append] at hp
    rcases hp with hp | hp | hp
    · have := hσι _ (hu1 p hp); rw [he, hsl j hj4] at this; exact (this rfl).elim
    · obtain ⟨j', o', rfl, hj''⟩ := n1 p hp
      simp only at he
      obtain rfl : j' = j := by omega
      rw [hj'] at hj''; cases hj''; rfl
    · have := (hu3 p hp).2; rw [he, hsl j hj4] at this; exact (this rfl).elim
  have hC : ∀ y, y ∉ σ → ¬ (sl ≤ y ∧ y < sl + n) → ∀ o, (h.sets (u1 ++ u2 ++ u3)) y = some o → ∃ old, h y = some old ∧ (o = old ∨ o = old.dem) ∧ (needR = true → y ∈ bs → o = old.dem) := by
    intro y hy hns o ho
    by_cases h3 : ∃ o', (y, o') ∈ u3
    · obtain ⟨o', ho'⟩ := h3
      obtain ⟨e1, l, k, sz, wr, ow, sib, e2, e3⟩ := d1 _ ho'
      simp only at e2 e3
      have : (h.sets (u1 ++ u2 ++ u3)) y = some (.row l k sz false false sib) := by
        refine sets_in _ _ _ _ (by simp [← e3, ho']) fun p hp he => ?_
        simp only [List.append_assoc, List.mem_append] at hp
        rcases hp with hp | hp | hp
        · have := hu1 p hp; rw [he] at this; exact (hy this).elim
        · have := hu2 p hp; rw [he] at this; exact ((hI.rel.obj _ _ e2).some this).elim
        · obtain ⟨_, l', k', sz', wr', ow', sib', f2, f3⟩ := d1 p hp
          rw [he, e2] at f2; cases f2; exact f3
      rw [this] at ho; cases ho
      exact ⟨_, e2, .inr rfl, fun _ _ => rfl⟩
    · have hnone : ∀ p, p ∈ u1 ++ u2 ++ u3 → p.1 ≠ y := by
        intro p hp he
        simp only [List.append_assoc, List.mem_append] at hp
        rcases hp with hp | hp | hp
        · have := hu1 p hp; rw [he] at this; exact hy this
        · obtain ⟨j, o', rfl, hj⟩ := n1 p hp
          have := (List.getElem?_eq_some_iff.1 hj).1
          simp only [List.length_drop] at this
          refine hns ⟨by simp only at he; omega, ?_⟩
          simp only at he
          show y < sl + (H'.length - σ.length); omega
        · exact h3 ⟨p.2, by rw [← he]; exact hp⟩
      rw [sets_not _ _ _ hnone] at ho
      refine ⟨o, ho, .inl rfl, fun hnr hbs => ?_⟩
      exfalso
      have hbs2 : y ∈ (if r.hasR || H'.any O.hasR then bs else []) := by
        rw [if_pos (show (r.hasR || H'.any O.hasR) = true from hnr)]; exact hbs
      exact h3 ⟨_, d2 y hbs2 o ho⟩
  -- blocks that the call could not write
  have hblk : ∀ y old L, y ∉ σ → h y = some old → ι y = some (some L) → w'.heap[L.b]? = w.heap[L.b]? := by
    intro y old L hy hoy hL
    refine hP.fr.block _ ((hI.rel.obj _ _ hoy).lt hL) ?_
    rintro ⟨k, o, M, e1, e2, e3, e4⟩
    have hk : k < σ.length := by have := (List.getElem?_eq_some_iff.1 e1).1; omega
    obtain ⟨old2, o2, o3, f1, f2, f3, f4⟩ := hA k _ (List.getElem?_eq_getElem hk)
    obtain ⟨g1, g2, g3⟩ := hflag k _ _ _ (List.getElem?_eq_getElem hk) e1 f1
    obtain ⟨g4, g5⟩ := g1 e2
    rw [Io.via_some (List.getElem?_eq_getElem hk)] at e3
    have hne : σ[k] ≠ y := by rintro rfl; exact hy (List.getElem_mem _)
    have := hI.rel.sep _ y _ old M L f1 hoy hne g4 e3 hL e4
    have := g5 rfl y this
    cases hq : pos σ y with
    | none => rw [hq] at this; cases this
    | some j => exact hy (List.mem_of_getElem? (pos_some hq))
  have hOld : ∀ y o, (h.sets (u1 ++ u2 ++ u3)) y = some o → ¬ (sl ≤ y ∧ y < sl + n) → ∃ old, h y = some old ∧ (o.wr = true → old.wr = true) ∧ o.sib = old.sib ∧ RO ιn μn w' y o ∧
      (∀ l k sz wr sib, o = .row l k sz wr true sib → ∃ l k sz wr sib, old = .row l k sz wr true sib) ∧
      (o.wr = true → ∀ b cs L, μn b = some cs → ι y = some (some L) → L.b ≠ b) := by
    intro y o ho hns
    by_cases hy : y ∈ σ
    · obtain ⟨k, hk, rfl⟩ := List.getElem_of_mem hy
      obtain ⟨old, o', o2, f1, f2, f3, f4⟩ := hA k _ (List.getElem?_eq_getElem hk)
      rw [ho] at f4; cases f4
      have hro := hP.rel.obj k o' f2
      have hιk : ιn σ[k] = ι' k := by
        rw [hold _ (hI.rel.obj _ _ f1).some, hP.anch k (by omega), Io.via_some (List.getElem?_eq_getElem hk)]
      have hoff : o'.wr = true → ∀ b cs L, μn b = some cs → ι σ[k] = some (some L) → L.b ≠ b := by
        intro hw b cs L hb hL
        refine hP.rel.off b cs (hμn' b cs hb) k o' L f2 hw ?_
        rw [← hιk, hold _ (by simp [hL])]; exact hL
      cases old with
      | map es =>
        cases o' with
        | row _ _ _ _ _ _ => cases f3
        | map es' =>
          cases f3
          refine ⟨_, f1, fun _ => rfl, rfl, ?_, (fun _ _ _ _ _ he => by cases he), fun _ => hoff rfl⟩
          obtain ⟨L, hL, es2, clk, hw, hl, hc⟩ := hro
          exact ⟨L, by rw [hιk]; exact hL, es2, clk, hw, hl, hc⟩
      | row l kk sz wr ow sib =>
        cases o' with
        | map _ => cases f3
        | row l' kk' sz' wr' ow' sib' =>
          simp only [backO] at f3
          split at f3
          · rename_i hc
            obtain ⟨rfl, rfl, hll⟩ := hc
            cases f3
            refine ⟨_, f1, fun hw => (Bool.and_eq_true_iff.1 hw).1, rfl, ?_, ?_, fun hw => hoff (Bool.and_eq_true_iff.1 hw).2⟩
            · refine ro_back hφ (hOR k _ f2) hro hιk (fun hw => (Bool.and_eq_true_iff.1 hw).2) fun hw => ?_
              obtain ⟨e1, e2⟩ := Bool.and_eq_true_iff.1 hw
              have h3 := (hI.rel.obj _ _ f1).1 e1
              rw [h3, e2]; rfl
            · intro l2 k2 sz2 wr2 sib2 he
              simp only [O.row.injEq] at he
              obtain ⟨rfl, _⟩ := Bool.and_eq_true_iff.1 he.2.2.2.2.1
              exact ⟨_, _, _, _, _, rfl⟩
          · cases f3
    · obtain ⟨old, e1, e2, e3⟩ := hC y hy hns o ho
      have hro : RO ιn μn w' y old := (hI.rel.obj y old e1).frame hmono hμn fun L hL => hblk y old L hy e1 hL
      have hwr : o.wr = true → old.wr = true := by
        rcases e2 with rfl | rfl
        · exact id
        · intro h1; cases old <;> simp [O.dem, O.wr] at h1 ⊢
      refine ⟨old, e1, hwr, ?_, ?_, ?_, ?_⟩
      · rcases e2 with rfl | rfl
        · rfl
        · cases old <;> rfl
      · rcases e2 with rfl | rfl
        · exact hro
        · cases old with
          | map _ => exact hro
          | row l k sz wr ow sib =>
            refine ⟨(fun h1 => by cases h1), ?_⟩
            rcases hro.2 with h1 | ⟨L, g1, g2, g3, cs', e, fz, g4, g5, g6, g7⟩
            · exact .inl h1
            · exact .inr ⟨L, g1, g2, g3, cs', e, fz, g4, g5, (fun h1 => by cases h1), g7⟩
      · intro l k sz wr sib he
        rcases e2 with rfl | rfl
        · subst he; exact ⟨_, _, _, _, _, rfl⟩
        · cases old <;> simp [O.dem] at he
      · intro hw b cs L hb hL hLb
        have hb2 : (if needR = true then μ' else μ) b = some cs := hb
        by_cases hnr : needR = true
        · rw [if_pos hnr] at hb2
          have hnb : y ∉ bs := by
            intro hbs
            have := e3 hnr hbs
            subst this
            cases old with
            | row _ _ _ _ _ _ => simp [O.dem, O.wr] at hw
            | map es =>
              -- a map is lent to nobody
              have hbs2 : y ∈ (if r.hasR || H'.any O.hasR then bs else []) := by
                rw [if_pos (show (r.hasR || H'.any O.hasR) = true from hnr)]; exact hbs
              obtain ⟨_, l, k, sz, wr, ow, sib, q1, _⟩ := d1 _ (d2 y hbs2 _ e1)
              rw [e1] at q1; cases q1
          have hlt2 : b < w.heap.size := by rw [← hLb]; exact (hI.rel.obj _ _ e1).lt hL
          rcases hP.muB b cs hb2 hlt2 with h1 | ⟨k, M, hk, hM, hMb⟩
          · rcases (lendMu_cells hI.rel h1).2 with h2 | ⟨z, hzR, hzσ, l, k, sz, wr, ow, sib, M, q1, q2, q3⟩
            · exact hI.rel.off b cs h2 y old L e1 (hwr hw) hL hLb
            · by_cases hyz : y = z
              · subst hyz; exact hnb (l2 y _ hzR hzσ q1)
              · have hs := hI.rel.sep y z old _ L M e1 q1 hyz (hwr hw) hL q2 (hLb.trans q3.symm)
                have hs2 := hI.rel.sym y z old _ e1 q1 hs
                exact hnb (l3 z _ y hzR q1 hs2 hy)
          · have hk' : k < σ.length := by omega
            rw [Io.via_some (List.getElem?_eq_getElem hk')] at hM
            obtain ⟨old2, o2, o3, f1, f2, f3, f4⟩ := hA k _ (List.getElem?_eq_getElem hk')
            have hyk : y ≠ σ[k] := by rintro rfl; exact hy (List.getElem_mem _)
            have hs := hI.rel.sep y σ[k] old _ L M e1 f1 hyk (hwr hw) hL hM (hLb.trans hMb.symm)
            have hs2 := hI.rel.sym y _ old _ e1 f1 hs
            exact hnb (l3 _ _ y (hσR _ (List.getElem_mem _)) f1 hs2 hy)
        · rw [if_neg hnr] at hb2
          exact hI.rel.off b cs hb2 y old L e1 (hwr hw) hL hLb
  have hNew : ∀ y o, (h.sets (u1 ++ u2 ++ u3)) y = some o → (sl ≤ y ∧ y < sl + n) → ∃ j o', y = sl + j ∧ j < n ∧ H'[m + j]? = some o' ∧ o = o'.ren φ ∧ ∀ z, o'.sib = some z → m ≤ z := by
    intro y o ho hs
    have hj : y - sl < n := by omega
    have hlt3 : m + (y - sl) < H'.length := by show σ.length + (y - sl) < H'.length; have : n = H'.length - σ.length := rfl; omega
    obtain ⟨e1, e2⟩ := hB (y - sl) _ (List.getElem?_eq_getElem hlt3)
    rw [show sl + (y - sl) = y by omega, ho] at e1
    cases e1
    exact ⟨y - sl, _, by omega, hj, List.getElem?_eq_getElem hlt3, rfl, e2⟩
  have hwren : ∀ o : O, (o.ren φ).wr = o.wr := by intro o; cases o <;> rfl
  have hsren : ∀ o : O, (o.ren φ).sib = o.sib.map φ := by intro o; cases o <;> rfl
  have hφnew : ∀ k, m ≤ k → φ k = sl + (k - m) := by
    intro k hk
    show (if k < σ.length then _ else _) = _
    rw [if_neg (by show ¬ k < m; omega)]
  have hbig : ∀ j o' L, H'[m + j]? = some o' → ι' (m + j) = some (some L) → w.heap.size ≤ L.b := fun j o' L _ hL => hP.new _ L (by omega) hL
  refine ⟨ιn, μn, hval, ?_, hmono, ?_, hμn⟩
  · constructor
    · constructor
      · intro y o ho
        by_cases hs : sl ≤ y ∧ y < sl + n
        · obtain ⟨j, o', rfl, hj, h1, rfl, h2⟩ := hNew y o ho hs
          have hro := hP.rel.obj _ o' h1
          cases o' with
          | map es =>
            obtain ⟨L, hL, es2, clk, hw, hl, hc⟩ := hro
            exact ⟨L, by rw [hfresh j hj]; exact hL, es2, clk, hw, hl, hc⟩
          | row l kk sz wr ow sib => exact ro_back hφ (hOR _ _ h1) hro (hfresh j hj) id hro.1
        · obtain ⟨old, e1, e2, e3, e4, _⟩ := hOld y o ho hs
          exact e4
      · intro y z oy oz L M hy hz hyz hwr hL hM hLM
        by_cases hs : sl ≤ y ∧ y < sl + n
        · obtain ⟨j, o', rfl, hj, h1, rfl, h2⟩ := hNew y oy hy hs
          rw [hfresh j hj] at hL
          by_cases hs2 : sl ≤ z ∧ z < sl + n
          · obtain ⟨j2, o2, rfl, hj2, g1, rfl, g2⟩ := hNew z oz hz hs2
            rw [hfresh j2 hj2] at hM
            have := hP.rel.sep (m + j) (m + j2) o' o2 L M h1 g1 (by omega) (by rw [← hwren]; exact hwr) hL hM hLM
            rw [hsren, this, Option.map_some, hφnew _ (by omega)]
            congr 1; omega
          · obtain ⟨old, e1, _⟩ := hOld z oz hz hs2
            rw [hold z (hI.rel.obj _ _ e1).some] at hM
            have := (hI.rel.obj _ _ e1).lt hM
            have := hbig j o' L h1 hL
            omega
        · obtain ⟨old, e1, e2, e3, _⟩ := hOld y oy hy hs
          rw [hold y (hI.rel.obj _ _ e1).some] at hL
          by_cases hs2 : sl ≤ z ∧ z < sl + n
          · obtain ⟨j2, o2, rfl, hj2, g1, rfl, g2⟩ := hNew z oz hz hs2
            rw [hfresh j2 hj2] at hM
            have := (hI.rel.obj _ _ e1).lt hL
            have := hbig j2 o2 M g1 hM
            omega
          · obtain ⟨old2, f1, f2, f3, _⟩ := hOld z oz hz hs2
            rw [hold z (hI.rel.obj _ _ f1).some] at hM
            rw [e3]
            exact hI.rel.sep y z old old2 L M e1 f1 hyz (e2 hwr) hL hM hLM
      · intro y z oy oz hy hz hsb
        by_cases hs : sl ≤ y ∧ y < sl + n
        · obtain ⟨j, o', rfl, hj, h1, rfl, h2⟩ := hNew y oy hy hs
          rw [hsren] at hsb
          obtain ⟨k, hk, hk2⟩ := Option.map_eq_some_iff.1 hsb
          have hkm := h2 k hk
          rw [hφnew k hkm] at hk2
          have hkd := hP.dom k (hP.rel.kin _ _ _ h1 hk)
          have hs2 : sl ≤ z ∧ z < sl + n := ⟨by omega, by show z < sl + (H'.length - m); omega⟩
          obtain ⟨j2, o2, rfl, hj2, g1, rfl, g2⟩ := hNew z oz hz hs2
          have : k = m + j2 := by omega
          subst this
          have := hP.rel.sym _ _ _ _ h1 g1 hk
          rw [hsren, this, Option.map_some, hφnew _ (by omega)]
          congr 1; omega
        · obtain ⟨old, e1, e2, e3, _⟩ := hOld y oy hy hs
          rw [e3] at hsb
          by_cases hs2 : sl ≤ z ∧ z < sl + n
          · have h5 := hI.rel.kin y old z e1 hsb
            exact (h5 (by have := hsl (z - sl) (by omega); rwa [show sl + (z - sl) = z by omega] at this)).elim
          · obtain ⟨old2, f1, f2, f3, _⟩ := hOld z oz hz hs2
            rw [f3]; exact hI.rel.sym y z old old2 e1 f1 hsb
      · intro y o z hy hsb
        by_cases hs : sl ≤ y ∧ y < sl + n
        · obtain ⟨j, o', rfl, hj, h1, rfl, h2⟩ := hNew y o hy hs
          rw [hsren] at hsb
          obtain ⟨k, hk, hk2⟩ := Option.map_eq_some_iff.1 hsb
          have h5 := hP.rel.kin _ _ _ h1 hk
          cases hq : ι' k with
          | none => exact (h5 hq).elim
          | some q => rw [← hk2, hφ k q hq]; simp
        · obtain ⟨old, e1, e2, e3, _⟩ := hOld y o hy hs
          rw [e3] at hsb
          have h5 := hI.rel.kin y old z e1 hsb
          rw [hold z h5]; exact h5
      · intro b cs hb
        exact hP.rel.imm b cs (hμn' b cs hb)
      · intro b cs hb y o L hy hwr hL
        by_cases hs : sl ≤ y ∧ y < sl + n
        · obtain ⟨j, o', rfl, hj, h1, rfl, h2⟩ := hNew y o hy hs
          rw [hfresh j hj] at hL
          exact hP.rel.off b cs (hμn' b cs hb) _ o' L h1 (by rw [← hwren]; exact hwr) hL
        · obtain ⟨old, e1, e2, e3, e4, e5, e6⟩ := hOld y o hy hs
          rw [hold y (hI.rel.obj _ _ e1).some] at hL
          exact e6 hwr b cs L hb hL
      · intro g hg
        exact (hI.rel.glob g hg).mono hμn
    · intro y hy
      show (if sl ≤ y ∧ y < sl + n then _ else ι y) = _
      rw [if_neg (by omega)]; exact hI.anch y hy
    · intro y L hy hL
      by_cases hs : sl ≤ y ∧ y < sl + n
      · have hL2 : (if sl ≤ y ∧ y < sl + n then ι' (m + (y - sl)) else ι y) = some (some L) := hL
        rw [if_pos hs] at hL2
        have := hP.new _ L (by omega) hL2
        have := hI.size
        omega
      · have hL2 : (if sl ≤ y ∧ y < sl + n then ι' (m + (y - sl)) else ι y) = some (some L) := hL
        rw [if_neg hs] at hL2
        exact hI.new y L hy hL2
    · intro y o L hy ho hwr hL
      have hs : ¬ (sl ≤ y ∧ y < sl + n) := by omega
      obtain ⟨old, e1, e2, e3, _⟩ := hOld y o ho hs
      rw [hold y (hI.rel.obj _ _ e1).some] at hL
      exact hI.wrM y old L hy e1 (e2 hwr) hL
    · intro y l k sz wr sib hy ho
      have hs : ¬ (sl ≤ y ∧ y < sl + n) := by omega
      obtain ⟨old, e1, e2, e3, e4, e5, _⟩ := hOld y _ ho hs
      obtain ⟨l2, k2, sz2, wr2, sib2, rfl⟩ := e5 _ _ _ _ _ rfl
      exact hI.own y _ _ _ _ _ hy e1
    · refine hI.fr.trans ⟨hP.fr.os, hP.fr.tape, hP.fr.output, hP.fr.size, fun b hb hM => hP.fr.block b (Nat.lt_of_lt_of_le hb hI.size) ?_⟩
      rintro ⟨k, o, L, e1, e2, e3, e4⟩
      have hk : k < σ.length := by have := (List.getElem?_eq_some_iff.1 e1).1; omega
      obtain ⟨old2, o2, o3, f1, f2, f3, f4⟩ := hA k _ (List.getElem?_eq_getElem hk)
      obtain ⟨g1, _⟩ := hflag k _ _ _ (List.getElem?_eq_getElem hk) e1 f1
      rw [Io.via_some (List.getElem?_eq_getElem hk)] at e3
      by_cases hlt3 : σ[k] < X.a
      · rcases hI.wrM _ _ L hlt3 f1 (g1 e2).1 e3 with h5 | h5
        · omega
        · rw [e4] at h5; exact hM h5
      · have := hI.new _ L (by omega) e3
        omega
    · intro b cs hb
      exact hμn b cs (hI.mu b cs hb)
    · intro b cs hb hlt3
      have hb2 : (if needR = true then μ' else μ) b = some cs := hb
      split at hb2
      · rcases hP.muB b cs hb2 (Nat.lt_of_lt_of_le hlt3 hI.size) with h1 | ⟨k, M, hk, hM, hMb⟩
        · rcases (lendMu_cells hI.rel h1).2 with h2 | ⟨z, hzR, hzσ, l, k, sz, wr, ow, sib, M, q1, q2, q3⟩
          · exact hI.muB b cs h2 hlt3
          · right
            by_cases hza : z < X.a
            · exact ⟨z, M, hza, by rw [← hI.anch z hza]; exact q2, q3⟩
            · have := hI.new z M (by omega) q2; omega
        · right
          have hk' : k < σ.length := by omega
          rw [Io.via_some (List.getElem?_eq_getElem hk')] at hM
          by_cases hza : σ[k] < X.a
          · exact ⟨σ[k], M, hza, by rw [← hI.anch _ hza]; exact hM, hMb⟩
          · have := hI.new _ M (by omega) hM; omega
      · exact hI.muB b cs hb2 hlt3
    · exact Nat.le_trans hI.size hP.fr.size
  · intro y hy
    show (if sl ≤ y ∧ y < sl + n then _ else ι y) = _
    rw [if_neg (by omega)]


variable {E : Env} {X : Cx} {ι : Io} {μ : Mu} {h : Hp} {sl : Nat} {w : World} {R : List Nat}

/-- The model follows an operation of the plain machine. -/
def OpSound (E : Env) (sl : Nat) (op : Op) (vals : List V) (h : Hp) (v : V) (U : Up) : Prop :=
  ∀ (X : Cx) (ι : Io) (μ : Mu) (w : World) (a : Act) (o : Oper), o.op = op → Inv E X ι μ h w → (∀ j, j < 4 → ι (sl + j) = none) → X.a ≤ sl → Vs ι μ vals (op.operands.toList.map a.eval) →
    ∀ (next : Act → World → Prop) (Q : Exit → Act → World → Prop),
      (∀ x w' ι' μ', VR ι' μ' v x → Inv E X ι' μ' (h.sets U) w' → (∀ y q, ι y = some q → ι' y = some q) → (∀ y, (y < sl ∨ sl + 4 ≤ y) → ι' y = ι y) → (∀ b cs, μ b = some cs → μ' b = some cs) →
        next (a.put o.dst x) w') → o.wp E.P a w next Q
def OpS (E : Env) (sl : Nat) (op : Op) (vals : List V) (h : Hp) (v : V) (U : Up) (R : List Nat) : Prop :=
  ∀ h2 : Hp, (∀ x, x ∈ R → h2 x = h x) → OpSound E sl op vals h2 v U
theorem OpS.at {op vals v U h2} (hs : OpS E sl op vals h v U R) (hh : ∀ x, x ∈ R → h2 x = h x) : OpS E sl op vals h2 v U R :=
  fun h3 h4 => hs h3 fun x hx => (h4 x hx).trans (hh x hx)

inductive Step (E : Env) (os : Array Oper) (sl : Nat) : Nat → List V → Hp → List V → Hp → Nat × List Nat × List Nat → Prop where
  | no {i t h o} : os[i]? = some o → wantedV os o t = some false → Step E os sl i t h (put t o.dst (.t [])) h (i, [], [])
  | yes {i t h o v U R} : os[i]? = some o → wantedV os o t = some true → OpS E (sl + 4 * i) o.op (o.op.operands.toList.map (rho E t)) h v U R →
      Step E os sl i t h (put t o.dst v) (h.sets U) (i, R, U.map (·.1))

inductive OpsG (E : Env) (os : Array Oper) (sl : Nat) : List Nat → List V → Hp → List V → Hp → Tr → Prop where
  | nil {t h} : OpsG E os sl [] t h t h []
  | cons {i is t h t1 h1 x t' h' tr} : Step E os sl i t h t1 h1 x → OpsG E os sl is t1 h1 t' h' tr → OpsG E os sl (i :: is) t h t' h' (x :: tr)

theorem put_get {t : List V} {d : Option Tmp} {v : V} {x : Nat} (hd : d ≠ some x) : (put t d v)[x]? = t[x]? := by
  cases d with
  | none => rfl
  | some y =>
    have : y ≠ x := fun e => hd (by rw [e])
    simp [put, List.getElem?_set, this]
theorem put_comm (t : List V) {d e : Option Tmp} (u v : V) (h : ∀ x, d = some x → e ≠ some x) : put (put t d u) e v = put (put t e v) d u := by
  cases d with
  | none => rfl
  | some x =>
    cases e with
    | none => rfl
    | some y =>
      have hxy : x ≠ y := fun e => h x rfl (by rw [e])
      simp only [put]
      exact List.set_comm _ _ hxy

theorem rho_put {t : List V} {d : Option Tmp} {v : V} {x : Operand} (hd : ∀ y, d = some y → x ≠ .tmp y) : rho E (put t d v) x = rho E t x := by
  cases x with
  | tmp y =>
    have : d ≠ some y := fun e => hd y e rfl
    simp only [rho, List.getD_eq_getElem?_getD, put_get this]
  | _ => rfl

theorem looks_op {os : Array Oper} {o : Oper} {x : Operand} {d : Nat} (hx : x ∈ o.op.operands.toList) (hd : d ∉ o.looksAt os) : x ≠ .tmp d := by
  rintro rfl
  apply hd
  unfold Oper.looksAt
  refine List.mem_append.2 (.inl (List.mem_filterMap.2 ⟨_, hx, rfl⟩))
theorem wanted_put {os : Array Oper} {o : Oper} {t : List V} {d : Option Tmp} {v : V} (hd : ∀ y, d = some y → y ∉ o.looksAt os) : wantedV os o (put t d v) = wantedV os o t := by
  unfold wantedV
  split
  · rfl
  · rename_i j want hg
    split
    · rfl
    · rename_i e he
      have : d ≠ some e := by
        intro h1
        apply hd e h1
        unfold Oper.looksAt
        rw [hg]
        refine List.mem_append.2 (.inr ?_)
        simp only [he]; simp
      rw [put_get this]

theorem sets_comm {U W : Up} (hd : ∀ p q, p ∈ U → q ∈ W → p.1 ≠ q.1) : (h.sets U).sets W = (h.sets W).sets U := by
  funext x
  by_cases h1 : ∃ p, p ∈ U ∧ p.1 = x
  · obtain ⟨p, hp, rfl⟩ := h1
    rw [sets_not W _ _ fun q hq e => hd p q hp hq e.symm]
    -- the last of U's updates counts, whatever stood before
    have key : ∀ (us : Up) (g g' : Hp), (∃ q, q ∈ us ∧ q.1 = p.1) → (g.sets us) p.1 = (g'.sets us) p.1 := by
      intro us
      induction us with
      | nil => intro g g' ⟨q, hq, _⟩; cases hq
      | cons q us ih =>
        intro g g' hq
        obtain ⟨y, o⟩ := q
        simp only [Hp.sets]
        by_cases h2 : ∃ q, q ∈ us ∧ q.1 = p.1
        · exact ih _ _ h2
        · rw [sets_not us _ _ fun q hq e => h2 ⟨q, hq, e⟩, sets_not us _ _ fun q hq e => h2 ⟨q, hq, e⟩]
          obtain ⟨q, hq1, hq2⟩ := hq
          rcases List.mem_cons.1 hq1 with rfl | hq1
          · simp only at hq2; subst hq2; simp [Hp.set_same]
          · exact (h2 ⟨q, hq1, hq2⟩).elim
    exact key U _ _ ⟨p, hp, rfl⟩
  · rw [sets_not U (h.sets W) x fun p hp e => h1 ⟨p, hp, e⟩]
    by_cases h2 : ∃ q, q ∈ W ∧ q.1 = x
    · obtain ⟨q, hq, rfl⟩ := h2
      have key : ∀ (us : Up) (g g' : Hp), g q.1 = g' q.1 → (g.sets us) q.1 = (g'.sets us) q.1 := by
        intro us
        induction us with
        | nil => intro g g' e; exact e
        | cons r us ih =>
          intro g g' e
          obtain ⟨y, o⟩ := r
          simp only [Hp.sets]
          refine ih _ _ ?_
          simp only [Hp.set]; split
          · rfl
          · exact e
      exact key W _ _ (sets_not U h q.1 fun p hp e => h1 ⟨p, hp, e⟩)
    · rw [sets_not W _ _ fun q hq e => h2 ⟨q, hq, e⟩, sets_not W _ _ fun q hq e => h2 ⟨q, hq, e⟩]
      exact sets_not U h x fun p hp e => h1 ⟨p, hp, e⟩

theorem apartB_spec {A B : List Nat} (h : apartB A B = true) {x : Nat} (hx : x ∈ A) : x ∉ B := by
  simp only [apartB, List.all_eq_true, Bool.not_eq_true'] at h
  have := h x hx
  simpa using this

theorem step_swap {os : Array Oper} {i j : Nat} {t t1 t2 : List V} {h1 h2 : Hp} {x y : Nat × List Nat × List Nat} (hi : Step E os sl i t h t1 h1 x) (hj : Step E os sl j t1 h1 t2 h2 y) (hxy : pairOk os x y = true) :
    ∃ t' h', Step E os sl j t h t' h' y ∧ Step E os sl i t' h' t2 h2 x := by
  simp only [pairOk, Bool.and_eq_true] at hxy
  obtain ⟨⟨⟨hap, hRW⟩, hWR⟩, hWW⟩ := hxy
  have go : ∀ {oi oj : Oper}, os[x.1]? = some oi → os[y.1]? = some oj → oi.apart os oj = true := by
    intro oi oj e1 e2
    rw [e1, e2] at hap; exact hap
  cases hi with
  | no ho hw =>
    rename_i oi
    cases hj with
    | no ho' hw' =>
      rename_i oj
      obtain ⟨s1, s2, s3⟩ := Oper.apart_spec (go ho ho')
      refine ⟨_, _, .no ho' (by rw [← wanted_put s1]; exact hw'), ?_⟩
      rw [put_comm _ _ _ s2]
      exact .no ho (by rw [wanted_put s3]; exact hw)
    | yes ho' hw' hs' =>
      rename_i oj v U R
      obtain ⟨s1, s2, s3⟩ := Oper.apart_spec (go ho ho')
      have hvals : oj.op.operands.toList.map (rho E (put t oi.dst (.t []))) = oj.op.operands.toList.map (rho E t) :=
        List.map_congr_left fun z hz => rho_put fun d hd => looks_op hz (s1 d hd)
      rw [hvals] at hs'
      refine ⟨_, _, .yes ho' (by rw [← wanted_put s1]; exact hw') hs', ?_⟩
      rw [put_comm _ _ _ s2]
      exact .no ho (by rw [wanted_put s3]; exact hw)
  | yes ho hw hs =>
    rename_i oi v U R
    cases hj with
    | no ho' hw' =>
      rename_i oj
      obtain ⟨s1, s2, s3⟩ := Oper.apart_spec (go ho ho')
      refine ⟨_, _, .no ho' (by rw [← wanted_put s1]; exact hw'), ?_⟩
      rw [put_comm _ _ _ s2]
      have hvals : oi.op.operands.toList.map (rho E (put t oj.dst (.t []))) = oi.op.operands.toList.map (rho E t) :=
        List.map_congr_left fun z hz => rho_put fun d hd => looks_op hz (s3 d hd)
      exact .yes ho (by rw [wanted_put s3]; exact hw) (by rw [hvals]; exact hs)
    | yes ho' hw' hs' =>
      rename_i oj v' U' R'
      obtain ⟨s1, s2, s3⟩ := Oper.apart_spec (go ho ho')
      have hvals : oj.op.operands.toList.map (rho E (put t oi.dst v)) = oj.op.operands.toList.map (rho E t) :=
        List.map_congr_left fun z hz => rho_put fun d hd => looks_op hz (s1 d hd)
      have hvals2 : oi.op.operands.toList.map (rho E (put t oj.dst v')) = oi.op.operands.toList.map (rho E t) :=
        List.map_congr_left fun z hz => rho_put fun d hd => looks_op hz (s3 d hd)
      rw [hvals] at hs'
      have hU : ∀ p q, p ∈ U → q ∈ U' → p.1 ≠ q.1 := by
        intro p q hp hq e
        have := apartB_spec hWW (x := p.1) (List.mem_map.2 ⟨p, hp, rfl⟩)
        exact this (e ▸ List.mem_map.2 ⟨q, hq, rfl⟩)
      have hs1 : OpS E (sl + 4 * j) oj.op (oj.op.operands.toList.map (rho E t)) h v' U' R' := by
        refine hs'.at fun z hz => ?_
        symm
        refine sets_not U h z fun p hp e => ?_
        have := apartB_spec hWR (x := p.1) (List.mem_map.2 ⟨p, hp, rfl⟩)
        exact this (e ▸ hz)
      refine ⟨_, _, .yes ho' (by rw [← wanted_put s1]; exact hw') hs1, ?_⟩
      rw [put_comm _ _ _ s2, sets_comm hU]
      refine .yes ho (by rw [wanted_put s3]; exact hw) ?_
      rw [hvals2]
      refine hs.at fun z hz => ?_
      refine sets_not U' h z fun p hp e => ?_
      have := apartB_spec hRW (x := z) hz
      exact this (e ▸ List.mem_map.2 ⟨p, hp, rfl⟩)

theorem ops_split {os : Array Oper} : ∀ (p s : List Nat) (t : List V) (h : Hp) (t' : List V) (h' : Hp) (tr : Tr), OpsG E os sl (p ++ s) t h t' h' tr →
    ∃ t1 h1 tr1 tr2, OpsG E os sl p t h t1 h1 tr1 ∧ OpsG E os sl s t1 h1 t' h' tr2 ∧ tr = tr1 ++ tr2 ∧ tr1.map (·.1) = p := by
  intro p
  induction p with
  | nil => intro s t h t' h' tr hp; exact ⟨t, h, [], tr, .nil, hp, rfl, rfl⟩
  | cons i p ih =>
    intro s t h t' h' tr hp
    cases hp with
    | cons hs hr =>
      rename_i t1 h1 x tr'
      obtain ⟨t2, h2, tr1, tr2, e1, e2, e3, e4⟩ := ih s _ _ _ _ _ hr
      refine ⟨t2, h2, x :: tr1, tr2, .cons hs e1, e2, by rw [e3]; rfl, ?_⟩
      have : x.1 = i := by cases hs <;> rfl
      simp [this, e4]
theorem ops_join {os : Array Oper} {p s : List Nat} {t t1 t' : List V} {h1 h' : Hp} {tr1 tr2 : Tr} (hp : OpsG E os sl p t h t1 h1 tr1) (hs : OpsG E os sl s t1 h1 t' h' tr2) : OpsG E os sl (p ++ s) t h t' h' (tr1 ++ tr2) := by
  induction hp with
  | nil => exact hs
  | cons hst _ ih => exact .cons hst (ih hs)

/-- One that waits for nobody ahead of it comes first. -/
theorem ops_front {os : Array Oper} {i : Nat} {t t1 t2 : List V} {h1 h2 : Hp} {x : Nat × List Nat × List Nat} {tr : Tr} {p : List Nat} (hp : OpsG E os sl p t h t1 h1 tr) (hx : Step E os sl i t1 h1 t2 h2 x) (hall : ∀ y, y ∈ tr → pairOk os y x = true) :
    ∃ t' h', Step E os sl i t h t' h' x ∧ OpsG E os sl p t' h' t2 h2 tr := by
  induction hp with
  | nil => exact ⟨_, _, hx, .nil⟩
  | cons hst hr ih =>
    obtain ⟨t3, h3, e1, e2⟩ := ih hx fun y hy => hall y (by simp [hy])
    obtain ⟨t4, h4, e3, e4⟩ := step_swap hst e1 (hall _ (by simp))
    exact ⟨t4, h4, e3, .cons e4 e2⟩

end Go.Rk

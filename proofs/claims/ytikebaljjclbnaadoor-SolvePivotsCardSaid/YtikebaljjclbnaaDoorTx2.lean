/- Texts of this claim, one behind the other: what the functions answer. -/
import Derived.Test.YtikebaljjclbnaaDoorTx1
import Derived.Test.YtikebaljjclbnaaDoorTx0
import Derived.Test.YtikebaljjclbnaaDoorRx0
import Derived.Shelf.Spec.TrailingZeros
set_option linter.constructorNameAsVariable false
set_option linter.unusedSimpArgs false
set_option linter.unusedVariables false
set_option linter.unusedSectionVars false
namespace Gim
open Go Go.RowKit Go.Proofs.YtikebaljjclbnaaDoorW.PrintWords Go.Proofs.YtikebaljjclbnaaDoorW.PrintLast Go.Proofs.YtikebaljjclbnaaDoorW.PrintMore Go.Proofs.YtikebaljjclbnaaDoor.F
set_option linter.unusedVariables false
set_option linter.unusedSectionVars false

def g_ : Nat → Rat | 0 => 1 | 1 => 201 / 100 | 2 => 405 / 100 | _ => 82 / 10
def E_ : Nat → Rat | 0 => 180 | 1 => 160 | 2 => 125 | 3 => 66 | _ => 0
def X_ : Nat → Rat | 0 => 203 / 100 | 1 => 202 / 100 | 2 => 201 / 100 | _ => 2
theorem g_ge (s : Nat) : 1 ≤ g_ s ∧ g_ s ≤ 82 / 10 := by unfold g_; split <;> constructor <;> decide +kernel
theorem g_step {s : Nat} (h : s ≤ 2) : 201 / 100 * g_ s ≤ g_ (s + 1) := by
  rcases s with _ | _ | _ | s
  · decide +kernel
  · decide +kernel
  · decide +kernel
  · omega
theorem E_one {s : Nat} (h : s ≤ 3) : 8 * g_ s ≤ E_ s ∧ 2 ≤ X_ s := by
  rcases s with _ | _ | _ | _ | s
  · decide +kernel
  · decide +kernel
  · decide +kernel
  · decide +kernel
  · omega
theorem E_step {s : Nat} (h : s ≤ 2) : (1 + ulp) * (8 * g_ s + E_ (s + 1)) + 63 / 10 * g_ s ≤ E_ s ∧ (1 + ulp) * X_ (s + 1) ≤ X_ s := by
  rcases s with _ | _ | _ | s
  · decide +kernel
  · decide +kernel
  · decide +kernel
  · omega
noncomputable def V (n : Nat) (d : List Int) (i j : Nat) : Rat := val (at4 n n n d i j)
noncomputable def W (x : List Int) (i : Nat) : Rat := val (rd x (i : Int))
noncomputable def Zf (o π : List Int) (j : Nat) : Rat := val (rd o (rd π (j : Int)))
/-- A row's rest. -/
noncomputable def Rest (n lo : Nat) (d x π o : List Int) (i : Nat) : Rat := rs (fun j => V n d i j * Zf o π j) lo (n - lo) - W x i
def AllFin (n : Nat) (d x : List Int) : Prop := (∀ i j, i < n → j < n → fin (at4 n n n d i j)) ∧ ∀ i : Nat, i < n → fin (rd x (i : Int))
structure Bnd (n s : Nat) (d : List Int) (M : Rat) : Prop where
  a : ∀ i j, s ≤ i → i < n → s ≤ j → j < n → rabs (V n d i j) ≤ g_ s * M
  b : ∀ i j, i < s → i ≤ j → j < n → rabs (V n d i j) ≤ g_ i * M
/-- Places, each once. -/
structure Perm (n : Nat) (π : List Int) : Prop where
  l : π.length = n
  r : ∀ i : Nat, i < n → 0 ≤ rd π (i : Int) ∧ rd π (i : Int) < (n : Int)
  i : ∀ i j : Nat, i < n → j < n → rd π (i : Int) = rd π (j : Int) → i = j
noncomputable def lsv (ls : Int) (m : Bool) : Rat := if m then val ls else 0
/-- What is left, from a stage on. -/
structure Post (n s : Nat) (ls : Int) (d x π : List Int) (mk : Bool) (F : Int) (ρ : PR) : Prop where
  e : ρ.2.2.1 = 0
  w : Words n ρ.1
  m : mk = true → ρ.2.1 = true
  c : clean ρ.2.2.2 → clean F
  f : clean ρ.2.2.2 → AllFin n d x → ∀ i : Nat, i < n → fin (rd ρ.1 (i : Int))
  z : clean ρ.2.2.2 → AllFin n d x → ∀ M Z : Rat, 0 ≤ M → lsv ls ρ.2.1 ≤ M → Bnd n s d M → rs (fun j => rabs (Zf ρ.1 π j)) 0 n ≤ Z →
    (∀ i, i < s → rabs (Rest n i d x π ρ.1 i) ≤ 8 * g_ i * (ulp * (M * Z))) ∧ ∀ i, s ≤ i → i < n → rabs (Rest n s d x π ρ.1 i) ≤ E_ s * (ulp * (M * Z)) + X_ s * (lsv ls ρ.2.1 * Z)
section
variable {n : Nat} (hn : n ≤ 4) {ls : Int} (ul_ : U ls) (fl : fin ls) (pl : 0 < ls) (ml : mag ls = ls)
include hn ul_ fl pl ml
theorem place_l3 {y π : List Int} (wy : Words n y) (hp : Perm n π) {mk : Bool} {F : Int} : ∀ t i : Nat, n - i = t → i ≤ n → ∀ o, Words n o → (∀ j : Nat, j < i → rd o (rd π (j : Int)) = rd y (j : Int)) →
    ∃ o', Words n o' ∧ (∀ j : Nat, j < n → rd o' (rd π (j : Int)) = rd y (j : Int)) ∧ Ev (fun K => solve_Pivot.l3 K mk y o π n i F) (o', mk, 0, F) := by
  intro t
  induction t with
  | zero =>
    intro i h1 h2 o wo ho
    obtain rfl : i = n := by omega
    refine ⟨o, wo, ho, Ev.succ ?_⟩
    simp only [solve_Pivot.l3]
    exact Ev.neg (by omega) (Ev.now _)
  | succ t ih =>
    intro i h1 h2 o wo ho
    have hi : i < n := by omega
    obtain ⟨p0, p1⟩ := hp.r i hi
    have lo := wo.1
    have ly := wy.1
    have lp := hp.l
    obtain ⟨o', w', h', ev⟩ := ih (i + 1) (by omega) (by omega) (o.set (rd π (i : Int)).toNat (rd y (i : Int))) (wo.set _ (rd_U wy.2 i)) (fun j hj => by
      have hjn : j < n := by omega
      obtain ⟨q0, q1⟩ := hp.r j hjn
      have e : rd π (j : Int) = (((rd π (j : Int)).toNat : Nat) : Int) := by omega
      rw [e, rd_set (by omega)]
      by_cases c : j = i
      · rw [c, if_pos rfl]
      · rw [if_neg (fun h => c (hp.i j i hjn hi (by omega))), ← e]
        exact ho j (by omega))
    refine ⟨o', w', h', Ev.succ ?_⟩
    simp only [solve_Pivot.l3]
    rw [wn (by omega)]
    exact Ev.pos (by omega) (Ev.pos (by omega) (Ev.pos (by omega) (Ev.pos (by omega) (Ev.pos (by omega) (Ev.pos (by omega) ev)))))
/-- The last stage: a triangle. -/
theorem last_stage {d x π : List Int} (wd : Words (n * n) d) (wx : Words n x) (hp : Perm n π) {mk : Bool} {F : Int} (piv : ∀ i, i < n → mag (at4 n n n d i i) ≠ 0) :
    ∃ ρ, Ev (fun K => solve_Pivot.l1 K ls n x π mk n n F n n n d) ρ ∧ Post n n ls d x π mk F ρ := by
  have hA := at_UU (show n ≤ 100 by omega) wd
  have tv := trsv_ev (show n ≤ 100 by omega) wd (up := true) (one := false) wx F (fun j hj h => piv j hj h.2)
  have wy : Words n (tRun n (fun i k => at4 n n n d i k) true false 0 n (x, F)).1 := tRun_W hA n 0 (x, F) (by omega) wx
  obtain ⟨o, wo, ho, ev⟩ := place_l3 hn ul_ fl pl ml wy hp (mk := mk) (F := (tRun n (fun i k => at4 n n n d i k) true false 0 n (x, F)).2) n 0 (by omega) (by omega) _ (Words.zeros n) (fun j hj => by omega)
  have near : clean (tRun n (fun i k => at4 n n n d i k) true false 0 n (x, F)).2 → AllFin n d x → ∀ i, i < n → RowOK n (fun i k => at4 n n n d i k) true false x (tRun n (fun i k => at4 n n n d i k) true false 0 n (x, F)).1 i := fun hc hf =>
    tri_near (n := n) (by omega) (A := fun i k => at4 n n n d i k) hA (fun i k hi hk => hf.1 i k hi hk) (one := false) (fun _ i hi => piv i hi) (b := x) (fun i hi => hf.2 i hi) (up := true) wx hc
  have lp := hp.l
  refine ⟨(o, mk, 0, (tRun n (fun i k => at4 n n n d i k) true false 0 n (x, F)).2), Ev.succ ?_, ⟨rfl, wo, id, fun hc => tRun_clean n 0 (x, F) hc, fun hc hf c hcn => ?_, fun hc hf M Z M0 hL hB hZ => ⟨fun i hi => ?_, fun i h1 h2 => by omega⟩⟩⟩
  · simp only [solve_Pivot.l1]
    refine Ev.neg (by omega) (Ev.bind tv (Ev.pos rfl (Ev.pos (by omega) (Ev.pos (by omega) ?_))))
    rw [Int.toNat_natCast, lp]
    exact ev
  · -- every place is some row's
    have all : ∀ m : Nat, m ≤ n → ∀ (l : List Int), l.length = m → (∀ a ∈ l, 0 ≤ a ∧ a < (m : Int)) → l.Nodup → ∀ c : Nat, c < m → (c : Int) ∈ l := by
      intro m
      induction m with
      | zero => intro _ l _ _ _ c hc; omega
      | succ m ih =>
        intro hm l hl hr hnd c hc
        have hmem : (m : Int) ∈ l := Decidable.byContradiction fun hno => by
          have hlt : ∀ a ∈ l, 0 ≤ a ∧ a < (m : Int) := fun a ha => ⟨(hr a ha).1, by
            have := (hr a ha).2
            have : a ≠ (m : Int) := fun e => hno (e ▸ ha)
            omega⟩
          cases l with
          | nil => simp at hl
          | cons a l =>
            have h2 := ih (by omega) l (by simpa using hl) (fun b hb => hlt b (List.mem_cons_of_mem _ hb)) (List.nodup_cons.mp hnd).2 a.toNat (by have := hlt a (by simp); omega)
            have ha := (hlt a (by simp)).1
            rw [show ((a.toNat : Nat) : Int) = a from by omega] at h2
            exact (List.nodup_cons.mp hnd).1 h2
        by_cases e : c = m
        · rw [e]; exact hmem
        · have h2 := ih (by omega) (l.erase (m : Int)) (by rw [List.length_erase_of_mem hmem]; omega) (fun a ha => by
            have ha2 := List.mem_of_mem_erase ha
            have h3 := hr a ha2
            have : a ≠ (m : Int) := fun e => by rw [e] at ha; exact (List.Nodup.not_mem_erase hnd) ha
            exact ⟨h3.1, by omega⟩) (hnd.erase _) c (by omega)
          exact List.mem_of_mem_erase h2
    have nd : π.Nodup := by
      rw [List.nodup_iff_pairwise_ne] <;> rw [List.pairwise_iff_getElem]
      intro i j hi hj hij e
      have := hp.i i j (by omega) (by omega) (by rw [rd_lt hi, rd_lt hj]; exact e)
      omega
    have hc2 := all n (Nat.le_refl _) π lp (fun a ha => by
      obtain ⟨k, hk, rfl⟩ := List.getElem_of_mem ha
      have := hp.r k (by omega)
      rw [rd_lt hk] at this
      exact this) nd c hcn
    obtain ⟨k, hk, e⟩ := List.getElem_of_mem hc2
    have h := ho k (by omega)
    rw [rd_lt hk, e] at h
    show fin (rd o (c : Int))
    rw [h]
    exact (near hc hf k (by omega)).1
  · obtain ⟨fi, R⟩ := near hc hf i hi
    have zy : ∀ j, j < n → Zf o π j = val (rd (tRun n (fun i k => at4 n n n d i k) true false 0 n (x, F)).1 (j : Int)) := fun j hj => by unfold Zf; rw [ho j hj]
    generalize (tRun n (fun i k => at4 n n n d i k) true false 0 n (x, F)).1 = y at *
    have cnt : cntOf n true i = n - (i + 1) := by simp [cntOf]
    have lo : loOf true i = i + 1 := by simp [loOf]
    rw [cnt, lo] at R
    unfold rowT at R
    rw [if_neg (by simp)] at R
    have e : n - i = n - (i + 1) + 1 := by omega
    have hm : ((n - (i + 1) : Nat) : Rat) ≤ 3 := by exact_mod_cast (show n - (i + 1) ≤ 3 by omega)
    have hm0 : (0 : Rat) ≤ ((n - (i + 1) : Nat) : Rat) := by exact_mod_cast Nat.zero_le _
    have gM : 0 ≤ g_ i * M := Rat.mul_nonneg (Rat.le_trans (by decide) (g_ge i).1) M0
    -- the rest, by the answer's numbers
    have rest : Rest n i d x π o i = val (at4 n n n d i i) * val (rd y (i : Int)) + rs (fun k => val (at4 n n n d i k) * val (rd y (k : Int))) (i + 1) (n - (i + 1)) - val (rd x (i : Int)) := by
      unfold Rest W
      rw [e]
      simp only [rs]
      rw [zy i hi, rs_congr (n - (i + 1)) (i + 1) (fun k a b => by rw [zy k (by omega)])]
      rfl
    have sum : rabs (val (at4 n n n d i i) * val (rd y (i : Int))) + rs (fun k => rabs (val (at4 n n n d i k) * val (rd y (k : Int)))) (i + 1) (n - (i + 1)) ≤ g_ i * M * Z := by
      have a := rs_bound (a := fun k => V n d i k) (z := Zf o π) gM (n - i) i (fun j j0 j1 => hB.b i j hi j0 (by omega))
      rw [e] at a
      simp only [rs] at a
      have b := rs_split (fun j => rabs (Zf o π j)) i 0 (n - i)
      rw [show i + (n - i) = n from by omega, Nat.zero_add, e] at b
      have b0 := rs_nonneg (g := fun j => rabs (Zf o π j)) (fun k => rabs_nonneg _) i 0
      simp only [rs] at b
      have c : rabs (Zf o π i) + rs (fun j => rabs (Zf o π j)) (i + 1) (n - (i + 1)) ≤ Z := by grind
      have d2 := Rat.mul_le_mul_of_nonneg_left c gM
      rw [zy i hi] at a
      rw [rs_congr (n - (i + 1)) (i + 1) (g := fun j => rabs (V n d i j * Zf o π j)) (g' := fun k => rabs (val (at4 n n n d i k) * val (rd y (k : Int)))) (fun k p q => by rw [zy k (by omega)]; rfl)] at a
      refine Rat.le_trans a ?_
      rw [zy i hi] at d2
      exact d2
    have n1 := ul sum
    rw [rest, ← rabs_neg]
    have e2 : -(val (at4 n n n d i i) * val (rd y (i : Int)) + rs (fun k => val (at4 n n n d i k) * val (rd y (k : Int))) (i + 1) (n - (i + 1)) - val (rd x (i : Int))) =
        val (rd x (i : Int)) - (val (at4 n n n d i i) * val (rd y (i : Int)) + rs (fun k => val (at4 n n n d i k) * val (rd y (k : Int))) (i + 1) (n - (i + 1))) := by grind
    rw [e2]
    refine Rat.le_trans R ?_
    have s0 : 0 ≤ ulp * (rabs (val (at4 n n n d i i) * val (rd y (i : Int))) + rs (fun k => rabs (val (at4 n n n d i k) * val (rd y (k : Int)))) (i + 1) (n - (i + 1))) := by
      refine Rat.mul_nonneg (Rat.le_of_lt ulp_pos) ?_
      have a := rabs_nonneg (val (at4 n n n d i i) * val (rd y (i : Int)))
      have b := rs_nonneg (g := fun k => rabs (val (at4 n n n d i k) * val (rd y (k : Int)))) (fun k => rabs_nonneg _) (n - (i + 1)) (i + 1)
      grind
    have k8 : (1 + ((n - (i + 1) : Nat) : Rat) * (9 / 4)) ≤ 8 := by grind
    have m8 := Rat.mul_le_mul_of_nonneg_right k8 s0
    have e3 : 8 * g_ i * (ulp * (M * Z)) = 8 * (ulp * (g_ i * M * Z)) := by grind
    rw [e3]
    grind
/-- One stage, all before and behind it being told. -/
theorem run : ∀ t s : Nat, n - s = t → s ≤ n → ∀ (d x π : List Int) (mk : Bool) (F : Int), Words (n * n) d → Words n x → Perm n π → (∀ i, i < s → mag (at4 n n n d i i) ≠ 0) →
    ∃ ρ, Ev (fun K => solve_Pivot.l1 K ls n x π mk n s F n n n d) ρ ∧ Post n s ls d x π mk F ρ := by
  intro t
  induction t with
  | zero =>
    intro s h1 h2 d x π mk F wd wx hp piv
    obtain rfl : s = n := by omega
    exact last_stage hn ul_ fl pl ml wd wx hp piv
  | succ t ih =>
    intro s h1 h2 d x π mk F wd wx hp piv
    have hs : s < n := by omega
    have lx := wx.1
    have lp := hp.l
    have go := srch_l2 hn hs wd (ls := ls) (x := x) (π := π) (mk := mk) (F := F) (Q := Post n s ls d x π mk F) (fun r k hr hk hmax => by
      obtain ⟨e1, rs1, ev1⟩ := rows_l5 hn hs hr.2 hk.2 (d := d) (ls := ls) (x := x) (π := π) (mk := mk) (F := F) wx n 0 (by omega) (by omega) d ⟨wd, fun i j hi hj => by rw [if_neg (by omega)]⟩
      obtain ⟨e2, cs2, ev2⟩ := cols_l6 hn hs hr.2 hk.2 (d := e1) (ls := ls) (x := (x.set s (rd x (r : Int))).set r (rd x (s : Int))) (π := π) (mk := mk) (F := F) lp ul_ n 0 (by omega) (by omega) e1 ⟨rs1.w, fun i j hi hj => by rw [if_neg (by omega)]⟩
      -- rows, columns, places
      have a2 : ∀ i j, i < n → j < n → at4 n n n e2 i j = at4 n n n d (sw s r i : Nat) (sw s k j : Nat) := fun i j hi hj => by
        rw [cs2.a i j hi hj, if_pos hi, rs1.a i _ hi (sw_lt hs hk.2 hj), if_pos (sw_lt hs hk.2 hj)]
      have x2 : ∀ i : Nat, i < n → rd ((x.set s (rd x (r : Int))).set r (rd x (s : Int))) (i : Int) = rd x (sw s r i : Nat) := fun i hi => by
        rw [rd_set (by rw [List.length_set]; omega), rd_set (by omega)]
        unfold sw
        by_cases c : r = i
        · subst c
          by_cases c2 : r = s
          · rw [if_pos rfl, if_pos c2, c2]
          · rw [if_pos rfl, if_neg c2, if_pos rfl]
        · rw [if_neg c]
          by_cases c2 : s = i
          · rw [if_pos c2, if_pos c2.symm]
          · rw [if_neg c2, if_neg (fun h => c2 h.symm), if_neg (fun h => c h.symm)]
      have p2 : ∀ i : Nat, i < n → rd ((π.set s (rd π (k : Int))).set k (rd π (s : Int))) (i : Int) = rd π (sw s k i : Nat) := fun i hi => by
        rw [rd_set (by rw [List.length_set]; omega), rd_set (by omega)]
        unfold sw
        by_cases c : k = i
        · subst c
          by_cases c2 : k = s
          · rw [if_pos rfl, if_pos c2, c2]
          · rw [if_pos rfl, if_neg c2, if_pos rfl]
        · rw [if_neg c]
          by_cases c2 : s = i
          · rw [if_pos c2, if_pos c2.symm]
          · rw [if_neg c2, if_neg (fun h => c2 h.symm), if_neg (fun h => c h.symm)]
      have wx2 : Words n ((x.set s (rd x (r : Int))).set r (rd x (s : Int))) := (wx.set _ (rd_U wx.2 r)).set _ (rd_U wx.2 s)
      generalize (x.set s (rd x (r : Int))).set r (rd x (s : Int)) = xx at *
      have hpp : Perm n ((π.set s (rd π (k : Int))).set k (rd π (s : Int))) := by
        refine ⟨by simp [lp], fun i hi => ?_, fun i j hi hj e => ?_⟩
        · rw [p2 i hi]; exact hp.r _ (sw_lt hs hk.2 hi)
        · rw [p2 i hi, p2 j hj] at e
          have := hp.i _ _ (sw_lt hs hk.2 hi) (sw_lt hs hk.2 hj) e
          have q := congrArg (sw s k) this
          rw [sw_sw, sw_sw] at q
          exact q
      generalize (π.set s (rd π (k : Int))).set k (rd π (s : Int)) = pp at *
      have top : mag (at4 n n n e2 s s) = mag (at4 n n n d r k) := by rw [a2 s s hs hs, sw_s, sw_s]
      have max2 : ∀ i j, s ≤ i → i < n → s ≤ j → j < n → mag (at4 n n n e2 i j) ≤ mag (at4 n n n e2 s s) := fun i j i0 i1 j0 j1 => by
        rw [a2 i j i1 j1, top]
        exact hmax _ _ (sw_ge hr.1 i0) (sw_lt hs hr.2 i1) (sw_ge hk.1 j0) (sw_lt hs hk.2 j1)
      -- the leading number, made great enough
      obtain ⟨e3, mk3, w3, big, hmk, a3, ev3⟩ : ∃ (e3 : List Int) (mk3 : Bool), Words (n * n) e3 ∧ ls ≤ mag (at4 n n n e3 s s) ∧ (mk = true → mk3 = true) ∧
          ((at4 n n n e3 s s = ls ∧ mag (at4 n n n e2 s s) < ls ∧ mk3 = true ∧ ∀ i j, i < n → j < n → ¬ (i = s ∧ j = s) → at4 n n n e3 i j = at4 n n n e2 i j) ∨ ∀ i j, i < n → j < n → at4 n n n e3 i j = at4 n n n e2 i j) ∧
          ∀ ρ, Ev (fun K => solve_Pivot.j9 K ls n xx pp mk3 s n s F n n n e3) ρ → Ev (fun K => solve_Pivot.l5 K ls n x π mk s r k n s n 0 F n n n d) ρ := by
        by_cases c : mag (at4 n n n e2 s s) < ls
        · refine ⟨set4 n n n e2 s s ls, true, cs2.w.set4 _ _ _ _ _ ul_, ?_, fun _ => rfl, .inl ⟨?_, c, rfl, fun i j hi hj h => ?_⟩, fun ρ ev => ev1 ρ (ev2 ρ (by rw [if_pos c]; exact ev))⟩
          · rw [at_set4 cs2.w.1 hs hs hs hs, if_pos ⟨rfl, rfl⟩, ml]; exact Int.le_refl _
          · rw [at_set4 cs2.w.1 hs hs hs hs, if_pos ⟨rfl, rfl⟩]
          · rw [at_set4 cs2.w.1 hi hj hs hs, if_neg h]
        · exact ⟨e2, mk, cs2.w, by omega, id, .inr fun i j hi hj => rfl, fun ρ ev => ev1 ρ (ev2 ρ (by rw [if_neg c]; exact ev))⟩
      have col : ∀ i, s ≤ i → i < n → mag (at4 n n n e3 i s) ≤ mag (at4 n n n e3 s s) := fun i i0 i1 => by
        rcases a3 with ⟨q1, q2, q3, q4⟩ | q
        · by_cases c : i = s
          · rw [c]; exact Int.le_refl _
          · have := max2 i s i0 i1 (Nat.le_refl _) hs
            rw [q4 i s i1 hs (fun h => c h.1)]; omega
        · rw [q i s i1 hs, q s s hs hs]; exact max2 i s i0 i1 (Nat.le_refl _) hs
      -- what is taken off
      obtain ⟨e4, y4, G, h7, ev4⟩ := off_l7 hn hs w3 (ls := ls) (x := xx) (π := pp) (mk := mk3) (F := F) wx2 (n - (s + 1)) (s + 1) rfl (by omega) (by omega) e3 xx F
        ⟨w3, wx2, fun a b ha hb => by rw [if_neg (by omega)], fun a ha => by rw [if_neg (by omega)], fun hc => ⟨hc, fun a a1 a2 => by omega⟩⟩
      have d4 : at4 n n n e4 s s = at4 n n n e3 s s := by rw [h7.a s s hs hs, if_neg (by omega)]
      have low3 : ∀ i j, i < s → j < n → at4 n n n e3 i j = at4 n n n d i (sw s k j : Nat) := fun i j hi hj => by
        have e : at4 n n n e3 i j = at4 n n n e2 i j := by
          rcases a3 with ⟨_, _, _, q4⟩ | q
          · exact q4 i j (by omega) hj (by omega)
          · exact q i j (by omega) hj
        rw [e, a2 i j (by omega) hj, sw_lo hr.1 hi]
      have low4 : ∀ i j, i < s → j < n → at4 n n n e4 i j = at4 n n n d i (sw s k j : Nat) := fun i j hi hj => by
        rw [h7.a i j (by omega) hj, if_neg (by omega), low3 i j hi hj]
      obtain ⟨ρ, ev, post⟩ := ih (s + 1) (by omega) (by omega) e4 y4 pp mk3 G h7.w h7.wx hpp (fun i hi => by
        by_cases c : i = s
        · rw [c, d4]; omega
        · rw [low4 i i (by omega) (by omega), sw_lo hk.1 (by omega)]; exact piv i (by omega))
      refine ⟨ρ, ev3 ρ (Ev.succ ?_), ?_⟩
      · simp only [solve_Pivot.j9]
        rw [wn (by omega)]
        exact ev4 ρ ev
      -- what it comes to
      have fin3 : AllFin n d x → ∀ i j, i < n → j < n → fin (at4 n n n e3 i j) := fun hf i j hi hj => by
        have q0 : fin (at4 n n n e2 i j) := by rw [a2 i j hi hj]; exact hf.1 _ _ (sw_lt hs hr.2 hi) (sw_lt hs hk.2 hj)
        rcases a3 with ⟨q1, q2, q3, q4⟩ | q
        · by_cases c : i = s ∧ j = s
          · rw [c.1, c.2, q1]; exact fl
          · rw [q4 i j hi hj c]; exact q0
        · rw [q i j hi hj]; exact q0
      have finx : AllFin n d x → ∀ i : Nat, i < n → fin (rd xx (i : Int)) := fun hf i hi => by rw [x2 i hi]; exact hf.2 _ (sw_lt hs hr.2 hi)
      have p0 : mag (at4 n n n e3 s s) ≠ 0 := by omega
      have u3 : ∀ i j : Nat, U (at4 n n n e3 i j) := fun i j => at_U w3.2 _ _
      -- each multiple
      have mul : clean ρ.2.2.2 → AllFin n d x → ∀ i, s < i → i < n → fin (quo e3 n s i) ∧ rabs (val (quo e3 n s i)) ≤ 1 ∧ rabs (V n e3 s s * val (quo e3 n s i) - V n e3 i s) ≤ ulp * rabs (V n e3 s s * val (quo e3 n s i)) := fun hc hf i i0 i1 => by
        obtain ⟨_, hq⟩ := h7.c (post.c hc)
        obtain ⟨c1, _, _⟩ := hq i i0 i1
        obtain ⟨q1, q2⟩ := quo_err (u3 i s) (u3 s s) (fin3 hf i s i1 hs) (fin3 hf s s hs hs) p0 c1
        refine ⟨q1, ?_, q2⟩
        have R := divRd' (fin3 hf i s i1 hs) (fin3 hf s s hs hs) p0 (dP_R (u3 i s) (u3 s s))
        have hv : val (at4 n n n e3 s s) ≠ 0 := fun e => p0 (val_zero_iff.mp e)
        by_cases h0 : val (at4 n n n e3 i s) / val (at4 n n n e3 s s) = 0
        · obtain ⟨z, _⟩ := R.zero h0
          have : mag (quo e3 n s i) = 0 := by unfold quo; rw [z]; exact mag_signed (by decide) (by decide)
          rw [val_zero_iff.mpr this, rabs_zero]; decide
        · obtain ⟨m, hm, e⟩ := R.num h0
          have one : vm 4607182418800017408 = 1 := by decide +kernel
          have rb1 : RB (vm 4607182418800017408) 4607182418800017408 0 := RB.self (by decide) (by decide)
          have le : rabs (val (at4 n n n e3 i s) / val (at4 n n n e3 s s)) ≤ vm 4607182418800017408 := by
            rw [one]
            have cm := vm_mono (mag_lt (a := at4 n n n e3 i s)).1 (col i (by omega) i1)
            have e2 : rabs (val (at4 n n n e3 i s) / val (at4 n n n e3 s s)) * rabs (val (at4 n n n e3 s s)) = rabs (val (at4 n n n e3 i s)) := by rw [← rabs_mul, Rat.div_mul_cancel hv]
            rw [rabs_val, rabs_val] at e2
            have pp := vm_pos (m := mag (at4 n n n e3 s s)) (by have := (mag_lt (a := at4 n n n e3 s s)).1; omega)
            refine Rat.not_lt.mp fun h => ?_
            have := Rat.mul_lt_mul_of_pos_right h pp
            grind
          have mm := hm.mono rb1 le
          have hr := hm.range
          have : mag (quo e3 n s i) = m := by
            have hI : INF < 9223372036854775808 := by decide
            unfold quo; rw [e]; exact mag_signed hr.1 (by omega)
          rw [rabs_val, this, ← one]
          exact vm_mono hr.1 mm
      -- each new number
      have elm : clean ρ.2.2.2 → AllFin n d x → ∀ i j, s < i → i < n → s < j → j < n → fin (at4 n n n e4 i j) ∧ ∃ ph, rabs (ph - val (quo e3 n s i) * V n e3 s j) ≤ ulp * rabs (val (quo e3 n s i) * V n e3 s j) ∧ rabs (V n e4 i j - (V n e3 i j - ph)) ≤ ulp * rabs (V n e4 i j) := fun hc hf i j i0 i1 j0 j1 => by
        obtain ⟨_, hq⟩ := h7.c (post.c hc)
        obtain ⟨_, ce, _⟩ := hq i i0 i1
        obtain ⟨c1, c2⟩ := ce j j0 j1
        obtain ⟨fq, _, _⟩ := mul hc hf i i0 i1
        have uq := cD_U (F := 0) (u3 i s) (u3 s s)
        obtain ⟨m1, m2⟩ := mv_err uq (u3 s j) fq (fin3 hf s j hs j1) c1
        obtain ⟨m3, m4⟩ := sub_err (u3 i j) (mv_U uq (u3 s j)) (fin3 hf i j i1 j1) m1 c2
        have e : at4 n n n e4 i j = el e3 n s (quo e3 n s i) i j := by rw [h7.a i j i1 j1, if_pos ⟨i0, i1, j0⟩]
        refine ⟨by rw [e]; exact m3, val (mv (quo e3 n s i) (at4 n n n e3 s j)), m2, ?_⟩
        unfold V
        rw [e]
        exact m4
      have elx : clean ρ.2.2.2 → AllFin n d x → ∀ i, s < i → i < n → fin (rd y4 (i : Int)) ∧ ∃ ph, rabs (ph - val (quo e3 n s i) * W xx s) ≤ ulp * rabs (val (quo e3 n s i) * W xx s) ∧ rabs (W y4 i - (W xx i - ph)) ≤ ulp * rabs (W y4 i) := fun hc hf i i0 i1 => by
        obtain ⟨_, hq⟩ := h7.c (post.c hc)
        obtain ⟨_, _, c1, c2⟩ := hq i i0 i1
        obtain ⟨fq, _, _⟩ := mul hc hf i i0 i1
        have uq := cD_U (F := 0) (u3 i s) (u3 s s)
        obtain ⟨m1, m2⟩ := mv_err uq (rd_U wx2.2 s) fq (finx hf s hs) c1
        obtain ⟨m3, m4⟩ := sub_err (rd_U wx2.2 i) (mv_U uq (rd_U wx2.2 s)) (finx hf i i1) m1 c2
        have e : rd y4 (i : Int) = xl xx s (quo e3 n s i) i := by rw [h7.ax i i1, if_pos ⟨i0, i1⟩]
        refine ⟨by rw [e]; exact m3, val (mv (quo e3 n s i) (rd xx (s : Int))), m2, ?_⟩
        unfold W
        rw [e]
        exact m4
      have fin4 : clean ρ.2.2.2 → AllFin n d x → AllFin n e4 y4 := fun hc hf => ⟨fun i j hi hj => by
        by_cases c : s < i ∧ s < j
        · exact (elm hc hf i j c.1 hi c.2 hj).1
        · rw [h7.a i j hi hj, if_neg (by omega)]; exact fin3 hf i j hi hj, fun i hi => by
        by_cases c : s < i
        · exact (elx hc hf i c hi).1
        · rw [h7.ax i hi, if_neg (by omega)]; exact finx hf i hi⟩
      refine ⟨post.e, post.w, fun h => post.m (hmk h), fun hc => (h7.c (post.c hc)).1, fun hc hf => post.f hc (fin4 hc hf), fun hc hf M Z M0 hL hB hZ => ?_⟩
      have L0 : 0 ≤ lsv ls ρ.2.1 := by
        unfold lsv
        split
        · exact val_pos (by unfold neg; have := ul_.2; unfold mag at ml; simp; omega)
        · exact Rat.le_refl
      have Z0 : 0 ≤ Z := Rat.le_trans (rs_nonneg (fun k => rabs_nonneg _) n 0) hZ
      have gs := g_ge s
      have G0 : 0 ≤ g_ s * M := Rat.mul_nonneg (Rat.le_trans (by decide) gs.1) M0
      have MZ : 0 ≤ ulp * (M * Z) := (ule (Rat.mul_nonneg M0 Z0)).1
      have LZ : 0 ≤ lsv ls ρ.2.1 * Z := Rat.mul_nonneg L0 Z0
      -- the answer's numbers, their places changed
      have zz : ∀ j, j < n → Zf ρ.1 pp j = Zf ρ.1 π (sw s k j) := fun j hj => by unfold Zf; rw [p2 j hj]
      have hZ4 : rs (fun j => rabs (Zf ρ.1 pp j)) 0 n ≤ Z := by
        rw [rs_swc (s := s) (k := k) (g := fun j => rabs (Zf ρ.1 π j)) (g' := fun j => rabs (Zf ρ.1 pp j)) (by omega) (by omega) (by omega) (by omega) (fun j _ b => by show rabs (Zf ρ.1 pp j) = rabs (Zf ρ.1 π (sw s k j)); rw [zz j (by omega)])]
        exact hZ
      -- how great the numbers are
      have b2 : ∀ i j, s ≤ i → i < n → s ≤ j → j < n → rabs (V n e2 i j) ≤ g_ s * M := fun i j i0 i1 j0 j1 => by
        unfold V
        rw [a2 i j i1 j1]
        exact hB.a _ _ (sw_ge hr.1 i0) (sw_lt hs hr.2 i1) (sw_ge hk.1 j0) (sw_lt hs hk.2 j1)
      have b3 : ∀ i j, s ≤ i → i < n → s ≤ j → j < n → rabs (V n e3 i j) ≤ g_ s * M := fun i j i0 i1 j0 j1 => by
        rcases a3 with ⟨q1, q2, q3, q4⟩ | q
        · by_cases c : i = s ∧ j = s
          · have m3 : ρ.2.1 = true := post.m q3
            unfold V
            rw [c.1, c.2, q1]
            have e : lsv ls ρ.2.1 = val ls := by unfold lsv; rw [m3, if_pos rfl]
            rw [e] at hL L0
            have : rabs (val ls) = val ls := by unfold rabs; grind
            rw [this]
            have := Rat.mul_le_mul_of_nonneg_right gs.1 M0
            grind
          · have := b2 i j i0 i1 j0 j1
            unfold V at this ⊢
            rw [q4 i j i1 j1 c]; exact this
        · have := b2 i j i0 i1 j0 j1
          unfold V at this ⊢
          rw [q i j i1 j1]; exact this
      have hB4 : Bnd n (s + 1) e4 M := by
        refine ⟨fun i j i0 i1 j0 j1 => ?_, fun i j i0 i1 j1 => ?_⟩
        · obtain ⟨_, m1, m2⟩ := mul hc hf i (by omega) i1
          have hs2 : s ≤ 2 := by omega
          have k := stage_grow (s := s) (m := n - (s + 1)) (ai := fun j => V n e3 i j) (bi := fun j => V n e4 i j) (as_ := fun j => V n e3 s j) (ph := fun j => if h : s < j ∧ j < n then Classical.choose (elm hc hf i j (by omega) i1 h.1 h.2).2 else 0) (f := val (quo e3 n s i)) (G := g_ s * M) m1
            (fun j j0 j1 => by
              rw [dif_pos ⟨by omega, by omega⟩]
              exact Classical.choose_spec (elm hc hf i j (by omega) i1 (by omega) (by omega)).2) (fun j j0 j1 => ⟨b3 i j (by omega) i1 j0 (by omega), b3 s j (Nat.le_refl _) hs j0 (by omega)⟩) (j := j) j0 (by omega)
          have g := Rat.mul_le_mul_of_nonneg_right (g_step hs2) M0
          grind
        · by_cases c : i = s
          · have := b3 i j (by omega) (by omega) (by omega) j1
            unfold V at this ⊢
            rw [h7.a i j (by omega) j1, if_neg (by omega)]; rw [c] at this ⊢; exact this
          · unfold V
            rw [low4 i j (by omega) j1]
            refine hB.b i _ (by omega) ?_ (sw_lt hs hk.2 j1)
            by_cases c2 : j < s
            · rw [sw_lo hk.1 c2]; exact i1
            · have := sw_ge hk.1 (by omega : s ≤ j); omega
      obtain ⟨Pa, Pb⟩ := post.z hc (fin4 hc hf) M Z M0 hL hB4 hZ4
      refine ⟨fun i hi => ?_, fun i i0 i1 => ?_⟩
      · -- rows that were done before
        have P := Pa i (by omega)
        have e : Rest n i e4 y4 pp ρ.1 i = Rest n i d x π ρ.1 i := by
          unfold Rest
          rw [rs_swc (s := s) (k := k) (g := fun j => V n d i j * Zf ρ.1 π j) (g' := fun j => V n e4 i j * Zf ρ.1 pp j) (by omega) (by omega) (by omega) (by omega) (fun j a b => by
            show V n e4 i j * Zf ρ.1 pp j = V n d i (sw s k j) * Zf ρ.1 π (sw s k j)
            unfold V
            rw [zz j (by omega), low4 i j hi (by omega)])]
          unfold W
          rw [h7.ax i (by omega), if_neg (by omega), x2 i (by omega), sw_lo hr.1 hi]
        rw [e] at P
        exact P
      · -- the others: first their rows and columns changed
        have hs3 : s ≤ 3 := by omega
        have j0 := sw_ge hr.1 i0
        have j1 := sw_lt hs hr.2 i1
        have e : Rest n s d x π ρ.1 i = Rest n s e2 xx pp ρ.1 (sw s r i) := by
          unfold Rest
          rw [rs_swc (s := s) (k := k) (g := fun j => V n d i j * Zf ρ.1 π j) (g' := fun j => V n e2 (sw s r i) j * Zf ρ.1 pp j) (by omega) (by omega) (by omega) (by omega) (fun j a b => by
            show V n e2 (sw s r i) j * Zf ρ.1 pp j = V n d i (sw s k j) * Zf ρ.1 π (sw s k j)
            unfold V
            rw [zz j (by omega), a2 _ j j1 (by omega), sw_sw])]
          unfold W
          rw [x2 _ j1, sw_sw]
        rw [e]
        generalize sw s r i = q at j0 j1
        have hZs : rs (fun j => rabs (Zf ρ.1 pp j)) s (n - s) ≤ Z := by
          have b := rs_split (fun j => rabs (Zf ρ.1 pp j)) s 0 (n - s)
          rw [show s + (n - s) = n from by omega, Nat.zero_add] at b
          have b0 := rs_nonneg (g := fun j => rabs (Zf ρ.1 pp j)) (fun k => rabs_nonneg _) s 0
          grind
        have en : n - s = n - (s + 1) + 1 := by omega
        -- the leading row
        have lead : rabs (rs (fun j => V n e3 s j * Zf ρ.1 pp j) s (n - s) - W xx s) ≤ 8 * g_ s * (ulp * (M * Z)) := by
          have P := Pa s (by omega)
          have e : Rest n s e4 y4 pp ρ.1 s = rs (fun j => V n e3 s j * Zf ρ.1 pp j) s (n - s) - W xx s := by
            unfold Rest
            rw [rs_congr (n - s) s (g := fun j => V n e4 s j * Zf ρ.1 pp j) (g' := fun j => V n e3 s j * Zf ρ.1 pp j) (fun j a b => by
              show V n e4 s j * Zf ρ.1 pp j = V n e3 s j * Zf ρ.1 pp j
              unfold V
              rw [h7.a s j hs (by omega), if_neg (by omega)])]
            unfold W
            rw [h7.ax s hs, if_neg (by omega)]
          rw [e] at P
          exact P
        obtain ⟨E1, X1⟩ := E_one hs3
        have E1m := Rat.mul_le_mul_of_nonneg_right E1 MZ
        have X1m := Rat.mul_le_mul_of_nonneg_right X1 LZ
        by_cases c : q = s
        · subst c
          unfold Rest
          rcases a3 with ⟨q1, q2, q3, q4⟩ | qq
          · have m3 : ρ.2.1 = true := post.m q3
            have eL : lsv ls ρ.2.1 = val ls := by unfold lsv; rw [m3, if_pos rfl]
            have d2 : rs (fun j => V n e2 q j * Zf ρ.1 pp j) q (n - q) = rs (fun j => V n e3 q j * Zf ρ.1 pp j) q (n - q) + (V n e2 q q - V n e3 q q) * Zf ρ.1 pp q := by
              rw [en]
              simp only [rs]
              rw [rs_congr (n - (q + 1)) (q + 1) (g := fun j => V n e2 q j * Zf ρ.1 pp j) (g' := fun j => V n e3 q j * Zf ρ.1 pp j) (fun j a b => by
                show V n e2 q j * Zf ρ.1 pp j = V n e3 q j * Zf ρ.1 pp j
                unfold V
                rw [q4 q j hs (by omega) (by omega)])]
              grind
            have small : rabs (V n e2 q q - V n e3 q q) ≤ 2 * lsv ls ρ.2.1 := by
              have a := vm_mono (mag_lt (a := at4 n n n e2 q q)).1 (Int.le_of_lt q2)
              have b : vm ls = val ls := by
                unfold val
                rw [ml, if_neg (by unfold neg; unfold mag at ml; have := ul_.2; simp; omega)]
              rw [b, ← rabs_val] at a
              have t := rabs_add (V n e2 q q) (-V n e3 q q)
              rw [rabs_neg] at t
              have e3v : V n e3 q q = val ls := by unfold V; rw [q1]
              have : rabs (val ls) = val ls := by rw [eL] at L0; unfold rabs; grind
              rw [e3v] at t ⊢
              rw [this] at t
              rw [eL]
              have ee : V n e2 q q - val ls = V n e2 q q + -val ls := by grind
              rw [ee]
              unfold V at t ⊢
              grind
            have zq : rabs (Zf ρ.1 pp q) ≤ Z := by
              rw [en] at hZs
              simp only [rs] at hZs
              have b0 := rs_nonneg (g := fun j => rabs (Zf ρ.1 pp j)) (fun k => rabs_nonneg _) (n - (q + 1)) (q + 1)
              grind
            have pr : rabs ((V n e2 q q - V n e3 q q) * Zf ρ.1 pp q) ≤ 2 * (lsv ls ρ.2.1 * Z) := by
              rw [rabs_mul]
              have a := Rat.mul_le_mul_of_nonneg_right small (rabs_nonneg (Zf ρ.1 pp q))
              have b := Rat.mul_le_mul_of_nonneg_left zq (show 0 ≤ 2 * lsv ls ρ.2.1 by grind)
              grind
            rw [d2]
            have t := rabs_add (rs (fun j => V n e3 q j * Zf ρ.1 pp j) q (n - q) - W xx q) ((V n e2 q q - V n e3 q q) * Zf ρ.1 pp q)
            have ee : rs (fun j => V n e3 q j * Zf ρ.1 pp j) q (n - q) - W xx q + (V n e2 q q - V n e3 q q) * Zf ρ.1 pp q = rs (fun j => V n e3 q j * Zf ρ.1 pp j) q (n - q) + (V n e2 q q - V n e3 q q) * Zf ρ.1 pp q - W xx q := by grind
            rw [ee] at t
            grind
          · rw [rs_congr (n - q) q (g := fun j => V n e2 q j * Zf ρ.1 pp j) (g' := fun j => V n e3 q j * Zf ρ.1 pp j) (fun j a b => by
              show V n e2 q j * Zf ρ.1 pp j = V n e3 q j * Zf ρ.1 pp j
              unfold V
              rw [qq q j hs (by omega)])]
            have X0 : 0 ≤ X_ q * (lsv ls ρ.2.1 * Z) := Rat.mul_nonneg (by grind) LZ
            grind
        · have hs2 : s ≤ 2 := by omega
          have hq : s < q := by omega
          obtain ⟨_, m1, m2⟩ := mul hc hf q hq j1
          obtain ⟨_, ph, x1, x3⟩ := elx hc hf q hq j1
          have P := Pb q (by omega) j1
          unfold Rest at P ⊢
          rw [rs_congr (n - s) s (g := fun j => V n e2 q j * Zf ρ.1 pp j) (g' := fun j => V n e3 q j * Zf ρ.1 pp j) (fun j a b => by
            show V n e2 q j * Zf ρ.1 pp j = V n e3 q j * Zf ρ.1 pp j
            unfold V
            rcases a3 with ⟨_, _, _, q4⟩ | qq
            · rw [q4 q j j1 (by omega) (fun h => c h.1)]
            · rw [qq q j j1 (by omega)])]
          rw [en] at lead hZs ⊢
          have k := stage (s := s) (m := n - (s + 1)) (ai := fun j => V n e3 q j) (bi := fun j => V n e4 q j) (as_ := fun j => V n e3 s j) (z := Zf ρ.1 pp) (ph := fun j => if h : s < j ∧ j < n then Classical.choose (elm hc hf q j hq j1 h.1 h.2).2 else 0)
            (xi := W xx q) (yi := W y4 q) (xs := W xx s) (f := val (quo e3 n s q)) (phx := ph) (G := g_ s * M) (Z := Z) m1 m2
            (fun j j0 j1 => by
              rw [dif_pos ⟨by omega, by omega⟩]
              exact Classical.choose_spec (elm hc hf q j hq (by omega) (by omega) (by omega)).2) (fun j j0 j1 => ⟨b3 q j (by omega) (by omega) j0 (by omega), b3 s j (Nat.le_refl _) hs j0 (by omega)⟩)
            x1 x3 hZs lead P
          obtain ⟨ES, XS⟩ := E_step hs2
          have k1 := Rat.mul_le_mul_of_nonneg_right ES MZ
          have k2 := Rat.mul_le_mul_of_nonneg_right XS LZ
          refine Rat.le_trans k ?_
          have e1 : ulp * (g_ s * M * Z) = g_ s * (ulp * (M * Z)) := by grind
          rw [e1]
          generalize ulp * (M * Z) = A at *
          generalize lsv ls ρ.2.1 * Z = B at *
          have e2 : (1 + ulp) * (8 * g_ s * A + (E_ (s + 1) * A + X_ (s + 1) * B)) = (1 + ulp) * (8 * g_ s + E_ (s + 1)) * A + (1 + ulp) * X_ (s + 1) * B := by grind
          rw [e2]
          grind) (n - s) s rfl (Nat.le_refl _) (by omega) s s 0 ⟨fun i j h => by omega, .inl ⟨rfl, rfl, rfl⟩, ⟨Nat.le_refl _, hs⟩, ⟨Nat.le_refl _, hs⟩, Int.le_refl _⟩
    obtain ⟨ρ, ev, post⟩ := go
    refine ⟨ρ, Ev.succ ?_, post⟩
    simp only [solve_Pivot.l1]
    exact Ev.pos (by omega) ev
end

section
variable {R C : Nat} {s : Int} {d : List Int} (hR : R ≤ 100) (hC : C ≤ 100) (hs : s ≤ 1099511627776) (hu : ∀ x ∈ d, U x)
include hR hC hs hu
theorem finite_l1 {i : Nat} (hi : i < R) {nb : Bool} (next : Ev (fun K => mat_Matrix_Finite.l0 K R ((i + 1 : Nat) : Int) R C s d) nb) :
    ∀ t k : Nat, C - k = t → k ≤ C → ∃ b, Ev (fun K => mat_Matrix_Finite.l1 K i R i C k R C s d) b ∧ (b = true ↔ (∀ j : Nat, k ≤ j → j < C → fin (at4 R C s d i j)) ∧ nb = true) := by
  intro t
  induction t with
  | zero =>
    intro k h1 h2
    refine ⟨nb, Ev.succ ?_, ?_⟩
    · simp only [mat_Matrix_Finite.l1]
      rw [w64 (x := (i : Int) + 1) (by omega) (by omega)]
      exact Ev.neg (by omega) next
    · exact ⟨fun h => ⟨fun j h3 h4 => by omega, h⟩, fun h => h.2⟩
  | succ t ih =>
    intro k h1 h2
    have u := at_U (r := R) (c := C) (s := s) hu i k
    by_cases fi : fin (at4 R C s d i k)
    · obtain ⟨b, ev, hb⟩ := ih (k + 1) (by omega) (by omega)
      refine ⟨b, Ev.succ ?_, ?_⟩
      · simp only [mat_Matrix_Finite.l1]
        rw [w64 (x := (k : Int) + 1) (by omega) (by omega)]
        exact Ev.pos (by omega) (Ev.call (at_eq ⟨by omega, by omega, by omega⟩ _ _ _) (Ev.call (word_Finite_eq u) (Ev.pos (decide_eq_true fi) ev)))
      · rw [hb]
        constructor
        · rintro ⟨h3, h4⟩
          refine ⟨fun j h5 h6 => ?_, h4⟩
          by_cases e : j = k
          · subst e; exact fi
          · exact h3 j (by omega) h6
        · rintro ⟨h3, h4⟩
          exact ⟨fun j h5 h6 => h3 j (by omega) h6, h4⟩
    · refine ⟨false, Ev.succ ?_, ?_⟩
      · simp only [mat_Matrix_Finite.l1]
        exact Ev.pos (by omega) (Ev.call (at_eq ⟨by omega, by omega, by omega⟩ _ _ _) (Ev.call (word_Finite_eq u) (Ev.neg (by rw [decide_eq_false fi]; decide) (Ev.now _))))
      · constructor
        · intro h; cases h
        · intro h; exact absurd (h.1 k (Nat.le_refl _) (by omega)) fi
theorem finite_l0 : ∀ t i : Nat, R - i = t → i ≤ R → ∃ b, Ev (fun K => mat_Matrix_Finite.l0 K R i R C s d) b ∧ (b = true ↔ ∀ j k : Nat, i ≤ j → j < R → k < C → fin (at4 R C s d j k)) := by
  intro t
  induction t with
  | zero =>
    intro i h1 h2
    refine ⟨true, Ev.succ ?_, ⟨fun _ j k h3 h4 => by omega, fun _ => rfl⟩⟩
    simp only [mat_Matrix_Finite.l0]
    exact Ev.neg (by omega) (Ev.now _)
  | succ t ih =>
    intro i h1 h2
    obtain ⟨nb, ev, hn⟩ := ih (i + 1) (by omega) (by omega)
    obtain ⟨b, ev2, hb⟩ := finite_l1 hR hC hs hu (i := i) (by omega) ev C 0 (by omega) (by omega)
    refine ⟨b, Ev.succ ?_, ?_⟩
    · simp only [mat_Matrix_Finite.l0]
      exact Ev.pos (by omega) ev2
    · rw [hb, hn]
      constructor
      · rintro ⟨h3, h4⟩ j k h5 h6 h7
        by_cases e : j = i
        · subst e; exact h3 k (by omega) h7
        · exact h4 j k (by omega) h6 h7
      · intro h
        exact ⟨fun j h5 h6 => h i j (Nat.le_refl _) (by omega) h6, fun j k h5 h6 h7 => h j k (by omega) h6 h7⟩
/-- Whether all is finite. -/
theorem finite_ev : ∃ b, Ev (fun K => mat_Matrix_Finite.f K R C s d) b ∧ (b = true ↔ ∀ j k : Nat, j < R → k < C → fin (at4 R C s d j k)) := by
  unfold mat_Matrix_Finite.f
  obtain ⟨b, ev, hb⟩ := finite_l0 hR hC hs hu R 0 (by omega) (by omega)
  exact ⟨b, ev, hb.trans ⟨fun h j k h1 h2 => h j k (by omega) h1 h2, fun h j k _ h1 h2 => h j k h1 h2⟩⟩
end

/-- The places at first. -/
def ids (n : Nat) : List Int := (List.range n).map fun i : Nat => (i : Int)
theorem ids_rd {n i : Nat} (h : i < n) : rd (ids n) (i : Int) = i := by rw [rd_lt (by simp [ids]; exact h)]; simp [ids]
theorem ids_perm (n : Nat) : Perm n (ids n) :=
  ⟨by simp [ids], fun i hi => by rw [ids_rd hi]; omega, fun i j hi hj e => by rw [ids_rd hi, ids_rd hj] at e; omega⟩
def idsTo (n i : Nat) : List Int := (List.range n).map fun k : Nat => if k < i then (k : Int) else 0
theorem idsTo_set {n i : Nat} (h : i < n) : (idsTo n i).set i (i : Int) = idsTo n (i + 1) := by
  refine List.ext_getElem (by simp [idsTo]) fun k h1 h2 => ?_
  rw [List.getElem_set]
  simp only [idsTo, List.getElem_map, List.getElem_range]
  by_cases c : i = k
  · subst c; simp
  · rw [if_neg c]
    by_cases c2 : k < i
    · rw [if_pos c2, if_pos (by omega)]
    · rw [if_neg c2, if_neg (by omega)]
theorem idsTo_zero (n : Nat) : idsTo n 0 = List.replicate n 0 := by
  refine List.ext_getElem (by simp [idsTo]) fun k h1 h2 => ?_
  simp [idsTo]
theorem idsTo_full (n : Nat) : idsTo n n = ids n := by
  refine List.ext_getElem (by simp [idsTo, ids]) fun k h1 h2 => ?_
  have : k < n := by simpa [idsTo] using h1
  simp [idsTo, ids, this]
section
variable {n : Nat} {ls : Int} {d b : List Int} (wd : Words (n * n) d) (wb : Words n b) {F : Int}
include wd wb
theorem pivot_shape (h4 : 4 < n) (h7 : n ≤ 7) : Ev (fun K => solve_Pivot.f K F n n n d b ls) ([], false, 4, F) := by
  have hl := wb.1
  unfold solve_Pivot.f
  refine Ev.bind (check_dense (by omega) (by omega) wd.1) (Ev.pos rfl (Ev.pos rfl (Ev.pos (by rw [hl]) (Ev.succ ?_))))
  simp only [solve_Pivot.j0]
  exact Ev.pos (by simp; omega) (Ev.now _)
variable (hn : n ≤ 4) (ul_ : U ls)
include hn ul_
theorem pivot_j1 {ρ : PR} (h : ∀ t : Bool, (t = false ↔ (∀ i j : Nat, i < n → j < n → fin (at4 n n n d i j)) ∧ fin ls ∧ neg ls = false ∧ mag ls ≠ 0) → Ev (fun K => solve_Pivot.j1 K b ls n t F n n n d) ρ) : Ev (fun K => solve_Pivot.f K F n n n d b ls) ρ := by
  have hl := wb.1
  obtain ⟨f, ev, hf⟩ := finite_ev (R := n) (C := n) (s := (n : Int)) (by omega) (by omega) (by omega) wd.2
  unfold solve_Pivot.f
  refine Ev.bind (check_dense (by omega) (by omega) wd.1) (Ev.pos rfl (Ev.pos rfl (Ev.pos (by rw [hl]) (Ev.succ ?_))))
  simp only [solve_Pivot.j0]
  refine Ev.neg (by simp; omega) (Ev.bind ev ?_)
  cases f with
  | false => exact Ev.neg (by simp) (h true (by simp; intro z; exact absurd (hf.mpr fun i j hi hj => z i j hi hj) (by simp)))
  | true =>
    refine Ev.pos (by trivial) (Ev.call (word_Finite_eq ul_) ?_)
    by_cases c : ¬ fin ls
    · exact Ev.neg (by simp [c]) (h true (by simp; intro _ z; exact absurd z c))
    · have c : fin ls := Decidable.not_not.mp c
      refine Ev.pos (by simp [c]) (Ev.call (word_Neg_eq ul_) ?_)
      by_cases c2 : neg ls = true
      · exact Ev.pos c2 (h true (by simp; intro _ _ z; rw [c2] at z; cases z))
      · refine Ev.neg c2 (Ev.bind (word_Kind_ev ul_) (h _ ?_))
        rw [beq_eq_false_iff_ne]
        have k1 := kind1 (m := ls % 9223372036854775808)
        constructor
        · intro z
          exact ⟨fun i j hi hj => hf.mp rfl i j hi hj, c, by simpa using c2, fun e => z (k1.mpr e)⟩
        · intro z e
          exact z.2.2.2 (k1.mp e)
theorem pivot_plain (h : ¬ ((∀ i j : Nat, i < n → j < n → fin (at4 n n n d i j)) ∧ fin ls ∧ neg ls = false ∧ mag ls ≠ 0)) : Ev (fun K => solve_Pivot.f K F n n n d b ls) ([], false, 6, F) := by
  refine pivot_j1 wd wb hn ul_ fun t ht => ?_
  cases t with
  | false => exact absurd (ht.mp rfl) h
  | true =>
    refine Ev.succ ?_
    simp only [solve_Pivot.j1]
    exact Ev.pos (by trivial) (Ev.now _)
theorem pivot_ok (fd : ∀ i j : Nat, i < n → j < n → fin (at4 n n n d i j)) (fl : fin ls) (nl : neg ls = false) (ml0 : mag ls ≠ 0) : ∃ ρ, Ev (fun K => solve_Pivot.f K F n n n d b ls) ρ ∧ Post n 0 ls d b (ids n) false F ρ := by
  have ml : mag ls = ls := by
    have u := ul_
    unfold neg at nl
    unfold mag U at *
    simp at nl
    omega
  have pl : 0 < ls := by have := (mag_lt (a := ls)).1; omega
  have hl := wb.1
  obtain ⟨ρ, ev, post⟩ := run hn ul_ fl pl ml n 0 (by omega) (by omega) d b (ids n) false F wd wb (ids_perm n) (fun i hi => by omega)
  refine ⟨ρ, pivot_j1 wd wb hn ul_ fun t ht => ?_, post⟩
  obtain rfl : t = false := ht.mpr ⟨fd, fl, nl, ml0⟩
  have cl := clone_ev (R := n) (C := n) (s := (n : Int)) (by omega) (by omega) (by omega) d
  have gd : gat n n (atN n n n d) = d := by
    refine List.ext_getElem (by rw [gat_length, wd.1]) fun x h1 h2 => ?_
    have hx : x < n * n := by rwa [gat_length] at h1
    have hC : 0 < n := by
      rcases Nat.eq_zero_or_pos n with h | h
      · subst h; simp at hx
      · exact h
    have hk : x % n < n := Nat.mod_lt _ hC
    have hi : x / n < n := by rw [Nat.div_lt_iff_lt_mul hC]; exact hx
    have e := at_dense wd.1 hi hk
    have e2 : x / n * n + x % n = x := Nat.div_add_mod' x n
    rw [e2, rd_lt h2] at e
    have r := rd_gat (g := atN n n n d) hi hk
    rw [e2, rd_lt h1] at r
    exact r.trans e
  rw [gd] at cl
  have loop : ∀ t i : Nat, n - i = t → i ≤ n → Ev (fun K => solve_Pivot.l0 K ls n b (idsTo n i) n i F n n n d) ρ := by
    intro t
    induction t with
    | zero =>
      intro i h1 h2
      obtain rfl : i = n := by omega
      refine Ev.succ ?_
      simp only [solve_Pivot.l0]
      rw [idsTo_full]
      exact Ev.neg (by omega) ev
    | succ t ih =>
      intro i h1 h2
      refine Ev.succ ?_
      simp only [solve_Pivot.l0]
      rw [wn (by omega), Int.toNat_natCast, idsTo_set (by omega)]
      exact Ev.pos (by omega) (Ev.pos (by omega) (Ev.pos (by simp [idsTo]; omega) (ih (i + 1) (by omega) (by omega))))
  refine Ev.succ ?_
  simp only [solve_Pivot.j1]
  refine Ev.neg (by simp) (Ev.bind cl (Ev.pos (by omega) (Ev.pos (by omega) (Ev.pos (by omega) ?_))))
  rw [Int.toNat_natCast, ← idsTo_zero]
  exact loop n 0 (by omega) (by omega)
end
end Gim
namespace Gim
open Go Go.RowKit Go.Proofs.YtikebaljjclbnaaDoorW.PrintWords Go.Proofs.YtikebaljjclbnaaDoorW.PrintLast Go.Proofs.YtikebaljjclbnaaDoorW.PrintMore Go.Proofs.YtikebaljjclbnaaDoor.F
set_option linter.unusedVariables false

theorem made12_l0 {n : Nat} (hn : n ≤ 100) {all : List Int} (ha : ∀ x ∈ all, U x) (hl : all.length ≤ 100) {from_ : Int} (f0 : 0 ≤ from_) (f1 : from_ ≤ 10) :
    ∀ t x : Nat, n * n - x = t → x ≤ n * n → ∀ d, Words (n * n) d → ∃ d', Words (n * n) d' ∧ Ev (fun K => gimballaw12_made.l0 K all from_ ((n * n : Nat) : Int) x n n n d) ((n : Int), (n : Int), (n : Int), d') := by
  have hRC : n * n ≤ 10000 := Nat.mul_le_mul hn hn
  intro t
  induction t with
  | zero =>
    intro x h1 h2 d hd
    obtain rfl : x = n * n := by omega
    refine ⟨d, hd, Ev.succ ?_⟩
    simp only [gimballaw12_made.l0]
    exact Ev.neg (by omega) (Ev.now _)
  | succ t ih =>
    intro x h1 h2 d hd
    have hlen := hd.1
    have ew : wrap64 ((x : Int) + 1) = ((x + 1 : Nat) : Int) := by rw [w64 (by omega) (by omega)]; rfl
    have a1 : (x : Int) < ((n * n : Nat) : Int) := by omega
    have a2 : (0 : Int) ≤ (x : Int) := by omega
    have a3 : (x : Int) < (d.length : Int) := by omega
    by_cases c : (all.length : Int) > 0
    · have a4 : ¬ (all.length : Int) = 0 := by omega
      have i0 : 0 ≤ Int.tmod (wrap64 ((x : Int) + from_)) (all.length : Int) := by
        rw [w64 (by omega) (by omega)]; exact Int.tmod_nonneg _ (by omega)
      have i1 : Int.tmod (wrap64 ((x : Int) + from_)) (all.length : Int) < (all.length : Int) := by
        rw [w64 (by omega) (by omega)]; exact Int.tmod_lt_of_pos _ c
      have hu := ha _ (rd_mem i0 i1)
      obtain ⟨d', hd', ev⟩ := ih (x + 1) (by omega) (by omega) (d.set (x : Int).toNat (rd all (Int.tmod (wrap64 ((x : Int) + from_)) (all.length : Int)))) (hd.set _ hu)
      refine ⟨d', hd', Ev.succ ?_⟩
      simp only [gimballaw12_made.l0]
      rw [ew]
      exact Ev.pos a1 (Ev.pos c (Ev.neg a4 (Ev.pos i0 (Ev.pos i1 (Ev.pos a2 (Ev.pos a3 ev))))))
    · obtain ⟨d', hd', ev⟩ := ih (x + 1) (by omega) (by omega) d hd
      refine ⟨d', hd', Ev.succ ?_⟩
      simp only [gimballaw12_made.l0]
      rw [ew]
      exact Ev.pos a1 (Ev.neg c ev)
theorem made12_ev {n : Nat} (hn : n ≤ 100) {all : List Int} (ha : ∀ x ∈ all, U x) (hl : all.length ≤ 100) {from_ : Int} (f0 : 0 ≤ from_) (f1 : from_ ≤ 10) :
    ∃ d, Words (n * n) d ∧ Ev (fun K => gimballaw12_made.f K n all from_) ((n : Int), (n : Int), (n : Int), d) := by
  obtain ⟨d, hd, ev⟩ := made12_l0 hn ha hl f0 f1 (n * n) 0 (by omega) (by omega) _ (Words.zeros _)
  refine ⟨d, hd, ?_⟩
  unfold gimballaw12_made.f
  refine Ev.call (new_eq (by omega) (by omega)) ?_
  dsimp only
  rw [List.length_replicate]
  exact ev
theorem Words.add {n : Nat} {d : List Int} (h : Words n d) {v : Int} (hv : U v) : Words (n + 1) (d ++ [v]) := by
  refine ⟨by rw [List.length_append, h.1]; rfl, fun x hx => ?_⟩
  rcases List.mem_append.mp hx with hx | hx
  · exact h.2 x hx
  · rw [List.mem_singleton.mp hx]; exact hv
theorem list12_l0 {n : Nat} (hn : n ≤ 100) {all : List Int} (ha : ∀ x ∈ all, U x) (hl : all.length ≤ 100) {from_ : Int} (f0 : 0 ≤ from_) (f1 : from_ ≤ 10) :
    ∀ t x : Nat, x + t = n → ∀ d, Words x d → ∃ d', Words n d' ∧ Ev (fun K => gimballaw12_list.l0 K n all from_ d x) d' := by
  intro t
  induction t with
  | zero =>
    intro x h1 d hd
    obtain rfl : x = n := by omega
    refine ⟨d, hd, Ev.succ ?_⟩
    simp only [gimballaw12_list.l0]
    exact Ev.neg (by omega) (Ev.now _)
  | succ t ih =>
    intro x h1 d hd
    have hlen := hd.1
    have ew : wrap64 ((x : Int) + 1) = ((x + 1 : Nat) : Int) := by rw [w64 (by omega) (by omega)]; rfl
    have a1 : (x : Int) < (n : Int) := by omega
    have a3 : d.length < 17592186044416 := by omega
    by_cases c : (all.length : Int) > 0
    · have a4 : ¬ (all.length : Int) = 0 := by omega
      have i0 : 0 ≤ Int.tmod (wrap64 ((x : Int) + from_)) (all.length : Int) := by
        rw [w64 (by omega) (by omega)]; exact Int.tmod_nonneg _ (by omega)
      have i1 : Int.tmod (wrap64 ((x : Int) + from_)) (all.length : Int) < (all.length : Int) := by
        rw [w64 (by omega) (by omega)]; exact Int.tmod_lt_of_pos _ c
      have hu := ha _ (rd_mem i0 i1)
      obtain ⟨d', hd', ev⟩ := ih (x + 1) (by omega) (d ++ [rd all (Int.tmod (wrap64 ((x : Int) + from_)) (all.length : Int))]) (hd.add hu)
      refine ⟨d', hd', Ev.succ ?_⟩
      simp only [gimballaw12_list.l0]
      rw [ew]
      exact Ev.pos a1 (Ev.pos c (Ev.neg a4 (Ev.pos i0 (Ev.pos i1 (Ev.pos a3 ev)))))
    · obtain ⟨d', hd', ev⟩ := ih (x + 1) (by omega) (d ++ [4607182418800017408]) (hd.add ⟨by decide, by decide⟩)
      refine ⟨d', hd', Ev.succ ?_⟩
      simp only [gimballaw12_list.l0]
      rw [ew]
      exact Ev.pos a1 (Ev.neg c (Ev.pos a3 ev))
theorem list12_ev {n : Nat} (hn : n ≤ 100) {all : List Int} (ha : ∀ x ∈ all, U x) (hl : all.length ≤ 100) {from_ : Int} (f0 : 0 ≤ from_) (f1 : from_ ≤ 10) :
    ∃ d, Words n d ∧ Ev (fun K => gimballaw12_list.f K n all from_) d := by
  obtain ⟨d, hd, ev⟩ := list12_l0 hn ha hl f0 f1 n 0 (by omega) [] ⟨rfl, fun x hx => by simp at hx⟩
  exact ⟨d, hd, ev⟩
end Gim
namespace Gim
set_option linter.unusedVariables false

/-- The whole number of a list of digits. -/
def nv : List Int → Int
  | [] => 0
  | d :: l => d + 4294967296 * nv l
def Dig (l : List Int) : Prop := ∀ x ∈ l, 0 ≤ x ∧ x < 4294967296
/-- 2^(32 n). -/
def bp (n : Nat) : Int := 4294967296 ^ n
theorem bp_zero : bp 0 = 1 := rfl
theorem bp_succ (n : Nat) : bp (n + 1) = 4294967296 * bp n := by unfold bp; rw [Int.pow_succ, Int.mul_comm]
theorem bp_pos (n : Nat) : 0 < bp n := by unfold bp; exact Int.pow_pos (by decide)
theorem bp_add (m n : Nat) : bp (m + n) = bp m * bp n := by unfold bp; exact Int.pow_add _ _ _
theorem bp_mono {m n : Nat} (h : m ≤ n) : bp m ≤ bp n := by
  obtain ⟨k, rfl⟩ : ∃ k, n = m + k := ⟨n - m, by omega⟩
  rw [bp_add]
  have h1 := bp_pos m
  have h2 := bp_pos k
  have := Int.mul_le_mul_of_nonneg_left (show 1 ≤ bp k by omega) (Int.le_of_lt h1)
  omega
theorem bp_pw (n : Nat) : ((bp n : Int) : Rat) = pw (32 * n) := by
  have : bp n = 2 ^ (32 * n) := by unfold bp; rw [Int.pow_mul]; rfl
  have e : ((32 * (n : Int)) : Int) = ((32 * n : Nat) : Int) := by omega
  rw [this, e, pw_nat]
theorem nv_cons (d : Int) (l : List Int) : nv (d :: l) = d + 4294967296 * nv l := rfl
theorem nv_append (l l' : List Int) : nv (l ++ l') = nv l + bp l.length * nv l' := by
  induction l with
  | nil => simp [nv, bp_zero]
  | cons d l ih =>
    rw [List.cons_append, nv_cons, nv_cons, ih, List.length_cons, bp_succ]
    grind
theorem nv_snoc (l : List Int) (d : Int) : nv (l ++ [d]) = nv l + bp l.length * d := by rw [nv_append]; simp [nv]
theorem nv_zeros (n : Nat) : nv (List.replicate n 0) = 0 := by
  induction n with
  | zero => rfl
  | succ n ih => rw [List.replicate_succ, nv_cons, ih]; rfl
theorem Dig.nil : Dig [] := by intro x hx; cases hx
theorem Dig.cons {d : Int} {l : List Int} (h : Dig (d :: l)) : (0 ≤ d ∧ d < 4294967296) ∧ Dig l := ⟨h d List.mem_cons_self, fun x hx => h x (List.mem_cons_of_mem _ hx)⟩
theorem Dig.mk {d : Int} {l : List Int} (h0 : 0 ≤ d) (h1 : d < 4294967296) (h : Dig l) : Dig (d :: l) := by
  intro x hx
  rcases List.mem_cons.mp hx with rfl | hx
  · exact ⟨h0, h1⟩
  · exact h x hx
theorem Dig.append {l l' : List Int} (h : Dig l) (h' : Dig l') : Dig (l ++ l') := by
  intro x hx
  rcases List.mem_append.mp hx with hx | hx
  · exact h x hx
  · exact h' x hx
theorem Dig.one {d : Int} (h0 : 0 ≤ d) (h1 : d < 4294967296) : Dig [d] := Dig.mk h0 h1 Dig.nil
theorem Dig.take {l : List Int} (h : Dig l) (n : Nat) : Dig (l.take n) := fun x hx => h x (List.mem_of_mem_take hx)
theorem Dig.drop {l : List Int} (h : Dig l) (n : Nat) : Dig (l.drop n) := fun x hx => h x (List.mem_of_mem_drop hx)
theorem Dig.zeros (n : Nat) : Dig (List.replicate n 0) := by
  intro x hx
  rw [(List.mem_replicate.mp hx).2]
  decide
theorem Dig.set {l : List Int} (h : Dig l) (i : Nat) {v : Int} (h0 : 0 ≤ v) (h1 : v < 4294967296) : Dig (l.set i v) := by
  intro x hx
  rcases List.mem_or_eq_of_mem_set hx with hx | hx
  · exact h x hx
  · rw [hx]; exact ⟨h0, h1⟩
theorem Dig.get {l : List Int} (h : Dig l) {i : Nat} (hi : i < l.length) : 0 ≤ l[i] ∧ l[i] < 4294967296 := h _ (List.getElem_mem hi)
theorem nv_bounds {l : List Int} (h : Dig l) : 0 ≤ nv l ∧ nv l < bp l.length := by
  induction l with
  | nil => exact ⟨Int.le_refl _, by rw [List.length_nil, bp_zero]; decide⟩
  | cons d l ih =>
    obtain ⟨⟨h0, h1⟩, h2⟩ := h.cons
    obtain ⟨a, b⟩ := ih h2
    rw [nv_cons, List.length_cons, bp_succ]
    omega
theorem nv_take_drop (l : List Int) (n : Nat) (h : n ≤ l.length) : nv l = nv (l.take n) + bp n * nv (l.drop n) := by
  have := nv_append (l.take n) (l.drop n)
  rwa [List.take_append_drop, List.length_take, Nat.min_eq_left h] at this
theorem nv_set {l : List Int} {i : Nat} (h : i < l.length) (v : Int) : nv (l.set i v) = nv l + bp i * (v - l[i]) := by
  induction l generalizing i with
  | nil => simp at h
  | cons d l ih =>
    cases i with
    | zero => simp [nv, bp_zero]; omega
    | succ i =>
      have hi : i < l.length := by simpa using h
      rw [List.set_cons_succ, nv_cons, nv_cons, ih hi, bp_succ]
      simp only [List.getElem_cons_succ]
      grind
theorem nv_take_succ {l : List Int} {i : Nat} (h : i < l.length) : nv (l.take (i + 1)) = nv (l.take i) + bp i * l[i] := by
  rw [List.take_succ_eq_append_getElem h, nv_snoc, List.length_take, Nat.min_eq_left (by omega)]
theorem nv_drop {l : List Int} {i : Nat} (h : i < l.length) : nv (l.drop i) = l[i] + 4294967296 * nv (l.drop (i + 1)) := by
  rw [List.drop_eq_getElem_cons h, nv_cons]
theorem nv_inj {l l' : List Int} (h : Dig l) (h' : Dig l') (hl : l.length = l'.length) (e : nv l = nv l') : l = l' := by
  induction l generalizing l' with
  | nil => cases l' with
    | nil => rfl
    | cons d l => simp at hl
  | cons d l ih =>
    cases l' with
    | nil => simp at hl
    | cons d' l' =>
      obtain ⟨⟨a, b⟩, c⟩ := h.cons
      obtain ⟨⟨a', b'⟩, c'⟩ := h'.cons
      rw [nv_cons, nv_cons] at e
      have e1 : d = d' := by omega
      subst e1
      rw [ih c c' (by simpa using hl) (by omega)]
/-- Nothing but the number: no nought on top. -/
def Top (l : List Int) : Prop := l ≠ [] → bp (l.length - 1) ≤ nv l
theorem Top.length_le {l : List Int} (h : Top l) {n : Nat} (hn : nv l < bp n) : l.length ≤ n := by
  by_cases he : l = []
  · subst he; simp
  · have h1 := h he
    refine Decidable.byContradiction fun hc => ?_
    have := bp_mono (show n ≤ l.length - 1 by omega)
    omega
theorem Top.inj {l l' : List Int} (h : Dig l) (h' : Dig l') (t : Top l) (t' : Top l') (e : nv l = nv l') : l = l' := by
  have b := nv_bounds h
  have b' := nv_bounds h'
  have h1 := t.length_le (n := l'.length) (by omega)
  have h2 := t'.length_le (n := l.length) (by omega)
  exact nv_inj h h' (by omega) e
theorem Top.of_last {l : List Int} (h : Dig l) (hl : 0 < l.length) (hz : l[l.length - 1]'(by omega) ≠ 0) : Top l := by
  intro _
  have h1 := nv_take_succ (l := l) (i := l.length - 1) (by omega)
  rw [show l.length - 1 + 1 = l.length by omega, List.take_length] at h1
  have h2 := (nv_bounds (h.take (l.length - 1))).1
  have h3 := h.get (i := l.length - 1) (by omega)
  have h4 := bp_pos (l.length - 1)
  have : bp (l.length - 1) * 1 ≤ bp (l.length - 1) * l[l.length - 1] := Int.mul_le_mul_of_nonneg_left (by omega) (by omega)
  omega
theorem nv_pos {l : List Int} (t : Top l) (he : l ≠ []) : 0 < nv l := by
  have := t he
  have := bp_pos (l.length - 1)
  omega
/-- A nought on top may go. -/
theorem nv_last_zero {l : List Int} (hl : 0 < l.length) (hz : l[l.length - 1]'(by omega) = 0) : nv (l.take (l.length - 1)) = nv l := by
  have h1 := nv_take_succ (l := l) (i := l.length - 1) (by omega)
  rw [show l.length - 1 + 1 = l.length by omega, List.take_length, hz] at h1
  omega
/-- A number's digits, divided by P, where P times Q is 2^32. -/
def dn (P Q : Int) : List Int → List Int
  | [] => []
  | a :: l => (a / P + (l.headD 0 % P) * Q) :: dn P Q l
theorem dn_length (P Q : Int) (l : List Int) : (dn P Q l).length = l.length := by
  induction l with
  | nil => rfl
  | cons a l ih => simp [dn, ih]
theorem dn_nv {P Q : Int} (hP : 0 < P) (hPQ : P * Q = 4294967296) (l : List Int) : nv (dn P Q l) * P + l.headD 0 % P = nv l := by
  induction l with
  | nil => simp [dn, nv]
  | cons a l ih =>
    have h1 := Int.emod_add_mul_ediv a P
    simp only [dn, nv_cons, List.headD_cons]
    rw [← ih]
    grind
theorem dn_get {P Q : Int} {l : List Int} {i : Nat} (h : i < l.length) : (dn P Q l)[i]'(by rw [dn_length]; exact h) = l[i] / P + (if h2 : i + 1 < l.length then l[i + 1] % P else 0) * Q := by
  induction l generalizing i with
  | nil => simp at h
  | cons a l ih =>
    cases i with
    | zero =>
      cases l with
      | nil => simp [dn]
      | cons b l => simp [dn]
    | succ i =>
      have hi : i < l.length := by simpa using h
      simp only [dn, List.getElem_cons_succ, ih hi]
      by_cases h2 : i + 1 < l.length
      · rw [dif_pos h2, dif_pos (by simpa using h2)]
      · rw [dif_neg h2, dif_neg (by simpa using h2)]
theorem dn_dig {P Q : Int} (hP : 0 < P) (hQ : 0 < Q) (hPQ : P * Q = 4294967296) {l : List Int} (h : Dig l) : Dig (dn P Q l) := by
  induction l with
  | nil => exact Dig.nil
  | cons a l ih =>
    obtain ⟨⟨h0, h1⟩, h2⟩ := h.cons
    have d0 := Int.ediv_nonneg h0 (Int.le_of_lt hP)
    have d1 : a / P < Q := Int.ediv_lt_of_lt_mul hP (by rw [Int.mul_comm]; omega)
    have r0 := Int.emod_nonneg (l.headD 0) (show P ≠ 0 by omega)
    have r1 := Int.emod_lt_of_pos (l.headD 0) hP
    have m0 := Int.mul_nonneg r0 (Int.le_of_lt hQ)
    have m1 : (l.headD 0 % P) * Q ≤ (P - 1) * Q := Int.mul_le_mul_of_nonneg_right (by omega) (Int.le_of_lt hQ)
    have m2 : (P - 1) * Q = 4294967296 - Q := by grind
    exact Dig.mk (by omega) (by omega) (ih h2)
/-- Of a list the first i stand, the others are noughts. -/
def stp (L : List Int) (i : Nat) : List Int := L.take i ++ List.replicate (L.length - i) 0
theorem stp_length {L : List Int} {i : Nat} (h : i ≤ L.length) : (stp L i).length = L.length := by simp [stp]; omega
theorem stp_zero (L : List Int) : stp L 0 = List.replicate L.length 0 := by simp [stp]
theorem stp_full (L : List Int) : stp L L.length = L := by simp [stp]
theorem stp_set {L : List Int} {i : Nat} (h : i < L.length) : (stp L i).set i L[i] = stp L (i + 1) := by
  apply List.ext_getElem
  · rw [List.length_set, stp_length (by omega), stp_length (by omega)]
  · intro x h1 h2
    have hx : x < L.length := by rw [stp_length (by omega)] at h2; exact h2
    have get : ∀ j, (hj : j ≤ L.length) → ∀ hh : x < (stp L j).length, (stp L j)[x] = if x < j then L[x] else 0 := by
      intro j hj hh
      simp only [stp]
      by_cases c : x < j
      · rw [if_pos c, List.getElem_append_left (by simp; omega)]
        simp
      · rw [if_neg c, List.getElem_append_right (by simp; omega)]
        simp
    rw [List.getElem_set, get (i + 1) (by omega) h2]
    by_cases e : i = x
    · subst e
      rw [if_pos rfl, if_pos (by omega)]
    · rw [if_neg e, get i (by omega) _]
      by_cases c : x < i
      · rw [if_pos c, if_pos (by omega)]
      · rw [if_neg c, if_neg (by omega)]
end Gim
namespace Gim
open Go Go.RowKit Go.Proofs.YtikebaljjclbnaaDoorW.PrintWords Go.Proofs.YtikebaljjclbnaaDoorW.PrintLast Go.Proofs.YtikebaljjclbnaaDoorW.PrintMore Go.Proofs.YtikebaljjclbnaaDoor.F
set_option linter.unusedVariables false

theorem wu32_mod (x : Int) : IntKind.u32.wrap x = x % 4294967296 := by simp [IntKind.wrap, IntKind.bits, IntKind.signed]
theorem wraps_u32 (n : Int) (h₀ : 0 ≤ n) (h₁ : n < 2 ^ 32) : IntKind.u32.wrap n = n := by
  rw [wu32_mod]; have : n < 4294967296 := by simpa using h₁
  omega
theorem u32_or (i : Nat) {x y : Int} (hx₀ : 0 ≤ x) (hx : x % 2 ^ i = 0) (hx₁ : x < 4294967296) (hy₀ : 0 ≤ y) (hy : y < 2 ^ i) (hy₁ : y < 4294967296) : bits .or .u32 x y = x + y :=
  bits_join .u32 32 (by decide) wraps_u32 i x y hx₀ hx (by simpa using hx₁) hy₀ hy (by simpa using hy₁)
theorem shl_u32 {x n : Int} (hn : 0 ≤ n) (hn' : n ≤ 32) : shl .u32 x n = x * p2 n % 4294967296 := by
  unfold shl p2
  rw [wu32_mod, Nat.min_eq_left (by show n.toNat ≤ 32; omega)]
theorem shr_u32 {x n : Int} (hn : 0 ≤ n) (hn' : n ≤ 32) : shr .u32 x n = x / p2 n := by
  unfold shr p2
  rw [Nat.min_eq_left (by show n.toNat ≤ 32; omega)]
theorem p2_32 : p2 32 = 4294967296 := by decide
theorem p2_split {s : Int} (h0 : 0 ≤ s) (h1 : s ≤ 32) : p2 s * p2 (32 - s) = 4294967296 := by
  rw [← p2_add h0 (by omega), show s + (32 - s) = 32 by omega, p2_32]
theorem rd_nat {l : List Int} {i : Nat} (h : i < l.length) : rd l (i : Int) = l[i] := by
  unfold rd; simp [List.getD_eq_getElem?_getD, h]
theorem rd_zero {l : List Int} (h : 0 < l.length) : rd l 0 = l[0] := rd_nat (i := 0) h
theorem p2_mod {s : Int} (h0 : 0 ≤ s) (x : Int) : (x * p2 s) % 2 ^ s.toNat = 0 := Int.mul_emod_left _ _

section
variable {m : List Int} {s : Int} (hm : Dig m) (h0 : 0 < s) (h1 : s < 32) (hl : m.length ≤ 1000000)
include hm h0 h1 hl
theorem down_l0 : ∀ n i : Nat, m.length - i = n → i ≤ m.length → ∀ r, Ev (fun K => dyad_down.l0 K m s (dn (p2 s) (p2 (32 - s)) m) m.length m.length) r →
    Ev (fun K => dyad_down.l0 K m s (stp (dn (p2 s) (p2 (32 - s)) m) i) m.length i) r := by
  intro n
  induction n with
  | zero =>
    intro i e1 e2 r hr
    obtain rfl : i = m.length := by omega
    have := stp_full (dn (p2 s) (p2 (32 - s)) m)
    rw [dn_length] at this
    rw [this]; exact hr
  | succ n ih =>
    intro i e1 e2 r hr
    have hi : i < m.length := by omega
    have hP := p2_pos s
    have hQ := p2_pos (32 - s)
    have hPQ := p2_split (s := s) (by omega) (by omega)
    have hD := dn_length (p2 s) (p2 (32 - s)) m
    have sl : (stp (dn (p2 s) (p2 (32 - s)) m) i).length = m.length := by rw [stp_length (by omega), hD]
    have hg := dn_get (P := p2 s) (Q := p2 (32 - s)) hi
    have hset := stp_set (L := dn (p2 s) (p2 (32 - s)) m) (i := i) (by omega)
    have hrec := ih (i + 1) (by omega) (by omega) r hr
    have hd := hm.get hi
    refine Ev.succ ?_
    simp only [dyad_down.l0]
    refine Ev.pos (by omega) (Ev.pos (by omega) (Ev.pos (by omega) (Ev.pos (by omega) (Ev.pos (by omega) ?_))))
    rw [rd_nat hi, shr_u32 (by omega) (by omega), Int.toNat_natCast, w64 (x := (i : Int) + 1) (by omega) (by omega)]
    by_cases h2 : i + 1 < m.length
    · refine Ev.pos (by omega) (Ev.pos (by omega) ?_)
      rw [w64 (x := 32 - s) (by omega) (by omega)]
      refine Ev.pos (by omega) ?_
      have hd2 := hm.get h2
      have e3 : rd m ((i : Int) + 1) = m[i + 1] := rd_nat (i := i + 1) h2
      have e4 : rd ((stp (dn (p2 s) (p2 (32 - s)) m) i).set i (m[i] / p2 s)) (i : Int) = m[i] / p2 s := by
        rw [rd_nat (by rw [List.length_set]; omega)]; simp
      have e5 : m[i + 1] * p2 (32 - s) % 4294967296 = (m[i + 1] % p2 s) * p2 (32 - s) := by
        rw [← hPQ, Int.mul_comm m[i + 1], Int.mul_comm (p2 s), Int.mul_emod_mul_of_pos _ _ hQ, Int.mul_comm]
      have d0 := Int.ediv_nonneg hd.1 (Int.le_of_lt hP)
      have d1 : m[i] / p2 s < p2 (32 - s) := Int.ediv_lt_of_lt_mul hP (by rw [Int.mul_comm]; omega)
      have r0 := Int.emod_nonneg m[i + 1] (show p2 s ≠ 0 by omega)
      have r1 := Int.emod_lt_of_pos m[i + 1] hP
      have m0 := Int.mul_nonneg r0 (Int.le_of_lt hQ)
      have m1 : (m[i + 1] % p2 s) * p2 (32 - s) ≤ (p2 s - 1) * p2 (32 - s) := Int.mul_le_mul_of_nonneg_right (by omega) (Int.le_of_lt hQ)
      have m2 : (p2 s - 1) * p2 (32 - s) = 4294967296 - p2 (32 - s) := by grind
      rw [e3, e4, shl_u32 (by omega) (by omega), e5, bits_or_comm, u32_or (32 - s).toNat m0 (p2_mod (by omega) _) (by omega) d0 d1 (by omega), List.set_set]
      rw [dif_pos h2] at hg
      rw [Int.add_comm, ← hg, hset]
      exact hrec
    · refine Ev.neg (by omega) ?_
      rw [dif_neg h2, Int.zero_mul, Int.add_zero] at hg
      rw [← hg, hset]
      exact hrec
/-- Down: a number divided by 2^s, which divides it. -/
theorem down_ev (hT : Top m) (hne : m ≠ []) (hd : nv m % p2 s = 0) : ∃ r, Ev (fun K => dyad_down.f K m s) r ∧ Dig r ∧ Top r ∧ nv r * p2 s = nv m ∧ r.length ≤ m.length ∧ r ≠ [] := by
  have hP := p2_pos s
  have hQ := p2_pos (32 - s)
  have hPQ := p2_split (s := s) (by omega) (by omega)
  have hD := dn_length (p2 s) (p2 (32 - s)) m
  have hpos := nv_pos hT hne
  have hlen : 0 < m.length := List.length_pos_iff.mpr hne
  have hdd := dn_dig hP hQ hPQ hm
  have hv : nv (dn (p2 s) (p2 (32 - s)) m) * p2 s = nv m := by
    have h2 := dn_nv hP hPQ m
    have h3 : m.headD 0 % p2 s = 0 := by
      rw [← h2, Int.add_emod, Int.mul_emod_left, Int.zero_add, Int.emod_emod_of_dvd _ (Int.dvd_refl _), Int.emod_emod_of_dvd _ (Int.dvd_refl _)] at hd
      exact hd
    omega
  have hvpos : 0 < nv (dn (p2 s) (p2 (32 - s)) m) := by
    refine Decidable.byContradiction fun hc => ?_
    have := Int.mul_le_mul_of_nonneg_right (show nv (dn (p2 s) (p2 (32 - s)) m) ≤ 0 by omega) (Int.le_of_lt hP)
    omega
  have start : ∀ r, Ev (fun K => dyad_down.l0 K m s (dn (p2 s) (p2 (32 - s)) m) m.length m.length) r → Ev (fun K => dyad_down.f K m s) r := by
    intro r hr
    unfold dyad_down.f
    have p1 : (m.length : Int) ≤ 70368744177664 := by omega
    refine Ev.pos (Int.natCast_nonneg _) (Ev.pos p1 ?_)
    have := down_l0 hm h0 h1 hl m.length 0 (by omega) (by omega) r hr
    rw [stp_zero, hD] at this
    rw [Int.toNat_natCast]
    exact this
  generalize hL : dn (p2 s) (p2 (32 - s)) m = L at *
  by_cases hz : L[L.length - 1]'(by omega) = 0
  · refine ⟨L.take (L.length - 1), start _ (Ev.succ ?_), hdd.take _, ?_, ?_, ?_, ?_⟩
    · simp only [dyad_down.l0]
      refine Ev.neg (by omega) (Ev.pos (by omega) ?_)
      rw [w64 (by omega) (by omega)]
      have e : ((L.length : Int) - 1) = ((L.length - 1 : Nat) : Int) := by omega
      rw [e]
      refine Ev.pos (by omega) (Ev.pos (by omega) (Ev.pos (by rw [rd_nat (by omega)]; exact hz) (Ev.pos (by omega) (Ev.pos (by omega) ?_))))
      rw [Int.toNat_natCast]
      exact Ev.now _
    · intro hne2
      have e2 := nv_last_zero (l := L) (by omega) hz
      have h3 := hT hne
      rw [List.length_take, Nat.min_eq_left (by omega), e2]
      have hn2 : 2 ≤ m.length := by
        refine Decidable.byContradiction fun hc => ?_
        apply hne2
        rw [show L.length - 1 = 0 by omega, List.take_zero]
      have h4 : bp (m.length - 1) = 4294967296 * bp (m.length - 2) := by rw [← bp_succ, show m.length - 2 + 1 = m.length - 1 by omega]
      have h5 := bp_pos (m.length - 2)
      rw [show L.length - 1 - 1 = m.length - 2 by omega]
      refine Decidable.byContradiction fun hc => ?_
      have h6 := Int.mul_le_mul_of_nonneg_right (show nv L ≤ bp (m.length - 2) - 1 by omega) (Int.le_of_lt hP)
      have h7 : p2 s ≤ 4294967296 := by rw [← p2_32]; exact p2_le (by omega)
      have h8 := Int.mul_le_mul_of_nonneg_left h7 (Int.le_of_lt h5)
      have h9 : (bp (m.length - 2) - 1) * p2 s = bp (m.length - 2) * p2 s - p2 s := by grind
      omega
    · rw [nv_last_zero (by omega) hz]; exact hv
    · rw [List.length_take]; omega
    · intro hh
      have := nv_last_zero (l := L) (by omega) hz
      rw [hh] at this
      simp [nv] at this
      omega
  · refine ⟨L, start _ (Ev.succ ?_), hdd, Top.of_last hdd (by omega) hz, hv, by omega, fun hh => by rw [hh] at hvpos; simp [nv] at hvpos⟩
    simp only [dyad_down.l0]
    refine Ev.neg (by omega) (Ev.pos (by omega) ?_)
    rw [w64 (by omega) (by omega)]
    have e : ((L.length : Int) - 1) = ((L.length - 1 : Nat) : Int) := by omega
    rw [e]
    exact Ev.pos (by omega) (Ev.pos (by omega) (Ev.neg (by rw [rd_nat (by omega)]; exact hz) (Ev.now _)))
end

/-- A number in its only form: nought, or odd digits with no nought on top. -/
def Can (neg : Bool) (m : List Int) (e : Int) : Prop := Dig m ∧ Top m ∧ ((m = [] ∧ neg = false ∧ e = 0) ∨ (m ≠ [] ∧ nv m % 2 = 1))
/-- What it stands for. -/
def nval (neg : Bool) (m : List Int) (e : Int) : Rat := if neg then -((nv m : Rat) * pw e) else (nv m : Rat) * pw e
theorem ctz_spec {x : Int} (h0 : 0 < x) (h1 : x < 4294967296) : ∃ s : Nat, bits_TrailingZeros32.f x = some (s : Int) ∧ s < 32 ∧ ∃ q, x = p2 s * (2 * q + 1) := by
  obtain ⟨a, rfl⟩ := Int.eq_ofNat_of_zero_le (Int.le_of_lt h0)
  have ha : a ≠ 0 := by omega
  obtain ⟨q, e, hs⟩ := Lib.ctzFrom_spec 32 a (by omega) (by omega)
  refine ⟨Lib.ctzFrom 32 a, ?_, hs, (q : Int), ?_⟩
  · have ha2 : a < 4294967296 := by omega
    obtain ⟨hlow, hk⟩ := Lib.lowest_bit 32 a ha ha2
    obtain ⟨hi, htab⟩ := Lib.deBruijn32_at _ hk
    have key := Go.Proofs.tz32_key a (2 ^ Lib.ctz 32 a) ha2 ha hlow
    have hc : Lib.ctz 32 a = Lib.ctzFrom 32 a := by unfold Lib.ctz; rw [if_neg ha]
    rw [hc] at key hi htab hk
    clear hlow hc
    obtain ⟨idx, hidx⟩ : ∃ i, i = 2 ^ Lib.ctzFrom 32 a * 125613361 % 4294967296 / 134217728 := ⟨_, rfl⟩
    rw [← hidx] at key hi htab
    clear hidx
    obtain ⟨c, hcc⟩ : ∃ c, c = Lib.ctzFrom 32 a := ⟨_, rfl⟩
    rw [← hcc] at htab ⊢
    have hl : idx < Lib.deBruijn32tab.length := hi
    have hv : rd tab32 (idx : Int) = ((c : Nat) : Int) := by
      have e : tab32 = Lib.deBruijn32tab.map Int.ofNat := rfl
      unfold rd
      rw [List.getD_eq_getElem?_getD, List.getElem?_eq_getElem hl] at htab
      rw [e, Int.toNat_natCast, List.getD_eq_getElem?_getD, List.getElem?_map, List.getElem?_eq_getElem hl]
      exact congrArg Int.ofNat htab
    have i0 : (0 : Int) ≤ (idx : Int) := Int.natCast_nonneg _
    have i1 : (idx : Int) < 32 := by omega
    unfold bits_TrailingZeros32.f
    rw [if_neg (by omega), key, if_pos i0, if_pos i1, hv, w64 (by omega) (by omega)]
  · have : ((a : Nat) : Int) = ((2 ^ Lib.ctzFrom 32 a * (2 * q + 1) : Nat) : Int) := congrArg _ e
    rw [this]
    unfold p2
    push_cast
    rw [Int.toNat_natCast]
theorem nv_head_mod {l : List Int} (h : 0 < l.length) : ∃ q, nv l = l[0] + 4294967296 * q := by
  cases l with
  | nil => simp at h
  | cons a l => exact ⟨nv l, rfl⟩

section
variable {neg : Bool} {l : List Int} {e : Int} (hl : Dig l) (hn : l.length ≤ 1000000) (he0 : -1000000000 ≤ e) (he1 : e ≤ 1000000000)
include hl hn he0 he1
theorem trim_l1 (ht : Top l) (hne : l ≠ []) : ∀ n k : Nat, l.length - k = n → k < l.length → nv (l.take k) = 0 →
    ∃ n' m' e', Ev (fun K => dyad_trim.l1 K neg l e k) (n', m', e') ∧ Can n' m' e' ∧ nval n' m' e' = nval neg l e := by
  intro n
  induction n with
  | zero => intro k e1 e2; omega
  | succ n ih =>
    intro k e1 e2 hz
    by_cases h0 : l[k] = 0
    · have hk2 : k + 1 < l.length := by
        refine Decidable.byContradiction fun hc => ?_
        have h1 := nv_take_succ e2
        rw [h0, hz, show k + 1 = l.length by omega, List.take_length] at h1
        have := nv_pos ht hne
        omega
      obtain ⟨n', m', e', ev, c, v⟩ := ih (k + 1) (by omega) hk2 (by rw [nv_take_succ e2, h0, hz]; simp)
      refine ⟨n', m', e', Ev.succ ?_, c, v⟩
      simp only [dyad_trim.l1]
      refine Ev.pos (by omega) (Ev.pos (by omega) (Ev.pos (by rw [rd_nat e2]; exact h0) ?_))
      rw [w64 (by omega) (by omega)]
      exact ev
    · have hd := hl.get e2
      obtain ⟨s, hs, hs32, q, hq⟩ := ctz_spec (x := l[k]) (by omega) hd.2
      have hY : Dig (l.drop k) := hl.drop k
      have hYl : (l.drop k).length = l.length - k := List.length_drop
      have hY0 : (l.drop k)[0]'(by omega) = l[k] := by simp
      have hYne : l.drop k ≠ [] := List.length_pos_iff.mp (by omega)
      have hsplit := nv_take_drop l k (by omega)
      rw [hz, Int.zero_add] at hsplit
      have hbk := bp_pos k
      have hYt : Top (l.drop k) := by
        intro _
        have h1 := ht hne
        rw [hYl]
        have h2 : bp (l.length - 1) = bp k * bp (l.length - k - 1) := by rw [← bp_add, show k + (l.length - k - 1) = l.length - 1 by omega]
        rw [h2, hsplit] at h1
        exact Int.le_of_mul_le_mul_left h1 hbk
      obtain ⟨t, hq2⟩ := nv_head_mod (l := l.drop k) (by omega)
      rw [hY0] at hq2
      have hval : ∀ (r : List Int) (x : Int), nv r * p2 s = nv (l.drop k) → (x = e + 32 * k + s) → nval neg r x = nval neg l e := by
        intro r x h1 h2
        have h3 : (nv r : Rat) * pw x = (nv l : Rat) * pw e := by
          rw [hsplit, ← h1, h2, pw_add, pw_add, ← bp_pw, pw_p2 (a := (s : Int)) (by omega)]
          push_cast
          grind
        unfold nval
        rw [h3]
      have step : ∀ ρ : Bool × List Int × Int, Ev (fun K => if (s : Int) > 0 then (dyad_down.f K (l.drop k) (s : Int)).bind (fun t130 => some (neg, t130, wrap64 (wrap64 (e + wrap64 (32 * (k : Int))) + (s : Int)))) else some (neg, l.drop k, wrap64 (e + wrap64 (32 * (k : Int))))) ρ →
          Ev (fun K => dyad_trim.l1 K neg l e k) ρ := by
        intro ρ h
        refine Ev.succ ?_
        simp only [dyad_trim.l1]
        refine Ev.pos (by omega) (Ev.pos (by omega) (Ev.neg (by rw [rd_nat e2]; exact h0) (Ev.pos (by omega) ?_)))
        rw [Int.toNat_natCast]
        refine Ev.pos (by omega) ?_
        rw [rd_zero (by omega), hY0]
        exact Ev.call hs h
      have w1 : wrap64 (e + wrap64 (32 * (k : Int))) = e + 32 * k := by rw [w64 (x := 32 * (k : Int)) (by omega) (by omega), w64 (by omega) (by omega)]
      by_cases hs0 : s = 0
      · subst hs0
        have hp0 : p2 ((0 : Nat) : Int) = 1 := p2_0
        rw [hp0, Int.one_mul] at hq
        refine ⟨neg, l.drop k, e + 32 * k, step _ (Ev.neg (by omega) ?_), ⟨hY, hYt, .inr ⟨hYne, by rw [hq2, hq]; omega⟩⟩, hval _ _ (by rw [hp0, Int.mul_one]) (by omega)⟩
        rw [w1]
        exact Ev.now _
      · have hdiv : nv (l.drop k) % p2 s = 0 := by
          have h32 : (4294967296 : Int) = p2 s * p2 (32 - s) := (p2_split (by omega) (by omega)).symm
          rw [hq2, hq, h32, Int.mul_assoc, ← Int.mul_add]
          exact Int.mul_emod_right _ _
        obtain ⟨r, ev, rd_, rt, rv, rl, rne⟩ := down_ev (m := l.drop k) (s := (s : Int)) hY (by omega) (by omega) (by omega) hYt hYne hdiv
        refine ⟨neg, r, e + 32 * k + s, step _ (Ev.pos (by omega) (Ev.bind ev ?_)), ⟨rd_, rt, .inr ⟨rne, ?_⟩⟩, hval _ _ rv rfl⟩
        · rw [w1, w64 (by omega) (by omega)]
          exact Ev.now _
        · have hP := p2_pos s
          have h32 : (4294967296 : Int) = p2 s * (2 * p2 (32 - s - 1)) := by
            rw [← p2_split (s := (s : Int)) (by omega) (by omega), ← p2_succ (by omega), show (32 : Int) - s - 1 + 1 = 32 - s by omega]
          have h4 : nv r = 2 * q + 1 + 2 * (p2 (32 - s - 1) * t) := by
            have h5 : nv r * p2 s = (2 * q + 1 + 2 * (p2 (32 - s - 1) * t)) * p2 s := by
              rw [rv, hq2, hq, h32]; grind
            exact Int.eq_of_mul_eq_mul_right (by omega) h5
          omega
/-- Trim: the only form of a number. -/
theorem trim_ev : ∃ n' m' e', Ev (fun K => dyad_trim.f K neg l e) (n', m', e') ∧ Can n' m' e' ∧ nval n' m' e' = nval neg l e := by
  have key : ∀ n k : Nat, k = n → k ≤ l.length → nv (l.take k) = nv l → ∃ n' m' e', Ev (fun K => dyad_trim.l0 K neg l e k) (n', m', e') ∧ Can n' m' e' ∧ nval n' m' e' = nval neg l e := by
    intro n
    induction n with
    | zero =>
      intro k e1 e2 hv
      subst e1
      refine ⟨false, [], 0, Ev.succ ?_, ⟨Dig.nil, fun h => absurd rfl h, .inl ⟨rfl, rfl, rfl⟩⟩, ?_⟩
      · simp only [dyad_trim.l0]
        refine Ev.neg (by omega) (Ev.succ ?_)
        simp only [dyad_trim.j1]
        exact Ev.pos (by omega) (Ev.pos (by omega) (Ev.pos (by omega) (Ev.now _)))
      · have h0 : nv l = 0 := by rw [← hv]; simp [nv]
        unfold nval
        rw [h0]
        cases neg <;> simp [nv]
    | succ n ih =>
      intro k e1 e2 hv
      subst e1
      have hi : n < l.length := by omega
      by_cases h0 : l[n] = 0
      · obtain ⟨n', m', e', ev, c, v⟩ := ih n rfl (by omega) (by rw [← hv, nv_take_succ hi, h0]; simp)
        refine ⟨n', m', e', Ev.succ ?_, c, v⟩
        simp only [dyad_trim.l0]
        refine Ev.pos (by omega) ?_
        have e : wrap64 (((n + 1 : Nat) : Int) - 1) = (n : Int) := by rw [w64 (by omega) (by omega)]; omega
        rw [e]
        exact Ev.pos (by omega) (Ev.pos (by omega) (Ev.pos (by rw [rd_nat hi]; exact h0) ev))
      · have hlt : (l.take (n + 1)).length = n + 1 := by rw [List.length_take]; omega
        have hlast : (l.take (n + 1))[(l.take (n + 1)).length - 1]'(by omega) = l[n] := by
          rw [List.getElem_take]; congr 1; omega
        have hT : Top (l.take (n + 1)) := Top.of_last (hl.take _) (by omega) (by rw [hlast]; exact h0)
        obtain ⟨n', m', e', ev, c, v⟩ := trim_l1 (neg := neg) (l := l.take (n + 1)) (e := e) (hl.take _) (by omega) he0 he1 hT (List.length_pos_iff.mp (by omega)) (n + 1) 0 (by omega) (by omega) (by simp [nv])
        refine ⟨n', m', e', Ev.succ ?_, c, ?_⟩
        · simp only [dyad_trim.l0]
          refine Ev.pos (by omega) ?_
          have e : wrap64 (((n + 1 : Nat) : Int) - 1) = (n : Int) := by rw [w64 (by omega) (by omega)]; omega
          rw [e]
          refine Ev.pos (by omega) (Ev.pos (by omega) (Ev.neg (by rw [rd_nat hi]; exact h0) (Ev.succ ?_)))
          simp only [dyad_trim.j1]
          refine Ev.pos (by omega) (Ev.pos (by omega) (Ev.neg (by omega) ?_))
          rw [Int.toNat_natCast]
          exact ev
        · rw [v]; unfold nval; rw [hv]
  have := key l.length l.length rfl (Nat.le_refl _) (by rw [List.take_length])
  unfold dyad_trim.f
  exact this
end

theorem bp_p2 (n : Nat) : bp n = p2 (32 * n) := by
  have e : (32 * (n : Int)).toNat = 32 * n := by omega
  unfold bp p2
  rw [e, Int.pow_mul]; rfl
section
variable {m : List Int} (hm : Dig m) (hl : m.length ≤ 1000000) {q : Nat} {s : Int} (hq : q ≤ 1000000) (s0 : 0 ≤ s) (s1 : s < 32)
include hm hl hq s0 s1
theorem up_l0 : ∀ n i : Nat, m.length - i = n → i ≤ m.length → ∀ (out : List Int) (c : Int), Dig out → out.length = q + i → 0 ≤ c → c < p2 s →
    nv out + bp (q + i) * c = bp q * (p2 s * nv (m.take i)) →
    ∃ r, Ev (fun K => dyad_up.l0 K out s c m m.length i) r ∧ Dig r ∧ r.length = q + m.length + 1 ∧ nv r = bp q * (p2 s * nv m) := by
  intro n
  induction n with
  | zero =>
    intro i e1 e2 out c hd hlen c0 c1 hv
    obtain rfl : i = m.length := by omega
    have hp32 : p2 s ≤ 4294967296 := by rw [← p2_32]; exact p2_le (by omega)
    refine ⟨out ++ [c], Ev.succ ?_, hd.append (Dig.one c0 (by omega)), by simp [hlen] <;> omega, ?_⟩
    · simp only [dyad_up.l0]
      have p1 : out.length < 35184372088832 := Nat.lt_of_le_of_lt (show out.length ≤ 2000000 by omega) (by decide)
      exact Ev.neg (by omega) (Ev.pos p1 (Ev.now _))
    · rw [nv_snoc, hlen, hv, List.take_length]
  | succ n ih =>
    intro i e1 e2 out c hd hlen c0 c1 hv
    have hi : i < m.length := by omega
    have hP := p2_pos s
    have hQ := p2_pos (32 - s)
    have hPQ := p2_split (s := s) (by omega) (by omega)
    have hx := hm.get hi
    have hp32 : p2 s ≤ 4294967296 := by rw [← p2_32]; exact p2_le (by omega)
    have d0 := Int.ediv_nonneg hx.1 (Int.le_of_lt hQ)
    have d1 : m[i] / p2 (32 - s) < p2 s := Int.ediv_lt_of_lt_mul hQ (by omega)
    have e5 : m[i] * p2 s % 4294967296 = (m[i] % p2 (32 - s)) * p2 s := by
      rw [← hPQ, Int.mul_comm m[i], Int.mul_emod_mul_of_pos _ _ hP, Int.mul_comm]
    have hdm := Int.emod_add_mul_ediv m[i] (p2 (32 - s))
    have r0 := Int.emod_nonneg m[i] (show p2 (32 - s) ≠ 0 by omega)
    have r1 := Int.emod_lt_of_pos m[i] hQ
    have m0 := Int.mul_nonneg r0 (Int.le_of_lt hP)
    have m1 : (m[i] % p2 (32 - s)) * p2 s ≤ (p2 (32 - s) - 1) * p2 s := Int.mul_le_mul_of_nonneg_right (by omega) (Int.le_of_lt hP)
    have m2 : (p2 (32 - s) - 1) * p2 s = 4294967296 - p2 s := by grind
    obtain ⟨r, ev, rd_, rl, rv⟩ := ih (i + 1) (by omega) (by omega) (out ++ [(m[i] % p2 (32 - s)) * p2 s + c]) (m[i] / p2 (32 - s)) (hd.append (Dig.one (by omega) (by omega))) (by simp [hlen] <;> omega) d0 d1 (by
      have hb : bp (q + (i + 1)) = bp (q + i) * 4294967296 := by rw [← Nat.add_assoc, bp_succ, Int.mul_comm]
      have hb2 := bp_add q i
      rw [nv_snoc, hlen, nv_take_succ hi, hb]
      have h3 : m[i] * p2 s = (m[i] % p2 (32 - s)) * p2 s + 4294967296 * (m[i] / p2 (32 - s)) := by
        rw [← hPQ]; grind
      grind)
    refine ⟨r, Ev.succ ?_, rd_, rl, rv⟩
    simp only [dyad_up.l0]
    have p1 : out.length < 35184372088832 := Nat.lt_of_le_of_lt (show out.length ≤ 2000000 by omega) (by decide)
    have hw : IntKind.u64.wrap m[i] = m[i] := wu64 hx.1 (by omega)
    refine Ev.pos (by omega) (Ev.pos (by omega) (Ev.pos (by omega) (Ev.pos s0 (Ev.pos p1 ?_))))
    rw [w64 (x := 32 - s) (by omega) (by omega), w64 (x := (i : Int) + 1) (by omega) (by omega), rd_nat hi, hw]
    refine Ev.pos (by omega) ?_
    have e6 : m[i] / p2 (32 - s) % 4294967296 = m[i] / p2 (32 - s) := Int.emod_eq_of_lt d0 (by omega)
    rw [shl_u32 (by omega) (by omega), e5, u32_or s.toNat m0 (p2_mod (by omega) _) (by omega) c0 c1 (by omega), shr_u64 (by omega) (by omega), e6]
    exact ev
end
theorem up_ev {m : List Int} (hm : Dig m) (hl : m.length ≤ 1000000) {n : Int} (h0 : 0 ≤ n) (h1 : n ≤ 10000000) :
    ∃ r, Ev (fun K => dyad_up.f K m n) r ∧ Dig r ∧ (r.length : Int) = n / 32 + m.length + 1 ∧ nv r = nv m * p2 n := by
  obtain ⟨q, hq⟩ : ∃ q : Nat, (q : Int) = n / 32 := ⟨(n / 32).toNat, by omega⟩
  have ed : Int.tdiv n 32 = n / 32 := by rw [Int.tdiv_eq_ediv_of_nonneg h0]
  have em : Int.tmod n 32 = n % 32 := by rw [Int.tmod_eq_emod_of_nonneg h0]
  have hP := p2_pos (n % 32)
  obtain ⟨r, ev, rd_, rl, rv⟩ := up_l0 hm hl (q := q) (s := n % 32) (by omega) (by omega) (by omega) m.length 0 (by omega) (by omega) (List.replicate q 0) 0 (Dig.zeros _) (by simp) (by omega) hP (by rw [nv_zeros]; simp [nv])
  refine ⟨r, ?_, rd_, by omega, ?_⟩
  · unfold dyad_up.f
    rw [ed, em, w64 (x := n / 32) (by omega) (by omega), ← hq, w64 (x := (q : Int) + (m.length : Int)) (by omega) (by omega), w64 (x := (q : Int) + (m.length : Int) + 1) (by omega) (by omega)]
    have p1 : (q : Int) + (m.length : Int) + 1 ≤ 70368744177664 := by omega
    refine Ev.pos (by omega) (Ev.pos (by omega) (Ev.pos p1 ?_))
    rw [Int.toNat_natCast]
    exact ev
  · rw [rv, bp_p2]
    have : p2 n = p2 (32 * q) * p2 (n % 32) := by rw [← p2_add (by omega) (by omega)]; congr 1; omega
    rw [this]; grind
/-- Without noughts on top. -/
theorem cut_top_ev {l : List Int} (hl : Dig l) (hn : l.length ≤ 3000000) : ∃ r, Ev (fun K => dyad_line_1.f K l) r ∧ Dig r ∧ Top r ∧ nv r = nv l ∧ r.length ≤ l.length := by
  have key : ∀ n k : Nat, k = n → k ≤ l.length → nv (l.take k) = nv l → ∃ r, Ev (fun K => dyad_line_1.l0 K l k) r ∧ Dig r ∧ Top r ∧ nv r = nv l ∧ r.length ≤ l.length := by
    intro n
    induction n with
    | zero =>
      intro k e1 e2 hv
      subst e1
      refine ⟨[], Ev.succ ?_, Dig.nil, fun h => absurd rfl h, by rw [← hv]; simp [nv], by simp⟩
      simp only [dyad_line_1.l0]
      exact Ev.neg (by omega) (Ev.pos (by omega) (Ev.pos (by omega) (Ev.now _)))
    | succ n ih =>
      intro k e1 e2 hv
      subst e1
      have hi : n < l.length := by omega
      have e : wrap64 (((n + 1 : Nat) : Int) - 1) = (n : Int) := by rw [w64 (by omega) (by omega)]; omega
      by_cases h0 : l[n] = 0
      · obtain ⟨r, ev, a, b, c, d⟩ := ih n rfl (by omega) (by rw [← hv, nv_take_succ hi, h0]; simp)
        refine ⟨r, Ev.succ ?_, a, b, c, d⟩
        simp only [dyad_line_1.l0]
        rw [e]
        exact Ev.pos (by omega) (Ev.pos (by omega) (Ev.pos (by omega) (Ev.pos (by rw [rd_nat hi]; exact h0) ev)))
      · have hlt : (l.take (n + 1)).length = n + 1 := by rw [List.length_take]; omega
        have hlast : (l.take (n + 1))[(l.take (n + 1)).length - 1]'(by omega) = l[n] := by
          rw [List.getElem_take]; congr 1; omega
        refine ⟨l.take (n + 1), Ev.succ ?_, hl.take _, Top.of_last (hl.take _) (by omega) (by rw [hlast]; exact h0), hv, by omega⟩
        simp only [dyad_line_1.l0]
        rw [e]
        refine Ev.pos (by omega) (Ev.pos (by omega) (Ev.pos (by omega) (Ev.neg (by rw [rd_nat hi]; exact h0) (Ev.pos (by omega) (Ev.pos (by omega) ?_)))))
        rw [Int.toNat_natCast]
        exact Ev.now _
  have := key l.length l.length rfl (Nat.le_refl _) (by rw [List.take_length])
  unfold dyad_line_1.f
  exact this
/-- Line: two numbers at one power of two. -/
theorem line_ev {n n' : Bool} {a b : List Int} {e e' : Int} (ha : Dig a) (hb : Dig b) (la : a.length ≤ 1000000) (lb : b.length ≤ 1000000) (e0 : -4000000 ≤ e) (e1 : e ≤ 4000000) (f0 : -4000000 ≤ e') (f1 : e' ≤ 4000000) :
    ∃ X Y d, Ev (fun K => dyad_line.f K n a e n' b e') (X, Y, d) ∧ d = mn e e' ∧ Dig X ∧ Dig Y ∧ Top X ∧ Top Y ∧ nv X = nv a * p2 (e - d) ∧ nv Y = nv b * p2 (e' - d) ∧ X.length ≤ 2000000 ∧ Y.length ≤ 2000000 := by
  have hd : mn e e' ≤ e ∧ mn e e' ≤ e' ∧ -4000000 ≤ mn e e' := by unfold mn; split <;> omega
  obtain ⟨r1, ev1, d1, l1, v1⟩ := up_ev ha la (n := e - mn e e') (by omega) (by omega)
  obtain ⟨X, ev2, d2, t2, v2, l2⟩ := cut_top_ev d1 (by omega)
  obtain ⟨r3, ev3, d3, l3, v3⟩ := up_ev hb lb (n := e' - mn e e') (by omega) (by omega)
  obtain ⟨Y, ev4, d4, t4, v4, l4⟩ := cut_top_ev d3 (by omega)
  refine ⟨X, Y, mn e e', ?_, rfl, d2, d4, t2, t4, by rw [v2, v1], by rw [v4, v3], by omega, by omega⟩
  unfold dyad_line.f
  rw [w64 (x := e - mn e e') (by omega) (by omega), w64 (x := e' - mn e e') (by omega) (by omega)]
  exact Ev.bind ev1 (Ev.bind ev2 (Ev.bind ev3 (Ev.bind ev4 (Ev.now _))))
theorem sgn_lt {x : Int} (h : x < 0) : sgn x = -1 := by unfold sgn; rw [if_pos h]
theorem sgn_gt {x : Int} (h : 0 < x) : sgn x = 1 := by unfold sgn; rw [if_neg (by omega), if_neg (by omega)]
theorem sgn_eq {x : Int} (h : x = 0) : sgn x = 0 := by unfold sgn; rw [if_neg (by omega), if_pos h]
theorem top_lt {X Y : List Int} (hX : Dig X) (tY : Top Y) (h : X.length < Y.length) : nv X < nv Y := by
  have h1 := (nv_bounds hX).2
  have h2 := tY (List.length_pos_iff.mp (by omega))
  have h3 := bp_mono (show X.length ≤ Y.length - 1 by omega)
  omega
theorem digit_lt {X Y : List Int} (hX : Dig X) (hY : Dig Y) {i : Nat} (hi : i < X.length) (hi' : i < Y.length) (h : nv (X.drop (i + 1)) = nv (Y.drop (i + 1))) (hlt : X[i] < Y[i]) : nv X < nv Y := by
  have a := nv_take_drop X i (by omega)
  have b := nv_take_drop Y i (by omega)
  have c := nv_drop hi
  have d := nv_drop hi'
  have e := (nv_bounds (hX.take i)).2
  rw [List.length_take, Nat.min_eq_left (by omega)] at e
  have f := (nv_bounds (hY.take i)).1
  have g := bp_pos i
  have k : bp i * (nv (X.drop i) + 1) ≤ bp i * nv (Y.drop i) := Int.mul_le_mul_of_nonneg_left (by omega) (Int.le_of_lt g)
  rw [Int.mul_add, Int.mul_one] at k
  omega
/-- Cmp: the sign of a difference. -/
theorem cmp_ev {X Y : List Int} (hX : Dig X) (hY : Dig Y) (tX : Top X) (tY : Top Y) (lX : X.length ≤ 3000000) (lY : Y.length ≤ 3000000) : Ev (fun K => dyad_cmp.f K X Y) (sgn (nv X - nv Y)) := by
  unfold dyad_cmp.f
  by_cases hl : X.length = Y.length
  · refine Ev.pos (by omega) ?_
    have key : ∀ j : Nat, j ≤ X.length → nv (X.drop j) = nv (Y.drop j) → Ev (fun K => dyad_cmp.l0 K X Y ((j : Int) - 1)) (sgn (nv X - nv Y)) := by
      intro j
      induction j with
      | zero =>
        intro _ h
        simp only [List.drop_zero] at h
        rw [sgn_eq (by omega)]
        refine Ev.succ ?_
        simp only [dyad_cmp.l0]
        exact Ev.neg (by omega) (Ev.now _)
      | succ j ih =>
        intro h1 h2
        have hi : j < X.length := by omega
        have hi' : j < Y.length := by omega
        have e : ((j + 1 : Nat) : Int) - 1 = (j : Int) := by omega
        rw [e]
        refine Ev.succ ?_
        simp only [dyad_cmp.l0]
        refine Ev.pos (by omega) (Ev.pos (by omega) (Ev.pos (by omega) (Ev.pos (by omega) ?_)))
        rw [rd_nat hi, rd_nat hi']
        by_cases h3 : X[j] = Y[j]
        · refine Ev.pos h3 ?_
          rw [w64 (by omega) (by omega)]
          exact ih (by omega) (by rw [nv_drop hi, nv_drop hi', h3, h2])
        · refine Ev.neg h3 ?_
          by_cases h4 : X[j] < Y[j]
          · have := digit_lt hX hY hi hi' h2 h4
            rw [sgn_lt (by omega)]
            exact Ev.pos h4 (Ev.now _)
          · have := digit_lt hY hX hi' hi h2.symm (by omega)
            rw [sgn_gt (by omega)]
            exact Ev.neg h4 (Ev.now _)
    have := key X.length (Nat.le_refl _) (by rw [List.drop_length, hl, List.drop_length])
    rw [w64 (by omega) (by omega)]
    exact this
  · refine Ev.neg (by omega) ?_
    by_cases h : X.length < Y.length
    · have := top_lt hX tY h
      rw [sgn_lt (by omega)]
      exact Ev.pos (by omega) (Ev.now _)
    · have := top_lt hY tX (by omega)
      rw [sgn_gt (by omega)]
      exact Ev.neg (by omega) (Ev.now _)

/-- An odd number times a power of two has no more twos. -/
theorem odd_expo {N k : Int} {e d : Int} (h : N % 2 = 1) (hv : (N : Rat) * pw e = (k : Rat) * pw d) : d ≤ e := by
  refine Decidable.byContradiction fun hc => ?_
  obtain ⟨n, hn⟩ : ∃ n : Nat, d = e + ((n + 1 : Nat) : Int) := ⟨(d - e - 1).toNat, by omega⟩
  have h1 : (N : Rat) * pw e = ((k * 2 ^ (n + 1) : Int) : Rat) * pw e := by
    rw [hv, hn, pw_addNat]; push_cast; grind
  have h2 := mul_pw_inj h1
  rw [Int.pow_succ] at h2
  have h3 : k * (2 ^ n * 2) = 2 * (k * 2 ^ n) := by grind
  omega
theorem Can.unique {n n' : Bool} {m m' : List Int} {e e' : Int} (c : Can n m e) (c' : Can n' m' e') (h : nval n m e = nval n' m' e') : n = n' ∧ m = m' ∧ e = e' := by
  obtain ⟨d, t, k⟩ := c
  obtain ⟨d', t', k'⟩ := c'
  have pos : ∀ {n : Bool} {m : List Int} {e : Int}, Top m → m ≠ [] → 0 < (nv m : Rat) * pw e := by
    intro n m e t h
    have h1 : (0 : Rat) < (nv m : Rat) := by exact_mod_cast nv_pos t h
    exact Rat.mul_pos h1 (pw_pos e)
  rcases k with ⟨rfl, rfl, rfl⟩ | ⟨hne, ho⟩
  · rcases k' with ⟨rfl, rfl, rfl⟩ | ⟨hne', ho'⟩
    · exact ⟨rfl, rfl, rfl⟩
    · have := pos (n := n') (e := e') t' hne'
      unfold nval at h
      simp [nv] at h
      cases n' <;> simp at h <;> grind
  · rcases k' with ⟨rfl, rfl, rfl⟩ | ⟨hne', ho'⟩
    · have := pos (n := n) (e := e) t hne
      unfold nval at h
      simp [nv] at h
      cases n <;> simp at h <;> grind
    · have p := pos (n := n) (e := e) t hne
      have p' := pos (n := n') (e := e') t' hne'
      have hs : n = n' ∧ (nv m : Rat) * pw e = (nv m' : Rat) * pw e' := by
        unfold nval at h
        cases n <;> cases n' <;> simp at h ⊢ <;> grind
      obtain ⟨rfl, hv⟩ := hs
      have h1 := odd_expo ho hv
      have h2 := odd_expo ho' hv.symm
      obtain rfl : e = e' := by omega
      have h3 := mul_pw_inj hv
      exact ⟨rfl, t.inj d d' t' h3, rfl⟩
/-- A number in its only form, within bounds. -/
structure Nm (E : Int) (x : Rat) (n : Bool) (m : List Int) (e : Int) : Prop where
  can : Can n m e
  val : nval n m e = x
  lo : -E ≤ e
  hi : (nv m : Rat) * pw e ≤ pw E
theorem Nm.unique {E E' : Int} {x : Rat} {n n' : Bool} {m m' : List Int} {e e' : Int} (h : Nm E x n m e) (h' : Nm E' x n' m' e') : n = n' ∧ m = m' ∧ e = e' :=
  h.can.unique h'.can (h.val.trans h'.val.symm)
theorem Nm.mono {E E' : Int} {x : Rat} {n : Bool} {m : List Int} {e : Int} (h : Nm E x n m e) (hE : E ≤ E') : Nm E' x n m e :=
  ⟨h.can, h.val, by have := h.lo; omega, Rat.le_trans h.hi (pw_mono hE)⟩
theorem Nm.sizes {E : Int} {x : Rat} {n : Bool} {m : List Int} {e : Int} (h : Nm E x n m e) (h0 : 0 ≤ E) : e ≤ E ∧ 32 * (m.length : Int) ≤ 2 * E + 32 ∧ -E ≤ e := by
  obtain ⟨d, t, k⟩ := h.can
  have lo := h.lo
  rcases k with ⟨rfl, rfl, rfl⟩ | ⟨hne, ho⟩
  · simp; omega
  · have h1 := t hne
    have h2 : ((bp (m.length - 1) : Int) : Rat) * pw e ≤ (nv m : Rat) * pw e := mul_pw_le.mpr h1
    have h3 : ((bp (m.length - 1) : Int) : Rat) * pw e ≤ pw E := Rat.le_trans h2 h.hi
    rw [bp_pw, ← pw_add] at h3
    have h4 := pw_le_iff.mp h3
    have := List.length_pos_iff.mpr hne
    omega
theorem nval_neg (n : Bool) (m : List Int) (e : Int) : nval (!n) m e = -nval n m e := by unfold nval; cases n <;> simp
theorem nval_abs {n : Bool} {m : List Int} {e : Int} (hm : Dig m) : 0 ≤ (nv m : Rat) * pw e ∧ (nval n m e = (nv m : Rat) * pw e ∨ nval n m e = -((nv m : Rat) * pw e)) := by
  have h1 : (0 : Rat) ≤ (nv m : Rat) := by exact_mod_cast (nv_bounds hm).1
  refine ⟨Rat.mul_nonneg h1 (Rat.le_of_lt (pw_pos e)), ?_⟩
  unfold nval
  cases n <;> simp
theorem Nm.abs_le {E : Int} {x : Rat} {n : Bool} {m : List Int} {e : Int} (h : Nm E x n m e) : -pw E ≤ x ∧ x ≤ pw E := by
  have h1 := nval_abs (n := n) (e := e) h.can.1
  have h2 := h.hi
  have h3 := h.val
  rcases h1.2 with h4 | h4 <;> grind
/-- What is in its only form is within bounds that hold of its value. -/
theorem Nm.of {E : Int} {x : Rat} {n : Bool} {m : List Int} {e k : Int} (hE : 0 ≤ E) (c : Can n m e) (h : nval n m e = x) (hk : x = (k : Rat) * pw (-E)) (h1 : x ≤ pw E) (h2 : -pw E ≤ x) : Nm E x n m e := by
  refine ⟨c, h, ?_, ?_⟩
  · rcases c.2.2 with ⟨rfl, rfl, rfl⟩ | ⟨hne, ho⟩
    · omega
    · have h3 : ∃ k' : Int, (nv m : Rat) * pw e = (k' : Rat) * pw (-E) := by
        rcases (nval_abs (n := n) (e := e) c.1).2 with h4 | h4
        · exact ⟨k, by rw [← h4, h, hk]⟩
        · refine ⟨-k, ?_⟩
          have : (nv m : Rat) * pw e = -x := by grind
          rw [this, hk]; push_cast; grind
      obtain ⟨k', h3⟩ := h3
      exact odd_expo ho h3
  · rcases (nval_abs (n := n) (e := e) c.1).2 with h4 | h4 <;> grind
/-- A number within bounds is a whole number times their least power. -/
theorem Nm.whole {E : Int} {x : Rat} {n : Bool} {m : List Int} {e : Int} (h : Nm E x n m e) : ∃ k : Int, x = (k : Rat) * pw (-E) := by
  obtain ⟨j, hj⟩ : ∃ j : Nat, e = -E + (j : Int) := ⟨(e + E).toNat, by have := h.lo; omega⟩
  have e1 : (nv m : Rat) * pw e = ((nv m * 2 ^ j : Int) : Rat) * pw (-E) := by rw [hj, pw_addNat]; push_cast; grind
  rcases (nval_abs (n := n) (e := e) h.can.1).2 with h4 | h4
  · exact ⟨nv m * 2 ^ j, by rw [← h.val, h4, e1]⟩
  · refine ⟨-(nv m * 2 ^ j), ?_⟩
    rw [← h.val, h4, e1]; push_cast; grind

section
variable {X Y : List Int} (hX : Dig X) (hY : Dig Y) (lX : X.length ≤ 900000) {E : Int} {neg : Bool} (e0 : -4000000 ≤ E) (e1 : E ≤ 4000000)
include hX hY lX e0 e1
theorem add_l0 (hle : Y.length ≤ X.length) (a b : Bool) (c : List Int) (f : Int) : ∀ n i : Nat, X.length - i = n → i ≤ X.length → ∀ (out : List Int) (cr : Int), Dig out → out.length = i → 0 ≤ cr → cr ≤ 1 →
    nv out + bp i * cr = nv (X.take i) + nv (Y.take i) →
    ∃ n' m' e', Ev (fun K => dyad_Num_Add.l0 K X Y E out cr X.length i neg c f) (n', m', e') ∧ Can n' m' e' ∧ nval n' m' e' = (if neg then -1 else 1) * (((nv X + nv Y : Int) : Rat) * pw E) := by
  intro n
  induction n with
  | zero =>
    intro i h1 h2 out cr hd hlen c0 c1 hv
    obtain rfl : i = X.length := by omega
    have hc : cr % 4294967296 = cr := by omega
    obtain ⟨n', m', e', ev, cn, vl⟩ := trim_ev (neg := neg) (l := out ++ [cr]) (e := E) (hd.append (Dig.one c0 (by omega))) (by simp [hlen] <;> omega) (by omega) (by omega)
    refine ⟨n', m', e', Ev.succ ?_, cn, ?_⟩
    · simp only [dyad_Num_Add.l0]
      have p1 : out.length < 35184372088832 := Nat.lt_of_le_of_lt (show out.length ≤ 900000 by omega) (by decide)
      rw [hc]
      exact Ev.neg (by omega) (Ev.pos p1 (Ev.bind ev (Ev.now _)))
    · rw [vl]
      have : nv (out ++ [cr]) = nv X + nv Y := by
        rw [nv_snoc, hlen, hv, List.take_length, List.take_of_length_le hle]
      unfold nval
      rw [this]
      cases neg <;> simp <;> grind
  | succ n ih =>
    intro i h1 h2 out cr hd hlen c0 c1 hv
    have hi : i < X.length := by omega
    have hx := hX.get hi
    have p1 : out.length < 35184372088832 := Nat.lt_of_le_of_lt (show out.length ≤ 900000 by omega) (by decide)
    have hb := bp_succ i
    have hbp := bp_pos i
    have wx : IntKind.u64.wrap X[i] = X[i] := wu64 hx.1 (by omega)
    have w1 : IntKind.u64.wrap (cr + X[i]) = cr + X[i] := wu64 (by omega) (by omega)
    by_cases hy : i < Y.length
    · have hyd := hY.get hy
      have wy : IntKind.u64.wrap Y[i] = Y[i] := wu64 hyd.1 (by omega)
      have w2 : IntKind.u64.wrap (cr + X[i] + Y[i]) = cr + X[i] + Y[i] := wu64 (by omega) (by omega)
      obtain ⟨n', m', e', ev, cn, vl⟩ := ih (i + 1) (by omega) (by omega) (out ++ [(cr + X[i] + Y[i]) % 4294967296]) ((cr + X[i] + Y[i]) / 4294967296) (hd.append (Dig.one (by omega) (by omega))) (by simp [hlen]) (by omega) (by omega) (by
        have h3 := Int.emod_add_mul_ediv (cr + X[i] + Y[i]) 4294967296
        rw [nv_snoc, hlen, nv_take_succ hi, nv_take_succ hy, hb]
        grind)
      refine ⟨n', m', e', Ev.succ ?_, cn, vl⟩
      simp only [dyad_Num_Add.l0]
      refine Ev.pos (by omega) (Ev.pos (by omega) (Ev.pos (by omega) (Ev.pos (by omega) (Ev.pos p1 ?_))))
      rw [rd_nat hi, rd_nat hy, wx, w1, wy, w2, w64 (by omega) (by omega)]
      exact ev
    · obtain ⟨n', m', e', ev, cn, vl⟩ := ih (i + 1) (by omega) (by omega) (out ++ [(cr + X[i]) % 4294967296]) ((cr + X[i]) / 4294967296) (hd.append (Dig.one (by omega) (by omega))) (by simp [hlen]) (by omega) (by omega) (by
        have h3 := Int.emod_add_mul_ediv (cr + X[i]) 4294967296
        have h4 : Y.take (i + 1) = Y.take i := by rw [List.take_of_length_le (by omega), List.take_of_length_le (by omega)]
        rw [nv_snoc, hlen, nv_take_succ hi, h4, hb]
        grind)
      refine ⟨n', m', e', Ev.succ ?_, cn, vl⟩
      simp only [dyad_Num_Add.l0]
      refine Ev.pos (by omega) (Ev.pos (by omega) (Ev.pos (by omega) (Ev.neg (by omega) (Ev.pos p1 ?_))))
      rw [rd_nat hi, wx, w1, w64 (by omega) (by omega)]
      exact ev
theorem add_l1 (hle : Y.length ≤ X.length) (hv0 : nv Y ≤ nv X) : ∀ n i : Nat, X.length - i = n → i ≤ X.length → ∀ (out : List Int) (cr : Int), Dig out → out.length = i → -1 ≤ cr → cr ≤ 0 →
    nv out + bp i * cr = nv (X.take i) - nv (Y.take i) →
    ∃ n' m' e', Ev (fun K => dyad_Num_Add.l1 K X Y E neg out cr X.length i) (n', m', e') ∧ Can n' m' e' ∧ nval n' m' e' = (if neg then -1 else 1) * (((nv X - nv Y : Int) : Rat) * pw E) := by
  intro n
  induction n with
  | zero =>
    intro i h1 h2 out cr hd hlen c0 c1 hv
    obtain rfl : i = X.length := by omega
    obtain ⟨n', m', e', ev, cn, vl⟩ := trim_ev (neg := neg) (l := out) (e := E) hd (by omega) (by omega) (by omega)
    refine ⟨n', m', e', Ev.succ ?_, cn, ?_⟩
    · simp only [dyad_Num_Add.l1]
      exact Ev.neg (by omega) (Ev.bind ev (Ev.now _))
    · rw [vl]
      have hb := nv_bounds hd
      rw [hlen] at hb
      rw [List.take_length, List.take_of_length_le hle] at hv
      have hcr : cr = 0 := by
        refine Decidable.byContradiction fun hc => ?_
        obtain rfl : cr = -1 := by omega
        omega
      have : nv out = nv X - nv Y := by rw [hcr] at hv; omega
      unfold nval
      rw [this]
      cases neg <;> simp <;> grind
  | succ n ih =>
    intro i h1 h2 out cr hd hlen c0 c1 hv
    have hi : i < X.length := by omega
    have hx := hX.get hi
    have p1 : out.length < 35184372088832 := Nat.lt_of_le_of_lt (show out.length ≤ 900000 by omega) (by decide)
    have hb := bp_succ i
    have hbp := bp_pos i
    have wx : wrap64 X[i] = X[i] := w64 (by omega) (by omega)
    have w1 : wrap64 (cr + X[i]) = cr + X[i] := w64 (by omega) (by omega)
    by_cases hy : i < Y.length
    · have hyd := hY.get hy
      have wy : wrap64 Y[i] = Y[i] := w64 (by omega) (by omega)
      have w2 : wrap64 (cr + X[i] - Y[i]) = cr + X[i] - Y[i] := w64 (by omega) (by omega)
      obtain ⟨n', m', e', ev, cn, vl⟩ := ih (i + 1) (by omega) (by omega) (out ++ [(cr + X[i] - Y[i]) % 4294967296]) ((cr + X[i] - Y[i]) / 4294967296) (hd.append (Dig.one (by omega) (by omega))) (by simp [hlen]) (by omega) (by omega) (by
        have h3 := Int.emod_add_mul_ediv (cr + X[i] - Y[i]) 4294967296
        rw [nv_snoc, hlen, nv_take_succ hi, nv_take_succ hy, hb]
        grind)
      refine ⟨n', m', e', Ev.succ ?_, cn, vl⟩
      simp only [dyad_Num_Add.l1]
      refine Ev.pos (by omega) (Ev.pos (by omega) (Ev.pos (by omega) (Ev.pos (by omega) (Ev.pos p1 ?_))))
      rw [rd_nat hi, rd_nat hy, wx, w1, wy, w2, w64 (by omega) (by omega)]
      exact ev
    · obtain ⟨n', m', e', ev, cn, vl⟩ := ih (i + 1) (by omega) (by omega) (out ++ [(cr + X[i]) % 4294967296]) ((cr + X[i]) / 4294967296) (hd.append (Dig.one (by omega) (by omega))) (by simp [hlen]) (by omega) (by omega) (by
        have h3 := Int.emod_add_mul_ediv (cr + X[i]) 4294967296
        have h4 : Y.take (i + 1) = Y.take i := by rw [List.take_of_length_le (by omega), List.take_of_length_le (by omega)]
        rw [nv_snoc, hlen, nv_take_succ hi, h4, hb]
        grind)
      refine ⟨n', m', e', Ev.succ ?_, cn, vl⟩
      simp only [dyad_Num_Add.l1]
      refine Ev.pos (by omega) (Ev.pos (by omega) (Ev.pos (by omega) (Ev.neg (by omega) (Ev.pos p1 ?_))))
      rw [rd_nat hi, wx, w1, w64 (by omega) (by omega)]
      exact ev
theorem add_j0 (hle : Y.length ≤ X.length) (c : List Int) (f : Int) :
    ∃ n' m' e', Ev (fun K => dyad_Num_Add.j0 K X Y E neg c f) (n', m', e') ∧ Can n' m' e' ∧ nval n' m' e' = (if neg then -1 else 1) * (((nv X + nv Y : Int) : Rat) * pw E) := by
  obtain ⟨n', m', e', ev, cn, vl⟩ := add_l0 (neg := neg) hX hY lX e0 e1 hle true true c f X.length 0 (by omega) (by omega) [] 0 Dig.nil rfl (by omega) (by omega) (by simp [nv])
  refine ⟨n', m', e', Ev.succ ?_, cn, vl⟩
  simp only [dyad_Num_Add.j0]
  rw [w64 (by omega) (by omega)]
  have p1 : (X.length : Int) + 1 ≤ 70368744177664 := by omega
  exact Ev.pos (by omega) (Ev.pos p1 ev)
theorem nadd_j2 (hle : Y.length ≤ X.length) (hv0 : nv Y ≤ nv X) :
    ∃ n' m' e', Ev (fun K => dyad_Num_Add.j2 K X Y E neg) (n', m', e') ∧ Can n' m' e' ∧ nval n' m' e' = (if neg then -1 else 1) * (((nv X - nv Y : Int) : Rat) * pw E) := by
  obtain ⟨n', m', e', ev, cn, vl⟩ := add_l1 (neg := neg) hX hY lX e0 e1 hle hv0 X.length 0 (by omega) (by omega) [] 0 Dig.nil rfl (by omega) (by omega) (by simp [nv])
  refine ⟨n', m', e', Ev.succ ?_, cn, vl⟩
  simp only [dyad_Num_Add.j2]
  have p1 : (X.length : Int) ≤ 70368744177664 := by omega
  exact Ev.pos (Int.natCast_nonneg _) (Ev.pos p1 ev)
end
theorem shift_val {a b : List Int} {e d : Int} (h : d ≤ e) (hv : nv b = nv a * p2 (e - d)) : (nv b : Rat) * pw d = (nv a : Rat) * pw e := by
  rw [hv]
  have : pw e = ((p2 (e - d) : Int) : Rat) * pw d := by
    rw [← pw_p2 (by omega), ← pw_add]; congr 1; omega
  rw [this]; push_cast; grind
/-- THE SUM. -/
theorem num_add_ev {E : Int} {x y : Rat} {n n' : Bool} {m m' : List Int} {e e' : Int} (hE0 : 0 ≤ E) (hE : E ≤ 1000000) (a : Nm E x n m e) (b : Nm E y n' m' e') :
    ∃ r l f, Ev (fun K => dyad_Num_Add.f K n m e n' m' e') (r, l, f) ∧ Nm (E + 1) (x + y) r l f := by
  have wrap : ∀ {r : Bool} {l : List Int} {f : Int}, Can r l f → nval r l f = x + y → Nm (E + 1) (x + y) r l f := by
    intro r l f c h
    have ha := (a.mono (show E ≤ E + 1 by omega)).whole
    have hb := (b.mono (show E ≤ E + 1 by omega)).whole
    obtain ⟨k, hk⟩ := ha
    obtain ⟨k', hk'⟩ := hb
    have la := a.abs_le
    have lb := b.abs_le
    have h2 := pw_succ E
    exact Nm.of (k := k + k') (by omega) c h (by rw [hk, hk']; push_cast; grind) (by grind) (by grind)
  obtain ⟨sa1, sa2, sa3⟩ := a.sizes hE0
  obtain ⟨sb1, sb2, sb3⟩ := b.sizes hE0
  have da := a.can.1
  have db := b.can.1
  by_cases h1 : m = []
  · have h0 : x = 0 := by rw [← a.val, h1]; unfold nval; cases n <;> simp [nv]
    refine ⟨n', m', e', ?_, wrap b.can (by rw [b.val, h0]; grind)⟩
    unfold dyad_Num_Add.f
    exact Ev.pos (by rw [h1]; rfl) (Ev.now _)
  · have hl1 : ¬ ((m.length : Int) = 0) := by have := List.length_pos_iff.mpr h1; omega
    by_cases h2 : m' = []
    · have h0 : y = 0 := by rw [← b.val, h2]; unfold nval; cases n' <;> simp [nv]
      refine ⟨n, m, e, ?_, wrap a.can (by rw [a.val, h0]; grind)⟩
      unfold dyad_Num_Add.f
      exact Ev.neg hl1 (Ev.pos (by rw [h2]; rfl) (Ev.now _))
    · have hl2 : ¬ ((m'.length : Int) = 0) := by have := List.length_pos_iff.mpr h2; omega
      obtain ⟨X, Y, d, ev, hd, dX, dY, tX, tY, vX, vY, lX, lY⟩ := line_ev (n := n) (n' := n') (a := m) (b := m') (e := e) (e' := e') da db (by omega) (by omega) (by omega) (by omega) (by omega) (by omega)
      have hdd : d ≤ e ∧ d ≤ e' ∧ (-1000000 ≤ d) := by rw [hd]; unfold mn; split <;> omega
      have valX := shift_val hdd.1 vX
      have valY := shift_val hdd.2.1 vY
      have lens : X.length ≤ 900000 ∧ Y.length ≤ 900000 := by
        have hp : pw E = pw (E - d) * pw d := by rw [← pw_add]; congr 1; omega
        have key : ∀ {Z : List Int} {v : Rat}, Top Z → (nv Z : Rat) * pw d = v → v ≤ pw E → Z.length ≤ 900000 := by
          intro Z v tZ hv hle
          by_cases hz : Z = []
          · subst hz; simp
          · have h3 := tZ hz
            have h4 : ((bp (Z.length - 1) : Int) : Rat) * pw d ≤ (nv Z : Rat) * pw d := mul_pw_le.mpr h3
            rw [bp_pw, ← pw_add, hv] at h4
            have h5 := pw_le_iff.mp (Rat.le_trans h4 hle)
            omega
        exact ⟨key tX valX a.hi, key tY valY b.hi⟩
      have nvx : nval n m e = (if n then -1 else 1) * ((nv X : Rat) * pw d) := by unfold nval; rw [valX]; cases n <;> simp <;> grind
      have nvy : nval n' m' e' = (if n' then -1 else 1) * ((nv Y : Rat) * pw d) := by unfold nval; rw [valY]; cases n' <;> simp <;> grind
      rw [a.val] at nvx
      rw [b.val] at nvy
      by_cases hs : n = n'
      · subst hs
        by_cases hlt : X.length < Y.length
        · obtain ⟨r, l, f, ev2, cn, vl⟩ := add_j0 (neg := n) dY dX lens.2 (by omega) (by omega) (E := d) (by omega) m e
          refine ⟨r, l, f, ?_, wrap cn (by rw [vl, nvx, nvy]; push_cast; grind)⟩
          unfold dyad_Num_Add.f
          exact Ev.neg hl1 (Ev.neg hl2 (Ev.bind ev (Ev.pos (by simp) (Ev.pos (show (X.length : Int) < (Y.length : Int) by omega) ev2))))
        · obtain ⟨r, l, f, ev2, cn, vl⟩ := add_j0 (neg := n) dX dY lens.1 (by omega) (by omega) (E := d) (by omega) m e
          refine ⟨r, l, f, ?_, wrap cn (by rw [vl, nvx, nvy]; push_cast; grind)⟩
          unfold dyad_Num_Add.f
          exact Ev.neg hl1 (Ev.neg hl2 (Ev.bind ev (Ev.pos (by simp) (Ev.neg (show ¬ ((X.length : Int) < (Y.length : Int)) by omega) ev2))))
      · have hb : ¬ ((n == n') = true) := by simpa using hs
        have cv := cmp_ev dX dY tX tY (by omega) (by omega)
        have hop : (if n' then (-1 : Rat) else 1) = -(if n then -1 else 1) := by cases n <;> cases n' <;> simp at hs ⊢
        rw [hop] at nvy
        by_cases h0 : nv X - nv Y = 0
        · rw [sgn_eq h0] at cv
          refine ⟨false, [], 0, ?_, wrap ⟨Dig.nil, fun h => absurd rfl h, .inl ⟨rfl, rfl, rfl⟩⟩ ?_⟩
          · unfold dyad_Num_Add.f
            exact Ev.neg hl1 (Ev.neg hl2 (Ev.bind ev (Ev.neg hb (Ev.bind cv (Ev.pos rfl (Ev.now _))))))
          · have : nv X = nv Y := by omega
            rw [nvx, nvy, this]; unfold nval; simp [nv]; grind
        · by_cases hn : nv X - nv Y < 0
          · rw [sgn_lt hn] at cv
            have hle : X.length ≤ Y.length := by
              refine Decidable.byContradiction fun hc => ?_
              have := top_lt dY tX (by omega)
              omega
            obtain ⟨r, l, f, ev2, cn, vl⟩ := nadd_j2 (neg := n') dY dX lens.2 (by omega) (by omega) (E := d) hle (by omega)
            refine ⟨r, l, f, ?_, wrap cn (by rw [vl, nvx, nvy, hop]; push_cast; grind)⟩
            unfold dyad_Num_Add.f
            exact Ev.neg hl1 (Ev.neg hl2 (Ev.bind ev (Ev.neg hb (Ev.bind cv (Ev.neg (by decide) (Ev.pos rfl ev2))))))
          · rw [sgn_gt (by omega)] at cv
            have hle : Y.length ≤ X.length := by
              refine Decidable.byContradiction fun hc => ?_
              have := top_lt dX tY (by omega)
              omega
            obtain ⟨r, l, f, ev2, cn, vl⟩ := nadd_j2 (neg := n) dX dY lens.1 (by omega) (by omega) (E := d) hle (by omega)
            refine ⟨r, l, f, ?_, wrap cn (by rw [vl, nvx, nvy]; push_cast; grind)⟩
            unfold dyad_Num_Add.f
            exact Ev.neg hl1 (Ev.neg hl2 (Ev.bind ev (Ev.neg hb (Ev.bind cv (Ev.neg (by decide) (Ev.neg (by decide) ev2))))))

section
variable {A B : List Int} (hA : Dig A) (hB : Dig B) (lab : A.length + B.length ≤ 900000) {n n' : Bool} {e e' : Int}
include hA hB lab
theorem mul_l1 {Q : Bool × List Int × Int → Prop} {i : Nat} (hi : i < A.length)
    (next : ∀ out, Dig out → out.length = A.length + B.length → (∀ k, (h : k < out.length) → i + 1 + B.length ≤ k → out[k] = 0) → nv out = nv (A.take (i + 1)) * nv B → ∃ r, Ev (fun K => dyad_Num_Mul.l0 K out A A.length ((i + 1 : Nat) : Int) n A e n' B e') r ∧ Q r) :
    ∀ t j : Nat, B.length - j = t → j ≤ B.length → ∀ (out : List Int) (c : Int), Dig out → out.length = A.length + B.length → 0 ≤ c → c < 4294967296 →
      (∀ k, (h : k < out.length) → i + B.length ≤ k → out[k] = 0) → nv out + bp (i + j) * c = nv (A.take i) * nv B + bp i * (A[i] * nv (B.take j)) →
      ∃ r, Ev (fun K => dyad_Num_Mul.l1 K out i A[i] c A A.length i B B.length j n A e n' B e') r ∧ Q r := by
  intro t
  induction t with
  | zero =>
    intro j h1 h2 out c hd hl c0 c1 hz hv
    obtain rfl : j = B.length := by omega
    have hk : i + B.length < out.length := by omega
    have z0 := hz _ hk (Nat.le_refl _)
    obtain ⟨r, ev, q⟩ := next (out.set (i + B.length) c) (hd.set _ c0 c1) (by rw [List.length_set, hl]) (by
      intro k h3 h4
      rw [List.length_set] at h3
      rw [List.getElem_set_ne (by omega)]
      exact hz k h3 (by omega)) (by
      rw [nv_set hk, z0, nv_take_succ hi]
      rw [List.take_length] at hv
      grind)
    refine ⟨r, Ev.succ ?_, q⟩
    simp only [dyad_Num_Mul.l1]
    have tn : ((i : Int) + (B.length : Int)).toNat = i + B.length := by omega
    rw [w64 (x := (i : Int) + (B.length : Int)) (by omega) (by omega), w64 (x := (i : Int) + 1) (by omega) (by omega), tn, show c % 4294967296 = c by omega]
    exact Ev.neg (by omega) (Ev.pos (by omega) (Ev.pos (by omega) ev))
  | succ t ih =>
    intro j h1 h2 out c hd hl c0 c1 hz hv
    have hj : j < B.length := by omega
    have hk : i + j < out.length := by omega
    have ha := hA.get hi
    have hb := hB.get hj
    have ho := hd.get hk
    have hp := mul_bound ha.1 hb.1 (show A[i] ≤ 4294967295 by omega) (show B[j] ≤ 4294967295 by omega)
    have e3 : rd out ((i : Int) + (j : Int)) = out[i + j] := rd_nat (i := i + j) hk
    have tn : ((i : Int) + (j : Int)).toNat = i + j := by omega
    generalize hs : c + (out[i + j] + A[i] * B[j]) = s at *
    have hr := Int.emod_add_mul_ediv s 4294967296
    obtain ⟨r, ev, q⟩ := ih (j + 1) (by omega) (by omega) (out.set (i + j) (s % 4294967296)) (s / 4294967296) (hd.set _ (by omega) (by omega)) (by rw [List.length_set, hl]) (by omega) (by omega) (by
      intro k h3 h4
      rw [List.length_set] at h3
      rw [List.getElem_set_ne (by omega)]
      exact hz k h3 h4) (by
      rw [nv_set hk, nv_take_succ hj, show i + (j + 1) = i + j + 1 by omega, bp_succ]
      have hx := bp_add i j
      have h5 : bp (i + j) * (s % 4294967296 + 4294967296 * (s / 4294967296)) = bp (i + j) * (c + (out[i + j] + A[i] * B[j])) := by rw [hr, hs]
      have h6 : bp (i + j) * (A[i] * B[j]) = bp i * (bp j * (A[i] * B[j])) := by rw [hx, Int.mul_assoc]
      grind)
    refine ⟨r, Ev.succ ?_, q⟩
    simp only [dyad_Num_Mul.l1]
    rw [w64 (x := (i : Int) + (j : Int)) (by omega) (by omega), w64 (x := (j : Int) + 1) (by omega) (by omega), tn, rd_nat hj, e3, wu64 (x := A[i]) ha.1 (by omega), wu64 (x := B[j]) hb.1 (by omega), wu64 (x := out[i + j]) ho.1 (by omega), wu64 (x := A[i] * B[j]) hp.1 (by omega), wu64 (x := out[i + j] + A[i] * B[j]) (by omega) (by omega), hs, wu64 (x := s) (by omega) (by omega)]
    exact Ev.pos (by omega) (Ev.pos (by omega) (Ev.pos (by omega) (Ev.pos (by omega) (Ev.pos (by omega) ev))))
theorem mul_l0 (he : -2000000 ≤ e ∧ e ≤ 2000000) (he' : -2000000 ≤ e' ∧ e' ≤ 2000000) : ∀ t i : Nat, A.length - i = t → i ≤ A.length → ∀ (out : List Int), Dig out → out.length = A.length + B.length →
      (∀ k, (h : k < out.length) → i + B.length ≤ k → out[k] = 0) → nv out = nv (A.take i) * nv B →
      ∃ r, Ev (fun K => dyad_Num_Mul.l0 K out A A.length i n A e n' B e') r ∧ Can r.1 r.2.1 r.2.2 ∧ nval r.1 r.2.1 r.2.2 = nval n A e * nval n' B e' := by
  intro t
  induction t with
  | zero =>
    intro i h1 h2 out hd hl hz hv
    obtain rfl : i = A.length := by omega
    obtain ⟨r, l, f, ev, cn, vl⟩ := trim_ev (neg := n != n') (l := out) (e := e + e') hd (by omega) (by omega) (by omega)
    refine ⟨(r, l, f), Ev.succ ?_, cn, ?_⟩
    · simp only [dyad_Num_Mul.l0]
      rw [w64 (x := e + e') (by omega) (by omega)]
      exact Ev.neg (by omega) (Ev.bind ev (Ev.now _))
    · rw [vl]
      rw [List.take_length] at hv
      unfold nval
      rw [hv, pw_add]
      push_cast
      cases n <;> cases n' <;> simp <;> grind
  | succ t ih =>
    intro i h1 h2 out hd hl hz hv
    have hi : i < A.length := by omega
    have ha := hA.get hi
    obtain ⟨r, ev, q⟩ := mul_l1 hA hB lab (n := n) (n' := n') (e := e) (e' := e') (Q := fun r => Can r.1 r.2.1 r.2.2 ∧ nval r.1 r.2.1 r.2.2 = nval n A e * nval n' B e') hi
      (fun out a b c d => ih (i + 1) (by omega) (by omega) out a b c d) B.length 0 (by omega) (by omega) out 0 hd hl (by omega) (by omega) hz (by simp [nv, hv])
    refine ⟨r, Ev.succ ?_, q⟩
    simp only [dyad_Num_Mul.l0]
    rw [rd_nat hi]
    exact Ev.pos (by omega) (Ev.pos (by omega) (Ev.pos (by omega) ev))
end
theorem prod_le {u v P Q : Rat} (h0 : 0 ≤ u) (h1 : u ≤ P) (h2 : 0 ≤ v) (h3 : v ≤ Q) : 0 ≤ u * v ∧ u * v ≤ P * Q :=
  ⟨Rat.mul_nonneg h0 h2, Rat.le_trans (Rat.mul_le_mul_of_nonneg_right h1 h2) (Rat.mul_le_mul_of_nonneg_left h3 (Rat.le_trans h0 h1))⟩
/-- THE PRODUCT. -/
theorem num_mul_ev {E E' : Int} {x y : Rat} {n n' : Bool} {m m' : List Int} {e e' : Int} (hE0 : 0 ≤ E) (hE : E ≤ 1000000) (hE0' : 0 ≤ E') (hE' : E' ≤ 1000000) (a : Nm E x n m e) (b : Nm E' y n' m' e') :
    ∃ r l f, Ev (fun K => dyad_Num_Mul.f K n m e n' m' e') (r, l, f) ∧ Nm (E + E') (x * y) r l f := by
  have wrap : ∀ {r : Bool} {l : List Int} {f : Int}, Can r l f → nval r l f = x * y → Nm (E + E') (x * y) r l f := by
    intro r l f c h
    obtain ⟨k, hk⟩ := a.whole
    obtain ⟨k', hk'⟩ := b.whole
    have ea : pw (-(E + E')) = pw (-E) * pw (-E') := by rw [← pw_add]; congr 1; omega
    have eb : pw (E + E') = pw E * pw E' := pw_add _ _
    obtain ⟨p0, p1⟩ := nval_abs (n := n) (e := e) a.can.1
    obtain ⟨q0, q1⟩ := nval_abs (n := n') (e := e') b.can.1
    obtain ⟨r0, r1⟩ := prod_le p0 a.hi q0 b.hi
    rw [a.val] at p1
    rw [b.val] at q1
    have s1 : x * y ≤ pw (E + E') ∧ -pw (E + E') ≤ x * y := by
      rw [eb]
      rcases p1 with p1 | p1 <;> rcases q1 with q1 | q1 <;> rw [p1, q1] <;> constructor <;> grind
    exact Nm.of (k := k * k') (by omega) c h (by rw [ea, hk, hk']; push_cast; grind) s1.1 s1.2
  obtain ⟨sa1, sa2, sa3⟩ := a.sizes hE0
  obtain ⟨sb1, sb2, sb3⟩ := b.sizes hE0'
  have da := a.can.1
  have db := b.can.1
  have nought : x * y = 0 → Nm (E + E') (x * y) false [] 0 := fun h => wrap ⟨Dig.nil, fun h => absurd rfl h, .inl ⟨rfl, rfl, rfl⟩⟩ (by rw [h]; unfold nval; simp [nv])
  by_cases h1 : m = []
  · have h0 : x = 0 := by rw [← a.val, h1]; unfold nval; cases n <;> simp [nv]
    refine ⟨false, [], 0, ?_, nought (by rw [h0]; grind)⟩
    unfold dyad_Num_Mul.f
    refine Ev.pos (by rw [h1]; rfl) (Ev.succ ?_)
    simp only [dyad_Num_Mul.j0]
    exact Ev.pos trivial (Ev.now _)
  · have hl1 : ¬ ((m.length : Int) = 0) := by have := List.length_pos_iff.mpr h1; omega
    by_cases h2 : m' = []
    · have h0 : y = 0 := by rw [← b.val, h2]; unfold nval; cases n' <;> simp [nv]
      refine ⟨false, [], 0, ?_, nought (by rw [h0]; grind)⟩
      unfold dyad_Num_Mul.f
      refine Ev.neg hl1 (Ev.succ ?_)
      simp only [dyad_Num_Mul.j0]
      exact Ev.pos (by rw [h2]; rfl) (Ev.now _)
    · have hl2 : ¬ ((m'.length : Int) = 0) := by have := List.length_pos_iff.mpr h2; omega
      have lab : m.length + m'.length ≤ 900000 := by omega
      obtain ⟨⟨r, l, f⟩, ev, cn, vl⟩ := mul_l0 da db lab (n := n) (n' := n') (e := e) (e' := e') ⟨by omega, by omega⟩ ⟨by omega, by omega⟩ m.length 0 (by omega) (by omega) (List.replicate (m.length + m'.length) 0) (Dig.zeros _) (by simp) (by
        intro k h3 h4
        simp) (by rw [nv_zeros]; simp [nv])
      refine ⟨r, l, f, ?_, wrap cn (by rw [vl, a.val, b.val])⟩
      unfold dyad_Num_Mul.f
      refine Ev.neg hl1 (Ev.succ ?_)
      simp only [dyad_Num_Mul.j0]
      have tn : ((m.length : Int) + (m'.length : Int)).toNat = m.length + m'.length := by omega
      rw [w64 (x := (m.length : Int) + (m'.length : Int)) (by omega) (by omega), tn]
      have p1 : (m.length : Int) + (m'.length : Int) ≤ 70368744177664 := by omega
      exact Ev.neg (by simpa using h2) (Ev.pos (by omega) (Ev.pos p1 ev))

/-- A power of two. -/
theorem two_ev {E a : Int} (h0 : -1048576 ≤ a) (h1 : a ≤ 1048576) (h2 : -E ≤ a) (h3 : a ≤ E) : dyad_Two.f a = some (false, [1], a) ∧ Nm E (pw a) false [1] a := by
  have n1 : nv [1] = 1 := by decide
  constructor
  · unfold dyad_Two.f
    have : mx (-1048576) (mn a 1048576) = a := by unfold mx mn; grind
    rw [this]
  · refine ⟨⟨Dig.one (by decide) (by decide), fun _ => by decide, .inr ⟨by simp, by rw [n1]; rfl⟩⟩, ?_, h2, ?_⟩
    · unfold nval; rw [n1]; simp
    · rw [n1]; have := pw_mono h3; simpa using this
theorem neg_ev {E : Int} {x : Rat} {n : Bool} {m : List Int} {e : Int} (h : Nm E x n m e) : ∃ n', dyad_Num_Neg.f n m e = some (n', m, e) ∧ Nm E (-x) n' m e := by
  unfold dyad_Num_Neg.f
  by_cases c : (m.length : Int) > 0
  · rw [if_pos c]
    refine ⟨!n, rfl, ⟨h.can.1, h.can.2.1, .inr ?_⟩, by rw [nval_neg, h.val], h.lo, h.hi⟩
    rcases h.can.2.2 with ⟨rfl, _⟩ | h2
    · simp at c
    · exact h2
  · rw [if_neg c]
    have hm : m = [] := List.length_eq_zero_iff.mp (by omega)
    subst hm
    refine ⟨false, rfl, ⟨h.can.1, h.can.2.1, .inl ⟨rfl, rfl, ?_⟩⟩, ?_, h.lo, h.hi⟩
    · rcases h.can.2.2 with ⟨_, _, h3⟩ | ⟨h3, _⟩
      · exact h3
      · exact absurd rfl h3
    · rw [← h.val]; unfold nval; cases n <;> simp [nv]
/-- Bounds that hold of the value. -/
theorem Nm.fit {E E' : Int} {x : Rat} {n : Bool} {m : List Int} {e k : Int} (h : Nm E x n m e) (hE : 0 ≤ E') (hk : x = (k : Rat) * pw (-E')) (h1 : x ≤ pw E') (h2 : -pw E' ≤ x) : Nm E' x n m e :=
  Nm.of hE h.can h.val hk h1 h2
theorem int_bounds {z : Int} {E : Int} (h0 : 0 ≤ E) (h1 : z ≤ p2 E) (h2 : -p2 E ≤ z) : (z : Rat) = ((z * p2 E : Int) : Rat) * pw (-E) ∧ (z : Rat) ≤ pw E ∧ -pw E ≤ (z : Rat) := by
  rw [pw_p2 h0]
  refine ⟨?_, by exact_mod_cast h1, by have : ((-p2 E : Int) : Rat) ≤ (z : Rat) := by exact_mod_cast h2
                                       push_cast at this; exact this⟩
  have := pw_neg_mul E
  rw [pw_p2 h0] at this
  push_cast
  grind
theorem Nm.int {E E' : Int} {z : Int} {n : Bool} {m : List Int} {e : Int} (h : Nm E (z : Rat) n m e) (hE : 0 ≤ E') (h1 : z ≤ p2 E') (h2 : -p2 E' ≤ z) : Nm E' (z : Rat) n m e :=
  let b := int_bounds hE h1 h2
  h.fit hE b.1 b.2.1 b.2.2
theorem nv_two {u : Int} (h0 : 0 ≤ u) (h1 : u < 18446744073709551616) : Dig [u % 4294967296, u / 4294967296 % 4294967296] ∧ nv [u % 4294967296, u / 4294967296 % 4294967296] = u := by
  refine ⟨Dig.mk (by omega) (by omega) (Dig.one (by omega) (by omega)), ?_⟩
  simp only [nv]
  omega
end Gim
namespace Gim
open Go Go.RowKit Go.Proofs.YtikebaljjclbnaaDoorW.PrintWords Go.Proofs.YtikebaljjclbnaaDoorW.PrintLast Go.Proofs.YtikebaljjclbnaaDoorW.PrintMore Go.Proofs.YtikebaljjclbnaaDoor.F
set_option linter.unusedVariables false
set_option linter.unusedSectionVars false

theorem nval_sgd (n : Bool) (m : List Int) (e : Int) : nval n m e = (sgd n (nv m) : Rat) * pw e := by
  unfold nval sgd
  cases n
  · simp
  · simp; grind
/-- WHAT A PATTERN IS. -/
theorem of_ev {a E : Int} (hE : E = 1074) (ha : U a) (fa : fin a) : ∃ r l f, Ev (fun K => dyad_Of.f K a) (r, l, f, true) ∧ Nm E (val a) r l f := by
  obtain ⟨e1, e2⟩ := fin_expo fa
  have uM := mant_U a
  have lM := mant_lt (m := mag a)
  have parts : ∃ p q, Ev (fun k => word_Parts.f k a) (p, q) ∧ 0 ≤ p ∧ p < 9007199254740992 ∧ -1074 ≤ q ∧ q ≤ 971 ∧ val a = (sgd (neg a) p : Rat) * pw q := by
    by_cases h : 0 < mag a
    · exact ⟨_, _, word_Parts_ev ha h fa, uM.1, lM, e1, e2, val_mant a⟩
    · have h0 : mag a = 0 := by have := (mag_lt (a := a)).1; omega
      refine ⟨0, 0, word_Parts_none ha (.inl h0), by decide, by decide, by decide, by decide, ?_⟩
      rw [val_zero_iff.mpr h0]; unfold sgd; cases neg a <;> simp
  obtain ⟨p, q, ev, p0, p1, q0, q1, hv⟩ := parts
  obtain ⟨dg, vl⟩ := nv_two (u := p) (by omega) (by omega)
  obtain ⟨r, l, f, evt, cn, v⟩ := trim_ev (neg := neg a) (e := q) dg (by simp) (by omega) (by omega)
  rw [nval_sgd (neg a), vl] at v
  refine ⟨r, l, f, ?_, ?_⟩
  · unfold dyad_Of.f
    refine Ev.call (word_Finite_eq ha) (Ev.pos (decide_eq_true fa) (Ev.bind ev (Ev.call (word_Neg_eq ha) (Ev.bind evt (Ev.now _)))))
  · have hb : rabs (val a) ≤ pw E := by
      rw [hv, rabs_sgd _ p0]
      have h1 : (p : Rat) * pw q ≤ pw 53 * pw 971 := by
        refine (prod_le ?_ ?_ (Rat.le_of_lt (pw_pos q)) (pw_mono q1)).2
        · exact_mod_cast p0
        · rw [pw_p2 (a := 53) (by decide), show p2 53 = 9007199254740992 from by decide]; exact Rat.intCast_le_intCast.mpr (Int.le_of_lt p1)
      rw [← pw_add] at h1
      exact Rat.le_trans h1 (pw_mono (by omega))
    refine Nm.of (k := sgd (neg a) p * p2 (q + E)) (by omega) cn (v.trans hv.symm) ?_ ?_ ?_
    · rw [hv]
      have : pw q = ((p2 (q + E) : Int) : Rat) * pw (-E) := by rw [← pw_p2 (by omega), ← pw_add]; congr 1; omega
      rw [this]; push_cast; grind
    · unfold rabs at hb; split at hb <;> grind
    · unfold rabs at hb; split at hb <;> grind
theorem of_none {a : Int} (ha : U a) (fa : ¬ fin a) (K : Nat) : dyad_Of.f K a = some (false, [], 0, false) := by
  unfold dyad_Of.f
  rw [word_Finite_eq ha, decide_eq_false fa]
  rfl
end Gim
namespace Gim
open Go Go.RowKit Go.Proofs.YtikebaljjclbnaaDoorW.PrintWords Go.Proofs.YtikebaljjclbnaaDoorW.PrintLast Go.Proofs.YtikebaljjclbnaaDoorW.PrintMore Go.Proofs.YtikebaljjclbnaaDoor.F
set_option linter.unusedVariables false

def rsgn (x : Rat) : Int := if x = 0 then 0 else if x < 0 then -1 else 1
theorem Nm.zero {E : Int} (hE : 0 ≤ E) : Nm E 0 false [] 0 :=
  ⟨⟨Dig.nil, fun h => absurd rfl h, .inl ⟨rfl, rfl, rfl⟩⟩, by unfold nval; simp [nv], by omega, by simp [nv]; exact Rat.le_of_lt (pw_pos E)⟩
theorem num_sub_ev {E : Int} {x y : Rat} {n n' : Bool} {m m' : List Int} {e e' : Int} (hE0 : 0 ≤ E) (hE : E ≤ 1000000) (a : Nm E x n m e) (b : Nm E y n' m' e') :
    ∃ r l f, Ev (fun K => dyad_Num_Sub.f K n m e n' m' e') (r, l, f) ∧ Nm (E + 1) (x - y) r l f := by
  obtain ⟨q, e1, nm⟩ := neg_ev b
  obtain ⟨r, l, f, ev, nm2⟩ := num_add_ev hE0 hE a nm
  refine ⟨r, l, f, ?_, by rw [Rat.sub_eq_add_neg]; exact nm2⟩
  unfold dyad_Num_Sub.f
  exact Ev.call e1 (Ev.bind ev (Ev.now _))
theorem sign_eq {E : Int} {x : Rat} {n : Bool} {m : List Int} {e : Int} (a : Nm E x n m e) : dyad_Num_Sign.f n m e = some (rsgn x) := by
  have hx := a.val
  rw [nval_sgd] at hx
  unfold dyad_Num_Sign.f rsgn
  by_cases h : m = []
  · have h0 : x = 0 := by rw [← hx, h]; unfold sgd; cases n <;> simp [nv]
    rw [if_pos (by rw [h]; rfl), if_pos h0]
  · have hp := nv_pos a.can.2.1 h
    have hl : ¬ ((m.length : Int) = 0) := by have := List.length_pos_iff.mpr h; omega
    have h0 : x ≠ 0 := by
      intro h0
      rw [h0] at hx
      have := int_pw_zero.mp hx
      unfold sgd at this; split at this <;> omega
    rw [if_neg hl, if_neg h0]
    have hs : x < 0 ↔ n = true := by
      rw [← hx, int_pw_neg]
      unfold sgd; cases n <;> simp <;> omega
    cases n
    · rw [if_neg (by decide), if_neg (by rw [hs]; decide)]
    · rw [if_pos rfl, if_pos (hs.mpr rfl)]
theorem num_cmp_ev {E : Int} {x y : Rat} {n n' : Bool} {m m' : List Int} {e e' : Int} (hE0 : 0 ≤ E) (hE : E ≤ 1000000) (a : Nm E x n m e) (b : Nm E y n' m' e') :
    Ev (fun K => dyad_Num_Cmp.f K n m e n' m' e') (rsgn (x - y)) := by
  obtain ⟨r, l, f, ev, nm⟩ := num_sub_ev hE0 hE a b
  unfold dyad_Num_Cmp.f
  exact Ev.bind ev (Ev.call (sign_eq nm) (Ev.now _))
theorem abs_ev {E : Int} {x : Rat} {n : Bool} {m : List Int} {e : Int} (a : Nm E x n m e) : dyad_Num_Abs.f n m e = some (false, m, e) ∧ Nm E (rabs x) false m e := by
  refine ⟨rfl, ?_, ?_, a.lo, a.hi⟩
  · refine ⟨a.can.1, a.can.2.1, ?_⟩
    rcases a.can.2.2 with ⟨h1, h2, h3⟩ | h
    · exact .inl ⟨h1, rfl, h3⟩
    · exact .inr h
  · have hx := a.val
    rw [nval_sgd] at hx
    rw [← hx, rabs_sgd n (nv_bounds a.can.1).1]
    unfold nval; simp

theorem int_ev {z : Int} (h0 : -9223372036854775808 ≤ z) (h1 : z ≤ 9223372036854775807) : ∃ r l f, Ev (fun K => dyad_Int.f K z) (r, l, f) ∧ Nm 64 (z : Rat) r l f := by
  have hb := int_bounds (z := z) (E := 64) (by decide) (by rw [p2_64]; omega) (by rw [p2_64]; omega)
  have wrap : ∀ {r : Bool} {l : List Int} {f : Int}, Gim.Can r l f → nval r l f = (z : Rat) → Nm 64 (z : Rat) r l f :=
    fun c h => Nm.of (by decide) c h hb.1 hb.2.1 hb.2.2
  by_cases c : z < 0
  · have w : IntKind.u64.wrap (-(IntKind.u64.wrap z)) = -z := by rw [wu64_mod, wu64_mod]; omega
    obtain ⟨dg, vl⟩ := nv_two (u := -z) (by omega) (by omega)
    obtain ⟨r, l, f, ev, cn, v⟩ := trim_ev (neg := true) (e := 0) dg (by simp) (by decide) (by decide)
    refine ⟨r, l, f, ?_, wrap cn ?_⟩
    · unfold dyad_Int.f
      rw [w, decide_eq_true c]
      exact Ev.pos c (Ev.bind ev (Ev.now _))
    · rw [v]; unfold nval; rw [vl, pw_zero]; push_cast; simp
  · have w : IntKind.u64.wrap z = z := wu64 (by omega) (by omega)
    obtain ⟨dg, vl⟩ := nv_two (u := z) (by omega) (by omega)
    obtain ⟨r, l, f, ev, cn, v⟩ := trim_ev (neg := false) (e := 0) dg (by simp) (by decide) (by decide)
    refine ⟨r, l, f, ?_, wrap cn ?_⟩
    · unfold dyad_Int.f
      rw [w, decide_eq_false c]
      exact Ev.neg c (Ev.bind ev (Ev.now _))
    · rw [v]; unfold nval; rw [vl, pw_zero]; simp

def sameAt (R C : Nat) (s : Int) (d : List Int) (r' c' s' : Int) (d' : List Int) : Prop := ∀ i, i < R → ∀ k, k < C → at4 R C s d i k = at4 r' c' s' d' i k
instance (R C : Nat) (s : Int) (d : List Int) (r' c' s' : Int) (d' : List Int) : Decidable (sameAt R C s d r' c' s' d') := by unfold sameAt; exact inferInstance
theorem same_yes_l1 {R C : Nat} {r' c' s s' : Int} (h : Sm R C s) (h' : Sm r' c' s') (d d' : List Int) {b : Bool} {i : Nat} (hi : i < R)
    (hk : Ev (fun K => mat_Matrix_Same.l0 K R ((i : Int) + 1) R C s d r' c' s' d') b) (hs : ∀ k, k < C → at4 R C s d i k = at4 r' c' s' d' i k) :
    ∀ n k : Nat, C - k = n → k ≤ C → Ev (fun K => mat_Matrix_Same.l1 K i R i C k R C s d r' c' s' d') b := by
  obtain ⟨h1, h2, h3⟩ := id h
  intro n
  induction n with
  | zero =>
    intro k e1 e2
    obtain rfl : k = C := by omega
    refine Ev.succ ?_
    simp only [mat_Matrix_Same.l1]
    refine Ev.neg (by omega) ?_
    rw [w64 (by omega) (by omega)]
    exact hk
  | succ n ih =>
    intro k e1 e2
    refine Ev.succ ?_
    simp only [mat_Matrix_Same.l1]
    refine Ev.pos (by omega) (Ev.call (at_eq h d i k) (Ev.call (at_eq h' d' i k) (Ev.pos (hs k (by omega)) ?_)))
    rw [w64 (by omega) (by omega)]
    have := ih (k + 1) (by omega) (by omega)
    exact this
theorem same_no_l1 {R C : Nat} {r' c' s s' : Int} (h : Sm R C s) (h' : Sm r' c' s') (d d' : List Int) {i : Nat} {q : Nat} (hq : q < C) (hs : at4 R C s d i q ≠ at4 r' c' s' d' i q) :
    ∀ n k : Nat, q - k = n → k ≤ q → Ev (fun K => mat_Matrix_Same.l1 K i R i C k R C s d r' c' s' d') false := by
  obtain ⟨h1, h2, h3⟩ := id h
  intro n
  induction n with
  | zero =>
    intro k e1 e2
    obtain rfl : k = q := by omega
    refine Ev.succ ?_
    simp only [mat_Matrix_Same.l1]
    exact Ev.pos (by omega) (Ev.call (at_eq h d i k) (Ev.call (at_eq h' d' i k) (Ev.neg hs (Ev.now _))))
  | succ n ih =>
    intro k e1 e2
    refine Ev.succ ?_
    simp only [mat_Matrix_Same.l1]
    refine Ev.pos (by omega) (Ev.call (at_eq h d i k) (Ev.call (at_eq h' d' i k) ?_))
    by_cases e : at4 R C s d i k = at4 r' c' s' d' i k
    · refine Ev.pos e ?_
      rw [w64 (by omega) (by omega)]
      have := ih (k + 1) (by omega) (by omega)
      exact this
    · exact Ev.neg e (Ev.now _)
theorem same_l0 {R C : Nat} {r' c' s s' : Int} (h : Sm R C s) (h' : Sm r' c' s') (d d' : List Int) :
    ∀ n i : Nat, R - i = n → i ≤ R → Ev (fun K => mat_Matrix_Same.l0 K R i R C s d r' c' s' d') (decide (∀ j, j < R → i ≤ j → ∀ k, k < C → at4 R C s d j k = at4 r' c' s' d' j k)) := by
  obtain ⟨h1, h2, h3⟩ := id h
  intro n
  induction n with
  | zero =>
    intro i e1 e2
    refine Ev.succ ?_
    simp only [mat_Matrix_Same.l0]
    refine Ev.neg (by omega) ?_
    rw [decide_eq_true (fun j hj hij => by omega)]
    exact Ev.now _
  | succ n ih =>
    intro i e1 e2
    refine Ev.succ ?_
    simp only [mat_Matrix_Same.l0]
    refine Ev.pos (by omega) ?_
    have hrec := ih (i + 1) (by omega) (by omega)
    by_cases hs : ∀ k, k < C → at4 R C s d i k = at4 r' c' s' d' i k
    · have e : decide (∀ j, j < R → i ≤ j → ∀ k, k < C → at4 R C s d j k = at4 r' c' s' d' j k) = decide (∀ j, j < R → i + 1 ≤ j → ∀ k, k < C → at4 R C s d j k = at4 r' c' s' d' j k) := by
        rw [decide_eq_decide]
        constructor
        · intro hh j hj hij; exact hh j hj (by omega)
        · intro hh j hj hij
          by_cases ej : j = i
          · subst ej; exact hs
          · exact hh j hj (by omega)
      rw [e]
      have := same_yes_l1 h h' d d' (i := i) (by omega) hrec hs C 0 (by omega) (by omega)
      exact this
    · have hs' : ∃ q, q < C ∧ at4 R C s d i q ≠ at4 r' c' s' d' i q := by
        refine Decidable.byContradiction fun hc => hs fun k hk => Decidable.byContradiction fun he => hc ⟨k, hk, he⟩
      obtain ⟨q, hq, hne⟩ := hs'
      rw [decide_eq_false (fun hh => hne (hh i (by omega) (by omega) q hq))]
      have := same_no_l1 h h' d d' (i := i) hq hne q 0 (by omega) (by omega)
      exact this
theorem mat_same_ev {R C : Nat} {r' c' s s' : Int} (h : Sm R C s) (h' : Sm r' c' s') (d d' : List Int) :
    Ev (fun K => mat_Matrix_Same.f K R C s d r' c' s' d') (decide ((R : Int) = r' ∧ (C : Int) = c' ∧ sameAt R C s d r' c' s' d')) := by
  unfold mat_Matrix_Same.f
  by_cases e : (R : Int) = r'
  · refine Ev.pos e ?_
    refine Ev.succ ?_
    simp only [mat_Matrix_Same.j0]
    by_cases e2 : (C : Int) = c'
    · refine Ev.neg (by simp [e2]) ?_
      have := same_l0 h h' d d' R 0 (by omega) (by omega)
      have e3 : decide ((R : Int) = r' ∧ (C : Int) = c' ∧ sameAt R C s d r' c' s' d') = decide (∀ j, j < R → 0 ≤ j → ∀ k, k < C → at4 R C s d j k = at4 r' c' s' d' j k) := by
        rw [decide_eq_decide]
        exact ⟨fun hh j hj _ => hh.2.2 j hj, fun hh => ⟨e, e2, fun j hj => hh j hj (by omega)⟩⟩
      rw [e3]
      exact this
    · refine Ev.pos (by simpa using e2) ?_
      rw [decide_eq_false (fun hh => e2 hh.2.1)]
      exact Ev.now _
  · refine Ev.neg e ?_
    refine Ev.succ ?_
    simp only [mat_Matrix_Same.j0]
    rw [decide_eq_false (fun hh => e hh.1)]
    exact Ev.pos trivial (Ev.now _)
end Gim

/- Texts of this claim, one behind the other: what the functions answer. -/
import Derived.Test.YtejkoahgmnejkaaDoorTx1
import Derived.Test.YtejkoahgmnejkaaDoorTx0
import Derived.Shelf.Spec.TrailingZeros
import Derived.Test.YtejkoahgmnejkaaDoorRx0
set_option linter.constructorNameAsVariable false
set_option linter.unusedSimpArgs false
set_option linter.unusedVariables false
set_option linter.unusedSectionVars false
namespace Gim
open Go Go.RowKit Go.Proofs.YtejkoahgmnejkaaDoorW.PrintWords Go.Proofs.YtejkoahgmnejkaaDoorW.PrintLast Go.Proofs.YtejkoahgmnejkaaDoorW.PrintMore Go.Proofs.YtejkoahgmnejkaaDoor.F
set_option linter.unusedVariables false
set_option linter.unusedSectionVars false

theorem gat_dense {R C : Nat} {d : List Int} (hd : d.length = R * C) : gat R C (atN R C C d) = d := by
  refine List.ext_getElem (by rw [gat_length, hd]) fun x h1 h2 => ?_
  have hx : x < R * C := by rwa [gat_length] at h1
  have hC : 0 < C := by
    rcases Nat.eq_zero_or_pos C with h | h
    · subst h; simp at hx
    · exact h
  have hk : x % C < C := Nat.mod_lt _ hC
  have hi : x / C < R := by rw [Nat.div_lt_iff_lt_mul hC]; exact hx
  have e := at_dense hd hi hk
  have e2 : x / C * C + x % C = x := Nat.div_add_mod' x C
  rw [e2, rd_lt h2] at e
  have r := rd_gat (g := atN R C C d) hi hk
  rw [e2, rd_lt h1] at r
  exact r.trans e
/-- All numbers of a list times a power of two. -/
noncomputable def S (n : Int) (d : List Int) : List Int := d.map fun x => (scl n x).1
theorem S_words {N : Nat} {d : List Int} (h : Words N d) (n : Int) : Words N (S n d) := by
  refine ⟨by unfold S; rw [List.length_map]; exact h.1, fun x hx => ?_⟩
  obtain ⟨y, hy, rfl⟩ := List.mem_map.mp hx
  exact scl_U (h.2 y hy)
theorem scale_dense {R C : Nat} (hR : R ≤ 100) (hC : C ≤ 100) {d : List Int} (h : Words (R * C) d) (n : Int) : Ev (fun K => mat_Matrix_Scale.f K R C C d n) ((R : Int), (C : Int), (C : Int), S n d, flagsOf n d (R * C)) := by
  have ev := mat_scale_ev hR hC (s := (C : Int)) (n := n) (by omega) h.2
  rw [gat_dense h.1] at ev
  exact ev
theorem fin_all {R C : Nat} {d : List Int} (hd : d.length = R * C) : (∀ j k : Nat, j < R → k < C → fin (at4 R C C d j k)) ↔ ∀ x ∈ d, fin x := by
  constructor
  · intro h x hx
    obtain ⟨n, hn, rfl⟩ := List.getElem_of_mem hx
    have hx : n < R * C := by omega
    have hC : 0 < C := by
      rcases Nat.eq_zero_or_pos C with h | h
      · subst h; simp at hx
      · exact h
    have hk : n % C < C := Nat.mod_lt _ hC
    have hi : n / C < R := by rw [Nat.div_lt_iff_lt_mul hC]; exact hx
    have e := at_dense hd hi hk
    have e2 : n / C * C + n % C = n := Nat.div_add_mod' n C
    rw [e2, rd_lt hn] at e
    rw [← e]
    exact h _ _ hi hk
  · intro h j k hj hk
    rw [at_dense hd hj hk]
    have := place_lt hj hk
    exact h _ (rd_mem (by omega) (by omega))
theorem finite_dense {R C : Nat} (hR : R ≤ 100) (hC : C ≤ 100) {d : List Int} (h : Words (R * C) d) : ∃ b, Ev (fun K => mat_Matrix_Finite.f K R C C d) b ∧ (b = true ↔ ∀ x ∈ d, fin x) := by
  obtain ⟨b, ev, hb⟩ := finite_ev (R := R) (C := C) (s := (C : Int)) (d := d) (by omega) (by omega) (by omega) h.2
  exact ⟨b, ev, hb.trans (fin_all h.1)⟩
theorem clone_dense {R C : Nat} (hR : R ≤ 100) (hC : C ≤ 100) {d : List Int} (h : d.length = R * C) : Ev (fun K => mat_Matrix_Clone.f K R C C d) ((R : Int), (C : Int), (C : Int), d) := by
  have ev := clone_ev (R := R) (C := C) (s := (C : Int)) (by omega) (by omega) (by omega) d
  rw [gat_dense h] at ev
  exact ev
theorem unit_dense {R C : Nat} (hR : R ≤ 100) (hC : C ≤ 100) {d : List Int} (h : Words (R * C) d) (hf : ∀ x ∈ d, fin x) :
    ∃ M e, Ev (fun K => mat_Matrix_Unit.f K R C C d) ((R : Int), (C : Int), (C : Int), S (-e) d, e) ∧ (∀ x ∈ d, mag x ≤ M) ∧ (M = 0 ∨ ∃ x ∈ d, mag x = M) ∧ 0 ≤ M ∧ (M = 0 → e = 0) ∧ (0 < M → pw e ≤ vm M ∧ vm M < pw (e + 1) ∧ -1074 ≤ e ∧ e ≤ 1023) := by
  obtain ⟨ρ, M, e, ev, hM, hu⟩ := unit_ev hR hC (s := (C : Int)) (by omega) h.2 ((fin_all h.1).mpr hf)
  have hl := h.1
  have hd : ρ.2.2.2.1 = S (-e) d := by
    refine List.ext_getElem (by rw [hu.len]; unfold S; rw [List.length_map, h.1]) fun n h1 h2 => ?_
    have hx : n < R * C := by rw [hu.len] at h1; exact h1
    have hC : 0 < C := by
      rcases Nat.eq_zero_or_pos C with h | h
      · subst h; simp at hx
      · exact h
    have hk : n % C < C := Nat.mod_lt _ hC
    have hi : n / C < R := by rw [Nat.div_lt_iff_lt_mul hC]; exact hx
    have e2 : n / C * C + n % C = n := Nat.div_add_mod' n C
    have a := hu.at_ _ _ hi hk
    rw [at_dense hu.len hi hk, at_dense h.1 hi hk, e2, rd_lt h1, rd_lt (by omega : n < d.length)] at a
    rw [a]; simp [S]
  refine ⟨M, e, ?_, fun x hx => ?_, ?_, hM.nn, hu.zero, hu.big⟩
  · have r := hu.r
    rw [hd] at r
    rw [← r]; exact ev
  · obtain ⟨n, hn, rfl⟩ := List.getElem_of_mem hx
    have hx : n < R * C := by omega
    have hC : 0 < C := by
      rcases Nat.eq_zero_or_pos C with h | h
      · subst h; simp at hx
      · exact h
    have hk : n % C < C := Nat.mod_lt _ hC
    have hi : n / C < R := by rw [Nat.div_lt_iff_lt_mul hC]; exact hx
    have e2 : n / C * C + n % C = n := Nat.div_add_mod' n C
    have a := hM.ge (n / C) (n % C) (.inl hi) hi hk
    rw [at_dense h.1 hi hk, e2, rd_lt hn] at a
    exact a
  · rcases hM.at_ with h0 | ⟨j, l, hj, hl, h1⟩
    · exact .inl h0
    · have := place_lt hj hl
      exact .inr ⟨_, rd_mem (l := d) (i := ((j * C + l : Nat) : Int)) (by omega) (by omega), by rw [h1, at_dense h.1 hj hl]⟩
section
variable {p q : Nat} (hp : p ≤ 3) (hq : q ≤ 3) {A B C : List Int} (hA : Words (p * p) A) (hB : Words (q * q) B) (lA : Low p A) (lB : Low q B) {minus : Bool}
include hp hq hA hB lA lB
variable (hC : Words (p * q) C)
include hC
/-- Where the sizes are right and all is finite, or not. -/
theorem solve_j3 {ρ : PS} (h : ∀ b : Bool, (b = true ↔ (∀ x ∈ A, fin x) ∧ (∀ x ∈ B, fin x) ∧ ∀ x ∈ C, fin x) → Ev (fun K => sylv_Solve.j3 K minus (ups p) (ups q) (!b) A B C p p p q q q p q q) ρ) : Ev (fun K => sylv_Solve.f K p p p A q q q B p q q C minus) ρ := by
  obtain ⟨a, ea, ha⟩ := finite_dense (R := p) (C := p) (by omega) (by omega) hA
  obtain ⟨b, eb, hb⟩ := finite_dense (R := q) (C := q) (by omega) (by omega) hB
  obtain ⟨c, ec, hc⟩ := finite_dense (R := p) (C := q) (by omega) (by omega) hC
  unfold sylv_Solve.f
  refine Ev.bind (blocks_ev hp hA lA) (Ev.bind (blocks_ev hq hB lB) (Ev.pos rfl (Ev.pos rfl (Ev.bind (check_dense (by omega) (by omega) hC.1) (Ev.pos rfl (Ev.pos rfl (Ev.succ ?_)))))))
  simp only [sylv_Solve.j0]
  refine Ev.neg (by simp) (Ev.bind ea ?_)
  cases a with
  | false => exact Ev.neg (by simp) (h false (by simp; intro z; exact absurd (ha.mpr z) (by simp)))
  | true =>
    refine Ev.pos (by trivial) (Ev.bind eb ?_)
    cases b with
    | false => exact Ev.neg (by simp) (h false (by simp; intro _ z; exact absurd (hb.mpr z) (by simp)))
    | true => exact Ev.pos (by trivial) (Ev.bind ec (h c (by rw [hc]; exact ⟨fun z => ⟨ha.mp rfl, hb.mp rfl, z⟩, fun z => z.2.2⟩)))
variable (fA : ∀ x ∈ A, fin x) (fB : ∀ x ∈ B, fin x) (fC : ∀ x ∈ C, fin x) {g f e0 : Int} {some_ any : Bool} {CU : List Int} (hg : Ev (fun K => sylv_greatest.f K p p p A q q q B) (g, some_))
  (hu : Ev (fun K => mat_Matrix_Unit.f K p q q C) ((p : Int), (q : Int), (q : Int), CU, f)) (hw : Ev (fun K => vec_Power.f K CU) (e0, any))
include fA fB fC hg hu hw
theorem solve_go {ρ : PS} (h : Ev (fun K => if any = true then (if some_ = true then ((mat_Matrix_Scale.f K p p p A (wrap64 (-g))).bind fun q20 => ((mat_Matrix_Scale.f K q q q B (wrap64 (-g))).bind fun q21 => ((mat_New.f q20.1 q21.1).bind fun q22 => (sylv_Solve.l0 K (ups p) (ups q) ((ups q).length : Int) 0 A B C q20.1 q20.2.1 q20.2.2.1 q21.1 q21.2.1 q21.2.2.1 q22.1 q22.2.1 q22.2.2.1 0 (wrap64 (f - g)) q20.1 q20.2.1 q20.2.2.1 q21.1 q21.2.1 q21.2.2.1 p q q minus 0 q20.2.2.2.1 q21.2.2.2.1 q22.2.2.2 CU)))) else (some (0, 0, 0, ([] : List Int), 0, 0, 7, A, B, C))) else ((mat_New.f p q).bind fun q23 => (some (q23.1, q23.2.1, q23.2.2.1, q23.2.2.2, 4607182418800017408, 0, 0, A, B, C)))) ρ) :
    Ev (fun K => sylv_Solve.f K p p p A q q q B p q q C minus) ρ := by
  refine solve_j3 hp hq hA hB lA lB hC fun b hb => ?_
  obtain rfl : b = true := hb.mpr ⟨fA, fB, fC⟩
  refine Ev.succ ?_
  simp only [sylv_Solve.j3]
  exact Ev.neg (by simp) (Ev.bind hg (Ev.bind hu (Ev.bind hw h)))
theorem solve_sing (ha : any = true) (hs : some_ = false) : Ev (fun K => sylv_Solve.f K p p p A q q q B p q q C minus) (0, 0, 0, [], 0, 0, 7, A, B, C) :=
  solve_go hp hq hA hB lA lB hC fA fB fC hg hu hw (Ev.pos ha (Ev.neg (by simp [hs]) (Ev.now _)))
theorem solve_run (ha : any = true) (hs : some_ = true) {ρ : PS} (h : Ev (fun K => sylv_Solve.l0 K (ups p) (ups q) ((ups q).length : Int) 0 A B C p p p q q q p q q 0 (wrap64 (f - g)) p p p q q q p q q minus 0 (S (wrap64 (-g)) A) (S (wrap64 (-g)) B) (List.replicate (p * q) 0) CU) ρ) :
    Ev (fun K => sylv_Solve.f K p p p A q q q B p q q C minus) ρ :=
  solve_go hp hq hA hB lA lB hC fA fB fC hg hu hw (Ev.pos ha (Ev.pos hs (Ev.bind (scale_dense (by omega) (by omega) hA _) (Ev.bind (scale_dense (by omega) (by omega) hB _) (Ev.call (new_eq (by omega) (by omega)) h)))))
end
section
variable {p q : Nat} (hp : p ≤ 3) (hq : q ≤ 3) {A B C : List Int} (hA : Words (p * p) A) (hB : Words (q * q) B) (lA : Low p A) (lB : Low q B) {minus : Bool}
include hp hq hA hB lA lB
theorem greatest2_ev {m : Int × Bool} (h : Ev (fun K => vec_Power.f K (A ++ B)) m) : Ev (fun K => sylv_greatest.f K p p p A q q q B) (m.1, m.2) := by
  have h1 : p * p ≤ 9 := Nat.mul_le_mul hp hp
  have h2 : q * q ≤ 9 := Nat.mul_le_mul hq hq
  have a := hA.1
  have b := hB.1
  unfold sylv_greatest.f
  exact Ev.bind (clone_dense (by omega) (by omega) hA.1) (Ev.pos (by simp only; omega) (Ev.bind (clone_dense (by omega) (by omega) hB.1) (Ev.pos (by simp only; omega) (Ev.bind h (Ev.now _)))))
theorem ab_len : (A ++ B).length ≤ 1000000 := by
  have h1 : p * p ≤ 9 := Nat.mul_le_mul hp hp
  have h2 : q * q ≤ 9 := Nat.mul_le_mul hq hq
  have a := hA.1
  have b := hB.1
  rw [List.length_append]; omega
end

theorem or8_zero {x y : Int} (hx : F8 x) (hy : F8 y) (h : Go.bits .or .u8 x y = 0) : x = 0 ∧ y = 0 := by
  have hb : B8 x ||| B8 y = 0#8 := by rw [← B8_or, h]; rfl
  have h1 : B8 x = 0#8 := by
    apply BitVec.eq_of_getLsbD_eq
    intro i hi
    have := congrArg (fun v => v.getLsbD i) hb
    simp at this
    simp [this.1]
  have h2 : B8 y = 0#8 := by
    apply BitVec.eq_of_getLsbD_eq
    intro i hi
    have := congrArg (fun v => v.getLsbD i) hb
    simp at this
    simp [this.2]
  exact ⟨F8_ext hx F8_0 (h1.trans B8_0.symm), F8_ext hy F8_0 (h2.trans B8_0.symm)⟩
theorem scl_R {n x : Int} (hx : U x) : ScaleR x (mx (-10000) (mn n 10000)) (scl n x).1 (scl n x).2 := by
  obtain ⟨r, f, ev, sr⟩ := more_Scale_ev hx n
  rw [Ev.det (scl_ev hx) ev]
  exact sr
theorem clamp {n : Int} (h0 : -10000 ≤ n) (h1 : n ≤ 10000) : mx (-10000) (mn n 10000) = n := by unfold mx mn; split <;> split <;> omega
theorem scl_F8 {n x : Int} (hx : U x) : F8 (scl n x).2 := by have := (scl_R (n := n) hx).flags; exact ⟨this.1, by omega⟩
theorem flags_zero {n : Int} : ∀ {G : List Int} (a : Int), F8 a → (∀ x ∈ G, U x) → G.foldl (fun a x => Go.bits .or .u8 a (scl n x).2) a = 0 → a = 0 ∧ ∀ x ∈ G, (scl n x).2 = 0 := by
  intro G
  induction G with
  | nil => intro a _ _ h; exact ⟨h, fun x hx => by cases hx⟩
  | cons y G ih =>
    intro a ha hu h
    simp only [List.foldl_cons] at h
    obtain ⟨h1, h2⟩ := ih _ (F8_or _ _) (fun x hx => hu x (List.mem_cons_of_mem _ hx)) h
    obtain ⟨h3, h4⟩ := or8_zero ha (scl_F8 (hu y (by simp))) h1
    refine ⟨h3, fun x hx => ?_⟩
    rcases List.mem_cons.mp hx with rfl | hx
    · exact h4
    · exact h2 x hx
theorem flagsOf_F8 {n : Int} {G : List Int} {i : Nat} : F8 (flagsOf n G i) := by
  unfold flagsOf
  have : ∀ (l : List Int) (a : Int), F8 a → F8 (l.foldl (fun a x => Go.bits .or .u8 a (scl n x).2) a) := by
    intro l
    induction l with
    | nil => intro a h; exact h
    | cons y l ih => intro a h; exact ih _ (F8_or _ _)
  exact this _ _ F8_0
theorem flagsOf_zero {N : Nat} {n : Int} {G : List Int} (hG : Words N G) (h : flagsOf n G N = 0) : ∀ x ∈ G, (scl n x).2 = 0 := by
  unfold flagsOf at h
  rw [List.take_of_length_le (by rw [hG.1]; exact Nat.le_refl _)] at h
  exact (flags_zero 0 F8_0 hG.2 h).2
/-- A number times a power of two that loses nothing. -/
structure Ex (n x y : Int) : Prop where
  u : U y
  f : fin y
  v : val y = val x * pw n
  s : neg y = neg x
  z : mag x = 0 → y = x
theorem scl_ex {n x : Int} (hx : U x) (hf : fin x) (h0 : (scl n x).2 = 0) (n0 : -10000 ≤ n) (n1 : n ≤ 10000) : Ex n x (scl n x).1 := by
  have sr := scl_R (n := n) hx
  rw [clamp n0 n1, h0] at sr
  unfold ScaleR at sr
  rw [if_neg (by rw [fin_nan hf]; decide)] at sr
  by_cases c : mag x = 0
  · rw [if_pos (.inr c)] at sr
    rw [sr.1]
    refine ⟨hx, hf, ?_, rfl, fun _ => rfl⟩
    rw [val_zero_iff.mpr c]; grind
  · have hi : ¬ (mag x = INF ∨ mag x = 0) := by
      rintro (h | h)
      · unfold fin at hf; omega
      · exact c h
    rw [if_neg hi] at sr
    obtain ⟨ev, ef⟩ := sr.exact
    refine ⟨sr.range.1, ef, ev, ?_, fun h => absurd h c⟩
    have hv : val x ≠ 0 := fun h => c (val_zero_iff.mp h)
    have hp := pw_pos n
    have hne : val x * pw n ≠ 0 := by
      intro h
      rcases Rat.mul_eq_zero.mp h with h | h
      · exact hv h
      · exact pw_ne n h
    have := sr.sign
    rw [if_neg hne] at this
    rw [this]
    have e2 : (val x * pw n < 0) ↔ val x < 0 := by
      constructor
      · intro h
        refine Rat.not_le.mp fun h2 => ?_
        have := Rat.mul_nonneg h2 (Rat.le_of_lt hp)
        grind
      · intro h
        have := Rat.mul_lt_mul_of_pos_right h hp
        grind
    have e3 : neg x = decide (val x < 0) := by
      unfold val
      cases hn : neg x with
      | false =>
        have := vm_nonneg (mag_lt (a := x)).1
        simp; grind
      | true =>
        have : 0 < vm (mag x) := vm_pos (by have := (mag_lt (a := x)).1; omega)
        simp; grind
    rw [e3]
    exact decide_eq_decide.mpr e2
theorem Ex.mag0 {n x y : Int} (h : Ex n x y) : mag y = 0 ↔ mag x = 0 := by
  rw [← val_zero_iff, ← val_zero_iff, h.v]
  constructor
  · intro e
    rcases Rat.mul_eq_zero.mp e with e | e
    · exact e
    · exact absurd e (pw_ne n)
  · intro e; rw [e]; grind
theorem Ex.vm {n x y : Int} (h : Ex n x y) : vm (mag y) = vm (mag x) * pw n := by
  have a := rabs_val y
  rw [h.v, rabs_mul, rabs_val] at a
  rw [← a]
  have : rabs (pw n) = pw n := by have := pw_pos n; unfold rabs; grind
  rw [this]
/-- Another power behind one that lost nothing is both at once. -/
theorem scl_comp {n x y : Int} (m : Int) (hx : U x) (hf : fin x) (h : Ex n x y) (m0 : -10000 ≤ m) (m1 : m ≤ 10000) (k0 : -10000 ≤ m + n) (k1 : m + n ≤ 10000) : (scl m y).1 = (scl (m + n) x).1 := by
  have a := scl_R (n := m) h.u
  have b := scl_R (n := m + n) hx
  rw [clamp m0 m1] at a
  rw [clamp k0 k1] at b
  unfold ScaleR at a b
  rw [if_neg (by rw [fin_nan h.f]; decide)] at a
  rw [if_neg (by rw [fin_nan hf]; decide)] at b
  by_cases c : mag x = 0
  · rw [if_pos (.inr (h.mag0.mpr c))] at a
    rw [if_pos (.inr c)] at b
    rw [a.1, b.1, h.z c]
  · have f1 := h.f
    unfold fin at f1 hf
    have hi : ¬ (mag x = INF ∨ mag x = 0) := by
      rintro (h | h)
      · omega
      · exact c h
    have hi2 : ¬ (mag y = INF ∨ mag y = 0) := by
      rintro (h2 | h2)
      · omega
      · exact c (h.mag0.mp h2)
    rw [if_neg hi2, h.v, h.s] at a
    rw [if_neg hi] at b
    have e : val x * pw n * pw m = val x * pw (m + n) := by rw [pw_add]; grind
    rw [e] at a
    exact (a.unique b).1
theorem S_comp {n : Int} {d : List Int} (m : Int) (hu : ∀ x ∈ d, U x) (hf : ∀ x ∈ d, fin x) (hz : ∀ x ∈ d, (scl n x).2 = 0) (n0 : -10000 ≤ n) (n1 : n ≤ 10000) (m0 : -10000 ≤ m) (m1 : m ≤ 10000) (k0 : -10000 ≤ m + n) (k1 : m + n ≤ 10000) : S m (S n d) = S (m + n) d := by
  unfold S
  rw [List.map_map]
  refine List.map_congr_left fun x hx => ?_
  exact scl_comp m (hu x hx) (hf x hx) (scl_ex (hu x hx) (hf x hx) (hz x hx) n0 n1) m0 m1 k0 k1
theorem S_fin {n : Int} {d : List Int} (hu : ∀ x ∈ d, U x) (hf : ∀ x ∈ d, fin x) (hz : ∀ x ∈ d, (scl n x).2 = 0) (n0 : -10000 ≤ n) (n1 : n ≤ 10000) : ∀ y ∈ S n d, fin y := by
  intro y hy
  obtain ⟨x, hx, rfl⟩ := List.mem_map.mp hy
  exact (scl_ex (hu x hx) (hf x hx) (hz x hx) n0 n1).f
/-- The greatest of numbers goes with the power. -/
theorem S_most {n : Int} {d : List Int} (hu : ∀ x ∈ d, U x) (hf : ∀ x ∈ d, fin x) (hz : ∀ x ∈ d, (scl n x).2 = 0) (n0 : -10000 ≤ n) (n1 : n ≤ 10000) {M M' : Int} (h1 : ∀ x ∈ d, mag x ≤ M) (h2 : M = 0 ∨ ∃ x ∈ d, mag x = M) (h3 : 0 ≤ M)
    (h1' : ∀ x ∈ S n d, mag x ≤ M') (h2' : M' = 0 ∨ ∃ x ∈ S n d, mag x = M') (h3' : 0 ≤ M') : (M = 0 → M' = 0) ∧ (0 < M → 0 < M' ∧ vm M' = vm M * pw n) := by
  have ex : ∀ x ∈ d, Ex n x (scl n x).1 := fun x hx => scl_ex (hu x hx) (hf x hx) (hz x hx) n0 n1
  have hp := pw_pos n
  refine ⟨fun h => ?_, fun h => ?_⟩
  · rcases h2' with h' | ⟨y, hy, rfl⟩
    · exact h'
    · obtain ⟨x, hx, rfl⟩ := List.mem_map.mp hy
      have := h1 x hx
      have := (mag_lt (a := x)).1
      exact (ex x hx).mag0.mpr (by omega)
  · rcases h2 with h' | ⟨x, hx, rfl⟩
    · omega
    · have hy := h1' (scl n x).1 (List.mem_map.mpr ⟨x, hx, rfl⟩)
      have p1 : 0 < mag (scl n x).1 := by
        have := (mag_lt (a := (scl n x).1)).1
        have : mag (scl n x).1 ≠ 0 := fun e => by have := (ex x hx).mag0.mp e; omega
        omega
      refine ⟨by omega, ?_⟩
      rcases h2' with h' | ⟨y, hy2, e⟩
      · omega
      · obtain ⟨z, hz2, rfl⟩ := List.mem_map.mp hy2
        have a := (ex x hx).vm
        have b := (ex z hz2).vm
        rw [e] at b
        have c := vm_mono (mag_lt (a := z)).1 (h1 z hz2)
        have d := vm_mono (by omega) hy
        rw [a] at d
        have e2 := Rat.mul_le_mul_of_nonneg_right c (Rat.le_of_lt hp)
        rw [← b] at e2
        exact Rat.le_antisymm e2 d
/-- Divided by the power beneath the greatest: finite, and not all are zeros. -/
theorem unit_fin {d : List Int} (hu : ∀ x ∈ d, U x) (hf : ∀ x ∈ d, fin x) {M e : Int} (h1 : ∀ x ∈ d, mag x ≤ M) (h2 : M = 0 ∨ ∃ x ∈ d, mag x = M) (h3 : 0 < M) (b1 : pw e ≤ vm M) (b2 : vm M < pw (e + 1)) (e0 : -1074 ≤ e) (e1 : e ≤ 1023) :
    (∀ y ∈ S (-e) d, fin y) ∧ ∃ y ∈ S (-e) d, mag y ≠ 0 := by
  have hp := pw_pos (-e)
  have hpe : pw (-e) * pw e = 1 := pw_neg_mul e
  have two : vm 4611686018427387904 = 2 := by decide +kernel
  have one : vm 4607182418800017408 = 1 := by decide +kernel
  have rb2 : RB (vm 4611686018427387904) 4611686018427387904 0 := RB.self (by decide) (by decide)
  have rb1 : RB (vm 4607182418800017408) 4607182418800017408 0 := RB.self (by decide) (by decide)
  have key : ∀ x ∈ d, mag x ≠ 0 → ∃ m f, RB (rabs (val x * pw (-e))) m f ∧ mag (scl (-e) x).1 = m := by
    intro x hx c
    have sr := scl_R (n := -e) (hu x hx)
    rw [clamp (by omega) (by omega)] at sr
    unfold ScaleR at sr
    have hfx := hf x hx
    have hi : ¬ (mag x = INF ∨ mag x = 0) := by
      rintro (h | h)
      · unfold fin at hfx; omega
      · exact c h
    rw [if_neg (by rw [fin_nan hfx]; decide), if_neg hi] at sr
    have hne : val x * pw (-e) ≠ 0 := by
      intro h
      rcases Rat.mul_eq_zero.mp h with h | h
      · exact c (val_zero_iff.mp h)
      · exact pw_ne _ h
    obtain ⟨m, hm, e⟩ := sr.num hne
    refine ⟨m, _, hm, ?_⟩
    have := hm.range
    have hI : INF < 9223372036854775808 := by decide
    rw [e, mag_signed (by omega) (by omega)]
  have habs : ∀ x, rabs (val x * pw (-e)) = vm (mag x) * pw (-e) := by
    intro x
    rw [rabs_mul, rabs_val]
    have : rabs (pw (-e)) = pw (-e) := by unfold rabs; grind
    rw [this]
  refine ⟨fun y hy => ?_, ?_⟩
  · obtain ⟨x, hx, rfl⟩ := List.mem_map.mp hy
    by_cases c : mag x = 0
    · have sr := scl_R (n := -e) (hu x hx)
      unfold ScaleR at sr
      rw [if_neg (by rw [fin_nan (hf x hx)]; decide), if_pos (.inr c)] at sr
      rw [sr.1]; exact hf x hx
    · obtain ⟨m, f, hm, e2⟩ := key x hx c
      rw [habs] at hm
      have hle := vm_mono (mag_lt (a := x)).1 (h1 x hx)
      have : vm (mag x) * pw (-e) ≤ vm 4611686018427387904 := by
        have a := Rat.mul_le_mul_of_nonneg_right (Rat.le_trans hle (Rat.le_of_lt b2)) (Rat.le_of_lt hp)
        rw [pw_succ] at a
        rw [two]
        have : 2 * pw e * pw (-e) = 2 := by grind
        grind
      have := hm.mono rb2 this
      unfold fin
      rw [e2]
      have : (4611686018427387904 : Int) < INF := by decide
      omega
  · rcases h2 with h' | ⟨x, hx, rfl⟩
    · omega
    · obtain ⟨m, f, hm, e2⟩ := key x hx (by omega)
      rw [habs] at hm
      have : vm 4607182418800017408 ≤ vm (mag x) * pw (-e) := by
        have a := Rat.mul_le_mul_of_nonneg_right b1 (Rat.le_of_lt hp)
        rw [one]
        grind
      have := rb1.mono hm this
      exact ⟨_, List.mem_map.mpr ⟨x, hx, rfl⟩, by rw [e2]; omega⟩
theorem S_low {R : Nat} (n : Int) {d : List Int} (hd : Words (R * R) d) (h : Low R d) : Low R (S n d) := by
  intro i k hi hk
  have hkR : k < R := by omega
  have h0 := h i k hi hk
  rw [at_dense hd.1 hi hkR] at h0
  have hl := (S_words hd n).1
  have hp := place_lt hi hkR
  rw [at_dense hl hi hkR]
  have e : rd (S n d) ((i * R + k : Nat) : Int) = (scl n (rd d ((i * R + k : Nat) : Int))).1 := by
    have hdl := hd.1
    unfold S
    rw [rd_map (by omega), rd_lt (by omega)]
  rw [e, h0]
  have sr := scl_R (n := n) U_zero
  unfold ScaleR at sr
  rw [if_neg (by decide), if_pos (.inr (by decide))] at sr
  exact sr.1
end Gim
namespace Gim
set_option linter.unusedVariables false

/-- The whole number of a list of digits. -/
def nv : List Int → Int
  | [] => 0
  | d :: l => d + 4294967296 * nv l
def Dig (l : List Int) : Prop := ∀ x ∈ l, 0 ≤ x ∧ x < 4294967296
/-- 2^(32 n). -/
def bp (n : Nat) : Int := 4294967296 ^ n
theorem bp_zero : bp 0 = 1 := rfl
theorem bp_succ (n : Nat) : bp (n + 1) = 4294967296 * bp n := by unfold bp; rw [Int.pow_succ, Int.mul_comm]
theorem bp_pos (n : Nat) : 0 < bp n := by unfold bp; exact Int.pow_pos (by decide)
theorem bp_add (m n : Nat) : bp (m + n) = bp m * bp n := by unfold bp; exact Int.pow_add _ _ _
theorem bp_mono {m n : Nat} (h : m ≤ n) : bp m ≤ bp n := by
  obtain ⟨k, rfl⟩ : ∃ k, n = m + k := ⟨n - m, by omega⟩
  rw [bp_add]
  have h1 := bp_pos m
  have h2 := bp_pos k
  have := Int.mul_le_mul_of_nonneg_left (show 1 ≤ bp k by omega) (Int.le_of_lt h1)
  omega
theorem bp_pw (n : Nat) : ((bp n : Int) : Rat) = pw (32 * n) := by
  have : bp n = 2 ^ (32 * n) := by unfold bp; rw [Int.pow_mul]; rfl
  have e : ((32 * (n : Int)) : Int) = ((32 * n : Nat) : Int) := by omega
  rw [this, e, pw_nat]
theorem nv_cons (d : Int) (l : List Int) : nv (d :: l) = d + 4294967296 * nv l := rfl
theorem nv_append (l l' : List Int) : nv (l ++ l') = nv l + bp l.length * nv l' := by
  induction l with
  | nil => simp [nv, bp_zero]
  | cons d l ih =>
    rw [List.cons_append, nv_cons, nv_cons, ih, List.length_cons, bp_succ]
    grind
theorem nv_snoc (l : List Int) (d : Int) : nv (l ++ [d]) = nv l + bp l.length * d := by rw [nv_append]; simp [nv]
theorem nv_zeros (n : Nat) : nv (List.replicate n 0) = 0 := by
  induction n with
  | zero => rfl
  | succ n ih => rw [List.replicate_succ, nv_cons, ih]; rfl
theorem Dig.nil : Dig [] := by intro x hx; cases hx
theorem Dig.cons {d : Int} {l : List Int} (h : Dig (d :: l)) : (0 ≤ d ∧ d < 4294967296) ∧ Dig l := ⟨h d List.mem_cons_self, fun x hx => h x (List.mem_cons_of_mem _ hx)⟩
theorem Dig.mk {d : Int} {l : List Int} (h0 : 0 ≤ d) (h1 : d < 4294967296) (h : Dig l) : Dig (d :: l) := by
  intro x hx
  rcases List.mem_cons.mp hx with rfl | hx
  · exact ⟨h0, h1⟩
  · exact h x hx
theorem Dig.append {l l' : List Int} (h : Dig l) (h' : Dig l') : Dig (l ++ l') := by
  intro x hx
  rcases List.mem_append.mp hx with hx | hx
  · exact h x hx
  · exact h' x hx
theorem Dig.one {d : Int} (h0 : 0 ≤ d) (h1 : d < 4294967296) : Dig [d] := Dig.mk h0 h1 Dig.nil
theorem Dig.take {l : List Int} (h : Dig l) (n : Nat) : Dig (l.take n) := fun x hx => h x (List.mem_of_mem_take hx)
theorem Dig.drop {l : List Int} (h : Dig l) (n : Nat) : Dig (l.drop n) := fun x hx => h x (List.mem_of_mem_drop hx)
theorem Dig.zeros (n : Nat) : Dig (List.replicate n 0) := by
  intro x hx
  rw [(List.mem_replicate.mp hx).2]
  decide
theorem Dig.set {l : List Int} (h : Dig l) (i : Nat) {v : Int} (h0 : 0 ≤ v) (h1 : v < 4294967296) : Dig (l.set i v) := by
  intro x hx
  rcases List.mem_or_eq_of_mem_set hx with hx | hx
  · exact h x hx
  · rw [hx]; exact ⟨h0, h1⟩
theorem Dig.get {l : List Int} (h : Dig l) {i : Nat} (hi : i < l.length) : 0 ≤ l[i] ∧ l[i] < 4294967296 := h _ (List.getElem_mem hi)
theorem nv_bounds {l : List Int} (h : Dig l) : 0 ≤ nv l ∧ nv l < bp l.length := by
  induction l with
  | nil => exact ⟨Int.le_refl _, by rw [List.length_nil, bp_zero]; decide⟩
  | cons d l ih =>
    obtain ⟨⟨h0, h1⟩, h2⟩ := h.cons
    obtain ⟨a, b⟩ := ih h2
    rw [nv_cons, List.length_cons, bp_succ]
    omega
theorem nv_take_drop (l : List Int) (n : Nat) (h : n ≤ l.length) : nv l = nv (l.take n) + bp n * nv (l.drop n) := by
  have := nv_append (l.take n) (l.drop n)
  rwa [List.take_append_drop, List.length_take, Nat.min_eq_left h] at this
theorem nv_set {l : List Int} {i : Nat} (h : i < l.length) (v : Int) : nv (l.set i v) = nv l + bp i * (v - l[i]) := by
  induction l generalizing i with
  | nil => simp at h
  | cons d l ih =>
    cases i with
    | zero => simp [nv, bp_zero]; omega
    | succ i =>
      have hi : i < l.length := by simpa using h
      rw [List.set_cons_succ, nv_cons, nv_cons, ih hi, bp_succ]
      simp only [List.getElem_cons_succ]
      grind
theorem nv_take_succ {l : List Int} {i : Nat} (h : i < l.length) : nv (l.take (i + 1)) = nv (l.take i) + bp i * l[i] := by
  rw [List.take_succ_eq_append_getElem h, nv_snoc, List.length_take, Nat.min_eq_left (by omega)]
theorem nv_drop {l : List Int} {i : Nat} (h : i < l.length) : nv (l.drop i) = l[i] + 4294967296 * nv (l.drop (i + 1)) := by
  rw [List.drop_eq_getElem_cons h, nv_cons]
theorem nv_inj {l l' : List Int} (h : Dig l) (h' : Dig l') (hl : l.length = l'.length) (e : nv l = nv l') : l = l' := by
  induction l generalizing l' with
  | nil => cases l' with
    | nil => rfl
    | cons d l => simp at hl
  | cons d l ih =>
    cases l' with
    | nil => simp at hl
    | cons d' l' =>
      obtain ⟨⟨a, b⟩, c⟩ := h.cons
      obtain ⟨⟨a', b'⟩, c'⟩ := h'.cons
      rw [nv_cons, nv_cons] at e
      have e1 : d = d' := by omega
      subst e1
      rw [ih c c' (by simpa using hl) (by omega)]
/-- Nothing but the number: no nought on top. -/
def Top (l : List Int) : Prop := l ≠ [] → bp (l.length - 1) ≤ nv l
theorem Top.length_le {l : List Int} (h : Top l) {n : Nat} (hn : nv l < bp n) : l.length ≤ n := by
  by_cases he : l = []
  · subst he; simp
  · have h1 := h he
    refine Decidable.byContradiction fun hc => ?_
    have := bp_mono (show n ≤ l.length - 1 by omega)
    omega
theorem Top.inj {l l' : List Int} (h : Dig l) (h' : Dig l') (t : Top l) (t' : Top l') (e : nv l = nv l') : l = l' := by
  have b := nv_bounds h
  have b' := nv_bounds h'
  have h1 := t.length_le (n := l'.length) (by omega)
  have h2 := t'.length_le (n := l.length) (by omega)
  exact nv_inj h h' (by omega) e
theorem Top.of_last {l : List Int} (h : Dig l) (hl : 0 < l.length) (hz : l[l.length - 1]'(by omega) ≠ 0) : Top l := by
  intro _
  have h1 := nv_take_succ (l := l) (i := l.length - 1) (by omega)
  rw [show l.length - 1 + 1 = l.length by omega, List.take_length] at h1
  have h2 := (nv_bounds (h.take (l.length - 1))).1
  have h3 := h.get (i := l.length - 1) (by omega)
  have h4 := bp_pos (l.length - 1)
  have : bp (l.length - 1) * 1 ≤ bp (l.length - 1) * l[l.length - 1] := Int.mul_le_mul_of_nonneg_left (by omega) (by omega)
  omega
theorem nv_pos {l : List Int} (t : Top l) (he : l ≠ []) : 0 < nv l := by
  have := t he
  have := bp_pos (l.length - 1)
  omega
/-- A nought on top may go. -/
theorem nv_last_zero {l : List Int} (hl : 0 < l.length) (hz : l[l.length - 1]'(by omega) = 0) : nv (l.take (l.length - 1)) = nv l := by
  have h1 := nv_take_succ (l := l) (i := l.length - 1) (by omega)
  rw [show l.length - 1 + 1 = l.length by omega, List.take_length, hz] at h1
  omega
/-- A number's digits, divided by P, where P times Q is 2^32. -/
def dn (P Q : Int) : List Int → List Int
  | [] => []
  | a :: l => (a / P + (l.headD 0 % P) * Q) :: dn P Q l
theorem dn_length (P Q : Int) (l : List Int) : (dn P Q l).length = l.length := by
  induction l with
  | nil => rfl
  | cons a l ih => simp [dn, ih]
theorem dn_nv {P Q : Int} (hP : 0 < P) (hPQ : P * Q = 4294967296) (l : List Int) : nv (dn P Q l) * P + l.headD 0 % P = nv l := by
  induction l with
  | nil => simp [dn, nv]
  | cons a l ih =>
    have h1 := Int.emod_add_mul_ediv a P
    simp only [dn, nv_cons, List.headD_cons]
    rw [← ih]
    grind
theorem dn_get {P Q : Int} {l : List Int} {i : Nat} (h : i < l.length) : (dn P Q l)[i]'(by rw [dn_length]; exact h) = l[i] / P + (if h2 : i + 1 < l.length then l[i + 1] % P else 0) * Q := by
  induction l generalizing i with
  | nil => simp at h
  | cons a l ih =>
    cases i with
    | zero =>
      cases l with
      | nil => simp [dn]
      | cons b l => simp [dn]
    | succ i =>
      have hi : i < l.length := by simpa using h
      simp only [dn, List.getElem_cons_succ, ih hi]
      by_cases h2 : i + 1 < l.length
      · rw [dif_pos h2, dif_pos (by simpa using h2)]
      · rw [dif_neg h2, dif_neg (by simpa using h2)]
theorem dn_dig {P Q : Int} (hP : 0 < P) (hQ : 0 < Q) (hPQ : P * Q = 4294967296) {l : List Int} (h : Dig l) : Dig (dn P Q l) := by
  induction l with
  | nil => exact Dig.nil
  | cons a l ih =>
    obtain ⟨⟨h0, h1⟩, h2⟩ := h.cons
    have d0 := Int.ediv_nonneg h0 (Int.le_of_lt hP)
    have d1 : a / P < Q := Int.ediv_lt_of_lt_mul hP (by rw [Int.mul_comm]; omega)
    have r0 := Int.emod_nonneg (l.headD 0) (show P ≠ 0 by omega)
    have r1 := Int.emod_lt_of_pos (l.headD 0) hP
    have m0 := Int.mul_nonneg r0 (Int.le_of_lt hQ)
    have m1 : (l.headD 0 % P) * Q ≤ (P - 1) * Q := Int.mul_le_mul_of_nonneg_right (by omega) (Int.le_of_lt hQ)
    have m2 : (P - 1) * Q = 4294967296 - Q := by grind
    exact Dig.mk (by omega) (by omega) (ih h2)
/-- Of a list the first i stand, the others are noughts. -/
def stp (L : List Int) (i : Nat) : List Int := L.take i ++ List.replicate (L.length - i) 0
theorem stp_length {L : List Int} {i : Nat} (h : i ≤ L.length) : (stp L i).length = L.length := by simp [stp]; omega
theorem stp_zero (L : List Int) : stp L 0 = List.replicate L.length 0 := by simp [stp]
theorem stp_full (L : List Int) : stp L L.length = L := by simp [stp]
theorem stp_set {L : List Int} {i : Nat} (h : i < L.length) : (stp L i).set i L[i] = stp L (i + 1) := by
  apply List.ext_getElem
  · rw [List.length_set, stp_length (by omega), stp_length (by omega)]
  · intro x h1 h2
    have hx : x < L.length := by rw [stp_length (by omega)] at h2; exact h2
    have get : ∀ j, (hj : j ≤ L.length) → ∀ hh : x < (stp L j).length, (stp L j)[x] = if x < j then L[x] else 0 := by
      intro j hj hh
      simp only [stp]
      by_cases c : x < j
      · rw [if_pos c, List.getElem_append_left (by simp; omega)]
        simp
      · rw [if_neg c, List.getElem_append_right (by simp; omega)]
        simp
    rw [List.getElem_set, get (i + 1) (by omega) h2]
    by_cases e : i = x
    · subst e
      rw [if_pos rfl, if_pos (by omega)]
    · rw [if_neg e, get i (by omega) _]
      by_cases c : x < i
      · rw [if_pos c, if_pos (by omega)]
      · rw [if_neg c, if_neg (by omega)]
end Gim
namespace Gim
open Go Go.RowKit Go.Proofs.YtejkoahgmnejkaaDoorW.PrintWords Go.Proofs.YtejkoahgmnejkaaDoorW.PrintLast Go.Proofs.YtejkoahgmnejkaaDoorW.PrintMore Go.Proofs.YtejkoahgmnejkaaDoor.F
set_option linter.unusedVariables false

theorem wu32_mod (x : Int) : IntKind.u32.wrap x = x % 4294967296 := by simp [IntKind.wrap, IntKind.bits, IntKind.signed]
theorem wraps_u32 (n : Int) (h₀ : 0 ≤ n) (h₁ : n < 2 ^ 32) : IntKind.u32.wrap n = n := by
  rw [wu32_mod]; have : n < 4294967296 := by simpa using h₁
  omega
theorem u32_or (i : Nat) {x y : Int} (hx₀ : 0 ≤ x) (hx : x % 2 ^ i = 0) (hx₁ : x < 4294967296) (hy₀ : 0 ≤ y) (hy : y < 2 ^ i) (hy₁ : y < 4294967296) : bits .or .u32 x y = x + y :=
  bits_join .u32 32 (by decide) wraps_u32 i x y hx₀ hx (by simpa using hx₁) hy₀ hy (by simpa using hy₁)
theorem shl_u32 {x n : Int} (hn : 0 ≤ n) (hn' : n ≤ 32) : shl .u32 x n = x * p2 n % 4294967296 := by
  unfold shl p2
  rw [wu32_mod, Nat.min_eq_left (by show n.toNat ≤ 32; omega)]
theorem shr_u32 {x n : Int} (hn : 0 ≤ n) (hn' : n ≤ 32) : shr .u32 x n = x / p2 n := by
  unfold shr p2
  rw [Nat.min_eq_left (by show n.toNat ≤ 32; omega)]
theorem p2_32 : p2 32 = 4294967296 := by decide
theorem p2_split {s : Int} (h0 : 0 ≤ s) (h1 : s ≤ 32) : p2 s * p2 (32 - s) = 4294967296 := by
  rw [← p2_add h0 (by omega), show s + (32 - s) = 32 by omega, p2_32]
theorem rd_nat {l : List Int} {i : Nat} (h : i < l.length) : rd l (i : Int) = l[i] := by
  unfold rd; simp [List.getD_eq_getElem?_getD, h]
theorem rd_zero {l : List Int} (h : 0 < l.length) : rd l 0 = l[0] := rd_nat (i := 0) h
theorem p2_mod {s : Int} (h0 : 0 ≤ s) (x : Int) : (x * p2 s) % 2 ^ s.toNat = 0 := Int.mul_emod_left _ _

section
variable {m : List Int} {s : Int} (hm : Dig m) (h0 : 0 < s) (h1 : s < 32) (hl : m.length ≤ 1000000)
include hm h0 h1 hl
theorem down_l0 : ∀ n i : Nat, m.length - i = n → i ≤ m.length → ∀ r, Ev (fun K => dyad_down.l0 K m s (dn (p2 s) (p2 (32 - s)) m) m.length m.length) r →
    Ev (fun K => dyad_down.l0 K m s (stp (dn (p2 s) (p2 (32 - s)) m) i) m.length i) r := by
  intro n
  induction n with
  | zero =>
    intro i e1 e2 r hr
    obtain rfl : i = m.length := by omega
    have := stp_full (dn (p2 s) (p2 (32 - s)) m)
    rw [dn_length] at this
    rw [this]; exact hr
  | succ n ih =>
    intro i e1 e2 r hr
    have hi : i < m.length := by omega
    have hP := p2_pos s
    have hQ := p2_pos (32 - s)
    have hPQ := p2_split (s := s) (by omega) (by omega)
    have hD := dn_length (p2 s) (p2 (32 - s)) m
    have sl : (stp (dn (p2 s) (p2 (32 - s)) m) i).length = m.length := by rw [stp_length (by omega), hD]
    have hg := dn_get (P := p2 s) (Q := p2 (32 - s)) hi
    have hset := stp_set (L := dn (p2 s) (p2 (32 - s)) m) (i := i) (by omega)
    have hrec := ih (i + 1) (by omega) (by omega) r hr
    have hd := hm.get hi
    refine Ev.succ ?_
    simp only [dyad_down.l0]
    refine Ev.pos (by omega) (Ev.pos (by omega) (Ev.pos (by omega) (Ev.pos (by omega) (Ev.pos (by omega) ?_))))
    rw [rd_nat hi, shr_u32 (by omega) (by omega), Int.toNat_natCast, w64 (x := (i : Int) + 1) (by omega) (by omega)]
    by_cases h2 : i + 1 < m.length
    · refine Ev.pos (by omega) (Ev.pos (by omega) ?_)
      rw [w64 (x := 32 - s) (by omega) (by omega)]
      refine Ev.pos (by omega) ?_
      have hd2 := hm.get h2
      have e3 : rd m ((i : Int) + 1) = m[i + 1] := rd_nat (i := i + 1) h2
      have e4 : rd ((stp (dn (p2 s) (p2 (32 - s)) m) i).set i (m[i] / p2 s)) (i : Int) = m[i] / p2 s := by
        rw [rd_nat (by rw [List.length_set]; omega)]; simp
      have e5 : m[i + 1] * p2 (32 - s) % 4294967296 = (m[i + 1] % p2 s) * p2 (32 - s) := by
        rw [← hPQ, Int.mul_comm m[i + 1], Int.mul_comm (p2 s), Int.mul_emod_mul_of_pos _ _ hQ, Int.mul_comm]
      have d0 := Int.ediv_nonneg hd.1 (Int.le_of_lt hP)
      have d1 : m[i] / p2 s < p2 (32 - s) := Int.ediv_lt_of_lt_mul hP (by rw [Int.mul_comm]; omega)
      have r0 := Int.emod_nonneg m[i + 1] (show p2 s ≠ 0 by omega)
      have r1 := Int.emod_lt_of_pos m[i + 1] hP
      have m0 := Int.mul_nonneg r0 (Int.le_of_lt hQ)
      have m1 : (m[i + 1] % p2 s) * p2 (32 - s) ≤ (p2 s - 1) * p2 (32 - s) := Int.mul_le_mul_of_nonneg_right (by omega) (Int.le_of_lt hQ)
      have m2 : (p2 s - 1) * p2 (32 - s) = 4294967296 - p2 (32 - s) := by grind
      rw [e3, e4, shl_u32 (by omega) (by omega), e5, bits_or_comm, u32_or (32 - s).toNat m0 (p2_mod (by omega) _) (by omega) d0 d1 (by omega), List.set_set]
      rw [dif_pos h2] at hg
      rw [Int.add_comm, ← hg, hset]
      exact hrec
    · refine Ev.neg (by omega) ?_
      rw [dif_neg h2, Int.zero_mul, Int.add_zero] at hg
      rw [← hg, hset]
      exact hrec
/-- Down: a number divided by 2^s, which divides it. -/
theorem down_ev (hT : Top m) (hne : m ≠ []) (hd : nv m % p2 s = 0) : ∃ r, Ev (fun K => dyad_down.f K m s) r ∧ Dig r ∧ Top r ∧ nv r * p2 s = nv m ∧ r.length ≤ m.length ∧ r ≠ [] := by
  have hP := p2_pos s
  have hQ := p2_pos (32 - s)
  have hPQ := p2_split (s := s) (by omega) (by omega)
  have hD := dn_length (p2 s) (p2 (32 - s)) m
  have hpos := nv_pos hT hne
  have hlen : 0 < m.length := List.length_pos_iff.mpr hne
  have hdd := dn_dig hP hQ hPQ hm
  have hv : nv (dn (p2 s) (p2 (32 - s)) m) * p2 s = nv m := by
    have h2 := dn_nv hP hPQ m
    have h3 : m.headD 0 % p2 s = 0 := by
      rw [← h2, Int.add_emod, Int.mul_emod_left, Int.zero_add, Int.emod_emod_of_dvd _ (Int.dvd_refl _), Int.emod_emod_of_dvd _ (Int.dvd_refl _)] at hd
      exact hd
    omega
  have hvpos : 0 < nv (dn (p2 s) (p2 (32 - s)) m) := by
    refine Decidable.byContradiction fun hc => ?_
    have := Int.mul_le_mul_of_nonneg_right (show nv (dn (p2 s) (p2 (32 - s)) m) ≤ 0 by omega) (Int.le_of_lt hP)
    omega
  have start : ∀ r, Ev (fun K => dyad_down.l0 K m s (dn (p2 s) (p2 (32 - s)) m) m.length m.length) r → Ev (fun K => dyad_down.f K m s) r := by
    intro r hr
    unfold dyad_down.f
    have p1 : (m.length : Int) ≤ 70368744177664 := by omega
    refine Ev.pos (Int.natCast_nonneg _) (Ev.pos p1 ?_)
    have := down_l0 hm h0 h1 hl m.length 0 (by omega) (by omega) r hr
    rw [stp_zero, hD] at this
    rw [Int.toNat_natCast]
    exact this
  generalize hL : dn (p2 s) (p2 (32 - s)) m = L at *
  by_cases hz : L[L.length - 1]'(by omega) = 0
  · refine ⟨L.take (L.length - 1), start _ (Ev.succ ?_), hdd.take _, ?_, ?_, ?_, ?_⟩
    · simp only [dyad_down.l0]
      refine Ev.neg (by omega) (Ev.pos (by omega) ?_)
      rw [w64 (by omega) (by omega)]
      have e : ((L.length : Int) - 1) = ((L.length - 1 : Nat) : Int) := by omega
      rw [e]
      refine Ev.pos (by omega) (Ev.pos (by omega) (Ev.pos (by rw [rd_nat (by omega)]; exact hz) (Ev.pos (by omega) (Ev.pos (by omega) ?_))))
      rw [Int.toNat_natCast]
      exact Ev.now _
    · intro hne2
      have e2 := nv_last_zero (l := L) (by omega) hz
      have h3 := hT hne
      rw [List.length_take, Nat.min_eq_left (by omega), e2]
      have hn2 : 2 ≤ m.length := by
        refine Decidable.byContradiction fun hc => ?_
        apply hne2
        rw [show L.length - 1 = 0 by omega, List.take_zero]
      have h4 : bp (m.length - 1) = 4294967296 * bp (m.length - 2) := by rw [← bp_succ, show m.length - 2 + 1 = m.length - 1 by omega]
      have h5 := bp_pos (m.length - 2)
      rw [show L.length - 1 - 1 = m.length - 2 by omega]
      refine Decidable.byContradiction fun hc => ?_
      have h6 := Int.mul_le_mul_of_nonneg_right (show nv L ≤ bp (m.length - 2) - 1 by omega) (Int.le_of_lt hP)
      have h7 : p2 s ≤ 4294967296 := by rw [← p2_32]; exact p2_le (by omega)
      have h8 := Int.mul_le_mul_of_nonneg_left h7 (Int.le_of_lt h5)
      have h9 : (bp (m.length - 2) - 1) * p2 s = bp (m.length - 2) * p2 s - p2 s := by grind
      omega
    · rw [nv_last_zero (by omega) hz]; exact hv
    · rw [List.length_take]; omega
    · intro hh
      have := nv_last_zero (l := L) (by omega) hz
      rw [hh] at this
      simp [nv] at this
      omega
  · refine ⟨L, start _ (Ev.succ ?_), hdd, Top.of_last hdd (by omega) hz, hv, by omega, fun hh => by rw [hh] at hvpos; simp [nv] at hvpos⟩
    simp only [dyad_down.l0]
    refine Ev.neg (by omega) (Ev.pos (by omega) ?_)
    rw [w64 (by omega) (by omega)]
    have e : ((L.length : Int) - 1) = ((L.length - 1 : Nat) : Int) := by omega
    rw [e]
    exact Ev.pos (by omega) (Ev.pos (by omega) (Ev.neg (by rw [rd_nat (by omega)]; exact hz) (Ev.now _)))
end

/-- A number in its only form: nought, or odd digits with no nought on top. -/
def Can (neg : Bool) (m : List Int) (e : Int) : Prop := Dig m ∧ Top m ∧ ((m = [] ∧ neg = false ∧ e = 0) ∨ (m ≠ [] ∧ nv m % 2 = 1))
/-- What it stands for. -/
def nval (neg : Bool) (m : List Int) (e : Int) : Rat := if neg then -((nv m : Rat) * pw e) else (nv m : Rat) * pw e
theorem ctz_spec {x : Int} (h0 : 0 < x) (h1 : x < 4294967296) : ∃ s : Nat, bits_TrailingZeros32.f x = some (s : Int) ∧ s < 32 ∧ ∃ q, x = p2 s * (2 * q + 1) := by
  obtain ⟨a, rfl⟩ := Int.eq_ofNat_of_zero_le (Int.le_of_lt h0)
  have ha : a ≠ 0 := by omega
  obtain ⟨q, e, hs⟩ := Lib.ctzFrom_spec 32 a (by omega) (by omega)
  refine ⟨Lib.ctzFrom 32 a, ?_, hs, (q : Int), ?_⟩
  · have ha2 : a < 4294967296 := by omega
    obtain ⟨hlow, hk⟩ := Lib.lowest_bit 32 a ha ha2
    obtain ⟨hi, htab⟩ := Lib.deBruijn32_at _ hk
    have key := Go.Proofs.tz32_key a (2 ^ Lib.ctz 32 a) ha2 ha hlow
    have hc : Lib.ctz 32 a = Lib.ctzFrom 32 a := by unfold Lib.ctz; rw [if_neg ha]
    rw [hc] at key hi htab hk
    clear hlow hc
    obtain ⟨idx, hidx⟩ : ∃ i, i = 2 ^ Lib.ctzFrom 32 a * 125613361 % 4294967296 / 134217728 := ⟨_, rfl⟩
    rw [← hidx] at key hi htab
    clear hidx
    obtain ⟨c, hcc⟩ : ∃ c, c = Lib.ctzFrom 32 a := ⟨_, rfl⟩
    rw [← hcc] at htab ⊢
    have hl : idx < Lib.deBruijn32tab.length := hi
    have hv : rd tab32 (idx : Int) = ((c : Nat) : Int) := by
      have e : tab32 = Lib.deBruijn32tab.map Int.ofNat := rfl
      unfold rd
      rw [List.getD_eq_getElem?_getD, List.getElem?_eq_getElem hl] at htab
      rw [e, Int.toNat_natCast, List.getD_eq_getElem?_getD, List.getElem?_map, List.getElem?_eq_getElem hl]
      exact congrArg Int.ofNat htab
    have i0 : (0 : Int) ≤ (idx : Int) := Int.natCast_nonneg _
    have i1 : (idx : Int) < 32 := by omega
    unfold bits_TrailingZeros32.f
    rw [if_neg (by omega), key, if_pos i0, if_pos i1, hv, w64 (by omega) (by omega)]
  · have : ((a : Nat) : Int) = ((2 ^ Lib.ctzFrom 32 a * (2 * q + 1) : Nat) : Int) := congrArg _ e
    rw [this]
    unfold p2
    push_cast
    rw [Int.toNat_natCast]
theorem nv_head_mod {l : List Int} (h : 0 < l.length) : ∃ q, nv l = l[0] + 4294967296 * q := by
  cases l with
  | nil => simp at h
  | cons a l => exact ⟨nv l, rfl⟩

section
variable {neg : Bool} {l : List Int} {e : Int} (hl : Dig l) (hn : l.length ≤ 1000000) (he0 : -1000000000 ≤ e) (he1 : e ≤ 1000000000)
include hl hn he0 he1
theorem trim_l1 (ht : Top l) (hne : l ≠ []) : ∀ n k : Nat, l.length - k = n → k < l.length → nv (l.take k) = 0 →
    ∃ n' m' e', Ev (fun K => dyad_trim.l1 K neg l e k) (n', m', e') ∧ Can n' m' e' ∧ nval n' m' e' = nval neg l e := by
  intro n
  induction n with
  | zero => intro k e1 e2; omega
  | succ n ih =>
    intro k e1 e2 hz
    by_cases h0 : l[k] = 0
    · have hk2 : k + 1 < l.length := by
        refine Decidable.byContradiction fun hc => ?_
        have h1 := nv_take_succ e2
        rw [h0, hz, show k + 1 = l.length by omega, List.take_length] at h1
        have := nv_pos ht hne
        omega
      obtain ⟨n', m', e', ev, c, v⟩ := ih (k + 1) (by omega) hk2 (by rw [nv_take_succ e2, h0, hz]; simp)
      refine ⟨n', m', e', Ev.succ ?_, c, v⟩
      simp only [dyad_trim.l1]
      refine Ev.pos (by omega) (Ev.pos (by omega) (Ev.pos (by rw [rd_nat e2]; exact h0) ?_))
      rw [w64 (by omega) (by omega)]
      exact ev
    · have hd := hl.get e2
      obtain ⟨s, hs, hs32, q, hq⟩ := ctz_spec (x := l[k]) (by omega) hd.2
      have hY : Dig (l.drop k) := hl.drop k
      have hYl : (l.drop k).length = l.length - k := List.length_drop
      have hY0 : (l.drop k)[0]'(by omega) = l[k] := by simp
      have hYne : l.drop k ≠ [] := List.length_pos_iff.mp (by omega)
      have hsplit := nv_take_drop l k (by omega)
      rw [hz, Int.zero_add] at hsplit
      have hbk := bp_pos k
      have hYt : Top (l.drop k) := by
        intro _
        have h1 := ht hne
        rw [hYl]
        have h2 : bp (l.length - 1) = bp k * bp (l.length - k - 1) := by rw [← bp_add, show k + (l.length - k - 1) = l.length - 1 by omega]
        rw [h2, hsplit] at h1
        exact Int.le_of_mul_le_mul_left h1 hbk
      obtain ⟨t, hq2⟩ := nv_head_mod (l := l.drop k) (by omega)
      rw [hY0] at hq2
      have hval : ∀ (r : List Int) (x : Int), nv r * p2 s = nv (l.drop k) → (x = e + 32 * k + s) → nval neg r x = nval neg l e := by
        intro r x h1 h2
        have h3 : (nv r : Rat) * pw x = (nv l : Rat) * pw e := by
          rw [hsplit, ← h1, h2, pw_add, pw_add, ← bp_pw, pw_p2 (a := (s : Int)) (by omega)]
          push_cast
          grind
        unfold nval
        rw [h3]
      have step : ∀ ρ : Bool × List Int × Int, Ev (fun K => if (s : Int) > 0 then (dyad_down.f K (l.drop k) (s : Int)).bind (fun t130 => some (neg, t130, wrap64 (wrap64 (e + wrap64 (32 * (k : Int))) + (s : Int)))) else some (neg, l.drop k, wrap64 (e + wrap64 (32 * (k : Int))))) ρ →
          Ev (fun K => dyad_trim.l1 K neg l e k) ρ := by
        intro ρ h
        refine Ev.succ ?_
        simp only [dyad_trim.l1]
        refine Ev.pos (by omega) (Ev.pos (by omega) (Ev.neg (by rw [rd_nat e2]; exact h0) (Ev.pos (by omega) ?_)))
        rw [Int.toNat_natCast]
        refine Ev.pos (by omega) ?_
        rw [rd_zero (by omega), hY0]
        exact Ev.call hs h
      have w1 : wrap64 (e + wrap64 (32 * (k : Int))) = e + 32 * k := by rw [w64 (x := 32 * (k : Int)) (by omega) (by omega), w64 (by omega) (by omega)]
      by_cases hs0 : s = 0
      · subst hs0
        have hp0 : p2 ((0 : Nat) : Int) = 1 := p2_0
        rw [hp0, Int.one_mul] at hq
        refine ⟨neg, l.drop k, e + 32 * k, step _ (Ev.neg (by omega) ?_), ⟨hY, hYt, .inr ⟨hYne, by rw [hq2, hq]; omega⟩⟩, hval _ _ (by rw [hp0, Int.mul_one]) (by omega)⟩
        rw [w1]
        exact Ev.now _
      · have hdiv : nv (l.drop k) % p2 s = 0 := by
          have h32 : (4294967296 : Int) = p2 s * p2 (32 - s) := (p2_split (by omega) (by omega)).symm
          rw [hq2, hq, h32, Int.mul_assoc, ← Int.mul_add]
          exact Int.mul_emod_right _ _
        obtain ⟨r, ev, rd_, rt, rv, rl, rne⟩ := down_ev (m := l.drop k) (s := (s : Int)) hY (by omega) (by omega) (by omega) hYt hYne hdiv
        refine ⟨neg, r, e + 32 * k + s, step _ (Ev.pos (by omega) (Ev.bind ev ?_)), ⟨rd_, rt, .inr ⟨rne, ?_⟩⟩, hval _ _ rv rfl⟩
        · rw [w1, w64 (by omega) (by omega)]
          exact Ev.now _
        · have hP := p2_pos s
          have h32 : (4294967296 : Int) = p2 s * (2 * p2 (32 - s - 1)) := by
            rw [← p2_split (s := (s : Int)) (by omega) (by omega), ← p2_succ (by omega), show (32 : Int) - s - 1 + 1 = 32 - s by omega]
          have h4 : nv r = 2 * q + 1 + 2 * (p2 (32 - s - 1) * t) := by
            have h5 : nv r * p2 s = (2 * q + 1 + 2 * (p2 (32 - s - 1) * t)) * p2 s := by
              rw [rv, hq2, hq, h32]; grind
            exact Int.eq_of_mul_eq_mul_right (by omega) h5
          omega
/-- Trim: the only form of a number. -/
theorem trim_ev : ∃ n' m' e', Ev (fun K => dyad_trim.f K neg l e) (n', m', e') ∧ Can n' m' e' ∧ nval n' m' e' = nval neg l e := by
  have key : ∀ n k : Nat, k = n → k ≤ l.length → nv (l.take k) = nv l → ∃ n' m' e', Ev (fun K => dyad_trim.l0 K neg l e k) (n', m', e') ∧ Can n' m' e' ∧ nval n' m' e' = nval neg l e := by
    intro n
    induction n with
    | zero =>
      intro k e1 e2 hv
      subst e1
      refine ⟨false, [], 0, Ev.succ ?_, ⟨Dig.nil, fun h => absurd rfl h, .inl ⟨rfl, rfl, rfl⟩⟩, ?_⟩
      · simp only [dyad_trim.l0]
        refine Ev.neg (by omega) (Ev.succ ?_)
        simp only [dyad_trim.j1]
        exact Ev.pos (by omega) (Ev.pos (by omega) (Ev.pos (by omega) (Ev.now _)))
      · have h0 : nv l = 0 := by rw [← hv]; simp [nv]
        unfold nval
        rw [h0]
        cases neg <;> simp [nv]
    | succ n ih =>
      intro k e1 e2 hv
      subst e1
      have hi : n < l.length := by omega
      by_cases h0 : l[n] = 0
      · obtain ⟨n', m', e', ev, c, v⟩ := ih n rfl (by omega) (by rw [← hv, nv_take_succ hi, h0]; simp)
        refine ⟨n', m', e', Ev.succ ?_, c, v⟩
        simp only [dyad_trim.l0]
        refine Ev.pos (by omega) ?_
        have e : wrap64 (((n + 1 : Nat) : Int) - 1) = (n : Int) := by rw [w64 (by omega) (by omega)]; omega
        rw [e]
        exact Ev.pos (by omega) (Ev.pos (by omega) (Ev.pos (by rw [rd_nat hi]; exact h0) ev))
      · have hlt : (l.take (n + 1)).length = n + 1 := by rw [List.length_take]; omega
        have hlast : (l.take (n + 1))[(l.take (n + 1)).length - 1]'(by omega) = l[n] := by
          rw [List.getElem_take]; congr 1; omega
        have hT : Top (l.take (n + 1)) := Top.of_last (hl.take _) (by omega) (by rw [hlast]; exact h0)
        obtain ⟨n', m', e', ev, c, v⟩ := trim_l1 (neg := neg) (l := l.take (n + 1)) (e := e) (hl.take _) (by omega) he0 he1 hT (List.length_pos_iff.mp (by omega)) (n + 1) 0 (by omega) (by omega) (by simp [nv])
        refine ⟨n', m', e', Ev.succ ?_, c, ?_⟩
        · simp only [dyad_trim.l0]
          refine Ev.pos (by omega) ?_
          have e : wrap64 (((n + 1 : Nat) : Int) - 1) = (n : Int) := by rw [w64 (by omega) (by omega)]; omega
          rw [e]
          refine Ev.pos (by omega) (Ev.pos (by omega) (Ev.neg (by rw [rd_nat hi]; exact h0) (Ev.succ ?_)))
          simp only [dyad_trim.j1]
          refine Ev.pos (by omega) (Ev.pos (by omega) (Ev.neg (by omega) ?_))
          rw [Int.toNat_natCast]
          exact ev
        · rw [v]; unfold nval; rw [hv]
  have := key l.length l.length rfl (Nat.le_refl _) (by rw [List.take_length])
  unfold dyad_trim.f
  exact this
end

theorem bp_p2 (n : Nat) : bp n = p2 (32 * n) := by
  have e : (32 * (n : Int)).toNat = 32 * n := by omega
  unfold bp p2
  rw [e, Int.pow_mul]; rfl
section
variable {m : List Int} (hm : Dig m) (hl : m.length ≤ 1000000) {q : Nat} {s : Int} (hq : q ≤ 1000000) (s0 : 0 ≤ s) (s1 : s < 32)
include hm hl hq s0 s1
theorem up_l0 : ∀ n i : Nat, m.length - i = n → i ≤ m.length → ∀ (out : List Int) (c : Int), Dig out → out.length = q + i → 0 ≤ c → c < p2 s →
    nv out + bp (q + i) * c = bp q * (p2 s * nv (m.take i)) →
    ∃ r, Ev (fun K => dyad_up.l0 K out s c m m.length i) r ∧ Dig r ∧ r.length = q + m.length + 1 ∧ nv r = bp q * (p2 s * nv m) := by
  intro n
  induction n with
  | zero =>
    intro i e1 e2 out c hd hlen c0 c1 hv
    obtain rfl : i = m.length := by omega
    have hp32 : p2 s ≤ 4294967296 := by rw [← p2_32]; exact p2_le (by omega)
    refine ⟨out ++ [c], Ev.succ ?_, hd.append (Dig.one c0 (by omega)), by simp [hlen] <;> omega, ?_⟩
    · simp only [dyad_up.l0]
      have p1 : out.length < 35184372088832 := Nat.lt_of_le_of_lt (show out.length ≤ 2000000 by omega) (by decide)
      exact Ev.neg (by omega) (Ev.pos p1 (Ev.now _))
    · rw [nv_snoc, hlen, hv, List.take_length]
  | succ n ih =>
    intro i e1 e2 out c hd hlen c0 c1 hv
    have hi : i < m.length := by omega
    have hP := p2_pos s
    have hQ := p2_pos (32 - s)
    have hPQ := p2_split (s := s) (by omega) (by omega)
    have hx := hm.get hi
    have hp32 : p2 s ≤ 4294967296 := by rw [← p2_32]; exact p2_le (by omega)
    have d0 := Int.ediv_nonneg hx.1 (Int.le_of_lt hQ)
    have d1 : m[i] / p2 (32 - s) < p2 s := Int.ediv_lt_of_lt_mul hQ (by omega)
    have e5 : m[i] * p2 s % 4294967296 = (m[i] % p2 (32 - s)) * p2 s := by
      rw [← hPQ, Int.mul_comm m[i], Int.mul_emod_mul_of_pos _ _ hP, Int.mul_comm]
    have hdm := Int.emod_add_mul_ediv m[i] (p2 (32 - s))
    have r0 := Int.emod_nonneg m[i] (show p2 (32 - s) ≠ 0 by omega)
    have r1 := Int.emod_lt_of_pos m[i] hQ
    have m0 := Int.mul_nonneg r0 (Int.le_of_lt hP)
    have m1 : (m[i] % p2 (32 - s)) * p2 s ≤ (p2 (32 - s) - 1) * p2 s := Int.mul_le_mul_of_nonneg_right (by omega) (Int.le_of_lt hP)
    have m2 : (p2 (32 - s) - 1) * p2 s = 4294967296 - p2 s := by grind
    obtain ⟨r, ev, rd_, rl, rv⟩ := ih (i + 1) (by omega) (by omega) (out ++ [(m[i] % p2 (32 - s)) * p2 s + c]) (m[i] / p2 (32 - s)) (hd.append (Dig.one (by omega) (by omega))) (by simp [hlen] <;> omega) d0 d1 (by
      have hb : bp (q + (i + 1)) = bp (q + i) * 4294967296 := by rw [← Nat.add_assoc, bp_succ, Int.mul_comm]
      have hb2 := bp_add q i
      rw [nv_snoc, hlen, nv_take_succ hi, hb]
      have h3 : m[i] * p2 s = (m[i] % p2 (32 - s)) * p2 s + 4294967296 * (m[i] / p2 (32 - s)) := by
        rw [← hPQ]; grind
      grind)
    refine ⟨r, Ev.succ ?_, rd_, rl, rv⟩
    simp only [dyad_up.l0]
    have p1 : out.length < 35184372088832 := Nat.lt_of_le_of_lt (show out.length ≤ 2000000 by omega) (by decide)
    have hw : IntKind.u64.wrap m[i] = m[i] := wu64 hx.1 (by omega)
    refine Ev.pos (by omega) (Ev.pos (by omega) (Ev.pos (by omega) (Ev.pos s0 (Ev.pos p1 ?_))))
    rw [w64 (x := 32 - s) (by omega) (by omega), w64 (x := (i : Int) + 1) (by omega) (by omega), rd_nat hi, hw]
    refine Ev.pos (by omega) ?_
    have e6 : m[i] / p2 (32 - s) % 4294967296 = m[i] / p2 (32 - s) := Int.emod_eq_of_lt d0 (by omega)
    rw [shl_u32 (by omega) (by omega), e5, u32_or s.toNat m0 (p2_mod (by omega) _) (by omega) c0 c1 (by omega), shr_u64 (by omega) (by omega), e6]
    exact ev
end
theorem up_ev {m : List Int} (hm : Dig m) (hl : m.length ≤ 1000000) {n : Int} (h0 : 0 ≤ n) (h1 : n ≤ 10000000) :
    ∃ r, Ev (fun K => dyad_up.f K m n) r ∧ Dig r ∧ (r.length : Int) = n / 32 + m.length + 1 ∧ nv r = nv m * p2 n := by
  obtain ⟨q, hq⟩ : ∃ q : Nat, (q : Int) = n / 32 := ⟨(n / 32).toNat, by omega⟩
  have ed : Int.tdiv n 32 = n / 32 := by rw [Int.tdiv_eq_ediv_of_nonneg h0]
  have em : Int.tmod n 32 = n % 32 := by rw [Int.tmod_eq_emod_of_nonneg h0]
  have hP := p2_pos (n % 32)
  obtain ⟨r, ev, rd_, rl, rv⟩ := up_l0 hm hl (q := q) (s := n % 32) (by omega) (by omega) (by omega) m.length 0 (by omega) (by omega) (List.replicate q 0) 0 (Dig.zeros _) (by simp) (by omega) hP (by rw [nv_zeros]; simp [nv])
  refine ⟨r, ?_, rd_, by omega, ?_⟩
  · unfold dyad_up.f
    rw [ed, em, w64 (x := n / 32) (by omega) (by omega), ← hq, w64 (x := (q : Int) + (m.length : Int)) (by omega) (by omega), w64 (x := (q : Int) + (m.length : Int) + 1) (by omega) (by omega)]
    have p1 : (q : Int) + (m.length : Int) + 1 ≤ 70368744177664 := by omega
    refine Ev.pos (by omega) (Ev.pos (by omega) (Ev.pos p1 ?_))
    rw [Int.toNat_natCast]
    exact ev
  · rw [rv, bp_p2]
    have : p2 n = p2 (32 * q) * p2 (n % 32) := by rw [← p2_add (by omega) (by omega)]; congr 1; omega
    rw [this]; grind
/-- Without noughts on top. -/
theorem cut_top_ev {l : List Int} (hl : Dig l) (hn : l.length ≤ 3000000) : ∃ r, Ev (fun K => dyad_line_1.f K l) r ∧ Dig r ∧ Top r ∧ nv r = nv l ∧ r.length ≤ l.length := by
  have key : ∀ n k : Nat, k = n → k ≤ l.length → nv (l.take k) = nv l → ∃ r, Ev (fun K => dyad_line_1.l0 K l k) r ∧ Dig r ∧ Top r ∧ nv r = nv l ∧ r.length ≤ l.length := by
    intro n
    induction n with
    | zero =>
      intro k e1 e2 hv
      subst e1
      refine ⟨[], Ev.succ ?_, Dig.nil, fun h => absurd rfl h, by rw [← hv]; simp [nv], by simp⟩
      simp only [dyad_line_1.l0]
      exact Ev.neg (by omega) (Ev.pos (by omega) (Ev.pos (by omega) (Ev.now _)))
    | succ n ih =>
      intro k e1 e2 hv
      subst e1
      have hi : n < l.length := by omega
      have e : wrap64 (((n + 1 : Nat) : Int) - 1) = (n : Int) := by rw [w64 (by omega) (by omega)]; omega
      by_cases h0 : l[n] = 0
      · obtain ⟨r, ev, a, b, c, d⟩ := ih n rfl (by omega) (by rw [← hv, nv_take_succ hi, h0]; simp)
        refine ⟨r, Ev.succ ?_, a, b, c, d⟩
        simp only [dyad_line_1.l0]
        rw [e]
        exact Ev.pos (by omega) (Ev.pos (by omega) (Ev.pos (by omega) (Ev.pos (by rw [rd_nat hi]; exact h0) ev)))
      · have hlt : (l.take (n + 1)).length = n + 1 := by rw [List.length_take]; omega
        have hlast : (l.take (n + 1))[(l.take (n + 1)).length - 1]'(by omega) = l[n] := by
          rw [List.getElem_take]; congr 1; omega
        refine ⟨l.take (n + 1), Ev.succ ?_, hl.take _, Top.of_last (hl.take _) (by omega) (by rw [hlast]; exact h0), hv, by omega⟩
        simp only [dyad_line_1.l0]
        rw [e]
        refine Ev.pos (by omega) (Ev.pos (by omega) (Ev.pos (by omega) (Ev.neg (by rw [rd_nat hi]; exact h0) (Ev.pos (by omega) (Ev.pos (by omega) ?_)))))
        rw [Int.toNat_natCast]
        exact Ev.now _
  have := key l.length l.length rfl (Nat.le_refl _) (by rw [List.take_length])
  unfold dyad_line_1.f
  exact this
/-- Line: two numbers at one power of two. -/
theorem line_ev {n n' : Bool} {a b : List Int} {e e' : Int} (ha : Dig a) (hb : Dig b) (la : a.length ≤ 1000000) (lb : b.length ≤ 1000000) (e0 : -4000000 ≤ e) (e1 : e ≤ 4000000) (f0 : -4000000 ≤ e') (f1 : e' ≤ 4000000) :
    ∃ X Y d, Ev (fun K => dyad_line.f K n a e n' b e') (X, Y, d) ∧ d = mn e e' ∧ Dig X ∧ Dig Y ∧ Top X ∧ Top Y ∧ nv X = nv a * p2 (e - d) ∧ nv Y = nv b * p2 (e' - d) ∧ X.length ≤ 2000000 ∧ Y.length ≤ 2000000 := by
  have hd : mn e e' ≤ e ∧ mn e e' ≤ e' ∧ -4000000 ≤ mn e e' := by unfold mn; split <;> omega
  obtain ⟨r1, ev1, d1, l1, v1⟩ := up_ev ha la (n := e - mn e e') (by omega) (by omega)
  obtain ⟨X, ev2, d2, t2, v2, l2⟩ := cut_top_ev d1 (by omega)
  obtain ⟨r3, ev3, d3, l3, v3⟩ := up_ev hb lb (n := e' - mn e e') (by omega) (by omega)
  obtain ⟨Y, ev4, d4, t4, v4, l4⟩ := cut_top_ev d3 (by omega)
  refine ⟨X, Y, mn e e', ?_, rfl, d2, d4, t2, t4, by rw [v2, v1], by rw [v4, v3], by omega, by omega⟩
  unfold dyad_line.f
  rw [w64 (x := e - mn e e') (by omega) (by omega), w64 (x := e' - mn e e') (by omega) (by omega)]
  exact Ev.bind ev1 (Ev.bind ev2 (Ev.bind ev3 (Ev.bind ev4 (Ev.now _))))
theorem sgn_lt {x : Int} (h : x < 0) : sgn x = -1 := by unfold sgn; rw [if_pos h]
theorem sgn_gt {x : Int} (h : 0 < x) : sgn x = 1 := by unfold sgn; rw [if_neg (by omega), if_neg (by omega)]
theorem sgn_eq {x : Int} (h : x = 0) : sgn x = 0 := by unfold sgn; rw [if_neg (by omega), if_pos h]
theorem top_lt {X Y : List Int} (hX : Dig X) (tY : Top Y) (h : X.length < Y.length) : nv X < nv Y := by
  have h1 := (nv_bounds hX).2
  have h2 := tY (List.length_pos_iff.mp (by omega))
  have h3 := bp_mono (show X.length ≤ Y.length - 1 by omega)
  omega
theorem digit_lt {X Y : List Int} (hX : Dig X) (hY : Dig Y) {i : Nat} (hi : i < X.length) (hi' : i < Y.length) (h : nv (X.drop (i + 1)) = nv (Y.drop (i + 1))) (hlt : X[i] < Y[i]) : nv X < nv Y := by
  have a := nv_take_drop X i (by omega)
  have b := nv_take_drop Y i (by omega)
  have c := nv_drop hi
  have d := nv_drop hi'
  have e := (nv_bounds (hX.take i)).2
  rw [List.length_take, Nat.min_eq_left (by omega)] at e
  have f := (nv_bounds (hY.take i)).1
  have g := bp_pos i
  have k : bp i * (nv (X.drop i) + 1) ≤ bp i * nv (Y.drop i) := Int.mul_le_mul_of_nonneg_left (by omega) (Int.le_of_lt g)
  rw [Int.mul_add, Int.mul_one] at k
  omega
/-- Cmp: the sign of a difference. -/
theorem cmp_ev {X Y : List Int} (hX : Dig X) (hY : Dig Y) (tX : Top X) (tY : Top Y) (lX : X.length ≤ 3000000) (lY : Y.length ≤ 3000000) : Ev (fun K => dyad_cmp.f K X Y) (sgn (nv X - nv Y)) := by
  unfold dyad_cmp.f
  by_cases hl : X.length = Y.length
  · refine Ev.pos (by omega) ?_
    have key : ∀ j : Nat, j ≤ X.length → nv (X.drop j) = nv (Y.drop j) → Ev (fun K => dyad_cmp.l0 K X Y ((j : Int) - 1)) (sgn (nv X - nv Y)) := by
      intro j
      induction j with
      | zero =>
        intro _ h
        simp only [List.drop_zero] at h
        rw [sgn_eq (by omega)]
        refine Ev.succ ?_
        simp only [dyad_cmp.l0]
        exact Ev.neg (by omega) (Ev.now _)
      | succ j ih =>
        intro h1 h2
        have hi : j < X.length := by omega
        have hi' : j < Y.length := by omega
        have e : ((j + 1 : Nat) : Int) - 1 = (j : Int) := by omega
        rw [e]
        refine Ev.succ ?_
        simp only [dyad_cmp.l0]
        refine Ev.pos (by omega) (Ev.pos (by omega) (Ev.pos (by omega) (Ev.pos (by omega) ?_)))
        rw [rd_nat hi, rd_nat hi']
        by_cases h3 : X[j] = Y[j]
        · refine Ev.pos h3 ?_
          rw [w64 (by omega) (by omega)]
          exact ih (by omega) (by rw [nv_drop hi, nv_drop hi', h3, h2])
        · refine Ev.neg h3 ?_
          by_cases h4 : X[j] < Y[j]
          · have := digit_lt hX hY hi hi' h2 h4
            rw [sgn_lt (by omega)]
            exact Ev.pos h4 (Ev.now _)
          · have := digit_lt hY hX hi' hi h2.symm (by omega)
            rw [sgn_gt (by omega)]
            exact Ev.neg h4 (Ev.now _)
    have := key X.length (Nat.le_refl _) (by rw [List.drop_length, hl, List.drop_length])
    rw [w64 (by omega) (by omega)]
    exact this
  · refine Ev.neg (by omega) ?_
    by_cases h : X.length < Y.length
    · have := top_lt hX tY h
      rw [sgn_lt (by omega)]
      exact Ev.pos (by omega) (Ev.now _)
    · have := top_lt hY tX (by omega)
      rw [sgn_gt (by omega)]
      exact Ev.neg (by omega) (Ev.now _)

/-- An odd number times a power of two has no more twos. -/
theorem odd_expo {N k : Int} {e d : Int} (h : N % 2 = 1) (hv : (N : Rat) * pw e = (k : Rat) * pw d) : d ≤ e := by
  refine Decidable.byContradiction fun hc => ?_
  obtain ⟨n, hn⟩ : ∃ n : Nat, d = e + ((n + 1 : Nat) : Int) := ⟨(d - e - 1).toNat, by omega⟩
  have h1 : (N : Rat) * pw e = ((k * 2 ^ (n + 1) : Int) : Rat) * pw e := by
    rw [hv, hn, pw_addNat]; push_cast; grind
  have h2 := mul_pw_inj h1
  rw [Int.pow_succ] at h2
  have h3 : k * (2 ^ n * 2) = 2 * (k * 2 ^ n) := by grind
  omega
theorem Can.unique {n n' : Bool} {m m' : List Int} {e e' : Int} (c : Can n m e) (c' : Can n' m' e') (h : nval n m e = nval n' m' e') : n = n' ∧ m = m' ∧ e = e' := by
  obtain ⟨d, t, k⟩ := c
  obtain ⟨d', t', k'⟩ := c'
  have pos : ∀ {n : Bool} {m : List Int} {e : Int}, Top m → m ≠ [] → 0 < (nv m : Rat) * pw e := by
    intro n m e t h
    have h1 : (0 : Rat) < (nv m : Rat) := by exact_mod_cast nv_pos t h
    exact Rat.mul_pos h1 (pw_pos e)
  rcases k with ⟨rfl, rfl, rfl⟩ | ⟨hne, ho⟩
  · rcases k' with ⟨rfl, rfl, rfl⟩ | ⟨hne', ho'⟩
    · exact ⟨rfl, rfl, rfl⟩
    · have := pos (n := n') (e := e') t' hne'
      unfold nval at h
      simp [nv] at h
      cases n' <;> simp at h <;> grind
  · rcases k' with ⟨rfl, rfl, rfl⟩ | ⟨hne', ho'⟩
    · have := pos (n := n) (e := e) t hne
      unfold nval at h
      simp [nv] at h
      cases n <;> simp at h <;> grind
    · have p := pos (n := n) (e := e) t hne
      have p' := pos (n := n') (e := e') t' hne'
      have hs : n = n' ∧ (nv m : Rat) * pw e = (nv m' : Rat) * pw e' := by
        unfold nval at h
        cases n <;> cases n' <;> simp at h ⊢ <;> grind
      obtain ⟨rfl, hv⟩ := hs
      have h1 := odd_expo ho hv
      have h2 := odd_expo ho' hv.symm
      obtain rfl : e = e' := by omega
      have h3 := mul_pw_inj hv
      exact ⟨rfl, t.inj d d' t' h3, rfl⟩
/-- A number in its only form, within bounds. -/
structure Nm (E : Int) (x : Rat) (n : Bool) (m : List Int) (e : Int) : Prop where
  can : Can n m e
  val : nval n m e = x
  lo : -E ≤ e
  hi : (nv m : Rat) * pw e ≤ pw E
theorem Nm.unique {E E' : Int} {x : Rat} {n n' : Bool} {m m' : List Int} {e e' : Int} (h : Nm E x n m e) (h' : Nm E' x n' m' e') : n = n' ∧ m = m' ∧ e = e' :=
  h.can.unique h'.can (h.val.trans h'.val.symm)
theorem Nm.mono {E E' : Int} {x : Rat} {n : Bool} {m : List Int} {e : Int} (h : Nm E x n m e) (hE : E ≤ E') : Nm E' x n m e :=
  ⟨h.can, h.val, by have := h.lo; omega, Rat.le_trans h.hi (pw_mono hE)⟩
theorem Nm.sizes {E : Int} {x : Rat} {n : Bool} {m : List Int} {e : Int} (h : Nm E x n m e) (h0 : 0 ≤ E) : e ≤ E ∧ 32 * (m.length : Int) ≤ 2 * E + 32 ∧ -E ≤ e := by
  obtain ⟨d, t, k⟩ := h.can
  have lo := h.lo
  rcases k with ⟨rfl, rfl, rfl⟩ | ⟨hne, ho⟩
  · simp; omega
  · have h1 := t hne
    have h2 : ((bp (m.length - 1) : Int) : Rat) * pw e ≤ (nv m : Rat) * pw e := mul_pw_le.mpr h1
    have h3 : ((bp (m.length - 1) : Int) : Rat) * pw e ≤ pw E := Rat.le_trans h2 h.hi
    rw [bp_pw, ← pw_add] at h3
    have h4 := pw_le_iff.mp h3
    have := List.length_pos_iff.mpr hne
    omega
theorem nval_abs {n : Bool} {m : List Int} {e : Int} (hm : Dig m) : 0 ≤ (nv m : Rat) * pw e ∧ (nval n m e = (nv m : Rat) * pw e ∨ nval n m e = -((nv m : Rat) * pw e)) := by
  have h1 : (0 : Rat) ≤ (nv m : Rat) := by exact_mod_cast (nv_bounds hm).1
  refine ⟨Rat.mul_nonneg h1 (Rat.le_of_lt (pw_pos e)), ?_⟩
  unfold nval
  cases n <;> simp
theorem Nm.abs_le {E : Int} {x : Rat} {n : Bool} {m : List Int} {e : Int} (h : Nm E x n m e) : -pw E ≤ x ∧ x ≤ pw E := by
  have h1 := nval_abs (n := n) (e := e) h.can.1
  have h2 := h.hi
  have h3 := h.val
  rcases h1.2 with h4 | h4 <;> grind
/-- What is in its only form is within bounds that hold of its value. -/
theorem Nm.of {E : Int} {x : Rat} {n : Bool} {m : List Int} {e k : Int} (hE : 0 ≤ E) (c : Can n m e) (h : nval n m e = x) (hk : x = (k : Rat) * pw (-E)) (h1 : x ≤ pw E) (h2 : -pw E ≤ x) : Nm E x n m e := by
  refine ⟨c, h, ?_, ?_⟩
  · rcases c.2.2 with ⟨rfl, rfl, rfl⟩ | ⟨hne, ho⟩
    · omega
    · have h3 : ∃ k' : Int, (nv m : Rat) * pw e = (k' : Rat) * pw (-E) := by
        rcases (nval_abs (n := n) (e := e) c.1).2 with h4 | h4
        · exact ⟨k, by rw [← h4, h, hk]⟩
        · refine ⟨-k, ?_⟩
          have : (nv m : Rat) * pw e = -x := by grind
          rw [this, hk]; push_cast; grind
      obtain ⟨k', h3⟩ := h3
      exact odd_expo ho h3
  · rcases (nval_abs (n := n) (e := e) c.1).2 with h4 | h4 <;> grind
/-- A number within bounds is a whole number times their least power. -/
theorem Nm.whole {E : Int} {x : Rat} {n : Bool} {m : List Int} {e : Int} (h : Nm E x n m e) : ∃ k : Int, x = (k : Rat) * pw (-E) := by
  obtain ⟨j, hj⟩ : ∃ j : Nat, e = -E + (j : Int) := ⟨(e + E).toNat, by have := h.lo; omega⟩
  have e1 : (nv m : Rat) * pw e = ((nv m * 2 ^ j : Int) : Rat) * pw (-E) := by rw [hj, pw_addNat]; push_cast; grind
  rcases (nval_abs (n := n) (e := e) h.can.1).2 with h4 | h4
  · exact ⟨nv m * 2 ^ j, by rw [← h.val, h4, e1]⟩
  · refine ⟨-(nv m * 2 ^ j), ?_⟩
    rw [← h.val, h4, e1]; push_cast; grind

section
variable {X Y : List Int} (hX : Dig X) (hY : Dig Y) (lX : X.length ≤ 900000) {E : Int} {neg : Bool} (e0 : -4000000 ≤ E) (e1 : E ≤ 4000000)
include hX hY lX e0 e1
theorem add_l0 (hle : Y.length ≤ X.length) (a b : Bool) (c : List Int) (f : Int) : ∀ n i : Nat, X.length - i = n → i ≤ X.length → ∀ (out : List Int) (cr : Int), Dig out → out.length = i → 0 ≤ cr → cr ≤ 1 →
    nv out + bp i * cr = nv (X.take i) + nv (Y.take i) →
    ∃ n' m' e', Ev (fun K => dyad_Num_Add.l0 K X Y E out cr X.length i neg c f) (n', m', e') ∧ Can n' m' e' ∧ nval n' m' e' = (if neg then -1 else 1) * (((nv X + nv Y : Int) : Rat) * pw E) := by
  intro n
  induction n with
  | zero =>
    intro i h1 h2 out cr hd hlen c0 c1 hv
    obtain rfl : i = X.length := by omega
    have hc : cr % 4294967296 = cr := by omega
    obtain ⟨n', m', e', ev, cn, vl⟩ := trim_ev (neg := neg) (l := out ++ [cr]) (e := E) (hd.append (Dig.one c0 (by omega))) (by simp [hlen] <;> omega) (by omega) (by omega)
    refine ⟨n', m', e', Ev.succ ?_, cn, ?_⟩
    · simp only [dyad_Num_Add.l0]
      have p1 : out.length < 35184372088832 := Nat.lt_of_le_of_lt (show out.length ≤ 900000 by omega) (by decide)
      rw [hc]
      exact Ev.neg (by omega) (Ev.pos p1 (Ev.bind ev (Ev.now _)))
    · rw [vl]
      have : nv (out ++ [cr]) = nv X + nv Y := by
        rw [nv_snoc, hlen, hv, List.take_length, List.take_of_length_le hle]
      unfold nval
      rw [this]
      cases neg <;> simp <;> grind
  | succ n ih =>
    intro i h1 h2 out cr hd hlen c0 c1 hv
    have hi : i < X.length := by omega
    have hx := hX.get hi
    have p1 : out.length < 35184372088832 := Nat.lt_of_le_of_lt (show out.length ≤ 900000 by omega) (by decide)
    have hb := bp_succ i
    have hbp := bp_pos i
    have wx : IntKind.u64.wrap X[i] = X[i] := wu64 hx.1 (by omega)
    have w1 : IntKind.u64.wrap (cr + X[i]) = cr + X[i] := wu64 (by omega) (by omega)
    by_cases hy : i < Y.length
    · have hyd := hY.get hy
      have wy : IntKind.u64.wrap Y[i] = Y[i] := wu64 hyd.1 (by omega)
      have w2 : IntKind.u64.wrap (cr + X[i] + Y[i]) = cr + X[i] + Y[i] := wu64 (by omega) (by omega)
      obtain ⟨n', m', e', ev, cn, vl⟩ := ih (i + 1) (by omega) (by omega) (out ++ [(cr + X[i] + Y[i]) % 4294967296]) ((cr + X[i] + Y[i]) / 4294967296) (hd.append (Dig.one (by omega) (by omega))) (by simp [hlen]) (by omega) (by omega) (by
        have h3 := Int.emod_add_mul_ediv (cr + X[i] + Y[i]) 4294967296
        rw [nv_snoc, hlen, nv_take_succ hi, nv_take_succ hy, hb]
        grind)
      refine ⟨n', m', e', Ev.succ ?_, cn, vl⟩
      simp only [dyad_Num_Add.l0]
      refine Ev.pos (by omega) (Ev.pos (by omega) (Ev.pos (by omega) (Ev.pos (by omega) (Ev.pos p1 ?_))))
      rw [rd_nat hi, rd_nat hy, wx, w1, wy, w2, w64 (by omega) (by omega)]
      exact ev
    · obtain ⟨n', m', e', ev, cn, vl⟩ := ih (i + 1) (by omega) (by omega) (out ++ [(cr + X[i]) % 4294967296]) ((cr + X[i]) / 4294967296) (hd.append (Dig.one (by omega) (by omega))) (by simp [hlen]) (by omega) (by omega) (by
        have h3 := Int.emod_add_mul_ediv (cr + X[i]) 4294967296
        have h4 : Y.take (i + 1) = Y.take i := by rw [List.take_of_length_le (by omega), List.take_of_length_le (by omega)]
        rw [nv_snoc, hlen, nv_take_succ hi, h4, hb]
        grind)
      refine ⟨n', m', e', Ev.succ ?_, cn, vl⟩
      simp only [dyad_Num_Add.l0]
      refine Ev.pos (by omega) (Ev.pos (by omega) (Ev.pos (by omega) (Ev.neg (by omega) (Ev.pos p1 ?_))))
      rw [rd_nat hi, wx, w1, w64 (by omega) (by omega)]
      exact ev
theorem add_l1 (hle : Y.length ≤ X.length) (hv0 : nv Y ≤ nv X) : ∀ n i : Nat, X.length - i = n → i ≤ X.length → ∀ (out : List Int) (cr : Int), Dig out → out.length = i → -1 ≤ cr → cr ≤ 0 →
    nv out + bp i * cr = nv (X.take i) - nv (Y.take i) →
    ∃ n' m' e', Ev (fun K => dyad_Num_Add.l1 K X Y E neg out cr X.length i) (n', m', e') ∧ Can n' m' e' ∧ nval n' m' e' = (if neg then -1 else 1) * (((nv X - nv Y : Int) : Rat) * pw E) := by
  intro n
  induction n with
  | zero =>
    intro i h1 h2 out cr hd hlen c0 c1 hv
    obtain rfl : i = X.length := by omega
    obtain ⟨n', m', e', ev, cn, vl⟩ := trim_ev (neg := neg) (l := out) (e := E) hd (by omega) (by omega) (by omega)
    refine ⟨n', m', e', Ev.succ ?_, cn, ?_⟩
    · simp only [dyad_Num_Add.l1]
      exact Ev.neg (by omega) (Ev.bind ev (Ev.now _))
    · rw [vl]
      have hb := nv_bounds hd
      rw [hlen] at hb
      rw [List.take_length, List.take_of_length_le hle] at hv
      have hcr : cr = 0 := by
        refine Decidable.byContradiction fun hc => ?_
        obtain rfl : cr = -1 := by omega
        omega
      have : nv out = nv X - nv Y := by rw [hcr] at hv; omega
      unfold nval
      rw [this]
      cases neg <;> simp <;> grind
  | succ n ih =>
    intro i h1 h2 out cr hd hlen c0 c1 hv
    have hi : i < X.length := by omega
    have hx := hX.get hi
    have p1 : out.length < 35184372088832 := Nat.lt_of_le_of_lt (show out.length ≤ 900000 by omega) (by decide)
    have hb := bp_succ i
    have hbp := bp_pos i
    have wx : wrap64 X[i] = X[i] := w64 (by omega) (by omega)
    have w1 : wrap64 (cr + X[i]) = cr + X[i] := w64 (by omega) (by omega)
    by_cases hy : i < Y.length
    · have hyd := hY.get hy
      have wy : wrap64 Y[i] = Y[i] := w64 (by omega) (by omega)
      have w2 : wrap64 (cr + X[i] - Y[i]) = cr + X[i] - Y[i] := w64 (by omega) (by omega)
      obtain ⟨n', m', e', ev, cn, vl⟩ := ih (i + 1) (by omega) (by omega) (out ++ [(cr + X[i] - Y[i]) % 4294967296]) ((cr + X[i] - Y[i]) / 4294967296) (hd.append (Dig.one (by omega) (by omega))) (by simp [hlen]) (by omega) (by omega) (by
        have h3 := Int.emod_add_mul_ediv (cr + X[i] - Y[i]) 4294967296
        rw [nv_snoc, hlen, nv_take_succ hi, nv_take_succ hy, hb]
        grind)
      refine ⟨n', m', e', Ev.succ ?_, cn, vl⟩
      simp only [dyad_Num_Add.l1]
      refine Ev.pos (by omega) (Ev.pos (by omega) (Ev.pos (by omega) (Ev.pos (by omega) (Ev.pos p1 ?_))))
      rw [rd_nat hi, rd_nat hy, wx, w1, wy, w2, w64 (by omega) (by omega)]
      exact ev
    · obtain ⟨n', m', e', ev, cn, vl⟩ := ih (i + 1) (by omega) (by omega) (out ++ [(cr + X[i]) % 4294967296]) ((cr + X[i]) / 4294967296) (hd.append (Dig.one (by omega) (by omega))) (by simp [hlen]) (by omega) (by omega) (by
        have h3 := Int.emod_add_mul_ediv (cr + X[i]) 4294967296
        have h4 : Y.take (i + 1) = Y.take i := by rw [List.take_of_length_le (by omega), List.take_of_length_le (by omega)]
        rw [nv_snoc, hlen, nv_take_succ hi, h4, hb]
        grind)
      refine ⟨n', m', e', Ev.succ ?_, cn, vl⟩
      simp only [dyad_Num_Add.l1]
      refine Ev.pos (by omega) (Ev.pos (by omega) (Ev.pos (by omega) (Ev.neg (by omega) (Ev.pos p1 ?_))))
      rw [rd_nat hi, wx, w1, w64 (by omega) (by omega)]
      exact ev
theorem add_j0 (hle : Y.length ≤ X.length) (c : List Int) (f : Int) :
    ∃ n' m' e', Ev (fun K => dyad_Num_Add.j0 K X Y E neg c f) (n', m', e') ∧ Can n' m' e' ∧ nval n' m' e' = (if neg then -1 else 1) * (((nv X + nv Y : Int) : Rat) * pw E) := by
  obtain ⟨n', m', e', ev, cn, vl⟩ := add_l0 (neg := neg) hX hY lX e0 e1 hle true true c f X.length 0 (by omega) (by omega) [] 0 Dig.nil rfl (by omega) (by omega) (by simp [nv])
  refine ⟨n', m', e', Ev.succ ?_, cn, vl⟩
  simp only [dyad_Num_Add.j0]
  rw [w64 (by omega) (by omega)]
  have p1 : (X.length : Int) + 1 ≤ 70368744177664 := by omega
  exact Ev.pos (by omega) (Ev.pos p1 ev)
theorem nadd_j2 (hle : Y.length ≤ X.length) (hv0 : nv Y ≤ nv X) :
    ∃ n' m' e', Ev (fun K => dyad_Num_Add.j2 K X Y E neg) (n', m', e') ∧ Can n' m' e' ∧ nval n' m' e' = (if neg then -1 else 1) * (((nv X - nv Y : Int) : Rat) * pw E) := by
  obtain ⟨n', m', e', ev, cn, vl⟩ := add_l1 (neg := neg) hX hY lX e0 e1 hle hv0 X.length 0 (by omega) (by omega) [] 0 Dig.nil rfl (by omega) (by omega) (by simp [nv])
  refine ⟨n', m', e', Ev.succ ?_, cn, vl⟩
  simp only [dyad_Num_Add.j2]
  have p1 : (X.length : Int) ≤ 70368744177664 := by omega
  exact Ev.pos (Int.natCast_nonneg _) (Ev.pos p1 ev)
end
theorem shift_val {a b : List Int} {e d : Int} (h : d ≤ e) (hv : nv b = nv a * p2 (e - d)) : (nv b : Rat) * pw d = (nv a : Rat) * pw e := by
  rw [hv]
  have : pw e = ((p2 (e - d) : Int) : Rat) * pw d := by
    rw [← pw_p2 (by omega), ← pw_add]; congr 1; omega
  rw [this]; push_cast; grind
/-- THE SUM. -/
theorem num_add_ev {E : Int} {x y : Rat} {n n' : Bool} {m m' : List Int} {e e' : Int} (hE0 : 0 ≤ E) (hE : E ≤ 1000000) (a : Nm E x n m e) (b : Nm E y n' m' e') :
    ∃ r l f, Ev (fun K => dyad_Num_Add.f K n m e n' m' e') (r, l, f) ∧ Nm (E + 1) (x + y) r l f := by
  have wrap : ∀ {r : Bool} {l : List Int} {f : Int}, Can r l f → nval r l f = x + y → Nm (E + 1) (x + y) r l f := by
    intro r l f c h
    have ha := (a.mono (show E ≤ E + 1 by omega)).whole
    have hb := (b.mono (show E ≤ E + 1 by omega)).whole
    obtain ⟨k, hk⟩ := ha
    obtain ⟨k', hk'⟩ := hb
    have la := a.abs_le
    have lb := b.abs_le
    have h2 := pw_succ E
    exact Nm.of (k := k + k') (by omega) c h (by rw [hk, hk']; push_cast; grind) (by grind) (by grind)
  obtain ⟨sa1, sa2, sa3⟩ := a.sizes hE0
  obtain ⟨sb1, sb2, sb3⟩ := b.sizes hE0
  have da := a.can.1
  have db := b.can.1
  by_cases h1 : m = []
  · have h0 : x = 0 := by rw [← a.val, h1]; unfold nval; cases n <;> simp [nv]
    refine ⟨n', m', e', ?_, wrap b.can (by rw [b.val, h0]; grind)⟩
    unfold dyad_Num_Add.f
    exact Ev.pos (by rw [h1]; rfl) (Ev.now _)
  · have hl1 : ¬ ((m.length : Int) = 0) := by have := List.length_pos_iff.mpr h1; omega
    by_cases h2 : m' = []
    · have h0 : y = 0 := by rw [← b.val, h2]; unfold nval; cases n' <;> simp [nv]
      refine ⟨n, m, e, ?_, wrap a.can (by rw [a.val, h0]; grind)⟩
      unfold dyad_Num_Add.f
      exact Ev.neg hl1 (Ev.pos (by rw [h2]; rfl) (Ev.now _))
    · have hl2 : ¬ ((m'.length : Int) = 0) := by have := List.length_pos_iff.mpr h2; omega
      obtain ⟨X, Y, d, ev, hd, dX, dY, tX, tY, vX, vY, lX, lY⟩ := line_ev (n := n) (n' := n') (a := m) (b := m') (e := e) (e' := e') da db (by omega) (by omega) (by omega) (by omega) (by omega) (by omega)
      have hdd : d ≤ e ∧ d ≤ e' ∧ (-1000000 ≤ d) := by rw [hd]; unfold mn; split <;> omega
      have valX := shift_val hdd.1 vX
      have valY := shift_val hdd.2.1 vY
      have lens : X.length ≤ 900000 ∧ Y.length ≤ 900000 := by
        have hp : pw E = pw (E - d) * pw d := by rw [← pw_add]; congr 1; omega
        have key : ∀ {Z : List Int} {v : Rat}, Top Z → (nv Z : Rat) * pw d = v → v ≤ pw E → Z.length ≤ 900000 := by
          intro Z v tZ hv hle
          by_cases hz : Z = []
          · subst hz; simp
          · have h3 := tZ hz
            have h4 : ((bp (Z.length - 1) : Int) : Rat) * pw d ≤ (nv Z : Rat) * pw d := mul_pw_le.mpr h3
            rw [bp_pw, ← pw_add, hv] at h4
            have h5 := pw_le_iff.mp (Rat.le_trans h4 hle)
            omega
        exact ⟨key tX valX a.hi, key tY valY b.hi⟩
      have nvx : nval n m e = (if n then -1 else 1) * ((nv X : Rat) * pw d) := by unfold nval; rw [valX]; cases n <;> simp <;> grind
      have nvy : nval n' m' e' = (if n' then -1 else 1) * ((nv Y : Rat) * pw d) := by unfold nval; rw [valY]; cases n' <;> simp <;> grind
      rw [a.val] at nvx
      rw [b.val] at nvy
      by_cases hs : n = n'
      · subst hs
        by_cases hlt : X.length < Y.length
        · obtain ⟨r, l, f, ev2, cn, vl⟩ := add_j0 (neg := n) dY dX lens.2 (by omega) (by omega) (E := d) (by omega) m e
          refine ⟨r, l, f, ?_, wrap cn (by rw [vl, nvx, nvy]; push_cast; grind)⟩
          unfold dyad_Num_Add.f
          exact Ev.neg hl1 (Ev.neg hl2 (Ev.bind ev (Ev.pos (by simp) (Ev.pos (show (X.length : Int) < (Y.length : Int) by omega) ev2))))
        · obtain ⟨r, l, f, ev2, cn, vl⟩ := add_j0 (neg := n) dX dY lens.1 (by omega) (by omega) (E := d) (by omega) m e
          refine ⟨r, l, f, ?_, wrap cn (by rw [vl, nvx, nvy]; push_cast; grind)⟩
          unfold dyad_Num_Add.f
          exact Ev.neg hl1 (Ev.neg hl2 (Ev.bind ev (Ev.pos (by simp) (Ev.neg (show ¬ ((X.length : Int) < (Y.length : Int)) by omega) ev2))))
      · have hb : ¬ ((n == n') = true) := by simpa using hs
        have cv := cmp_ev dX dY tX tY (by omega) (by omega)
        have hop : (if n' then (-1 : Rat) else 1) = -(if n then -1 else 1) := by cases n <;> cases n' <;> simp at hs ⊢
        rw [hop] at nvy
        by_cases h0 : nv X - nv Y = 0
        · rw [sgn_eq h0] at cv
          refine ⟨false, [], 0, ?_, wrap ⟨Dig.nil, fun h => absurd rfl h, .inl ⟨rfl, rfl, rfl⟩⟩ ?_⟩
          · unfold dyad_Num_Add.f
            exact Ev.neg hl1 (Ev.neg hl2 (Ev.bind ev (Ev.neg hb (Ev.bind cv (Ev.pos rfl (Ev.now _))))))
          · have : nv X = nv Y := by omega
            rw [nvx, nvy, this]; unfold nval; simp [nv]; grind
        · by_cases hn : nv X - nv Y < 0
          · rw [sgn_lt hn] at cv
            have hle : X.length ≤ Y.length := by
              refine Decidable.byContradiction fun hc => ?_
              have := top_lt dY tX (by omega)
              omega
            obtain ⟨r, l, f, ev2, cn, vl⟩ := nadd_j2 (neg := n') dY dX lens.2 (by omega) (by omega) (E := d) hle (by omega)
            refine ⟨r, l, f, ?_, wrap cn (by rw [vl, nvx, nvy, hop]; push_cast; grind)⟩
            unfold dyad_Num_Add.f
            exact Ev.neg hl1 (Ev.neg hl2 (Ev.bind ev (Ev.neg hb (Ev.bind cv (Ev.neg (by decide) (Ev.pos rfl ev2))))))
          · rw [sgn_gt (by omega)] at cv
            have hle : Y.length ≤ X.length := by
              refine Decidable.byContradiction fun hc => ?_
              have := top_lt dX tY (by omega)
              omega
            obtain ⟨r, l, f, ev2, cn, vl⟩ := nadd_j2 (neg := n) dX dY lens.1 (by omega) (by omega) (E := d) hle (by omega)
            refine ⟨r, l, f, ?_, wrap cn (by rw [vl, nvx, nvy]; push_cast; grind)⟩
            unfold dyad_Num_Add.f
            exact Ev.neg hl1 (Ev.neg hl2 (Ev.bind ev (Ev.neg hb (Ev.bind cv (Ev.neg (by decide) (Ev.neg (by decide) ev2))))))

section
variable {A B : List Int} (hA : Dig A) (hB : Dig B) (lab : A.length + B.length ≤ 900000) {n n' : Bool} {e e' : Int}
include hA hB lab
theorem mul_l1 {Q : Bool × List Int × Int → Prop} {i : Nat} (hi : i < A.length)
    (next : ∀ out, Dig out → out.length = A.length + B.length → (∀ k, (h : k < out.length) → i + 1 + B.length ≤ k → out[k] = 0) → nv out = nv (A.take (i + 1)) * nv B → ∃ r, Ev (fun K => dyad_Num_Mul.l0 K out A A.length ((i + 1 : Nat) : Int) n A e n' B e') r ∧ Q r) :
    ∀ t j : Nat, B.length - j = t → j ≤ B.length → ∀ (out : List Int) (c : Int), Dig out → out.length = A.length + B.length → 0 ≤ c → c < 4294967296 →
      (∀ k, (h : k < out.length) → i + B.length ≤ k → out[k] = 0) → nv out + bp (i + j) * c = nv (A.take i) * nv B + bp i * (A[i] * nv (B.take j)) →
      ∃ r, Ev (fun K => dyad_Num_Mul.l1 K out i A[i] c A A.length i B B.length j n A e n' B e') r ∧ Q r := by
  intro t
  induction t with
  | zero =>
    intro j h1 h2 out c hd hl c0 c1 hz hv
    obtain rfl : j = B.length := by omega
    have hk : i + B.length < out.length := by omega
    have z0 := hz _ hk (Nat.le_refl _)
    obtain ⟨r, ev, q⟩ := next (out.set (i + B.length) c) (hd.set _ c0 c1) (by rw [List.length_set, hl]) (by
      intro k h3 h4
      rw [List.length_set] at h3
      rw [List.getElem_set_ne (by omega)]
      exact hz k h3 (by omega)) (by
      rw [nv_set hk, z0, nv_take_succ hi]
      rw [List.take_length] at hv
      grind)
    refine ⟨r, Ev.succ ?_, q⟩
    simp only [dyad_Num_Mul.l1]
    have tn : ((i : Int) + (B.length : Int)).toNat = i + B.length := by omega
    rw [w64 (x := (i : Int) + (B.length : Int)) (by omega) (by omega), w64 (x := (i : Int) + 1) (by omega) (by omega), tn, show c % 4294967296 = c by omega]
    exact Ev.neg (by omega) (Ev.pos (by omega) (Ev.pos (by omega) ev))
  | succ t ih =>
    intro j h1 h2 out c hd hl c0 c1 hz hv
    have hj : j < B.length := by omega
    have hk : i + j < out.length := by omega
    have ha := hA.get hi
    have hb := hB.get hj
    have ho := hd.get hk
    have hp := mul_bound ha.1 hb.1 (show A[i] ≤ 4294967295 by omega) (show B[j] ≤ 4294967295 by omega)
    have e3 : rd out ((i : Int) + (j : Int)) = out[i + j] := rd_nat (i := i + j) hk
    have tn : ((i : Int) + (j : Int)).toNat = i + j := by omega
    generalize hs : c + (out[i + j] + A[i] * B[j]) = s at *
    have hr := Int.emod_add_mul_ediv s 4294967296
    obtain ⟨r, ev, q⟩ := ih (j + 1) (by omega) (by omega) (out.set (i + j) (s % 4294967296)) (s / 4294967296) (hd.set _ (by omega) (by omega)) (by rw [List.length_set, hl]) (by omega) (by omega) (by
      intro k h3 h4
      rw [List.length_set] at h3
      rw [List.getElem_set_ne (by omega)]
      exact hz k h3 h4) (by
      rw [nv_set hk, nv_take_succ hj, show i + (j + 1) = i + j + 1 by omega, bp_succ]
      have hx := bp_add i j
      have h5 : bp (i + j) * (s % 4294967296 + 4294967296 * (s / 4294967296)) = bp (i + j) * (c + (out[i + j] + A[i] * B[j])) := by rw [hr, hs]
      have h6 : bp (i + j) * (A[i] * B[j]) = bp i * (bp j * (A[i] * B[j])) := by rw [hx, Int.mul_assoc]
      grind)
    refine ⟨r, Ev.succ ?_, q⟩
    simp only [dyad_Num_Mul.l1]
    rw [w64 (x := (i : Int) + (j : Int)) (by omega) (by omega), w64 (x := (j : Int) + 1) (by omega) (by omega), tn, rd_nat hj, e3, wu64 (x := A[i]) ha.1 (by omega), wu64 (x := B[j]) hb.1 (by omega), wu64 (x := out[i + j]) ho.1 (by omega), wu64 (x := A[i] * B[j]) hp.1 (by omega), wu64 (x := out[i + j] + A[i] * B[j]) (by omega) (by omega), hs, wu64 (x := s) (by omega) (by omega)]
    exact Ev.pos (by omega) (Ev.pos (by omega) (Ev.pos (by omega) (Ev.pos (by omega) (Ev.pos (by omega) ev))))
theorem mul_l0 (he : -2000000 ≤ e ∧ e ≤ 2000000) (he' : -2000000 ≤ e' ∧ e' ≤ 2000000) : ∀ t i : Nat, A.length - i = t → i ≤ A.length → ∀ (out : List Int), Dig out → out.length = A.length + B.length →
      (∀ k, (h : k < out.length) → i + B.length ≤ k → out[k] = 0) → nv out = nv (A.take i) * nv B →
      ∃ r, Ev (fun K => dyad_Num_Mul.l0 K out A A.length i n A e n' B e') r ∧ Can r.1 r.2.1 r.2.2 ∧ nval r.1 r.2.1 r.2.2 = nval n A e * nval n' B e' := by
  intro t
  induction t with
  | zero =>
    intro i h1 h2 out hd hl hz hv
    obtain rfl : i = A.length := by omega
    obtain ⟨r, l, f, ev, cn, vl⟩ := trim_ev (neg := n != n') (l := out) (e := e + e') hd (by omega) (by omega) (by omega)
    refine ⟨(r, l, f), Ev.succ ?_, cn, ?_⟩
    · simp only [dyad_Num_Mul.l0]
      rw [w64 (x := e + e') (by omega) (by omega)]
      exact Ev.neg (by omega) (Ev.bind ev (Ev.now _))
    · rw [vl]
      rw [List.take_length] at hv
      unfold nval
      rw [hv, pw_add]
      push_cast
      cases n <;> cases n' <;> simp <;> grind
  | succ t ih =>
    intro i h1 h2 out hd hl hz hv
    have hi : i < A.length := by omega
    have ha := hA.get hi
    obtain ⟨r, ev, q⟩ := mul_l1 hA hB lab (n := n) (n' := n') (e := e) (e' := e') (Q := fun r => Can r.1 r.2.1 r.2.2 ∧ nval r.1 r.2.1 r.2.2 = nval n A e * nval n' B e') hi
      (fun out a b c d => ih (i + 1) (by omega) (by omega) out a b c d) B.length 0 (by omega) (by omega) out 0 hd hl (by omega) (by omega) hz (by simp [nv, hv])
    refine ⟨r, Ev.succ ?_, q⟩
    simp only [dyad_Num_Mul.l0]
    rw [rd_nat hi]
    exact Ev.pos (by omega) (Ev.pos (by omega) (Ev.pos (by omega) ev))
end
theorem prod_le {u v P Q : Rat} (h0 : 0 ≤ u) (h1 : u ≤ P) (h2 : 0 ≤ v) (h3 : v ≤ Q) : 0 ≤ u * v ∧ u * v ≤ P * Q :=
  ⟨Rat.mul_nonneg h0 h2, Rat.le_trans (Rat.mul_le_mul_of_nonneg_right h1 h2) (Rat.mul_le_mul_of_nonneg_left h3 (Rat.le_trans h0 h1))⟩
/-- THE PRODUCT. -/
theorem num_mul_ev {E E' : Int} {x y : Rat} {n n' : Bool} {m m' : List Int} {e e' : Int} (hE0 : 0 ≤ E) (hE : E ≤ 1000000) (hE0' : 0 ≤ E') (hE' : E' ≤ 1000000) (a : Nm E x n m e) (b : Nm E' y n' m' e') :
    ∃ r l f, Ev (fun K => dyad_Num_Mul.f K n m e n' m' e') (r, l, f) ∧ Nm (E + E') (x * y) r l f := by
  have wrap : ∀ {r : Bool} {l : List Int} {f : Int}, Can r l f → nval r l f = x * y → Nm (E + E') (x * y) r l f := by
    intro r l f c h
    obtain ⟨k, hk⟩ := a.whole
    obtain ⟨k', hk'⟩ := b.whole
    have ea : pw (-(E + E')) = pw (-E) * pw (-E') := by rw [← pw_add]; congr 1; omega
    have eb : pw (E + E') = pw E * pw E' := pw_add _ _
    obtain ⟨p0, p1⟩ := nval_abs (n := n) (e := e) a.can.1
    obtain ⟨q0, q1⟩ := nval_abs (n := n') (e := e') b.can.1
    obtain ⟨r0, r1⟩ := prod_le p0 a.hi q0 b.hi
    rw [a.val] at p1
    rw [b.val] at q1
    have s1 : x * y ≤ pw (E + E') ∧ -pw (E + E') ≤ x * y := by
      rw [eb]
      rcases p1 with p1 | p1 <;> rcases q1 with q1 | q1 <;> rw [p1, q1] <;> constructor <;> grind
    exact Nm.of (k := k * k') (by omega) c h (by rw [ea, hk, hk']; push_cast; grind) s1.1 s1.2
  obtain ⟨sa1, sa2, sa3⟩ := a.sizes hE0
  obtain ⟨sb1, sb2, sb3⟩ := b.sizes hE0'
  have da := a.can.1
  have db := b.can.1
  have nought : x * y = 0 → Nm (E + E') (x * y) false [] 0 := fun h => wrap ⟨Dig.nil, fun h => absurd rfl h, .inl ⟨rfl, rfl, rfl⟩⟩ (by rw [h]; unfold nval; simp [nv])
  by_cases h1 : m = []
  · have h0 : x = 0 := by rw [← a.val, h1]; unfold nval; cases n <;> simp [nv]
    refine ⟨false, [], 0, ?_, nought (by rw [h0]; grind)⟩
    unfold dyad_Num_Mul.f
    refine Ev.pos (by rw [h1]; rfl) (Ev.succ ?_)
    simp only [dyad_Num_Mul.j0]
    exact Ev.pos trivial (Ev.now _)
  · have hl1 : ¬ ((m.length : Int) = 0) := by have := List.length_pos_iff.mpr h1; omega
    by_cases h2 : m' = []
    · have h0 : y = 0 := by rw [← b.val, h2]; unfold nval; cases n' <;> simp [nv]
      refine ⟨false, [], 0, ?_, nought (by rw [h0]; grind)⟩
      unfold dyad_Num_Mul.f
      refine Ev.neg hl1 (Ev.succ ?_)
      simp only [dyad_Num_Mul.j0]
      exact Ev.pos (by rw [h2]; rfl) (Ev.now _)
    · have hl2 : ¬ ((m'.length : Int) = 0) := by have := List.length_pos_iff.mpr h2; omega
      have lab : m.length + m'.length ≤ 900000 := by omega
      obtain ⟨⟨r, l, f⟩, ev, cn, vl⟩ := mul_l0 da db lab (n := n) (n' := n') (e := e) (e' := e') ⟨by omega, by omega⟩ ⟨by omega, by omega⟩ m.length 0 (by omega) (by omega) (List.replicate (m.length + m'.length) 0) (Dig.zeros _) (by simp) (by
        intro k h3 h4
        simp) (by rw [nv_zeros]; simp [nv])
      refine ⟨r, l, f, ?_, wrap cn (by rw [vl, a.val, b.val])⟩
      unfold dyad_Num_Mul.f
      refine Ev.neg hl1 (Ev.succ ?_)
      simp only [dyad_Num_Mul.j0]
      have tn : ((m.length : Int) + (m'.length : Int)).toNat = m.length + m'.length := by omega
      rw [w64 (x := (m.length : Int) + (m'.length : Int)) (by omega) (by omega), tn]
      have p1 : (m.length : Int) + (m'.length : Int) ≤ 70368744177664 := by omega
      exact Ev.neg (by simpa using h2) (Ev.pos (by omega) (Ev.pos p1 ev))

/-- Bounds that hold of the value. -/
theorem Nm.fit {E E' : Int} {x : Rat} {n : Bool} {m : List Int} {e k : Int} (h : Nm E x n m e) (hE : 0 ≤ E') (hk : x = (k : Rat) * pw (-E')) (h1 : x ≤ pw E') (h2 : -pw E' ≤ x) : Nm E' x n m e :=
  Nm.of hE h.can h.val hk h1 h2
theorem int_bounds {z : Int} {E : Int} (h0 : 0 ≤ E) (h1 : z ≤ p2 E) (h2 : -p2 E ≤ z) : (z : Rat) = ((z * p2 E : Int) : Rat) * pw (-E) ∧ (z : Rat) ≤ pw E ∧ -pw E ≤ (z : Rat) := by
  rw [pw_p2 h0]
  refine ⟨?_, by exact_mod_cast h1, by have : ((-p2 E : Int) : Rat) ≤ (z : Rat) := by exact_mod_cast h2
                                       push_cast at this; exact this⟩
  have := pw_neg_mul E
  rw [pw_p2 h0] at this
  push_cast
  grind
theorem Nm.int {E E' : Int} {z : Int} {n : Bool} {m : List Int} {e : Int} (h : Nm E (z : Rat) n m e) (hE : 0 ≤ E') (h1 : z ≤ p2 E') (h2 : -p2 E' ≤ z) : Nm E' (z : Rat) n m e :=
  let b := int_bounds hE h1 h2
  h.fit hE b.1 b.2.1 b.2.2
theorem nv_two {u : Int} (h0 : 0 ≤ u) (h1 : u < 18446744073709551616) : Dig [u % 4294967296, u / 4294967296 % 4294967296] ∧ nv [u % 4294967296, u / 4294967296 % 4294967296] = u := by
  refine ⟨Dig.mk (by omega) (by omega) (Dig.one (by omega) (by omega)), ?_⟩
  simp only [nv]
  omega
end Gim
namespace Gim
open Go Go.RowKit Go.Proofs.YtejkoahgmnejkaaDoorW.PrintWords Go.Proofs.YtejkoahgmnejkaaDoorW.PrintLast Go.Proofs.YtejkoahgmnejkaaDoorW.PrintMore Go.Proofs.YtejkoahgmnejkaaDoor.F
set_option linter.unusedVariables false
set_option linter.unusedSectionVars false

theorem nval_sgd (n : Bool) (m : List Int) (e : Int) : nval n m e = (sgd n (nv m) : Rat) * pw e := by
  unfold nval sgd
  cases n
  · simp
  · simp; grind
/-- WHAT A PATTERN IS. -/
theorem of_ev {a E : Int} (hE : E = 1074) (ha : U a) (fa : fin a) : ∃ r l f, Ev (fun K => dyad_Of.f K a) (r, l, f, true) ∧ Nm E (val a) r l f := by
  obtain ⟨e1, e2⟩ := fin_expo fa
  have uM := mant_U a
  have lM := mant_lt (m := mag a)
  have parts : ∃ p q, Ev (fun k => word_Parts.f k a) (p, q) ∧ 0 ≤ p ∧ p < 9007199254740992 ∧ -1074 ≤ q ∧ q ≤ 971 ∧ val a = (sgd (neg a) p : Rat) * pw q := by
    by_cases h : 0 < mag a
    · exact ⟨_, _, word_Parts_ev ha h fa, uM.1, lM, e1, e2, val_mant a⟩
    · have h0 : mag a = 0 := by have := (mag_lt (a := a)).1; omega
      refine ⟨0, 0, word_Parts_none ha (.inl h0), by decide, by decide, by decide, by decide, ?_⟩
      rw [val_zero_iff.mpr h0]; unfold sgd; cases neg a <;> simp
  obtain ⟨p, q, ev, p0, p1, q0, q1, hv⟩ := parts
  obtain ⟨dg, vl⟩ := nv_two (u := p) (by omega) (by omega)
  obtain ⟨r, l, f, evt, cn, v⟩ := trim_ev (neg := neg a) (e := q) dg (by simp) (by omega) (by omega)
  rw [nval_sgd (neg a), vl] at v
  refine ⟨r, l, f, ?_, ?_⟩
  · unfold dyad_Of.f
    refine Ev.call (word_Finite_eq ha) (Ev.pos (decide_eq_true fa) (Ev.bind ev (Ev.call (word_Neg_eq ha) (Ev.bind evt (Ev.now _)))))
  · have hb : rabs (val a) ≤ pw E := by
      rw [hv, rabs_sgd _ p0]
      have h1 : (p : Rat) * pw q ≤ pw 53 * pw 971 := by
        refine (prod_le ?_ ?_ (Rat.le_of_lt (pw_pos q)) (pw_mono q1)).2
        · exact_mod_cast p0
        · rw [pw_p2 (a := 53) (by decide), show p2 53 = 9007199254740992 from by decide]; exact Rat.intCast_le_intCast.mpr (Int.le_of_lt p1)
      rw [← pw_add] at h1
      exact Rat.le_trans h1 (pw_mono (by omega))
    refine Nm.of (k := sgd (neg a) p * p2 (q + E)) (by omega) cn (v.trans hv.symm) ?_ ?_ ?_
    · rw [hv]
      have : pw q = ((p2 (q + E) : Int) : Rat) * pw (-E) := by rw [← pw_p2 (by omega), ← pw_add]; congr 1; omega
      rw [this]; push_cast; grind
    · unfold rabs at hb; split at hb <;> grind
    · unfold rabs at hb; split at hb <;> grind
theorem of_none {a : Int} (ha : U a) (fa : ¬ fin a) (K : Nat) : dyad_Of.f K a = some (false, [], 0, false) := by
  unfold dyad_Of.f
  rw [word_Finite_eq ha, decide_eq_false fa]
  rfl

/-- What a pattern is as an exact number: of what isn't finite, nought. -/
noncomputable def dv (a : Int) : Rat := if fin a then val a else 0
theorem dv_fin {a : Int} (h : fin a) : dv a = val a := if_pos h
theorem of_dv {a E : Int} (hE : E = 1074) (ha : U a) : ∃ r l f, Ev (fun K => dyad_Of.f K a) (r, l, f, decide (fin a)) ∧ Nm E (dv a) r l f := by
  by_cases fa : fin a
  · obtain ⟨r, l, f, ev, nm⟩ := of_ev hE ha fa
    rw [decide_eq_true fa, dv_fin fa]
    exact ⟨r, l, f, ev, nm⟩
  · refine ⟨false, [], 0, ?_, ?_⟩
    · rw [decide_eq_false fa]; exact ⟨0, fun K _ => of_none ha fa K⟩
    · unfold dv; rw [if_neg fa]
      exact ⟨⟨Dig.nil, fun h => absurd rfl h, .inl ⟨rfl, rfl, rfl⟩⟩, by unfold nval; simp [nv], by omega, by simp [nv]; exact Rat.le_of_lt (pw_pos E)⟩
/-- The squares of the first n. -/
def rs (h : Nat → Rat) : Nat → Rat
  | 0 => 0
  | n + 1 => rs h n + h n * h n
/-- The squares of the first n rows. -/
def tt (g : Nat → Nat → Rat) (C : Nat) : Nat → Rat
  | 0 => 0
  | n + 1 => tt g C n + rs (g n) C
theorem rs_succ (h : Nat → Rat) (n : Nat) : rs h (n + 1) = rs h n + h n * h n := rfl
theorem tt_succ (g : Nat → Nat → Rat) (C n : Nat) : tt g C (n + 1) = tt g C n + rs (g n) C := rfl
theorem rs_zero (n : Nat) : rs (fun _ => 0) n = 0 := by
  induction n with
  | zero => rfl
  | succ n ih => rw [rs_succ, ih]; grind
theorem tt_zero (C n : Nat) : tt (fun _ _ => 0) C n = 0 := by
  induction n with
  | zero => rfl
  | succ n ih => rw [tt_succ, ih, rs_zero]; grind
theorem rs_congr {h h' : Nat → Rat} {n : Nat} (e : ∀ k, k < n → h k = h' k) : rs h n = rs h' n := by
  induction n with
  | zero => rfl
  | succ n ih => rw [rs_succ, rs_succ, ih (fun k hk => e k (by omega)), e n (by omega)]
theorem tt_congr {g g' : Nat → Nat → Rat} {C n : Nat} (e : ∀ i k, i < n → k < C → g i k = g' i k) : tt g C n = tt g' C n := by
  induction n with
  | zero => rfl
  | succ n ih => rw [tt_succ, tt_succ, ih (fun i k hi hk => e i k (by omega) hk), rs_congr (fun k hk => e n k (by omega) hk)]
theorem Nm.nought {E : Int} (hE : 0 ≤ E) : Nm E 0 false [] 0 :=
  ⟨⟨Dig.nil, fun h => absurd rfl h, .inl ⟨rfl, rfl, rfl⟩⟩, by unfold nval; simp [nv], by omega, by simp [nv]; exact Rat.le_of_lt (pw_pos E)⟩

section
variable {R C : Nat} {s : Int} {d : List Int} (hR : R ≤ 100) (hC : C ≤ 100) (hs : s ≤ 1099511627776) (hu : ∀ x ∈ d, U x) {E : Int} (hE : E = 1074)
include hR hC hs hu hE
theorem square_l1 {i : Nat} (hi : i < R) {A : Rat} {Q : Bool × List Int × Int → Prop} {B : Int} (hB : 2 * E ≤ B) (hB2 : B ≤ 100000)
    (next : ∀ r l f, Nm (B + C) (A + rs (fun k => dv (at4 R C s d i k)) C) r l f → ∃ ρ, Ev (fun K => mat_Matrix_Square.l0 K R ((i + 1 : Nat) : Int) R C s d r l f) ρ ∧ Q ρ) :
    ∀ t k : Nat, C - k = t → k ≤ C → ∀ r l f, Nm (B + k) (A + rs (fun k => dv (at4 R C s d i k)) k) r l f → ∃ ρ, Ev (fun K => mat_Matrix_Square.l1 K i R i C k R C s d r l f) ρ ∧ Q ρ := by
  intro t
  induction t with
  | zero =>
    intro k h1 h2 r l f hn
    obtain rfl : k = C := by omega
    obtain ⟨ρ, ev, q⟩ := next r l f hn
    refine ⟨ρ, Ev.succ ?_, q⟩
    simp only [mat_Matrix_Square.l1]
    rw [w64 (x := (i : Int) + 1) (by omega) (by omega)]
    exact Ev.neg (by omega) ev
  | succ t ih =>
    intro k h1 h2 r l f hn
    have hk : k < C := by omega
    obtain ⟨r1, l1, f1, ev1, nm1⟩ := of_dv hE (at_U (r := R) (c := C) (s := s) hu i k)
    obtain ⟨r2, l2, f2, ev2, nm2⟩ := num_mul_ev (by omega) (by omega) (by omega) (by omega) nm1 nm1
    obtain ⟨r3, l3, f3, ev3, nm3⟩ := num_add_ev (E := B + k) (by omega) (by omega) hn (nm2.mono (by omega))
    have e1 : A + rs (fun k => dv (at4 R C s d i k)) k + dv (at4 R C s d i k) * dv (at4 R C s d i k) = A + rs (fun k => dv (at4 R C s d i k)) (k + 1) := by rw [rs_succ]; grind
    have e2 : B + (k : Int) + 1 = B + ((k + 1 : Nat) : Int) := by omega
    rw [e1, e2] at nm3
    obtain ⟨ρ, ev, q⟩ := ih (k + 1) (by omega) (by omega) _ _ _ nm3
    refine ⟨ρ, Ev.succ ?_, q⟩
    simp only [mat_Matrix_Square.l1]
    rw [w64 (x := (k : Int) + 1) (by omega) (by omega)]
    exact Ev.pos (by omega) (Ev.call (at_eq ⟨by omega, by omega, by omega⟩ _ _ _) (Ev.bind ev1 (Ev.bind ev2 (Ev.bind ev3 ev))))
theorem square_l0 : ∀ t i : Nat, R - i = t → i ≤ R → ∀ r l f, Nm (2 * E + (i * C : Nat)) (tt (fun i k => dv (at4 R C s d i k)) C i) r l f → ∃ r' l' f', Ev (fun K => mat_Matrix_Square.l0 K R i R C s d r l f) (r', l', f') ∧ Nm (2 * E + (R * C : Nat)) (tt (fun i k => dv (at4 R C s d i k)) C R) r' l' f' := by
  intro t
  induction t with
  | zero =>
    intro i h1 h2 r l f hn
    obtain rfl : i = R := by omega
    refine ⟨r, l, f, Ev.succ ?_, hn⟩
    simp only [mat_Matrix_Square.l0]
    exact Ev.neg (by omega) (Ev.now _)
  | succ t ih =>
    intro i h1 h2 r l f hn
    have hi : i < R := by omega
    have hb : i * C ≤ 100 * 100 := Nat.mul_le_mul (by omega) hC
    obtain ⟨⟨r', l', f'⟩, ev, q⟩ := square_l1 hR hC hs hu hE hi (A := tt (fun i k => dv (at4 R C s d i k)) C i) (B := 2 * E + (i * C : Nat)) (Q := fun ρ => Nm (2 * E + (R * C : Nat)) (tt (fun i k => dv (at4 R C s d i k)) C R) ρ.1 ρ.2.1 ρ.2.2) (by omega) (by omega)
      (fun r l f hn => by
        have e2 : 2 * E + ((i * C : Nat) : Int) + (C : Int) = 2 * E + (((i + 1) * C : Nat) : Int) := by rw [Nat.add_mul]; omega
        rw [e2, ← tt_succ] at hn
        obtain ⟨r', l', f', ev, q⟩ := ih (i + 1) (by omega) (by omega) r l f hn
        exact ⟨(r', l', f'), ev, q⟩) C 0 (by omega) (by omega) r l f (by
        have e3 : tt (fun i k => dv (at4 R C s d i k)) C i + rs (fun k => dv (at4 R C s d i k)) 0 = tt (fun i k => dv (at4 R C s d i k)) C i := by unfold rs; grind
        rw [e3]; exact hn.mono (by omega))
    refine ⟨r', l', f', Ev.succ ?_, q⟩
    simp only [mat_Matrix_Square.l0]
    exact Ev.pos (by omega) ev
/-- The sum of the squares. -/
theorem square_ev : ∃ r l f, Ev (fun K => mat_Matrix_Square.f K R C s d) (r, l, f) ∧ Nm (2 * E + (R * C : Nat)) (tt (fun i k => dv (at4 R C s d i k)) C R) r l f := by
  unfold mat_Matrix_Square.f
  exact square_l0 hR hC hs hu hE R 0 (by omega) (by omega) false [] 0 (Nm.nought (by omega))
end
end Gim
namespace Gim
open Go Go.RowKit Go.Proofs.YtejkoahgmnejkaaDoorW.PrintWords Go.Proofs.YtejkoahgmnejkaaDoorW.PrintLast Go.Proofs.YtejkoahgmnejkaaDoorW.PrintMore Go.Proofs.YtejkoahgmnejkaaDoor.F
set_option linter.unusedVariables false

def rsgn (x : Rat) : Int := if x = 0 then 0 else if x < 0 then -1 else 1
theorem Nm.zero {E : Int} (hE : 0 ≤ E) : Nm E 0 false [] 0 :=
  ⟨⟨Dig.nil, fun h => absurd rfl h, .inl ⟨rfl, rfl, rfl⟩⟩, by unfold nval; simp [nv], by omega, by simp [nv]; exact Rat.le_of_lt (pw_pos E)⟩
theorem sign_eq {E : Int} {x : Rat} {n : Bool} {m : List Int} {e : Int} (a : Nm E x n m e) : dyad_Num_Sign.f n m e = some (rsgn x) := by
  have hx := a.val
  rw [nval_sgd] at hx
  unfold dyad_Num_Sign.f rsgn
  by_cases h : m = []
  · have h0 : x = 0 := by rw [← hx, h]; unfold sgd; cases n <;> simp [nv]
    rw [if_pos (by rw [h]; rfl), if_pos h0]
  · have hp := nv_pos a.can.2.1 h
    have hl : ¬ ((m.length : Int) = 0) := by have := List.length_pos_iff.mpr h; omega
    have h0 : x ≠ 0 := by
      intro h0
      rw [h0] at hx
      have := int_pw_zero.mp hx
      unfold sgd at this; split at this <;> omega
    rw [if_neg hl, if_neg h0]
    have hs : x < 0 ↔ n = true := by
      rw [← hx, int_pw_neg]
      unfold sgd; cases n <;> simp <;> omega
    cases n
    · rw [if_neg (by decide), if_neg (by rw [hs]; decide)]
    · rw [if_pos rfl, if_pos (hs.mpr rfl)]

def sameAt (R C : Nat) (s : Int) (d : List Int) (r' c' s' : Int) (d' : List Int) : Prop := ∀ i, i < R → ∀ k, k < C → at4 R C s d i k = at4 r' c' s' d' i k
instance (R C : Nat) (s : Int) (d : List Int) (r' c' s' : Int) (d' : List Int) : Decidable (sameAt R C s d r' c' s' d') := by unfold sameAt; exact inferInstance
theorem same_yes_l1 {R C : Nat} {r' c' s s' : Int} (h : Sm R C s) (h' : Sm r' c' s') (d d' : List Int) {b : Bool} {i : Nat} (hi : i < R)
    (hk : Ev (fun K => mat_Matrix_Same.l0 K R ((i : Int) + 1) R C s d r' c' s' d') b) (hs : ∀ k, k < C → at4 R C s d i k = at4 r' c' s' d' i k) :
    ∀ n k : Nat, C - k = n → k ≤ C → Ev (fun K => mat_Matrix_Same.l1 K i R i C k R C s d r' c' s' d') b := by
  obtain ⟨h1, h2, h3⟩ := id h
  intro n
  induction n with
  | zero =>
    intro k e1 e2
    obtain rfl : k = C := by omega
    refine Ev.succ ?_
    simp only [mat_Matrix_Same.l1]
    refine Ev.neg (by omega) ?_
    rw [w64 (by omega) (by omega)]
    exact hk
  | succ n ih =>
    intro k e1 e2
    refine Ev.succ ?_
    simp only [mat_Matrix_Same.l1]
    refine Ev.pos (by omega) (Ev.call (at_eq h d i k) (Ev.call (at_eq h' d' i k) (Ev.pos (hs k (by omega)) ?_)))
    rw [w64 (by omega) (by omega)]
    have := ih (k + 1) (by omega) (by omega)
    exact this
theorem same_no_l1 {R C : Nat} {r' c' s s' : Int} (h : Sm R C s) (h' : Sm r' c' s') (d d' : List Int) {i : Nat} {q : Nat} (hq : q < C) (hs : at4 R C s d i q ≠ at4 r' c' s' d' i q) :
    ∀ n k : Nat, q - k = n → k ≤ q → Ev (fun K => mat_Matrix_Same.l1 K i R i C k R C s d r' c' s' d') false := by
  obtain ⟨h1, h2, h3⟩ := id h
  intro n
  induction n with
  | zero =>
    intro k e1 e2
    obtain rfl : k = q := by omega
    refine Ev.succ ?_
    simp only [mat_Matrix_Same.l1]
    exact Ev.pos (by omega) (Ev.call (at_eq h d i k) (Ev.call (at_eq h' d' i k) (Ev.neg hs (Ev.now _))))
  | succ n ih =>
    intro k e1 e2
    refine Ev.succ ?_
    simp only [mat_Matrix_Same.l1]
    refine Ev.pos (by omega) (Ev.call (at_eq h d i k) (Ev.call (at_eq h' d' i k) ?_))
    by_cases e : at4 R C s d i k = at4 r' c' s' d' i k
    · refine Ev.pos e ?_
      rw [w64 (by omega) (by omega)]
      have := ih (k + 1) (by omega) (by omega)
      exact this
    · exact Ev.neg e (Ev.now _)
theorem same_l0 {R C : Nat} {r' c' s s' : Int} (h : Sm R C s) (h' : Sm r' c' s') (d d' : List Int) :
    ∀ n i : Nat, R - i = n → i ≤ R → Ev (fun K => mat_Matrix_Same.l0 K R i R C s d r' c' s' d') (decide (∀ j, j < R → i ≤ j → ∀ k, k < C → at4 R C s d j k = at4 r' c' s' d' j k)) := by
  obtain ⟨h1, h2, h3⟩ := id h
  intro n
  induction n with
  | zero =>
    intro i e1 e2
    refine Ev.succ ?_
    simp only [mat_Matrix_Same.l0]
    refine Ev.neg (by omega) ?_
    rw [decide_eq_true (fun j hj hij => by omega)]
    exact Ev.now _
  | succ n ih =>
    intro i e1 e2
    refine Ev.succ ?_
    simp only [mat_Matrix_Same.l0]
    refine Ev.pos (by omega) ?_
    have hrec := ih (i + 1) (by omega) (by omega)
    by_cases hs : ∀ k, k < C → at4 R C s d i k = at4 r' c' s' d' i k
    · have e : decide (∀ j, j < R → i ≤ j → ∀ k, k < C → at4 R C s d j k = at4 r' c' s' d' j k) = decide (∀ j, j < R → i + 1 ≤ j → ∀ k, k < C → at4 R C s d j k = at4 r' c' s' d' j k) := by
        rw [decide_eq_decide]
        constructor
        · intro hh j hj hij; exact hh j hj (by omega)
        · intro hh j hj hij
          by_cases ej : j = i
          · subst ej; exact hs
          · exact hh j hj (by omega)
      rw [e]
      have := same_yes_l1 h h' d d' (i := i) (by omega) hrec hs C 0 (by omega) (by omega)
      exact this
    · have hs' : ∃ q, q < C ∧ at4 R C s d i q ≠ at4 r' c' s' d' i q := by
        refine Decidable.byContradiction fun hc => hs fun k hk => Decidable.byContradiction fun he => hc ⟨k, hk, he⟩
      obtain ⟨q, hq, hne⟩ := hs'
      rw [decide_eq_false (fun hh => hne (hh i (by omega) (by omega) q hq))]
      have := same_no_l1 h h' d d' (i := i) hq hne q 0 (by omega) (by omega)
      exact this
theorem mat_same_ev {R C : Nat} {r' c' s s' : Int} (h : Sm R C s) (h' : Sm r' c' s') (d d' : List Int) :
    Ev (fun K => mat_Matrix_Same.f K R C s d r' c' s' d') (decide ((R : Int) = r' ∧ (C : Int) = c' ∧ sameAt R C s d r' c' s' d')) := by
  unfold mat_Matrix_Same.f
  by_cases e : (R : Int) = r'
  · refine Ev.pos e ?_
    refine Ev.succ ?_
    simp only [mat_Matrix_Same.j0]
    by_cases e2 : (C : Int) = c'
    · refine Ev.neg (by simp [e2]) ?_
      have := same_l0 h h' d d' R 0 (by omega) (by omega)
      have e3 : decide ((R : Int) = r' ∧ (C : Int) = c' ∧ sameAt R C s d r' c' s' d') = decide (∀ j, j < R → 0 ≤ j → ∀ k, k < C → at4 R C s d j k = at4 r' c' s' d' j k) := by
        rw [decide_eq_decide]
        exact ⟨fun hh j hj _ => hh.2.2 j hj, fun hh => ⟨e, e2, fun j hj => hh j hj (by omega)⟩⟩
      rw [e3]
      exact this
    · refine Ev.pos (by simpa using e2) ?_
      rw [decide_eq_false (fun hh => e2 hh.2.1)]
      exact Ev.now _
  · refine Ev.neg e ?_
    refine Ev.succ ?_
    simp only [mat_Matrix_Same.j0]
    rw [decide_eq_false (fun hh => e hh.1)]
    exact Ev.pos trivial (Ev.now _)
end Gim

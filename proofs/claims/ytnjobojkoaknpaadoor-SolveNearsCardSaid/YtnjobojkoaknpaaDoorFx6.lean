-- Written by a program of this seat's session (mkprint), out of the translation.
import Derived.Test.YtnjobojkoaknpaaDoorShort
import Derived.Test.YtnjobojkoaknpaaDoorFx0
import Derived.Test.YtnjobojkoaknpaaDoorFx2
import Derived.Test.YtnjobojkoaknpaaDoorFx3
import Derived.Test.YtnjobojkoaknpaaDoorFx4
import Derived.Test.YtnjobojkoaknpaaDoorFx5
namespace Go.Proofs.YtnjobojkoaknpaaDoor.F
open Go.RowKit Go.Proofs.YtnjobojkoaknpaaDoorW.PrintWords Go.Proofs.YtnjobojkoaknpaaDoorW.PrintLast Go.Proofs.YtnjobojkoaknpaaDoorW.PrintMore
attribute [local go_sem] uh uf vv vw qw qp tu ui   -- for this text's walks alone
set_option linter.unusedVariables false
set_option linter.unusedSimpArgs false

/-! ### bi: function 62 -/
mutual
def bi.j0 : Nat → Int → Int → Int → Int → Bool → Option (Int × Int)
 | 0, _, _, _, _, _ => none
 | k + 1, x0, x1, x9, x10, x37 => if x37 = true then (some (9221120237041090560, 16)) else (if x9 = 4 then (some (x0, 0)) else (if x10 = 4 then (some (x1, 0)) else (if x9 = 1 then (bi.j1 k x0 x1 x9 x10 (x10 == 1)) else (bi.j1 k x0 x1 x9 x10 false))))
def bi.j1 : Nat → Int → Int → Int → Int → Bool → Option (Int × Int)
 | 0, _, _, _, _, _ => none
 | k + 1, x0, x1, x9, x10, x57 => if x57 = true then (some (Go.bits .and .u64 x0 x1, 0)) else (if x9 = 1 then (some (x1, 0)) else (if x10 = 1 then (some (x0, 0)) else ((Ae.f x0).bind fun t211 => ((Ae.f x1).bind fun t212 => (if t211 < t212 then (bi.j2 k x1 x0) else (bi.j2 k x0 x1))))))
def bi.j2 : Nat → Int → Int → Option (Int × Int)
 | 0, _, _ => none
 | k + 1, x0, x1 => (jf.f k x0).bind fun bt213 => ((jf.f k x1).bind fun bt215 => ((ic.f 0 bt213.1 64).bind fun bt217 => ((ic.f 0 bt215.1 64).bind fun bt220 => ((ax.f k bt220.1 bt220.2 (wrap64 (bt213.2 - bt215.2))).bind fun bt222 => ((lh.f x0).bind fun t226 => ((lh.f x1).bind fun t227 => (if (t226 == t227) = true then ((o8.f bt217.1 bt217.2 bt222.1 bt222.2.1).bind fun bt228 => ((lh.f x0).bind fun t232 => ((aj.f k t232 bt228.1 bt228.2.1 (wrap64 (bt213.2 - 64)) bt222.2.2).bind fun bt233 => (some (bt233.1, bt233.2))))) else (if bt222.2.2 = true then ((o8.f bt222.1 bt222.2.1 0 1).bind fun bt235 => (bi.j3 k x0 bt213.2 bt222.2.2 bt217.1 bt217.2 bt235.1 bt235.2.1)) else (bi.j3 k x0 bt213.2 bt222.2.2 bt217.1 bt217.2 bt222.1 bt222.2.1)))))))))
def bi.j3 : Nat → Int → Int → Bool → Int → Int → Int → Int → Option (Int × Int)
 | 0, _, _, _, _, _, _, _ => none
 | k + 1, x0, x12, x17, x220000, x220001, x226000, x226001 => (xc.f x220000 x220001 x226000 x226001).bind fun bt238 => ((lg.f bt238.1 bt238.2.1).bind fun t242 => (if t242 = true then (bi.j4 k x0 x12 x17 (!x17) bt238.1 bt238.2.1) else (bi.j4 k x0 x12 x17 false bt238.1 bt238.2.1)))
def bi.j4 : Nat → Int → Int → Bool → Bool → Int → Int → Option (Int × Int)
 | 0, _, _, _, _, _, _ => none
 | k + 1, x0, x12, x17, x143, x242000, x242001 => if x143 = true then (some (0, 0)) else ((lh.f x0).bind fun t243 => ((aj.f k t243 x242000 x242001 (wrap64 (x12 - 64)) x17).bind fun bt244 => (some (bt244.1, bt244.2))))
end
def bi.f (k : Nat) (a0 : Int) (a1 : Int) : Option (Int × Int) := (jc.f k (([a0, a1] : List Int))).bind fun bt206 => (if bt206.2.2 = true then (some (bt206.1, bt206.2.1)) else ((dw.f k a0).bind fun t209 => ((dw.f k a1).bind fun t210 => (if t209 = 4 then (if t210 = 4 then (bi.j0 k a0 a1 t209 t210 (a0 != a1)) else (bi.j0 k a0 a1 t209 t210 false)) else (bi.j0 k a0 a1 t209 t210 false)))))
theorem bi.jm : ∀ k, (∀ y0 y1 y2 y3 y4, LeO (bi.j0 k y0 y1 y2 y3 y4) (bi.j0 (k + 1) y0 y1 y2 y3 y4)) ∧ (∀ y0 y1 y2 y3 y4, LeO (bi.j1 k y0 y1 y2 y3 y4) (bi.j1 (k + 1) y0 y1 y2 y3 y4)) ∧ (∀ y0 y1, LeO (bi.j2 k y0 y1) (bi.j2 (k + 1) y0 y1)) ∧ (∀ y0 y1 y2 y3 y4 y5 y6, LeO (bi.j3 k y0 y1 y2 y3 y4 y5 y6) (bi.j3 (k + 1) y0 y1 y2 y3 y4 y5 y6)) ∧ (∀ y0 y1 y2 y3 y4 y5, LeO (bi.j4 k y0 y1 y2 y3 y4 y5) (bi.j4 (k + 1) y0 y1 y2 y3 y4 y5))
 | 0 => ⟨fun _ _ _ _ _ r h => by simp [bi.j0] at h, fun _ _ _ _ _ r h => by simp [bi.j1] at h, fun _ _ r h => by simp [bi.j2] at h, fun _ _ _ _ _ _ _ r h => by simp [bi.j3] at h, fun _ _ _ _ _ _ r h => by simp [bi.j4] at h⟩
 | k + 1 => by
  obtain ⟨ih0, ih1, ih2, ih3, ih4⟩ := bi.jm k
  refine ⟨?_, ?_, ?_, ?_, ?_⟩ <;> intros <;> (first | unfold bi.j0 | unfold bi.j1 | unfold bi.j2 | unfold bi.j3 | unfold bi.j4) <;>
   repeat' with_reducible first | apply ih0 | apply ih1 | apply ih2 | apply ih3 | apply ih4 | apply aj.mono | apply jc.mono | apply ax.mono | apply dw.mono | apply jf.mono | exact LeO.refl _ | exact LeO.none _ | refine LeO.ite ?_ ?_ | refine LeO.bind ?_ (fun _ => ?_)
theorem bi.mono : ∀ a0 a1 k, LeO (bi.f k a0 a1) (bi.f (k + 1) a0 a1) := by
 intro a0 a1 k; obtain ⟨ih0, ih1, ih2, ih3, ih4⟩ := bi.jm k
 unfold bi.f
 repeat' with_reducible first | apply ih0 | apply ih1 | apply ih2 | apply ih3 | apply ih4 | apply aj.mono | apply jc.mono | apply ax.mono | apply dw.mono | apply jf.mono | exact LeO.refl _ | exact LeO.none _ | refine LeO.ite ?_ ?_ | refine LeO.bind ?_ (fun _ => ?_)
def bi.T25 : Bool × List (List Nat × List Nat) := (true, [([], []), ([0], [0]), ([], []), ([], []), ([3], [3]), ([], []), ([1, 2, 4, 5, 1], [1, 2, 4, 5]), ([6], [6]), ([6], [6]), ([7, 6, 0, 1, 2, 3, 4, 5, 6, 7, 8], [7]), ([8, 9, 0, 1, 2, 3, 4, 5, 6, 7, 8, 9], [8])])
def bi.B25 : List Nat := [0, 1, 0, 0, 8, 0, 63, 127, 127, 511, 1023]
theorem bi.tab25 : xe .any (opsOf Tryd.f62 25) = bi.T25 := by kernel_rfl
theorem bi.bits25 : r9 bi.T25.2 bi.B25 = true := by kernel_rfl
def bi.T31 : Bool × List (List Nat × List Nat) := (true, [([], []), ([0], [0]), ([], []), ([], []), ([3], [3]), ([], []), ([1, 2, 4, 5, 1], [1, 2, 4, 5]), ([6], [6]), ([6], [6]), ([7, 6, 0, 1, 2, 3, 4, 5, 6, 7, 8], [7]), ([8, 9, 0, 1, 2, 3, 4, 5, 6, 7, 8, 9], [8])])
def bi.B31 : List Nat := [0, 1, 0, 0, 8, 0, 63, 127, 127, 511, 1023]
theorem bi.tab31 : xe .any (opsOf Tryd.f62 31) = bi.T31 := by kernel_rfl
theorem bi.bits31 : r9 bi.T31.2 bi.B31 = true := by kernel_rfl
set_option maxHeartbeats 8000000 in
set_option maxRecDepth 100000 in
theorem bi.calls (k : Nat) (a0 : Int) (a1 : Int) (r1 : Int) (r2 : Int) (w : World) (h : bi.f k a0 a1 = some (r1, r2)) :
  Calls Tryd.prog 62 #[.int .u64 a0, .int .u64 a1] w fun e w' => e = .returned (.tuple #[.int .u64 r1, .int .u8 r2]) ∧ Below w.heap.size w w' := by
 have hu65 := Tryd.underlying65; have HB := aa.mk (Below.refl w.heap.size w); have H : ((jc.f k (([a0, a1] : List Int))).bind fun bt206 => (if bt206.2.2 = true then (some (bt206.1, bt206.2.1)) else ((dw.f k a0).bind fun t209 => ((dw.f k a1).bind fun t210 => (if t209 = 4 then (if t210 = 4 then (bi.j0 k a0 a1 t209 t210 (a0 != a1)) else (bi.j0 k a0 a1 t209 t210 false)) else (bi.j0 k a0 a1 t209 t210 false)))))) = some (r1, r2) := h; clear h; obtain ⟨y203, hy203⟩ : ∃ y_ : List Int, y_ = (([a0, a1] : List Int)) := ⟨_, rfl⟩; replace H : ((jc.f k y203).bind fun bt206 => (if bt206.2.2 = true then (some (bt206.1, bt206.2.1)) else ((dw.f k a0).bind fun t209 => ((dw.f k a1).bind fun t210 => (if t209 = 4 then (if t210 = 4 then (bi.j0 k a0 a1 t209 t210 (a0 != a1)) else (bi.j0 k a0 a1 t209 t210 false)) else (bi.j0 k a0 a1 t209 t210 false)))))) = some (r1, r2) := by first | (rw [hy203]; with_reducible exact H) | (have H2_ := (Option.bind_some _ _).symm.trans H; rw [hy203]; with_reducible exact H2_) | (have H2_ := (Option.bind_some _ _).symm.trans H; with_reducible exact H2_) | with_reducible exact H | (rw [hy203]; exact H) | exact H
 have Ny203 := aa.mk hy203; clear hy203; obtain ⟨⟨t206, t207, t208⟩, A3, H⟩ := ob H; (try dsimp -simprocs only at H)
 by_cases c4 : t208 = true
 ·
  subst c4; rw [if_pos rfl] at H; simp only [Option.some.injEq, Prod.mk.injEq] at H; obtain ⟨rfl, rfl⟩ := H; go_enter Tryd.func62, Tryd.ntmps62
  go_wp2_with (first | ((with_reducible refine bq (N := 25) rfl ?_); refine Kd.Cj (Kd.int .u64) _ 24 ?hg (N := 25) ?hd (xs := ([a0, a1] : List Int)) (inner := [.int .u64 a0, .int .u64 a1]) (ok := fun _ => True) (okp := fun _ => True) ?hr ?hp (fun _ hk => hk) trivial (Below.refl _ _) (Nat.le_refl _) (by simp) ?_; (case hd => rfl); (case hg => rfl); (case hr => first | (go_simp; done) | (go_simp; rfl)); (case hp => exact (qj.one (show Kd.M (Kd.int .u64) _ _ _ a0 [.int .u64 a0] from rfl) (qj.one (show Kd.M (Kd.int .u64) _ _ _ a1 [.int .u64 a1] from rfl) (qj.none _ _)))); intro v204 w5 ho6 hb hg_ hnew_; clear hg_ hnew_; (first | rw [← Ny203.out] at ho6 | (simp only [Int.reduceToNat] at ho6; rw [← Ny203.out] at ho6)); refine ax2 (Kd.pg ho6 (az bel)) (af bel hb) ?_; clear HB; intro HO205 HB; clear hb ho6; obtain ⟨Ao7, co7, eo7⟩ := Kd.mg HO205.out; subst eo7) | ((with_reducible refine ag (f := 70) rfl ?_); refine df (some 26) rfl rfl Tryd.func70 (by kernel_rfl) rfl #[.slice Ao7 y203.length co7] rfl ga ?_; (with_reducible refine (jc.calls k _ _ y203 t206 t207 true _ ?side1 ?side2 A3.out).mono ?_); (case side1 => exact ks HO205); (case side2 => exact (Kd.jq HO205.out).2.1); rintro e w' ⟨rfl, ⟨nd, rfl⟩⟩; refine ⟨_, rfl, ?_⟩))
  go_ret2
  exact ⟨er, bel⟩
 ·
  replace c4 := Bool.eq_false_iff.mpr c4; subst c4; rw [if_neg (show ¬ (false = true) by decide)] at H; obtain ⟨t209, A8, H⟩ := ob H; (try dsimp -simprocs only at H); obtain ⟨t210, A9, H⟩ := ob H; (try dsimp -simprocs only at H); have HC10 := aa.mk H; clear H; go_enter Tryd.func62, Tryd.ntmps62
  go_upto_region 5 with (first | ((with_reducible refine bq (N := 25) rfl ?_); refine Kd.Cj (Kd.int .u64) _ 24 ?hg (N := 25) ?hd (xs := ([a0, a1] : List Int)) (inner := [.int .u64 a0, .int .u64 a1]) (ok := fun _ => True) (okp := fun _ => True) ?hr ?hp (fun _ hk => hk) trivial (Below.refl _ _) (Nat.le_refl _) (by simp) ?_; (case hd => rfl); (case hg => rfl); (case hr => first | (go_simp; done) | (go_simp; rfl)); (case hp => exact (qj.one (show Kd.M (Kd.int .u64) _ _ _ a0 [.int .u64 a0] from rfl) (qj.one (show Kd.M (Kd.int .u64) _ _ _ a1 [.int .u64 a1] from rfl) (qj.none _ _)))); intro v204 w11 ho12 hb hg_ hnew_; clear hg_ hnew_; (first | rw [← Ny203.out] at ho12 | (simp only [Int.reduceToNat] at ho12; rw [← Ny203.out] at ho12)); refine ax2 (Kd.pg ho12 (az bel)) (af bel hb) ?_; clear HB; intro HO205 HB; clear hb ho12; obtain ⟨Ao13, co13, eo13⟩ := Kd.mg HO205.out; subst eo13) | ((with_reducible refine ag (f := 70) rfl ?_); refine df (some 26) rfl rfl Tryd.func70 (by kernel_rfl) rfl #[.slice Ao13 y203.length co13] rfl ga ?_; (with_reducible refine (jc.calls k _ _ y203 t206 t207 false _ ?side1 ?side2 A3.out).mono ?_); (case side1 => exact ks HO205); (case side2 => exact (Kd.jq HO205.out).2.1); rintro e w' ⟨rfl, ⟨nd, rfl⟩⟩; refine ⟨_, rfl, ?_⟩) | ((with_reducible refine ag (f := 40) rfl ?_); refine df (some 34) rfl rfl Tryd.func40 (by kernel_rfl) rfl #[.int .u64 a0] rfl ga ?_; (with_reducible refine (dw.calls k a0 t209 _ A8.out).mono ?_); rintro e w' ⟨rfl, ⟨nd, rfl⟩⟩; refine ⟨_, rfl, ?_⟩) | ((with_reducible refine ag (f := 40) rfl ?_); refine df (some 36) rfl rfl Tryd.func40 (by kernel_rfl) rfl #[.int .u64 a1] rfl ga ?_; (with_reducible refine (dw.calls k a1 t210 _ A9.out).mono ?_); rintro e w' ⟨rfl, ⟨nd, rfl⟩⟩; refine ⟨_, rfl, ?_⟩))
  (try simp only [Act.put, sa0, sa1, sa2])
  go_cut [37] (fun v37 wc => ∃ (kq : Nat) (x37_9 : Bool), v37 = .bool x37_9 ∧ aa (bi.j0 kq a0 a1 t209 t210 x37_9 = some (r1, r2)) ∧ aa (kq ≤ k) ∧ aa (Below w.heap.size w wc))
  case first =>
   have H := HC10.out; clear HC10
   by_cases c14 : t209 = 4
   rotate_left
   ·
    rw [if_neg c14] at H; have c14b0 := beq_eq_false_iff_ne.mpr c14; have c14b1 := bne_iff_ne.mpr c14
    (first | rw [c14b0] | (simp only [jw, l8]; rw [c14b0]) | skip)
    have H' := aa.mk H; clear H; go_wp2; go_meet
    case rel => exact ⟨_, (false), (by first | rfl | (simp; done) | (simp [*]; done)), H', ⟨by first | omega | exact Nat.le_refl _⟩, ⟨bel⟩⟩
   rw [if_pos c14] at H; have c14b0 := beq_iff_eq.mpr c14; have c14b1 := bne_eq_false_iff_eq.mpr c14; clear c14
   (first | rw [c14b0] | (simp only [jw, l8]; rw [c14b0]) | skip)
   by_cases c15 : t210 = 4
   rotate_left
   ·
    rw [if_neg c15] at H; have c15b0 := beq_eq_false_iff_ne.mpr c15; have c15b1 := bne_iff_ne.mpr c15; have H' := aa.mk H; clear H; go_wp2; go_meet
    case rel => exact ⟨_, (false), (by first | rfl | (simp; done) | (simp [*]; done)), H', ⟨by first | omega | exact Nat.le_refl _⟩, ⟨bel⟩⟩
   rw [if_pos c15] at H; have c15b0 := beq_iff_eq.mpr c15; have c15b1 := bne_eq_false_iff_eq.mpr c15; clear c15; have H' := aa.mk H; clear H; go_wp2; go_meet
   case rel => exact ⟨_, ((a0 != a1)), (by first | rfl | (simp; done) | (simp [*]; done)), H', ⟨by first | omega | exact Nat.le_refl _⟩, ⟨bel⟩⟩
  case rest =>
   clear HC10
   obtain ⟨kq, x37_9, rfl, HA, HJ9, HB⟩ := hcut; cases kq with
   | zero => exact absurd HA.out (by simp [bi.j0])
   | succ kj9 =>
    have H := HA.out; clear HA; simp only [bi.j0] at H
    by_cases c16 : x37_9 = true
    ·
     subst c16; rw [if_pos rfl] at H; simp only [Option.some.injEq, Prod.mk.injEq] at H; obtain ⟨rfl, rfl⟩ := H; go_wp2
     go_ret2
     exact ⟨er, bel⟩
    ·
     replace c16 := Bool.eq_false_iff.mpr c16; subst c16; rw [if_neg (show ¬ (false = true) by decide)] at H
     by_cases c17 : t209 = 4
     ·
      rw [if_pos c17] at H; have c17b0 := beq_iff_eq.mpr c17; have c17b1 := bne_eq_false_iff_eq.mpr c17; clear c17; simp only [Option.some.injEq, Prod.mk.injEq] at H; obtain ⟨rfl, rfl⟩ := H; go_wp2
      go_ret2
      exact ⟨er, bel⟩
     ·
      rw [if_neg c17] at H; have c17b0 := beq_eq_false_iff_ne.mpr c17; have c17b1 := bne_iff_ne.mpr c17
      by_cases c18 : t210 = 4
      ·
       rw [if_pos c18] at H; have c18b0 := beq_iff_eq.mpr c18; have c18b1 := bne_eq_false_iff_eq.mpr c18; clear c18; simp only [Option.some.injEq, Prod.mk.injEq] at H; obtain ⟨rfl, rfl⟩ := H; go_wp2
       go_ret2
       exact ⟨er, bel⟩
      ·
       rw [if_neg c18] at H; have c18b0 := beq_eq_false_iff_ne.mpr c18; have c18b1 := bne_iff_ne.mpr c18; have HC19 := aa.mk H; clear H
       go_upto_region 11 with (fail)
       go_cut [57] (fun v57 wc => ∃ (kq : Nat) (x57_18 : Bool), v57 = .bool x57_18 ∧ aa (bi.j1 kq a0 a1 t209 t210 x57_18 = some (r1, r2)) ∧ aa (kq ≤ kj9) ∧ aa (Below w.heap.size w wc))
       case first =>
        have H := HC19.out; clear HC19
        by_cases c20 : t209 = 1
        rotate_left
        ·
         rw [if_neg c20] at H; have c20b0 := beq_eq_false_iff_ne.mpr c20; have c20b1 := bne_iff_ne.mpr c20
         (first | rw [c20b0] | (simp only [jw, l8]; rw [c20b0]) | skip)
         have H' := aa.mk H; clear H; go_wp2; go_meet
         case rel => exact ⟨_, (false), (by first | rfl | (simp; done) | (simp [*]; done)), H', ⟨by have := HJ9.out; first | omega | exact Nat.le_refl _⟩, ⟨bel⟩⟩
        rw [if_pos c20] at H; have c20b0 := beq_iff_eq.mpr c20; have c20b1 := bne_eq_false_iff_eq.mpr c20; clear c20
        (first | rw [c20b0] | (simp only [jw, l8]; rw [c20b0]) | skip)
        have H' := aa.mk H; clear H; go_wp2; go_meet
        case rel => exact ⟨_, ((t210 == 1)), (by first | rfl | (simp; done) | (simp [*]; done)), H', ⟨by have := HJ9.out; first | omega | exact Nat.le_refl _⟩, ⟨bel⟩⟩
       case rest =>
        clear HC19
        obtain ⟨kq, x57_18, rfl, HA, HJ18, HB⟩ := hcut; cases kq with
        | zero => exact absurd HA.out (by simp [bi.j1])
        | succ kj18 =>
         have H := HA.out; clear HA; simp only [bi.j1] at H
         by_cases c21 : x57_18 = true
         ·
          subst c21; rw [if_pos rfl] at H; simp only [Option.some.injEq, Prod.mk.injEq] at H; obtain ⟨rfl, rfl⟩ := H; go_wp2
          go_ret2
          exact ⟨er, bel⟩
         ·
          replace c21 := Bool.eq_false_iff.mpr c21; subst c21; rw [if_neg (show ¬ (false = true) by decide)] at H
          by_cases c22 : t209 = 1
          ·
           rw [if_pos c22] at H; have c22b0 := beq_iff_eq.mpr c22; have c22b1 := bne_eq_false_iff_eq.mpr c22; clear c22; simp only [Option.some.injEq, Prod.mk.injEq] at H; obtain ⟨rfl, rfl⟩ := H; go_wp2
           go_ret2
           exact ⟨er, bel⟩
          ·
           rw [if_neg c22] at H; have c22b0 := beq_eq_false_iff_ne.mpr c22; have c22b1 := bne_iff_ne.mpr c22
           by_cases c23 : t210 = 1
           ·
            rw [if_pos c23] at H; have c23b0 := beq_iff_eq.mpr c23; have c23b1 := bne_eq_false_iff_eq.mpr c23; clear c23; simp only [Option.some.injEq, Prod.mk.injEq] at H; obtain ⟨rfl, rfl⟩ := H; go_wp2
            go_ret2
            exact ⟨er, bel⟩
           ·
            rw [if_neg c23] at H; have c23b0 := beq_eq_false_iff_ne.mpr c23; have c23b1 := bne_iff_ne.mpr c23; obtain ⟨t211, A24, H⟩ := ob H; (try dsimp -simprocs only at H); obtain ⟨t212, A25, H⟩ := ob H; (try dsimp -simprocs only at H); have HC26 := aa.mk H; clear H
            go_upto_if 79 with (first | ((with_reducible refine ag (f := 30) rfl ?_); refine df (some 76) rfl rfl Tryd.func30 (by kernel_rfl) rfl #[.int .u64 a0] rfl ga ?_; (with_reducible refine (Ae.calls a0 t211 _ A24.out).mono ?_); rintro e w' ⟨rfl, ⟨nd, rfl⟩⟩; refine ⟨_, rfl, ?_⟩) | ((with_reducible refine ag (f := 30) rfl ?_); refine df (some 78) rfl rfl Tryd.func30 (by kernel_rfl) rfl #[.int .u64 a1] rfl ga ?_; (with_reducible refine (Ae.calls a1 t212 _ A25.out).mono ?_); rintro e w' ⟨rfl, ⟨nd, rfl⟩⟩; refine ⟨_, rfl, ?_⟩))
            (try simp only [Act.put, sa0, sa1, sa2])
            go_cut [0, 1] (fun v0 v1 wc => ∃ (kq : Nat) (x0_25 : Int) (x1_25 : Int), v0 = .int .u64 x0_25 ∧ v1 = .int .u64 x1_25 ∧ aa (bi.j2 kq x0_25 x1_25 = some (r1, r2)) ∧ aa (kq ≤ kj18) ∧ aa (Below w.heap.size w wc))
            case first =>
             have H := HC26.out; clear HC26
             by_cases c27 : t211 < t212
             rotate_left
             ·
              rw [if_neg c27] at H; have c27b0 := decide_eq_false c27; clear c27
              (first | rw [c27b0] | (simp only [jw, l8]; rw [c27b0]) | skip)
              have H' := aa.mk H; clear H; go_wp2; go_meet
              case rel => exact ⟨_, (a0), (a1), (by first | rfl | (simp; done) | (simp [*]; done)), (by first | rfl | (simp; done) | (simp [*]; done)), H', ⟨by have := HJ9.out; have := HJ18.out; first | omega | exact Nat.le_refl _⟩, ⟨bel⟩⟩
             rw [if_pos c27] at H; have c27b0 := decide_eq_true c27; clear c27
             (first | rw [c27b0] | (simp only [jw, l8]; rw [c27b0]) | skip)
             have H' := aa.mk H; clear H; go_wp2; go_meet
             case rel => exact ⟨_, (a1), (a0), (by first | rfl | (simp; done) | (simp [*]; done)), (by first | rfl | (simp; done) | (simp [*]; done)), H', ⟨by have := HJ9.out; have := HJ18.out; first | omega | exact Nat.le_refl _⟩, ⟨bel⟩⟩
            case rest =>
             clear HC26
             obtain ⟨kq, x0_25, x1_25, rfl, rfl, HA, HJ25, HB⟩ := hcut; cases kq with
             | zero => exact absurd HA.out (by simp [bi.j2])
             | succ kj25 =>
              have H := HA.out; clear HA; simp only [bi.j2] at H; obtain ⟨⟨t213, t214⟩, A28, H⟩ := ob H; (try dsimp -simprocs only at H); obtain ⟨⟨t215, t216⟩, A29, H⟩ := ob H; (try dsimp -simprocs only at H); obtain ⟨⟨t217, t218⟩, A30, H⟩ := ob H; (try dsimp -simprocs only at H); obtain ⟨⟨t220, t221⟩, A31, H⟩ := ob H; (try dsimp -simprocs only at H); obtain ⟨⟨t222, t223, t224⟩, A32, H⟩ := ob H; (try dsimp -simprocs only at H); obtain ⟨t226, A33, H⟩ := ob H; (try dsimp -simprocs only at H); obtain ⟨t227, A34, H⟩ := ob H; (try dsimp -simprocs only at H)
              by_cases c35 : (t226 == t227) = true
              ·
               rw [if_pos c35] at H; have c35b0 : (t226 == t227) = true := c35; (try (have c35b1 : decide (t226 = t227) = true := by simpa using c35)); (try (have c35b2 : (t226 == t227) = true := by simpa using c35)); clear c35; obtain ⟨⟨t228, t229, t230⟩, A36, H⟩ := ob H; (try dsimp -simprocs only at H); obtain ⟨t232, A37, H⟩ := ob H; (try dsimp -simprocs only at H); obtain ⟨⟨t233, t234⟩, A38, H⟩ := ob H; (try dsimp -simprocs only at H); simp only [Option.some.injEq, Prod.mk.injEq] at H; obtain ⟨rfl, rfl⟩ := H
               try go_wp2_with (first | ((with_reducible refine ag (f := 66) rfl ?_); refine df (some 84) rfl rfl Tryd.func66 (by kernel_rfl) rfl #[.int .u64 x0_25] rfl ga ?_; (with_reducible refine (jf.calls kj25 x0_25 t213 t214 _ A28.out).mono ?_); rintro e w' ⟨rfl, ⟨nd, rfl⟩⟩; refine ⟨_, rfl, ?_⟩; (try (rw [qm wc]; generalize hq_ : World.drewN wc _ = wc; have n0_ : aa (Below w.heap.size w wc) := ⟨by rw [← hq_]; exact bel⟩; clear HB hq_; have HB := n0_; clear n0_))) | ((with_reducible refine ag (f := 66) rfl ?_); refine df (some 89) rfl rfl Tryd.func66 (by kernel_rfl) rfl #[.int .u64 x1_25] rfl ga ?_; (with_reducible refine (jf.calls kj25 x1_25 t215 t216 _ A29.out).mono ?_); rintro e w' ⟨rfl, ⟨nd, rfl⟩⟩; refine ⟨_, rfl, ?_⟩; (try (rw [qm wc]; generalize hq_ : World.drewN wc _ = wc; have n0_ : aa (Below w.heap.size w wc) := ⟨by rw [← hq_]; exact bel⟩; clear HB hq_; have HB := n0_; clear n0_))) | ((with_reducible refine ag (f := 34) rfl ?_); refine df (some 94) rfl rfl Tryd.func34 (by kernel_rfl) rfl #[.agg #[.int .u64 0, .int .u64 t213], .int .i64 64] rfl ga ?_; (with_reducible refine (ic.calls 0 t213 64 t217 t218 _ A30.out).mono ?_); rintro e w39 ⟨rfl, hb⟩; refine ⟨_, rfl, ?_⟩; refine ax1 (af bel hb) ?_; clear HB; intro HB; (try clear hb)) | ((with_reducible refine bq (N := 15) rfl ?_); refine l5 (N := 15) (cs := #[.int .u64 0, .int .u64 0]) (t := 65) ?_; intro gb219 hg w40 hbox hb; refine ax4 (af bel hb) hbox ((ge hg : w.heap.size ≤ gb219)) ((ge hg : w.heap.size ≤ gb219)) ?_; clear HB; intro HB BK219 GW219 GE219; clear hb hbox hg; have ⟨_, _⟩ := cf BK219 0 rfl; have ⟨_, _⟩ := cf BK219 1 rfl) | ((with_reducible refine ag (f := 34) rfl ?_); refine df (some 98) rfl rfl Tryd.func34 (by kernel_rfl) rfl #[.agg #[.int .u64 0, .int .u64 t215], .int .i64 64] rfl ga ?_; (with_reducible refine (ic.calls 0 t215 64 t220 t221 _ A31.out).mono ?_); rintro e w42 ⟨rfl, hb⟩; refine ⟨_, rfl, ?_⟩; refine ax2 (ru (g := gb219) (o := .cells #[.int .u64 t217, .int .u64 t218] 65 (0, 0)) (bp BK219) hb) (af bes hb) ?_; clear BK219; clear HB; intro BK219 HB; (try clear hb)) | ((with_reducible refine ag (f := 56) rfl ?_); refine df (some 102) rfl rfl Tryd.func56 (by kernel_rfl) rfl #[.agg #[.int .u64 t220, .int .u64 t221], .int .i64 (wrap64 (t214 - t216))] rfl ga ?_; (with_reducible refine (ax.calls kj25 t220 t221 (wrap64 (t214 - t216)) t222 t223 t224 _ A32.out).mono ?_); rintro e w43 ⟨rfl, hb⟩; refine ⟨_, rfl, ?_⟩; refine ax2 (bb BK219 hb) (af bes hb) ?_; clear BK219; clear HB; intro BK219 HB; (try clear hb)) | ((with_reducible refine bq (N := 16) rfl ?_); refine l5 (N := 16) (cs := #[.int .u64 0, .int .u64 0]) (t := 65) ?_; intro gb225 hg w44 hbox hb; refine ax7 (bb BK219 hb) (af bes hb) hbox ((ge hg : w.heap.size ≤ gb225)) ((ge hg : w.heap.size ≤ gb225)) (nl hg BK219) (ng hg BK219) ?_; clear BK219; clear HB; intro BK219 HB BK225 GW225 GE225 NB219_225 NB225_219; clear hb hbox hg; have hnb45 := NB225_219.out; have hnc45 := NB219_225.out; have ⟨_, _⟩ := cf BK225 0 rfl; have ⟨_, _⟩ := cf BK225 1 rfl) | ((with_reducible refine ag (f := 29) rfl ?_); refine df (some 106) rfl rfl Tryd.func29 (by kernel_rfl) rfl #[.int .u64 x0_25] rfl ga ?_; (with_reducible refine (lh.calls x0_25 t226 _ A33.out).mono ?_); rintro e w' ⟨rfl, ⟨nd, rfl⟩⟩; refine ⟨_, rfl, ?_⟩) | ((with_reducible refine ag (f := 29) rfl ?_); refine df (some 108) rfl rfl Tryd.func29 (by kernel_rfl) rfl #[.int .u64 x1_25] rfl ga ?_; (with_reducible refine (lh.calls x1_25 t227 _ A34.out).mono ?_); rintro e w' ⟨rfl, ⟨nd, rfl⟩⟩; refine ⟨_, rfl, ?_⟩; have ⟨_, _⟩ := cf BK219 0 rfl; have ⟨_, _⟩ := cf BK219 1 rfl) | ((with_reducible refine ag (f := 33) rfl ?_); refine df (some 113) rfl rfl Tryd.func33 (by kernel_rfl) rfl #[.agg #[.int .u64 t217, .int .u64 t218], .agg #[.int .u64 t222, .int .u64 t223]] rfl ga ?_; (with_reducible refine (o8.calls t217 t218 t222 t223 t228 t229 t230 _ A36.out).mono ?_); rintro e w48 ⟨rfl, hb⟩; refine ⟨_, rfl, ?_⟩; refine ax3 (ru (g := gb219) (o := .cells #[.int .u64 t217, .int .u64 t218] 65 (0, 0)) (bf BK219 NB219_225) hb) (ru (g := gb225) (o := .cells #[.int .u64 t222, .int .u64 t223] 65 (0, 0)) (bp BK225) hb) (af bes hb) ?_; clear BK219; clear BK225; clear HB; intro BK219 BK225 HB; (try clear hb)) | ((with_reducible refine bq (N := 18) rfl ?_); refine l5 (N := 18) (cs := #[.int .u64 0, .int .u64 0]) (t := 65) ?_; intro gb231 hg w49 hbox hb; refine ax10 (bb BK219 hb) (bb BK225 hb) (af bes hb) hbox ((ge hg : w.heap.size ≤ gb231)) ((ge hg : w.heap.size ≤ gb231)) (nl hg BK219) (ng hg BK219) (nl hg BK225) (ng hg BK225) ?_; clear BK219; clear BK225; clear HB; intro BK219 BK225 HB BK231 GW231 GE231 NB219_231 NB231_219 NB225_231 NB231_225; clear hb hbox hg; have hnb50 := NB231_219.out; have hnc50 := NB219_231.out; have hnb51 := NB231_225.out; have hnc51 := NB225_231.out; have ⟨_, _⟩ := cf BK231 0 rfl; have ⟨_, _⟩ := cf BK231 1 rfl))
               have n0_ : aa (((w49.setCell ⟨gb231, 0, none⟩ (.int .u64 t228)).setCell ⟨gb231, 1, none⟩ (.int .u64 t229)).heap[gb219]? = some (.cells #[.int .u64 t217, .int .u64 t218] 65 (0, 0))) := ⟨bf BK219 NB219_231⟩; have n1_ : aa (((w49.setCell ⟨gb231, 0, none⟩ (.int .u64 t228)).setCell ⟨gb231, 1, none⟩ (.int .u64 t229)).heap[gb225]? = some (.cells #[.int .u64 t222, .int .u64 t223] 65 (0, 0))) := ⟨bf BK225 NB225_231⟩; have n2_ : aa (((w49.setCell ⟨gb231, 0, none⟩ (.int .u64 t228)).setCell ⟨gb231, 1, none⟩ (.int .u64 t229)).heap[gb231]? = some (.cells #[.int .u64 t228, .int .u64 t229] 65 (0, 0))) := ⟨bp BK231⟩; have n3_ : aa (Below w.heap.size w ((w49.setCell ⟨gb231, 0, none⟩ (.int .u64 t228)).setCell ⟨gb231, 1, none⟩ (.int .u64 t229))) := ⟨bes⟩
               generalize ((w49.setCell ⟨gb231, 0, none⟩ (.int .u64 t228)).setCell ⟨gb231, 1, none⟩ (.int .u64 t229)) = w53 at n0_ n1_ n2_ n3_ ⊢
               have BK219 := n0_; have BK225 := n1_; have BK231 := n2_; have HB := n3_; clear n0_ n1_ n2_ n3_; refine ax4 (dz BK219.out) (dz BK225.out) (dz BK231.out) (gy HB.out) ?_; clear BK219 BK225 BK231 HB; intro BK219 BK225 BK231 HB; refine vk (n := 11) (S := fun w' => w'.cell? ⟨gb231, 0, none⟩ = some (.int .u64 t228) ∧ w'.cell? ⟨gb231, 1, none⟩ = some (.int .u64 t229)) (ds := []) #[false, false, false, false, false, false, false, false, false, false, false] (by kernel_rfl) rfl rfl ⟨bk BK231 0, bk BK231 1⟩ (fun hHeld => ?_); refine qa bi.tab25 bi.bits25 (fun HT_ HW_ => ?_)
               generalize w53.drew = w54 at BK219 BK225 BK231 HB hHeld ⊢
               refine pu 0 116 (lm 11 1) HT_ ?_; refine pu 3 119 (lm 11 9) HT_ ?_; refine pu 4 120 (lm 11 25) HT_ ?_; refine pu 5 121 (lm 11 57) HT_ ?_; refine ta 2 118 (lm 11 61) HT_ HW_ hHeld ?_; refine on 1 (some 117) (lm 11 63) HT_ (fun K hK => ?_); refine qd Tryd.func29 (by kernel_rfl) rfl #[.int .u64 x0_25] (by rfl) rfl rfl ga ?_
               with_reducible refine (lh.calls x0_25 t232 _ A37.out).mono ?_
               rintro e w' ⟨rfl, ⟨nd, rfl⟩⟩; refine ⟨_, rfl, ?_⟩; refine hK.out _ _ ⟨bk BK231 0, bk BK231 1⟩ (fun hHeld => ?_); clear hK K; refine no 117 ?_; refine on 6 (some 122) (lm 11 127) HT_ (fun K hK => ?_); refine qd Tryd.func35 (by kernel_rfl) rfl #[.bool t232, .agg #[.int .u64 t228, .int .u64 t229], .int .i64 (wrap64 (t214 - 64)), .bool t224] (by rfl) rfl rfl ga ?_
               with_reducible refine (aj.calls kj25 t232 t228 t229 (wrap64 (t214 - 64)) t224 t233 t234 _ A38.out).mono ?_
               rintro e w55 ⟨rfl, hb⟩; refine ⟨_, rfl, ?_⟩; refine ax4 (bb BK219 hb) (bb BK225 hb) (bb BK231 hb) (af bes hb) ?_; clear BK219 BK225 BK231 HB; intro BK219 BK225 BK231 HB; refine hK.out _ _ ⟨bk BK231 0, bk BK231 1⟩ (fun hHeld => ?_); clear hK K; refine no 122 ?_; refine pu 7 123 (lm 11 255) HT_ ?_; refine pu 8 124 (lm 11 511) HT_ ?_; refine pu 9 4 (lm 11 1023) HT_ ?_; refine pu 10 5 (lm 11 2047) HT_ ?_; refine zg (uy HT_.out (by kernel_rfl)) ?_
               try go_wp2
               go_ret2
               exact ⟨er, bes⟩
              ·
               rw [if_neg c35] at H; have c35b0 : (t226 == t227) = false := by simpa using c35
               (try (have c35b1 : decide (t226 = t227) = false := by simpa using c35)); (try (have c35b2 : (t226 == t227) = false := by simpa using c35)); (try (have c35b3 : ¬ (t226 = t227) := by simpa using c35)); clear c35; have HC56 := aa.mk H; clear H
               go_upto_if 125 with (first | ((with_reducible refine ag (f := 66) rfl ?_); refine df (some 84) rfl rfl Tryd.func66 (by kernel_rfl) rfl #[.int .u64 x0_25] rfl ga ?_; (with_reducible refine (jf.calls kj25 x0_25 t213 t214 _ A28.out).mono ?_); rintro e w' ⟨rfl, ⟨nd, rfl⟩⟩; refine ⟨_, rfl, ?_⟩; (try (rw [qm wc]; generalize hq_ : World.drewN wc _ = wc; have n0_ : aa (Below w.heap.size w wc) := ⟨by rw [← hq_]; exact bel⟩; clear HB hq_; have HB := n0_; clear n0_))) | ((with_reducible refine ag (f := 66) rfl ?_); refine df (some 89) rfl rfl Tryd.func66 (by kernel_rfl) rfl #[.int .u64 x1_25] rfl ga ?_; (with_reducible refine (jf.calls kj25 x1_25 t215 t216 _ A29.out).mono ?_); rintro e w' ⟨rfl, ⟨nd, rfl⟩⟩; refine ⟨_, rfl, ?_⟩; (try (rw [qm wc]; generalize hq_ : World.drewN wc _ = wc; have n0_ : aa (Below w.heap.size w wc) := ⟨by rw [← hq_]; exact bel⟩; clear HB hq_; have HB := n0_; clear n0_))) | ((with_reducible refine ag (f := 34) rfl ?_); refine df (some 94) rfl rfl Tryd.func34 (by kernel_rfl) rfl #[.agg #[.int .u64 0, .int .u64 t213], .int .i64 64] rfl ga ?_; (with_reducible refine (ic.calls 0 t213 64 t217 t218 _ A30.out).mono ?_); rintro e w57 ⟨rfl, hb⟩; refine ⟨_, rfl, ?_⟩; refine ax1 (af bel hb) ?_; clear HB; intro HB; (try clear hb)) | ((with_reducible refine bq (N := 15) rfl ?_); refine l5 (N := 15) (cs := #[.int .u64 0, .int .u64 0]) (t := 65) ?_; intro gb219 hg w58 hbox hb; refine ax4 (af bel hb) hbox ((ge hg : w.heap.size ≤ gb219)) ((ge hg : w.heap.size ≤ gb219)) ?_; clear HB; intro HB BK219 GW219 GE219; clear hb hbox hg; have ⟨_, _⟩ := cf BK219 0 rfl; have ⟨_, _⟩ := cf BK219 1 rfl) | ((with_reducible refine ag (f := 34) rfl ?_); refine df (some 98) rfl rfl Tryd.func34 (by kernel_rfl) rfl #[.agg #[.int .u64 0, .int .u64 t215], .int .i64 64] rfl ga ?_; (with_reducible refine (ic.calls 0 t215 64 t220 t221 _ A31.out).mono ?_); rintro e w60 ⟨rfl, hb⟩; refine ⟨_, rfl, ?_⟩; refine ax2 (ru (g := gb219) (o := .cells #[.int .u64 t217, .int .u64 t218] 65 (0, 0)) (bp BK219) hb) (af bes hb) ?_; clear BK219; clear HB; intro BK219 HB; (try clear hb)) | ((with_reducible refine ag (f := 56) rfl ?_); refine df (some 102) rfl rfl Tryd.func56 (by kernel_rfl) rfl #[.agg #[.int .u64 t220, .int .u64 t221], .int .i64 (wrap64 (t214 - t216))] rfl ga ?_; (with_reducible refine (ax.calls kj25 t220 t221 (wrap64 (t214 - t216)) t222 t223 t224 _ A32.out).mono ?_); rintro e w61 ⟨rfl, hb⟩; refine ⟨_, rfl, ?_⟩; refine ax2 (bb BK219 hb) (af bes hb) ?_; clear BK219; clear HB; intro BK219 HB; (try clear hb)) | ((with_reducible refine bq (N := 16) rfl ?_); refine l5 (N := 16) (cs := #[.int .u64 0, .int .u64 0]) (t := 65) ?_; intro gb225 hg w62 hbox hb; refine ax7 (bb BK219 hb) (af bes hb) hbox ((ge hg : w.heap.size ≤ gb225)) ((ge hg : w.heap.size ≤ gb225)) (nl hg BK219) (ng hg BK219) ?_; clear BK219; clear HB; intro BK219 HB BK225 GW225 GE225 NB219_225 NB225_219; clear hb hbox hg; have hnb63 := NB225_219.out; have hnc63 := NB219_225.out; have ⟨_, _⟩ := cf BK225 0 rfl; have ⟨_, _⟩ := cf BK225 1 rfl) | ((with_reducible refine ag (f := 29) rfl ?_); refine df (some 106) rfl rfl Tryd.func29 (by kernel_rfl) rfl #[.int .u64 x0_25] rfl ga ?_; (with_reducible refine (lh.calls x0_25 t226 _ A33.out).mono ?_); rintro e w' ⟨rfl, ⟨nd, rfl⟩⟩; refine ⟨_, rfl, ?_⟩) | ((with_reducible refine ag (f := 29) rfl ?_); refine df (some 108) rfl rfl Tryd.func29 (by kernel_rfl) rfl #[.int .u64 x1_25] rfl ga ?_; (with_reducible refine (lh.calls x1_25 t227 _ A34.out).mono ?_); rintro e w' ⟨rfl, ⟨nd, rfl⟩⟩; refine ⟨_, rfl, ?_⟩))
               (try simp only [Act.put, sa0, sa1, sa2])
               go_cut [] (fun wc => ∃ (kq : Nat) (x226000_55 : Int) (x226001_55 : Int), aa (bi.j3 kq x0_25 t214 t224 t217 t218 x226000_55 x226001_55 = some (r1, r2)) ∧ aa (kq ≤ kj25) ∧ aa (wc.heap[gb219]? = some (.cells #[.int .u64 t217, .int .u64 t218] 65 (0, 0))) ∧ aa (wc.heap[gb225]? = some (.cells #[.int .u64 x226000_55, .int .u64 x226001_55] 65 (0, 0))) ∧ aa (Below w.heap.size w wc))
               case first =>
                have H := HC56.out; clear HC56
                by_cases c65 : t224 = true
                rotate_left
                ·
                 replace c65 := Bool.eq_false_iff.mpr c65; subst c65; rw [if_neg (show ¬ (false = true) by decide)] at H; have H' := aa.mk H; clear H; go_wp2; go_meet
                 case rel => exact ⟨_, (t222), (t223), H', ⟨by have := HJ9.out; have := HJ18.out; have := HJ25.out; first | omega | exact Nat.le_refl _⟩, ⟨bf BK219 NB219_225⟩, ⟨bp BK225⟩, ⟨bes⟩⟩
                subst c65; rw [if_pos rfl] at H; obtain ⟨⟨t235, t236, t237⟩, A66, H⟩ := ob H; (try dsimp -simprocs only at H); have H' := aa.mk H; clear H; have hnb67 := NB225_219.out; have hnc67 := NB219_225.out; have ⟨_, _⟩ := cf BK225 0 rfl; have ⟨_, _⟩ := cf BK225 1 rfl
                go_wp2_with (first | ((with_reducible refine ag (f := 33) rfl ?_); refine df (some 129) rfl rfl Tryd.func33 (by kernel_rfl) rfl #[.agg #[.int .u64 t222, .int .u64 t223], .agg #[.int .u64 0, .int .u64 1]] rfl ga ?_; (with_reducible refine (o8.calls t222 t223 0 1 t235 t236 t237 _ A66.out).mono ?_); rintro e w69 ⟨rfl, hb⟩; refine ⟨_, rfl, ?_⟩; refine ax3 (ru (g := gb219) (o := .cells #[.int .u64 t217, .int .u64 t218] 65 (0, 0)) (bf BK219 NB219_225) hb) (ru (g := gb225) (o := .cells #[.int .u64 t222, .int .u64 t223] 65 (0, 0)) (bp BK225) hb) (af bes hb) ?_; clear BK219; clear BK225; clear HB; intro BK219 BK225 HB; (try clear hb); have ⟨_, _⟩ := cf BK225 0 rfl; have ⟨_, _⟩ := cf BK225 1 rfl))
                go_meet
                case rel => exact ⟨_, (t235), (t236), H', ⟨by have := HJ9.out; have := HJ18.out; have := HJ25.out; first | omega | exact Nat.le_refl _⟩, ⟨bf BK219 NB219_225⟩, ⟨bp BK225⟩, ⟨bes⟩⟩
               case rest =>
                clear HC56
                obtain ⟨kq, x226000_55, x226001_55, HA, HJ55, BK219, BK225, HB⟩ := hcut; cases kq with
                | zero => exact absurd HA.out (by simp [bi.j3])
                | succ kj55 =>
                 have H := HA.out; clear HA; simp only [bi.j3] at H; obtain ⟨⟨t238, t239, t240⟩, A71, H⟩ := ob H; (try dsimp -simprocs only at H); have HC72 := aa.mk H; clear H; have hnb73 := NB219_225.out; have hnc73 := NB225_219.out; have ⟨_, _⟩ := cf BK219 0 rfl; have ⟨_, _⟩ := cf BK219 1 rfl; have ⟨_, _⟩ := cf BK225 0 rfl; have ⟨_, _⟩ := cf BK225 1 rfl
                 go_upto_region 29 with (first | ((with_reducible refine ag (f := 72) rfl ?_); refine df (some 135) rfl rfl Tryd.func72 (by kernel_rfl) rfl #[.agg #[.int .u64 t217, .int .u64 t218], .agg #[.int .u64 x226000_55, .int .u64 x226001_55]] rfl ga ?_; (with_reducible refine (xc.calls t217 t218 x226000_55 x226001_55 t238 t239 t240 _ A71.out).mono ?_); rintro e w76 ⟨rfl, hb⟩; refine ⟨_, rfl, ?_⟩; refine ax3 (bb BK219 hb) (bb BK225 hb) (af bes hb) ?_; clear BK219; clear BK225; clear HB; intro BK219 BK225 HB; (try clear hb)) | ((with_reducible refine bq (N := 20) rfl ?_); refine l5 (N := 20) (cs := #[.int .u64 0, .int .u64 0]) (t := 65) ?_; intro gb241 hg w77 hbox hb; refine ax10 (bb BK219 hb) (bb BK225 hb) (af bes hb) hbox ((ge hg : w.heap.size ≤ gb241)) ((ge hg : w.heap.size ≤ gb241)) (nl hg BK219) (ng hg BK219) (nl hg BK225) (ng hg BK225) ?_; clear BK219; clear BK225; clear HB; intro BK219 BK225 HB BK241 GW241 GE241 NB219_241 NB241_219 NB225_241 NB241_225; clear hb hbox hg; have hnb78 := NB241_219.out; have hnc78 := NB219_241.out; have hnb79 := NB241_225.out; have hnc79 := NB225_241.out; have ⟨_, _⟩ := cf BK241 0 rfl; have ⟨_, _⟩ := cf BK241 1 rfl))
                 (try simp only [Act.put, sa0, sa1, sa2])
                 go_cut [143] (fun v143 wc => ∃ (kq : Nat) (x143_71 : Bool), v143 = .bool x143_71 ∧ aa (bi.j4 kq x0_25 t214 t224 x143_71 t238 t239 = some (r1, r2)) ∧ aa (kq ≤ kj55) ∧ aa (wc.heap[gb219]? = some (.cells #[.int .u64 t217, .int .u64 t218] 65 (0, 0))) ∧ aa (wc.heap[gb225]? = some (.cells #[.int .u64 x226000_55, .int .u64 x226001_55] 65 (0, 0))) ∧ aa (wc.heap[gb241]? = some (.cells #[.int .u64 t238, .int .u64 t239] 65 (0, 0))) ∧ aa (Below w.heap.size w wc))
                 case first =>
                  have H := HC72.out; clear HC72; obtain ⟨t242, A81, H⟩ := ob H; (try dsimp -simprocs only at H)
                  by_cases c82 : t242 = true
                  ·
                   subst c82; rw [if_pos rfl] at H; have H' := aa.mk H; clear H; have hnb83 := NB241_219.out; have hnc83 := NB219_241.out; have hnb84 := NB241_225.out; have hnc84 := NB225_241.out; have ⟨_, _⟩ := cf BK241 0 rfl; have ⟨_, _⟩ := cf BK241 1 rfl
                   go_wp2_with (first | ((with_reducible refine ag (f := 53) rfl ?_); refine df (some 139) rfl rfl Tryd.func53 (by kernel_rfl) rfl #[.agg #[.int .u64 t238, .int .u64 t239]] rfl ga ?_; (with_reducible refine (lg.calls t238 t239 true _ A81.out).mono ?_); rintro e w86 ⟨rfl, hb⟩; refine ⟨_, rfl, ?_⟩; refine ax4 (ru (g := gb219) (o := .cells #[.int .u64 t217, .int .u64 t218] 65 (0, 0)) (bf BK219 NB219_241) hb) (ru (g := gb225) (o := .cells #[.int .u64 x226000_55, .int .u64 x226001_55] 65 (0, 0)) (bf BK225 NB225_241) hb) (ru (g := gb241) (o := .cells #[.int .u64 t238, .int .u64 t239] 65 (0, 0)) (bp BK241) hb) (af bes hb) ?_; clear BK219; clear BK225; clear BK241; clear HB; intro BK219 BK225 BK241 HB; (try clear hb)))
                   go_meet
                   case rel => exact ⟨_, (!t224), (by first | rfl | (simp; done) | (simp [*]; done)), H', ⟨by have := HJ9.out; have := HJ18.out; have := HJ25.out; have := HJ55.out; first | omega | exact Nat.le_refl _⟩, ⟨kb BK219⟩, ⟨kb BK225⟩, ⟨kb BK241⟩, ⟨bes⟩⟩
                  ·
                   replace c82 := Bool.eq_false_iff.mpr c82; subst c82; rw [if_neg (show ¬ (false = true) by decide)] at H; have H' := aa.mk H; clear H; have hnb87 := NB241_219.out; have hnc87 := NB219_241.out; have hnb88 := NB241_225.out; have hnc88 := NB225_241.out; have ⟨_, _⟩ := cf BK241 0 rfl; have ⟨_, _⟩ := cf BK241 1 rfl
                   go_wp2_with (first | ((with_reducible refine ag (f := 53) rfl ?_); refine df (some 139) rfl rfl Tryd.func53 (by kernel_rfl) rfl #[.agg #[.int .u64 t238, .int .u64 t239]] rfl ga ?_; (with_reducible refine (lg.calls t238 t239 false _ A81.out).mono ?_); rintro e w90 ⟨rfl, hb⟩; refine ⟨_, rfl, ?_⟩; refine ax4 (ru (g := gb219) (o := .cells #[.int .u64 t217, .int .u64 t218] 65 (0, 0)) (bf BK219 NB219_241) hb) (ru (g := gb225) (o := .cells #[.int .u64 x226000_55, .int .u64 x226001_55] 65 (0, 0)) (bf BK225 NB225_241) hb) (ru (g := gb241) (o := .cells #[.int .u64 t238, .int .u64 t239] 65 (0, 0)) (bp BK241) hb) (af bes hb) ?_; clear BK219; clear BK225; clear BK241; clear HB; intro BK219 BK225 BK241 HB; (try clear hb)))
                   go_meet
                   case rel => exact ⟨_, (false), (by first | rfl | (simp; done) | (simp [*]; done)), H', ⟨by have := HJ9.out; have := HJ18.out; have := HJ25.out; have := HJ55.out; first | omega | exact Nat.le_refl _⟩, ⟨kb BK219⟩, ⟨kb BK225⟩, ⟨kb BK241⟩, ⟨bes⟩⟩
                 case rest =>
                  clear HC72
                  obtain ⟨kq, x143_71, rfl, HA, HJ71, BK219, BK225, BK241, HB⟩ := hcut; cases kq with
                  | zero => exact absurd HA.out (by simp [bi.j4])
                  | succ kj71 =>
                   have H := HA.out; clear HA; simp only [bi.j4] at H
                   by_cases c91 : x143_71 = true
                   ·
                    subst c91; rw [if_pos rfl] at H; simp only [Option.some.injEq, Prod.mk.injEq] at H; obtain ⟨rfl, rfl⟩ := H; go_wp2
                    go_ret2
                    exact ⟨er, bes⟩
                   ·
                    replace c91 := Bool.eq_false_iff.mpr c91; subst c91; rw [if_neg (show ¬ (false = true) by decide)] at H; obtain ⟨t243, A92, H⟩ := ob H; (try dsimp -simprocs only at H); obtain ⟨⟨t244, t245⟩, A93, H⟩ := ob H; (try dsimp -simprocs only at H); simp only [Option.some.injEq, Prod.mk.injEq] at H; obtain ⟨rfl, rfl⟩ := H
                    try go_wp2
                    refine ax4 (dz BK219.out) (dz BK225.out) (dz BK241.out) (gy HB.out) ?_; clear BK219 BK225 BK241 HB; intro BK219 BK225 BK241 HB; refine vk (n := 11) (S := fun w' => w'.cell? ⟨gb241, 0, none⟩ = some (.int .u64 t238) ∧ w'.cell? ⟨gb241, 1, none⟩ = some (.int .u64 t239)) (ds := []) #[false, false, false, false, false, false, false, false, false, false, false] (by kernel_rfl) rfl rfl ⟨bk BK241 0, bk BK241 1⟩ (fun hHeld => ?_); refine qa bi.tab31 bi.bits31 (fun HT_ HW_ => ?_)
                    generalize wc.drew = w94 at BK219 BK225 BK241 HB hHeld ⊢
                    refine pu 0 144 (lm 11 1) HT_ ?_; refine pu 3 147 (lm 11 9) HT_ ?_; refine pu 4 148 (lm 11 25) HT_ ?_; refine pu 5 149 (lm 11 57) HT_ ?_; refine ta 2 146 (lm 11 61) HT_ HW_ hHeld ?_; refine on 1 (some 145) (lm 11 63) HT_ (fun K hK => ?_); refine qd Tryd.func29 (by kernel_rfl) rfl #[.int .u64 x0_25] (by rfl) rfl rfl ga ?_
                    with_reducible refine (lh.calls x0_25 t243 _ A92.out).mono ?_
                    rintro e w' ⟨rfl, ⟨nd, rfl⟩⟩; refine ⟨_, rfl, ?_⟩; refine hK.out _ _ ⟨bk BK241 0, bk BK241 1⟩ (fun hHeld => ?_); clear hK K; refine no 145 ?_; refine on 6 (some 150) (lm 11 127) HT_ (fun K hK => ?_); refine qd Tryd.func35 (by kernel_rfl) rfl #[.bool t243, .agg #[.int .u64 t238, .int .u64 t239], .int .i64 (wrap64 (t214 - 64)), .bool t224] (by rfl) rfl rfl ga ?_
                    with_reducible refine (aj.calls kj71 t243 t238 t239 (wrap64 (t214 - 64)) t224 t244 t245 _ A93.out).mono ?_
                    rintro e w95 ⟨rfl, hb⟩; refine ⟨_, rfl, ?_⟩; refine ax4 (bb BK219 hb) (bb BK225 hb) (bb BK241 hb) (af bes hb) ?_; clear BK219 BK225 BK241 HB; intro BK219 BK225 BK241 HB; refine hK.out _ _ ⟨bk BK241 0, bk BK241 1⟩ (fun hHeld => ?_); clear hK K; refine no 150 ?_; refine pu 7 151 (lm 11 255) HT_ ?_; refine pu 8 152 (lm 11 511) HT_ ?_; refine pu 9 4 (lm 11 1023) HT_ ?_; refine pu 10 5 (lm 11 2047) HT_ ?_; refine zg (uy HT_.out (by kernel_rfl)) ?_
                    try go_wp2
                    go_ret2
                    exact ⟨er, bes⟩

/-! ### z8: function 73 -/
def z8.f (a0 : Int) : Option (Int) := some (Go.bits .xor .u64 a0 9223372036854775808)
set_option maxHeartbeats 8000000 in
set_option maxRecDepth 100000 in
theorem z8.calls (a0 : Int) (r : Int) (w : World) (h : z8.f a0 = some r) :
  Calls Tryd.prog 73 #[.int .u64 a0] w fun e w' => e = .returned (.int .u64 r) ∧ dh w w' := by
 have H : (some (Go.bits .xor .u64 a0 9223372036854775808)) = some r := h; clear h; obtain rfl := Option.some.inj H; go_enter Tryd.func73, Tryd.ntmps73; go_wp2; go_ret; exact ⟨by first | rfl | (simp; done) | (simp [*]; done), by repeat (first | exact dh.refl _ | apply dh.step)⟩

/-! ### tq: function 64 -/
def tq.f (k : Nat) (a0 : Int) (a1 : Int) : Option (Int × Int) := (z8.f a1).bind fun t246 => ((bi.f k a0 t246).bind fun bt247 => (some (bt247.1, bt247.2)))
theorem tq.mono : ∀ a0 a1 k, LeO (tq.f k a0 a1) (tq.f (k + 1) a0 a1) := by
 intro a0 a1 k
 unfold tq.f
 repeat' with_reducible first | apply bi.mono | exact LeO.refl _ | exact LeO.none _ | refine LeO.ite ?_ ?_ | refine LeO.bind ?_ (fun _ => ?_)
set_option maxHeartbeats 8000000 in
set_option maxRecDepth 100000 in
theorem tq.calls (k : Nat) (a0 : Int) (a1 : Int) (r1 : Int) (r2 : Int) (w : World) (h : tq.f k a0 a1 = some (r1, r2)) :
  Calls Tryd.prog 64 #[.int .u64 a0, .int .u64 a1] w fun e w' => e = .returned (.tuple #[.int .u64 r1, .int .u8 r2]) ∧ Below w.heap.size w w' := by
 have HB := aa.mk (Below.refl w.heap.size w); have H : ((z8.f a1).bind fun t246 => ((bi.f k a0 t246).bind fun bt247 => (some (bt247.1, bt247.2)))) = some (r1, r2) := h; clear h; obtain ⟨t246, A3, H⟩ := ob H; (try dsimp -simprocs only at H); obtain ⟨⟨t247, t248⟩, A4, H⟩ := ob H; (try dsimp -simprocs only at H); simp only [Option.some.injEq, Prod.mk.injEq] at H; obtain ⟨rfl, rfl⟩ := H; go_enter Tryd.func64, Tryd.ntmps64
 go_wp2_with (first | ((with_reducible refine ag (f := 73) rfl ?_); refine df (some 8) rfl rfl Tryd.func73 (by kernel_rfl) rfl #[.int .u64 a1] rfl ga ?_; (with_reducible refine (z8.calls a1 t246 _ A3.out).mono ?_); rintro e w' ⟨rfl, ⟨nd, rfl⟩⟩; refine ⟨_, rfl, ?_⟩) | ((with_reducible refine ag (f := 62) rfl ?_); refine df (some 9) rfl rfl Tryd.func62 (by kernel_rfl) rfl #[.int .u64 a0, .int .u64 t246] rfl ga ?_; (with_reducible refine (bi.calls k a0 t246 t247 t248 _ A4.out).mono ?_); rintro e w5 ⟨rfl, hb⟩; refine ⟨_, rfl, ?_⟩; refine ax1 (af bel hb) ?_; clear HB; intro HB; (try clear hb)))
 go_ret2
 exact ⟨er, bel⟩

/-! ### oz: function 41 -/
def oz.f (k : Nat) (s0_0 : Int) (a1 : Int) (a2 : Int) : Option (Int × Int) := (tq.f k a1 a2).bind fun bt249 => ((oq.f s0_0 bt249.1 bt249.2).bind fun bt251 => (some (bt251.1, bt251.2)))
theorem oz.mono : ∀ a0 a1 a2 k, LeO (oz.f k a0 a1 a2) (oz.f (k + 1) a0 a1 a2) := by
 intro a0 a1 a2 k
 unfold oz.f
 repeat' with_reducible first | apply tq.mono | exact LeO.refl _ | exact LeO.none _ | refine LeO.ite ?_ ?_ | refine LeO.bind ?_ (fun _ => ?_)
set_option maxHeartbeats 8000000 in
set_option maxRecDepth 100000 in
theorem oz.calls (k : Nat) (g : Nat) (s0_0 : Int) (a1 : Int) (a2 : Int) (r1 : Int) (r2 : Int) (w0 w : World) (hI : di w0 w g s0_0) (hB : Below w0.heap.size w0 w) (h : oz.f k s0_0 a1 a2 = some (r1, r2)) :
  Calls Tryd.prog 41 #[.pointer (some ⟨g, 0, none⟩), .int .u64 a1, .int .u64 a2] w fun e w' => e = .returned (.int .u64 r1) ∧ di w0 w' g r2 ∧ Below w0.heap.size w0 w' ∧ fw w w' g none := by
 have HI0 := aa.mk hI; have HK := aa.mk (fw.refl w g none); have HL := aa.mk hB.size; clear hI; have HW0 := aa.mk hB.size; have HB := aa.mk hB; clear hB; have H : ((tq.f k a1 a2).bind fun bt249 => ((oq.f s0_0 bt249.1 bt249.2).bind fun bt251 => (some (bt251.1, bt251.2)))) = some (r1, r2) := h; clear h; obtain ⟨⟨t249, t250⟩, A4, H⟩ := ob H; (try dsimp -simprocs only at H); obtain ⟨⟨t251, t252⟩, A5, H⟩ := ob H; (try dsimp -simprocs only at H); simp only [Option.some.injEq, Prod.mk.injEq] at H; obtain ⟨rfl, rfl⟩ := H; go_enter Tryd.func41, Tryd.ntmps41
 go_wp2_with (first | ((with_reducible refine ag (f := 64) rfl ?_); refine df (some 10) rfl rfl Tryd.func64 (by kernel_rfl) rfl #[.int .u64 a1, .int .u64 a2] rfl ga ?_; (with_reducible refine (tq.calls k a1 a2 t249 t250 _ A4.out).mono ?_); rintro e w6 ⟨rfl, hb⟩; refine ⟨_, rfl, ?_⟩; refine ax3 (di.below (yg HI0) hb) (fw.trans (kz HK) (fw.of_below hb g none) (.inl rfl)) (af zm hb) ?_; clear HI0; clear HK; clear HB; intro HI0 HK HB; (try clear hb)) | ((with_reducible refine ag (f := 58) rfl ?_); refine df (some 13) rfl rfl Tryd.func58 (by kernel_rfl) rfl #[.pointer (some ⟨g, 0, none⟩), .int .u64 t249, .int .u8 t250] rfl ga ?_; (with_reducible refine (oq.calls g s0_0 t249 t250 t251 t252 w0 _ ?side1 ?side2 A5.out).mono ?_); (case side1 => repeat (first | (with_reducible first | exact HI0.out | apply di.alloc | apply di.drewN | apply di.drew | apply di.Bb) | exact HI0.out)); (case side2 => repeat (first | (with_reducible first | exact HB.out | apply ji | apply iy | apply gy | refine jl ?_ (di.ge HI0.out)) | exact HB.out)); rintro e w7 ⟨rfl, hi, hb, hk⟩; refine ⟨_, rfl, ?_⟩; refine ax3 (fw.trans (kz HK) hk (.inl rfl)) hb hi ?_; clear HK; clear HB; clear HI0; intro HK HB HI0; (try clear hb)))
 go_ret; exact ⟨er, by repeat (first | (with_reducible first | exact HI0.out | apply di.alloc | apply di.drewN | apply di.drew | apply di.Bb) | exact HI0.out), by repeat (first | (with_reducible first | exact HB.out | apply ji | apply iy | apply gy | refine jl ?_ (di.ge HI0.out)) | exact HB.out), by repeat (first | (with_reducible first | exact HK.out | apply fw.set_ | apply xy | apply xh | apply xu) | exact HK.out)⟩

/-! ### mq: function 41 -/
def mq.f (k : Nat)  (a1 : Int) (a2 : Int) : Option (Int) := (tq.f k a1 a2).bind fun bt253 => ((l6.f bt253.1 bt253.2).bind fun t255 => (some t255))
theorem mq.mono : ∀ a0 a1 k, LeO (mq.f k a0 a1) (mq.f (k + 1) a0 a1) := by
 intro a0 a1 k
 unfold mq.f
 repeat' with_reducible first | apply tq.mono | exact LeO.refl _ | exact LeO.none _ | refine LeO.ite ?_ ?_ | refine LeO.bind ?_ (fun _ => ?_)
set_option maxHeartbeats 8000000 in
set_option maxRecDepth 100000 in
theorem mq.calls (k : Nat)  (a1 : Int) (a2 : Int) (r : Int) (w : World) (h : mq.f k a1 a2 = some r) :
  Calls Tryd.prog 41 #[.pointer none, .int .u64 a1, .int .u64 a2] w fun e w' => e = .returned (.int .u64 r) ∧ Below w.heap.size w w' := by
 have HB := aa.mk (Below.refl w.heap.size w); have H : ((tq.f k a1 a2).bind fun bt253 => ((l6.f bt253.1 bt253.2).bind fun t255 => (some t255))) = some r := h; clear h; obtain ⟨⟨t253, t254⟩, A4, H⟩ := ob H; (try dsimp -simprocs only at H); obtain ⟨t255, A5, H⟩ := ob H; (try dsimp -simprocs only at H); obtain rfl := Option.some.inj H; go_enter Tryd.func41, Tryd.ntmps41
 go_wp2_with (first | ((with_reducible refine ag (f := 64) rfl ?_); refine df (some 10) rfl rfl Tryd.func64 (by kernel_rfl) rfl #[.int .u64 a1, .int .u64 a2] rfl ga ?_; (with_reducible refine (tq.calls k a1 a2 t253 t254 _ A4.out).mono ?_); rintro e w6 ⟨rfl, hb⟩; refine ⟨_, rfl, ?_⟩; refine ax1 (af bel hb) ?_; clear HB; intro HB; (try clear hb)) | ((with_reducible refine ag (f := 58) rfl ?_); refine df (some 13) rfl rfl Tryd.func58 (by kernel_rfl) rfl #[.pointer none, .int .u64 t253, .int .u8 t254] rfl ga ?_; (with_reducible refine (l6.calls  t253 t254 t255 _ A5.out).mono ?_); rintro e w' ⟨rfl, ⟨nd, rfl⟩⟩; refine ⟨_, rfl, ?_⟩))
 go_ret; exact ⟨er, bel⟩

end Go.Proofs.YtnjobojkoaknpaaDoor.F

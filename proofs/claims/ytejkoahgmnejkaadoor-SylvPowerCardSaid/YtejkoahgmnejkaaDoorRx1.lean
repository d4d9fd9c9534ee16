/- Texts of this claim, one behind the other: the functions, and that the machine does what they say. -/
import Derived.Test.YtejkoahgmnejkaaDoorRx0
set_option linter.constructorNameAsVariable false
set_option linter.unusedSimpArgs false
set_option linter.unusedVariables false
set_option linter.unusedSectionVars false
namespace Go.Proofs.YtejkoahgmnejkaaDoor.F
open Go Go.RowKit Go.Proofs.YtejkoahgmnejkaaDoorW.PrintWords
open Go.Rk hiding Rd
open Go.Proofs.Tryd
set_option linter.unusedVariables false
set_option linter.unusedSimpArgs false
set_option maxRecDepth 100000
set_option maxHeartbeats 8000000
theorem zr25 : zeroOf E0.P 25 = .ret [.i .i64 0, .i .i64 0, .i .i64 0, .s none 0] := by kernel_rfl
theorem sz25 : szOf E0.P 25 = .ret 4 := by kernel_rfl
theorem ag25 : aggOf E0.P 25 = .ret true := by kernel_rfl
theorem sz27 : szOf E0.P 27 = .ret 1 := by kernel_rfl
theorem by27 : bytesOf E0.P 27 = .ret 8 := by kernel_rfl
theorem zr27 : zeroOf E0.P 27 = .ret [.i .u64 0] := by kernel_rfl
theorem fa25_0 : FA E0.P 25 0 0 := by exact ⟨_, _, _, rfl, rfl, rfl, rfl⟩
theorem ag3 : aggOf E0.P 3 = .ret false := by kernel_rfl
theorem sz3 : szOf E0.P 3 = .ret 1 := by kernel_rfl
theorem fa25_1 : FA E0.P 25 1 1 := by exact ⟨_, _, _, rfl, rfl, rfl, rfl⟩
theorem fa25_2 : FA E0.P 25 2 2 := by exact ⟨_, _, _, rfl, rfl, rfl, rfl⟩
theorem fa25_3 : FA E0.P 25 3 3 := by exact ⟨_, _, _, rfl, rfl, rfl, rfl⟩
theorem ag22 : aggOf E0.P 22 = .ret false := by kernel_rfl
theorem sz22 : szOf E0.P 22 = .ret 1 := by kernel_rfl
theorem zr30 : zeroOf E0.P 30 = .ret [.i .i64 0, .i .i64 0, .i .i64 0, .s none 0, .i .u64 0, .i .i64 0] := by kernel_rfl
theorem ag27 : aggOf E0.P 27 = .ret false := by kernel_rfl
theorem zr3 : zeroOf E0.P 3 = .ret [.i .i64 0] := by kernel_rfl
theorem by3 : bytesOf E0.P 3 = .ret 8 := by kernel_rfl
theorem zr81 : zeroOf E0.P 81 = .ret [.i .u64 0, .i .u64 0, .i .u64 0, .i .u64 0] := by kernel_rfl
theorem sz81 : szOf E0.P 81 = .ret 4 := by kernel_rfl
theorem ag81 : aggOf E0.P 81 = .ret true := by kernel_rfl
theorem fa81_2 : FA E0.P 81 2 2 := by exact ⟨_, _, _, rfl, rfl, rfl, rfl⟩
theorem fa81_0 : FA E0.P 81 0 0 := by exact ⟨_, _, _, rfl, rfl, rfl, rfl⟩
theorem fa81_3 : FA E0.P 81 3 3 := by exact ⟨_, _, _, rfl, rfl, rfl, rfl⟩
theorem fa81_1 : FA E0.P 81 1 1 := by exact ⟨_, _, _, rfl, rfl, rfl, rfl⟩
theorem sz30 : szOf E0.P 30 = .ret 6 := by kernel_rfl
theorem ag30 : aggOf E0.P 30 = .ret true := by kernel_rfl
theorem fx25_3 : FX E0.P 25 3 3 false 1 := by exact ⟨_, _, rfl, rfl, rfl, rfl, rfl⟩
theorem zr93 : zeroOf E0.P 93 = .ret [.i .u64 0, .i .u64 0] := by kernel_rfl
theorem ag93 : aggOf E0.P 93 = .ret true := by kernel_rfl
theorem sz93 : szOf E0.P 93 = .ret 2 := by kernel_rfl
theorem fa93_0 : FA E0.P 93 0 0 := by exact ⟨_, _, _, rfl, rfl, rfl, rfl⟩
theorem fa93_1 : FA E0.P 93 1 1 := by exact ⟨_, _, _, rfl, rfl, rfl, rfl⟩
theorem eqs93 : ∀ (x0 y0 : Int) (x1 y1 : Int), sameV E0.P 93 (.a [.i .u64 x0, .i .u64 x1]) (.a [.i .u64 y0, .i .u64 y1]) = some (x0 == y0 && (x1 == y1 && true)) := by intros; kernel_rfl
theorem zr65 : zeroOf E0.P 65 = .ret [.i .i64 0, .i .i64 0, .i .i64 0, .s none 0, .i .u64 0, .i .i64 0, .i .i64 0, .i .i64 0, .i .i64 0, .s none 0, .i .i64 0, .i .i64 0, .i .i64 0, .s none 0, .i .i64 0, .i .i64 0, .i .i64 0, .s none 0, .b false, .i .i64 0] := by kernel_rfl
theorem sz65 : szOf E0.P 65 = .ret 20 := by kernel_rfl
theorem fa65_5 : FA E0.P 65 5 19 := by exact ⟨_, _, _, rfl, rfl, rfl, rfl⟩
theorem fa65_0 : FA E0.P 65 0 0 := by exact ⟨_, _, _, rfl, rfl, rfl, rfl⟩
theorem fa30_1 : FA E0.P 30 1 4 := by exact ⟨_, _, _, rfl, rfl, rfl, rfl⟩
theorem zr87 : zeroOf E0.P 87 = .ret [.i .u8 0] := by kernel_rfl
theorem zr117 : zeroOf E0.P 117 = .ret [.z] := by kernel_rfl
theorem sz117 : szOf E0.P 117 = .ret 1 := by kernel_rfl
theorem ag117 : aggOf E0.P 117 = .ret true := by kernel_rfl
theorem fx117_0 : FX E0.P 117 0 0 false 1 := by exact ⟨_, _, rfl, rfl, rfl, rfl, rfl⟩
theorem fa87_0 : FA E0.P 87 0 0 := by exact ⟨_, _, _, rfl, rfl, rfl, rfl⟩
theorem ag35 : aggOf E0.P 35 = .ret false := by kernel_rfl
theorem sz35 : szOf E0.P 35 = .ret 1 := by kernel_rfl
theorem fa30_0 : FA E0.P 30 0 0 := by exact ⟨_, _, _, rfl, rfl, rfl, rfl⟩
theorem fa65_1 : FA E0.P 65 1 6 := by exact ⟨_, _, _, rfl, rfl, rfl, rfl⟩
theorem fa65_2 : FA E0.P 65 2 10 := by exact ⟨_, _, _, rfl, rfl, rfl, rfl⟩
theorem fa65_4 : FA E0.P 65 4 18 := by exact ⟨_, _, _, rfl, rfl, rfl, rfl⟩
theorem ag4 : aggOf E0.P 4 = .ret false := by kernel_rfl
theorem sz4 : szOf E0.P 4 = .ret 1 := by kernel_rfl
theorem fa65_3 : FA E0.P 65 3 14 := by exact ⟨_, _, _, rfl, rfl, rfl, rfl⟩
theorem zr43 : zeroOf E0.P 43 = .ret [.b false, .s none 0, .i .i64 0] := by kernel_rfl
theorem sz77 : szOf E0.P 77 = .ret 1 := by kernel_rfl
theorem zr77 : zeroOf E0.P 77 = .ret [.i .u32 0] := by kernel_rfl
theorem ag77 : aggOf E0.P 77 = .ret false := by kernel_rfl
theorem sz43 : szOf E0.P 43 = .ret 3 := by kernel_rfl
theorem ag43 : aggOf E0.P 43 = .ret true := by kernel_rfl
theorem sz5 : szOf E0.P 5 = .ret 1 := by kernel_rfl
theorem ag5 : aggOf E0.P 5 = .ret false := by kernel_rfl
theorem by77 : bytesOf E0.P 77 = .ret 4 := by kernel_rfl
theorem fa30_2 : FA E0.P 30 2 5 := by exact ⟨_, _, _, rfl, rfl, rfl, rfl⟩
theorem fa43_1 : FA E0.P 43 1 1 := by exact ⟨_, _, _, rfl, rfl, rfl, rfl⟩
theorem ag41 : aggOf E0.P 41 = .ret false := by kernel_rfl
theorem sz41 : szOf E0.P 41 = .ret 1 := by kernel_rfl
theorem fa43_0 : FA E0.P 43 0 0 := by exact ⟨_, _, _, rfl, rfl, rfl, rfl⟩
theorem fa43_2 : FA E0.P 43 2 2 := by exact ⟨_, _, _, rfl, rfl, rfl, rfl⟩

def agT : Nat → Option (Bool)
  | 25 => some (true)
  | 3 => some (false)
  | 22 => some (false)
  | 27 => some (false)
  | 81 => some (true)
  | 30 => some (true)
  | 93 => some (true)
  | 117 => some (true)
  | 35 => some (false)
  | 4 => some (false)
  | 77 => some (false)
  | 43 => some (true)
  | 5 => some (false)
  | 41 => some (false)
  | _ => none
theorem ag_ {tl : Nat} {b : Bool} (h : agT tl = some b) : aggOf E0.P tl = .ret b := by
  unfold agT at h; split at h
  · cases h; exact ag25
  · cases h; exact ag3
  · cases h; exact ag22
  · cases h; exact ag27
  · cases h; exact ag81
  · cases h; exact ag30
  · cases h; exact ag93
  · cases h; exact ag117
  · cases h; exact ag35
  · cases h; exact ag4
  · cases h; exact ag77
  · cases h; exact ag43
  · cases h; exact ag5
  · cases h; exact ag41
  · cases h
def szT : Nat → Option (Nat)
  | 25 => some (4)
  | 27 => some (1)
  | 3 => some (1)
  | 22 => some (1)
  | 81 => some (4)
  | 30 => some (6)
  | 93 => some (2)
  | 65 => some (20)
  | 117 => some (1)
  | 35 => some (1)
  | 4 => some (1)
  | 77 => some (1)
  | 43 => some (3)
  | 5 => some (1)
  | 41 => some (1)
  | _ => none
theorem sz_ {tl : Nat} {b : Nat} (h : szT tl = some b) : szOf E0.P tl = .ret b := by
  unfold szT at h; split at h
  · cases h; exact sz25
  · cases h; exact sz27
  · cases h; exact sz3
  · cases h; exact sz22
  · cases h; exact sz81
  · cases h; exact sz30
  · cases h; exact sz93
  · cases h; exact sz65
  · cases h; exact sz117
  · cases h; exact sz35
  · cases h; exact sz4
  · cases h; exact sz77
  · cases h; exact sz43
  · cases h; exact sz5
  · cases h; exact sz41
  · cases h
def zrT : Nat → Option (List V)
  | 25 => some ([.i .i64 0, .i .i64 0, .i .i64 0, .s none 0])
  | 27 => some ([.i .u64 0])
  | 30 => some ([.i .i64 0, .i .i64 0, .i .i64 0, .s none 0, .i .u64 0, .i .i64 0])
  | 3 => some ([.i .i64 0])
  | 81 => some ([.i .u64 0, .i .u64 0, .i .u64 0, .i .u64 0])
  | 93 => some ([.i .u64 0, .i .u64 0])
  | 65 => some ([.i .i64 0, .i .i64 0, .i .i64 0, .s none 0, .i .u64 0, .i .i64 0, .i .i64 0, .i .i64 0, .i .i64 0, .s none 0, .i .i64 0, .i .i64 0, .i .i64 0, .s none 0, .i .i64 0, .i .i64 0, .i .i64 0, .s none 0, .b false, .i .i64 0])
  | 87 => some ([.i .u8 0])
  | 117 => some ([.z])
  | 43 => some ([.b false, .s none 0, .i .i64 0])
  | 77 => some ([.i .u32 0])
  | _ => none
theorem zr_ {tl : Nat} {b : List V} (h : zrT tl = some b) : zeroOf E0.P tl = .ret b := by
  unfold zrT at h; split at h
  · cases h; exact zr25
  · cases h; exact zr27
  · cases h; exact zr30
  · cases h; exact zr3
  · cases h; exact zr81
  · cases h; exact zr93
  · cases h; exact zr65
  · cases h; exact zr87
  · cases h; exact zr117
  · cases h; exact zr43
  · cases h; exact zr77
  · cases h
def faT : Nat → Nat → Option Nat
  | 25, 0 => some 0
  | 25, 1 => some 1
  | 25, 2 => some 2
  | 25, 3 => some 3
  | 81, 2 => some 2
  | 81, 0 => some 0
  | 81, 3 => some 3
  | 81, 1 => some 1
  | 93, 0 => some 0
  | 93, 1 => some 1
  | 65, 5 => some 19
  | 65, 0 => some 0
  | 30, 1 => some 4
  | 87, 0 => some 0
  | 30, 0 => some 0
  | 65, 1 => some 6
  | 65, 2 => some 10
  | 65, 4 => some 18
  | 65, 3 => some 14
  | 30, 2 => some 5
  | 43, 1 => some 1
  | 43, 0 => some 0
  | 43, 2 => some 2
  | _, _ => none
theorem fa_ {tl f o : Nat} (h : faT tl f = some o) : FA E0.P tl f o := by
  unfold faT at h; split at h
  · cases h; exact fa25_0
  · cases h; exact fa25_1
  · cases h; exact fa25_2
  · cases h; exact fa25_3
  · cases h; exact fa81_2
  · cases h; exact fa81_0
  · cases h; exact fa81_3
  · cases h; exact fa81_1
  · cases h; exact fa93_0
  · cases h; exact fa93_1
  · cases h; exact fa65_5
  · cases h; exact fa65_0
  · cases h; exact fa30_1
  · cases h; exact fa87_0
  · cases h; exact fa30_0
  · cases h; exact fa65_1
  · cases h; exact fa65_2
  · cases h; exact fa65_4
  · cases h; exact fa65_3
  · cases h; exact fa30_2
  · cases h; exact fa43_1
  · cases h; exact fa43_0
  · cases h; exact fa43_2
  · cases h
theorem tfs : (szOf E0.P 25 = .ret 4) ∧ (aggOf E0.P 25 = .ret true) ∧ (szOf E0.P 27 = .ret 1) ∧ (aggOf E0.P 3 = .ret false) ∧ (szOf E0.P 3 = .ret 1) ∧ (aggOf E0.P 22 = .ret false) ∧ (szOf E0.P 22 = .ret 1) ∧ (aggOf E0.P 27 = .ret false) ∧ (szOf E0.P 81 = .ret 4) ∧ (aggOf E0.P 81 = .ret true) ∧ (szOf E0.P 30 = .ret 6) ∧ (aggOf E0.P 30 = .ret true) ∧ (aggOf E0.P 93 = .ret true) ∧ (szOf E0.P 93 = .ret 2) ∧ (szOf E0.P 65 = .ret 20) ∧ (szOf E0.P 117 = .ret 1) ∧ (aggOf E0.P 117 = .ret true) ∧ (aggOf E0.P 35 = .ret false) ∧ (szOf E0.P 35 = .ret 1) ∧ (aggOf E0.P 4 = .ret false) ∧ (szOf E0.P 4 = .ret 1) ∧ (szOf E0.P 77 = .ret 1) ∧ (aggOf E0.P 77 = .ret false) ∧ (szOf E0.P 43 = .ret 3) ∧ (aggOf E0.P 43 = .ret true) ∧ (szOf E0.P 5 = .ret 1) ∧ (aggOf E0.P 5 = .ret false) ∧ (aggOf E0.P 41 = .ret false) ∧ (szOf E0.P 41 = .ret 1) := ⟨sz25, ag25, sz27, ag3, sz3, ag22, sz22, ag27, sz81, ag81, sz30, ag30, ag93, sz93, sz65, sz117, ag117, ag35, sz35, ag4, sz4, sz77, ag77, sz43, ag43, sz5, ag5, ag41, sz41⟩
abbrev u_ : Nat → List V → List V
  | 0, l => l
  | n + 1, l => .u :: u_ n l
theorem ao_ {p : Prop} (h : p := by first | assumption | omega) : p := h
theorem al_ {p : Prop} (h : p := by first | assumption | omega | (simp only [List.length_set, List.length_replicate] at *; omega)) : p := h
theorem am_ {p : Prop} (h : p := by simp only [List.length_map, List.length_set, List.length_replicate]; first | assumption | omega) : p := h
theorem de_ {p : Prop} (h : p := by decide) : p := h
/-- The operation that is next. -/
def gO (E : Env) (os : Array Oper) (sl i : Nat) (o : Oper) (is : List Nat) (t : List V) (h : Hp) (tr : Tr) (K : List V → Hp → Tr → Prop) : Prop := os[i]? = some o → gD E os sl (i :: is) t h tr K
section
variable {E : Env} {os : Array Oper} {sl i : Nat} {is : List Nat} {t : List V} {h : Hp} {tr : Tr} {K : List V → Hp → Tr → Prop} {o : Oper}
variable {dd : Option Tmp} {d : Tmp} {op : Op} {a b c : Operand} {ty : TypeId} {ps : String} {af : Array Edge} {gu : Option (Nat × Bool)}
theorem gO_ (ho : os[i]? = some o) (hk : gO E os sl i o is t h tr K) : gD E os sl (i :: is) t h tr K := hk ho
theorem q_mv (hg : wantedV os ⟨some d, .move a, ty, ps, af, gu⟩ t = some true) (hk : gD E os sl is (t.set d (rho E t a)) h (tr ++ [(i, [], [])]) K) : gO E os sl i ⟨some d, .move a, ty, ps, af, gu⟩ is t h tr K := fun ho => g_mv ho hg hk
theorem q_as (hg : wantedV os ⟨some d, .assign a, ty, ps, af, gu⟩ t = some true) (hk : gD E os sl is (t.set d (rho E t a)) h (tr ++ [(i, [], [])]) K) : gO E os sl i ⟨some d, .assign a, ty, ps, af, gu⟩ is t h tr K := fun ho => g_as ho hg hk
theorem q_sk (hg : wantedV os ⟨dd, op, ty, ps, af, gu⟩ t = some false) (hk : gD E os sl is (put t dd (.t [])) h (tr ++ [(i, [], [])]) K) : gO E os sl i ⟨dd, op, ty, ps, af, gu⟩ is t h tr K := fun ho => g_sk ho hg hk
theorem q_bin {bo t1 t2 k x y v} (hg : wantedV os ⟨some d, .binOp bo t1 a b t2, ty, ps, af, gu⟩ t = some true) (hx : rho E t a = .i k x) (hy : rho E t b = .i k y) (hv : binI bo k x y = some v)
    (hk : gD E os sl is (t.set d v) h (tr ++ [(i, [], [])]) K) : gO E os sl i ⟨some d, .binOp bo t1 a b t2, ty, ps, af, gu⟩ is t h tr K := fun ho => g_bin ho hg hx hy hv hk
theorem q_pick {x} (hg : wantedV os ⟨some d, .pick c a b, ty, ps, af, gu⟩ t = some true) (hx : rho E t c = .b x)
    (hk : gD E os sl is (t.set d (if x = true then rho E t a else rho E t b)) h (tr ++ [(i, [], [])]) K) : gO E os sl i ⟨some d, .pick c a b, ty, ps, af, gu⟩ is t h tr K := fun ho => g_pick ho hg hx hk
theorem q_fd {tl f y off o2} (hg : wantedV os ⟨some d, .fieldAddr tl a f, ty, ps, af, gu⟩ t = some true) (hf : FA E.P tl f o2) (hx : rho E t a = .p (some (y, off)))
    (hk : gD E os sl is (t.set d (.p (some (y, off + o2)))) h (tr ++ [(i, [], [])]) K) : gO E os sl i ⟨some d, .fieldAddr tl a f, ty, ps, af, gu⟩ is t h tr K := fun ho => g_fd ho hg hf hx hk
theorem q_ldc {tl y off l kk sz w ow sib v} (hg : wantedV os ⟨some d, .load tl a, ty, ps, af, gu⟩ t = some true) (ha : aggOf E.P tl = .ret false) (hs : szOf E.P tl = .ret 1) (hx : rho E t a = .p (some (y, off))) (hy : h y = some (.row l kk sz w ow sib)) (hv : l[off]? = some v)
    (hk : gD E os sl is (t.set d v) h (tr ++ [(i, [y], [])]) K) : gO E os sl i ⟨some d, .load tl a, ty, ps, af, gu⟩ is t h tr K := fun ho => g_ldc ho hg ha hs hx hy hv hk
theorem q_lda {tl y off l kk sz w ow sib n} (hg : wantedV os ⟨some d, .load tl a, ty, ps, af, gu⟩ t = some true) (ha : aggOf E.P tl = .ret true) (hs : szOf E.P tl = .ret n) (hx : rho E t a = .p (some (y, off))) (hy : h y = some (.row l kk sz w ow sib)) (hj : off + n ≤ l.length)
    (hk : gD E os sl is (t.set d (.a ((l.drop off).take n))) h (tr ++ [(i, [y], [])]) K) : gO E os sl i ⟨some d, .load tl a, ty, ps, af, gu⟩ is t h tr K := fun ho => g_lda ho hg ha hs hx hy hj hk
theorem q_ext {j l} (hg : wantedV os ⟨some d, .extract a j, ty, ps, af, gu⟩ t = some true) (hx : rho E t a = .t l) (hj : j < l.length)
    (hk : gD E os sl is (t.set d (l.getD j .u)) h (tr ++ [(i, [], [])]) K) : gO E os sl i ⟨some d, .extract a j, ty, ps, af, gu⟩ is t h tr K := fun ho => g_ext ho hg hx hj hk
theorem q_alloc {tl z} (hg : wantedV os ⟨some d, .alloc tl, ty, ps, af, gu⟩ t = some true) (hz : zeroOf E.P tl = .ret z)
    (hk : gD E os sl is (t.set d (.p (some (sl + 4 * i, 0)))) (h.set (sl + 4 * i) (some (.row z 0 0 true true none))) (tr ++ [(i, [], [sl + 4 * i])]) K) : gO E os sl i ⟨some d, .alloc tl, ty, ps, af, gu⟩ is t h tr K := fun ho => g_alloc ho hg hz hk
theorem q_st {tl y off l kk sz ow v n} (hg : wantedV os ⟨dd, .store tl a b, ty, ps, af, gu⟩ t = some true) (hs : szOf E.P tl = .ret n) (hx : rho E t a = .p (some (y, off))) (hv : rho E t b = v) (hy : h y = some (.row l kk sz true ow none))
    (hok : (v.ok && (v.cells.length == n) && fits kk v.cells) = true) (hj : off + n ≤ l.length)
    (hk : gD E os sl is (put t dd (.t [])) (h.set y (some (.row (putCells l off v.cells) kk sz true ow none))) (tr ++ [(i, [y], [y])]) K) : gO E os sl i ⟨dd, .store tl a b, ty, ps, af, gu⟩ is t h tr K := fun ho => g_st ho hg hs hx hv hy hok hj hk
theorem q_un {uo t1 x v} (hg : wantedV os ⟨some d, .unOp uo t1 a, ty, ps, af, gu⟩ t = some true) (hx : rho E t a = x) (hv : unI uo x = some v)
    (hk : gD E os sl is (t.set d v) h (tr ++ [(i, [], [])]) K) : gO E os sl i ⟨some d, .unOp uo t1 a, ty, ps, af, gu⟩ is t h tr K := fun ho => g_un ho hg hx hv hk
theorem q_nc {tl y off} (hg : wantedV os ⟨some d, .nilCheck tl, ty, ps, af, gu⟩ t = some true) (hx : rho E t tl = .p (some (y, off)))
    (hk : gD E os sl is (t.set d (.p (some (y, off)))) h (tr ++ [(i, [], [])]) K) : gO E os sl i ⟨some d, .nilCheck tl, ty, ps, af, gu⟩ is t h tr K := fun ho => g_nc ho hg hx hk
theorem q_box {tl v} (hg : wantedV os ⟨some d, .box tl a, ty, ps, af, gu⟩ t = some true) (hv : rho E t a = v) (hok : v.ok = true)
    (hk : gD E os sl is (t.set d (.p (some (sl + 4 * i, 0)))) (h.set (sl + 4 * i) (some (.row v.cells 0 0 true true none))) (tr ++ [(i, [], [sl + 4 * i])]) K) : gO E os sl i ⟨some d, .box tl a, ty, ps, af, gu⟩ is t h tr K := fun ho => g_box ho hg hv hok hk
end
/-- A run of simple operations. -/
theorem o_ {p q : Prop} (h : q) (e : q → p := by
    intro h_
    repeat (refine gO_ rfl ?_; first
      | refine q_mv rfl (gT ?_)
      | refine q_as rfl (gT ?_)
      | refine q_bin rfl rfl rfl rfl (gT ?_)
      | refine q_pick rfl rfl (gT ?_)
      | refine q_fd rfl (fa_ rfl) rfl (gT ?_)
      | refine q_ext rfl rfl (Nat.le_of_ble_eq_true rfl) (gT ?_)
      | refine q_ldc rfl (ag_ rfl) (sz_ rfl) rfl rfl rfl (gT ?_)
      | refine q_lda rfl (ag_ rfl) (sz_ rfl) rfl rfl (Nat.le_of_ble_eq_true rfl) (gT ?_)
      | refine q_st rfl (sz_ rfl) rfl rfl rfl (by rfl) (Nat.le_of_ble_eq_true rfl) (gU ?_)
      | refine q_alloc rfl (zr_ rfl) (gU ?_)
      | refine q_box rfl rfl (by rfl) (gU ?_)
      | refine q_un rfl rfl rfl (gT ?_)
      | refine q_nc rfl rfl (gT ?_)
      | refine q_sk rfl (gT ?_))
    exact h_) : p := e h
section
variable {E : Env} {Q : S → Prop} {ks : List Fm} {s : S} {t : List V} {hp : Hp} {tr : Tr} {K : List V → Hp → Tr → Prop} {os : Array Oper} {sl n a : Nat}
theorem wT {c x y} (h : wk_ E Q ks x s) (hc : rho E s.t c = .b true := by exact rfl) : wk_ E Q ks (.cond c x y) s := w_cond hc (fun _ => h) (fun h => Bool.noConfusion h)
theorem wF {c x y} (h : wk_ E Q ks y s) (hc : rho E s.t c = .b false := by exact rfl) : wk_ E Q ks (.cond c x y) s := w_cond hc (fun h => Bool.noConfusion h) (fun _ => h)
theorem nl (hK : ∀ t' h' tr, kont E Q ks .normal ⟨t', h', n, a⟩ → K t' h' tr) (h : kont E Q ks .normal ⟨t, hp, n, a⟩) : gD E os sl [] t hp tr K := g_nil (hK _ _ _ h)
theorem nk {y} (hK : ∀ t' h' tr, kont E Q (.seq y :: ks) .normal ⟨t', h', n, a⟩ → K t' h' tr) (h : wk_ E Q ks y ⟨t, hp, n, a⟩) : gD E os sl [] t hp tr K := g_nil (hK _ _ _ (k_seq h))
theorem nkt (hK : ∀ t' h' tr, kont E Q (.seq .ret :: ks) .normal ⟨t', h', n, a⟩ → K t' h' tr) (h : Q ⟨t, hp, n, a⟩) : gD E os sl [] t hp tr K := g_nil (hK _ _ _ (k_seq (w_ret h)))
theorem kt (h : Q s) : kont E Q (.seq .ret :: ks) .normal s := k_seq (w_ret h)
theorem sk {y} (h : wk_ E Q ks y s) : wk_ E Q (.seq y :: ks) .skip s := w_skip (k_seq h)
theorem sr {id y n is} (h : ∀ K : List V → Hp → Tr → Prop, (∀ t' h' tr, kont E Q (.seq y :: ks) .normal ⟨t', h', n, s.a⟩ → K t' h' tr) → gD E os s.n is s.t s.h [] K) (e1 : List.range os.size = is := by first | (simp only [Array.size, List.length, List.range, List.range.loop, nrm, Nat.reduceAdd, Nat.reduceMul]; rfl) | rfl) (e2 : s.n + 4 * os.size = n := by first | (simp only [Array.size, List.length, List.range, List.range.loop, nrm, Nat.reduceAdd, Nat.reduceMul]; rfl) | rfl) : wk_ E Q ks (.seq (.region id os false) y) s :=
  w_seq (wR h e1 e2)
theorem ksr {id y n is} (h : ∀ K : List V → Hp → Tr → Prop, (∀ t' h' tr, kont E Q (.seq y :: ks) .normal ⟨t', h', n, s.a⟩ → K t' h' tr) → gD E os s.n is s.t s.h [] K) (e1 : List.range os.size = is := by first | (simp only [Array.size, List.length, List.range, List.range.loop, nrm, Nat.reduceAdd, Nat.reduceMul]; rfl) | rfl) (e2 : s.n + 4 * os.size = n := by first | (simp only [Array.size, List.length, List.range, List.range.loop, nrm, Nat.reduceAdd, Nat.reduceMul]; rfl) | rfl) : kont E Q (.seq (.seq (.region id os false) y) :: ks) .normal s :=
  k_seq (w_seq (wR h e1 e2))
theorem nksr {os2 : Array Oper} {id y n2 is} (hK : ∀ t' h' tr, kont E Q (.seq (.seq (.region id os2 false) y) :: ks) .normal ⟨t', h', n, a⟩ → K t' h' tr)
    (h : ∀ K : List V → Hp → Tr → Prop, (∀ t' h' tr, kont E Q (.seq y :: ks) .normal ⟨t', h', n2, a⟩ → K t' h' tr) → gD E os2 n is t hp [] K) (e1 : List.range os2.size = is := by first | (simp only [Array.size, List.length, List.range, List.range.loop, nrm, Nat.reduceAdd, Nat.reduceMul]; rfl) | rfl) (e2 : n + 4 * os2.size = n2 := by first | (simp only [Array.size, List.length, List.range, List.range.loop, nrm, Nat.reduceAdd, Nat.reduceMul]; rfl) | rfl) : gD E os sl [] t hp tr K :=
  g_nil (hK _ _ _ (k_seq (w_seq (wR (s := ⟨t, hp, n, a⟩) h e1 e2))))
theorem fnw {f args H r H' m t' n} {fn : Func} {c : Code} (Q : S → Prop) (hf : E.P.funcs[f]? = some fn) (hn : fn.ntmps = m) (h : wk_ E Q [] c ⟨t', ofL H, n, n⟩) (hb : fn.body = some c := by exact rfl)
    (hQ : ∀ s, Q s → ∃ τ r', fin E fn H.length τ s = some (r', H') ∧ r'.ro = r := by exact fun s h => h)
    (e : args ++ List.replicate (m - args.length) (.t []) = t' := by simp only [List.length, List.replicate, Nat.reduceAdd, Nat.reduceSub, List.cons_append, List.nil_append]; rfl) (e2 : H.length = n := by first | (simp only [List.length, Nat.reduceAdd]; rfl) | rfl) : Do E (.fn f args H r H') := by
  subst hn e e2; exact fn_wpl hf hb hQ h
theorem fw {m H' r rs} {fn : Func} (τ : List Nat) (hr : fn.results = ⟨rs⟩ := by exact rfl) (h1 : τ.take m = List.range m := by exact rfl) (h2 : τ.Nodup := by decide)
    (h : (resR E.P s.t rs).wp s.h fun rs _ => (V.mv false τ (one1 rs)).wp s.h fun r' _ => (O.mvs false τ τ).wp s.h fun H _ => r'.ro = r ∧ H = H' := by
      simp (maxSteps := 9000000) only [tfs, nrm, nrmw, nrmc, nrme, nrmo, nrml, nrmb, nrmx, Nat.reduceEqDiff, Nat.reduceBEq, Nat.zero_add, Nat.add_zero, Nat.mul_one, List.length_cons, List.length_nil, List.length_map, List.length_set, List.length_replicate, List.drop_zero, List.drop_succ_cons, List.drop_nil, List.take_zero, List.take_succ_cons, List.take_nil, Nat.le_refl, if_true, if_false, Option.any_none, Option.any_some, List.contains_nil, Bool.not_false, Bool.or_true, Bool.true_or, Bool.or_false, Bool.false_or, Bool.and_true, Bool.true_and, Bool.and_self, reduceCtorEq, beq_self_eq_true, List.map_cons, List.map_nil, List.append_nil, List.nil_append, List.contains_cons, List.filter_cons, List.filter_nil, List.cons_append, Bool.false_eq_true, true_and, and_true, List.getElem_toArray, List.getElem_cons_zero, List.getElem_cons_succ, Nat.reduceAdd, Nat.reduceMul, Nat.reduceLT, Nat.reduceSub, Nat.reduceLeDiff] <;> first | rfl | exact ⟨rfl, trivial⟩ | exact ⟨rfl, rfl⟩) :
    ∃ τ r', fin E fn m τ s = some (r', H') ∧ r'.ro = r := fin_wp h1 h2 (by rw [hr]; exact h)
theorem ww {c : Code} (σ g : List Nat) {q : Prop} (hq : q) (hσ : σ.take s.a = List.range s.a := by exact rfl) (hn : σ.Nodup := by decide)
    (e : ((wkG σ g s.t).wp s.h fun t _ => (O.mvs false σ σ).wp s.h fun H _ => wk_ E Q ks c ⟨t, ofL H, H.length, s.a⟩) = q := by first | (simp (maxSteps := 9000000) only [nrm, nrmw, nrmc, nrme, nrmo, nrml, nrmb, nrmx, Nat.reduceEqDiff, Nat.reduceBEq, Nat.zero_add, Nat.add_zero, Nat.mul_one, List.length_cons, List.length_nil, List.length_map, List.length_set, List.length_replicate, List.drop_zero, List.drop_succ_cons, List.drop_nil, List.take_zero, List.take_succ_cons, List.take_nil, Nat.le_refl, if_true, if_false, Option.any_none, Option.any_some, List.contains_nil, Bool.not_false, Bool.or_true, Bool.true_or, Bool.or_false, Bool.false_or, Bool.and_true, Bool.true_and, Bool.and_self, reduceCtorEq, beq_self_eq_true, List.map_cons, List.map_nil, List.append_nil, List.nil_append, List.contains_cons, List.filter_cons, List.filter_nil, List.cons_append, Bool.false_eq_true, true_and, and_true, List.getElem_toArray, List.getElem_cons_zero, List.getElem_cons_succ, Nat.reduceAdd, Nat.reduceMul, Nat.reduceLT, Nat.reduceSub, Nat.reduceLeDiff]; rfl) | rfl) : wk_ E Q ks c s := w_wk g hσ hn (e ▸ hq)
theorem kw (σ g : List Nat) {q : Prop} (hq : q) (hσ : σ.take s.a = List.range s.a := by exact rfl) (hn : σ.Nodup := by decide) (hg : goes ks = true := by exact rfl)
    (e : ((wkG σ g s.t).wp s.h fun t _ => (O.mvs false σ σ).wp s.h fun H _ => kont E Q ks .normal ⟨t, ofL H, H.length, s.a⟩) = q := by first | (simp (maxSteps := 9000000) only [nrm, nrmw, nrmc, nrme, nrmo, nrml, nrmb, nrmx, Nat.reduceEqDiff, Nat.reduceBEq, Nat.zero_add, Nat.add_zero, Nat.mul_one, List.length_cons, List.length_nil, List.length_map, List.length_set, List.length_replicate, List.drop_zero, List.drop_succ_cons, List.drop_nil, List.take_zero, List.take_succ_cons, List.take_nil, Nat.le_refl, if_true, if_false, Option.any_none, Option.any_some, List.contains_nil, Bool.not_false, Bool.or_true, Bool.true_or, Bool.or_false, Bool.false_or, Bool.and_true, Bool.true_and, Bool.and_self, reduceCtorEq, beq_self_eq_true, List.map_cons, List.map_nil, List.append_nil, List.nil_append, List.contains_cons, List.filter_cons, List.filter_nil, List.cons_append, Bool.false_eq_true, true_and, and_true, List.getElem_toArray, List.getElem_cons_zero, List.getElem_cons_succ, Nat.reduceAdd, Nat.reduceMul, Nat.reduceLT, Nat.reduceSub, Nat.reduceLeDiff]; rfl) | rfl) : kont E Q ks .normal s := k_wk g hσ hn hg (e ▸ hq)
end
section
variable {E : Env} {os : Array Oper} {sl i : Nat} {is : List Nat} {t : List V} {h : Hp} {tr : Tr} {K : List V → Hp → Tr → Prop} {dd : Option Tmp} {ty : TypeId} {ps : String} {af : Array Edge} {gu : Option (Nat × Bool)}
theorem cs (σ : List Nat) {g : Nat} {fn : Func} {fo : Operand} {ars : Array Operand} {ts : Array TypeId} {x y args : List V} {H H' : List O} {r : V} (hf : E.P.funcs[g]? = some fn) (hd : Do E (.fn g args H r H')) {q : Prop} (hq : q)
    (ho : os[i]? = some ⟨dd, .call ⟨.value fo, ars, ts⟩, ty, ps, af, gu⟩ := by exact rfl) (hg : wantedV os ⟨dd, .call ⟨.value fo, ars, ts⟩, ty, ps, af, gu⟩ t = some true := by exact rfl)
    (hfo : rho E t fo = .f g x y := by rfl) (hb : fn.body.isSome = true := by exact rfl) (hn : σ.Nodup := by decide)
    (hl : σ.length ≤ H'.length ∧ H'.length ≤ σ.length + 4 := by exact ⟨Nat.le_of_ble_eq_true rfl, Nat.le_of_ble_eq_true rfl⟩)
    (e : ((V.mvs true σ (x ++ ars.toList.map (rho E t) ++ y)).wp h fun args0 R => (O.mvs true σ σ).wp h fun H0 R0 => args0 = args ∧ H0 = H ∧
      (backs (homeOf σ (sl + 4 * i)) σ H').wp h fun u1 R1 => match news (homeOf σ (sl + 4 * i)) σ.length (sl + 4 * i) (H'.drop σ.length) with
        | none => False
        | some u2 => (lent σ (R ++ R0)).wp h fun bs R2 => (demote (if (r.hasR || H'.any O.hasR) = true then bs else [])).wp h fun u3 R3 =>
          gD E os sl is (put t dd (r.ren (homeOf σ (sl + 4 * i)))) (h.sets (u1 ++ u2 ++ u3)) (tr ++ [(i, R ++ R0 ++ R1 ++ R2 ++ R3, (u1 ++ u2 ++ u3).map (·.1))]) K) = q := by first | (simp (maxSteps := 9000000) only [nrm, nrmw, nrmc, nrme, nrmo, nrml, nrmb, nrmx, Nat.reduceEqDiff, Nat.reduceBEq, Nat.zero_add, Nat.add_zero, Nat.mul_one, List.length_cons, List.length_nil, List.length_map, List.length_set, List.length_replicate, List.drop_zero, List.drop_succ_cons, List.drop_nil, List.take_zero, List.take_succ_cons, List.take_nil, Nat.le_refl, if_true, if_false, Option.any_none, Option.any_some, List.contains_nil, Bool.not_false, Bool.or_true, Bool.true_or, Bool.or_false, Bool.false_or, Bool.and_true, Bool.true_and, Bool.and_self, reduceCtorEq, beq_self_eq_true, List.map_cons, List.map_nil, List.append_nil, List.nil_append, List.contains_cons, List.filter_cons, List.filter_nil, List.cons_append, Bool.false_eq_true, true_and, and_true, List.getElem_toArray, List.getElem_cons_zero, List.getElem_cons_succ, Nat.reduceAdd, Nat.reduceMul, Nat.reduceLT, Nat.reduceSub, Nat.reduceLeDiff]; rfl) | rfl) : gD E os sl (i :: is) t h tr K :=
  g_cs σ ho hg hfo hf hb hn hd hl (e ▸ hq)
theorem cz (σ : List Nat) {g : Nat} {fn : Func} {fo : Operand} {ars : Array Operand} {ts : Array TypeId} {x y args : List V} {H H' : List O} {r : V} (hf : E.P.funcs[g]? = some fn) (hd : Do E (.fn g args H r H')) {z : Prop} (hz : z) {q : Prop} (hq : q)
    (ho : os[i]? = some ⟨dd, .call ⟨.value fo, ars, ts⟩, ty, ps, af, gu⟩ := by exact rfl) (hg : wantedV os ⟨dd, .call ⟨.value fo, ars, ts⟩, ty, ps, af, gu⟩ t = some true := by exact rfl)
    (hfo : rho E t fo = .f g x y := by rfl) (hb : fn.body.isSome = true := by exact rfl) (hn : σ.Nodup := by decide)
    (hl : σ.length ≤ H'.length ∧ H'.length ≤ σ.length + 4 := by exact ⟨Nat.le_of_ble_eq_true rfl, Nat.le_of_ble_eq_true rfl⟩)
    (e : z → ((V.mvs true σ (x ++ ars.toList.map (rho E t) ++ y)).wp h fun args0 R => (O.mvs true σ σ).wp h fun H0 R0 => args0 = args ∧ H0 = H ∧
      (backs (homeOf σ (sl + 4 * i)) σ H').wp h fun u1 R1 => match news (homeOf σ (sl + 4 * i)) σ.length (sl + 4 * i) (H'.drop σ.length) with
        | none => False
        | some u2 => (lent σ (R ++ R0)).wp h fun bs R2 => (demote (if (r.hasR || H'.any O.hasR) = true then bs else [])).wp h fun u3 R3 =>
          gD E os sl is (put t dd (r.ren (homeOf σ (sl + 4 * i)))) (h.sets (u1 ++ u2 ++ u3)) (tr ++ [(i, R ++ R0 ++ R1 ++ R2 ++ R3, (u1 ++ u2 ++ u3).map (·.1))]) K) = q := by intro z_; first | (simp (maxSteps := 9000000) only [z_, nrm, nrmw, nrmc, nrme, nrmo, nrml, nrmb, nrmx, Nat.reduceEqDiff, Nat.reduceBEq, Nat.zero_add, Nat.add_zero, Nat.mul_one, List.length_cons, List.length_nil, List.length_map, List.length_set, List.length_replicate, List.drop_zero, List.drop_succ_cons, List.drop_nil, List.take_zero, List.take_succ_cons, List.take_nil, Nat.le_refl, if_true, if_false, Option.any_none, Option.any_some, List.contains_nil, Bool.not_false, Bool.or_true, Bool.true_or, Bool.or_false, Bool.false_or, Bool.and_true, Bool.true_and, Bool.and_self, reduceCtorEq, beq_self_eq_true, List.map_cons, List.map_nil, List.append_nil, List.nil_append, List.contains_cons, List.filter_cons, List.filter_nil, List.cons_append, Bool.false_eq_true, true_and, and_true, List.getElem_toArray, List.getElem_cons_zero, List.getElem_cons_succ, Nat.reduceAdd, Nat.reduceMul, Nat.reduceLT, Nat.reduceSub, Nat.reduceLeDiff]; rfl) | rfl) : gD E os sl (i :: is) t h tr K :=
  g_cs σ ho hg hfo hf hb hn hd hl (e hz ▸ hq)
end
theorem gi {p q : Prop} (h : p) (e : p = q := by first | with_reducible rfl | (simp (maxSteps := 9000000) only [u_, nrm, nrmw, nrmb, if_true, if_false, Bool.false_eq_true, Nat.zero_add, Nat.add_zero, List.length_cons, List.length_nil, List.length_map, List.length_replicate, List.length_set, List.drop_zero, List.drop_succ_cons, List.take_zero, List.take_succ_cons, Nat.reduceAdd, Nat.reduceMul, Nat.reduceSub] <;> rfl) | (simp (maxSteps := 9000000) only [u_, nrm, nrmw, nrmc, nrme, nrmo, nrml, nrmb, nrmx, Nat.reduceEqDiff, Nat.reduceBEq, Nat.zero_add, Nat.add_zero, Nat.mul_one, List.length_cons, List.length_nil, List.length_map, List.length_set, List.length_replicate, List.drop_zero, List.drop_succ_cons, List.drop_nil, List.take_zero, List.take_succ_cons, List.take_nil, Nat.le_refl, if_true, if_false, Option.any_none, Option.any_some, List.contains_nil, Bool.not_false, Bool.or_true, Bool.true_or, Bool.or_false, Bool.false_or, Bool.and_true, Bool.true_and, Bool.and_self, reduceCtorEq, beq_self_eq_true, List.map_cons, List.map_nil, List.append_nil, List.nil_append, List.contains_cons, List.filter_cons, List.filter_nil, List.cons_append, Bool.false_eq_true, true_and, and_true, List.getElem_toArray, List.getElem_cons_zero, List.getElem_cons_succ, Nat.reduceAdd, Nat.reduceMul, Nat.reduceLT, Nat.reduceSub, Nat.reduceLeDiff] <;> rfl) | rfl) : q := e ▸ h
theorem fb {p q : Prop} (h : q) (e : p = q := by simp only [bodyOf, frs, sub, if_true, if_false, Nat.one_ne_zero, u_, Tryd.f3, Tryd.f4, Tryd.f6, Tryd.f7, Tryd.f8, Tryd.f9, Tryd.f10, Tryd.f12, Tryd.f16, Tryd.f23, Tryd.f26, Tryd.f27, Tryd.f29, Tryd.f30, Tryd.f31, Tryd.f33, Tryd.f34, Tryd.f36, Tryd.f40, Tryd.f41, Tryd.f44, Tryd.f47, Tryd.f51, Tryd.f53, Tryd.f55, Tryd.f57, Tryd.f59, Tryd.f61, Tryd.f63, Tryd.f67, Tryd.f72, Tryd.f73, Tryd.f76, Tryd.f78, Tryd.f80, Tryd.f81, Tryd.f87]; rfl) : p := e ▸ h
section
variable {p q c : Prop} {x : Bool} {α : Type} {a b : α}
theorem dT [Decidable c] (hc : c) (h : q) (e : decide c = true → p = q := by intro h_; first | (simp only [h_, nrm]; rfl) | rfl) : p := e (decide_eq_true hc) ▸ h
theorem dF [Decidable c] (hc : ¬ c) (h : q) (e : decide c = false → p = q := by intro h_; first | (simp only [h_, nrm]; rfl) | rfl) : p := e (decide_eq_false hc) ▸ h
theorem dV (hc : x = true) (h : q) (e : x = true → p = q := by intro h_; first | (simp only [h_, nrm]; rfl) | rfl) : p := e hc ▸ h
theorem dW (hc : ¬ x = true) (h : q) (e : x = false → p = q := by intro h_; first | (simp only [h_, nrm]; rfl) | rfl) : p := e (Bool.eq_false_iff.mpr hc) ▸ h
theorem dE [BEq α] [LawfulBEq α] (hc : a = b) (h : q) (e : (a == b) = true → (a != b) = false → p = q := by intro h_ h2_; first | (simp only [h_, h2_, nrm]; rfl) | rfl) : p := e (beq_iff_eq.mpr hc) (bne_eq_false_iff_eq.mpr hc) ▸ h
theorem dN [BEq α] [LawfulBEq α] (hc : ¬ a = b) (h : q) (e : (a == b) = false → (a != b) = true → p = q := by intro h_ h2_; first | (simp only [h_, h2_, nrm]; rfl) | rfl) : p := e (beq_eq_false_iff_ne.mpr hc) (bne_iff_ne.mpr hc) ▸ h
end

theorem mat_New.does {a0 a1 : Int} {r : Int × Int × Int × (List Int)} (H : mat_New.f a0 a1 = some r) : Do E0 (.fn 20 [.i .i64 a0, .i .i64 a1] [] (.a [.i .i64 r.1, .i .i64 r.2.1, .i .i64 r.2.2.1, .s (some (0, 0)) r.2.2.2.length]) [.row (r.2.2.2.map (V.i .u64)) 2 1 true true none]) := by
 refine fnw ((mat_New.Q a0 a1 r)) func20 ntmps20 ?_; unfold mat_New.f at H; refine sr fun K hK => ?_; refine o_ ?_; refine nk hK ?_; refine w_seq ?_; refine sr fun K hK => ?_; refine o_ ?_; rcases its H with ⟨c1, H⟩ | ⟨c1, H⟩
 ·refine dT c1 ?_; refine o_ ?_; refine nk hK ?_; refine wT ?_; refine sr fun K hK => ?_; refine g_bd rfl rfl zr25 Tryd.underlying25 (pl := [(0, 1), (1, 1), (2, 1), (3, 1)]) (by kernel_rfl) ?_; refine gB ?_; refine o_ ?_; refine nk hK ?_; refine w_less (.cell 0 3 2 1 rfl rfl) ?_; simp only [nrmx, nrm, List.set_cons_zero, List.set_cons_succ, Nat.reduceAdd]; refine w_ret ?_
  rw [← Option.some.inj H]; exact fw [68]
 ·refine dF c1 ?_; refine o_ ?_; rcases its H with ⟨c2, H⟩ | ⟨c2, H⟩
  ·refine dT c2 ?_; refine o_ ?_; refine nk hK ?_; refine wT ?_; refine sr fun K hK => ?_; refine g_bd rfl rfl zr25 Tryd.underlying25 (pl := [(0, 1), (1, 1), (2, 1), (3, 1)]) (by kernel_rfl) ?_; refine gB ?_; refine o_ ?_; refine nk hK ?_; refine w_less (.cell 0 3 2 1 rfl rfl) ?_; simp only [nrmx, nrm, List.set_cons_zero, List.set_cons_succ, Nat.reduceAdd]; refine w_ret ?_
   rw [← Option.some.inj H]; exact fw [68]
  ·refine dF c2 ?_; refine o_ ?_; rcases its H with ⟨c3, H⟩ | ⟨c3, H⟩
   ·refine dT c3 ?_; refine o_ ?_; refine nk hK ?_; refine wT ?_; refine sr fun K hK => ?_; refine g_bd rfl rfl zr25 Tryd.underlying25 (pl := [(0, 1), (1, 1), (2, 1), (3, 1)]) (by kernel_rfl) ?_; refine gB ?_; refine o_ ?_; refine nk hK ?_; refine w_less (.cell 0 3 2 1 rfl rfl) ?_; simp only [nrmx, nrm, List.set_cons_zero, List.set_cons_succ, Nat.reduceAdd]; refine w_ret ?_
    rw [← Option.some.inj H]; exact fw [68]
   ·refine dF c3 ?_; refine o_ ?_; refine nk hK ?_; rcases its H with ⟨c4, H⟩ | ⟨c4, H⟩
    ·refine dT c4 ?_; refine wT ?_; refine sr fun K hK => ?_; refine g_bd rfl rfl zr25 Tryd.underlying25 (pl := [(0, 1), (1, 1), (2, 1), (3, 1)]) (by kernel_rfl) ?_; refine gB ?_; refine o_ ?_; refine nk hK ?_; refine w_less (.cell 0 3 2 1 rfl rfl) ?_; simp only [nrmx, nrm, List.set_cons_zero, List.set_cons_succ, Nat.reduceAdd]; refine w_ret ?_; rw [← Option.some.inj H]; exact fw [68]
    ·refine dF c4 ?_; refine wF ?_; refine sk ?_; refine sr fun K hK => ?_; refine o_ ?_; obtain ⟨c5, H⟩ := it1 H; obtain ⟨c6, H⟩ := it1 H; refine g_mk rfl rfl Tryd.underlying22 sz27 by27 zr27 rfl rfl rfl ao_ (by omega) (by unfold limit; omega) (by omega) (gU ?_); refine g_bd rfl rfl zr25 Tryd.underlying25 (pl := [(0, 1), (1, 1), (2, 1), (3, 1)]) (by kernel_rfl) ?_; refine gB ?_; refine o_ ?_
     refine nkt hK ?_; rw [← Option.some.inj H]; exact fw [84]
theorem mat_Matrix_in.does {a0_0 a0_1 a0_2 : Int} {l0_3 : List Int} {a1 a2 : Int} {r : Bool} (H : mat_Matrix_in.f a0_0 a0_1 a0_2 l0_3 a1 a2 = some r) : Do E0 (.fn 39 [.a [.i .i64 a0_0, .i .i64 a0_1, .i .i64 a0_2, .r (l0_3.map (V.i .u64)) l0_3.length true], .i .i64 a1, .i .i64 a2] [] (.b r) []) := by
 refine fnw ((mat_Matrix_in.Q a0_0 a0_1 a0_2 l0_3 a1 a2 r)) func39 ntmps39 ?_; unfold mat_Matrix_in.f at H; refine sr fun K hK => ?_; refine o_ ?_; refine nksr hK fun K hK => ?_; refine o_ ?_; rcases its H with ⟨c1, H⟩ | ⟨c1, H⟩
 ·refine dT c1 ?_; refine o_ ?_; rcases its H with ⟨c2, H⟩ | ⟨c2, H⟩
  ·refine dT c2 ?_; refine o_ ?_; rcases its H with ⟨c3, H⟩ | ⟨c3, H⟩
   ·refine dT c3 ?_; refine o_ ?_; rcases its H with ⟨c4, H⟩ | ⟨c4, H⟩
    ·refine dT c4 ?_; refine o_ ?_; rcases its H with ⟨c5, H⟩ | ⟨c5, H⟩
     ·refine dT c5 ?_; refine o_ ?_; refine g_len_r rfl rfl Tryd.underlying22 rfl (gT ?_); refine o_ ?_; refine nkt hK ?_; rw [← Option.some.inj H]; exact fw []
     ·refine dF c5 ?_; refine o_ ?_; refine nkt hK ?_; rw [← Option.some.inj H]; exact fw []
    ·refine dF c4 ?_; refine o_ ?_; refine nkt hK ?_; rw [← Option.some.inj H]; exact fw []
   ·refine dF c3 ?_; refine o_ ?_; refine nkt hK ?_; rw [← Option.some.inj H]; exact fw []
  ·refine dF c2 ?_; refine o_ ?_; refine nkt hK ?_; rw [← Option.some.inj H]; exact fw []
 ·refine dF c1 ?_; refine o_ ?_; refine nkt hK ?_; rw [← Option.some.inj H]; exact fw []
theorem mat_Matrix_Set.len {a0_0 a0_1 a0_2 : Int} {l0_3 : List Int} {a1 a2 a3 : Int} {r : (List Int)} (H : mat_Matrix_Set.f a0_0 a0_1 a0_2 l0_3 a1 a2 a3 = some r) : r.length = l0_3.length := by
  unfold mat_Matrix_Set.f at H
  obtain ⟨q1, hq1, H⟩ := bnd H
  rcases its H with ⟨c2, H⟩ | ⟨c2, H⟩
  · skip
    obtain ⟨c3, H⟩ := it1 H
    obtain ⟨c4, H⟩ := it1 H
    have hr_ := Option.some.inj H; clear H; subst hr_; (repeat' apply And.intro) <;> first | rfl | omega | (simp only [List.length_set, cpy_len]; done) | (simp only [List.length_set, cpy_len]; omega)
  · skip
    have hr_ := Option.some.inj H; clear H; subst hr_; (repeat' apply And.intro) <;> first | rfl | omega | (simp only [List.length_set, cpy_len]; done) | (simp only [List.length_set, cpy_len]; omega)
theorem mat_Matrix_Set.does {a0_0 a0_1 a0_2 : Int} {l0_3 : List Int} {a1 a2 a3 : Int} {r : (List Int)} (H : mat_Matrix_Set.f a0_0 a0_1 a0_2 l0_3 a1 a2 a3 = some r) : Do E0 (.fn 21 [.a [.i .i64 a0_0, .i .i64 a0_1, .i .i64 a0_2, .s (some (0, 0)) l0_3.length], .i .i64 a1, .i .i64 a2, .i .u64 a3] [.row (l0_3.map (V.i .u64)) 2 1 true false none] (.t []) [.row (r.map (V.i .u64)) 2 1 true false none]) := by
 refine fnw ((mat_Matrix_Set.Q a0_0 a0_1 a0_2 l0_3 a1 a2 a3 r)) func21 ntmps21 ?_; unfold mat_Matrix_Set.f at H; refine sr fun K hK => ?_; refine o_ ?_; refine nksr hK fun K hK => ?_; refine o_ ?_; obtain ⟨q1, hq1, H⟩ := bnd H; refine cs [] func39 (mat_Matrix_in.does hq1) ?_; refine nk hK ?_; rcases its H with ⟨c2, H⟩ | ⟨c2, H⟩
 ·refine dV c2 ?_; refine wT ?_; refine wR fun K hK => ?_; refine o_ ?_; obtain ⟨c3, H⟩ := it1 H; obtain ⟨c4, H⟩ := it1 H; refine g_ixo rfl rfl Tryd.underlying22 sz27 rfl rfl ao_ al_ (gT ?_); refine g_st rfl rfl sz27 rfl rfl rfl (by rfl) am_ (gU ?_); refine nl hK ?_; refine k_nil (.inl rfl) ?_; rw [← Option.some.inj H]; exact fw [0]
 ·refine dW c2 ?_; refine wF ?_; refine w_skip ?_; refine k_nil (.inl rfl) ?_; rw [← Option.some.inj H]; exact fw [0]
theorem gimballaw21_one.does {a0 : Int} {r : Int × Int × Int × (List Int)} (H : gimballaw21_one.f a0 = some r) : Do E0 (.fn 13 [.i .u64 a0] [] (.a [.i .i64 r.1, .i .i64 r.2.1, .i .i64 r.2.2.1, .s (some (0, 0)) r.2.2.2.length]) [.row (r.2.2.2.map (V.i .u64)) 2 1 true true none]) := by
 refine fnw ((gimballaw21_one.Q a0 r)) func13 ntmps13 ?_; unfold gimballaw21_one.f at H; refine sr fun K hK => ?_; refine o_ ?_; refine nksr hK fun K hK => ?_; obtain ⟨q1, hq1, H⟩ := bnd H; refine cs [] func20 (mat_New.does hq1) ?_; refine o_ ?_; refine nksr hK fun K hK => ?_; refine o_ ?_; obtain ⟨q2, hq2, H⟩ := bnd H; have zq2_0 := mat_Matrix_Set.len hq2
 (try simp only [List.length_set, List.length_replicate, List.length_append, List.length_cons, List.length_nil, Nat.zero_add] at zq2_0); refine cz [4] func21 (mat_Matrix_Set.does hq2) zq2_0.symm ?_; refine nksr hK fun K hK => ?_; refine o_ ?_; refine nkt hK ?_; rw [← Option.some.inj H]; exact fw [4]
theorem mat_Matrix_At.does {a0_0 a0_1 a0_2 : Int} {l0_3 : List Int} {a1 a2 r : Int} (H : mat_Matrix_At.f a0_0 a0_1 a0_2 l0_3 a1 a2 = some r) : Do E0 (.fn 15 [.a [.i .i64 a0_0, .i .i64 a0_1, .i .i64 a0_2, .r (l0_3.map (V.i .u64)) l0_3.length true], .i .i64 a1, .i .i64 a2] [] (.i .u64 r) []) := by
 refine fnw ((mat_Matrix_At.Q a0_0 a0_1 a0_2 l0_3 a1 a2 r)) func15 ntmps15 ?_; unfold mat_Matrix_At.f at H; refine sr fun K hK => ?_; refine o_ ?_; refine nk hK ?_; refine w_seq ?_; refine sr fun K hK => ?_; refine o_ ?_; obtain ⟨q1, hq1, H⟩ := bnd H; refine cs [] func39 (mat_Matrix_in.does hq1) ?_; refine o_ ?_; refine nk hK ?_; rcases its H with ⟨c2, H⟩ | ⟨c2, H⟩
 ·refine dV c2 ?_; refine wF ?_; refine sk ?_; refine sr fun K hK => ?_; refine o_ ?_; obtain ⟨c3, H⟩ := it1 H; obtain ⟨c4, H⟩ := it1 H; refine g_ixr rfl rfl Tryd.underlying22 sz27 rfl rfl ao_ al_ (gT ?_); refine g_ldq rfl rfl ag27 sz27 rfl ao_ (gT ?_); refine o_ ?_; refine nkt hK ?_; rw [← Option.some.inj H]; exact fw []
 ·refine dW c2 ?_; refine wT ?_; refine sr fun K hK => ?_; refine o_ ?_; refine nkt hK ?_; rw [← Option.some.inj H]; exact fw []
theorem mat_Matrix_Check.does_l {a0_0 a0_1 a0_2 : Int} {l0_3 : List Int} (k : Nat) : (∀ (t_3 : Bool) (h0_0 h0_1 h0_2 : Int) (h0_3 : List Int) (r : Int), mat_Matrix_Check.j0 k t_3 h0_0 h0_1 h0_2 h0_3 = some r → kont E0 (mat_Matrix_Check.Q a0_0 a0_1 a0_2 l0_3 r) (frs (bodyOf Tryd.f27) [1, 0, 0, 0] []) .normal ⟨.u :: .p (some (0, 0)) :: .u :: .b t_3 :: u_ 53 ([]), ofL [.row [.i .i64 h0_0, .i .i64 h0_1, .i .i64 h0_2, .r (h0_3.map (V.i .u64)) h0_3.length true] 0 0 true true none], 1, 0⟩) ∧
    (∀ (t_34 : Bool) (h0_0 h0_1 h0_2 : Int) (h0_3 : List Int) (r : Int), mat_Matrix_Check.j1 k t_34 h0_0 h0_1 h0_2 h0_3 = some r → kont E0 (mat_Matrix_Check.Q a0_0 a0_1 a0_2 l0_3 r) (frs (bodyOf Tryd.f27) [1, 0, 0, 1, 1, 0] []) .normal ⟨.u :: .p (some (0, 0)) :: u_ 32 (.b t_34 :: u_ 22 ([])), ofL [.row [.i .i64 h0_0, .i .i64 h0_1, .i .i64 h0_2, .r (h0_3.map (V.i .u64)) h0_3.length true] 0 0 true true none], 1, 0⟩) := by
 induction k with
 | zero => exact ⟨by intros; simp [mat_Matrix_Check.j0] at *, by intros; simp [mat_Matrix_Check.j1] at *⟩
 | succ k ih =>
  obtain ⟨ih0, ih1⟩ := ih
  refine ⟨?_, ?_⟩
  ·intro t_3 h0_0 h0_1 h0_2 h0_3 r H; unfold mat_Matrix_Check.j0 at H; refine fb ?_; refine k_seq ?_; rcases its H with ⟨c6, H⟩ | ⟨c6, H⟩
   ·refine dV c6 ?_; refine wT ?_; refine sr fun K hK => ?_; refine o_ ?_; refine nkt hK ?_; rw [← Option.some.inj H]; exact fw []
   ·refine dW c6 ?_; refine wF ?_; refine sr fun K hK => ?_; refine o_ ?_; rcases its H with ⟨c7, H⟩ | ⟨c7, H⟩
    ·refine dE c7 ?_; refine o_ ?_; refine nl hK ?_; refine kw [0] [1, 32] ?_; exact gi (ih1 true h0_0 h0_1 h0_2 h0_3 r H)
    ·refine dN c7 ?_; refine o_ ?_; refine nl hK ?_; refine kw [0] [1, 32] ?_; exact gi (ih1 (h0_1 == 0) h0_0 h0_1 h0_2 h0_3 r H)
  ·intro t_34 h0_0 h0_1 h0_2 h0_3 r H; unfold mat_Matrix_Check.j1 at H; refine fb ?_; refine k_seq ?_; rcases its H with ⟨c8, H⟩ | ⟨c8, H⟩
   ·refine dV c8 ?_; refine wT ?_; refine sr fun K hK => ?_; refine o_ ?_; refine nkt hK ?_; rw [← Option.some.inj H]; exact fw []
   ·refine dW c8 ?_; refine wF ?_; refine sr fun K hK => ?_; refine o_ ?_; refine g_len_r rfl rfl Tryd.underlying22 rfl (gT ?_); refine o_ ?_; refine nk hK ?_; rcases its H with ⟨c9, H⟩ | ⟨c9, H⟩
    ·refine dT c9 ?_; refine wT ?_; refine sr fun K hK => ?_; refine o_ ?_; refine nkt hK ?_; rw [← Option.some.inj H]; exact fw []
    ·refine dF c9 ?_; refine wF ?_; refine w_skip ?_; refine k_block ?_; refine ksr fun K hK => ?_; refine o_ ?_; refine nkt hK ?_; rw [← Option.some.inj H]; exact fw []
theorem mat_Matrix_Check.does {k : Nat} {a0_0 a0_1 a0_2 : Int} {l0_3 : List Int} {r : Int} (H : mat_Matrix_Check.f k a0_0 a0_1 a0_2 l0_3 = some r) : Do E0 (.fn 27 [.a [.i .i64 a0_0, .i .i64 a0_1, .i .i64 a0_2, .r (l0_3.map (V.i .u64)) l0_3.length true]] [] (.i .i64 r) []) := by
 obtain ⟨ih0, ih1⟩ := @mat_Matrix_Check.does_l a0_0 a0_1 a0_2 l0_3 k; refine fnw ((mat_Matrix_Check.Q a0_0 a0_1 a0_2 l0_3 r)) func27 ntmps27 ?_; unfold mat_Matrix_Check.f at H; refine sr fun K hK => ?_; refine o_ ?_; refine nk hK ?_; refine w_seq ?_; refine w_block ?_; refine sr fun K hK => ?_; refine o_ ?_; rcases its H with ⟨c1, H⟩ | ⟨c1, H⟩
 ·refine dT c1 ?_; refine o_ ?_; refine nl hK ?_; refine kw [0] [1, 1] ?_; exact gi (ih0 true a0_0 a0_1 a0_2 l0_3 r H)
 ·refine dF c1 ?_; refine o_ ?_; rcases its H with ⟨c2, H⟩ | ⟨c2, H⟩
  ·refine dT c2 ?_; refine o_ ?_; refine nl hK ?_; refine kw [0] [1, 1] ?_; exact gi (ih0 true a0_0 a0_1 a0_2 l0_3 r H)
  ·refine dF c2 ?_; refine o_ ?_; rcases its H with ⟨c3, H⟩ | ⟨c3, H⟩
   ·refine dT c3 ?_; refine o_ ?_; refine nl hK ?_; refine kw [0] [1, 1] ?_; exact gi (ih0 true a0_0 a0_1 a0_2 l0_3 r H)
   ·refine dF c3 ?_; refine o_ ?_; rcases its H with ⟨c4, H⟩ | ⟨c4, H⟩
    ·refine dT c4 ?_; refine o_ ?_; refine nl hK ?_; refine kw [0] [1, 1] ?_; exact gi (ih0 true a0_0 a0_1 a0_2 l0_3 r H)
    ·refine dF c4 ?_; refine o_ ?_; rcases its H with ⟨c5, H⟩ | ⟨c5, H⟩
     ·refine dT c5 ?_; refine o_ ?_; refine nl hK ?_; refine kw [0] [1, 1] ?_; exact gi (ih0 true a0_0 a0_1 a0_2 l0_3 r H)
     ·refine dF c5 ?_; refine o_ ?_; refine nl hK ?_; refine kw [0] [1, 1] ?_; exact gi (ih0 (decide (a0_2 > 1099511627776)) a0_0 a0_1 a0_2 l0_3 r H)
theorem word_Exp.does {a0 r : Int} (H : word_Exp.f a0 = some r) : Do E0 (.fn 42 [.i .u64 a0] [] (.i .i64 r) []) := by
 refine fnw ((word_Exp.Q a0 r)) func42 ntmps42 ?_; unfold word_Exp.f at H; refine sr fun K hK => ?_; refine o_ ?_; refine nksr hK fun K hK => ?_; refine o_ ?_; refine g_shrc (p := 4503599627370496) rfl rfl rfl rfl de_ (by rfl) (gT ?_); refine o_ ?_; refine g_conv rfl rfl Tryd.underlying27 Tryd.underlying3 rfl (gT ?_); refine o_ ?_; refine nkt hK ?_; rw [← Option.some.inj H]; exact fw []
theorem word_Frac.does {a0 r : Int} (H : word_Frac.f a0 = some r) : Do E0 (.fn 43 [.i .u64 a0] [] (.i .u64 r) []) := by
 refine fnw ((word_Frac.Q a0 r)) func43 ntmps43 ?_; unfold word_Frac.f at H; refine sr fun K hK => ?_; refine o_ ?_; refine nksr hK fun K hK => ?_; refine o_ ?_; refine nkt hK ?_; rw [← Option.some.inj H]; exact fw []
theorem word_Kind.does_l {a0 : Int} (k : Nat) : (∀ (e_3 f_4 : Int) (t_9 : Bool) (r : Int), word_Kind.j0 k e_3 f_4 t_9 = some r → kont E0 (word_Kind.Q a0 r) (frs (bodyOf Tryd.f23) [1, 0, 1, 0, 0] []) .normal ⟨u_ 3 (.i .i64 e_3 :: .i .u64 f_4 :: u_ 4 (.b t_9 :: u_ 15 ([]))), ofL [], 0, 0⟩) := by
 induction k with
 | zero => exact by intros; simp [word_Kind.j0] at *
 | succ k ih =>
  have ih0 := ih
  refine ?_
  ·intro e_3 f_4 t_9 r H; unfold word_Kind.j0 at H; refine fb ?_; refine k_seq ?_; rcases its H with ⟨c4, H⟩ | ⟨c4, H⟩
   ·refine dV c4 ?_; refine wT ?_; refine sr fun K hK => ?_; refine o_ ?_; refine nkt hK ?_; rw [← Option.some.inj H]; exact fw []
   ·refine dW c4 ?_; refine wF ?_; refine sr fun K hK => ?_; refine o_ ?_; refine nk hK ?_; rcases its H with ⟨c5, H⟩ | ⟨c5, H⟩
    ·refine dE c5 ?_; refine wT ?_; refine sr fun K hK => ?_; refine o_ ?_; refine nkt hK ?_; rw [← Option.some.inj H]; exact fw []
    ·refine dN c5 ?_; refine wF ?_; refine sr fun K hK => ?_; refine o_ ?_; refine nk hK ?_; rcases its H with ⟨c6, H⟩ | ⟨c6, H⟩
     ·refine dT c6 ?_; refine wT ?_; refine sr fun K hK => ?_; refine o_ ?_; refine nkt hK ?_; rw [← Option.some.inj H]; exact fw []
     ·refine dF c6 ?_; refine wF ?_; refine sr fun K hK => ?_; refine o_ ?_; refine nk hK ?_; rcases its H with ⟨c7, H⟩ | ⟨c7, H⟩
      ·refine dE c7 ?_; refine wT ?_; refine sr fun K hK => ?_; refine o_ ?_; refine nkt hK ?_; rw [← Option.some.inj H]; exact fw []
      ·refine dN c7 ?_; refine wF ?_; refine w_skip ?_; refine k_block ?_; refine ksr fun K hK => ?_; refine o_ ?_; refine nkt hK ?_; rw [← Option.some.inj H]; exact fw []
theorem word_Kind.does {k : Nat} {a0 r : Int} (H : word_Kind.f k a0 = some r) : Do E0 (.fn 23 [.i .u64 a0] [] (.i .i64 r) []) := by
 obtain ih0 := @word_Kind.does_l a0 k; refine fnw ((word_Kind.Q a0 r)) func23 ntmps23 ?_; unfold word_Kind.f at H; refine sr fun K hK => ?_; refine o_ ?_; refine nk hK ?_; refine w_seq ?_; refine sr fun K hK => ?_; refine o_ ?_; obtain ⟨q1, hq1, H⟩ := bnd H; refine cs [] func42 (word_Exp.does hq1) ?_; refine o_ ?_; obtain ⟨q2, hq2, H⟩ := bnd H; refine cs [] func43 (word_Frac.does hq2) ?_
 refine o_ ?_; refine nk hK ?_; refine w_block ?_; refine sr fun K hK => ?_; refine o_ ?_; rcases its H with ⟨c3, H⟩ | ⟨c3, H⟩
 ·refine dE c3 ?_; refine o_ ?_; refine nl hK ?_; refine kw [] [3, 0, 4] ?_; exact gi (ih0 q1 q2 (q2 == 0) r H)
 ·refine dN c3 ?_; refine o_ ?_; refine nl hK ?_; refine kw [] [3, 0, 4] ?_; exact gi (ih0 q1 q2 false r H)
theorem hess_Is.does_l {a0_0 a0_1 a0_2 : Int} {l0_3 : List Int} (k : Nat) : (∀ (i_3 h0_0 h0_1 h0_2 : Int) (h0_3 : List Int) (r : Bool), hess_Is.l0 k i_3 h0_0 h0_1 h0_2 h0_3 = some r → wk_ E0 (hess_Is.Q a0_0 a0_1 a0_2 l0_3 r) (frs (bodyOf Tryd.f44) [1, 0, 1, 0] []) (sub (bodyOf Tryd.f44) [1, 0, 1, 0]) ⟨.u :: .p (some (0, 0)) :: .u :: .i .i64 i_3 :: u_ 25 ([]), ofL [.row [.i .i64 h0_0, .i .i64 h0_1, .i .i64 h0_2, .r (h0_3.map (V.i .u64)) h0_3.length true] 0 0 true true none], 1, 0⟩) ∧
    (∀ (i_3 k_4 h0_0 h0_1 h0_2 : Int) (h0_3 : List Int) (r : Bool), hess_Is.l1 k i_3 k_4 h0_0 h0_1 h0_2 h0_3 = some r → wk_ E0 (hess_Is.Q a0_0 a0_1 a0_2 l0_3 r) (frs (bodyOf Tryd.f44) [1, 0, 1, 0, 0, 1, 0, 0, 1, 0] []) (sub (bodyOf Tryd.f44) [1, 0, 1, 0, 0, 1, 0, 0, 1, 0]) ⟨.u :: .p (some (0, 0)) :: .u :: .i .i64 i_3 :: .i .i64 k_4 :: u_ 24 ([]), ofL [.row [.i .i64 h0_0, .i .i64 h0_1, .i .i64 h0_2, .r (h0_3.map (V.i .u64)) h0_3.length true] 0 0 true true none], 1, 0⟩) ∧
    (∀ (i_3 k_4 : Int) (t_20 : Bool) (h0_0 h0_1 h0_2 : Int) (h0_3 : List Int) (r : Bool), hess_Is.j2 k i_3 k_4 t_20 h0_0 h0_1 h0_2 h0_3 = some r → kont E0 (hess_Is.Q a0_0 a0_1 a0_2 l0_3 r) (frs (bodyOf Tryd.f44) [1, 0, 1, 0, 0, 1, 0, 0, 1, 0, 0, 0, 0] []) .normal ⟨.u :: .p (some (0, 0)) :: .u :: .i .i64 i_3 :: .i .i64 k_4 :: u_ 15 (.b t_20 :: u_ 8 ([])), ofL [.row [.i .i64 h0_0, .i .i64 h0_1, .i .i64 h0_2, .r (h0_3.map (V.i .u64)) h0_3.length true] 0 0 true true none], 1, 0⟩) := by
 induction k with
 | zero => exact ⟨by intros; simp [hess_Is.l0] at *, by intros; simp [hess_Is.l1] at *, by intros; simp [hess_Is.j2] at *⟩
 | succ k ih =>
  obtain ⟨ih0, ih1, ih2⟩ := ih
  refine ⟨?_, ?_, ?_⟩
  ·intro i_3 h0_0 h0_1 h0_2 h0_3 r H; unfold hess_Is.l0 at H; refine fb ?_; refine w_loop ?_; refine w_seq ?_; refine sr fun K hK => ?_; refine o_ ?_; refine nk hK ?_; rcases its H with ⟨c1, H⟩ | ⟨c1, H⟩
   ·refine dT c1 ?_; refine wT ?_; refine sk ?_; refine w_seq ?_; refine w_block ?_; refine sr fun K hK => ?_; refine o_ ?_; refine nk hK ?_; refine w_block ?_; refine ww [0] [1, 1, 0] ?_; exact gi (ih1 i_3 0 h0_0 h0_1 h0_2 h0_3 r H)
   ·refine dF c1 ?_; refine wF ?_; refine w_exit rfl ?_; refine ksr fun K hK => ?_; refine o_ ?_; refine nkt hK ?_; rw [← Option.some.inj H]; exact fw []
  ·intro i_3 k_4 h0_0 h0_1 h0_2 h0_3 r H; unfold hess_Is.l1 at H; refine fb ?_; refine w_loop ?_; refine w_seq ?_; refine sr fun K hK => ?_; refine o_ ?_; rcases its H with ⟨c2, H⟩ | ⟨c2, H⟩
   ·refine dT c2 ?_; refine o_ ?_; refine nl hK ?_; refine kw [0] [1, 1, 0, 15] ?_; exact gi (ih2 i_3 k_4 (decide (k_4 < h0_1)) h0_0 h0_1 h0_2 h0_3 r H)
   ·refine dF c2 ?_; refine o_ ?_; refine nl hK ?_; refine kw [0] [1, 1, 0, 15] ?_; exact gi (ih2 i_3 k_4 false h0_0 h0_1 h0_2 h0_3 r H)
  ·intro i_3 k_4 t_20 h0_0 h0_1 h0_2 h0_3 r H; unfold hess_Is.j2 at H; refine fb ?_; refine k_seq ?_; rcases its H with ⟨c3, H⟩ | ⟨c3, H⟩
   ·refine dV c3 ?_; refine wT ?_; refine sk ?_; refine w_seq ?_; refine w_block ?_; refine sr fun K hK => ?_; refine o_ ?_; obtain ⟨q4, hq4, H⟩ := bnd H; refine cs [] func15 (mat_Matrix_At.does hq4) ?_; obtain ⟨q5, hq5, H⟩ := bnd H; refine cs [] func23 (word_Kind.does hq5) ?_; refine o_ ?_; refine nk hK ?_; rcases its H with ⟨c6, H⟩ | ⟨c6, H⟩
    ·refine dE c6 ?_; refine wF ?_; refine w_skip ?_; refine k_block ?_; refine k_seq ?_; refine wR fun K hK => ?_; refine o_ ?_; refine nl hK ?_; refine k_loop ?_; refine ww [0] [1, 1, 0] ?_; exact gi (ih1 i_3 (wrap64 (k_4 + 1)) h0_0 h0_1 h0_2 h0_3 r H)
    ·refine dN c6 ?_; refine wT ?_; refine sr fun K hK => ?_; refine o_ ?_; refine nkt hK ?_; rw [← Option.some.inj H]; exact fw []
   ·refine dW c3 ?_; refine wF ?_; refine w_exit rfl ?_; refine k_block ?_; refine k_seq ?_; refine wR fun K hK => ?_; refine o_ ?_; refine nl hK ?_; refine k_loop ?_; refine ww [0] [1, 1] ?_; exact gi (ih0 (wrap64 (i_3 + 1)) h0_0 h0_1 h0_2 h0_3 r H)
theorem hess_Is.does {k : Nat} {a0_0 a0_1 a0_2 : Int} {l0_3 : List Int} {r : Bool} (H : hess_Is.f k a0_0 a0_1 a0_2 l0_3 = some r) : Do E0 (.fn 44 [.a [.i .i64 a0_0, .i .i64 a0_1, .i .i64 a0_2, .r (l0_3.map (V.i .u64)) l0_3.length true]] [] (.b r) []) := by
 obtain ⟨ih0, ih1, ih2⟩ := @hess_Is.does_l a0_0 a0_1 a0_2 l0_3 k; refine fnw ((hess_Is.Q a0_0 a0_1 a0_2 l0_3 r)) func44 ntmps44 ?_; unfold hess_Is.f at H; refine sr fun K hK => ?_; refine o_ ?_; refine nk hK ?_; refine w_seq ?_; refine sr fun K hK => ?_; refine o_ ?_; refine nk hK ?_; refine w_block ?_; refine ww [0] [1, 1] ?_; exact gi (ih0 2 a0_0 a0_1 a0_2 l0_3 r H)
theorem word_Neg.does {a0 : Int} {r : Bool} (H : word_Neg.f a0 = some r) : Do E0 (.fn 54 [.i .u64 a0] [] (.b r) []) := by
 refine fnw ((word_Neg.Q a0 r)) func54 ntmps54 ?_; unfold word_Neg.f at H; refine sr fun K hK => ?_; refine o_ ?_; refine nksr hK fun K hK => ?_; refine o_ ?_; refine g_shrc (p := 9223372036854775808) rfl rfl rfl rfl de_ (by rfl) (gT ?_); refine o_ ?_; refine nkt hK ?_; rw [← Option.some.inj H]; exact fw []
theorem block_Two_Plain.does {k : Nat} {a0_0 a0_1 a0_2 a0_3 : Int} {r : Bool} (H : block_Two_Plain.f k a0_0 a0_1 a0_2 a0_3 = some r) : Do E0 (.fn 45 [.a [.i .u64 a0_0, .i .u64 a0_1, .i .u64 a0_2, .i .u64 a0_3]] [] (.b r) []) := by
 refine fnw ((block_Two_Plain.Q a0_0 a0_1 a0_2 a0_3 r)) func45 ntmps45 ?_; unfold block_Two_Plain.f at H; refine sr fun K hK => ?_; refine o_ ?_; refine nk hK ?_; refine w_seq ?_; refine sr fun K hK => ?_; refine o_ ?_; obtain ⟨q1, hq1, H⟩ := bnd H; refine cs [] func23 (word_Kind.does hq1) ?_; refine o_ ?_; refine nk hK ?_; rcases its H with ⟨c2, H⟩ | ⟨c2, H⟩
 ·refine dE c2 ?_; refine wT ?_; refine sr fun K hK => ?_; refine o_ ?_; refine nkt hK ?_; rw [← Option.some.inj H]; exact fw []
 ·refine dN c2 ?_; refine wF ?_; refine sk ?_; refine w_seq ?_; refine wD fun K hK => ?_; refine o_ ?_; rcases its H with ⟨c3, H⟩ | ⟨c3, H⟩
  ·refine dE c3 ?_; refine o_ ?_; obtain ⟨q4, hq4, H⟩ := bnd H; refine cs [] func23 (word_Kind.does hq4) ?_; refine o_ ?_; rcases its H with ⟨c5, H⟩ | ⟨c5, H⟩
   ·refine dE c5 ?_; refine o_ ?_; refine g_nil (hK _ _ _ (by kernel_rfl) ?_); refine kt ?_; rw [← Option.some.inj H]; exact fw []
   ·refine dN c5 ?_; refine o_ ?_; obtain ⟨q6, hq6, H⟩ := bnd H; refine cs [] func54 (word_Neg.does hq6) ?_; refine o_ ?_; obtain ⟨q7, hq7, H⟩ := bnd H; refine cs [] func54 (word_Neg.does hq7) ?_; refine g_neb rfl rfl Tryd.underlying4 rfl rfl (gT ?_); refine o_ ?_; refine g_nil (hK _ _ _ (by kernel_rfl) ?_); refine kt ?_; rw [← Option.some.inj H]; exact fw []
  ·refine dN c3 ?_; refine o_ ?_; refine g_nil (hK _ _ _ (by kernel_rfl) ?_); refine kt ?_; rw [← Option.some.inj H]; exact fw []
theorem schur_Blocks.does_l {a0_0 a0_1 a0_2 : Int} {l0_3 : List Int} (k : Nat) : (∀ (t_21 : Bool) (h0_0 h0_1 h0_2 : Int) (h0_3 : List Int) (r : (List Int) × Bool), schur_Blocks.j0 k t_21 h0_0 h0_1 h0_2 h0_3 = some r → kont E0 (schur_Blocks.Q a0_0 a0_1 a0_2 l0_3 r) (frs (bodyOf Tryd.f26) [1, 0, 0] []) .normal ⟨.u :: .p (some (0, 0)) :: u_ 19 (.b t_21 :: u_ 68 ([])), ofL [.row [.i .i64 h0_0, .i .i64 h0_1, .i .i64 h0_2, .r (h0_3.map (V.i .u64)) h0_3.length true] 0 0 true true none], 1, 0⟩) ∧
    (∀ (h1 : List Int) (i_5 h0_0 h0_1 h0_2 : Int) (h0_3 : List Int) (r : (List Int) × Bool), schur_Blocks.l0 k h1 i_5 h0_0 h0_1 h0_2 h0_3 = some r → wk_ E0 (schur_Blocks.Q a0_0 a0_1 a0_2 l0_3 r) (frs (bodyOf Tryd.f26) [1, 1, 1, 0, 1, 0] []) (sub (bodyOf Tryd.f26) [1, 1, 1, 0, 1, 0]) ⟨.u :: .p (some (0, 0)) :: .u :: .u :: .s (some (1, 0)) h1.length :: .i .i64 i_5 :: u_ 84 ([]), ofL [.row [.i .i64 h0_0, .i .i64 h0_1, .i .i64 h0_2, .r (h0_3.map (V.i .u64)) h0_3.length true] 0 0 true true none, .row (h1.map (V.i .i64)) 2 1 true true none], 2, 0⟩) ∧
    (∀ (h1 : List Int) (i_5 : Int) (t_43 : Bool) (h0_0 h0_1 h0_2 : Int) (h0_3 : List Int) (r : (List Int) × Bool), schur_Blocks.j2 k h1 i_5 t_43 h0_0 h0_1 h0_2 h0_3 = some r → kont E0 (schur_Blocks.Q a0_0 a0_1 a0_2 l0_3 r) (frs (bodyOf Tryd.f26) [1, 1, 1, 0, 1, 0, 0, 1, 0, 1, 0, 0] []) .normal ⟨.u :: .p (some (0, 0)) :: .u :: .u :: .s (some (1, 0)) h1.length :: .i .i64 i_5 :: u_ 37 (.b t_43 :: u_ 46 ([])), ofL [.row [.i .i64 h0_0, .i .i64 h0_1, .i .i64 h0_2, .r (h0_3.map (V.i .u64)) h0_3.length true] 0 0 true true none, .row (h1.map (V.i .i64)) 2 1 true true none], 2, 0⟩) := by
 induction k with
 | zero => exact ⟨by intros; simp [schur_Blocks.j0] at *, by intros; simp [schur_Blocks.l0] at *, by intros; simp [schur_Blocks.j2] at *⟩
 | succ k ih =>
  obtain ⟨ih0, ih1, ih2⟩ := ih
  refine ⟨?_, ?_, ?_⟩
  ·intro t_21 h0_0 h0_1 h0_2 h0_3 r H; unfold schur_Blocks.j0 at H; refine fb ?_; refine k_seq ?_; rcases its H with ⟨c5, H⟩ | ⟨c5, H⟩
   ·refine dV c5 ?_; refine wT ?_; refine sr fun K hK => ?_; refine o_ ?_; refine nk hK ?_; refine w_less (.at 2 [] 2 1 rfl rfl) ?_; simp only [nrmx, nrm, List.set_cons_zero, List.set_cons_succ, Nat.reduceAdd]; refine w_ret ?_; rw [← Option.some.inj H]; exact fw [9]
   ·refine dW c5 ?_; refine wF ?_; refine sk ?_; refine sr fun K hK => ?_; refine o_ ?_; refine nk hK ?_; refine w_seq ?_; refine sr fun K hK => ?_; refine o_ ?_; refine nk hK ?_; refine w_block ?_; refine w_less (.at 4 [] 2 1 rfl rfl) ?_; simp only [nrmx, nrm, List.set_cons_zero, List.set_cons_succ, Nat.reduceAdd]; refine ww [0, 9] [1, 2, 0] ?_; exact gi (ih1 ([] : List Int) 0 h0_0 h0_1 h0_2 h0_3 r H)
  ·intro h1 i_5 h0_0 h0_1 h0_2 h0_3 r H; unfold schur_Blocks.l0 at H; refine fb ?_; refine w_loop ?_; refine w_seq ?_; refine sr fun K hK => ?_; refine o_ ?_; refine nk hK ?_; rcases its H with ⟨c6, H⟩ | ⟨c6, H⟩
   ·refine dT c6 ?_; refine wT ?_; refine sk ?_; refine w_block ?_; refine sr fun K hK => ?_; refine o_ ?_; refine g_bsl (k := .i64) (xs := [i_5]) rfl rfl Tryd.underlying55 sz3 zr3 de_ rfl rfl rfl (gU ?_); obtain ⟨c7, H⟩ := it1 H; refine g_aps rfl rfl Tryd.underlying55 Tryd.underlying55 sz3 by3 zr3 rfl rfl rfl rfl rfl rfl (by unfold limit; omega) (by omega) ?_; refine gN ?_; refine o_ ?_
    refine nk hK ?_; refine w_seq ?_; refine sr fun K hK => ?_; refine o_ ?_; rcases its H with ⟨c8, H⟩ | ⟨c8, H⟩
    ·refine dE c8 ?_; refine o_ ?_; refine nl hK ?_; refine kw [0, 30] [1, 2, 0, 37] ?_; exact gi (ih2 (h1 ++ ([i_5] : List Int)) i_5 true h0_0 h0_1 h0_2 h0_3 r H)
    ·refine dN c8 ?_; refine o_ ?_; obtain ⟨q9, hq9, H⟩ := bnd H; refine cs [] func15 (mat_Matrix_At.does hq9) ?_; obtain ⟨q10, hq10, H⟩ := bnd H; refine cs [] func23 (word_Kind.does hq10) ?_; refine o_ ?_; refine nl hK ?_; refine kw [0, 30] [1, 2, 0, 37] ?_; exact gi (ih2 (h1 ++ ([i_5] : List Int)) i_5 (q10 == 1) h0_0 h0_1 h0_2 h0_3 r H)
   ·refine dF c6 ?_; refine wF ?_; refine w_exit rfl ?_; refine ksr fun K hK => ?_; refine o_ ?_; refine nkt hK ?_; rw [← Option.some.inj H]; exact fw [1]
  ·intro h1 i_5 t_43 h0_0 h0_1 h0_2 h0_3 r H; unfold schur_Blocks.j2 at H; refine fb ?_; refine k_seq ?_; rcases its H with ⟨c11, H⟩ | ⟨c11, H⟩
   ·refine dV c11 ?_; refine wT ?_; refine sr fun K hK => ?_; refine o_ ?_; refine nk hK ?_; refine w_exit rfl ?_; refine k_loop ?_; refine ww [0, 1] [1, 2, 0] ?_; exact gi (ih1 h1 (wrap64 (i_5 + 1)) h0_0 h0_1 h0_2 h0_3 r H)
   ·refine dW c11 ?_; refine wF ?_; refine sk ?_; refine w_seq ?_; refine wD fun K hK => ?_; refine o_ ?_; obtain ⟨q12, hq12, H⟩ := bnd H; refine cs [] func15 (mat_Matrix_At.does hq12) ?_; refine o_ ?_; obtain ⟨q13, hq13, H⟩ := bnd H; refine cs [] func15 (mat_Matrix_At.does hq13) ?_; refine o_ ?_; obtain ⟨q14, hq14, H⟩ := bnd H; refine cs [] func15 (mat_Matrix_At.does hq14) ?_; refine o_ ?_
    obtain ⟨q15, hq15, H⟩ := bnd H; refine cs [] func15 (mat_Matrix_At.does hq15) ?_; refine g_bd rfl rfl zr81 Tryd.underlying81 (pl := [(0, 1), (1, 1), (2, 1), (3, 1)]) (by kernel_rfl) ?_; refine gB ?_; refine o_ ?_; refine g_nil (hK _ _ _ (by kernel_rfl) ?_); refine k_seq ?_; refine w_seq ?_; refine sr fun K hK => ?_; refine o_ ?_; obtain ⟨q16, hq16, H⟩ := bnd H
    refine cs [] func45 (block_Two_Plain.does hq16) ?_; refine o_ ?_; rcases its H with ⟨c17, H⟩ | ⟨c17, H⟩
    ·refine dV c17 ?_; refine o_ ?_; rcases its H with ⟨c18, H⟩ | ⟨c18, H⟩
     ·refine dT c18 ?_; refine o_ ?_; obtain ⟨q19, hq19, H⟩ := bnd H; refine cs [] func15 (mat_Matrix_At.does hq19) ?_; obtain ⟨q20, hq20, H⟩ := bnd H; refine cs [] func23 (word_Kind.does hq20) ?_; refine o_ ?_; refine nk hK ?_; rcases its H with ⟨c21, H⟩ | ⟨c21, H⟩
      ·refine dE c21 ?_; refine wF ?_; refine sk ?_; refine wR fun K hK => ?_; refine o_ ?_; refine nl hK ?_; refine k_block ?_; refine k_loop ?_; refine ww [0, 1] [1, 2, 0] ?_; exact gi (ih1 h1 (wrap64 (i_5 + 2)) h0_0 h0_1 h0_2 h0_3 r H)
      ·refine dN c21 ?_; refine wT ?_; refine sr fun K hK => ?_; refine o_ ?_; refine nk hK ?_; refine w_less (.at 2 [] 2 1 rfl rfl) ?_; simp only [nrmx, nrm, List.set_cons_zero, List.set_cons_succ, Nat.reduceAdd]; refine w_ret ?_; rw [← Option.some.inj H]; exact fw [182]
     ·refine dF c18 ?_; refine o_ ?_; refine nk hK ?_; refine wF ?_; refine sk ?_; refine wR fun K hK => ?_; refine o_ ?_; refine nl hK ?_; refine k_block ?_; refine k_loop ?_; refine ww [0, 1] [1, 2, 0] ?_; exact gi (ih1 h1 (wrap64 (i_5 + 2)) h0_0 h0_1 h0_2 h0_3 r H)
    ·refine dW c17 ?_; refine o_ ?_; refine nk hK ?_; refine wT ?_; refine sr fun K hK => ?_; refine o_ ?_; refine nk hK ?_; refine w_less (.at 2 [] 2 1 rfl rfl) ?_; simp only [nrmx, nrm, List.set_cons_zero, List.set_cons_succ, Nat.reduceAdd]; refine w_ret ?_; rw [← Option.some.inj H]; exact fw [182]
theorem schur_Blocks.does {k : Nat} {a0_0 a0_1 a0_2 : Int} {l0_3 : List Int} {r : (List Int) × Bool} (H : schur_Blocks.f k a0_0 a0_1 a0_2 l0_3 = some r) : Do E0 (.fn 26 [.a [.i .i64 a0_0, .i .i64 a0_1, .i .i64 a0_2, .r (l0_3.map (V.i .u64)) l0_3.length true]] [] (.t [.s (some (0, 0)) r.1.length, .b r.2]) [.row (r.1.map (V.i .i64)) 2 1 true true none]) := by
 obtain ⟨ih0, ih1, ih2⟩ := @schur_Blocks.does_l a0_0 a0_1 a0_2 l0_3 k; refine fnw ((schur_Blocks.Q a0_0 a0_1 a0_2 l0_3 r)) func26 ntmps26 ?_; unfold schur_Blocks.f at H; refine sr fun K hK => ?_; refine o_ ?_; refine nk hK ?_; refine w_seq ?_; refine sr fun K hK => ?_; refine o_ ?_; obtain ⟨q1, hq1, H⟩ := bnd H; refine cs [] func27 (mat_Matrix_Check.does hq1) ?_; refine o_ ?_
 rcases its H with ⟨c2, H⟩ | ⟨c2, H⟩
 ·refine dE c2 ?_; refine o_ ?_; rcases its H with ⟨c3, H⟩ | ⟨c3, H⟩
  ·refine dE c3 ?_; refine o_ ?_; obtain ⟨q4, hq4, H⟩ := bnd H; refine cs [] func44 (hess_Is.does hq4) ?_; refine o_ ?_; refine nl hK ?_; refine kw [0] [1, 19] ?_; exact gi (ih0 (!q4) a0_0 a0_1 a0_2 l0_3 r H)
  ·refine dN c3 ?_; refine o_ ?_; refine nl hK ?_; refine kw [0] [1, 19] ?_; exact gi (ih0 true a0_0 a0_1 a0_2 l0_3 r H)
 ·refine dN c2 ?_; refine o_ ?_; refine nl hK ?_; refine kw [0] [1, 19] ?_; exact gi (ih0 true a0_0 a0_1 a0_2 l0_3 r H)
theorem word_Finite.does {a0 : Int} {r : Bool} (H : word_Finite.f a0 = some r) : Do E0 (.fn 35 [.i .u64 a0] [] (.b r) []) := by
 refine fnw ((word_Finite.Q a0 r)) func35 ntmps35 ?_; unfold word_Finite.f at H; refine sr fun K hK => ?_; refine o_ ?_; refine nksr hK fun K hK => ?_; refine o_ ?_; obtain ⟨q1, hq1, H⟩ := bnd H; refine cs [] func42 (word_Exp.does hq1) ?_; refine o_ ?_; refine nkt hK ?_; rw [← Option.some.inj H]; exact fw []
theorem mat_Matrix_Finite.does_l {a0_0 a0_1 a0_2 : Int} {l0_3 : List Int} (k : Nat) : (∀ (t_6 t_7 h0_0 h0_1 h0_2 : Int) (h0_3 : List Int) (r : Bool), mat_Matrix_Finite.l0 k t_6 t_7 h0_0 h0_1 h0_2 h0_3 = some r → wk_ E0 (mat_Matrix_Finite.Q a0_0 a0_1 a0_2 l0_3 r) (frs (bodyOf Tryd.f10) [1, 0, 1, 0] []) (sub (bodyOf Tryd.f10) [1, 0, 1, 0]) ⟨.u :: .p (some (0, 0)) :: u_ 4 (.i .i64 t_6 :: .i .i64 t_7 :: u_ 15 ([])), ofL [.row [.i .i64 h0_0, .i .i64 h0_1, .i .i64 h0_2, .r (h0_3.map (V.i .u64)) h0_3.length true] 0 0 true true none], 1, 0⟩) ∧
    (∀ (i_3 t_6 t_7 t_11 t_12 h0_0 h0_1 h0_2 : Int) (h0_3 : List Int) (r : Bool), mat_Matrix_Finite.l1 k i_3 t_6 t_7 t_11 t_12 h0_0 h0_1 h0_2 h0_3 = some r → wk_ E0 (mat_Matrix_Finite.Q a0_0 a0_1 a0_2 l0_3 r) (frs (bodyOf Tryd.f10) [1, 0, 1, 0, 0, 1, 1, 0, 0, 1, 1, 0] []) (sub (bodyOf Tryd.f10) [1, 0, 1, 0, 0, 1, 1, 0, 0, 1, 1, 0]) ⟨.u :: .p (some (0, 0)) :: .u :: .i .i64 i_3 :: .u :: .u :: .i .i64 t_6 :: .i .i64 t_7 :: u_ 3 (.i .i64 t_11 :: .i .i64 t_12 :: u_ 10 ([])), ofL [.row [.i .i64 h0_0, .i .i64 h0_1, .i .i64 h0_2, .r (h0_3.map (V.i .u64)) h0_3.length true] 0 0 true true none], 1, 0⟩) := by
 induction k with
 | zero => exact ⟨by intros; simp [mat_Matrix_Finite.l0] at *, by intros; simp [mat_Matrix_Finite.l1] at *⟩
 | succ k ih =>
  obtain ⟨ih0, ih1⟩ := ih
  refine ⟨?_, ?_⟩
  ·intro t_6 t_7 h0_0 h0_1 h0_2 h0_3 r H; unfold mat_Matrix_Finite.l0 at H; refine fb ?_; refine w_loop ?_; refine sr fun K hK => ?_; refine o_ ?_; refine nk hK ?_; refine w_seq ?_; rcases its H with ⟨c1, H⟩ | ⟨c1, H⟩
   ·refine dT c1 ?_; refine wT ?_; refine sk ?_; refine w_seq ?_; refine w_block ?_; refine sr fun K hK => ?_; refine o_ ?_; refine nksr hK fun K hK => ?_; refine o_ ?_; refine nk hK ?_; refine w_block ?_; refine ww [0] [1, 1, 2, 0, 3, 0] ?_; exact gi (ih1 t_7 t_6 t_7 h0_1 0 h0_0 h0_1 h0_2 h0_3 r H)
   ·refine dF c1 ?_; refine wF ?_; refine w_exit rfl ?_; refine ksr fun K hK => ?_; refine o_ ?_; refine nkt hK ?_; rw [← Option.some.inj H]; exact fw []
  ·intro i_3 t_6 t_7 t_11 t_12 h0_0 h0_1 h0_2 h0_3 r H; unfold mat_Matrix_Finite.l1 at H; refine fb ?_; refine w_loop ?_; refine sr fun K hK => ?_; refine o_ ?_; refine nk hK ?_; refine w_seq ?_; rcases its H with ⟨c2, H⟩ | ⟨c2, H⟩
   ·refine dT c2 ?_; refine wT ?_; refine sk ?_; refine w_seq ?_; refine w_block ?_; refine sr fun K hK => ?_; refine o_ ?_; refine nksr hK fun K hK => ?_; refine o_ ?_; obtain ⟨q3, hq3, H⟩ := bnd H; refine cs [] func15 (mat_Matrix_At.does hq3) ?_; obtain ⟨q4, hq4, H⟩ := bnd H; refine cs [] func35 (word_Finite.does hq4) ?_; refine o_ ?_; refine nk hK ?_; rcases its H with ⟨c5, H⟩ | ⟨c5, H⟩
    ·refine dV c5 ?_; refine wF ?_; refine w_skip ?_; refine k_block ?_; refine k_seq ?_; refine wR fun K hK => ?_; refine o_ ?_; refine nl hK ?_; refine k_loop ?_; refine ww [0] [1, 1, 2, 0, 3, 0] ?_; exact gi (ih1 i_3 t_6 t_7 t_11 (wrap64 (t_12 + 1)) h0_0 h0_1 h0_2 h0_3 r H)
    ·refine dW c5 ?_; refine wT ?_; refine sr fun K hK => ?_; refine o_ ?_; refine nkt hK ?_; rw [← Option.some.inj H]; exact fw []
   ·refine dF c2 ?_; refine wF ?_; refine w_exit rfl ?_; refine k_block ?_; refine k_seq ?_; refine wR fun K hK => ?_; refine o_ ?_; refine nl hK ?_; refine k_loop ?_; refine ww [0] [1, 4, 0] ?_; exact gi (ih0 t_6 (wrap64 (t_7 + 1)) h0_0 h0_1 h0_2 h0_3 r H)
theorem mat_Matrix_Finite.does {k : Nat} {a0_0 a0_1 a0_2 : Int} {l0_3 : List Int} {r : Bool} (H : mat_Matrix_Finite.f k a0_0 a0_1 a0_2 l0_3 = some r) : Do E0 (.fn 10 [.a [.i .i64 a0_0, .i .i64 a0_1, .i .i64 a0_2, .r (l0_3.map (V.i .u64)) l0_3.length true]] [] (.b r) []) := by
 obtain ⟨ih0, ih1⟩ := @mat_Matrix_Finite.does_l a0_0 a0_1 a0_2 l0_3 k; refine fnw ((mat_Matrix_Finite.Q a0_0 a0_1 a0_2 l0_3 r)) func10 ntmps10 ?_; unfold mat_Matrix_Finite.f at H; refine sr fun K hK => ?_; refine o_ ?_; refine nk hK ?_; refine w_seq ?_; refine sr fun K hK => ?_; refine o_ ?_; refine nk hK ?_; refine w_block ?_; refine ww [0] [1, 4, 0] ?_; exact gi (ih0 a0_0 0 a0_0 a0_1 a0_2 l0_3 r H)
theorem word_Abs.does {a0 r : Int} (H : word_Abs.f a0 = some r) : Do E0 (.fn 22 [.i .u64 a0] [] (.i .u64 r) []) := by
 refine fnw ((word_Abs.Q a0 r)) func22 ntmps22 ?_; unfold word_Abs.f at H; refine sr fun K hK => ?_; refine o_ ?_; refine nksr hK fun K hK => ?_; refine o_ ?_; refine nkt hK ?_; rw [← Option.some.inj H]; exact fw []
theorem order_Greatest.does_l {l0 : List Int} (k : Nat) : (∀ (best_4 at_5 : Int) (t_8 : List Int) (t_9 t_10 : Int) (r : Int × Int), order_Greatest.l0 k best_4 at_5 t_8 t_9 t_10 = some r → wk_ E0 (order_Greatest.Q l0 r) (frs (bodyOf Tryd.f47) [1, 1, 0, 1, 0] []) (sub (bodyOf Tryd.f47) [1, 1, 0, 1, 0]) ⟨u_ 4 (.i .u64 best_4 :: .i .i64 at_5 :: .u :: .u :: .r (t_8.map (V.i .u64)) t_8.length true :: .i .i64 t_9 :: .i .i64 t_10 :: u_ 22 ([])), ofL [], 0, 0⟩) := by
 induction k with
 | zero => exact by intros; simp [order_Greatest.l0] at *
 | succ k ih =>
  have ih0 := ih
  refine ?_
  ·intro best_4 at_5 t_8 t_9 t_10 r H; unfold order_Greatest.l0 at H; refine fb ?_; refine w_loop ?_; refine sr fun K hK => ?_; refine o_ ?_; refine nk hK ?_; refine w_seq ?_; rcases its H with ⟨c1, H⟩ | ⟨c1, H⟩
   ·refine dT c1 ?_; refine wT ?_; refine sk ?_; refine w_seq ?_; refine w_block ?_; refine sr fun K hK => ?_; refine o_ ?_; obtain ⟨c2, H⟩ := it1 H; obtain ⟨c3, H⟩ := it1 H; refine g_ixr rfl rfl Tryd.underlying22 sz27 rfl rfl ao_ al_ (gT ?_); refine g_ldq rfl rfl ag27 sz27 rfl ao_ (gT ?_); refine o_ ?_; refine nk hK ?_; refine w_seq ?_; refine sr fun K hK => ?_; refine o_ ?_
    obtain ⟨q4, hq4, H⟩ := bnd H; refine cs [] func23 (word_Kind.does hq4) ?_; refine o_ ?_; refine nk hK ?_; rcases its H with ⟨c5, H⟩ | ⟨c5, H⟩
    ·refine dE c5 ?_; refine wT ?_; refine sr fun K hK => ?_; refine o_ ?_; refine nkt hK ?_; rw [← Option.some.inj H]; exact fw []
    ·refine dN c5 ?_; refine wF ?_; refine sk ?_; refine sr fun K hK => ?_; refine o_ ?_; rcases its H with ⟨c6, H⟩ | ⟨c6, H⟩
     ·refine dT c6 ?_; refine o_ ?_; refine nk hK ?_; refine wT ?_; refine wR fun K hK => ?_; refine o_ ?_; obtain ⟨q7, hq7, H⟩ := bnd H; refine cs [] func22 (word_Abs.does hq7) ?_; refine o_ ?_; refine nl hK ?_; refine k_block ?_; refine k_seq ?_; refine wR fun K hK => ?_; refine o_ ?_; refine nl hK ?_; refine k_loop ?_; refine ww [] [4, 0, 2, 0, 0] ?_
      exact gi (ih0 q7 t_10 t_8 t_9 (wrap64 (t_10 + 1)) r H)
     ·refine dF c6 ?_; refine o_ ?_; obtain ⟨q8, hq8, H⟩ := bnd H; refine cs [] func22 (word_Abs.does hq8) ?_; refine o_ ?_; refine nk hK ?_; rcases its H with ⟨c9, H⟩ | ⟨c9, H⟩
      ·refine dT c9 ?_; refine wT ?_; refine wR fun K hK => ?_; refine o_ ?_; obtain ⟨q10, hq10, H⟩ := bnd H; refine cs [] func22 (word_Abs.does hq10) ?_; refine o_ ?_; refine nl hK ?_; refine k_block ?_; refine k_seq ?_; refine wR fun K hK => ?_; refine o_ ?_; refine nl hK ?_; refine k_loop ?_; refine ww [] [4, 0, 2, 0, 0] ?_; exact gi (ih0 q10 t_10 t_8 t_9 (wrap64 (t_10 + 1)) r H)
      ·refine dF c9 ?_; refine wF ?_; refine w_skip ?_; refine k_block ?_; refine k_seq ?_; refine wR fun K hK => ?_; refine o_ ?_; refine nl hK ?_; refine k_loop ?_; refine ww [] [4, 0, 2, 0, 0] ?_; exact gi (ih0 best_4 at_5 t_8 t_9 (wrap64 (t_10 + 1)) r H)
   ·refine dF c1 ?_; refine wF ?_; refine w_exit rfl ?_; refine ksr fun K hK => ?_; refine o_ ?_; refine nkt hK ?_; rw [← Option.some.inj H]; exact fw []
theorem order_Greatest.does {k : Nat} {l0 : List Int} {r : Int × Int} (H : order_Greatest.f k l0 = some r) : Do E0 (.fn 47 [.r (l0.map (V.i .u64)) l0.length true] [] (.t [.i .u64 r.1, .i .i64 r.2]) []) := by
 obtain ih0 := @order_Greatest.does_l l0 k; refine fnw ((order_Greatest.Q l0 r)) func47 ntmps47 ?_; unfold order_Greatest.f at H; refine sr fun K hK => ?_; refine o_ ?_; refine nksr hK fun K hK => ?_; refine o_ ?_; refine nk hK ?_; refine w_seq ?_; refine sr fun K hK => ?_; refine o_ ?_; refine g_len_r rfl rfl Tryd.underlying22 rfl (gT ?_); refine o_ ?_; refine nk hK ?_; refine w_block ?_
 refine ww [] [4, 0, 2, 0, 0] ?_; exact gi (ih0 0 (-1) l0 (l0.length : Int) 0 r H)
theorem word_Parts.does {k : Nat} {a0 : Int} {r : Int × Int} (H : word_Parts.f k a0 = some r) : Do E0 (.fn 46 [.i .u64 a0] [] (.t [.i .u64 r.1, .i .i64 r.2]) []) := by
 refine fnw ((word_Parts.Q a0 r)) func46 ntmps46 ?_; unfold word_Parts.f at H; refine sr fun K hK => ?_; refine o_ ?_; refine nk hK ?_; refine w_seq ?_; refine sr fun K hK => ?_; refine o_ ?_; obtain ⟨q1, hq1, H⟩ := bnd H; refine cs [] func23 (word_Kind.does hq1) ?_; refine nk hK ?_; refine w_block ?_; refine sr fun K hK => ?_; refine o_ ?_; refine nk hK ?_; rcases its H with ⟨c2, H⟩ | ⟨c2, H⟩
 ·refine dE c2 ?_; refine wT ?_; refine sr fun K hK => ?_; refine o_ ?_; obtain ⟨q3, hq3, H⟩ := bnd H; refine cs [] func43 (word_Frac.does hq3) ?_; refine o_ ?_; refine nkt hK ?_; rw [← Option.some.inj H]; exact fw []
 ·refine dN c2 ?_; refine wF ?_; refine sr fun K hK => ?_; refine o_ ?_; refine nk hK ?_; rcases its H with ⟨c4, H⟩ | ⟨c4, H⟩
  ·refine dE c4 ?_; refine wT ?_; refine sr fun K hK => ?_; refine o_ ?_; obtain ⟨q5, hq5, H⟩ := bnd H; refine cs [] func43 (word_Frac.does hq5) ?_; refine o_ ?_; obtain ⟨q6, hq6, H⟩ := bnd H; refine cs [] func42 (word_Exp.does hq6) ?_; refine o_ ?_; refine nkt hK ?_; rw [← Option.some.inj H]; exact fw []
  ·refine dN c4 ?_; refine wF ?_; refine w_skip ?_; refine k_block ?_; refine ksr fun K hK => ?_; refine o_ ?_; refine nkt hK ?_; rw [← Option.some.inj H]; exact fw []
theorem vec_Power.does_l {l0 : List Int} (k : Nat) : (∀ (n_6 e_7 : Int) (r : Int × Bool), vec_Power.l0 k n_6 e_7 = some r → wk_ E0 (vec_Power.Q l0 r) (frs (bodyOf Tryd.f30) [1, 1, 1, 1, 0, 0] []) (sub (bodyOf Tryd.f30) [1, 1, 1, 1, 0, 0]) ⟨u_ 6 (.i .u64 n_6 :: .i .i64 e_7 :: u_ 19 ([])), ofL [], 0, 0⟩) := by
 induction k with
 | zero => exact by intros; simp [vec_Power.l0] at *
 | succ k ih =>
  have ih0 := ih
  refine ?_
  ·intro n_6 e_7 r H; unfold vec_Power.l0 at H; refine fb ?_; refine w_loop ?_; refine w_seq ?_; refine sr fun K hK => ?_; refine o_ ?_; refine nk hK ?_; rcases its H with ⟨c4, H⟩ | ⟨c4, H⟩
   ·refine dT c4 ?_; refine wT ?_; refine sk ?_; refine w_block ?_; refine wR fun K hK => ?_; refine o_ ?_; refine g_shrc (p := 2) rfl rfl rfl rfl de_ (by rfl) (gT ?_); refine o_ ?_; refine nl hK ?_; refine k_block ?_; refine k_loop ?_; refine ww [] [6, 0] ?_; exact gi (ih0 (n_6 / 2) (wrap64 (e_7 + 1)) r H)
   ·refine dF c4 ?_; refine wF ?_; refine w_exit rfl ?_; refine ksr fun K hK => ?_; refine o_ ?_; refine nkt hK ?_; rw [← Option.some.inj H]; exact fw []
theorem vec_Power.does {k : Nat} {l0 : List Int} {r : Int × Bool} (H : vec_Power.f k l0 = some r) : Do E0 (.fn 30 [.r (l0.map (V.i .u64)) l0.length true] [] (.t [.i .i64 r.1, .b r.2]) []) := by
 obtain ih0 := @vec_Power.does_l l0 k; refine fnw ((vec_Power.Q l0 r)) func30 ntmps30 ?_; unfold vec_Power.f at H; refine sr fun K hK => ?_; refine o_ ?_; refine nksr hK fun K hK => ?_; refine o_ ?_; obtain ⟨q1, hq1, H⟩ := bnd H; refine cs [] func47 (order_Greatest.does hq1) ?_; refine o_ ?_; refine nksr hK fun K hK => ?_; refine o_ ?_; obtain ⟨q2, hq2, H⟩ := bnd H
 refine cs [] func46 (word_Parts.does hq2) ?_; refine o_ ?_; refine nk hK ?_; refine w_seq ?_; refine sr fun K hK => ?_; refine o_ ?_; refine nk hK ?_; rcases its H with ⟨c3, H⟩ | ⟨c3, H⟩
 ·refine dE c3 ?_; refine wT ?_; refine sr fun K hK => ?_; refine o_ ?_; refine nkt hK ?_; rw [← Option.some.inj H]; exact fw []
 ·refine dN c3 ?_; refine wF ?_; refine sk ?_; refine w_seq ?_; refine w_block ?_; refine ww [] [6, 0] ?_; exact gi (ih0 q2.1 q2.2 r H)
theorem mat_Matrix_Clone.does_l {a0_0 a0_1 a0_2 : Int} {l0_3 : List Int} (k : Nat) : (∀ (t_12 t_13 h0_0 h0_1 h0_2 : Int) (h0_3 : List Int) (h1_0 h1_1 h1_2 h2_0 h2_1 h2_2 : Int) (h3 : List Int) (r : Int × Int × Int × (List Int)), mat_Matrix_Clone.l0 k t_12 t_13 h0_0 h0_1 h0_2 h0_3 h2_0 h2_1 h2_2 h3 = some r → wk_ E0 (mat_Matrix_Clone.Q a0_0 a0_1 a0_2 l0_3 r) (frs (bodyOf Tryd.f34) [1, 1, 0, 1, 0] []) (sub (bodyOf Tryd.f34) [1, 1, 0, 1, 0]) ⟨.u :: .p (some (0, 0)) :: .p (some (1, 0)) :: .p (some (2, 0)) :: u_ 8 (.i .i64 t_12 :: .i .i64 t_13 :: u_ 18 ([])), ofL [.row [.i .i64 h0_0, .i .i64 h0_1, .i .i64 h0_2, .r (h0_3.map (V.i .u64)) h0_3.length true] 0 0 true true none, .row [.i .i64 h1_0, .i .i64 h1_1, .i .i64 h1_2, .s none 0] 0 0 true true none, .row [.i .i64 h2_0, .i .i64 h2_1, .i .i64 h2_2, .s (some (3, 0)) h3.length] 0 0 true true none, .row (h3.map (V.i .u64)) 2 1 true true none], 4, 0⟩) ∧
    (∀ (i_4 t_12 t_13 t_17 t_18 h0_0 h0_1 h0_2 : Int) (h0_3 : List Int) (h1_0 h1_1 h1_2 h2_0 h2_1 h2_2 : Int) (h3 : List Int) (r : Int × Int × Int × (List Int)), mat_Matrix_Clone.l1 k i_4 t_12 t_13 t_17 t_18 h0_0 h0_1 h0_2 h0_3 h2_0 h2_1 h2_2 h3 = some r → wk_ E0 (mat_Matrix_Clone.Q a0_0 a0_1 a0_2 l0_3 r) (frs (bodyOf Tryd.f34) [1, 1, 0, 1, 0, 0, 1, 1, 0, 0, 1, 1, 0] []) (sub (bodyOf Tryd.f34) [1, 1, 0, 1, 0, 0, 1, 1, 0, 0, 1, 1, 0]) ⟨.u :: .p (some (0, 0)) :: .p (some (1, 0)) :: .p (some (2, 0)) :: .i .i64 i_4 :: u_ 7 (.i .i64 t_12 :: .i .i64 t_13 :: u_ 3 (.i .i64 t_17 :: .i .i64 t_18 :: u_ 13 ([]))), ofL [.row [.i .i64 h0_0, .i .i64 h0_1, .i .i64 h0_2, .r (h0_3.map (V.i .u64)) h0_3.length true] 0 0 true true none, .row [.i .i64 h1_0, .i .i64 h1_1, .i .i64 h1_2, .s none 0] 0 0 true true none, .row [.i .i64 h2_0, .i .i64 h2_1, .i .i64 h2_2, .s (some (3, 0)) h3.length] 0 0 true true none, .row (h3.map (V.i .u64)) 2 1 true true none], 4, 0⟩) := by
 induction k with
 | zero => exact ⟨by intros; simp [mat_Matrix_Clone.l0] at *, by intros; simp [mat_Matrix_Clone.l1] at *⟩
 | succ k ih =>
  obtain ⟨ih0, ih1⟩ := ih
  refine ⟨?_, ?_⟩
  ·intro t_12 t_13 h0_0 h0_1 h0_2 h0_3 h1_0 h1_1 h1_2 h2_0 h2_1 h2_2 h3 r H; unfold mat_Matrix_Clone.l0 at H; refine fb ?_; refine w_loop ?_; refine sr fun K hK => ?_; refine o_ ?_; refine nk hK ?_; refine w_seq ?_; rcases its H with ⟨c2, H⟩ | ⟨c2, H⟩
   ·refine dT c2 ?_; refine wT ?_; refine sk ?_; refine w_seq ?_; refine w_block ?_; refine sr fun K hK => ?_; refine o_ ?_; refine nksr hK fun K hK => ?_; refine o_ ?_; refine nk hK ?_; refine w_block ?_; refine ww [0, 1, 2, 3] [1, 0, 0, 0, 7, 0, 3, 0] ?_; exact gi (ih1 t_13 t_12 t_13 h2_1 0 h0_0 h0_1 h0_2 h0_3 h1_0 h1_1 h1_2 h2_0 h2_1 h2_2 h3 r H)
   ·refine dF c2 ?_; refine wF ?_; refine w_exit rfl ?_; refine ksr fun K hK => ?_; refine o_ ?_; refine nkt hK ?_; rw [← Option.some.inj H]; exact fw [3]
  ·intro i_4 t_12 t_13 t_17 t_18 h0_0 h0_1 h0_2 h0_3 h1_0 h1_1 h1_2 h2_0 h2_1 h2_2 h3 r H; unfold mat_Matrix_Clone.l1 at H; refine fb ?_; refine w_loop ?_; refine sr fun K hK => ?_; refine o_ ?_; refine nk hK ?_; refine w_seq ?_; rcases its H with ⟨c3, H⟩ | ⟨c3, H⟩
   ·refine dT c3 ?_; refine wT ?_; refine sk ?_; refine w_seq ?_; refine w_block ?_; refine sr fun K hK => ?_; refine o_ ?_; refine nk hK ?_; refine wD fun K hK => ?_; refine o_ ?_; obtain ⟨q4, hq4, H⟩ := bnd H; refine cs [] func15 (mat_Matrix_At.does hq4) ?_; obtain ⟨q5, hq5, H⟩ := bnd H; have zq5_0 := mat_Matrix_Set.len hq5
    (try simp only [List.length_set, List.length_replicate, List.length_append, List.length_cons, List.length_nil, Nat.zero_add] at zq5_0); refine cz [3] func21 (mat_Matrix_Set.does hq5) zq5_0.symm ?_; refine g_nil (hK _ _ _ (by kernel_rfl) ?_); refine k_block ?_; refine k_seq ?_; refine wR fun K hK => ?_; refine o_ ?_; refine nl hK ?_; refine k_loop ?_
    refine ww [0, 1, 2, 3] [1, 0, 0, 0, 7, 0, 3, 0] ?_; exact gi (ih1 i_4 t_12 t_13 t_17 (wrap64 (t_18 + 1)) h0_0 h0_1 h0_2 h0_3 h1_0 h1_1 h1_2 h2_0 h2_1 h2_2 q5 r H)
   ·refine dF c3 ?_; refine wF ?_; refine w_exit rfl ?_; refine k_block ?_; refine k_seq ?_; refine wR fun K hK => ?_; refine o_ ?_; refine nl hK ?_; refine k_loop ?_; refine ww [0, 1, 2, 3] [1, 0, 0, 8, 0] ?_; exact gi (ih0 t_12 (wrap64 (t_13 + 1)) h0_0 h0_1 h0_2 h0_3 h1_0 h1_1 h1_2 h2_0 h2_1 h2_2 h3 r H)
theorem mat_Matrix_Clone.does {k : Nat} {a0_0 a0_1 a0_2 : Int} {l0_3 : List Int} {r : Int × Int × Int × (List Int)} (H : mat_Matrix_Clone.f k a0_0 a0_1 a0_2 l0_3 = some r) : Do E0 (.fn 34 [.a [.i .i64 a0_0, .i .i64 a0_1, .i .i64 a0_2, .r (l0_3.map (V.i .u64)) l0_3.length true]] [] (.a [.i .i64 r.1, .i .i64 r.2.1, .i .i64 r.2.2.1, .s (some (0, 0)) r.2.2.2.length]) [.row (r.2.2.2.map (V.i .u64)) 2 1 true true none]) := by
 obtain ⟨ih0, ih1⟩ := @mat_Matrix_Clone.does_l a0_0 a0_1 a0_2 l0_3 k; refine fnw ((mat_Matrix_Clone.Q a0_0 a0_1 a0_2 l0_3 r)) func34 ntmps34 ?_; unfold mat_Matrix_Clone.f at H; refine sr fun K hK => ?_; refine o_ ?_; refine nksr hK fun K hK => ?_; refine o_ ?_; obtain ⟨q1, hq1, H⟩ := bnd H; refine cs [] func20 (mat_New.does hq1) ?_; refine o_ ?_; refine nk hK ?_; refine w_seq ?_
 refine sr fun K hK => ?_; refine o_ ?_; refine nk hK ?_; refine w_block ?_; refine ww [0, 4, 28, 24] [1, 0, 0, 8, 0] ?_; exact gi (ih0 q1.1 0 a0_0 a0_1 a0_2 l0_3 0 0 0 q1.1 q1.2.1 q1.2.2.1 q1.2.2.2 r H)
theorem sylv_greatest.does {k : Nat} {a0_0 a0_1 a0_2 : Int} {l0_3 : List Int} {a1_0 a1_1 a1_2 : Int} {l1_3 : List Int} {r : Int × Bool} (H : sylv_greatest.f k a0_0 a0_1 a0_2 l0_3 a1_0 a1_1 a1_2 l1_3 = some r) : Do E0 (.fn 28 [.a [.i .i64 a0_0, .i .i64 a0_1, .i .i64 a0_2, .r (l0_3.map (V.i .u64)) l0_3.length true], .a [.i .i64 a1_0, .i .i64 a1_1, .i .i64 a1_2, .r (l1_3.map (V.i .u64)) l1_3.length true]] [] (.t [.i .i64 r.1, .b r.2]) []) := by
 refine fnw ((sylv_greatest.Q a0_0 a0_1 a0_2 l0_3 a1_0 a1_1 a1_2 l1_3 r)) func28 ntmps28 ?_; unfold sylv_greatest.f at H; refine sr fun K hK => ?_; refine o_ ?_; refine nk hK ?_; refine w_seq ?_; refine wD fun K hK => ?_; refine o_ ?_; obtain ⟨q1, hq1, H⟩ := bnd H; refine cs [] func34 (mat_Matrix_Clone.does hq1) ?_; refine g_fx rfl rfl fx25_3 rfl (by rfl) (gT ?_); obtain ⟨c2, H⟩ := it1 H
 refine g_apns rfl rfl Tryd.underlying22 Tryd.underlying22 sz27 by27 zr27 rfl rfl rfl rfl (by unfold limit; omega) (by omega) (gU ?_); refine o_ ?_; obtain ⟨q3, hq3, H⟩ := bnd H; refine cs [] func34 (mat_Matrix_Clone.does hq3) ?_; refine g_fx rfl rfl fx25_3 rfl (by rfl) (gT ?_); obtain ⟨c4, H⟩ := it1 H
 refine g_aps rfl rfl Tryd.underlying22 Tryd.underlying22 sz27 by27 zr27 rfl rfl rfl rfl rfl rfl (by unfold limit; omega) (by omega) ?_; refine gN ?_; obtain ⟨q5, hq5, H⟩ := bnd H; refine cs [] func30 (vec_Power.does hq5) ?_; refine o_ ?_; refine g_nil (hK _ _ _ (by kernel_rfl) ?_); refine kt ?_; rw [← Option.some.inj H]; exact fw []
theorem word_Signals.does {k : Nat} {a0 : Int} {r : Bool} (H : word_Signals.f k a0 = some r) : Do E0 (.fn 52 [.i .u64 a0] [] (.b r) []) := by
 refine fnw ((word_Signals.Q a0 r)) func52 ntmps52 ?_; unfold word_Signals.f at H; refine sr fun K hK => ?_; refine o_ ?_; refine nksr hK fun K hK => ?_; refine o_ ?_; obtain ⟨q1, hq1, H⟩ := bnd H; refine cs [] func23 (word_Kind.does hq1) ?_; refine o_ ?_; rcases its H with ⟨c2, H⟩ | ⟨c2, H⟩
 ·refine dE c2 ?_; refine o_ ?_; refine g_shrc (p := 2251799813685248) rfl rfl rfl rfl de_ (by rfl) (gT ?_); refine o_ ?_; refine nkt hK ?_; rw [← Option.some.inj H]; exact fw []
 ·refine dN c2 ?_; refine o_ ?_; refine nkt hK ?_; rw [← Option.some.inj H]; exact fw []
theorem wide_Wide_Zero.does {a0_0 a0_1 : Int} {r : Bool} (H : wide_Wide_Zero.f a0_0 a0_1 = some r) : Do E0 (.fn 64 [.a [.i .u64 a0_0, .i .u64 a0_1]] [] (.b r) []) := by
 refine fnw ((wide_Wide_Zero.Q a0_0 a0_1 r)) func64 ntmps64 ?_; unfold wide_Wide_Zero.f at H; refine sr fun K hK => ?_; refine o_ ?_; refine nksr hK fun K hK => ?_; refine o_ ?_; refine nkt hK ?_; rw [← Option.some.inj H]; exact fw []
theorem word_Make.does {a0 : Bool} {a1 a2 r : Int} (H : word_Make.f a0 a1 a2 = some r) : Do E0 (.fn 65 [.b a0, .i .i64 a1, .i .u64 a2] [] (.i .u64 r) []) := by
 refine fnw ((word_Make.Q a0 a1 a2 r)) func65 ntmps65 ?_; unfold word_Make.f at H; refine sr fun K hK => ?_; refine o_ ?_; refine nksr hK fun K hK => ?_; refine o_ ?_; refine g_conv rfl rfl Tryd.underlying3 Tryd.underlying27 rfl (gT ?_); refine o_ ?_; refine g_shlc (p := 4503599627370496) rfl rfl rfl rfl de_ (by rfl) (gT ?_); refine o_ ?_; refine nk hK ?_; refine w_seq ?_; refine sr fun K hK => ?_
 refine o_ ?_; refine nk hK ?_; rcases its H with ⟨c1, H⟩ | ⟨c1, H⟩
 ·refine dV c1 ?_; refine wT ?_; refine wR fun K hK => ?_; refine o_ ?_; refine nksr hK fun K hK => ?_; refine o_ ?_; refine nkt hK ?_; rw [← Option.some.inj H]; exact fw []
 ·refine dW c1 ?_; refine wF ?_; refine sk ?_; refine sr fun K hK => ?_; refine o_ ?_; refine nkt hK ?_; rw [← Option.some.inj H]; exact fw []
theorem bits_Len64.does_l {a0 : Int} (k : Nat) : (∀ (x_0 n_2 r : Int), bits_Len64.j0 k x_0 n_2 = some r → kont E0 (bits_Len64.Q a0 r) (frs (bodyOf Tryd.f78) [1, 0, 1] []) .normal ⟨.i .u64 x_0 :: .u :: .i .i64 n_2 :: u_ 22 ([]), ofL [], 0, 0⟩) := by
 induction k with
 | zero => exact by intros; simp [bits_Len64.j0] at *
 | succ k ih =>
  have ih0 := ih
  refine ?_
  ·intro x_0 n_2 r H; unfold bits_Len64.j0 at H; refine fb ?_; refine k_seq ?_; refine w_seq ?_; refine sr fun K hK => ?_; refine o_ ?_; refine nk hK ?_; rcases its H with ⟨c2, H⟩ | ⟨c2, H⟩
   ·refine dT c2 ?_; refine wT ?_; refine sr fun K hK => ?_; refine o_ ?_; refine g_shrc (p := 65536) rfl rfl rfl rfl de_ (by rfl) (gT ?_); refine o_ ?_; refine nk hK ?_; refine wR fun K hK => ?_; refine o_ ?_; refine nk hK ?_; refine w_seq ?_; refine sr fun K hK => ?_; refine o_ ?_; refine nk hK ?_; rcases its H with ⟨c3, H⟩ | ⟨c3, H⟩
    ·refine dT c3 ?_; refine wT ?_; refine sr fun K hK => ?_; refine o_ ?_; refine g_shrc (p := 256) rfl rfl rfl rfl de_ (by rfl) (gT ?_); refine o_ ?_; refine nk hK ?_; refine wR fun K hK => ?_; refine o_ ?_; refine nksr hK fun K hK => ?_; refine o_ ?_; refine g_conv rfl rfl Tryd.underlying27 Tryd.underlying5 rfl (gT ?_); obtain ⟨c4, H⟩ := it1 H; obtain ⟨c5, H⟩ := it1 H
     refine g_ixt rfl rfl Tryd.underlying9 rfl rfl ao_ (by show _ < 256; omega) (v := bt _ _) (bt_at _ _ _) (gT ?_); refine g_conv rfl rfl Tryd.underlying5 Tryd.underlying3 rfl (gT ?_); refine o_ ?_; refine nkt hK ?_; rw [← Option.some.inj H]; exact fw []
    ·refine dF c3 ?_; refine wF ?_; refine sk ?_; refine sr fun K hK => ?_; refine o_ ?_; refine g_conv rfl rfl Tryd.underlying27 Tryd.underlying5 rfl (gT ?_); obtain ⟨c6, H⟩ := it1 H; obtain ⟨c7, H⟩ := it1 H; refine g_ixt rfl rfl Tryd.underlying9 rfl rfl ao_ (by show _ < 256; omega) (v := bt _ _) (bt_at _ _ _) (gT ?_); refine g_conv rfl rfl Tryd.underlying5 Tryd.underlying3 rfl (gT ?_); refine o_ ?_
     refine nkt hK ?_; rw [← Option.some.inj H]; exact fw []
   ·refine dF c2 ?_; refine wF ?_; refine sk ?_; refine w_seq ?_; refine sr fun K hK => ?_; refine o_ ?_; refine nk hK ?_; rcases its H with ⟨c8, H⟩ | ⟨c8, H⟩
    ·refine dT c8 ?_; refine wT ?_; refine sr fun K hK => ?_; refine o_ ?_; refine g_shrc (p := 256) rfl rfl rfl rfl de_ (by rfl) (gT ?_); refine o_ ?_; refine nk hK ?_; refine wR fun K hK => ?_; refine o_ ?_; refine nksr hK fun K hK => ?_; refine o_ ?_; refine g_conv rfl rfl Tryd.underlying27 Tryd.underlying5 rfl (gT ?_); obtain ⟨c9, H⟩ := it1 H; obtain ⟨c10, H⟩ := it1 H
     refine g_ixt rfl rfl Tryd.underlying9 rfl rfl ao_ (by show _ < 256; omega) (v := bt _ _) (bt_at _ _ _) (gT ?_); refine g_conv rfl rfl Tryd.underlying5 Tryd.underlying3 rfl (gT ?_); refine o_ ?_; refine nkt hK ?_; rw [← Option.some.inj H]; exact fw []
    ·refine dF c8 ?_; refine wF ?_; refine sk ?_; refine sr fun K hK => ?_; refine o_ ?_; refine g_conv rfl rfl Tryd.underlying27 Tryd.underlying5 rfl (gT ?_); obtain ⟨c11, H⟩ := it1 H; obtain ⟨c12, H⟩ := it1 H; refine g_ixt rfl rfl Tryd.underlying9 rfl rfl ao_ (by show _ < 256; omega) (v := bt _ _) (bt_at _ _ _) (gT ?_); refine g_conv rfl rfl Tryd.underlying5 Tryd.underlying3 rfl (gT ?_); refine o_ ?_
     refine nkt hK ?_; rw [← Option.some.inj H]; exact fw []
theorem bits_Len64.does {k : Nat} {a0 r : Int} (H : bits_Len64.f k a0 = some r) : Do E0 (.fn 78 [.i .u64 a0] [] (.i .i64 r) []) := by
 obtain ih0 := @bits_Len64.does_l a0 k; refine fnw ((bits_Len64.Q a0 r)) func78 ntmps78 ?_; unfold bits_Len64.f at H; refine sr fun K hK => ?_; refine o_ ?_; refine nk hK ?_; refine w_seq ?_; refine sr fun K hK => ?_; refine o_ ?_; refine nk hK ?_; rcases its H with ⟨c1, H⟩ | ⟨c1, H⟩
 ·refine dT c1 ?_; refine wT ?_; refine sr fun K hK => ?_; refine o_ ?_; refine g_shrc (p := 4294967296) rfl rfl rfl rfl de_ (by rfl) (gT ?_); refine o_ ?_; refine nk hK ?_; refine wR fun K hK => ?_; refine o_ ?_; refine nl hK ?_; refine kw [] [0, 1] ?_; exact gi (ih0 (a0 / 4294967296) 32 r H)
 ·refine dF c1 ?_; refine wF ?_; refine w_skip ?_; refine kw [] [0, 1] ?_; exact gi (ih0 a0 0 r H)
theorem wide_Wide_Len.does {k : Nat} {a0_0 a0_1 r : Int} (H : wide_Wide_Len.f k a0_0 a0_1 = some r) : Do E0 (.fn 66 [.a [.i .u64 a0_0, .i .u64 a0_1]] [] (.i .i64 r) []) := by
 refine fnw ((wide_Wide_Len.Q a0_0 a0_1 r)) func66 ntmps66 ?_; unfold wide_Wide_Len.f at H; refine sr fun K hK => ?_; refine o_ ?_; refine nk hK ?_; refine w_seq ?_; refine sr fun K hK => ?_; refine o_ ?_; refine nk hK ?_; rcases its H with ⟨c1, H⟩ | ⟨c1, H⟩
 ·refine dE c1 ?_; refine wF ?_; refine sk ?_; refine sr fun K hK => ?_; refine o_ ?_; obtain ⟨q2, hq2, H⟩ := bnd H; refine cs [] func78 (bits_Len64.does hq2) ?_; refine o_ ?_; refine nkt hK ?_; rw [← Option.some.inj H]; exact fw []
 ·refine dN c1 ?_; refine wT ?_; refine sr fun K hK => ?_; refine o_ ?_; obtain ⟨q3, hq3, H⟩ := bnd H; refine cs [] func78 (bits_Len64.does hq3) ?_; refine o_ ?_; refine nkt hK ?_; rw [← Option.some.inj H]; exact fw []
theorem wide_Wide_Left.does {a0_0 a0_1 a1 : Int} {r : Int × Int} (H : wide_Wide_Left.f a0_0 a0_1 a1 = some r) : Do E0 (.fn 70 [.a [.i .u64 a0_0, .i .u64 a0_1], .i .i64 a1] [] (.a [.i .u64 r.1, .i .u64 r.2]) []) := by
 refine fnw ((wide_Wide_Left.Q a0_0 a0_1 a1 r)) func70 ntmps70 ?_; unfold wide_Wide_Left.f at H; refine sr fun K hK => ?_; refine o_ ?_; refine nk hK ?_; refine w_seq ?_; refine w_block ?_; refine sr fun K hK => ?_; refine o_ ?_; refine nk hK ?_; rcases its H with ⟨c1, H⟩ | ⟨c1, H⟩
 ·refine dT c1 ?_; refine wT ?_; refine sr fun K hK => ?_; refine o_ ?_; refine nkt hK ?_; rw [← Option.some.inj H]; exact fw []
 ·refine dF c1 ?_; refine wF ?_; refine sr fun K hK => ?_; refine o_ ?_; refine nk hK ?_; rcases its H with ⟨c2, H⟩ | ⟨c2, H⟩
  ·refine dT c2 ?_; refine wT ?_; refine sr fun K hK => ?_; refine g_bd rfl rfl zr93 Tryd.underlying93 (pl := [(0, 1), (1, 1)]) (by kernel_rfl) ?_; refine gB ?_; refine o_ ?_; refine nkt hK ?_; rw [← Option.some.inj H]; exact fw []
  ·refine dF c2 ?_; refine wF ?_; refine sr fun K hK => ?_; refine o_ ?_; refine nk hK ?_; rcases its H with ⟨c3, H⟩ | ⟨c3, H⟩
   ·refine dT c3 ?_; refine wT ?_; refine sr fun K hK => ?_; refine o_ ?_; obtain ⟨c4, H⟩ := it1 H; refine g_shl rfl rfl rfl rfl (by omega) (gT ?_); refine g_bd rfl rfl zr93 Tryd.underlying93 (pl := [(0, 1), (1, 1)]) (by kernel_rfl) ?_; refine gB ?_; refine o_ ?_; refine nkt hK ?_; rw [← Option.some.inj H]; exact fw []
   ·refine dF c3 ?_; refine wF ?_; refine w_skip ?_; refine k_block ?_; refine k_seq ?_; refine w_seq ?_; refine wD fun K hK => ?_; refine o_ ?_; obtain ⟨c5, H⟩ := it1 H; refine g_shl rfl rfl rfl rfl (by omega) (gT ?_); refine o_ ?_; obtain ⟨c6, H⟩ := it1 H; refine g_shr rfl rfl rfl rfl (by omega) (gT ?_); refine o_ ?_; refine g_shl rfl rfl rfl rfl (by omega) (gT ?_)
    refine g_bd rfl rfl zr93 Tryd.underlying93 (pl := [(0, 1), (1, 1)]) (by kernel_rfl) ?_; refine gB ?_; refine o_ ?_; refine g_nil (hK _ _ _ (by kernel_rfl) ?_); refine kt ?_; rw [← Option.some.inj H]; exact fw []
theorem wide_Wide_Right.does_l {a0_0 a0_1 a1 : Int} (k : Nat) : (∀ (n_1 h0_0 h0_1 h1_0 h1_1 h2_0 h2_1 : Int) (r : Int × Int × Bool), wide_Wide_Right.j0 k n_1 h0_0 h0_1 h2_0 h2_1 = some r → kont E0 (wide_Wide_Right.Q a0_0 a0_1 a1 r) (frs (bodyOf Tryd.f67) [1, 1, 0] []) .normal ⟨.u :: .i .i64 n_1 :: .p (some (0, 0)) :: .u :: .p (some (1, 0)) :: .u :: .p (some (2, 0)) :: u_ 46 ([]), ofL [.row [.i .u64 h0_0, .i .u64 h0_1] 0 0 true true none, .row [.i .u64 h1_0, .i .u64 h1_1] 0 0 true true none, .row [.i .u64 h2_0, .i .u64 h2_1] 0 0 true true none], 3, 0⟩) := by
 induction k with
 | zero => exact by intros; simp [wide_Wide_Right.j0] at *
 | succ k ih =>
  have ih0 := ih
  refine ?_
  ·intro n_1 h0_0 h0_1 h1_0 h1_1 h2_0 h2_1 r H; unfold wide_Wide_Right.j0 at H; refine fb ?_; refine k_seq ?_; refine w_seq ?_; refine wD fun K hK => ?_; refine o_ ?_; obtain ⟨q7, hq7, H⟩ := bnd H; refine cs [] func70 (wide_Wide_Left.does hq7) ?_; refine o_ ?_
   refine g_same rfl rfl (c := .b (!(q7.1 == h0_0) || (!(q7.2 == h0_1)))) (by simp only [nrm]; (try simp only [Int.toNat_zero, Int.toNat_one, Nat.zero_mul, Nat.one_mul, Nat.reduceMul, List.drop_succ_cons, List.drop_zero, List.take_succ_cons, List.take_zero]); simp only [binV, eqs93, Go.Rk.Rd.of, Go.Rk.Rd.bind, Bool.and_true, Bool.not_and]) (gT ?_); refine o_ ?_; rcases its H with ⟨c8, H⟩ | ⟨c8, H⟩
   ·refine dV c8 ?_; refine o_ ?_; refine g_nil (hK _ _ _ (by kernel_rfl) ?_); refine kt ?_; rw [← Option.some.inj H]; exact fw []
   ·refine dW c8 ?_; refine o_ ?_; rcases its H with ⟨c9, H⟩ | ⟨c9, H⟩
    ·refine dT c9 ?_; refine o_ ?_; obtain ⟨q10, hq10, H⟩ := bnd H; refine cs [] func64 (wide_Wide_Zero.does hq10) ?_; refine o_ ?_; refine g_nil (hK _ _ _ (by kernel_rfl) ?_); refine kt ?_; rw [← Option.some.inj H]; exact fw []
    ·refine dF c9 ?_; refine o_ ?_; refine g_nil (hK _ _ _ (by kernel_rfl) ?_); refine kt ?_; rw [← Option.some.inj H]; exact fw []
theorem wide_Wide_Right.does {k : Nat} {a0_0 a0_1 a1 : Int} {r : Int × Int × Bool} (H : wide_Wide_Right.f k a0_0 a0_1 a1 = some r) : Do E0 (.fn 67 [.a [.i .u64 a0_0, .i .u64 a0_1], .i .i64 a1] [] (.t [.a [.i .u64 r.1, .i .u64 r.2.1], .b r.2.2]) []) := by
 obtain ih0 := @wide_Wide_Right.does_l a0_0 a0_1 a1 k; refine fnw ((wide_Wide_Right.Q a0_0 a0_1 a1 r)) func67 ntmps67 ?_; unfold wide_Wide_Right.f at H; refine sr fun K hK => ?_; refine o_ ?_; refine nksr hK fun K hK => ?_; refine o_ ?_; refine nk hK ?_; refine w_seq ?_; refine w_block ?_; refine sr fun K hK => ?_; refine o_ ?_; refine nk hK ?_; rcases its H with ⟨c1, H⟩ | ⟨c1, H⟩
 ·refine dT c1 ?_; refine wT ?_; refine sr fun K hK => ?_; refine o_ ?_; refine nkt hK ?_; rw [← Option.some.inj H]; exact fw []
 ·refine dF c1 ?_; refine wF ?_; refine sr fun K hK => ?_; refine o_ ?_; refine nk hK ?_; rcases its H with ⟨c2, H⟩ | ⟨c2, H⟩
  ·refine dT c2 ?_; refine wT ?_; refine w_skip ?_; refine k_block ?_; refine kw [0, 4, 12] [1, 0, 1, 1] ?_; exact gi (ih0 a1 a0_0 a0_1 0 0 0 0 r H)
  ·refine dF c2 ?_; refine wF ?_; refine sr fun K hK => ?_; refine o_ ?_; refine nk hK ?_; rcases its H with ⟨c3, H⟩ | ⟨c3, H⟩
   ·refine dT c3 ?_; refine wT ?_; refine wR fun K hK => ?_; refine o_ ?_; obtain ⟨c4, H⟩ := it1 H; refine g_shr rfl rfl rfl rfl (by omega) (gT ?_); refine g_bd rfl rfl zr93 Tryd.underlying93 (pl := [(0, 1), (1, 1)]) (by kernel_rfl) ?_; refine gB ?_; refine o_ ?_; refine nl hK ?_; refine k_block ?_; refine kw [0, 4, 12] [1, 0, 1, 1] ?_
    exact gi (ih0 a1 a0_0 a0_1 0 0 0 (shr .u64 a0_0 (wrap64 (a1 - 64))) r H)
   ·refine dF c3 ?_; refine wF ?_; refine wD fun K hK => ?_; refine o_ ?_; obtain ⟨c5, H⟩ := it1 H; refine g_shr rfl rfl rfl rfl (by omega) (gT ?_); refine o_ ?_; obtain ⟨c6, H⟩ := it1 H; refine g_shl rfl rfl rfl rfl (by omega) (gT ?_); refine o_ ?_; refine g_shr rfl rfl rfl rfl (by omega) (gT ?_); refine o_ ?_
    refine g_bd rfl rfl zr93 Tryd.underlying93 (pl := [(0, 1), (1, 1)]) (by kernel_rfl) ?_; refine gB ?_; refine o_ ?_; refine g_nil (hK _ _ _ (by kernel_rfl) ?_); refine k_block ?_; refine kw [0, 4, 12] [1, 0, 1, 1] ?_; exact gi (ih0 a1 a0_0 a0_1 0 0 (shr .u64 a0_0 a1) (Go.bits .or .u64 (shl .u64 a0_0 (wrap64 (64 - a1))) (shr .u64 a0_1 a1)) r H)
theorem round_split.does {k : Nat} {a0_0 a0_1 a1 : Int} {a2 : Bool} {r : Bool × Bool} (H : round_split.f k a0_0 a0_1 a1 a2 = some r) : Do E0 (.fn 68 [.a [.i .u64 a0_0, .i .u64 a0_1], .i .i64 a1, .b a2] [] (.t [.b r.1, .b r.2]) []) := by
 refine fnw ((round_split.Q a0_0 a0_1 a1 a2 r)) func68 ntmps68 ?_; unfold round_split.f at H; refine sr fun K hK => ?_; refine o_ ?_; refine nk hK ?_; refine w_seq ?_; refine sr fun K hK => ?_; refine o_ ?_; refine nk hK ?_; rcases its H with ⟨c1, H⟩ | ⟨c1, H⟩
 ·refine dT c1 ?_; refine wT ?_; refine sr fun K hK => ?_; refine o_ ?_; refine nkt hK ?_; rw [← Option.some.inj H]; exact fw []
 ·refine dF c1 ?_; refine wF ?_; refine sk ?_; refine sr fun K hK => ?_; refine o_ ?_; obtain ⟨q2, hq2, H⟩ := bnd H; refine cs [] func67 (wide_Wide_Right.does hq2) ?_; refine o_ ?_; refine nksr hK fun K hK => ?_; refine o_ ?_; refine nksr hK fun K hK => ?_; refine o_ ?_; refine nkt hK ?_; rw [← Option.some.inj H]; exact fw []
theorem wide_Wide_Add.does {a0_0 a0_1 a1_0 a1_1 : Int} {r : Int × Int × Bool} (H : wide_Wide_Add.f a0_0 a0_1 a1_0 a1_1 = some r) : Do E0 (.fn 69 [.a [.i .u64 a0_0, .i .u64 a0_1], .a [.i .u64 a1_0, .i .u64 a1_1]] [] (.t [.a [.i .u64 r.1, .i .u64 r.2.1], .b r.2.2]) []) := by
 refine fnw ((wide_Wide_Add.Q a0_0 a0_1 a1_0 a1_1 r)) func69 ntmps69 ?_; unfold wide_Wide_Add.f at H; refine sr fun K hK => ?_; refine o_ ?_; refine nksr hK fun K hK => ?_; refine o_ ?_; obtain ⟨q1, hq1, H⟩ := bnd H; refine g_ex rfl rfl Tryd.func79 rfl (bits_Add64.ext hq1) (gT ?_); refine o_ ?_; refine nksr hK fun K hK => ?_; refine o_ ?_; obtain ⟨q2, hq2, H⟩ := bnd H
 refine g_ex rfl rfl Tryd.func79 rfl (bits_Add64.ext hq2) (gT ?_); refine o_ ?_; refine nksr hK fun K hK => ?_; refine o_ ?_; refine g_bd rfl rfl zr93 Tryd.underlying93 (pl := [(0, 1), (1, 1)]) (by kernel_rfl) ?_; refine gB ?_; refine o_ ?_; refine nkt hK ?_; rw [← Option.some.inj H]; exact fw []
theorem round_Round.does_l {a0 : Bool} {a1_0 a1_1 a2 : Int} {a3 : Bool} (k : Nat) : (∀ (neg_0 : Bool) (exp_2 : Int) (more_3 : Bool) (drop_10 : Int) (tiny_11 : Bool) (h0_0 h0_1 : Int) (r : Int × Int), round_Round.j0 k neg_0 exp_2 more_3 drop_10 tiny_11 h0_0 h0_1 = some r → kont E0 (round_Round.Q a0 a1_0 a1_1 a2 a3 r) (frs (bodyOf Tryd.f53) [1, 1, 1, 1, 1, 0, 1] []) .normal ⟨.b neg_0 :: .u :: .i .i64 exp_2 :: .b more_3 :: .u :: .p (some (0, 0)) :: u_ 4 (.i .i64 drop_10 :: .b tiny_11 :: u_ 129 ([])), ofL [.row [.i .u64 h0_0, .i .u64 h0_1] 0 0 true true none], 1, 0⟩) ∧
    (∀ (neg_0 : Bool) (exp_2 : Int) (more_3 : Bool) (drop_10 : Int) (tiny_11 lost_12 half_13 fell_15 : Bool) (h0_0 h0_1 h1_0 h1_1 : Int) (r : Int × Int), round_Round.j1 k neg_0 exp_2 more_3 drop_10 tiny_11 lost_12 half_13 fell_15 h1_0 h1_1 = some r → kont E0 (round_Round.Q a0 a1_0 a1_1 a2 a3 r) (frs (bodyOf Tryd.f53) [1, 1, 1, 1, 1, 1, 1, 0, 1, 0, 1, 1, 1, 0] []) .normal ⟨.b neg_0 :: .u :: .i .i64 exp_2 :: .b more_3 :: .u :: .p (some (0, 0)) :: u_ 4 (.i .i64 drop_10 :: .b tiny_11 :: .b lost_12 :: .b half_13 :: .p (some (1, 0)) :: .b fell_15 :: u_ 125 ([])), ofL [.row [.i .u64 h0_0, .i .u64 h0_1] 0 0 true true none, .row [.i .u64 h1_0, .i .u64 h1_1] 0 0 true true none], 2, 0⟩) ∧
    (∀ (neg_0 : Bool) (exp_2 drop_10 : Int) (tiny_11 lost_12 t_91 : Bool) (h0_0 h0_1 : Int) (r : Int × Int), round_Round.j3 k neg_0 exp_2 drop_10 tiny_11 lost_12 t_91 h0_0 h0_1 = some r → kont E0 (round_Round.Q a0 a1_0 a1_1 a2 a3 r) (frs (bodyOf Tryd.f53) [1, 1, 1, 1, 1, 1, 1, 0, 1, 1, 0] []) .normal ⟨.b neg_0 :: .u :: .i .i64 exp_2 :: .u :: .u :: .p (some (0, 0)) :: u_ 4 (.i .i64 drop_10 :: .b tiny_11 :: .b lost_12 :: u_ 78 (.b t_91 :: u_ 49 ([]))), ofL [.row [.i .u64 h0_0, .i .u64 h0_1] 0 0 true true none], 1, 0⟩) ∧
    (∀ (neg_0 : Bool) (exp_2 drop_10 : Int) (tiny_11 lost_12 t_79 : Bool) (h0_0 h0_1 : Int) (r : Int × Int), round_Round.j2 k neg_0 exp_2 drop_10 tiny_11 lost_12 t_79 h0_0 h0_1 = some r → kont E0 (round_Round.Q a0 a1_0 a1_1 a2 a3 r) (frs (bodyOf Tryd.f53) [1, 1, 1, 1, 1, 1, 1, 0, 1, 0, 1, 1, 1, 1, 1, 0] []) .normal ⟨.b neg_0 :: .u :: .i .i64 exp_2 :: .u :: .u :: .p (some (0, 0)) :: u_ 4 (.i .i64 drop_10 :: .b tiny_11 :: .b lost_12 :: u_ 66 (.b t_79 :: u_ 61 ([]))), ofL [.row [.i .u64 h0_0, .i .u64 h0_1] 0 0 true true none], 1, 0⟩) ∧
    (∀ (neg_0 : Bool) (exp_2 drop_10 : Int) (tiny_11 lost_12 : Bool) (h0_0 h0_1 : Int) (r : Int × Int), round_Round.j4 k neg_0 exp_2 drop_10 tiny_11 lost_12 h0_0 h0_1 = some r → kont E0 (round_Round.Q a0 a1_0 a1_1 a2 a3 r) (frs (bodyOf Tryd.f53) [1, 1, 1, 1, 1, 1, 1, 0, 1] []) .normal ⟨.b neg_0 :: .u :: .i .i64 exp_2 :: .u :: .u :: .p (some (0, 0)) :: u_ 4 (.i .i64 drop_10 :: .b tiny_11 :: .b lost_12 :: u_ 128 ([])), ofL [.row [.i .u64 h0_0, .i .u64 h0_1] 0 0 true true none], 1, 0⟩) ∧
    (∀ (neg_0 : Bool) (exp_2 : Int) (tiny_11 lost_12 : Bool) (m_16 : Int) (r : Int × Int), round_Round.j5 k neg_0 exp_2 tiny_11 lost_12 m_16 = some r → kont E0 (round_Round.Q a0 a1_0 a1_1 a2 a3 r) (frs (bodyOf Tryd.f53) [1, 1, 1, 1, 1, 1, 1, 1, 1, 1, 0, 1] []) .normal ⟨.b neg_0 :: .u :: .i .i64 exp_2 :: u_ 8 (.b tiny_11 :: .b lost_12 :: u_ 3 (.i .u64 m_16 :: u_ 124 ([]))), ofL [], 0, 0⟩) ∧
    (∀ (neg_0 : Bool) (exp_2 m_16 f_17 : Int) (r : Int × Int), round_Round.j6 k neg_0 exp_2 m_16 f_17 = some r → kont E0 (round_Round.Q a0 a1_0 a1_1 a2 a3 r) (frs (bodyOf Tryd.f53) [1, 1, 1, 1, 1, 1, 1, 1, 1, 1, 1, 1, 0, 1] []) .normal ⟨.b neg_0 :: .u :: .i .i64 exp_2 :: u_ 13 (.i .u64 m_16 :: .i .u8 f_17 :: u_ 123 ([])), ofL [], 0, 0⟩) := by
 induction k with
 | zero => exact ⟨by intros; simp [round_Round.j0] at *, by intros; simp [round_Round.j1] at *, by intros; simp [round_Round.j3] at *, by intros; simp [round_Round.j2] at *, by intros; simp [round_Round.j4] at *, by intros; simp [round_Round.j5] at *, by intros; simp [round_Round.j6] at *⟩
 | succ k ih =>
  obtain ⟨ih0, ih1, ih2, ih3, ih4, ih5, ih6⟩ := ih
  refine ⟨?_, ?_, ?_, ?_, ?_, ?_, ?_⟩
  ·intro neg_0 exp_2 more_3 drop_10 tiny_11 h0_0 h0_1 r H; unfold round_Round.j0 at H; refine fb ?_; refine ksr fun K hK => ?_; refine o_ ?_; refine nk hK ?_; refine w_seq ?_; refine sr fun K hK => ?_; refine o_ ?_; refine nk hK ?_; rcases its H with ⟨c9, H⟩ | ⟨c9, H⟩
   ·refine dT c9 ?_; refine wT ?_; refine sr fun K hK => ?_; refine o_ ?_; refine nksr hK fun K hK => ?_; refine o_ ?_; obtain ⟨q10, hq10, H⟩ := bnd H; refine cs [] func67 (wide_Wide_Right.does hq10) ?_; refine o_ ?_; refine nksr hK fun K hK => ?_; refine o_ ?_; obtain ⟨q11, hq11, H⟩ := bnd H; refine cs [] func68 (round_split.does hq11) ?_; refine o_ ?_; refine nksr hK fun K hK => ?_; refine o_ ?_
    rcases its H with ⟨c12, H⟩ | ⟨c12, H⟩
    ·refine dV c12 ?_; refine o_ ?_; refine nl hK ?_; refine kw [0, 45] [0, 1, 0, 1, 4, 0, 0, 0, 0, 0] ?_; exact gi (ih1 neg_0 exp_2 more_3 drop_10 tiny_11 true true q11.2 h0_0 h0_1 q10.1 q10.2.1 r H)
    ·refine dW c12 ?_; refine o_ ?_; rcases its H with ⟨c13, H⟩ | ⟨c13, H⟩
     ·refine dV c13 ?_; refine o_ ?_; refine nl hK ?_; refine kw [0, 45] [0, 1, 0, 1, 4, 0, 0, 0, 0, 0] ?_; exact gi (ih1 neg_0 exp_2 more_3 drop_10 tiny_11 true false true h0_0 h0_1 q10.1 q10.2.1 r H)
     ·refine dW c13 ?_; refine o_ ?_; refine nl hK ?_; refine kw [0, 45] [0, 1, 0, 1, 4, 0, 0, 0, 0, 0] ?_; exact gi (ih1 neg_0 exp_2 more_3 drop_10 tiny_11 more_3 false false h0_0 h0_1 q10.1 q10.2.1 r H)
   ·refine dF c9 ?_; refine wF ?_; refine sr fun K hK => ?_; refine o_ ?_; rcases its H with ⟨c14, H⟩ | ⟨c14, H⟩
    ·refine dT c14 ?_; refine o_ ?_; refine nl hK ?_; refine kw [0] [0, 1, 2, 4, 0, 0, 78] ?_; exact gi (ih2 neg_0 exp_2 drop_10 tiny_11 more_3 (!more_3) h0_0 h0_1 r H)
    ·refine dF c14 ?_; refine o_ ?_; refine nl hK ?_; refine kw [0] [0, 1, 2, 4, 0, 0, 78] ?_; exact gi (ih2 neg_0 exp_2 drop_10 tiny_11 more_3 false h0_0 h0_1 r H)
  ·intro neg_0 exp_2 more_3 drop_10 tiny_11 lost_12 half_13 fell_15 h0_0 h0_1 h1_0 h1_1 r H; unfold round_Round.j1 at H; refine fb ?_; refine ksr fun K hK => ?_; refine o_ ?_; refine nksr hK fun K hK => ?_; refine o_ ?_; rcases its H with ⟨c15, H⟩ | ⟨c15, H⟩
   ·refine dV c15 ?_; refine o_ ?_; rcases its H with ⟨c16, H⟩ | ⟨c16, H⟩
    ·refine dV c16 ?_; refine o_ ?_; refine nl hK ?_; refine kw [0] [0, 1, 2, 4, 0, 0, 66] ?_; exact gi (ih3 neg_0 exp_2 drop_10 tiny_11 lost_12 true h1_0 h1_1 r H)
    ·refine dW c16 ?_; refine o_ ?_; rcases its H with ⟨c17, H⟩ | ⟨c17, H⟩
     ·refine dV c17 ?_; refine o_ ?_; refine nl hK ?_; refine kw [0] [0, 1, 2, 4, 0, 0, 66] ?_; exact gi (ih3 neg_0 exp_2 drop_10 tiny_11 lost_12 true h1_0 h1_1 r H)
     ·refine dW c17 ?_; refine o_ ?_; refine nl hK ?_; refine kw [0] [0, 1, 2, 4, 0, 0, 66] ?_; exact gi (ih3 neg_0 exp_2 drop_10 tiny_11 lost_12 ((Go.bits .and .u64 h1_1 1) == 1) h1_0 h1_1 r H)
   ·refine dW c15 ?_; refine o_ ?_; refine nl hK ?_; refine kw [0] [0, 1, 2, 4, 0, 0, 66] ?_; exact gi (ih3 neg_0 exp_2 drop_10 tiny_11 lost_12 false h1_0 h1_1 r H)
  ·intro neg_0 exp_2 drop_10 tiny_11 lost_12 t_91 h0_0 h0_1 r H; unfold round_Round.j3 at H; refine fb ?_; refine k_seq ?_; rcases its H with ⟨c18, H⟩ | ⟨c18, H⟩
   ·refine dV c18 ?_; refine wT ?_; refine wR fun K hK => ?_; refine o_ ?_; obtain ⟨q19, hq19, H⟩ := bnd H; refine cs [] func70 (wide_Wide_Left.does hq19) ?_; refine o_ ?_; refine nl hK ?_; refine kw [0] [0, 1, 2, 4, 0, 0] ?_; exact gi (ih4 neg_0 exp_2 drop_10 tiny_11 lost_12 q19.1 q19.2 r H)
   ·refine dW c18 ?_; refine wF ?_; refine sr fun K hK => ?_; refine o_ ?_; refine nk hK ?_; rcases its H with ⟨c20, H⟩ | ⟨c20, H⟩
    ·refine dT c20 ?_; refine wT ?_; refine wR fun K hK => ?_; refine o_ ?_; obtain ⟨q21, hq21, H⟩ := bnd H; refine cs [] func70 (wide_Wide_Left.does hq21) ?_; refine o_ ?_; refine nl hK ?_; refine kw [0] [0, 1, 2, 4, 0, 0] ?_; exact gi (ih4 neg_0 exp_2 drop_10 tiny_11 lost_12 q21.1 q21.2 r H)
    ·refine dF c20 ?_; refine wF ?_; refine w_skip ?_; refine kw [0] [0, 1, 2, 4, 0, 0] ?_; exact gi (ih4 neg_0 exp_2 drop_10 tiny_11 lost_12 h0_0 h0_1 r H)
  ·intro neg_0 exp_2 drop_10 tiny_11 lost_12 t_79 h0_0 h0_1 r H; unfold round_Round.j2 at H; refine fb ?_; refine k_seq ?_; rcases its H with ⟨c22, H⟩ | ⟨c22, H⟩
   ·refine dV c22 ?_; refine wT ?_; refine wR fun K hK => ?_; refine o_ ?_; refine g_bd rfl rfl zr93 Tryd.underlying93 (pl := [(0, 1), (1, 1)]) (by kernel_rfl) ?_; refine gB ?_; obtain ⟨q23, hq23, H⟩ := bnd H; refine cs [] func69 (wide_Wide_Add.does hq23) ?_; refine o_ ?_; refine nl hK ?_; refine kw [0] [0, 1, 2, 4, 0, 0] ?_; exact gi (ih4 neg_0 exp_2 drop_10 tiny_11 lost_12 q23.1 q23.2.1 r H)
   ·refine dW c22 ?_; refine wF ?_; refine w_skip ?_; refine kw [0] [0, 1, 2, 4, 0, 0] ?_; exact gi (ih4 neg_0 exp_2 drop_10 tiny_11 lost_12 h0_0 h0_1 r H)
  ·intro neg_0 exp_2 drop_10 tiny_11 lost_12 h0_0 h0_1 r H; unfold round_Round.j4 at H; refine fb ?_; refine ksr fun K hK => ?_; refine o_ ?_; refine nksr hK fun K hK => ?_; refine o_ ?_; refine nk hK ?_; refine w_seq ?_; refine sr fun K hK => ?_; refine o_ ?_; refine nk hK ?_; rcases its H with ⟨c24, H⟩ | ⟨c24, H⟩
   ·refine dE c24 ?_; refine wT ?_; refine wR fun K hK => ?_; refine o_ ?_; refine g_shrc (p := 2) rfl rfl rfl rfl de_ (by rfl) (gT ?_); refine o_ ?_; refine nl hK ?_; refine kw [] [0, 1, 8, 0, 3] ?_; exact gi (ih5 neg_0 (wrap64 ((wrap64 (exp_2 + drop_10)) + 1)) tiny_11 lost_12 (h0_1 / 2) r H)
   ·refine dN c24 ?_; refine wF ?_; refine w_skip ?_; refine kw [] [0, 1, 8, 0, 3] ?_; exact gi (ih5 neg_0 (wrap64 (exp_2 + drop_10)) tiny_11 lost_12 h0_1 r H)
  ·intro neg_0 exp_2 tiny_11 lost_12 m_16 r H; unfold round_Round.j5 at H; refine fb ?_; refine ksr fun K hK => ?_; refine o_ ?_; refine nk hK ?_; refine w_seq ?_; refine sr fun K hK => ?_; refine o_ ?_; refine nk hK ?_; rcases its H with ⟨c25, H⟩ | ⟨c25, H⟩
   ·refine dV c25 ?_; refine wT ?_; refine sr fun K hK => ?_; refine o_ ?_; refine nksr hK fun K hK => ?_; refine o_ ?_; refine nk hK ?_; rcases its H with ⟨c26, H⟩ | ⟨c26, H⟩
    ·refine dV c26 ?_; refine wT ?_; refine wR fun K hK => ?_; refine o_ ?_; refine nl hK ?_; refine kw [] [0, 1, 13, 0] ?_; exact gi (ih6 neg_0 exp_2 m_16 (Go.bits .or .u8 (Go.bits .or .u8 0 1) 2) r H)
    ·refine dW c26 ?_; refine wF ?_; refine w_skip ?_; refine kw [] [0, 1, 13, 0] ?_; exact gi (ih6 neg_0 exp_2 m_16 (Go.bits .or .u8 0 1) r H)
   ·refine dW c25 ?_; refine wF ?_; refine w_skip ?_; refine kw [] [0, 1, 13, 0] ?_; exact gi (ih6 neg_0 exp_2 m_16 0 r H)
  ·intro neg_0 exp_2 m_16 f_17 r H; unfold round_Round.j6 at H; refine fb ?_; refine k_seq ?_; refine w_seq ?_; refine w_block ?_; refine sr fun K hK => ?_; refine o_ ?_; refine nk hK ?_; rcases its H with ⟨c27, H⟩ | ⟨c27, H⟩
   ·refine dT c27 ?_; refine wT ?_; refine sr fun K hK => ?_; refine o_ ?_; obtain ⟨q28, hq28, H⟩ := bnd H; refine cs [] func65 (word_Make.does hq28) ?_; refine o_ ?_; refine nkt hK ?_; rw [← Option.some.inj H]; exact fw []
   ·refine dF c27 ?_; refine wF ?_; refine sr fun K hK => ?_; refine o_ ?_; refine nk hK ?_; rcases its H with ⟨c29, H⟩ | ⟨c29, H⟩
    ·refine dT c29 ?_; refine wT ?_; refine sr fun K hK => ?_; refine o_ ?_; obtain ⟨q30, hq30, H⟩ := bnd H; refine cs [] func65 (word_Make.does hq30) ?_; refine o_ ?_; refine nkt hK ?_; rw [← Option.some.inj H]; exact fw []
    ·refine dF c29 ?_; refine wF ?_; refine w_skip ?_; refine k_block ?_; refine ksr fun K hK => ?_; refine o_ ?_; obtain ⟨q31, hq31, H⟩ := bnd H; refine cs [] func65 (word_Make.does hq31) ?_; refine o_ ?_; refine nkt hK ?_; rw [← Option.some.inj H]; exact fw []
theorem round_Round.does {k : Nat} {a0 : Bool} {a1_0 a1_1 a2 : Int} {a3 : Bool} {r : Int × Int} (H : round_Round.f k a0 a1_0 a1_1 a2 a3 = some r) : Do E0 (.fn 53 [.b a0, .a [.i .u64 a1_0, .i .u64 a1_1], .i .i64 a2, .b a3] [] (.t [.i .u64 r.1, .i .u8 r.2]) []) := by
 obtain ⟨ih0, ih1, ih2, ih3, ih4, ih5, ih6⟩ := @round_Round.does_l a0 a1_0 a1_1 a2 a3 k; refine fnw ((round_Round.Q a0 a1_0 a1_1 a2 a3 r)) func53 ntmps53 ?_; unfold round_Round.f at H; refine sr fun K hK => ?_; refine o_ ?_; refine nksr hK fun K hK => ?_; refine o_ ?_; refine g_min rfl rfl rfl rfl (m := mn _ _) rfl (gT ?_); refine g_max rfl rfl rfl rfl (m := mx _ _) rfl (gT ?_); refine o_ ?_
 refine nk hK ?_; refine w_seq ?_; refine sr fun K hK => ?_; refine o_ ?_; obtain ⟨q1, hq1, H⟩ := bnd H; refine cs [] func64 (wide_Wide_Zero.does hq1) ?_; refine nk hK ?_; rcases its H with ⟨c2, H⟩ | ⟨c2, H⟩
 ·refine dV c2 ?_; refine wT ?_; refine w_seq ?_; refine sr fun K hK => ?_; refine o_ ?_; refine nk hK ?_; rcases its H with ⟨c3, H⟩ | ⟨c3, H⟩
  ·refine dV c3 ?_; refine wF ?_; refine sk ?_; refine sr fun K hK => ?_; refine o_ ?_; obtain ⟨q4, hq4, H⟩ := bnd H; refine cs [] func65 (word_Make.does hq4) ?_; refine o_ ?_; refine nkt hK ?_; rw [← Option.some.inj H]; exact fw []
  ·refine dW c3 ?_; refine wT ?_; refine sr fun K hK => ?_; refine o_ ?_; obtain ⟨q5, hq5, H⟩ := bnd H; refine cs [] func65 (word_Make.does hq5) ?_; refine o_ ?_; refine nkt hK ?_; rw [← Option.some.inj H]; exact fw []
 ·refine dW c2 ?_; refine wF ?_; refine sk ?_; refine sr fun K hK => ?_; refine o_ ?_; obtain ⟨q6, hq6, H⟩ := bnd H; refine cs [] func66 (wide_Wide_Len.does hq6) ?_; refine o_ ?_; refine nksr hK fun K hK => ?_; refine o_ ?_; obtain ⟨q7, hq7, H⟩ := bnd H; refine cs [] func66 (wide_Wide_Len.does hq7) ?_; refine o_ ?_; refine nk hK ?_; refine w_seq ?_; refine sr fun K hK => ?_; refine o_ ?_
  refine nk hK ?_; rcases its H with ⟨c8, H⟩ | ⟨c8, H⟩
  ·refine dT c8 ?_; refine wT ?_; refine wR fun K hK => ?_; refine o_ ?_; refine nl hK ?_; refine kw [0] [0, 1, 0, 1, 4, 0] ?_; exact gi (ih0 a0 (mx (-100000) (mn a2 100000)) a3 (wrap64 ((-1074) - (mx (-100000) (mn a2 100000)))) (decide ((wrap64 ((mx (-100000) (mn a2 100000)) + q7)) < (-1021))) a1_0 a1_1 r H)
  ·refine dF c8 ?_; refine wF ?_; refine w_skip ?_; refine kw [0] [0, 1, 0, 1, 4, 0] ?_; exact gi (ih0 a0 (mx (-100000) (mn a2 100000)) a3 (wrap64 (q6 - 53)) (decide ((wrap64 ((mx (-100000) (mn a2 100000)) + q7)) < (-1021))) a1_0 a1_1 r H)
theorem more_Scale.does_l {a0 a1 : Int} (k : Nat) : (∀ (a_0 n_1 : Int) (t_14 : Bool) (r : Int × Int), more_Scale.j0 k a_0 n_1 t_14 = some r → kont E0 (more_Scale.Q a0 a1 r) (frs (bodyOf Tryd.f33) [1, 0, 1, 0, 1, 1, 0, 1] []) .normal ⟨.i .u64 a_0 :: .i .i64 n_1 :: u_ 12 (.b t_14 :: u_ 20 ([])), ofL [], 0, 0⟩) := by
 induction k with
 | zero => exact by intros; simp [more_Scale.j0] at *
 | succ k ih =>
  have ih0 := ih
  refine ?_
  ·intro a_0 n_1 t_14 r H; unfold more_Scale.j0 at H; refine fb ?_; refine k_seq ?_; rcases its H with ⟨c6, H⟩ | ⟨c6, H⟩
   ·refine dV c6 ?_; refine wT ?_; refine sr fun K hK => ?_; refine o_ ?_; refine nkt hK ?_; rw [← Option.some.inj H]; exact fw []
   ·refine dW c6 ?_; refine wF ?_; refine w_skip ?_; refine k_block ?_; refine ksr fun K hK => ?_; refine o_ ?_; obtain ⟨q7, hq7, H⟩ := bnd H; refine cs [] func46 (word_Parts.does hq7) ?_; refine o_ ?_; refine nksr hK fun K hK => ?_; refine o_ ?_; obtain ⟨q8, hq8, H⟩ := bnd H; refine cs [] func54 (word_Neg.does hq8) ?_; refine o_ ?_
    refine g_bd rfl rfl zr93 Tryd.underlying93 (pl := [(0, 1), (1, 1)]) (by kernel_rfl) ?_; refine gB ?_; refine o_ ?_; refine g_min rfl rfl rfl rfl (m := mn _ _) rfl (gT ?_); refine g_max rfl rfl rfl rfl (m := mx _ _) rfl (gT ?_); refine o_ ?_; obtain ⟨q9, hq9, H⟩ := bnd H; refine cs [] func53 (round_Round.does hq9) ?_; refine o_ ?_; refine nkt hK ?_; rw [← Option.some.inj H]; exact fw []
theorem more_Scale.does {k : Nat} {a0 a1 : Int} {r : Int × Int} (H : more_Scale.f k a0 a1 = some r) : Do E0 (.fn 33 [.i .u64 a0, .i .i64 a1] [] (.t [.i .u64 r.1, .i .u8 r.2]) []) := by
 obtain ih0 := @more_Scale.does_l a0 a1 k; refine fnw ((more_Scale.Q a0 a1 r)) func33 ntmps33 ?_; unfold more_Scale.f at H; refine sr fun K hK => ?_; refine o_ ?_; refine nk hK ?_; refine w_seq ?_; refine sr fun K hK => ?_; refine o_ ?_; obtain ⟨q1, hq1, H⟩ := bnd H; refine cs [] func23 (word_Kind.does hq1) ?_; refine nk hK ?_; refine w_block ?_; refine sr fun K hK => ?_; refine o_ ?_
 refine nk hK ?_; rcases its H with ⟨c2, H⟩ | ⟨c2, H⟩
 ·refine dE c2 ?_; refine wT ?_; refine w_seq ?_; refine sr fun K hK => ?_; refine o_ ?_; obtain ⟨q3, hq3, H⟩ := bnd H; refine cs [] func52 (word_Signals.does hq3) ?_; refine nk hK ?_; rcases its H with ⟨c4, H⟩ | ⟨c4, H⟩
  ·refine dV c4 ?_; refine wT ?_; refine sr fun K hK => ?_; refine o_ ?_; refine nkt hK ?_; rw [← Option.some.inj H]; exact fw []
  ·refine dW c4 ?_; refine wF ?_; refine sk ?_; refine sr fun K hK => ?_; refine o_ ?_; refine nkt hK ?_; rw [← Option.some.inj H]; exact fw []
 ·refine dN c2 ?_; refine wF ?_; refine w_seq ?_; refine sr fun K hK => ?_; refine o_ ?_; refine nk hK ?_; rcases its H with ⟨c5, H⟩ | ⟨c5, H⟩
  ·refine dE c5 ?_; refine wT ?_; refine w_skip ?_; refine kw [] [0, 0, 12] ?_; exact gi (ih0 a0 a1 true r H)
  ·refine dN c5 ?_; refine wF ?_; refine wR fun K hK => ?_; refine o_ ?_; refine nl hK ?_; refine kw [] [0, 0, 12] ?_; exact gi (ih0 a0 a1 (q1 == 1) r H)
theorem mat_Matrix_Scale.does_l {a0_0 a0_1 a0_2 : Int} {l0_3 : List Int} {a1 : Int} (k : Nat) : (∀ (n_1 all_7 : Int) (h2 : List Int) (t_16 t_17 h0_0 h0_1 h0_2 h1_0 h1_1 h1_2 : Int) (r : Int × Int × Int × (List Int) × Int), mat_Matrix_Scale.l0 k n_1 all_7 h2 t_16 t_17 h1_0 h1_1 h1_2 = some r → wk_ E0 (mat_Matrix_Scale.Q a0_0 a0_1 a0_2 l0_3 a1 r) (frs (bodyOf Tryd.f9) [1, 1, 1, 0, 1, 0] []) (sub (bodyOf Tryd.f9) [1, 1, 1, 0, 1, 0]) ⟨.u :: .i .i64 n_1 :: .u :: .u :: .p (some (0, 0)) :: .u :: .p (some (1, 0)) :: .i .u8 all_7 :: u_ 7 (.s (some (2, 0)) h2.length :: .i .i64 t_16 :: .i .i64 t_17 :: u_ 21 ([])), ofL [.row [.i .i64 h0_0, .i .i64 h0_1, .i .i64 h0_2, .s none 0] 0 0 true true none, .row [.i .i64 h1_0, .i .i64 h1_1, .i .i64 h1_2, .s (some (2, 0)) h2.length] 0 0 true true none, .row (h2.map (V.i .u64)) 2 1 true true none], 3, 0⟩) := by
 induction k with
 | zero => exact by intros; simp [mat_Matrix_Scale.l0] at *
 | succ k ih =>
  have ih0 := ih
  refine ?_
  ·intro n_1 all_7 h2 t_16 t_17 h0_0 h0_1 h0_2 h1_0 h1_1 h1_2 r H; unfold mat_Matrix_Scale.l0 at H; refine fb ?_; refine w_loop ?_; refine sr fun K hK => ?_; refine o_ ?_; refine nk hK ?_; refine w_seq ?_; rcases its H with ⟨c2, H⟩ | ⟨c2, H⟩
   ·refine dT c2 ?_; refine wT ?_; refine sk ?_; refine w_seq ?_; refine w_block ?_; refine sr fun K hK => ?_; refine o_ ?_; obtain ⟨c3, H⟩ := it1 H; obtain ⟨c4, H⟩ := it1 H; refine g_ixo rfl rfl Tryd.underlying22 sz27 rfl rfl ao_ al_ (gT ?_); refine g_ldo rfl rfl ag27 sz27 rfl rfl al_ (gT ?_); refine o_ ?_; refine nksr hK fun K hK => ?_; refine o_ ?_; obtain ⟨q5, hq5, H⟩ := bnd H
    refine cs [] func33 (more_Scale.does hq5) ?_; refine o_ ?_; refine nk hK ?_; refine wR fun K hK => ?_; refine o_ ?_; refine g_ixo rfl rfl Tryd.underlying22 sz27 rfl rfl ao_ al_ (gT ?_); refine g_st rfl rfl sz27 rfl rfl rfl (by rfl) am_ (gU ?_); refine o_ ?_; refine nl hK ?_; refine k_block ?_; refine k_seq ?_; refine wR fun K hK => ?_; refine o_ ?_; refine nl hK ?_; refine k_loop ?_
    refine ww [0, 1, 2] [1, 2, 1, 0, 7, 0, 0] ?_; exact gi (ih0 n_1 (Go.bits .or .u8 all_7 q5.2) (h2.set t_17.toNat q5.1) t_16 (wrap64 (t_17 + 1)) h0_0 h0_1 h0_2 h1_0 h1_1 h1_2 r H)
   ·refine dF c2 ?_; refine wF ?_; refine w_exit rfl ?_; refine ksr fun K hK => ?_; refine o_ ?_; refine nkt hK ?_; rw [← Option.some.inj H]; exact fw [2]
theorem mat_Matrix_Scale.does {k : Nat} {a0_0 a0_1 a0_2 : Int} {l0_3 : List Int} {a1 : Int} {r : Int × Int × Int × (List Int) × Int} (H : mat_Matrix_Scale.f k a0_0 a0_1 a0_2 l0_3 a1 = some r) : Do E0 (.fn 9 [.a [.i .i64 a0_0, .i .i64 a0_1, .i .i64 a0_2, .r (l0_3.map (V.i .u64)) l0_3.length true], .i .i64 a1] [] (.t [.a [.i .i64 r.1, .i .i64 r.2.1, .i .i64 r.2.2.1, .s (some (0, 0)) r.2.2.2.1.length], .i .u8 r.2.2.2.2]) [.row (r.2.2.2.1.map (V.i .u64)) 2 1 true true none]) := by
 obtain ih0 := @mat_Matrix_Scale.does_l a0_0 a0_1 a0_2 l0_3 a1 k; refine fnw ((mat_Matrix_Scale.Q a0_0 a0_1 a0_2 l0_3 a1 r)) func9 ntmps9 ?_; unfold mat_Matrix_Scale.f at H; refine sr fun K hK => ?_; refine o_ ?_; refine nksr hK fun K hK => ?_; refine o_ ?_; obtain ⟨q1, hq1, H⟩ := bnd H; refine cs [] func34 (mat_Matrix_Clone.does hq1) ?_; refine o_ ?_; refine nksr hK fun K hK => ?_; refine o_ ?_
 refine nk hK ?_; refine w_seq ?_; refine sr fun K hK => ?_; refine o_ ?_; refine g_len_s rfl rfl Tryd.underlying22 rfl (gT ?_); refine o_ ?_; refine nk hK ?_; refine w_block ?_; refine ww [4, 20, 16] [1, 2, 1, 0, 7, 0, 0] ?_; exact gi (ih0 a1 0 q1.2.2.2 (q1.2.2.2.length : Int) 0 0 0 0 q1.1 q1.2.1 q1.2.2.1 r H)
theorem mat_Matrix_Unit.does_l {a0_0 a0_1 a0_2 : Int} {l0_3 : List Int} (k : Nat) : (∀ (most_4 t_12 t_13 h0_0 h0_1 h0_2 : Int) (h0_3 : List Int) (h1_0 h1_1 h1_2 : Int) (r : Int × Int × Int × (List Int) × Int), mat_Matrix_Unit.l0 k most_4 t_12 t_13 h0_0 h0_1 h0_2 h0_3 = some r → wk_ E0 (mat_Matrix_Unit.Q a0_0 a0_1 a0_2 l0_3 r) (frs (bodyOf Tryd.f29) [1, 1, 0, 1, 0] []) (sub (bodyOf Tryd.f29) [1, 1, 0, 1, 0]) ⟨.u :: .p (some (0, 0)) :: .p (some (1, 0)) :: .u :: .i .u64 most_4 :: u_ 7 (.i .i64 t_12 :: .i .i64 t_13 :: u_ 40 ([])), ofL [.row [.i .i64 h0_0, .i .i64 h0_1, .i .i64 h0_2, .r (h0_3.map (V.i .u64)) h0_3.length true] 0 0 true true none, .row [.i .i64 h1_0, .i .i64 h1_1, .i .i64 h1_2, .s none 0] 0 0 true true none], 2, 0⟩) ∧
    (∀ (most_4 i_5 t_12 t_13 t_17 t_18 h0_0 h0_1 h0_2 : Int) (h0_3 : List Int) (h1_0 h1_1 h1_2 : Int) (r : Int × Int × Int × (List Int) × Int), mat_Matrix_Unit.l1 k most_4 i_5 t_12 t_13 t_17 t_18 h0_0 h0_1 h0_2 h0_3 = some r → wk_ E0 (mat_Matrix_Unit.Q a0_0 a0_1 a0_2 l0_3 r) (frs (bodyOf Tryd.f29) [1, 1, 0, 1, 0, 0, 1, 1, 0, 0, 1, 1, 0] []) (sub (bodyOf Tryd.f29) [1, 1, 0, 1, 0, 0, 1, 1, 0, 0, 1, 1, 0]) ⟨.u :: .p (some (0, 0)) :: .p (some (1, 0)) :: .u :: .i .u64 most_4 :: .i .i64 i_5 :: u_ 6 (.i .i64 t_12 :: .i .i64 t_13 :: u_ 3 (.i .i64 t_17 :: .i .i64 t_18 :: u_ 35 ([]))), ofL [.row [.i .i64 h0_0, .i .i64 h0_1, .i .i64 h0_2, .r (h0_3.map (V.i .u64)) h0_3.length true] 0 0 true true none, .row [.i .i64 h1_0, .i .i64 h1_1, .i .i64 h1_2, .s none 0] 0 0 true true none], 2, 0⟩) ∧
    (∀ (n_7 e_8 h0_0 h0_1 h0_2 : Int) (h0_3 : List Int) (h1_0 h1_1 h1_2 : Int) (r : Int × Int × Int × (List Int) × Int), mat_Matrix_Unit.l2 k n_7 e_8 h0_0 h0_1 h0_2 h0_3 = some r → wk_ E0 (mat_Matrix_Unit.Q a0_0 a0_1 a0_2 l0_3 r) (frs (bodyOf Tryd.f29) [1, 1, 1, 1, 1, 0, 0] []) (sub (bodyOf Tryd.f29) [1, 1, 1, 1, 1, 0, 0]) ⟨.u :: .p (some (0, 0)) :: .p (some (1, 0)) :: u_ 4 (.i .u64 n_7 :: .i .i64 e_8 :: u_ 45 ([])), ofL [.row [.i .i64 h0_0, .i .i64 h0_1, .i .i64 h0_2, .r (h0_3.map (V.i .u64)) h0_3.length true] 0 0 true true none, .row [.i .i64 h1_0, .i .i64 h1_1, .i .i64 h1_2, .s none 0] 0 0 true true none], 2, 0⟩) := by
 induction k with
 | zero => exact ⟨by intros; simp [mat_Matrix_Unit.l0] at *, by intros; simp [mat_Matrix_Unit.l1] at *, by intros; simp [mat_Matrix_Unit.l2] at *⟩
 | succ k ih =>
  obtain ⟨ih0, ih1, ih2⟩ := ih
  refine ⟨?_, ?_, ?_⟩
  ·intro most_4 t_12 t_13 h0_0 h0_1 h0_2 h0_3 h1_0 h1_1 h1_2 r H; unfold mat_Matrix_Unit.l0 at H; refine fb ?_; refine w_loop ?_; refine sr fun K hK => ?_; refine o_ ?_; refine nk hK ?_; refine w_seq ?_; rcases its H with ⟨c1, H⟩ | ⟨c1, H⟩
   ·refine dT c1 ?_; refine wT ?_; refine sk ?_; refine w_seq ?_; refine w_block ?_; refine sr fun K hK => ?_; refine o_ ?_; refine nksr hK fun K hK => ?_; refine o_ ?_; refine nk hK ?_; refine w_block ?_; refine ww [0, 1] [1, 0, 1, 0, 6, 0, 3, 0] ?_; exact gi (ih1 most_4 t_13 t_12 t_13 h0_1 0 h0_0 h0_1 h0_2 h0_3 h1_0 h1_1 h1_2 r H)
   ·refine dF c1 ?_; refine wF ?_; refine w_exit rfl ?_; refine ksr fun K hK => ?_; refine o_ ?_; obtain ⟨q2, hq2, H⟩ := bnd H; refine cs [] func46 (word_Parts.does hq2) ?_; refine o_ ?_; refine nk hK ?_; refine w_seq ?_; refine sr fun K hK => ?_; refine o_ ?_; refine nk hK ?_; rcases its H with ⟨c3, H⟩ | ⟨c3, H⟩
    ·refine dE c3 ?_; refine wT ?_; refine sr fun K hK => ?_; refine o_ ?_; obtain ⟨q4, hq4, H⟩ := bnd H; refine cs [] func34 (mat_Matrix_Clone.does hq4) ?_; refine o_ ?_; refine nkt hK ?_; rw [← Option.some.inj H]; exact fw [46]
    ·refine dN c3 ?_; refine wF ?_; refine sk ?_; refine w_seq ?_; refine w_block ?_; refine ww [0, 1] [1, 0, 4, 0] ?_; exact gi (ih2 q2.1 q2.2 h0_0 h0_1 h0_2 h0_3 h1_0 h1_1 h1_2 r H)
  ·intro most_4 i_5 t_12 t_13 t_17 t_18 h0_0 h0_1 h0_2 h0_3 h1_0 h1_1 h1_2 r H; unfold mat_Matrix_Unit.l1 at H; refine fb ?_; refine w_loop ?_; refine sr fun K hK => ?_; refine o_ ?_; refine nk hK ?_; refine w_seq ?_; rcases its H with ⟨c5, H⟩ | ⟨c5, H⟩
   ·refine dT c5 ?_; refine wT ?_; refine sk ?_; refine w_seq ?_; refine w_block ?_; refine sr fun K hK => ?_; refine o_ ?_; refine nk hK ?_; refine wR fun K hK => ?_; refine o_ ?_; obtain ⟨q6, hq6, H⟩ := bnd H; refine cs [] func15 (mat_Matrix_At.does hq6) ?_; obtain ⟨q7, hq7, H⟩ := bnd H; refine cs [] func22 (word_Abs.does hq7) ?_; refine g_max rfl rfl rfl rfl (m := mx _ _) rfl (gT ?_); refine o_ ?_
    refine nl hK ?_; refine k_block ?_; refine k_seq ?_; refine wR fun K hK => ?_; refine o_ ?_; refine nl hK ?_; refine k_loop ?_; refine ww [0, 1] [1, 0, 1, 0, 6, 0, 3, 0] ?_; exact gi (ih1 (mx most_4 q7) i_5 t_12 t_13 t_17 (wrap64 (t_18 + 1)) h0_0 h0_1 h0_2 h0_3 h1_0 h1_1 h1_2 r H)
   ·refine dF c5 ?_; refine wF ?_; refine w_exit rfl ?_; refine k_block ?_; refine k_seq ?_; refine wR fun K hK => ?_; refine o_ ?_; refine nl hK ?_; refine k_loop ?_; refine ww [0, 1] [1, 0, 1, 7, 0] ?_; exact gi (ih0 most_4 t_12 (wrap64 (t_13 + 1)) h0_0 h0_1 h0_2 h0_3 h1_0 h1_1 h1_2 r H)
  ·intro n_7 e_8 h0_0 h0_1 h0_2 h0_3 h1_0 h1_1 h1_2 r H; unfold mat_Matrix_Unit.l2 at H; refine fb ?_; refine w_loop ?_; refine w_seq ?_; refine sr fun K hK => ?_; refine o_ ?_; refine nk hK ?_; rcases its H with ⟨c8, H⟩ | ⟨c8, H⟩
   ·refine dT c8 ?_; refine wT ?_; refine sk ?_; refine w_block ?_; refine wR fun K hK => ?_; refine o_ ?_; refine g_shrc (p := 2) rfl rfl rfl rfl de_ (by rfl) (gT ?_); refine o_ ?_; refine nl hK ?_; refine k_block ?_; refine k_loop ?_; refine ww [0, 1] [1, 0, 4, 0] ?_; exact gi (ih2 (n_7 / 2) (wrap64 (e_8 + 1)) h0_0 h0_1 h0_2 h0_3 h1_0 h1_1 h1_2 r H)
   ·refine dF c8 ?_; refine wF ?_; refine w_exit rfl ?_; refine ksr fun K hK => ?_; refine o_ ?_; obtain ⟨q9, hq9, H⟩ := bnd H; refine cs [] func9 (mat_Matrix_Scale.does hq9) ?_; refine o_ ?_; refine nksr hK fun K hK => ?_; refine o_ ?_; refine nkt hK ?_; rw [← Option.some.inj H]; exact fw [22]
theorem mat_Matrix_Unit.does {k : Nat} {a0_0 a0_1 a0_2 : Int} {l0_3 : List Int} {r : Int × Int × Int × (List Int) × Int} (H : mat_Matrix_Unit.f k a0_0 a0_1 a0_2 l0_3 = some r) : Do E0 (.fn 29 [.a [.i .i64 a0_0, .i .i64 a0_1, .i .i64 a0_2, .r (l0_3.map (V.i .u64)) l0_3.length true]] [] (.t [.a [.i .i64 r.1, .i .i64 r.2.1, .i .i64 r.2.2.1, .s (some (0, 0)) r.2.2.2.1.length], .i .i64 r.2.2.2.2]) [.row (r.2.2.2.1.map (V.i .u64)) 2 1 true true none]) := by
 obtain ⟨ih0, ih1, ih2⟩ := @mat_Matrix_Unit.does_l a0_0 a0_1 a0_2 l0_3 k; refine fnw ((mat_Matrix_Unit.Q a0_0 a0_1 a0_2 l0_3 r)) func29 ntmps29 ?_; unfold mat_Matrix_Unit.f at H; refine sr fun K hK => ?_; refine o_ ?_; refine nksr hK fun K hK => ?_; refine o_ ?_; refine nk hK ?_; refine w_seq ?_; refine sr fun K hK => ?_; refine o_ ?_; refine nk hK ?_; refine w_block ?_
 refine ww [0, 4] [1, 0, 1, 7, 0] ?_; exact gi (ih0 0 a0_0 0 a0_0 a0_1 a0_2 l0_3 0 0 0 r H)
theorem sylv_end.does {l0 : List Int} {a1 a2 r : Int} (H : sylv_end.f l0 a1 a2 = some r) : Do E0 (.fn 32 [.r (l0.map (V.i .i64)) l0.length true, .i .i64 a1, .i .i64 a2] [] (.i .i64 r) []) := by
 refine fnw ((sylv_end.Q l0 a1 a2 r)) func32 ntmps32 ?_; unfold sylv_end.f at H; refine sr fun K hK => ?_; refine o_ ?_; refine nk hK ?_; refine w_seq ?_; refine sr fun K hK => ?_; refine o_ ?_; refine g_len_r rfl rfl Tryd.underlying55 rfl (gT ?_); refine o_ ?_; refine nk hK ?_; rcases its H with ⟨c1, H⟩ | ⟨c1, H⟩
 ·refine dT c1 ?_; refine wT ?_; refine sr fun K hK => ?_; refine o_ ?_; obtain ⟨c2, H⟩ := it1 H; refine g_ixr rfl rfl Tryd.underlying55 sz3 rfl rfl ao_ al_ (gT ?_); refine g_ldq rfl rfl ag3 sz3 rfl ao_ (gT ?_); refine o_ ?_; refine nkt hK ?_; rw [← Option.some.inj H]; exact fw []
 ·refine dF c1 ?_; refine wF ?_; refine sk ?_; refine sr fun K hK => ?_; refine o_ ?_; refine nkt hK ?_; rw [← Option.some.inj H]; exact fw []
theorem soft_nan.does_l {l0 : List Int} (k : Nat) : (∀ (f_5 : Int) (is_6 : Bool) (t_9 : List Int) (t_10 t_11 : Int) (r : Int × Int × Bool), soft_nan.l0 k f_5 is_6 t_9 t_10 t_11 = some r → wk_ E0 (soft_nan.Q l0 r) (frs (bodyOf Tryd.f73) [1, 1, 1, 0, 1, 0] []) (sub (bodyOf Tryd.f73) [1, 1, 1, 0, 1, 0]) ⟨u_ 5 (.i .u8 f_5 :: .b is_6 :: .u :: .u :: .r (t_9.map (V.i .u64)) t_9.length true :: .i .i64 t_10 :: .i .i64 t_11 :: u_ 11 ([])), ofL [], 0, 0⟩) := by
 induction k with
 | zero => exact by intros; simp [soft_nan.l0] at *
 | succ k ih =>
  have ih0 := ih
  refine ?_
  ·intro f_5 is_6 t_9 t_10 t_11 r H; unfold soft_nan.l0 at H; refine fb ?_; refine w_loop ?_; refine sr fun K hK => ?_; refine o_ ?_; refine nk hK ?_; refine w_seq ?_; rcases its H with ⟨c1, H⟩ | ⟨c1, H⟩
   ·refine dT c1 ?_; refine wT ?_; refine sk ?_; refine w_seq ?_; refine w_block ?_; refine sr fun K hK => ?_; obtain ⟨c2, H⟩ := it1 H; obtain ⟨c3, H⟩ := it1 H; refine g_ixr rfl rfl Tryd.underlying22 sz27 rfl rfl ao_ al_ (gT ?_); refine g_ldq rfl rfl ag27 sz27 rfl ao_ (gT ?_); refine o_ ?_; refine nksr hK fun K hK => ?_; refine o_ ?_; obtain ⟨q4, hq4, H⟩ := bnd H
    refine cs [] func23 (word_Kind.does hq4) ?_; refine o_ ?_; refine nk hK ?_; rcases its H with ⟨c5, H⟩ | ⟨c5, H⟩
    ·refine dE c5 ?_; refine wT ?_; refine sr fun K hK => ?_; refine o_ ?_; refine nksr hK fun K hK => ?_; refine o_ ?_; obtain ⟨q6, hq6, H⟩ := bnd H; refine cs [] func52 (word_Signals.does hq6) ?_; refine nk hK ?_; rcases its H with ⟨c7, H⟩ | ⟨c7, H⟩
     ·refine dV c7 ?_; refine wT ?_; refine wR fun K hK => ?_; refine o_ ?_; refine nl hK ?_; refine k_block ?_; refine k_seq ?_; refine wR fun K hK => ?_; refine o_ ?_; refine nl hK ?_; refine k_loop ?_; refine ww [] [5, 0, 2, 0, 0] ?_; exact gi (ih0 16 true t_9 t_10 (wrap64 (t_11 + 1)) r H)
     ·refine dW c7 ?_; refine wF ?_; refine w_skip ?_; refine k_block ?_; refine k_seq ?_; refine wR fun K hK => ?_; refine o_ ?_; refine nl hK ?_; refine k_loop ?_; refine ww [] [5, 0, 2, 0, 0] ?_; exact gi (ih0 f_5 true t_9 t_10 (wrap64 (t_11 + 1)) r H)
    ·refine dN c5 ?_; refine wF ?_; refine w_skip ?_; refine k_block ?_; refine k_seq ?_; refine wR fun K hK => ?_; refine o_ ?_; refine nl hK ?_; refine k_loop ?_; refine ww [] [5, 0, 2, 0, 0] ?_; exact gi (ih0 f_5 is_6 t_9 t_10 (wrap64 (t_11 + 1)) r H)
   ·refine dF c1 ?_; refine wF ?_; refine w_exit rfl ?_; refine ksr fun K hK => ?_; refine o_ ?_; refine nkt hK ?_; rw [← Option.some.inj H]; exact fw []
theorem soft_nan.does {k : Nat} {l0 : List Int} {r : Int × Int × Bool} (H : soft_nan.f k l0 = some r) : Do E0 (.fn 73 [.r (l0.map (V.i .u64)) l0.length true] [] (.t [.i .u64 r.1, .i .u8 r.2.1, .b r.2.2]) []) := by
 obtain ih0 := @soft_nan.does_l l0 k; refine fnw ((soft_nan.Q l0 r)) func73 ntmps73 ?_; unfold soft_nan.f at H; refine sr fun K hK => ?_; refine o_ ?_; refine nksr hK fun K hK => ?_; refine o_ ?_; refine nksr hK fun K hK => ?_; refine o_ ?_; refine nk hK ?_; refine w_seq ?_; refine sr fun K hK => ?_; refine o_ ?_; refine g_len_r rfl rfl Tryd.underlying22 rfl (gT ?_); refine o_ ?_; refine nk hK ?_
 refine w_block ?_; refine ww [] [5, 0, 2, 0, 0] ?_; exact gi (ih0 0 false l0 (l0.length : Int) 0 r H)
end Go.Proofs.YtejkoahgmnejkaaDoor.F

/- Checkpoints, and what is simple about bytes. -/
import Derived.Test.YtgnidooihignfaaGreatDoorAbFour
import Derived.Test.YtgnidooihignfaaGreatDoorProg
set_option linter.unusedSimpArgs false
set_option maxRecDepth 10000
namespace Go.Proofs.YtgnidooihignfaaGreatDoor
open Go Go.Ab
structure Check where
 epoch : Int
 root : Root
 deriving DecidableEq
def Check.av (a : Check) : AV := .st [.int .u64 a.epoch, .root a.root]
@[go_sem] theorem Check.av_flat (a : Check) : a.av.flat = true := rfl
@[go_sem] theorem Check.av_len (a : Check) : a.av.len = 33 := rfl
@[go_sem] theorem Check.av_agg (a : Check) : a.av.agg = true := rfl
@[go_sem] theorem Check.av_idf (a : Check) : a.av.idf = true := rfl
@[go_sem] theorem Check.av_ok (a : Check) : a.av.ok = true := rfl
@[go_sem] theorem Check.av_frz (hp : HP) (a : Check) : a.av.frz hp = a.av := rfl
@[go_sem] theorem Check.av_idL (a : Check) : a.av.idL = [] := rfl
@[go_sem] theorem Check.av_ren (ρ : Nat → Nat) (a : Check) : a.av.ren ρ = a.av := rfl
theorem tField28_0 : tFieldI Tryz.prog 36 0 = some (0, 1, false) := by kernel_rfl
@[go_sem] theorem fap28_0 (o : Nat) (p : List Nat) (off : Nat) (K : AV → Prop) : fieldAddrK Tryz.prog 36 (.ptr o p off) 0 K = K (.ptr o (p ++ [0]) (off + 0)) := fieldAddr_ptr tField28_0 (by decide) o p off K
@[go_sem] theorem far28_0 (a : Check) (K : AV → Prop) : fieldAddrK Tryz.prog 36 (.ref a.av) 0 K = K (.ref (.int .u64 a.epoch)) := fieldAddr_ref tField28_0 (by decide) rfl rfl K
@[go_sem] theorem sub28_0 (a : Check) : a.av.sub [0] = some (.int .u64 a.epoch) := rfl
@[go_sem] theorem offs28_0 (a : Check) : a.av.offs [0] = some 0 := rfl
@[go_sem] theorem upd28_0 (a : Check) (x : Int) : a.av.upd [0] (.int .u64 x) = some ({ a with epoch := x } : Check).av := rfl
theorem tField28_1 : tFieldI Tryz.prog 36 1 = some (1, 32, true) := by kernel_rfl
@[go_sem] theorem fap28_1 (o : Nat) (p : List Nat) (off : Nat) (K : AV → Prop) : fieldAddrK Tryz.prog 36 (.ptr o p off) 1 K = K (.ptr o (p ++ [1]) (off + 1)) := fieldAddr_ptr tField28_1 (by decide) o p off K
@[go_sem] theorem far28_1 (a : Check) (K : AV → Prop) : fieldAddrK Tryz.prog 36 (.ref a.av) 1 K = K (.ref (.root a.root)) := fieldAddr_ref tField28_1 (by decide) rfl rfl K
@[go_sem] theorem sub28_1 (a : Check) : a.av.sub [1] = some (.root a.root) := rfl
@[go_sem] theorem offs28_1 (a : Check) : a.av.offs [1] = some 1 := rfl
@[go_sem] theorem upd28_1 (a : Check) (x : Root) : a.av.upd [1] (.root x) = some ({ a with root := x } : Check).av := rfl
@[go_sem] theorem tSize28 : tSize Tryz.prog 36 = some 33 := by kernel_rfl
@[go_sem] theorem tAgg28 : tAgg Tryz.prog 36 = some true := by kernel_rfl
def zCheck : Check := ⟨0, zroot⟩
@[go_sem] theorem tZero28 : tZero Tryz.prog 36 = some zCheck.av := by kernel_rfl
theorem Check.eqb (a b : Check) : a.av.eqb b.av = decide (a = b) := by
 cases a; cases b
 simp only [Check.av, AV.eqb, AV.eqbL, int_beq, Check.mk.injEq, Bool.decide_and, Bool.and_true]
theorem fits28 (a : Check) : fits Tryz.prog a.av 36 = true := by kernel_rfl
theorem depth28 (a : Check) : a.av.depth ≤ 9999 := Nat.le_of_ble_eq_true rfl
@[go_sem] theorem eql28 (a b : Check) (K : AV → Prop) : binK Tryz.prog .eql 36 a.av b.av K = K (.bool (decide (a = b))) :=
  bin_eql_of (fun _ _ h => by cases h) (fun _ h => by cases h) (fits28 a) (fits28 b) (depth28 a) kR (Check.eqb a b) K
@[go_sem] theorem neq28 (a b : Check) (K : AV → Prop) : binK Tryz.prog .neq 36 a.av b.av K = K (.bool !(decide (a = b))) :=
  bin_neq_of (fun _ _ h => by cases h) (fun _ h => by cases h) (fits28 a) (fits28 b) (depth28 a) kR (Check.eqb a b) K
@[go_sem] theorem build28_all (epoch : Int) (root : Root) (K : AV → Prop) : buildK Tryz.prog 36 [(0, .int .u64 epoch), (1, .root root)] K = K (Check.mk epoch root).av := build_struct Tryz.underlying36 tZero28 rfl kR rfl K
theorem mixed : Tryz.prog.follows .mixedOrders = true := by kernel_rfl
@[go_sem] theorem und5 : Tryz.prog.underlying 5 = some (.int .u8) := Tryz.underlying5
@[go_sem] theorem und24 : Tryz.prog.underlying 27 = some (.int .u64) := Tryz.underlying27
@[go_sem] theorem und31 : Tryz.prog.underlying 41 = some (.slice 5) := Tryz.underlying41
@[go_sem] theorem und48 : Tryz.prog.underlying 25 = some (.slice 27) := Tryz.underlying25
@[go_sem] theorem und3 : Tryz.prog.underlying 3 = some (.int .i64) := Tryz.underlying3
@[go_sem] theorem tSize5 : tSize Tryz.prog 5 = some 1 := by kernel_rfl
@[go_sem] theorem tAgg5 : tAgg Tryz.prog 5 = some false ∧ tBytes Tryz.prog 5 = some 1 ∧ tZero Tryz.prog 5 = some (.int .u8 0) ∧ tSize Tryz.prog 27 = some 1 ∧ tAgg Tryz.prog 27 = some false ∧ tBytes Tryz.prog 27 = some 8 ∧ tZero Tryz.prog 27 = some (.int .u64 0) ∧ tSize Tryz.prog 34 = some 32 ∧ tAgg Tryz.prog 34 = some true ∧ tBytes Tryz.prog 34 = some 32 := by and_intros <;> kernel_rfl
@[go_sem] theorem tZero23 : tZero Tryz.prog 34 = some (.root zroot) := by kernel_rfl
@[go_sem] theorem tArr23 : tArr Tryz.prog 34 = some (32, 5) ∧ tSize Tryz.prog 41 = some 1 ∧ tAgg Tryz.prog 41 = some false := by and_intros <;> kernel_rfl
@[go_sem] theorem tElem31 : tElem Tryz.prog 41 = some 5 := by kernel_rfl
@[go_sem] theorem tElem48 : tElem Tryz.prog 25 = some 27 := by kernel_rfl
@[go_sem] theorem tSize3 : tSize Tryz.prog 3 = some 1 := by kernel_rfl
@[go_sem] theorem tAgg3 : tAgg Tryz.prog 3 = some false := by kernel_rfl
@[go_sem] theorem conv24_5 (hp : HP) (n : Int) (K : AV → Prop) : convK Tryz.prog 27 5 hp (.int .u64 n) K = K (.int .u8 (IntKind.u8.wrap n)) := by simp only [convK, und24, und5]
@[go_sem] theorem conv5_24 (hp : HP) (n : Int) (K : AV → Prop) : convK Tryz.prog 5 27 hp (.int .u8 n) K = K (.int .u64 (IntKind.u64.wrap n)) := by simp only [convK, und24, und5]
@[go_sem] theorem conv3_5 (hp : HP) (n : Int) (K : AV → Prop) : convK Tryz.prog 3 5 hp (.int .i64 n) K = K (.int .u8 (IntKind.u8.wrap n)) := by simp only [convK, und3, und5]
@[go_sem] theorem conv5_3 (hp : HP) (n : Int) (K : AV → Prop) : convK Tryz.prog 5 3 hp (.int .u8 n) K = K (.int .i64 (IntKind.i64.wrap n)) := by simp only [convK, und3, und5]
def bav (b : UInt8) : AV := .int .u8 b.toNat
@[go_sem] theorem bav_len (b : UInt8) : (bav b).len = 1 := rfl
@[go_sem] theorem bav_agg (b : UInt8) : (bav b).agg = false := rfl
@[go_sem] theorem bav_ok (b : UInt8) : (bav b).ok = true := rfl
@[go_sem] theorem bav_idf (b : UInt8) : (bav b).idf = true := rfl
def bytes (l : List UInt8) : AV := .sl (l.map bav) false
@[go_sem] theorem bytes_idL (l : List UInt8) : (bytes l).idL = [] := rfl
@[go_sem] theorem bytes_frz (hp : HP) (l : List UInt8) : (bytes l).frz hp = bytes l := rfl
@[go_sem] theorem bytes_flat (l : List UInt8) : (bytes l).flat = false := rfl
@[go_sem] theorem bytes_ok (l : List UInt8) : (bytes l).ok = true := rfl
@[go_sem] theorem bytes_idf (l : List UInt8) : (bytes l).idf = true := rfl
theorem sliceK_hi {P : Program} {t e : TypeId} {xs : List AV} {clip : Bool} {k : Nat} {K : AV → Prop} (he : tElem P t = some e) (hz : (tSize P e).isSome = true) (hs : ∀ y ∈ xs, tSize P e = some y.len) (hk : k ≤ xs.length)
 (h : K (.sl (xs.take k) (clip && decide (k = xs.length)))) : sliceK P t (.sl xs clip) none (some (.int .i64 k)) none K := by
 simp only [sliceK, he, boundOf, Int.natCast_nonneg, if_true, Int.toNat_natCast, Nat.zero_le, true_and, List.drop_zero]
 exact ⟨hk, hz, hs, h⟩
structure Node where
 root : Root
 parent : Int
 slot : Int
 just : Int
 deriving DecidableEq
def Node.av (a : Node) : AV := .st [.root a.root, .int .i64 a.parent, .int .u64 a.slot, .int .u64 a.just]
@[go_sem] theorem Node.av_flat (a : Node) : a.av.flat = true := rfl
@[go_sem] theorem Node.av_len (a : Node) : a.av.len = 35 := rfl
@[go_sem] theorem Node.av_agg (a : Node) : a.av.agg = true := rfl
@[go_sem] theorem Node.av_idf (a : Node) : a.av.idf = true := rfl
@[go_sem] theorem Node.av_ok (a : Node) : a.av.ok = true := rfl
@[go_sem] theorem Node.av_frz (hp : HP) (a : Node) : a.av.frz hp = a.av := rfl
@[go_sem] theorem Node.av_idL (a : Node) : a.av.idL = [] := rfl
@[go_sem] theorem Node.av_ren (ρ : Nat → Nat) (a : Node) : a.av.ren ρ = a.av := rfl
theorem tField63_0 : tFieldI Tryz.prog 65 0 = some (0, 32, true) := by kernel_rfl
@[go_sem] theorem fap63_0 (o : Nat) (p : List Nat) (off : Nat) (K : AV → Prop) : fieldAddrK Tryz.prog 65 (.ptr o p off) 0 K = K (.ptr o (p ++ [0]) (off + 0)) := fieldAddr_ptr tField63_0 (by decide) o p off K
@[go_sem] theorem far63_0 (a : Node) (K : AV → Prop) : fieldAddrK Tryz.prog 65 (.ref a.av) 0 K = K (.ref (.root a.root)) := fieldAddr_ref tField63_0 (by decide) rfl rfl K
@[go_sem] theorem sub63_0 (a : Node) : a.av.sub [0] = some (.root a.root) := rfl
@[go_sem] theorem offs63_0 (a : Node) : a.av.offs [0] = some 0 := rfl
@[go_sem] theorem upd63_0 (a : Node) (x : Root) : a.av.upd [0] (.root x) = some ({ a with root := x } : Node).av := rfl
theorem tField63_1 : tFieldI Tryz.prog 65 1 = some (32, 1, false) := by kernel_rfl
@[go_sem] theorem fap63_1 (o : Nat) (p : List Nat) (off : Nat) (K : AV → Prop) : fieldAddrK Tryz.prog 65 (.ptr o p off) 1 K = K (.ptr o (p ++ [1]) (off + 32)) := fieldAddr_ptr tField63_1 (by decide) o p off K
@[go_sem] theorem far63_1 (a : Node) (K : AV → Prop) : fieldAddrK Tryz.prog 65 (.ref a.av) 1 K = K (.ref (.int .i64 a.parent)) := fieldAddr_ref tField63_1 (by decide) rfl rfl K
@[go_sem] theorem sub63_1 (a : Node) : a.av.sub [1] = some (.int .i64 a.parent) := rfl
@[go_sem] theorem offs63_1 (a : Node) : a.av.offs [1] = some 32 := rfl
@[go_sem] theorem upd63_1 (a : Node) (x : Int) : a.av.upd [1] (.int .i64 x) = some ({ a with parent := x } : Node).av := rfl
theorem tField63_2 : tFieldI Tryz.prog 65 2 = some (33, 1, false) := by kernel_rfl
@[go_sem] theorem fap63_2 (o : Nat) (p : List Nat) (off : Nat) (K : AV → Prop) : fieldAddrK Tryz.prog 65 (.ptr o p off) 2 K = K (.ptr o (p ++ [2]) (off + 33)) := fieldAddr_ptr tField63_2 (by decide) o p off K
@[go_sem] theorem far63_2 (a : Node) (K : AV → Prop) : fieldAddrK Tryz.prog 65 (.ref a.av) 2 K = K (.ref (.int .u64 a.slot)) := fieldAddr_ref tField63_2 (by decide) rfl rfl K
@[go_sem] theorem sub63_2 (a : Node) : a.av.sub [2] = some (.int .u64 a.slot) := rfl
@[go_sem] theorem offs63_2 (a : Node) : a.av.offs [2] = some 33 := rfl
@[go_sem] theorem upd63_2 (a : Node) (x : Int) : a.av.upd [2] (.int .u64 x) = some ({ a with slot := x } : Node).av := rfl
theorem tField63_3 : tFieldI Tryz.prog 65 3 = some (34, 1, false) := by kernel_rfl
@[go_sem] theorem fap63_3 (o : Nat) (p : List Nat) (off : Nat) (K : AV → Prop) : fieldAddrK Tryz.prog 65 (.ptr o p off) 3 K = K (.ptr o (p ++ [3]) (off + 34)) := fieldAddr_ptr tField63_3 (by decide) o p off K
@[go_sem] theorem far63_3 (a : Node) (K : AV → Prop) : fieldAddrK Tryz.prog 65 (.ref a.av) 3 K = K (.ref (.int .u64 a.just)) := fieldAddr_ref tField63_3 (by decide) rfl rfl K
@[go_sem] theorem sub63_3 (a : Node) : a.av.sub [3] = some (.int .u64 a.just) := rfl
@[go_sem] theorem offs63_3 (a : Node) : a.av.offs [3] = some 34 := rfl
@[go_sem] theorem upd63_3 (a : Node) (x : Int) : a.av.upd [3] (.int .u64 x) = some ({ a with just := x } : Node).av := rfl
@[go_sem] theorem tSize63 : tSize Tryz.prog 65 = some 35 ∧ tAgg Tryz.prog 65 = some true := by and_intros <;> kernel_rfl
def zNode : Node := ⟨zroot, 0, 0, 0⟩
@[go_sem] theorem tZero63 : tZero Tryz.prog 65 = some zNode.av := by kernel_rfl
theorem Node.eqb (a b : Node) : a.av.eqb b.av = decide (a = b) := by
 cases a; cases b
 simp only [Node.av, AV.eqb, AV.eqbL, int_beq, Node.mk.injEq, Bool.decide_and, Bool.and_true]
theorem fits63 (a : Node) : fits Tryz.prog a.av 65 = true := by kernel_rfl
theorem depth63 (a : Node) : a.av.depth ≤ 9999 := Nat.le_of_ble_eq_true rfl
@[go_sem] theorem eql63 (a b : Node) (K : AV → Prop) : binK Tryz.prog .eql 65 a.av b.av K = K (.bool (decide (a = b))) :=
  bin_eql_of (fun _ _ h => by cases h) (fun _ h => by cases h) (fits63 a) (fits63 b) (depth63 a) kR (Node.eqb a b) K
@[go_sem] theorem neq63 (a b : Node) (K : AV → Prop) : binK Tryz.prog .neq 65 a.av b.av K = K (.bool !(decide (a = b))) :=
  bin_neq_of (fun _ _ h => by cases h) (fun _ h => by cases h) (fits63 a) (fits63 b) (depth63 a) kR (Node.eqb a b) K
@[go_sem] theorem build63_all (root : Root) (parent : Int) (slot : Int) (just : Int) (K : AV → Prop) : buildK Tryz.prog 65 [(0, .root root), (1, .int .i64 parent), (2, .int .u64 slot), (3, .int .u64 just)] K = K (Node.mk root parent slot just).av := build_struct Tryz.underlying65 tZero63 rfl kR rfl K
def tav (t : List Node) : AV := .st [.sl (t.map Node.av) false]
@[go_sem] theorem tav_len (t : List Node) : (tav t).len = 1 := rfl
@[go_sem] theorem tav_agg (t : List Node) : (tav t).agg = true := rfl
@[go_sem] theorem tav_idf (t : List Node) : (tav t).idf = true := rfl
@[go_sem] theorem tav_ok (t : List Node) : (tav t).ok = true := rfl
@[go_sem] theorem tav_flat (t : List Node) : (tav t).flat = false := rfl
@[go_sem] theorem tav_frz (hp : HP) (t : List Node) : (tav t).frz hp = tav t := rfl
@[go_sem] theorem tav_idL (t : List Node) : (tav t).idL = [] := rfl
@[go_sem] theorem tav_ren (ρ : Nat → Nat) (t : List Node) : (tav t).ren ρ = tav t := rfl
@[go_sem] theorem tav_sub (t : List Node) : (tav t).sub [0] = some (.sl (t.map Node.av) false) := rfl
@[go_sem] theorem tav_offs (t : List Node) : (tav t).offs [0] = some 0 := rfl
theorem tField47_0 : tFieldI Tryz.prog 24 0 = some (0, 1, false) := by kernel_rfl
@[go_sem] theorem fap47_0 (o : Nat) (p : List Nat) (off : Nat) (K : AV → Prop) : fieldAddrK Tryz.prog 24 (.ptr o p off) 0 K = K (.ptr o (p ++ [0]) (off + 0)) := fieldAddr_ptr tField47_0 (by decide) o p off K
@[go_sem] theorem far47_0 (t : List Node) (K : AV → Prop) : fieldAddrK Tryz.prog 24 (.ref (tav t)) 0 K = K (.ref (.sl (t.map Node.av) false)) := fieldAddr_ref tField47_0 (by decide) rfl rfl K
@[go_sem] theorem tSize47 : tSize Tryz.prog 24 = some 1 ∧ tAgg Tryz.prog 24 = some true := by and_intros <;> kernel_rfl
@[go_sem] theorem tZero47 : tZero Tryz.prog 24 = some (.st [.sl [] true]) := by kernel_rfl
@[go_sem] theorem tSize45 : tSize Tryz.prog 22 = some 1 ∧ tAgg Tryz.prog 22 = some false ∧ tElem Tryz.prog 22 = some 65 := by and_intros <;> kernel_rfl
@[go_sem] theorem und45 : Tryz.prog.underlying 22 = some (.slice 65) := Tryz.underlying22
@[go_sem] theorem tBytes63 : tBytes Tryz.prog 65 = some 56 ∧ tSize Tryz.prog 25 = some 1 ∧ tAgg Tryz.prog 25 = some false := by and_intros <;> kernel_rfl
@[go_sem] theorem und4 : Tryz.prog.underlying 4 = some .bool := Tryz.underlying4
@[go_sem] theorem tSize4 : tSize Tryz.prog 4 = some 1 ∧ tAgg Tryz.prog 4 = some false ∧ tBytes Tryz.prog 4 = some 1 ∧ tZero Tryz.prog 4 = some (.bool false) ∧ tSize Tryz.prog 81 = some 1 ∧ tAgg Tryz.prog 81 = some false ∧ tElem Tryz.prog 81 = some 3 := by and_intros <;> kernel_rfl
@[go_sem] theorem und51 : Tryz.prog.underlying 81 = some (.slice 3) := Tryz.underlying81
@[go_sem] theorem tBytes3 : tBytes Tryz.prog 3 = some 8 ∧ tZero Tryz.prog 3 = some (.int .i64 0) ∧ tZero Tryz.prog 81 = some (.sl [] true) := by and_intros <;> kernel_rfl
def uav (n : Int) : AV := .int .u64 n
def iav (n : Int) : AV := .int .i64 n
@[go_sem] theorem uav_len (n : Int) : (uav n).len = 1 := rfl
@[go_sem] theorem uav_agg (n : Int) : (uav n).agg = false := rfl
@[go_sem] theorem iav_len (n : Int) : (iav n).len = 1 := rfl
@[go_sem] theorem iav_agg (n : Int) : (iav n).agg = false := rfl
theorem rooteqb (a b : Root) : (AV.root a).eqb (.root b) = decide (a = b) := by simp [AV.eqb]
theorem fits23 (a : Root) : fits Tryz.prog (.root a) 34 = true := by kernel_rfl
theorem depth23 (a : Root) : (AV.root a).depth ≤ 9999 := Nat.le_of_ble_eq_true rfl
@[go_sem] theorem eql23 (a b : Root) (K : AV → Prop) : binK Tryz.prog .eql 34 (.root a) (.root b) K = K (.bool (decide (a = b))) :=
  bin_eql_of (fun _ _ h => by cases h) (fun _ h => by cases h) (fits23 a) (fits23 b) (depth23 a) kR (rooteqb a b) K
@[go_sem] theorem neq23 (a b : Root) (K : AV → Prop) : binK Tryz.prog .neq 34 (.root a) (.root b) K = K (.bool !(decide (a = b))) :=
  bin_neq_of (fun _ _ h => by cases h) (fun _ h => by cases h) (fits23 a) (fits23 b) (depth23 a) kR (rooteqb a b) K
def cmpI (a b : Int) : Int := if a < b then -1 else if b < a then 1 else 0
theorem isNaN_pure (a : Int) : Pure Tryz.prog 240 [.int .u8 a] (.bool false) := by
 have ha : (a != a) = false := by simp
 refine pure_of_tr Tryz.func240 rfl nb rfl fun E hE hP => ?_
 refine mr ?_
 have ff := ha
 refine mr ?_
 refine Tr.ret ?_
 simp only [Tryz.f240, go_sem, seval]
theorem cmp_pure (a b : Int) : Pure Tryz.prog 232 [.int .u8 a, .int .u8 b] (.int .i64 (cmpI a b)) := by
 refine pure_of_tr Tryz.func232 rfl nb rfl fun E hE hP => ?_
 refine mr ?_
 have c1 := And.intro (en Tryz.func240) (isNaN_pure a)
 refine mr ?_
 have c1 := And.intro (en Tryz.func240) (isNaN_pure b)
 refine mr ?_
 refine mr ?_
 refine mNot ?_
 refine mT ?_
 refine mr ?_
 refine mNot ?_
 refine mT ?_
 by_cases h1 : a < b
 · have e1 : decide (a < b) = true := decide_eq_true h1
   have er : cmpI a b = -1 := by simp [cmpI, h1]
   have ff := e1
   refine mr ?_
   refine mYes ?_
   refine mr ?_
   refine Tr.ret ?_
   simp only [er, Tryz.f232, go_sem, seval]
 · have e1 : decide (a < b) = false := decide_eq_false h1
   have ff := e1
   refine mr ?_
   refine mNot ?_
   refine mT ?_
   by_cases h2 : b < a
   · have e2 : decide (b < a) = true := decide_eq_true h2
     have er : cmpI a b = 1 := by simp [cmpI, h1, h2]
     have ff := e2
     refine mr ?_
     refine mYes ?_
     refine mr ?_
     refine Tr.ret ?_
     simp only [er, Tryz.f232, go_sem, seval]
   · have e2 : decide (b < a) = false := decide_eq_false h2
     have er : cmpI a b = 0 := by simp [cmpI, h1, h2]
     have ff := e2
     refine mr ?_
     refine mNot ?_
     refine mT ?_
     refine mr ?_
     refine Tr.ret ?_
     simp only [er, Tryz.f232, go_sem, seval]
def cmpL : List UInt8 → List UInt8 → Int
 | [], [] => 0
 | [], _ :: _ => -1
 | _ :: _, [] => 1
 | x :: xs, y :: ys => if (x.toNat : Int) < y.toNat then -1 else if (y.toNat : Int) < x.toNat then 1 else cmpL xs ys
def lessR (a b : Root) : Bool := decide (cmpL a.1 b.1 < 0)
theorem cmpL_self (a : List UInt8) : cmpL a a = 0 := by
 induction a with
 | nil => rfl
 | cons x xs ih => simp [cmpL, ih]
theorem cmpL_drop {a b : List UInt8} {i : Nat} (ha : i < a.length) (hb : i < b.length) : cmpL (a.drop i) (b.drop i) = if ((a[i]).toNat : Int) < (b[i]).toNat then -1 else if ((b[i]).toNat : Int) < (a[i]).toNat then 1 else cmpL (a.drop (i + 1)) (b.drop (i + 1)) := by
 rw [List.drop_eq_getElem_cons ha, List.drop_eq_getElem_cons hb, cmpL]
def st58 (a b : List UInt8) (i : Nat) : S where
 fr := [(0, .sl (a.map bav) false), (1, .sl (b.map bav) false), (9, .sl (a.map bav) false), (10, .int .i64 a.length), (11, .int .i64 i)]
 hp := []
 nx := 0
set_option maxRecDepth 4000 in
theorem scompare_pure (a b : List UInt8) (hab : a.length = b.length) (hl : a.length ≤ 100) : Pure Tryz.prog 216 [.sl (a.map bav) false, .sl (b.map bav) false] (.int .i64 (cmpL a b)) := by
 refine pure_of_tr Tryz.func216 rfl nb rfl fun E hE hP => ?_
 refine mr ?_
 refine mr ?_
 refine mBk ?_
 refine Tr.loop (st58 a b) (fun i => i ≤ a.length ∧ cmpL a b = cmpL (a.drop i) (b.drop i)) (fun i => a.length - i) 0 ⟨Nat.zero_le _, by rw [List.drop_zero, List.drop_zero]⟩ ?_ ?_
 · exact mK
 · rintro i ⟨hi, hc⟩
   unfold st58
   refine mr ?_
   refine Tr.seq (Tr.cond rfl (fun h1 => ?_) (fun h1 => ?_))
   · refine mT ?_
     have hlt : i < a.length := by have := of_decide_eq_true h1; omega
     have hltb : i < b.length := by omega
     have ha := nth_map_lt bav a i hlt
     have hb := nth_map_lt bav b i hltb
     have hw := wN i
     have hd := cmpL_drop hlt hltb
     simp only [bav] at ha hb
     have hge : decide ((b.length : Int) ≤ (i : Int)) = false := dfO
     refine mBk ?_
     refine mSr ?_
     repeat (refine vc_op rfl ?_; simp only [ha, bav, go_sem, ↓Nat.reduceBEq, ↓Nat.reduceAdd, ↓Nat.reduceSub, ↓Nat.reduceMul, ↓Nat.reduceEqDiff, ↓Nat.reducePow, ↓Nat.reduceLeDiff, ↓Nat.reduceLT, ↓Int.reduceLE, ↓Int.reduceLT, ↓reduceIte, ↓reduceCtorEq])
     refine vc_nil ?_
     have ff := hge
     refine mr ?_
     refine mNot ?_
     refine mT ?_
     have ff := hb
     refine mr ?_
     have c1 := And.intro (en Tryz.func232) (cmp_pure ((a[i]).toNat : Int) ((b[i]).toNat : Int))
     refine mr ?_
     by_cases hlt1 : ((a[i]).toNat : Int) < (b[i]).toNat
     · have e1 : cmpI ((a[i]).toNat : Int) ((b[i]).toNat : Int) = -1 := by simp [cmpI, hlt1]
       have er : cmpL a b = -1 := by rw [hc, hd, if_pos hlt1]
       rw [e1]
       refine mr ?_
       refine mYes ?_
       refine mr ?_
       refine Tr.ret ?_
       simp only [er, Tryz.f216, go_sem, ↓Nat.reduceBEq, ↓Nat.reduceAdd, ↓Nat.reduceSub, ↓Nat.reduceMul, ↓Nat.reduceEqDiff, ↓Nat.reducePow, ↓Nat.reduceLeDiff, ↓Nat.reduceLT, ↓Int.reduceLE, ↓Int.reduceLT, ↓reduceIte, ↓reduceCtorEq]
     · by_cases hlt2 : ((b[i]).toNat : Int) < (a[i]).toNat
       · have e1 : cmpI ((a[i]).toNat : Int) ((b[i]).toNat : Int) = 1 := by simp [cmpI, hlt1, hlt2]
         have er : cmpL a b = 1 := by rw [hc, hd, if_neg hlt1, if_pos hlt2]
         rw [e1]
         refine mr ?_
         refine mYes ?_
         refine mr ?_
         refine Tr.ret ?_
         simp only [er, Tryz.f216, go_sem, ↓Nat.reduceBEq, ↓Nat.reduceAdd, ↓Nat.reduceSub, ↓Nat.reduceMul, ↓Nat.reduceEqDiff, ↓Nat.reducePow, ↓Nat.reduceLeDiff, ↓Nat.reduceLT, ↓Int.reduceLE, ↓Int.reduceLT, ↓reduceIte, ↓reduceCtorEq]
       · have e1 : cmpI ((a[i]).toNat : Int) ((b[i]).toNat : Int) = 0 := by simp [cmpI, hlt1, hlt2]
         have er : cmpL a b = cmpL (a.drop (i + 1)) (b.drop (i + 1)) := by rw [hc, hd, if_neg hlt1, if_neg hlt2]
         rw [e1]
         refine mr ?_
         refine Tr.cond rfl (fun h => by cases h) (fun _ => ?_)
         refine mT ?_
         refine tr_region xE ?_
         repeat (refine vc_op rfl ?_; simp only [go_sem, ↓Nat.reduceBEq, ↓Nat.reduceAdd, ↓Nat.reduceSub, ↓Nat.reduceMul, ↓Nat.reduceEqDiff, ↓Nat.reducePow, ↓Nat.reduceLeDiff, ↓Nat.reduceLT, ↓Int.reduceLE, ↓Int.reduceLT, ↓reduceIte, ↓reduceCtorEq])
         refine vc_nil ?_
         rw [hw]
         refine mU ?_
         refine ⟨i + 1, ⟨hlt, er⟩, by omega, ?_⟩
         exact mK
   · refine Tr.exit ?_
     refine mU ?_
     have hil : i = a.length := by have := of_decide_eq_false h1; omega
     have er : cmpL a b = 0 := by rw [hc, hil, List.drop_length, hab, List.drop_length]; rfl
     have hlb : decide ((a.length : Int) < (b.length : Int)) = false := dfO
     have ff := hlb
     refine mr ?_
     refine mNot ?_
     refine mT ?_
     refine mr ?_
     refine Tr.ret ?_
     simp only [er, Tryz.f216, go_sem, ↓Nat.reduceBEq, ↓Nat.reduceAdd, ↓Nat.reduceSub, ↓Nat.reduceMul, ↓Nat.reduceEqDiff, ↓Nat.reducePow, ↓Nat.reduceLeDiff, ↓Nat.reduceLT, ↓Int.reduceLE, ↓Int.reduceLT, ↓reduceIte, ↓reduceCtorEq]
theorem scompare_root (a b : Root) : Pure Tryz.prog 216 [.sl (a.1.map fun b => .int .u8 b.toNat) false, .sl (b.1.map fun b => .int .u8 b.toNat) false] (.int .i64 (cmpL a.1 b.1)) :=
 scompare_pure a.1 b.1 (a.2.trans b.2.symm) (by rw [a.2]; decide)
theorem lessR_self (a : Root) : lessR a a = false := by simp [lessR, cmpL_self]
theorem less_pure (a b : Root) : Pure Tryz.prog 172 [.root a, .root b] (.bool (lessR a b)) := by
 refine pure_of_tr Tryz.func172 rfl nb rfl fun E hE hP => ?_
 refine mr ?_
 by_cases hab : a = b
 · have e0 : decide (a = b) = true := decide_eq_true hab
   have er : lessR a b = false := by rw [hab]; exact lessR_self b
   have ff := e0
   refine mr ?_
   refine Tr.ret ?_
   simp only [er, Tryz.f172, go_sem, ↓Nat.reduceBEq, ↓Nat.reduceAdd, ↓Nat.reduceSub, ↓Nat.reduceMul, ↓Nat.reduceEqDiff, ↓Nat.reducePow, ↓Nat.reduceLeDiff, ↓Nat.reduceLT, ↓Int.reduceLE, ↓Int.reduceLT, ↓reduceIte, ↓reduceCtorEq]
 · have e0 : decide (a = b) = false := decide_eq_false hab
   have er : lessR a b = decide (cmpL a.1 b.1 < 0) := rfl
   first | apply tr_md mixed [0, 16] rfl xE kR | (refine Tr.seq ?_; apply tr_md mixed [0, 16] rfl xE kR)
   intro Q hQ
   refine mS ?_
   iterate 4 ((refine vd2_q rfl ?_); intro r hr; simp only [e0, go_sem, ↓Nat.reduceBEq, ↓Nat.reduceAdd, ↓Nat.reduceSub, ↓Nat.reduceMul, ↓Nat.reduceEqDiff, ↓Nat.reducePow, ↓Nat.reduceLeDiff, ↓Nat.reduceLT, ↓Int.reduceLE, ↓Int.reduceLT, ↓reduceIte, ↓reduceCtorEq]; subst hr)
   iterate 2 ((first | refine vd2_goq rfl rfl ?_ | refine vd2_no rfl ?_ | refine vd2_skip rfl ?_); intro r hr; simp only [e0, go_sem, ↓Nat.reduceBEq, ↓Nat.reduceAdd, ↓Nat.reduceSub, ↓Nat.reduceMul, ↓Nat.reduceEqDiff, ↓Nat.reducePow, ↓Nat.reduceLeDiff, ↓Nat.reduceLT, ↓Int.reduceLE, ↓Int.reduceLT, ↓reduceIte, ↓reduceCtorEq]; subst hr)
   (first | refine vd2_gox rfl rfl ?_ | refine vd2_no rfl ?_ | refine vd2_skip rfl ?_); intro r hr; simp only [e0, go_sem, ↓Nat.reduceBEq, ↓Nat.reduceAdd, ↓Nat.reduceSub, ↓Nat.reduceMul, ↓Nat.reduceEqDiff, ↓Nat.reducePow, ↓Nat.reduceLeDiff, ↓Nat.reduceLT, ↓Int.reduceLE, ↓Int.reduceLT, ↓reduceIte, ↓reduceCtorEq]
   refine call_fn rfl rfl rfl rfl (en Tryz.func216) (scompare_root a b) (by (simp only [go_sem, ↓Nat.reduceBEq, ↓Nat.reduceAdd, ↓Nat.reduceSub, ↓Nat.reduceMul, ↓Nat.reduceEqDiff, ↓Nat.reducePow, ↓Nat.reduceLeDiff, ↓Nat.reduceLT, ↓Int.reduceLE, ↓Int.reduceLT, ↓reduceIte, ↓reduceCtorEq]) <;> rfl) rfl rfl ?_
   simp only [go_sem, ↓Nat.reduceBEq, ↓Nat.reduceAdd, ↓Nat.reduceSub, ↓Nat.reduceMul, ↓Nat.reduceEqDiff, ↓Nat.reducePow, ↓Nat.reduceLeDiff, ↓Nat.reduceLT, ↓Int.reduceLE, ↓Int.reduceLT, ↓reduceIte, ↓reduceCtorEq]
   subst hr
   (first | refine vd2_goq rfl rfl ?_ | refine vd2_no rfl ?_ | refine vd2_skip rfl ?_); intro r hr; simp only [go_sem, ↓Nat.reduceBEq, ↓Nat.reduceAdd, ↓Nat.reduceSub, ↓Nat.reduceMul, ↓Nat.reduceEqDiff, ↓Nat.reducePow, ↓Nat.reduceLeDiff, ↓Nat.reduceLT, ↓Int.reduceLE, ↓Int.reduceLT, ↓reduceIte, ↓reduceCtorEq]; subst hr
   iterate 2 ((refine vd2_q rfl ?_); intro r hr; simp only [go_sem, ↓Nat.reduceBEq, ↓Nat.reduceAdd, ↓Nat.reduceSub, ↓Nat.reduceMul, ↓Nat.reduceEqDiff, ↓Nat.reducePow, ↓Nat.reduceLeDiff, ↓Nat.reduceLT, ↓Int.reduceLE, ↓Int.reduceLT, ↓reduceIte, ↓reduceCtorEq]; subst hr)
   exact hQ
   refine Tr.ret ?_
   simp only [er, Tryz.f172, go_sem, ↓Nat.reduceBEq, ↓Nat.reduceAdd, ↓Nat.reduceSub, ↓Nat.reduceMul, ↓Nat.reduceEqDiff, ↓Nat.reducePow, ↓Nat.reduceLeDiff, ↓Nat.reduceLT, ↓Int.reduceLE, ↓Int.reduceLT, ↓reduceIte, ↓reduceCtorEq]
@[go_sem] theorem root_offs (a : Root) (i : Nat) : (AV.root a).offs [i] = some i := by simp [AV.offs]
def st54_0 (a b : Root) (i : Nat) : S where
 fr := [(2, .ptr 0 [] 0), (3, .ptr 16 [] 0), (5, .int .i64 i)]
 hp := [(0, .var (.root a)), (16, .var (.root b))]
 nx := 48
set_option maxRecDepth 10000 in
theorem refless_pure (a b : Root) : Pure Tryz.prog 184 [.root a, .root b] (.bool (lessR a b)) := by
 refine pure_of_tr Tryz.func184 rfl nb rfl fun E hE hP => ?_
 refine mr ?_
 refine mr ?_
 refine mBk ?_
 refine Tr.loop (st54_0 a b) (fun i => i ≤ 32 ∧ cmpL a.1 b.1 = cmpL (a.1.drop i) (b.1.drop i)) (fun i => 32 - i) 0 ⟨by omega, by rw [List.drop_zero, List.drop_zero]⟩ ?_ ?_
 · exact mK
 · rintro i ⟨hi, hc⟩
   unfold st54_0
   refine mr ?_
   first | refine Tr.cond rfl (fun h1 => ?_) (fun h1 => ?_) | refine Tr.seq (Tr.cond rfl (fun h1 => ?_) (fun h1 => ?_))
   · refine mT ?_
     have hlt : i < 32 := by have := of_decide_eq_true h1; omega
     have hla : i < a.1.length := by rw [a.2]; exact hlt
     have hlb : i < b.1.length := by rw [b.2]; exact hlt
     have hw := wN i
     have hd := cmpL_drop hla hlb
     have hz : 0 ≤ (i : Int) := by omega
     have h32 : (i : Int) < ((32 : Nat) : Int) := by omega
     have sa := List.getElem?_eq_getElem hla
     have sb := List.getElem?_eq_getElem hlb
     refine mBk ?_
     by_cases hne : ((a.1[i]).toNat : Int) = (b.1[i]).toNat
     · have e1 : (((a.1[i]).toNat : Int) != ((b.1[i]).toNat : Int)) = false := by simp [hne]
       first | apply tr_md mixed [0, 16] rfl xE kR | (refine Tr.seq ?_; apply tr_md mixed [0, 16] rfl xE kR)
       intro Q hQ
       refine mS ?_
       iterate 7 ((refine vd2_q rfl ?_); intro r hr; simp only [hz, h32, Int.toNat_natCast, Nat.mul_one, true_and, Option.map_some, sa, sb, e1, go_sem, ↓Nat.reduceBEq, ↓Nat.reduceAdd, ↓Nat.reduceSub, ↓Nat.reduceMul, ↓Nat.reduceEqDiff, ↓Nat.reducePow, ↓Nat.reduceLeDiff, ↓Nat.reduceLT, ↓Int.reduceLE, ↓Int.reduceLT, ↓reduceIte, ↓reduceCtorEq]; subst hr)
       exact hQ
       refine mNot ?_
       refine mT ?_
       have er : cmpL a.1 b.1 = cmpL (a.1.drop (i + 1)) (b.1.drop (i + 1)) := by rw [hc, hd, if_neg (by omega), if_neg (by omega)]
       refine tr_region xE ?_
       repeat (refine vc_op rfl ?_; simp only [go_sem, ↓Nat.reduceBEq, ↓Nat.reduceAdd, ↓Nat.reduceSub, ↓Nat.reduceMul, ↓Nat.reduceEqDiff, ↓Nat.reducePow, ↓Nat.reduceLeDiff, ↓Nat.reduceLT, ↓Int.reduceLE, ↓Int.reduceLT, ↓reduceIte, ↓reduceCtorEq])
       refine vc_nil ?_
       rw [hw]
       refine mU ?_
       refine ⟨i + 1, ⟨hlt, er⟩, by omega, ?_⟩
       exact mK
     · have e1 : (((a.1[i]).toNat : Int) != ((b.1[i]).toNat : Int)) = true := by simp [hne]
       have er : lessR a b = decide (((a.1[i]).toNat : Int) < (b.1[i]).toNat) := by
        unfold lessR
        rw [hc, hd]
        by_cases h : ((a.1[i]).toNat : Int) < (b.1[i]).toNat
        · simp [h]
        · rw [if_neg h, if_pos (by omega)]; simp [h]
       first | apply tr_md mixed [0, 16] rfl xE kR | (refine Tr.seq ?_; apply tr_md mixed [0, 16] rfl xE kR)
       intro Q hQ
       refine mS ?_
       iterate 7 ((refine vd2_q rfl ?_); intro r hr; simp only [hz, h32, Int.toNat_natCast, Nat.mul_one, true_and, Option.map_some, sa, sb, e1, go_sem, ↓Nat.reduceBEq, ↓Nat.reduceAdd, ↓Nat.reduceSub, ↓Nat.reduceMul, ↓Nat.reduceEqDiff, ↓Nat.reducePow, ↓Nat.reduceLeDiff, ↓Nat.reduceLT, ↓Int.reduceLE, ↓Int.reduceLT, ↓reduceIte, ↓reduceCtorEq]; subst hr)
       exact hQ
       refine mYes ?_
       first | apply tr_md mixed [0, 16] rfl xE kR | (refine Tr.seq ?_; apply tr_md mixed [0, 16] rfl xE kR)
       intro Q hQ
       refine mS ?_
       iterate 8 ((refine vd2_q rfl ?_); intro r hr; simp only [hz, h32, Int.toNat_natCast, Nat.mul_one, true_and, Option.map_some, sa, sb, go_sem, ↓Nat.reduceBEq, ↓Nat.reduceAdd, ↓Nat.reduceSub, ↓Nat.reduceMul, ↓Nat.reduceEqDiff, ↓Nat.reducePow, ↓Nat.reduceLeDiff, ↓Nat.reduceLT, ↓Int.reduceLE, ↓Int.reduceLT, ↓reduceIte, ↓reduceCtorEq]; subst hr)
       exact hQ
       refine Tr.ret ?_
       simp only [er, Tryz.f184, go_sem, ↓Nat.reduceBEq, ↓Nat.reduceAdd, ↓Nat.reduceSub, ↓Nat.reduceMul, ↓Nat.reduceEqDiff, ↓Nat.reducePow, ↓Nat.reduceLeDiff, ↓Nat.reduceLT, ↓Int.reduceLE, ↓Int.reduceLT, ↓reduceIte, ↓reduceCtorEq]
   · refine Tr.exit ?_
     refine mU ?_
     have hil : i = 32 := by have := of_decide_eq_false h1; omega
     have er : lessR a b = false := by
      have h0 : cmpL a.1 b.1 = 0 := by
       rw [hc, hil, List.drop_of_length_le (by rw [a.2]; omega), List.drop_of_length_le (by rw [b.2]; omega)]; rfl
      simp [lessR, h0]
     refine mr ?_
     refine Tr.ret ?_
     simp only [er, Tryz.f184, go_sem, ↓Nat.reduceBEq, ↓Nat.reduceAdd, ↓Nat.reduceSub, ↓Nat.reduceMul, ↓Nat.reduceEqDiff, ↓Nat.reducePow, ↓Nat.reduceLeDiff, ↓Nat.reduceLT, ↓Int.reduceLE, ↓Int.reduceLT, ↓reduceIte, ↓reduceCtorEq]
def fitsB (t : List Node) (i : Nat) : Bool :=
 match t[i]? with
 | none => false
 | some n => if i = 0 then decide (n.parent = -1) && decide (n.slot ≤ 1099511627776)
   else decide (0 ≤ n.parent) && decide (n.parent < i) && decide (n.slot ≤ 1099511627776) && decide ((t.getD n.parent.toNat zNode).slot < n.slot)
set_option maxRecDepth 10000 in
theorem fits_pure (t : List Node) (i : Nat) (hi : i < t.length) : Pure Tryz.prog 147 [.sl (t.map Node.av) false, .int .i64 i] (.bool (fitsB t i)) := by
 have ha := nth_map_lt Node.av t i hi
 have hf : fitsB t i = (if i = 0 then decide (t[i].parent = -1) && decide (t[i].slot ≤ 1099511627776)
  else decide (0 ≤ t[i].parent) && decide (t[i].parent < i) && decide (t[i].slot ≤ 1099511627776) && decide ((t.getD t[i].parent.toNat zNode).slot < t[i].slot)) := by
  simp [fitsB, hi]
 generalize t[i] = n at ha hf
 refine pure_of_tr Tryz.func147 rfl nb rfl fun E hE hP => ?_
 refine mr ?_
 have ff := ha
 refine mr ?_
 by_cases h0 : i = 0
 · have e0 : ((i : Int) == 0) = true := by simp [h0]
   rw [if_pos h0] at hf
   have ff := e0
   refine mr ?_
   refine mYes ?_
   by_cases h1 : n.parent = -1
   · have e1 : (n.parent == -1) = true := by simp [h1]
     have er : fitsB t i = decide (n.slot ≤ 1099511627776) := by rw [hf]; simp [h1]
     have ff := e1
     refine mr ?_
     refine Tr.ret ?_
     simp only [er, Tryz.f147, go_sem, seval]
   · have e1 : (n.parent == -1) = false := by simp [h1]
     have er : fitsB t i = false := by rw [hf]; simp [h1]
     have ff := e1
     refine mr ?_
     refine Tr.ret ?_
     simp only [er, Tryz.f147, go_sem, seval]
 · have e0 : ((i : Int) == 0) = false := by simp [h0]
   rw [if_neg h0] at hf
   have ff := e0
   refine mr ?_
   refine mNot ?_
   refine mT ?_
   by_cases h1 : 0 ≤ n.parent
   · have e1 : decide (0 ≤ n.parent) = true := decide_eq_true h1
     by_cases h2 : n.parent < i
     · have e2 : decide (n.parent < i) = true := decide_eq_true h2
       by_cases h3 : n.slot ≤ 1099511627776
       · have e3 : decide (n.slot ≤ 1099511627776) = true := decide_eq_true h3
         obtain ⟨p, hp⟩ : ∃ p : Nat, n.parent = p := ⟨n.parent.toNat, by omega⟩
         have hpl : p < t.length := by omega
         have hb := nth_map_lt Node.av t p hpl
         have er : fitsB t i = decide ((t[p]).slot < n.slot) := by rw [hf, e1, e2, e3, hp]; simp [hpl]
         rw [hp] at e1 e2
         have ff := And.intro hp (And.intro e1 (And.intro e2 (And.intro e3 hb)))
         refine mr ?_
         refine Tr.ret ?_
         simp only [er, Tryz.f147, go_sem, seval]
       · have e3 : decide (n.slot ≤ 1099511627776) = false := decide_eq_false h3
         have er : fitsB t i = false := by rw [hf]; simp [h3]
         have ff := And.intro e1 (And.intro e2 e3)
         refine mr ?_
         refine Tr.ret ?_
         simp only [er, Tryz.f147, go_sem, seval]
     · have e2 : decide (n.parent < i) = false := decide_eq_false h2
       have er : fitsB t i = false := by rw [hf]; simp [h2]
       have ff := And.intro e1 e2
       refine mr ?_
       refine Tr.ret ?_
       simp only [er, Tryz.f147, go_sem, seval]
   · have e1 : decide (0 ≤ n.parent) = false := decide_eq_false h1
     have er : fitsB t i = false := by rw [hf]; simp [h1]
     have ff := e1
     refine mr ?_
     refine Tr.ret ?_
     simp only [er, Tryz.f147, go_sem, seval]
def entE (e : Root × Nat) : AV × AV := (.root e.1, .int .i64 e.2)
def setR (es : List (Root × Nat)) (r : Root) (i : Nat) : List (Root × Nat) :=
 match es.findIdx? fun e => decide (r = e.1) with
 | some k => es.set k (r, i)
 | none => es ++ [(r, i)]
def idxTo (t : List Node) : Nat → List (Root × Nat)
 | 0 => []
 | i + 1 => match t[i]? with
   | some n => setR (idxTo t i) n.root i
   | none => idxTo t i
def onceB (t : List Node) : Bool := decide ((t.map Node.root).Nodup)
theorem tMap88 : tMap Tryz.prog 117 = some (34, 3) := by kernel_rfl
theorem keys88 (es : List (Root × Nat)) : keysFit Tryz.prog 34 (es.map entE) := fun e he => by
 obtain ⟨x, _, rfl⟩ := List.mem_map.1 he
 exact fits23 x.1
theorem setE_ent (es : List (Root × Nat)) (r : Root) (i : Nat) : setE (.root r) (.int .i64 i) (es.map entE) = (setR es r i).map entE := by
 unfold setE setR
 have h : (es.map entE).findIdx? (fun e => (AV.root r).eqb e.1) = es.findIdx? fun e => decide (r = e.1) := by
  rw [List.findIdx?_map]
  congr 1
 rw [h]
 cases es.findIdx? fun e => decide (r = e.1) with
 | some k => simp only [List.map_set]; rfl
 | none => simp only [List.map_append]; rfl
theorem upd88 {hp : HP} {o : Nat} {es : List (Root × Nat)} {r : Root} {n : Nat} {K : AV → HP → Prop} (hg : HP.get hp o = some (.amap (es.map entE))) (h : K (.tup []) (HP.set hp o (.amap ((setR es r n).map entE)))) :
 mapUpdateK Tryz.prog 117 hp (.mp o) (.root r) (.int .i64 n) K := by
 simp only [mapUpdateK, tMap88, hg]
 refine ⟨fits23 r, depth23 r, keys88 es, rfl, rfl, ?_⟩
 rw [setE_ent]
 exact h
theorem setR_len (es : List (Root × Nat)) (r : Root) (i : Nat) : (setR es r i).length = es.length + (if r ∈ es.map (·.1) then 0 else 1) := by
 unfold setR
 split
 · rename_i k hk
   obtain ⟨h1, h2, _⟩ := List.findIdx?_eq_some_iff_getElem.1 hk
   rw [List.length_set, if_pos (List.mem_map.2 ⟨es[k], List.getElem_mem h1, (of_decide_eq_true h2).symm⟩)]
   rfl
 · rename_i hk
   rw [List.length_append, if_neg]
   · rfl
   · intro h
     obtain ⟨e, he, h2⟩ := List.mem_map.1 h
     have := List.findIdx?_eq_none_iff.1 hk e he
     simp [h2] at this
theorem setR_mem (es : List (Root × Nat)) (r x : Root) (i : Nat) : x ∈ (setR es r i).map (·.1) ↔ x ∈ es.map (·.1) ∨ x = r := by
 unfold setR
 split
 · rename_i k hk
   obtain ⟨h1, h2, _⟩ := List.findIdx?_eq_some_iff_getElem.1 hk
   have h3 : es[k].1 = r := (of_decide_eq_true h2).symm
   have h4 : (es.set k (r, i)).map (·.1) = es.map (·.1) := by
    rw [List.map_set]
    apply List.ext_getElem (by simp)
    intro j h5 h6
    rw [List.getElem_set]
    split
    · rename_i hkj
      subst hkj
      simp [h3]
    · rfl
   rw [h4]
   constructor
   · exact fun h => .inl h
   · rintro (h | h)
     · exact h
     · rw [h, ← h3]
       exact List.mem_map.2 ⟨es[k], List.getElem_mem h1, rfl⟩
 · simp [List.map_append]
theorem idxTo_law (t : List Node) : ∀ k, k ≤ t.length → (∀ x, x ∈ (idxTo t k).map (·.1) ↔ x ∈ (t.map Node.root).take k) ∧ (idxTo t k).length ≤ k ∧ ((idxTo t k).length = k ↔ ((t.map Node.root).take k).Nodup)
 | 0, _ => by simp [idxTo]
 | k + 1, hk => by
   obtain ⟨h1, h2, h3⟩ := idxTo_law t k (by omega)
   have hg : t[k]? = some t[k] := List.getElem?_eq_getElem (by omega)
   have e : idxTo t (k + 1) = setR (idxTo t k) t[k].root k := by rw [idxTo, hg]
   have et : (t.map Node.root).take (k + 1) = (t.map Node.root).take k ++ [t[k].root] := by
    rw [List.take_add_one, List.getElem?_map, hg]; rfl
   rw [e, et]
   refine ⟨fun x => ?_, ?_, ?_⟩
   · rw [setR_mem, h1]; simp
   · rw [setR_len]; split <;> omega
   · rw [setR_len, List.nodup_append]
     by_cases hm : t[k].root ∈ (idxTo t k).map (·.1)
     · rw [if_pos hm]
       have hm' := (h1 _).1 hm
       constructor
       · intro h; omega
       · intro h; exact absurd rfl (h.2.2 _ hm' _ (List.mem_singleton.2 rfl))
     · rw [if_neg hm]
       have hm' : t[k].root ∉ (t.map Node.root).take k := fun h => hm ((h1 _).2 h)
       constructor
       · intro h
         refine ⟨h3.1 (by omega), by simp, fun a ha b hb hab => ?_⟩
         rw [List.mem_singleton.1 hb] at hab
         exact hm' (hab ▸ ha)
       · intro h
         have := h3.2 h.1
         omega
theorem idx_once (t : List Node) : decide (((idxTo t t.length).length : Int) = (t.length : Int)) = onceB t := by
 have := (idxTo_law t t.length (Nat.le_refl _)).2.2
 rw [List.take_of_length_le (by simp)] at this
 unfold onceB
 apply decide_eq_decide.2
 rw [← this]
 omega
@[go_sem] theorem ren_amap (ρ : Nat → Nat) (es : List (AV × AV)) : (AO.amap es).ren ρ = .amap es := rfl
def st56 (t : List Node) (i : Nat) : S where
 fr := [(0, .sl (t.map Node.av) false), (4, .mp 0), (8, .sl (t.map Node.av) false), (9, .int .i64 t.length), (10, .int .i64 i)]
 hp := [(0, .amap ((idxTo t i).map entE))]
 nx := 1
set_option maxRecDepth 10000 in
theorem index_own (t : List Node) (hl : t.length ≤ 100) : Own Tryz.prog 72 [.sl (t.map Node.av) false] (.tup [.mp 0, .bool (onceB t)]) [(0, .amap ((idxTo t t.length).map entE))] := by
 refine own_of_tr Tryz.func72 rfl nb rfl fun E hE hP => ?_
 refine mr ?_
 refine mr ?_
 refine mr ?_
 refine mBk ?_
 refine Tr.loop (st56 t) (fun i => i ≤ t.length) (fun i => t.length - i) 0 (Nat.zero_le _) ?_ ?_
 · refine wk_ren (fun | 0 => 32 | n => n) mB mB rfl rfl rfl
 · intro i hi
   unfold st56
   refine mr ?_
   first | refine Tr.cond rfl (fun h1 => ?_) (fun h1 => ?_) | refine Tr.seq (Tr.cond rfl (fun h1 => ?_) (fun h1 => ?_))
   · refine mT ?_
     have hlt : i < t.length := by have := of_decide_eq_true h1; omega
     have ha := nth_map_lt Node.av t i hlt
     have hg : t[i]? = some t[i] := List.getElem?_eq_getElem hlt
     have e : idxTo t (i + 1) = setR (idxTo t i) t[i].root i := by rw [idxTo, hg]
     generalize t[i] = n at ha e
     have hw := wN i
     refine mBk ?_
     have ff := ha
     refine mr ?_
     refine tr_region xE ?_
     refine mO ?_
     refine upd88 rfl ?_
     refine mS ?_
     refine vc_nil ?_
     refine mU ?_
     refine mRd ?_
     rw [hw]
     refine mU ?_
     refine ⟨i + 1, hlt, by omega, ?_⟩
     rw [e]
     exact mK
   · refine Tr.exit ?_
     refine mU ?_
     have hil : i = t.length := by have := of_decide_eq_false h1; omega
     subst hil
     have ho := idx_once t
     refine mr ?_
     refine Tr.ret ?_
     simp only [ho, Tryz.f72, go_sem, seval]
     exact ⟨fun n => n, rfl, ⟨⟨rfl, rfl, rfl⟩, trivial⟩, rfl⟩
def mayB (t : List Node) : Bool := decide (1 ≤ t.length) && decide (t.length ≤ 12) && (List.range t.length).all (fitsB t) && onceB t
def st34 (t : List Node) (i : Nat) : S where
 fr := [(1, .ptr 0 [] 0), (18, .int .i64 t.length), (19, .int .i64 i)]
 hp := [(0, .var (tav t))]
 nx := 1
theorem all_range {n : Nat} {p : Nat → Bool} (h : ∀ j, j < n → p j = true) : (List.range n).all p = true := List.all_eq_true.2 fun j hj => h j (List.mem_range.1 hj)
theorem not_all_range {n i : Nat} {p : Nat → Bool} (hi : i < n) (h : p i = false) : (List.range n).all p = false := by
 rw [List.all_eq_false]
 exact ⟨i, List.mem_range.2 hi, by simp [h]⟩
set_option maxRecDepth 10000 in
theorem may_pure (t : List Node) : Pure Tryz.prog 71 [tav t] (.bool (mayB t)) := by
 refine pure_of_tr Tryz.func71 rfl nb rfl fun E hE hP => ?_
 refine mr ?_
 by_cases h0 : t.length = 0
 · have e0 : ((t.length : Int) == 0) = true := by simp [h0]
   have er : mayB t = false := by simp [mayB, h0]
   have ff := e0
   refine mr ?_
   refine mYes ?_
   refine mr ?_
   refine Tr.ret ?_
   simp only [er, Tryz.f71, go_sem, seval]
 · have e0 : ((t.length : Int) == 0) = false := by rw [int_beq]; exact dfO
   by_cases h12 : 12 < t.length
   · have e1 : decide ((12 : Int) < (t.length : Int)) = true := dtO
     have a2 : decide (t.length ≤ 12) = false := dfO
     have er : mayB t = false := by simp [mayB, a2]
     have ff := And.intro e0 e1
     refine mr ?_
     refine mYes ?_
     refine mr ?_
     refine Tr.ret ?_
     simp only [er, Tryz.f71, go_sem, seval]
   · have e1 : decide ((12 : Int) < (t.length : Int)) = false := dfO
     have hm : mayB t = ((List.range t.length).all (fitsB t) && onceB t) := by
      have a1 : decide (1 ≤ t.length) = true := dtO
      have a2 : decide (t.length ≤ 12) = true := dtO
      simp [mayB, a1, a2]
     have ff := And.intro e0 e1
     refine mr ?_
     refine mNot ?_
     refine mT ?_
     refine mr ?_
     refine mBk ?_
     refine Tr.loop (st34 t) (fun i => i ≤ t.length ∧ ∀ j, j < i → fitsB t j = true) (fun i => t.length - i) 0 ⟨Nat.zero_le _, fun j hj => absurd hj (Nat.not_lt_zero j)⟩ ?_ ?_
     · exact mK
     · rintro i ⟨hi, hall⟩
       unfold st34
       refine mr ?_
       first | refine Tr.cond rfl (fun h1 => ?_) (fun h1 => ?_) | refine Tr.seq (Tr.cond rfl (fun h1 => ?_) (fun h1 => ?_))
       · refine mT ?_
         have hlt : i < t.length := by have := of_decide_eq_true h1; omega
         have hw := wN i
         refine mBk ?_
         refine mr ?_
         by_cases hf : fitsB t i = true
         · have ff := hf
           have c1 := And.intro (en Tryz.func147) (fits_pure t i hlt)
           refine mr ?_
           refine mNot ?_
           refine mT ?_
           refine mRd ?_
           rw [hw]
           refine mU ?_
           refine ⟨i + 1, ⟨hlt, fun j hj => ?_⟩, by omega, ?_⟩
           · rcases Nat.lt_or_ge j i with hj' | hj'
             · exact hall j hj'
             · rw [show j = i by omega]; exact hf
           exact mK
         · have hf : fitsB t i = false := by simpa using hf
           have er : mayB t = false := by rw [hm, not_all_range hlt hf]; rfl
           have ff := hf
           have c1 := And.intro (en Tryz.func147) (fits_pure t i hlt)
           refine mr ?_
           refine mYes ?_
           refine mr ?_
           refine Tr.ret ?_
           simp only [er, Tryz.f71, go_sem, seval]
       · refine Tr.exit ?_
         refine mU ?_
         have hil : i = t.length := by have := of_decide_eq_false h1; omega
         subst hil
         have er : mayB t = onceB t := by rw [hm, all_range hall]; rfl
         have o1 := And.intro (en Tryz.func72) (index_own t (by omega))
         refine mr ?_
         refine mr ?_
         refine Tr.ret ?_
         simp only [er, Tryz.f71, go_sem, seval]
def freshB (t : List Node) (i : Nat) : Bool := (List.range i).all fun k => decide ((t.getD k zNode).root ≠ (t.getD i zNode).root)
def refmayB (t : List Node) : Bool := (List.range t.length).all (fun i => fitsB t i && freshB t i) && (decide (1 ≤ t.length) && decide (t.length ≤ 12))
theorem once_fresh (t : List Node) : onceB t = (List.range t.length).all (freshB t) := by
 rw [Bool.eq_iff_iff]
 unfold onceB freshB
 rw [decide_eq_true_iff, List.all_eq_true, List.Nodup, List.pairwise_iff_getElem]
 constructor
 · intro h i hi
   rw [List.all_eq_true]
   intro k hk
   have hi := List.mem_range.1 hi
   have hk := List.mem_range.1 hk
   have := h k i (by simp; omega) (by simp; omega) hk
   simp only [List.getElem_map] at this
   rw [decide_eq_true_iff]
   simpa [show k < t.length by omega, hi] using this
 · intro h i j h1 h2 hij
   simp only [List.length_map] at h1 h2
   have := List.all_eq_true.1 (h j (List.mem_range.2 h2)) i (List.mem_range.2 hij)
   rw [decide_eq_true_iff] at this
   simpa [h1, h2] using this
theorem all_and' {α : Type} (l : List α) (p q : α → Bool) : (l.all fun x => p x && q x) = (l.all p && l.all q) := by
 induction l with
 | nil => rfl
 | cons a l ih => simp only [List.all_cons, ih]; cases p a <;> cases q a <;> cases l.all p <;> rfl
theorem refmay_eq (t : List Node) : refmayB t = mayB t := by
 unfold refmayB mayB
 rw [once_fresh, all_and']
 cases decide (1 ≤ t.length) <;> cases decide (t.length ≤ 12) <;> cases (List.range t.length).all (fitsB t) <;> cases (List.range t.length).all (freshB t) <;> rfl
def st62_0 (t : List Node) (i : Nat) : S where
 fr := [(1, .ptr 0 [] 0), (3, .int .i64 i)]
 hp := [(0, .var (tav t))]
 nx := 1
def st62_1 (t : List Node) (n : Node) (i k : Nat) : S where
 fr := [(1, .ptr 0 [] 0), (3, .int .i64 i), (4, .ptr 1 [] 0), (5, .int .i64 k)]
 hp := [(0, .var (tav t)), (1, .var n.av)]
 nx := 2
set_option maxRecDepth 10000 in
theorem refmay_pure (t : List Node) (hl : t.length ≤ 100) : Pure Tryz.prog 114 [tav t] (.bool (refmayB t)) := by
 refine pure_of_tr Tryz.func114 rfl nb rfl fun E hE hP => ?_
 refine mr ?_
 refine mr ?_
 refine mBk ?_
 refine Tr.loop (st62_0 t) (fun i => i ≤ t.length ∧ ∀ j, j < i → (fitsB t j && freshB t j) = true) (fun i => t.length - i) 0 ⟨Nat.zero_le _, fun j hj => absurd hj (Nat.not_lt_zero j)⟩ ?_ ?_
 · exact mK
 · rintro i ⟨hi, hall⟩
   unfold st62_0
   refine mr ?_
   first | refine Tr.cond rfl (fun h1 => ?_) (fun h1 => ?_) | refine Tr.seq (Tr.cond rfl (fun h1 => ?_) (fun h1 => ?_))
   · refine mT ?_
     have hlt : i < t.length := by have := of_decide_eq_true h1; omega
     have hw := wN i
     have ha := nth_map_lt Node.av t i hlt
     have hf : fitsB t i = (if i = 0 then decide (t[i].parent = -1) && decide (t[i].slot ≤ 1099511627776)
      else decide (0 ≤ t[i].parent) && decide (t[i].parent < i) && decide (t[i].slot ≤ 1099511627776) && decide ((t.getD t[i].parent.toNat zNode).slot < t[i].slot)) := by
      simp [fitsB, hlt]
     have hgd : t.getD i zNode = t[i] := by simp [hlt]
     have hfresh : freshB t i = (List.range i).all fun k => decide ((t.getD k zNode).root ≠ t[i].root) := by rw [← hgd]; rfl
     generalize t[i] = n at ha hf hgd hfresh
     have hbad : (fitsB t i && freshB t i) = false → refmayB t = false := fun h => by
      unfold refmayB; rw [not_all_range hlt h]; rfl
     refine mBk ?_
     have ff := ha
     refine mr ?_
     by_cases hs : 1099511627776 < n.slot
     · have es : decide (1099511627776 < n.slot) = true := decide_eq_true hs
       have er : refmayB t = false := hbad (by
        have : decide (n.slot ≤ 1099511627776) = false := dfO
        rw [hf, this]; split <;> simp)
       first | apply tr_m xE | (refine Tr.seq ?_; apply tr_m xE)
       intro Q hQ
       refine mS ?_
       iterate 4 (refine vm_op ?_; intro r hr; simp only [es, go_sem, seval]; subst hr)
       iterate 7 (refine mI ?_; intro r hr; simp only [es, go_sem, seval]; subst hr)
       iterate 2 (refine vm_op ?_; intro r hr; simp only [es, go_sem, seval]; subst hr)
       iterate 13 (refine mI ?_; intro r hr; simp only [es, go_sem, seval]; subst hr)
       refine vm_op ?_; intro r hr; simp only [es, go_sem, seval]; subst hr
       exact hQ
       refine mYes ?_
       refine mr ?_
       refine Tr.ret ?_
       simp only [er, Tryz.f114, go_sem, seval]
     · have es : decide (1099511627776 < n.slot) = false := decide_eq_false hs
       have es' : decide (n.slot ≤ 1099511627776) = true := dtO
       by_cases h0 : i = 0
       · have e0 : ((i : Int) == 0) = true := by rw [int_beq]; exact dtO
         have eg : decide ((0 : Int) < (i : Int)) = false := dfO
         rw [if_pos h0] at hf
         by_cases hp1 : n.parent = -1
         · have ep : (n.parent != -1) = false := by simp [hp1]
           have hf1 : fitsB t i = true := by rw [hf]; simp [hp1, es']
           first | apply tr_m xE | (refine Tr.seq ?_; apply tr_m xE)
           intro Q hQ
           refine mS ?_
           iterate 4 (refine vm_op ?_; intro r hr; simp only [es, e0, eg, ep, go_sem, seval]; subst hr)
           iterate 7 (refine mI ?_; intro r hr; simp only [es, e0, eg, ep, go_sem, seval]; subst hr)
           iterate 2 (refine vm_op ?_; intro r hr; simp only [es, e0, eg, ep, go_sem, seval]; subst hr)
           iterate 13 (refine mI ?_; intro r hr; simp only [es, e0, eg, ep, go_sem, seval]; subst hr)
           refine vm_op ?_; intro r hr; simp only [es, e0, eg, ep, go_sem, seval]; subst hr
           exact hQ
           refine mNot ?_
           refine mT ?_
           first | apply tr_md mixed [0, 161] rfl xE kR | (refine Tr.seq ?_; apply tr_md mixed [0, 161] rfl xE kR)
           intro Q hQ
           refine mS ?_
           iterate 3 ((refine vd2_q rfl ?_); intro r hr; simp only [eg, go_sem, seval]; subst hr)
           iterate 10 ((first | refine vd2_goq rfl rfl ?_ | refine vd2_no rfl ?_ | refine vd2_skip rfl ?_); intro r hr; simp only [eg, go_sem, seval]; subst hr)
           (refine vd2_q rfl ?_); intro r hr; simp only [eg, go_sem, seval]; subst hr
           exact hQ
           refine mNot ?_
           refine mT ?_
           refine mr ?_
           refine mBk ?_
           refine Tr.loop (st62_1 t n i) (fun k => k ≤ i ∧ ∀ j, j < k → (t.getD j zNode).root ≠ n.root) (fun k => i - k) 0 ⟨Nat.zero_le _, fun j hj => absurd hj (Nat.not_lt_zero j)⟩ ?_ ?_
           · refine wk_ren (fun | 1 => 161 | n => n) mB mB rfl rfl rfl
           · rintro k ⟨hk, hkall⟩
             unfold st62_1
             refine mr ?_
             first | refine Tr.cond rfl (fun g1 => ?_) (fun g1 => ?_) | refine Tr.seq (Tr.cond rfl (fun g1 => ?_) (fun g1 => ?_))
             · refine mT ?_
               have hkl : k < i := by have := of_decide_eq_true g1; omega
               have hkt : k < t.length := by omega
               have hkw := wN k
               have hc := nth_map_lt Node.av t k hkt
               have hgk : t.getD k zNode = t[k] := by simp [hkt]
               refine mBk ?_
               by_cases hr : (t[k]).root = n.root
               · have eR : decide ((t[k]).root = n.root) = true := decide_eq_true hr
                 have er : refmayB t = false := hbad (by
                  have : freshB t i = false := by rw [hfresh]; exact not_all_range hkl (by rw [hgk]; exact decide_eq_false (fun h => h hr))
                  rw [this, Bool.and_false])
                 first | apply tr_md mixed [0, 1] rfl xE kR | (refine Tr.seq ?_; apply tr_md mixed [0, 1] rfl xE kR)
                 intro Q hQ
                 refine mS ?_
                 iterate 9 ((refine vd2_q rfl ?_); intro r hr; simp only [hc, eR, go_sem, seval]; subst hr)
                 exact hQ
                 refine mYes ?_
                 refine mr ?_
                 refine Tr.ret ?_
                 simp only [er, Tryz.f114, go_sem, seval]
               · have eR : decide ((t[k]).root = n.root) = false := decide_eq_false hr
                 first | apply tr_md mixed [0, 1] rfl xE kR | (refine Tr.seq ?_; apply tr_md mixed [0, 1] rfl xE kR)
                 intro Q hQ
                 refine mS ?_
                 iterate 9 ((refine vd2_q rfl ?_); intro r hr; simp only [hc, eR, go_sem, seval]; subst hr)
                 exact hQ
                 refine mNot ?_
                 refine mT ?_
                 refine mRd ?_
                 rw [hkw]
                 refine mU ?_
                 refine ⟨k + 1, ⟨hkl, fun j hj => ?_⟩, by omega, ?_⟩
                 · rcases Nat.lt_or_ge j k with hj' | hj'
                   · exact hkall j hj'
                   · rw [show j = k by omega, hgk]; exact hr
                 exact mK
             · refine Tr.exit ?_
               refine mU ?_
               have hki : k = i := by have := of_decide_eq_false g1; omega
               have hfr : freshB t i = true := by
                rw [hfresh]; exact all_range fun j hj => decide_eq_true (hkall j (by omega))
               refine mRd ?_
               rw [hw]
               refine mU ?_
               refine ⟨i + 1, ⟨hlt, fun j hj => ?_⟩, by omega, ?_⟩
               · rcases Nat.lt_or_ge j i with hj' | hj'
                 · exact hall j hj'
                 · rw [show j = i by omega, hf1, hfr]; rfl
               exact mK
         · have ep : (n.parent != -1) = true := by simp [hp1]
           have er : refmayB t = false := hbad (by rw [hf]; simp [hp1])
           first | apply tr_m xE | (refine Tr.seq ?_; apply tr_m xE)
           intro Q hQ
           refine mS ?_
           iterate 4 (refine vm_op ?_; intro r hr; simp only [es, e0, eg, ep, go_sem, seval]; subst hr)
           iterate 7 (refine mI ?_; intro r hr; simp only [es, e0, eg, ep, go_sem, seval]; subst hr)
           iterate 2 (refine vm_op ?_; intro r hr; simp only [es, e0, eg, ep, go_sem, seval]; subst hr)
           iterate 13 (refine mI ?_; intro r hr; simp only [es, e0, eg, ep, go_sem, seval]; subst hr)
           refine vm_op ?_; intro r hr; simp only [es, e0, eg, ep, go_sem, seval]; subst hr
           exact hQ
           refine mYes ?_
           refine mr ?_
           refine Tr.ret ?_
           simp only [er, Tryz.f114, go_sem, seval]
       · have e0 : ((i : Int) == 0) = false := by rw [int_beq]; exact dfO
         have eg : decide ((0 : Int) < (i : Int)) = true := dtO
         rw [if_neg h0] at hf
         by_cases h2 : n.parent < 0
         · have e2 : decide (n.parent < 0) = true := decide_eq_true h2
           have er : refmayB t = false := hbad (by rw [hf, decide_eq_false (p := 0 ≤ n.parent) (by omega)]; rfl)
           first | apply tr_m xE | (refine Tr.seq ?_; apply tr_m xE)
           intro Q hQ
           refine mS ?_
           iterate 4 (refine vm_op ?_; intro r hr; simp only [es, e0, eg, e2, go_sem, seval]; subst hr)
           iterate 7 (refine mI ?_; intro r hr; simp only [es, e0, eg, e2, go_sem, seval]; subst hr)
           iterate 2 (refine vm_op ?_; intro r hr; simp only [es, e0, eg, e2, go_sem, seval]; subst hr)
           iterate 13 (refine mI ?_; intro r hr; simp only [es, e0, eg, e2, go_sem, seval]; subst hr)
           refine vm_op ?_; intro r hr; simp only [es, e0, eg, e2, go_sem, seval]; subst hr
           exact hQ
           refine mYes ?_
           refine mr ?_
           refine Tr.ret ?_
           simp only [er, Tryz.f114, go_sem, seval]
         · have e2 : decide (n.parent < 0) = false := decide_eq_false h2
           by_cases h3 : (i : Int) ≤ n.parent
           · have e3 : decide ((i : Int) ≤ n.parent) = true := decide_eq_true h3
             have er : refmayB t = false := hbad (by rw [hf, decide_eq_false (p := n.parent < i) (by omega)]; simp)
             first | apply tr_m xE | (refine Tr.seq ?_; apply tr_m xE)
             intro Q hQ
             refine mS ?_
             iterate 4 (refine vm_op ?_; intro r hr; simp only [es, e0, eg, e2, e3, go_sem, seval]; subst hr)
             iterate 7 (refine mI ?_; intro r hr; simp only [es, e0, eg, e2, e3, go_sem, seval]; subst hr)
             iterate 2 (refine vm_op ?_; intro r hr; simp only [es, e0, eg, e2, e3, go_sem, seval]; subst hr)
             iterate 13 (refine mI ?_; intro r hr; simp only [es, e0, eg, e2, e3, go_sem, seval]; subst hr)
             refine vm_op ?_; intro r hr; simp only [es, e0, eg, e2, e3, go_sem, seval]; subst hr
             exact hQ
             refine mYes ?_
             refine mr ?_
             refine Tr.ret ?_
             simp only [er, Tryz.f114, go_sem, seval]
           · have e3 : decide ((i : Int) ≤ n.parent) = false := decide_eq_false h3
             obtain ⟨p, hp⟩ : ∃ p : Nat, n.parent = p := ⟨n.parent.toNat, by omega⟩
             have hpl : p < t.length := by omega
             have hb := nth_map_lt Node.av t p hpl
             have hf2 : fitsB t i = decide ((t[p]).slot < n.slot) := by
              rw [hf, es', decide_eq_true (p := 0 ≤ n.parent) (by omega), decide_eq_true (p := n.parent < i) (by omega), hp]; simp [hpl]
             rw [hp] at e2 e3
             first | apply tr_m xE | (refine Tr.seq ?_; apply tr_m xE)
             intro Q hQ
             refine mS ?_
             iterate 4 (refine vm_op ?_; intro r hr; simp only [es, e0, eg, hp, e2, e3, go_sem, seval]; subst hr)
             iterate 7 (refine mI ?_; intro r hr; simp only [es, e0, eg, hp, e2, e3, go_sem, seval]; subst hr)
             iterate 2 (refine vm_op ?_; intro r hr; simp only [es, e0, eg, hp, e2, e3, go_sem, seval]; subst hr)
             iterate 13 (refine mI ?_; intro r hr; simp only [es, e0, eg, hp, e2, e3, go_sem, seval]; subst hr)
             refine vm_op ?_; intro r hr; simp only [es, e0, eg, hp, e2, e3, go_sem, seval]; subst hr
             exact hQ
             refine mNot ?_
             refine mT ?_
             by_cases h4 : n.slot ≤ (t[p]).slot
             · have e4 : decide (n.slot ≤ (t[p]).slot) = true := decide_eq_true h4
               have er : refmayB t = false := hbad (by rw [hf2, dfO]; rfl)
               first | apply tr_md mixed [0, 161] rfl xE kR | (refine Tr.seq ?_; apply tr_md mixed [0, 161] rfl xE kR)
               intro Q hQ
               refine mS ?_
               iterate 3 ((refine vd2_q rfl ?_); intro r hr; simp only [eg, hp, hb, e4, go_sem, seval]; subst hr)
               iterate 10 ((first | refine vd2_goq rfl rfl ?_ | refine vd2_no rfl ?_ | refine vd2_skip rfl ?_); intro r hr; simp only [eg, hp, hb, e4, go_sem, seval]; subst hr)
               (refine vd2_q rfl ?_); intro r hr; simp only [eg, hp, hb, e4, go_sem, seval]; subst hr
               exact hQ
               refine mYes ?_
               refine mr ?_
               refine Tr.ret ?_
               simp only [er, Tryz.f114, go_sem, seval]
             · have e4 : decide (n.slot ≤ (t[p]).slot) = false := decide_eq_false h4
               have hf1 : fitsB t i = true := by rw [hf2, dtO]
               first | apply tr_md mixed [0, 161] rfl xE kR | (refine Tr.seq ?_; apply tr_md mixed [0, 161] rfl xE kR)
               intro Q hQ
               refine mS ?_
               iterate 3 ((refine vd2_q rfl ?_); intro r hr; simp only [eg, hp, hb, e4, go_sem, seval]; subst hr)
               iterate 10 ((first | refine vd2_goq rfl rfl ?_ | refine vd2_no rfl ?_ | refine vd2_skip rfl ?_); intro r hr; simp only [eg, hp, hb, e4, go_sem, seval]; subst hr)
               (refine vd2_q rfl ?_); intro r hr; simp only [eg, hp, hb, e4, go_sem, seval]; subst hr
               exact hQ
               refine mNot ?_
               refine mT ?_
               refine mr ?_
               refine mBk ?_
               refine Tr.loop (st62_1 t n i) (fun k => k ≤ i ∧ ∀ j, j < k → (t.getD j zNode).root ≠ n.root) (fun k => i - k) 0 ⟨Nat.zero_le _, fun j hj => absurd hj (Nat.not_lt_zero j)⟩ ?_ ?_
               · refine wk_ren (fun | 1 => 161 | n => n) mB mB rfl rfl rfl
               · rintro k ⟨hk, hkall⟩
                 unfold st62_1
                 refine mr ?_
                 first | refine Tr.cond rfl (fun g1 => ?_) (fun g1 => ?_) | refine Tr.seq (Tr.cond rfl (fun g1 => ?_) (fun g1 => ?_))
                 · refine mT ?_
                   have hkl : k < i := by have := of_decide_eq_true g1; omega
                   have hkt : k < t.length := by omega
                   have hkw := wN k
                   have hc := nth_map_lt Node.av t k hkt
                   have hgk : t.getD k zNode = t[k] := by simp [hkt]
                   refine mBk ?_
                   by_cases hr : (t[k]).root = n.root
                   · have eR : decide ((t[k]).root = n.root) = true := decide_eq_true hr
                     have er : refmayB t = false := hbad (by
                      have : freshB t i = false := by rw [hfresh]; exact not_all_range hkl (by rw [hgk]; exact decide_eq_false (fun h => h hr))
                      rw [this, Bool.and_false])
                     first | apply tr_md mixed [0, 1] rfl xE kR | (refine Tr.seq ?_; apply tr_md mixed [0, 1] rfl xE kR)
                     intro Q hQ
                     refine mS ?_
                     iterate 9 ((refine vd2_q rfl ?_); intro r hr; simp only [hc, eR, go_sem, seval]; subst hr)
                     exact hQ
                     refine mYes ?_
                     refine mr ?_
                     refine Tr.ret ?_
                     simp only [er, Tryz.f114, go_sem, seval]
                   · have eR : decide ((t[k]).root = n.root) = false := decide_eq_false hr
                     first | apply tr_md mixed [0, 1] rfl xE kR | (refine Tr.seq ?_; apply tr_md mixed [0, 1] rfl xE kR)
                     intro Q hQ
                     refine mS ?_
                     iterate 9 ((refine vd2_q rfl ?_); intro r hr; simp only [hc, eR, go_sem, seval]; subst hr)
                     exact hQ
                     refine mNot ?_
                     refine mT ?_
                     refine mRd ?_
                     rw [hkw]
                     refine mU ?_
                     refine ⟨k + 1, ⟨hkl, fun j hj => ?_⟩, by omega, ?_⟩
                     · rcases Nat.lt_or_ge j k with hj' | hj'
                       · exact hkall j hj'
                       · rw [show j = k by omega, hgk]; exact hr
                     exact mK
                 · refine Tr.exit ?_
                   refine mU ?_
                   have hki : k = i := by have := of_decide_eq_false g1; omega
                   have hfr : freshB t i = true := by
                    rw [hfresh]; exact all_range fun j hj => decide_eq_true (hkall j (by omega))
                   refine mRd ?_
                   rw [hw]
                   refine mU ?_
                   refine ⟨i + 1, ⟨hlt, fun j hj => ?_⟩, by omega, ?_⟩
                   · rcases Nat.lt_or_ge j i with hj' | hj'
                     · exact hall j hj'
                     · rw [show j = i by omega, hf1, hfr]; rfl
                   exact mK
   · refine Tr.exit ?_
     refine mU ?_
     have hil : i = t.length := by have := of_decide_eq_false h1; omega
     subst hil
     have er : refmayB t = (decide (1 ≤ t.length) && decide (t.length ≤ 12)) := by unfold refmayB; rw [all_range hall, Bool.true_and]
     by_cases h5 : 1 ≤ t.length
     · have e5 : decide ((1 : Int) ≤ (t.length : Int)) = true := dtO
       have er2 : refmayB t = decide ((t.length : Int) ≤ 12) := by
        rw [er, decide_eq_true h5, Bool.true_and]; exact decide_eq_decide.2 (by omega)
       have ff := e5
       refine mr ?_
       refine Tr.ret ?_
       simp only [er2, Tryz.f114, go_sem, seval]
     · have e5 : decide ((1 : Int) ≤ (t.length : Int)) = false := dfO
       have er2 : refmayB t = false := by rw [er, decide_eq_false h5]; rfl
       have ff := e5
       refine mr ?_
       refine Tr.ret ?_
       simp only [er2, Tryz.f114, go_sem, seval]
theorem nth_node {t : List Node} {k : Nat} (h : k < t.length) : nth (t.map Node.av) (k : Int) = some (t.getD k zNode).av := by
 rw [nth_map_lt Node.av t k h, List.getD_eq_getElem?_getD, List.getElem?_eq_getElem h]; rfl
theorem may_parent {t : List Node} (h : mayB t = true) {k : Nat} (hk : k < t.length) : ((t.getD k zNode).parent = -1 ∧ k = 0) ∨ (0 ≤ (t.getD k zNode).parent ∧ (t.getD k zNode).parent < k) := by
 unfold mayB at h
 simp only [Bool.and_eq_true] at h
 have := List.all_eq_true.1 h.1.2 k (List.mem_range.2 hk)
 unfold fitsB at this
 rw [List.getElem?_eq_getElem hk] at this
 have e : t.getD k zNode = t[k] := by simp [hk]
 rw [e]
 simp only at this
 split at this
 · rename_i h0
   simp at this
   exact .inl ⟨this.1, h0⟩
 · simp at this
   exact .inr ⟨this.1.1.1, this.1.1.2⟩
theorem may_len {t : List Node} (h : mayB t = true) : 1 ≤ t.length ∧ t.length ≤ 12 := by
 unfold mayB at h
 simp at h
 exact ⟨h.1.1.1, h.1.1.2⟩
def badI (t : List Node) (i : Int) : Bool := decide (i < 0) || decide ((t.length : Int) ≤ i)
def idxI (p : Int → Bool) (l : List Int) : Int := match l.findIdx? p with | some k => (k : Int) | none => -1
def isB (t : List Node) (l : List Int) : Bool := mayB t && !l.any (badI t)
theorem is1_pure (t : List Node) (i : Int) : Pure Tryz.prog 170 [.int .i64 i, .ref (tav t)] (.bool (badI t i)) := by
 refine pure_of_tr Tryz.func170 rfl nb rfl fun E hE hP => ?_
 refine mr ?_
 by_cases h : i < 0
 · have e : decide (i < 0) = true := decide_eq_true h
   have er : badI t i = true := by simp [badI, h]
   first | apply tr_m xE | (refine Tr.seq ?_; apply tr_m xE)
   intro Q hQ
   refine mS ?_
   iterate 3 (refine vm_op ?_; intro r hr; simp only [e, go_sem, seval]; subst hr)
   iterate 5 (refine mI ?_; intro r hr; simp only [e, go_sem, seval]; subst hr)
   iterate 2 (refine vm_op ?_; intro r hr; simp only [e, go_sem, seval]; subst hr)
   exact hQ
   refine Tr.ret ?_
   simp only [er, Tryz.f170, go_sem, seval]
 · have e : decide (i < 0) = false := decide_eq_false h
   have er : badI t i = decide ((t.length : Int) ≤ i) := by simp [badI, h]
   first | apply tr_m xE | (refine Tr.seq ?_; apply tr_m xE)
   intro Q hQ
   refine mS ?_
   iterate 3 (refine vm_op ?_; intro r hr; simp only [e, go_sem, seval]; subst hr)
   iterate 5 (refine mI ?_; intro r hr; simp only [e, go_sem, seval]; subst hr)
   iterate 2 (refine vm_op ?_; intro r hr; simp only [e, go_sem, seval]; subst hr)
   exact hQ
   refine Tr.ret ?_
   simp only [er, Tryz.f170, go_sem, seval]
theorem idxI_at {p : Int → Bool} {l : List Int} {i : Nat} (h : i < l.length) (hb : ∀ j (hj : j < i), p (l[j]'(by omega)) = false) (hi : p l[i] = true) : idxI p l = i := by
 have : l.findIdx? p = some i := by
  rw [List.findIdx?_eq_some_iff_getElem]
  exact ⟨h, hi, fun j hj => by simp [hb j hj]⟩
 unfold idxI
 rw [this]
theorem idxI_none {p : Int → Bool} {l : List Int} (hb : ∀ j (hj : j < l.length), p l[j] = false) : idxI p l = -1 := by
 have : l.findIdx? p = none := by
  rw [List.findIdx?_eq_none_iff]
  intro x hx
  obtain ⟨j, hj, rfl⟩ := List.getElem_of_mem hx
  simp [hb j hj]
 unfold idxI
 rw [this]
theorem idxI_any (p : Int → Bool) (l : List Int) : decide (0 ≤ idxI p l) = l.any p := by
 unfold idxI
 cases h : l.findIdx? p with
 | some k =>
   obtain ⟨h1, h2, _⟩ := List.findIdx?_eq_some_iff_getElem.1 h
   have : l.any p = true := List.any_eq_true.2 ⟨l[k], List.getElem_mem h1, h2⟩
   rw [this]
   exact decide_eq_true (Int.natCast_nonneg k)
 | none =>
   have : l.any p = false := by
    rw [List.any_eq_false]
    intro x hx
    have := List.findIdx?_eq_none_iff.1 h x hx
    simp [this]
   rw [this]; rfl
def st67 (t : List Node) (l : List Int) (i : Nat) : S where
 fr := [(0, .sl (l.map iav) false), (1, .fn (.func 170) [] [.ref (tav t)]), (7, .int .i64 l.length), (8, .int .i64 i)]
 hp := []
 nx := 0
set_option maxRecDepth 10000 in
theorem index_pure (t : List Node) (l : List Int) (hl : l.length ≤ 100) : Pure Tryz.prog 215 [.sl (l.map iav) false, .fn (.func 170) [] [.ref (tav t)]] (.int .i64 (idxI (badI t) l)) := by
 refine pure_of_tr Tryz.func215 rfl nb rfl fun E hE hP => ?_
 refine mr ?_
 refine mSr ?_
 repeat (refine vc_op rfl ?_; simp only [List.length_map, go_sem, seval])
 refine vc_nil ?_
 refine mBk ?_
 refine Tr.loop (st67 t l) (fun i => i ≤ l.length ∧ ∀ j (hj : j < i) (hl : j < l.length), badI t l[j] = false) (fun i => l.length - i) 0 ⟨Nat.zero_le _, fun j hj => absurd hj (Nat.not_lt_zero j)⟩ ?_ ?_
 · exact mK
 · rintro i ⟨hi, hall⟩
   unfold st67
   refine mr ?_
   first | refine Tr.cond rfl (fun h1 => ?_) (fun h1 => ?_) | refine Tr.seq (Tr.cond rfl (fun h1 => ?_) (fun h1 => ?_))
   · refine mT ?_
     have hlt : i < l.length := by have := of_decide_eq_true h1; omega
     have ha := nth_map_lt iav l i hlt
     simp only [iav] at ha
     have hw := wN i
     refine mBk ?_
     refine mr ?_
     cases hb : badI t l[i] with
     | true =>
       have er : idxI (badI t) l = i := idxI_at hlt (fun j hj => hall j hj (by omega)) hb
       have hc := is1_pure t l[i]
       rw [hb] at hc
       first | apply tr_m xE | (refine Tr.seq ?_; apply tr_m xE)
       intro Q hQ
       refine mS ?_
       iterate 5 (refine vm_op ?_; intro r hr; simp only [iav, ha, go_sem, seval]; subst hr)
       refine vm_op ?_; intro r hr; simp only [iav, ha, go_sem, seval]
       refine call_fn rfl rfl rfl rfl (en Tryz.func170) (hc) rfl rfl rfl ?_
       refine mS ?_
       subst hr
       exact hQ
       refine mYes ?_
       refine mr ?_
       refine Tr.ret ?_
       simp only [er, Tryz.f215, go_sem, seval]
     | false =>
       have hc := is1_pure t l[i]
       rw [hb] at hc
       first | apply tr_m xE | (refine Tr.seq ?_; apply tr_m xE)
       intro Q hQ
       refine mS ?_
       iterate 5 (refine vm_op ?_; intro r hr; simp only [iav, ha, go_sem, seval]; subst hr)
       refine vm_op ?_; intro r hr; simp only [iav, ha, go_sem, seval]
       refine call_fn rfl rfl rfl rfl (en Tryz.func170) (hc) rfl rfl rfl ?_
       refine mS ?_
       subst hr
       exact hQ
       refine mNot ?_
       refine mT ?_
       refine mRd ?_
       rw [hw]
       refine mU ?_
       refine ⟨i + 1, ⟨hlt, fun j hj hjl => ?_⟩, by omega, ?_⟩
       · rcases Nat.lt_or_ge j i with h | h
         · exact hall j h hjl
         · have : j = i := by omega
           subst this; exact hb
       exact mK
   · refine Tr.exit ?_
     refine mU ?_
     have hil : i = l.length := by have := of_decide_eq_false h1; omega
     have er : idxI (badI t) l = -1 := idxI_none fun j hj => hall j (by omega) hj
     refine mr ?_
     refine Tr.ret ?_
     simp only [er, Tryz.f215, go_sem, seval]
theorem contains_pure (t : List Node) (l : List Int) (hl : l.length ≤ 100) : Pure Tryz.prog 169 [.sl (l.map iav) false, .fn (.func 170) [] [.ref (tav t)]] (.bool (l.any (badI t))) := by
 have er := idxI_any (badI t) l
 refine pure_of_tr Tryz.func169 rfl nb rfl fun E hE hP => ?_
 refine mr ?_
 have c1 := And.intro (en Tryz.func215) (index_pure t l hl)
 refine mr ?_
 refine Tr.ret ?_
 simp only [er, Tryz.f169, go_sem, seval]
theorem is_pure (t : List Node) (l : List Int) (hl : l.length ≤ 100) : Pure Tryz.prog 99 [tav t, .sl (l.map iav) false] (.bool (isB t l)) := by
 refine pure_of_tr Tryz.func99 rfl nb rfl fun E hE hP => ?_
 refine mr ?_
 by_cases hm : mayB t = true
 · have er : isB t l = !l.any (badI t) := by simp [isB, hm]
   have ff := hm
   have c1 := And.intro (en Tryz.func71) (may_pure t)
   have c2 := And.intro (en Tryz.func169) (contains_pure t l hl)
   refine mr ?_
   refine Tr.ret ?_
   simp only [er, Tryz.f99, go_sem, seval]
 · have hm : mayB t = false := by simpa using hm
   have er : isB t l = false := by simp [isB, hm]
   have ff := hm
   have c1 := And.intro (en Tryz.func71) (may_pure t)
   refine mr ?_
   refine Tr.ret ?_
   simp only [er, Tryz.f99, go_sem, seval]
def parI (t : List Node) (a : Int) : Int := (t.getD a.toNat zNode).parent
def aboveN (t : List Node) (i : Int) : Nat → Int → Bool
 | 0, _ => false
 | n + 1, a => if a = -1 then false else if a = i then true else if a < i then false else aboveN t i n (parI t a)
def aboveF (t : List Node) (i a : Int) : Bool := aboveN t i (a + 1).toNat a
def aboveR (t : List Node) (i k : Int) : Bool := isB t [i, k] && aboveF t i k
theorem par_range {t : List Node} (hm : mayB t = true) {a : Int} (h0 : 0 ≤ a) (h1 : a < t.length) : parI t a = -1 ∨ (0 ≤ parI t a ∧ parI t a < a) := by
 have := may_parent hm (k := a.toNat) (by omega)
 unfold parI
 omega
theorem aboveN_none (t : List Node) (i : Int) (m : Nat) : aboveN t i m (-1) = false := by cases m <;> simp [aboveN]
theorem aboveN_fuel {t : List Node} (hm : mayB t = true) (i : Int) : ∀ (m m' : Nat) (a : Int), 0 ≤ a → a < t.length → a < m → a < m' → aboveN t i m a = aboveN t i m' a
 | 0, _, a, h0, _, h1, _ => by omega
 | _, 0, a, h0, _, _, h1 => by omega
 | m + 1, m' + 1, a, h0, h1, h2, h3 => by
   simp only [aboveN]
   split
   · rfl
   · split
     · rfl
     · split
       · rfl
       · rcases par_range hm h0 h1 with h | ⟨h4, h5⟩
         · rw [h, aboveN_none, aboveN_none]
         · exact aboveN_fuel hm i m m' _ h4 (by omega) (by omega) (by omega)
theorem aboveF_step {t : List Node} (hm : mayB t = true) {i a : Int} (h0 : 0 ≤ a) (h1 : a < t.length) : aboveF t i a = if a = i then true else if a < i then false else aboveF t i (parI t a) := by
 obtain ⟨m, hmm⟩ : ∃ m, (a + 1).toNat = m + 1 := ⟨a.toNat, by omega⟩
 unfold aboveF
 rw [hmm, aboveN, if_neg (by omega)]
 split
 · rfl
 · split
   · rfl
   · rcases par_range hm h0 h1 with h | ⟨h4, h5⟩
     · rw [h, aboveN_none, aboveN_none]
     · exact aboveN_fuel hm i _ _ _ h4 (by omega) (by omega) (by omega)
theorem tline_own (t : List Node) (k : Int) : Own Tryz.prog 100 [tav t, .int .i64 k] (.fn (.func 171) [] [.ptr 0 [] 0, .ptr 1 [] 0]) [(0, .var (.int .i64 k)), (1, .var (tav t))] := by
 refine own_of_tr Tryz.func100 rfl nb rfl fun E hE hP => ?_
 refine mr ?_
 refine mr ?_
 refine Tr.ret ?_
 simp only [Tryz.f100, go_sem, seval]
 exact ⟨fun | 0 => 16 | 1 => 0 | n => n, rfl, ⟨⟨rfl, rfl, rfl⟩, ⟨rfl, rfl, rfl⟩, trivial⟩, rfl⟩
def st37 (t : List Node) (i k : Int) : S where
 fr := [(4, .ptr 1 [] 0), (6, .ptr 2 [] 0), (16, .fn (.func 171) [] [.ptr 3 [] 0, .ptr 4 [] 0])]
 hp := [(1, .var (.int .i64 i)), (2, .var (.bool false)), (3, .var (.int .i64 k)), (4, .var (tav t))]
 nx := 5
def st66 (t : List Node) (i : Int) (l : Nat) (b : LB) (a : Int) : S where
 fr := [(0, .fn (.yield l) [] []), (1, .ptr 3 [] 0), (2, .ptr 4 [] 0)]
 hp := [(6, .lp b .ready none), (5, .dfr), (1, .var (.int .i64 i)), (2, .var (.bool false)), (3, .var (.int .i64 a)), (4, .var (tav t))]
 nx := 7
set_option maxRecDepth 10000 in
theorem above_pure (t : List Node) (i k : Int) : Pure Tryz.prog 39 [tav t, .int .i64 i, .int .i64 k] (.bool (aboveR t i k)) := by
 have hic : Pure Tryz.prog 99 [tav t, .sl [.int .i64 i, .int .i64 k] false] (.bool (isB t [i, k])) := is_pure t [i, k] (by simp)
 refine pure_of_trM Tryz.func39 rfl nb rfl fun E hE hP => ?_
 refine mr ?_
 refine Tr.scope ?_
 by_cases hb : isB t [i, k] = true
 · have hm : mayB t = true := by
    cases h : mayB t with
    | true => rfl
    | false => simp [isB, h] at hb
   have hk : 0 ≤ k ∧ k < t.length := by
    simp [isB, badI, hm] at hb; omega
   have er : aboveR t i k = aboveF t i k := by unfold aboveR; rw [hb, Bool.true_and]
   rw [hb] at hic
   have c1 := And.intro (en Tryz.func99) (hic)
   refine mr ?_
   refine mNot ?_
   refine mT ?_
   refine Tr.seq (Tr.label ?_)
   simp only [thenK]
   have o1 := And.intro (en Tryz.func100) (tline_own t k)
   refine mr ?_
   refine Tr.wk (s' := st37 t i k) ?_ ?_
   · refine wk_ren (fun | 1 => 16 | 2 => 32 | 3 => 176 | 4 => 177 | n => n) mB mB rfl rfl rfl
   · unfold st37
     refine mBk ?_
     refine Tr.range (fid := 171) (fn := Tryz.f171) rfl (en Tryz.func171) Tryz.func171 rfl rfl nb ?_
     have hE0 := hE
     intro E' l b hE hP' sd
     have hP : E'.pn = 7 := hP'
     rw [er]
     refine mBk ?_
     refine Tr.loop (st66 t i l b) (fun a => (a = -1 ∨ (0 ≤ a ∧ a < t.length)) ∧ aboveF t i a = aboveF t i k) (fun a => (a + 1).toNat) k ⟨.inr hk, rfl⟩ ?_ ?_
     · exact mK
     · rintro a ⟨ha, habove⟩
       unfold st66
       rcases ha with ha | ⟨ha0, ha1⟩
       · subst ha
         have er2 : aboveF t i k = false := by rw [← habove]; rfl
         first | refine tr_seq_y 5 sd xE rfl rfl rfl ?_ | (refine Tr.seq ?_; refine tr_seq_y 5 sd xE rfl rfl rfl ?_)
         refine mL ?_
         refine mG ?_
         refine vc_nil ?_
         refine gy_no rfl rfl rfl ?_
         refine mS ?_
         refine mO ?_
         refine vc_nil ?_
         refine mNo ?_
         refine Tr.exit ?_
         refine mU ?_
         have hE := hE0
         refine ⟨rfl, _, _, rfl, by simp, rfl, ?_⟩
         simp only [goOn]
         simp only [HP.del, fB, go_sem, seval]
         rw [er2]
         refine mr ?_
         refine Tr.ret ?_
         simp only [noGoto]
         refine ⟨by simp, fun o ho => by rw [List.mem_singleton.1 ho]; rfl, ?_⟩
         simp only [HP.drop, List.contains_cons, List.contains_nil, Bool.or_false, Bool.false_or, Bool.or_true, fB,  Tryz.f39, go_sem, seval]
       · have hstep := aboveF_step hm (i := i) ha0 ha1
         have hpr := par_range hm ha0 ha1
         obtain ⟨j, rfl⟩ : ∃ j : Nat, a = j := ⟨a.toNat, by omega⟩
         have ej : ((j : Int) != -1) = true := by rw [int_bne, dfO]; rfl
         first | refine tr_seq_y 5 sd xE rfl rfl rfl ?_ | (refine Tr.seq ?_; refine tr_seq_y 5 sd xE rfl rfl rfl ?_)
         refine mL ?_
         repeat (first | (refine vc_op rfl ?_; simp only [ej, go_sem, seval]) | (refine vc_go rfl rfl rfl ?_; simp only [ej, go_sem, seval]) | (refine vc_no rfl rfl rfl ?_; simp only [ej, go_sem, seval]) | (refine vc_skip rfl rfl rfl ?_; simp only [ej, go_sem, seval]))
         refine vc_nil ?_
         have hE1 := hE
         have hP1 := hP
         refine gy_if rfl rfl rfl ?_
         refine ⟨_, rfl, rfl, rfl, rfl, by rw [hE0]; rfl, rfl, ?_⟩
         intro Er hE hP
         rw [hE0] at hE
         refine mZ ?_
         refine mRd ?_
         refine ⟨rfl, ?_⟩
         refine mS ?_
         refine mBk ?_
         refine mBk ?_
         by_cases h1 : (j : Int) = i
         · have e1 : decide ((j : Int) = i) = true := decide_eq_true h1
           have er2 : aboveF t i k = true := by rw [← habove, hstep, if_pos h1]
           first | apply tr_m xE | (refine Tr.seq ?_; apply tr_m xE)
           intro Q hQ
           refine mS ?_
           iterate 4 (refine vm_op ?_; intro r hr; simp only [int_beq, e1, go_sem, seval]; subst hr)
           exact hQ
           refine mYes ?_
           refine mr ?_
           refine Tr.ret ?_
           refine mU ?_
           refine ⟨rfl, ?_⟩
           refine mS ?_
           refine mO ?_
           refine vc_nil ?_
           have hE := hE1
           have hP := hP1
           refine mNo ?_
           refine Tr.exit ?_
           refine mU ?_
           have hE := hE0
           refine ⟨rfl, _, _, rfl, by simp, rfl, ?_⟩
           simp only [goOn]
           simp only [HP.del, fB, go_sem, seval]
           rw [er2]
           simp only [noGoto]
           refine ⟨by simp, fun o ho => by rw [List.mem_singleton.1 ho]; rfl, ?_⟩
           simp only [HP.drop, List.contains_cons, List.contains_nil, Bool.or_false, Bool.false_or, Bool.or_true, fB,  Tryz.f39, go_sem, seval]
         · have e1 : decide ((j : Int) = i) = false := decide_eq_false h1
           by_cases h2 : (j : Int) < i
           · have e2 : decide ((j : Int) < i) = true := decide_eq_true h2
             have er2 : aboveF t i k = false := by rw [← habove, hstep, if_neg h1, if_pos h2]
             first | apply tr_m xE | (refine Tr.seq ?_; apply tr_m xE)
             intro Q hQ
             refine mS ?_
             iterate 4 (refine vm_op ?_; intro r hr; simp only [int_beq, e1, go_sem, seval]; subst hr)
             exact hQ
             refine mNo ?_
             have ff := e2
             refine mr ?_
             refine mYes ?_
             refine Tr.exit ?_
             refine mU ?_
             refine ⟨rfl, ?_⟩
             refine mS ?_
             refine mO ?_
             refine vc_nil ?_
             have hE := hE1
             have hP := hP1
             refine mNo ?_
             refine Tr.exit ?_
             refine mU ?_
             have hE := hE0
             refine ⟨rfl, _, _, rfl, by simp, rfl, ?_⟩
             simp only [goOn]
             simp only [HP.del, fB, go_sem, seval]
             rw [er2]
             refine mr ?_
             refine Tr.ret ?_
             simp only [noGoto]
             refine ⟨by simp, fun o ho => by rw [List.mem_singleton.1 ho]; rfl, ?_⟩
             simp only [HP.drop, List.contains_cons, List.contains_nil, Bool.or_false, Bool.false_or, Bool.or_true, fB,  Tryz.f39, go_sem, seval]
           · have e2 : decide ((j : Int) < i) = false := decide_eq_false h2
             rw [if_neg h1, if_neg h2] at hstep
             have hn := nth_node (t := t) (k := j) (by omega)
             have hpar : (t.getD j zNode).parent = parI t j := by unfold parI; rw [Int.toNat_natCast]
             first | apply tr_m xE | (refine Tr.seq ?_; apply tr_m xE)
             intro Q hQ
             refine mS ?_
             iterate 4 (refine vm_op ?_; intro r hr; simp only [int_beq, e1, go_sem, seval]; subst hr)
             exact hQ
             refine mNo ?_
             have ff := e2
             refine mr ?_
             refine mNo ?_
             refine mT ?_
             refine ⟨rfl, ?_⟩
             refine mS ?_
             refine mO ?_
             refine vc_nil ?_
             have hE := hE1
             have hP := hP1
             refine mYes ?_
             refine mT ?_
             refine mBk ?_
             refine mT ?_
             have ff := And.intro hn hpar
             refine mr ?_
             refine mU ?_
             refine ⟨parI t j, ⟨by omega, by rw [← hstep]; exact habove⟩, by omega, ?_⟩
             exact mK
 · have hb : isB t [i, k] = false := by simpa using hb
   have er : aboveR t i k = false := by unfold aboveR; rw [hb, Bool.false_and]
   rw [hb] at hic
   have c1 := And.intro (en Tryz.func99) (hic)
   refine mr ?_
   refine mYes ?_
   refine mr ?_
   refine Tr.ret ?_
   simp only [thenK, noGoto]
   rw [er]
   refine ⟨List.nodup_nil, fun o ho => (by cases ho), ?_⟩
   simp only [drop_none,  Tryz.f39, go_sem, seval]
structure Link where
 s : Check
 t : Check
 mask : Int
 deriving DecidableEq
def Link.av (a : Link) : AV := .st [a.s.av, a.t.av, .int .u64 a.mask]
@[go_sem] theorem Link.av_flat (a : Link) : a.av.flat = true := rfl
@[go_sem] theorem Link.av_len (a : Link) : a.av.len = 67 := rfl
@[go_sem] theorem Link.av_agg (a : Link) : a.av.agg = true := rfl
@[go_sem] theorem Link.av_idf (a : Link) : a.av.idf = true := rfl
@[go_sem] theorem Link.av_ok (a : Link) : a.av.ok = true := rfl
@[go_sem] theorem Link.av_frz (hp : HP) (a : Link) : a.av.frz hp = a.av := rfl
@[go_sem] theorem Link.av_idL (a : Link) : a.av.idL = [] := rfl
@[go_sem] theorem Link.av_ren (ρ : Nat → Nat) (a : Link) : a.av.ren ρ = a.av := rfl
theorem tField59_0 : tFieldI Tryz.prog 149 0 = some (0, 33, true) := by kernel_rfl
@[go_sem] theorem fap59_0 (o : Nat) (p : List Nat) (off : Nat) (K : AV → Prop) : fieldAddrK Tryz.prog 149 (.ptr o p off) 0 K = K (.ptr o (p ++ [0]) (off + 0)) := fieldAddr_ptr tField59_0 (by decide) o p off K
@[go_sem] theorem far59_0 (a : Link) (K : AV → Prop) : fieldAddrK Tryz.prog 149 (.ref a.av) 0 K = K (.ref (a.s.av)) := fieldAddr_ref tField59_0 (by decide) rfl rfl K
@[go_sem] theorem sub59_0 (a : Link) : a.av.sub [0] = some (a.s.av) := rfl
@[go_sem] theorem offs59_0 (a : Link) : a.av.offs [0] = some 0 := rfl
@[go_sem] theorem upd59_0 (a : Link) (x : Check) : a.av.upd [0] (x.av) = some ({ a with s := x } : Link).av := rfl
@[go_sem] theorem sub59_0_0 (a : Link) : a.av.sub [0, 0] = some (.int .u64 a.s.epoch) := rfl
@[go_sem] theorem offs59_0_0 (a : Link) : a.av.offs [0, 0] = some 0 := rfl
@[go_sem] theorem sub59_0_1 (a : Link) : a.av.sub [0, 1] = some (.root a.s.root) := rfl
@[go_sem] theorem offs59_0_1 (a : Link) : a.av.offs [0, 1] = some 1 := rfl
theorem tField59_1 : tFieldI Tryz.prog 149 1 = some (33, 33, true) := by kernel_rfl
@[go_sem] theorem fap59_1 (o : Nat) (p : List Nat) (off : Nat) (K : AV → Prop) : fieldAddrK Tryz.prog 149 (.ptr o p off) 1 K = K (.ptr o (p ++ [1]) (off + 33)) := fieldAddr_ptr tField59_1 (by decide) o p off K
@[go_sem] theorem far59_1 (a : Link) (K : AV → Prop) : fieldAddrK Tryz.prog 149 (.ref a.av) 1 K = K (.ref (a.t.av)) := fieldAddr_ref tField59_1 (by decide) rfl rfl K
@[go_sem] theorem sub59_1 (a : Link) : a.av.sub [1] = some (a.t.av) := rfl
@[go_sem] theorem offs59_1 (a : Link) : a.av.offs [1] = some 33 := rfl
@[go_sem] theorem upd59_1 (a : Link) (x : Check) : a.av.upd [1] (x.av) = some ({ a with t := x } : Link).av := rfl
@[go_sem] theorem sub59_1_0 (a : Link) : a.av.sub [1, 0] = some (.int .u64 a.t.epoch) := rfl
@[go_sem] theorem offs59_1_0 (a : Link) : a.av.offs [1, 0] = some 33 := rfl
@[go_sem] theorem sub59_1_1 (a : Link) : a.av.sub [1, 1] = some (.root a.t.root) := rfl
@[go_sem] theorem offs59_1_1 (a : Link) : a.av.offs [1, 1] = some 34 := rfl
theorem tField59_2 : tFieldI Tryz.prog 149 2 = some (66, 1, false) := by kernel_rfl
@[go_sem] theorem fap59_2 (o : Nat) (p : List Nat) (off : Nat) (K : AV → Prop) : fieldAddrK Tryz.prog 149 (.ptr o p off) 2 K = K (.ptr o (p ++ [2]) (off + 66)) := fieldAddr_ptr tField59_2 (by decide) o p off K
@[go_sem] theorem far59_2 (a : Link) (K : AV → Prop) : fieldAddrK Tryz.prog 149 (.ref a.av) 2 K = K (.ref (.int .u64 a.mask)) := fieldAddr_ref tField59_2 (by decide) rfl rfl K
@[go_sem] theorem sub59_2 (a : Link) : a.av.sub [2] = some (.int .u64 a.mask) := rfl
@[go_sem] theorem offs59_2 (a : Link) : a.av.offs [2] = some 66 := rfl
@[go_sem] theorem upd59_2 (a : Link) (x : Int) : a.av.upd [2] (.int .u64 x) = some ({ a with mask := x } : Link).av := rfl
@[go_sem] theorem tSize59 : tSize Tryz.prog 149 = some 67 ∧ tAgg Tryz.prog 149 = some true := by and_intros <;> kernel_rfl
def zLink : Link := ⟨zCheck, zCheck, 0⟩
@[go_sem] theorem tZero59 : tZero Tryz.prog 149 = some zLink.av := by kernel_rfl
theorem Link.eqb (a b : Link) : a.av.eqb b.av = decide (a = b) := by
 have h_s := Check.eqb a.s b.s
 have h_t := Check.eqb a.t b.t
 cases a; cases b
 simp only at h_s h_t
 simp only [Link.av, AV.eqb, AV.eqbL, int_beq, h_s, h_t, Link.mk.injEq, Bool.decide_and, Bool.and_true]
theorem fits59 (a : Link) : fits Tryz.prog a.av 149 = true := by kernel_rfl
theorem depth59 (a : Link) : a.av.depth ≤ 9999 := Nat.le_of_ble_eq_true rfl
@[go_sem] theorem eql59 (a b : Link) (K : AV → Prop) : binK Tryz.prog .eql 149 a.av b.av K = K (.bool (decide (a = b))) :=
  bin_eql_of (fun _ _ h => by cases h) (fun _ h => by cases h) (fits59 a) (fits59 b) (depth59 a) kR (Link.eqb a b) K
@[go_sem] theorem neq59 (a b : Link) (K : AV → Prop) : binK Tryz.prog .neq 149 a.av b.av K = K (.bool !(decide (a = b))) :=
  bin_neq_of (fun _ _ h => by cases h) (fun _ h => by cases h) (fits59 a) (fits59 b) (depth59 a) kR (Link.eqb a b) K
@[go_sem] theorem build59_all (s : Check) (t : Check) (mask : Int) (K : AV → Prop) : buildK Tryz.prog 149 [(0, s.av), (1, t.av), (2, .int .u64 mask)] K = K (Link.mk s t mask).av := build_struct Tryz.underlying149 tZero59 rfl kR rfl K
structure LKey where
 s : Check
 t : Check
 deriving DecidableEq
def LKey.av (a : LKey) : AV := .st [a.s.av, a.t.av]
@[go_sem] theorem LKey.av_flat (a : LKey) : a.av.flat = true := rfl
@[go_sem] theorem LKey.av_len (a : LKey) : a.av.len = 66 := rfl
@[go_sem] theorem LKey.av_agg (a : LKey) : a.av.agg = true := rfl
@[go_sem] theorem LKey.av_idf (a : LKey) : a.av.idf = true := rfl
@[go_sem] theorem LKey.av_ok (a : LKey) : a.av.ok = true := rfl
@[go_sem] theorem LKey.av_frz (hp : HP) (a : LKey) : a.av.frz hp = a.av := rfl
@[go_sem] theorem LKey.av_idL (a : LKey) : a.av.idL = [] := rfl
@[go_sem] theorem LKey.av_ren (ρ : Nat → Nat) (a : LKey) : a.av.ren ρ = a.av := rfl
theorem tField99_0 : tFieldI Tryz.prog 220 0 = some (0, 33, true) := by kernel_rfl
@[go_sem] theorem fap99_0 (o : Nat) (p : List Nat) (off : Nat) (K : AV → Prop) : fieldAddrK Tryz.prog 220 (.ptr o p off) 0 K = K (.ptr o (p ++ [0]) (off + 0)) := fieldAddr_ptr tField99_0 (by decide) o p off K
@[go_sem] theorem far99_0 (a : LKey) (K : AV → Prop) : fieldAddrK Tryz.prog 220 (.ref a.av) 0 K = K (.ref (a.s.av)) := fieldAddr_ref tField99_0 (by decide) rfl rfl K
@[go_sem] theorem sub99_0 (a : LKey) : a.av.sub [0] = some (a.s.av) := rfl
@[go_sem] theorem offs99_0 (a : LKey) : a.av.offs [0] = some 0 := rfl
@[go_sem] theorem upd99_0 (a : LKey) (x : Check) : a.av.upd [0] (x.av) = some ({ a with s := x } : LKey).av := rfl
@[go_sem] theorem sub99_0_0 (a : LKey) : a.av.sub [0, 0] = some (.int .u64 a.s.epoch) := rfl
@[go_sem] theorem offs99_0_0 (a : LKey) : a.av.offs [0, 0] = some 0 := rfl
@[go_sem] theorem sub99_0_1 (a : LKey) : a.av.sub [0, 1] = some (.root a.s.root) := rfl
@[go_sem] theorem offs99_0_1 (a : LKey) : a.av.offs [0, 1] = some 1 := rfl
theorem tField99_1 : tFieldI Tryz.prog 220 1 = some (33, 33, true) := by kernel_rfl
@[go_sem] theorem fap99_1 (o : Nat) (p : List Nat) (off : Nat) (K : AV → Prop) : fieldAddrK Tryz.prog 220 (.ptr o p off) 1 K = K (.ptr o (p ++ [1]) (off + 33)) := fieldAddr_ptr tField99_1 (by decide) o p off K
@[go_sem] theorem far99_1 (a : LKey) (K : AV → Prop) : fieldAddrK Tryz.prog 220 (.ref a.av) 1 K = K (.ref (a.t.av)) := fieldAddr_ref tField99_1 (by decide) rfl rfl K
@[go_sem] theorem sub99_1 (a : LKey) : a.av.sub [1] = some (a.t.av) := rfl
@[go_sem] theorem offs99_1 (a : LKey) : a.av.offs [1] = some 33 := rfl
@[go_sem] theorem upd99_1 (a : LKey) (x : Check) : a.av.upd [1] (x.av) = some ({ a with t := x } : LKey).av := rfl
@[go_sem] theorem sub99_1_0 (a : LKey) : a.av.sub [1, 0] = some (.int .u64 a.t.epoch) := rfl
@[go_sem] theorem offs99_1_0 (a : LKey) : a.av.offs [1, 0] = some 33 := rfl
@[go_sem] theorem sub99_1_1 (a : LKey) : a.av.sub [1, 1] = some (.root a.t.root) := rfl
@[go_sem] theorem offs99_1_1 (a : LKey) : a.av.offs [1, 1] = some 34 := rfl
@[go_sem] theorem tSize99 : tSize Tryz.prog 220 = some 66 ∧ tAgg Tryz.prog 220 = some true := by and_intros <;> kernel_rfl
def zLKey : LKey := ⟨zCheck, zCheck⟩
@[go_sem] theorem tZero99 : tZero Tryz.prog 220 = some zLKey.av := by kernel_rfl
theorem LKey.eqb (a b : LKey) : a.av.eqb b.av = decide (a = b) := by
 have h_s := Check.eqb a.s b.s
 have h_t := Check.eqb a.t b.t
 cases a; cases b
 simp only at h_s h_t
 simp only [LKey.av, AV.eqb, AV.eqbL, int_beq, h_s, h_t, LKey.mk.injEq, Bool.decide_and, Bool.and_true]
theorem fits99 (a : LKey) : fits Tryz.prog a.av 220 = true := by kernel_rfl
theorem depth99 (a : LKey) : a.av.depth ≤ 9999 := Nat.le_of_ble_eq_true rfl
@[go_sem] theorem eql99 (a b : LKey) (K : AV → Prop) : binK Tryz.prog .eql 220 a.av b.av K = K (.bool (decide (a = b))) :=
  bin_eql_of (fun _ _ h => by cases h) (fun _ h => by cases h) (fits99 a) (fits99 b) (depth99 a) kR (LKey.eqb a b) K
@[go_sem] theorem neq99 (a b : LKey) (K : AV → Prop) : binK Tryz.prog .neq 220 a.av b.av K = K (.bool !(decide (a = b))) :=
  bin_neq_of (fun _ _ h => by cases h) (fun _ h => by cases h) (fits99 a) (fits99 b) (depth99 a) kR (LKey.eqb a b) K
@[go_sem] theorem build99_all (s : Check) (t : Check) (K : AV → Prop) : buildK Tryz.prog 220 [(0, s.av), (1, t.av)] K = K (LKey.mk s t).av := build_struct Tryz.underlying220 tZero99 rfl kR rfl K
def links (l : List Link) : AV := .sl (l.map Link.av) false
@[go_sem] theorem links_idL (l : List Link) : (links l).idL = [] := rfl
@[go_sem] theorem links_frz (hp : HP) (l : List Link) : (links l).frz hp = links l := rfl
@[go_sem] theorem links_flat (l : List Link) : (links l).flat = false := rfl
@[go_sem] theorem links_ok (l : List Link) : (links l).ok = true := rfl
@[go_sem] theorem links_idf (l : List Link) : (links l).idf = true := rfl
@[go_sem] theorem tElem22 : tElem Tryz.prog 31 = some 149 ∧ tBytes Tryz.prog 149 = some 88 := by and_intros <;> kernel_rfl
@[go_sem] theorem und22 : Tryz.prog.underlying 31 = some (.slice 149) := Tryz.underlying31
def bit (n : Int) : Int := if n < 0 then 0 else IntKind.u64.wrap (1 * 2 ^ min n.toNat IntKind.u64.bits)
theorem bit_pure (n : Int) : Pure Tryz.prog 190 [.int .i64 n] (.int .u64 (bit n)) := by
 refine pure_of_tr Tryz.func190 rfl nb rfl fun E hE hP => ?_
 refine mr ?_
 refine Tr.seq ?_
 refine mr ?_
 refine Tr.cond rfl (fun h1 => ?_) (fun h1 => ?_)
 · have hb : bit n = 0 := by rw [bit, if_pos (of_decide_eq_true h1)]
   refine mr ?_
   refine Tr.ret ?_
   simp only [hb, Tryz.f190, go_sem, seval]
 · have hn := of_decide_eq_false h1
   have hb : bit n = IntKind.u64.wrap (1 * 2 ^ min n.toNat IntKind.u64.bits) := by rw [bit, if_neg hn]
   refine mT ?_
   refine mSr ?_
   refine mO ?_
   refine ⟨by omega, ?_⟩
   refine mO ?_
   refine vc_nil ?_
   refine Tr.ret ?_
   simp only [hb, Tryz.f190, go_sem, seval]
def keyOf (l : Link) : LKey := ⟨l.s, l.t⟩
theorem of_pure (l : Link) : Pure Tryz.prog 191 [l.av] (keyOf l).av := by
 refine pure_of_tr Tryz.func191 rfl nb rfl fun E hE hP => ?_
 refine mr ?_
 refine mr ?_
 refine Tr.ret ?_
 simp only [keyOf, Tryz.f191, go_sem, seval]
def odd (l : Link) : Bool := decide (l.t.epoch ≤ l.s.epoch) || (decide (l.mask = 0) || decide (256 ≤ l.mask))
theorem odd_pure (l : Link) : Pure Tryz.prog 126 [l.av] (.bool (odd l)) := by
 have hb : bit 8 = 256 := by decide +kernel
 refine pure_of_tr Tryz.func126 rfl nb rfl fun E hE hP => ?_
 refine mr ?_
 by_cases h1 : l.t.epoch ≤ l.s.epoch
 · have e1 : decide (l.t.epoch ≤ l.s.epoch) = true := decide_eq_true h1
   have ho : odd l = true := by simp [odd, h1]
   have ff := e1
   refine mr ?_
   refine Tr.ret ?_
   simp only [ho, Tryz.f126, go_sem, seval]
 · have e1 : decide (l.t.epoch ≤ l.s.epoch) = false := decide_eq_false h1
   by_cases h2 : l.mask = 0
   · have e2 : decide (l.mask = 0) = true := decide_eq_true h2
     have ho : odd l = true := by simp [odd, h2]
     have ff := And.intro e1 e2
     refine mr ?_
     refine Tr.ret ?_
     simp only [ho, Tryz.f126, go_sem, seval]
   · have e2 : decide (l.mask = 0) = false := decide_eq_false h2
     have ho : odd l = decide (256 ≤ l.mask) := by simp [odd, h1, h2]
     have ff := And.intro e1 (And.intro e2 hb)
     have c1 := And.intro (en Tryz.func190) (bit_pure 8)
     refine mr ?_
     refine Tr.ret ?_
     simp only [ho, Tryz.f126, go_sem, seval]
def lidx (l : List Link) : Int := match l.findIdx? odd with | some i => (i : Int) | none => -1
theorem lidx_at {l : List Link} {i : Nat} (h : i < l.length) (hb : ∀ j (hj : j < i), odd (l[j]'(by omega)) = false) (hi : odd l[i] = true) : lidx l = i := by
 have : l.findIdx? odd = some i := by
  rw [List.findIdx?_eq_some_iff_getElem]
  exact ⟨h, hi, fun j hj => by rw [hb j hj]; simp⟩
 rw [lidx, this]
theorem lidx_none {l : List Link} (hb : ∀ j (hj : j < l.length), odd l[j] = false) : lidx l = -1 := by
 have : l.findIdx? odd = none := by
  rw [List.findIdx?_eq_none_iff]
  intro x hx
  obtain ⟨j, hj, rfl⟩ := List.mem_iff_getElem.1 hx
  exact hb j hj
 rw [lidx, this]
theorem lidx_any (l : List Link) : decide (0 ≤ lidx l) = l.any odd := by
 unfold lidx
 cases h : l.findIdx? odd with
 | none =>
   rw [List.findIdx?_eq_none_iff] at h
   have : l.any odd = false := by rw [List.any_eq_false]; intro x hx; rw [h x hx]; simp
   rw [this]; rfl
 | some i =>
   rw [List.findIdx?_eq_some_iff_getElem] at h
   obtain ⟨h1, h2, _⟩ := h
   have : l.any odd = true := List.any_eq_true.2 ⟨l[i], List.getElem_mem h1, h2⟩
   rw [this]; simp
def lidxSt (l : List Link) (i : Nat) : S where
 fr := [(8, .int .i64 i), (7, .int .i64 l.length), (0, .sl (l.map Link.av) false), (1, .fn (.func 126) [] [])]
 hp := []
 nx := 0
theorem LIndex_pure (l : List Link) (hl : l.length ≤ 100) : Pure Tryz.prog 189 [links l, .fn (.func 126) [] []] (.int .i64 (lidx l)) := by
 unfold links
 refine pure_of_tr Tryz.func189 rfl nb rfl fun E hE hP => ?_
 refine mr ?_
 refine Tr.seq ?_
 refine mr ?_
 refine Tr.block ?_
 refine Tr.loop (lidxSt l) (fun i => i ≤ l.length ∧ ∀ j (hj : j < l.length), j < i → odd l[j] = false) (fun i => l.length - i) 0 ⟨Nat.zero_le _, fun _ _ h => by omega⟩ ?_ ?_
 · exact mK
 · intro i ⟨hi, hbefore⟩
   unfold lidxSt
   refine mr ?_
   refine Tr.seq (Tr.cond rfl (fun hb => ?_) (fun hb => ?_))
   · refine Tr.skip ?_
     have hlt : i < l.length := by have := of_decide_eq_true hb; omega
     have ha := nth_map_lt Link.av l i hlt
     generalize hla : l[i] = a at ha
     have hw := wN i
     simp only [thenK]
     refine Tr.seq (Tr.block ?_)
     refine mr ?_
     have ff := ha
     have c1 := And.intro (en Tryz.func126) (odd_pure a)
     refine mr ?_
     refine Tr.cond rfl (fun hd => ?_) (fun hd => ?_)
     · refine mr ?_
       have hidx : lidx l = i := lidx_at hlt (fun j hj => hbefore j (by omega) hj) (by rw [hla]; exact hd)
       refine Tr.ret ?_
       simp only [Tryz.f189, hidx, go_sem, seval]
     · refine Tr.skip ?_
       simp only [blockK, thenK]
       refine tr_region xE ?_
       repeat (refine vc_op rfl ?_; simp only [hw, go_sem, seval])
       refine vc_nil ?_
       refine ⟨i + 1, ⟨hlt, fun j hj hji => ?_⟩, by omega, ?_⟩
       · by_cases h : j = i
         · subst h; rw [hla]; exact hd
         · exact hbefore j hj (by omega)
       · exact mK
   · refine Tr.exit ?_
     simp only [blockK, thenK, ↓reduceIte]
     have hil : i = l.length := by
      have := of_decide_eq_false hb
      omega
     subst hil
     have hidx : lidx l = -1 := lidx_none fun j hj => hbefore j hj hj
     refine mr ?_
     refine Tr.ret ?_
     simp only [Tryz.f189, hidx, go_sem, seval]
theorem LContains_pure (l : List Link) (hl : l.length ≤ 100) : Pure Tryz.prog 125 [links l, .fn (.func 126) [] []] (.bool (l.any odd)) := by
 refine pure_of_tr Tryz.func125 rfl nb rfl fun E hE hP => ?_
 refine mr ?_
 refine mSr ?_
 refine mO ?_
 refine call_fn rfl rfl rfl rfl (en Tryz.func189) (LIndex_pure l hl) rfl rfl rfl ?_
 refine mS ?_
 repeat (refine vc_op rfl ?_; simp only [lidx_any, go_sem, seval])
 refine vc_nil ?_
 refine Tr.ret ?_
 simp only [Tryz.f125, go_sem, seval]
def lentE (e : LKey × Nat) : AV × AV := (e.1.av, .int .i64 e.2)
def llook (es : List (LKey × Nat)) (k : LKey) : Option Nat := (es.find? fun e => decide (k = e.1)).map (·.2)
def placesTo (l : List Link) : Nat → List (LKey × Nat)
 | 0 => []
 | i + 1 => match l[i]? with
   | some x => if (llook (placesTo l i) (keyOf x)).isSome then placesTo l i else placesTo l i ++ [(keyOf x, i)]
   | none => placesTo l i
def places (l : List Link) : List (LKey × Nat) := placesTo l l.length
theorem tMap64 : tMap Tryz.prog 157 = some (220, 3) := by kernel_rfl
theorem ltZero3 : tZero Tryz.prog 3 = some (.int .i64 0) := by kernel_rfl
theorem keys64 (es : List (LKey × Nat)) : keysFit Tryz.prog 220 (es.map lentE) := fun e he => by
 obtain ⟨x, _, rfl⟩ := List.mem_map.1 he
 exact fits99 x.1
theorem found64 (es : List (LKey × Nat)) (k : LKey) : foundE k.av (es.map lentE) = (llook es k).map fun n => .int .i64 n := by
 unfold foundE llook
 induction es with
 | nil => rfl
 | cons e es ih =>
   have hb : k.av.eqb (lentE e).1 = decide (k = e.1) := LKey.eqb k e.1
   simp only [List.map_cons, List.find?_cons, hb]
   cases decide (k = e.1)
   · exact ih
   · rfl
theorem look64 {hp : HP} {o : Nat} {es : List (LKey × Nat)} {k : LKey} {K : AV → Prop} (hg : HP.get hp o = some (.amap (es.map lentE))) (h : K (.tup [.int .i64 ((llook es k).getD 0), .bool (llook es k).isSome])) :
 lookupK Tryz.prog 157 hp (.mp o) k.av true K := by
 simp only [lookupK, tMap64, hg, ltZero3, if_true]
 refine ⟨fits99 k, depth99 k, keys64 es, ?_⟩
 rw [found64]
 cases hl : llook es k with
 | none => rw [hl] at h; exact h
 | some n => rw [hl] at h; exact h
theorem upd64 {hp : HP} {o : Nat} {es : List (LKey × Nat)} {k : LKey} {n : Nat} {K : AV → HP → Prop} (hg : HP.get hp o = some (.amap (es.map lentE))) (hn : llook es k = none) (h : K (.tup []) (HP.set hp o (.amap ((es ++ [(k, n)]).map lentE)))) :
 mapUpdateK Tryz.prog 157 hp (.mp o) k.av (.int .i64 n) K := by
 simp only [mapUpdateK, tMap64, hg]
 refine ⟨fits99 k, depth99 k, keys64 es, rfl, rfl, ?_⟩
 have : setE k.av (.int .i64 n) (es.map lentE) = (es ++ [(k, n)]).map lentE := by
  have hf : foundE k.av (es.map lentE) = none := by rw [found64, hn]; rfl
  unfold setE
  have : (es.map lentE).findIdx? (fun e => k.av.eqb e.1) = none := by
   rw [List.findIdx?_eq_none_iff]
   intro e he
   unfold foundE at hf
   simp only [Option.map_eq_none_iff, List.find?_eq_none] at hf
   simpa using hf e he
  rw [this, List.map_append]
  rfl
 rw [this]
 exact h
theorem placesTo_next {l : List Link} {i : Nat} {a : Link} (h : i < l.length) (ha : l[i] = a) : placesTo l (i + 1) = if (llook (placesTo l i) (keyOf a)).isSome then placesTo l i else placesTo l i ++ [(keyOf a, i)] := by
 rw [placesTo]
 simp [h, ha]
def st41 (l : List Link) (i : Nat) : S where
 fr := [(3, .mp 0), (9, .sl (l.map Link.av) false), (10, .int .i64 l.length), (11, .int .i64 i)]
 hp := [(0, .amap ((placesTo l i).map lentE))]
 nx := 1
@[go_sem] theorem lren_amap (ρ : Nat → Nat) (es : List (AV × AV)) : (AO.amap es).ren ρ = .amap es := rfl
theorem places_own (l : List Link) (hl : l.length ≤ 100) : Own Tryz.prog 127 [links l] (.mp 0) [(0, .amap ((places l).map lentE))] := by
 unfold links
 refine own_of_tr Tryz.func127 rfl nb rfl fun E hE hP => ?_
 refine mr ?_
 refine mr ?_
 refine Tr.seq ?_
 refine mr ?_
 refine Tr.block ?_
 refine Tr.loop (st41 l) (fun i => i ≤ l.length) (fun i => l.length - i) 0 (Nat.zero_le _) ?_ ?_
 · refine wk_ren (fun | 0 => 16 | n => n) mB mB rfl rfl rfl
 · intro i hi
   unfold st41
   refine mr ?_
   refine Tr.seq (Tr.cond rfl (fun h1 => ?_) (fun h1 => ?_))
   · refine mT ?_
     have hlt : i < l.length := by have := of_decide_eq_true h1; omega
     have ha := nth_map_lt Link.av l i hlt
     generalize hla : l[i] = a at ha
     have hw := wN i
     have hpl := placesTo_next hlt hla
     refine Tr.seq ?_
     refine Tr.block ?_
     have ff := ha
     refine mr ?_
     refine mSr ?_
     refine mO ?_
     refine call_fn rfl rfl rfl rfl (en Tryz.func191) (of_pure a) rfl rfl rfl ?_
     refine mS ?_
     refine mO ?_
     refine look64 rfl ?_
     refine mO ?_
     refine vc_nil ?_
     refine mr ?_
     refine Tr.cond rfl (fun h2 => ?_) (fun h2 => ?_)
     · have hn : llook (placesTo l i) (keyOf a) = none := by
        cases hq : llook (placesTo l i) (keyOf a) with
        | none => rfl
        | some x => rw [hq] at h2; simp at h2
       rw [hn] at hpl
       simp only [Option.isSome_none, Bool.false_eq_true, if_false] at hpl
       refine tr_region xE ?_
       refine mO ?_
       refine call_fn rfl rfl rfl rfl (en Tryz.func191) (of_pure a) rfl rfl rfl ?_
       refine mS ?_
       refine mO ?_
       refine upd64 rfl hn ?_
       refine mS ?_
       refine mO ?_
       refine vc_nil ?_
       refine mU ?_
       refine tr_region xE ?_
       repeat (refine vc_op rfl ?_; simp only [hw, go_sem, seval])
       refine vc_nil ?_
       refine mU ?_
       refine ⟨i + 1, hlt, by omega, ?_⟩
       rw [hpl]
       exact mK
     · have hn : (llook (placesTo l i) (keyOf a)).isSome = true := by
        cases hq : llook (placesTo l i) (keyOf a) with
        | none => rw [hq] at h2; simp at h2
        | some x => rfl
       rw [hn, if_pos rfl] at hpl
       refine mT ?_
       refine tr_region xE ?_
       repeat (refine vc_op rfl ?_; simp only [hw, go_sem, seval])
       refine vc_nil ?_
       refine mU ?_
       refine ⟨i + 1, hlt, by omega, ?_⟩
       rw [hpl]
       exact mK
   · refine Tr.exit ?_
     refine mU ?_
     have hil : i = l.length := by
      have := of_decide_eq_false h1
      omega
     subst hil
     refine mr ?_
     refine Tr.ret ?_
     simp only [Tryz.f127, go_sem, seval]
     exact ⟨fun n => n, rfl, ⟨⟨rfl, rfl, rfl⟩, trivial⟩, rfl⟩
@[go_sem] theorem und64 : Tryz.prog.underlying 157 = some (.map 220 3) := Tryz.underlying157
theorem look_spec {l : List Link} {n : Nat} {k : LKey} {i : Nat} (h : llook (placesTo l n) k = some i) : i < n ∧ ∃ hi : i < l.length, keyOf l[i] = k := by
 induction n with
 | zero => simp [placesTo, llook] at h
 | succ n ih =>
   by_cases hn : n < l.length
   · rw [placesTo_next hn rfl] at h
     split at h
     · obtain ⟨h1, h2⟩ := ih h
       exact ⟨by omega, h2⟩
     · unfold llook at h
       rw [List.find?_append] at h
       cases hq : (placesTo l n).find? fun e => decide (k = e.1) with
       | some e =>
         rw [hq] at h
         have h' : llook (placesTo l n) k = some i := by unfold llook; rw [hq]; simpa using h
         obtain ⟨h1, h2⟩ := ih h'
         exact ⟨by omega, h2⟩
       | none =>
         rw [hq] at h
         by_cases hk : k = keyOf l[n]
         · simp [hk] at h
           subst h
           exact ⟨by omega, hn, hk.symm⟩
         · simp [hk] at h
   · have e : placesTo l (n + 1) = placesTo l n := by rw [placesTo, List.getElem?_eq_none (by omega)]
     rw [e] at h
     obtain ⟨h1, h2⟩ := ih h
     exact ⟨by omega, h2⟩
def lmayB (l : List Link) : Bool := decide (l.length ≤ 16) && (!l.any odd && decide ((places l).length = l.length))
theorem LMay_pure (l : List Link) : Pure Tryz.prog 60 [links l] (.bool (lmayB l)) := by
 unfold links
 refine pure_of_tr Tryz.func60 rfl nb rfl fun E hE hP => ?_
 refine mr ?_
 by_cases h : l.length ≤ 16
 · have h1 : decide ((l.length : Int) ≤ 16) = true := dtO
   cases h2 : l.any odd with
   | true =>
     have hm : lmayB l = false := by simp only [lmayB, h2]; simp
     have ff := And.intro h1 h2
     have c1 := And.intro (en Tryz.func125) (LContains_pure l (by omega))
     refine mr ?_
     refine Tr.ret ?_
     simp only [hm, Tryz.f60, go_sem, seval]
   | false =>
     have hm : lmayB l = decide (((places l).length : Int) = l.length) := by simp only [lmayB, h2, h]; simp; omega
     have ff := And.intro h1 h2
     have c1 := And.intro (en Tryz.func125) (LContains_pure l (by omega))
     have o1 := And.intro (en Tryz.func127) (places_own l (by omega))
     refine mr ?_
     refine Tr.ret ?_
     simp only [hm, Tryz.f60, go_sem, seval]
 · have h1 : decide ((l.length : Int) ≤ 16) = false := dfO
   have hm : lmayB l = false := by simp [lmayB, h]
   have ff := h1
   refine mr ?_
   refine Tr.ret ?_
   simp only [hm, Tryz.f60, go_sem, seval]
def andU (a b : Int) : Int := bitsI .and .u64 a b
def bv (n : Int) : BitVec 64 := BitVec.ofInt 64 n
def inU (n : Int) : Prop := 0 ≤ n ∧ n < 18446744073709551616
theorem wrapU {n : Nat} (h : n < 18446744073709551616) : IntKind.u64.wrap (n : Int) = n := by
 simp [IntKind.wrap, IntKind.signed, IntKind.bits]
 omega
theorem bv_nat (x : BitVec 64) : bv (x.toNat : Int) = x := by simp [bv]
theorem bv_back {n : Int} (h : inU n) : ((bv n).toNat : Int) = n := by
 obtain ⟨h1, h2⟩ := h
 simp only [bv, BitVec.toNat_ofInt]
 omega
theorem andU_eq (a b : Int) : andU a b = ((bv a &&& bv b).toNat : Int) := by
 unfold andU bitsI
 exact wrapU (bv a &&& bv b).isLt
theorem inU_nat (x : BitVec 64) : inU (x.toNat : Int) := ⟨by omega, by have := x.isLt; omega⟩
theorem inU_and (a b : Int) : inU (andU a b) := by rw [andU_eq]; exact inU_nat _
theorem placesTo_len {l : List Link} : ∀ n, n ≤ l.length → (∀ (i j : Nat) (a b : Link), i < j → j < n → l[i]? = some a → l[j]? = some b → keyOf a ≠ keyOf b) → (placesTo l n).length = n
 | 0, _, _ => rfl
 | n + 1, h, hk => by
   have ih := placesTo_len n (by omega) fun i j a b h1 h2 => hk i j a b h1 (by omega)
   rw [placesTo_next (by omega) rfl]
   cases hq : llook (placesTo l n) (keyOf l[n]) with
   | none => simp [ih]
   | some i =>
     obtain ⟨h1, h2, h3⟩ := look_spec hq
     exact absurd h3 (hk i n l[i] l[n] h1 (by omega) (by simp) (by simp))
theorem places_len {l : List Link} (hk : ∀ (i j : Nat) (a b : Link), i < j → l[i]? = some a → l[j]? = some b → keyOf a ≠ keyOf b) : (places l).length = l.length :=
 placesTo_len _ (Nat.le_refl _) fun i j a b h1 _ => hk i j a b h1
theorem look_app {es : List (LKey × Nat)} {k : LKey} {x : LKey × Nat} : llook (es ++ [x]) k = match llook es k with | some i => some i | none => if k = x.1 then some x.2 else none := by
 unfold llook
 rw [List.find?_append]
 cases h : es.find? fun e => decide (k = e.1) with
 | some e => simp
 | none =>
   by_cases hk : k = x.1
   · simp [hk]
   · simp [hk]
theorem look_mem {l : List Link} : ∀ (n j : Nat) (hn : n ≤ l.length) (hj : j < n), (llook (placesTo l n) (keyOf (l[j]'(by omega)))).isSome = true
 | 0, j, _, hj => by omega
 | n + 1, j, hn, hj => by
   rw [placesTo_next (l := l) (i := n) (by omega) rfl]
   by_cases hjn : j = n
   · subst hjn
     split
     · assumption
     · rename_i h
       rw [look_app]
       cases hq : llook (placesTo l j) (keyOf l[j]) with
       | some i => rfl
       | none => simp
   · have ih := look_mem (l := l) n j (by omega) (by omega)
     split
     · exact ih
     · rw [look_app]
       obtain ⟨i, hi⟩ := Option.isSome_iff_exists.1 ih
       rw [hi]; rfl
theorem placesTo_le {l : List Link} : ∀ n, (placesTo l n).length ≤ n
 | 0 => Nat.le_refl _
 | n + 1 => by
   have ih := placesTo_le (l := l) n
   rw [placesTo]
   split
   · split
     · omega
     · simp; omega
   · omega
theorem keys_apart {l : List Link} : ∀ n, n ≤ l.length → (placesTo l n).length = n → ∀ (i j : Nat) (a b : Link), i < j → j < n → l[i]? = some a → l[j]? = some b → keyOf a ≠ keyOf b
 | 0, _, _, i, j, a, b, h1, h2, _, _ => by omega
 | n + 1, hn, hlen, i, j, a, b, h1, h2, h3, h4 => by
   rw [placesTo_next (l := l) (i := n) (by omega) rfl] at hlen
   have hle := placesTo_le (l := l) n
   cases hq : llook (placesTo l n) (keyOf l[n]) with
   | some x =>
     rw [hq] at hlen
     simp at hlen
     omega
   | none =>
     rw [hq] at hlen
     have hl' : (placesTo l n).length = n := by simpa using hlen
     by_cases hj : j = n
     · subst hj
       intro he
       have hb : l[j] = b := (List.getElem?_eq_some_iff.1 h4).2
       have ha : l[i]'(Nat.lt_trans h1 (by omega)) = a := (List.getElem?_eq_some_iff.1 h3).2
       have := look_mem (l := l) j i (by omega) h1
       rw [ha, he, ← hb, hq] at this
       cases this
     · exact keys_apart n (by omega) hl' i j a b h1 (by omega) h3 h4
theorem may_spec {l : List Link} (h : lmayB l = true) : l.length ≤ 16 ∧ (∀ a ∈ l, odd a = false) ∧ (places l).length = l.length := by
 simp only [lmayB, Bool.and_eq_true, decide_eq_true_eq, Bool.not_eq_true', List.any_eq_false] at h
 exact ⟨h.1, fun a ha => by simpa using h.2.1 a ha, h.2.2⟩
theorem odd_false {a : Link} : odd a = false ↔ a.s.epoch < a.t.epoch ∧ a.mask ≠ 0 ∧ a.mask < 256 := by
 simp only [odd, Bool.or_eq_false_iff, decide_eq_false_iff_not]
 omega
theorem bit_pow : ∀ v : Nat, v ≤ 7 → bit v = ((2 ^ v : Nat) : Int)
 | 0, _ => by decide +kernel
 | 1, _ => by decide +kernel
 | 2, _ => by decide +kernel
 | 3, _ => by decide +kernel
 | 4, _ => by decide +kernel
 | 5, _ => by decide +kernel
 | 6, _ => by decide +kernel
 | 7, _ => by decide +kernel
 | n + 8, h => by omega
def st42 (v i : Nat) : S where
 fr := [(4, .int .i64 i), (3, .int .u64 ((2 ^ i : Nat) : Int)), (0, .int .i64 v)]
 hp := []
 nx := 0
theorem RBit_pure (v : Nat) (hv : v ≤ 7) : Pure Tryz.prog 233 [.int .i64 v] (.int .u64 (bit v)) := by
 rw [bit_pow v hv]
 have e1 : decide ((v : Int) < 0) = false := dfO
 have e2 : decide (63 < (v : Int)) = false := dfO
 refine pure_of_tr Tryz.func233 rfl nb rfl fun E hE hP => ?_
 refine mr ?_
 refine Tr.seq ?_
 have ff := And.intro e1 e2
 refine mr ?_
 refine Tr.cond rfl (fun h1 => by cases h1) (fun h1 => ?_)
 refine mT ?_
 refine mr ?_
 refine Tr.seq ?_
 refine mr ?_
 refine Tr.block ?_
 refine Tr.loop (st42 v) (fun i => i ≤ v) (fun i => v - i) 0 (Nat.zero_le _) ?_ ?_
 · exact mK
 · intro i hi
   unfold st42
   refine Tr.seq ?_
   refine mr ?_
   refine Tr.cond rfl (fun h2 => ?_) (fun h2 => ?_)
   · refine mT ?_
     have hlt : i < v := by have := of_decide_eq_true h2; omega
     have hw := wN i
     have hp : 2 ^ (i + 1) ≤ 2 ^ 7 := Nat.pow_le_pow_right (by omega) (by omega)
     have hm : IntKind.u64.wrap (2 * ((2 ^ i : Nat) : Int)) = ((2 ^ (i + 1) : Nat) : Int) := by
      rw [show (2 * ((2 ^ i : Nat) : Int)) = ((2 ^ (i + 1) : Nat) : Int) by rw [Nat.pow_succ]; omega]
      exact wrapU (by omega)
     refine Tr.seq ?_
     refine Tr.block ?_
     refine tr_region xE ?_
     repeat (refine vc_op rfl ?_; simp only [hm, go_sem, seval])
     refine vc_nil ?_
     refine mU ?_
     refine tr_region xE ?_
     repeat (refine vc_op rfl ?_; simp only [hw, go_sem, seval])
     refine vc_nil ?_
     refine mU ?_
     refine ⟨i + 1, hlt, by omega, ?_⟩
     exact mK
   · refine Tr.exit ?_
     refine mU ?_
     have hil : i = v := by
      have := of_decide_eq_false h2
      omega
     subst hil
     refine mr ?_
     refine Tr.ret ?_
     simp only [Tryz.f233, go_sem, seval]
theorem ROne_pure (x y : Link) : Pure Tryz.prog 220 [x.av, y.av] (.bool (decide (keyOf x = keyOf y))) := by
 refine pure_of_tr Tryz.func220 rfl nb rfl fun E hE hP => ?_
 refine mr ?_
 cases h1 : decide (x.s = y.s) with
 | true =>
   have hk : decide (keyOf x = keyOf y) = decide (x.t = y.t) := by
    have := of_decide_eq_true h1
    simp [keyOf, this]
   have ff := h1
   refine mr ?_
   refine Tr.ret ?_
   simp only [hk, Tryz.f220, go_sem, seval]
 | false =>
   have hk : decide (keyOf x = keyOf y) = false := by
    have := of_decide_eq_false h1
    simp [keyOf, this]
   have ff := h1
   refine mr ?_
   refine Tr.ret ?_
   simp only [hk, Tryz.f220, go_sem, seval]
end Go.Proofs.YtgnidooihignfaaGreatDoor

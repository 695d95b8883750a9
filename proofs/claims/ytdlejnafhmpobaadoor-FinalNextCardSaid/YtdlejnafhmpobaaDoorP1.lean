/- Checkpoints, and what is simple about bytes. -/
import Derived.Test.YtdlejnafhmpobaaDoorAbFour
import Derived.Test.YtdlejnafhmpobaaDoorProg
set_option linter.unusedSimpArgs false
namespace Go.Proofs.YtdlejnafhmpobaaDoor
open Go Go.Ab

structure Check where
  epoch : Int
  root : Root
  deriving DecidableEq
def Check.av (a : Check) : AV := .st [.int .u64 a.epoch, .root a.root]
@[go_sem] theorem Check.av_flat (a : Check) : a.av.flat = true := rfl
@[go_sem] theorem Check.av_len (a : Check) : a.av.len = 33 := rfl
@[go_sem] theorem Check.av_agg (a : Check) : a.av.agg = true := rfl
@[go_sem] theorem Check.av_idf (a : Check) : a.av.idf = true := rfl
@[go_sem] theorem Check.av_ok (a : Check) : a.av.ok = true := rfl
@[go_sem] theorem Check.av_frz (hp : HP) (a : Check) : a.av.frz hp = a.av := rfl
@[go_sem] theorem Check.av_idL (a : Check) : a.av.idL = [] := rfl
@[go_sem] theorem Check.av_ren (ρ : Nat → Nat) (a : Check) : a.av.ren ρ = a.av := rfl
theorem tField28_0 : tFieldI Tryd.prog 32 0 = some (0, 1, false) := by kernel_rfl
@[go_sem] theorem fap28_0 (o : Nat) (p : List Nat) (off : Nat) (K : AV → Prop) : fieldAddrK Tryd.prog 32 (.ptr o p off) 0 K = K (.ptr o (p ++ [0]) (off + 0)) := fieldAddr_ptr tField28_0 (by decide) o p off K
@[go_sem] theorem far28_0 (a : Check) (K : AV → Prop) : fieldAddrK Tryd.prog 32 (.ref a.av) 0 K = K (.ref (.int .u64 a.epoch)) := fieldAddr_ref tField28_0 (by decide) rfl rfl K
@[go_sem] theorem sub28_0 (a : Check) : a.av.sub [0] = some (.int .u64 a.epoch) := rfl
@[go_sem] theorem offs28_0 (a : Check) : a.av.offs [0] = some 0 := rfl
@[go_sem] theorem upd28_0 (a : Check) (x : Int) : a.av.upd [0] (.int .u64 x) = some ({ a with epoch := x } : Check).av := rfl
theorem tField28_1 : tFieldI Tryd.prog 32 1 = some (1, 32, true) := by kernel_rfl
@[go_sem] theorem fap28_1 (o : Nat) (p : List Nat) (off : Nat) (K : AV → Prop) : fieldAddrK Tryd.prog 32 (.ptr o p off) 1 K = K (.ptr o (p ++ [1]) (off + 1)) := fieldAddr_ptr tField28_1 (by decide) o p off K
@[go_sem] theorem far28_1 (a : Check) (K : AV → Prop) : fieldAddrK Tryd.prog 32 (.ref a.av) 1 K = K (.ref (.root a.root)) := fieldAddr_ref tField28_1 (by decide) rfl rfl K
@[go_sem] theorem sub28_1 (a : Check) : a.av.sub [1] = some (.root a.root) := rfl
@[go_sem] theorem offs28_1 (a : Check) : a.av.offs [1] = some 1 := rfl
@[go_sem] theorem upd28_1 (a : Check) (x : Root) : a.av.upd [1] (.root x) = some ({ a with root := x } : Check).av := rfl
@[go_sem] theorem tSize28 : tSize Tryd.prog 32 = some 33 := by kernel_rfl
@[go_sem] theorem tAgg28 : tAgg Tryd.prog 32 = some true := by kernel_rfl
def zCheck : Check := ⟨0, zroot⟩
@[go_sem] theorem tZero28 : tZero Tryd.prog 32 = some zCheck.av := by kernel_rfl
theorem Check.eqb (a b : Check) : a.av.eqb b.av = decide (a = b) := by
  cases a; cases b
  simp only [Check.av, AV.eqb, AV.eqbL, int_beq, Check.mk.injEq, Bool.decide_and, Bool.and_true]
theorem fits28 (a : Check) : fits Tryd.prog a.av 32 = true := by kernel_rfl
theorem depth28 (a : Check) : a.av.depth ≤ 9999 := Nat.le_of_ble_eq_true rfl
@[go_sem] theorem eql28 (a b : Check) (K : AV → Prop) : binK Tryd.prog .eql 32 a.av b.av K = K (.bool (decide (a = b))) :=
  bin_eql_of (fun _ _ h => by cases h) (fun _ h => by cases h) (fits28 a) (fits28 b) (depth28 a) (by kernel_rfl) (Check.eqb a b) K
@[go_sem] theorem neq28 (a b : Check) (K : AV → Prop) : binK Tryd.prog .neq 32 a.av b.av K = K (.bool !(decide (a = b))) :=
  bin_neq_of (fun _ _ h => by cases h) (fun _ h => by cases h) (fits28 a) (fits28 b) (depth28 a) (by kernel_rfl) (Check.eqb a b) K
@[go_sem] theorem build28_all (epoch : Int) (root : Root) (K : AV → Prop) : buildK Tryd.prog 32 [(0, .int .u64 epoch), (1, .root root)] K = K (Check.mk epoch root).av := build_struct Tryd.underlying32 tZero28 rfl (by kernel_rfl) rfl K

theorem mixed : Tryd.prog.follows .mixedOrders = true := by kernel_rfl
@[go_sem] theorem und5 : Tryd.prog.underlying 5 = some (.int .u8) := Tryd.underlying5
@[go_sem] theorem und24 : Tryd.prog.underlying 28 = some (.int .u64) := Tryd.underlying28
@[go_sem] theorem und31 : Tryd.prog.underlying 115 = some (.slice 5) := Tryd.underlying115
@[go_sem] theorem und48 : Tryd.prog.underlying 26 = some (.slice 28) := Tryd.underlying26
@[go_sem] theorem und3 : Tryd.prog.underlying 3 = some (.int .i64) := Tryd.underlying3
@[go_sem] theorem tSize5 : tSize Tryd.prog 5 = some 1 := by kernel_rfl
@[go_sem] theorem tAgg5 : tAgg Tryd.prog 5 = some false := by kernel_rfl
@[go_sem] theorem tBytes5 : tBytes Tryd.prog 5 = some 1 := by kernel_rfl
@[go_sem] theorem tZero5 : tZero Tryd.prog 5 = some (.int .u8 0) := by kernel_rfl
@[go_sem] theorem tSize24 : tSize Tryd.prog 28 = some 1 := by kernel_rfl
@[go_sem] theorem tAgg24 : tAgg Tryd.prog 28 = some false := by kernel_rfl
@[go_sem] theorem tBytes24 : tBytes Tryd.prog 28 = some 8 := by kernel_rfl
@[go_sem] theorem tZero24 : tZero Tryd.prog 28 = some (.int .u64 0) := by kernel_rfl
@[go_sem] theorem tSize23 : tSize Tryd.prog 30 = some 32 := by kernel_rfl
@[go_sem] theorem tAgg23 : tAgg Tryd.prog 30 = some true := by kernel_rfl
@[go_sem] theorem tBytes23 : tBytes Tryd.prog 30 = some 32 := by kernel_rfl
@[go_sem] theorem tZero23 : tZero Tryd.prog 30 = some (.root zroot) := by kernel_rfl
@[go_sem] theorem tArr23 : tArr Tryd.prog 30 = some (32, 5) := by kernel_rfl
@[go_sem] theorem tSize31 : tSize Tryd.prog 115 = some 1 := by kernel_rfl
@[go_sem] theorem tAgg31 : tAgg Tryd.prog 115 = some false := by kernel_rfl
@[go_sem] theorem tElem31 : tElem Tryd.prog 115 = some 5 := by kernel_rfl
@[go_sem] theorem tElem48 : tElem Tryd.prog 26 = some 28 := by kernel_rfl
@[go_sem] theorem tSize3 : tSize Tryd.prog 3 = some 1 := by kernel_rfl
@[go_sem] theorem tAgg3 : tAgg Tryd.prog 3 = some false := by kernel_rfl
@[go_sem] theorem conv24_5 (hp : HP) (n : Int) (K : AV → Prop) : convK Tryd.prog 28 5 hp (.int .u64 n) K = K (.int .u8 (IntKind.u8.wrap n)) := by simp only [convK, und24, und5]
@[go_sem] theorem conv5_24 (hp : HP) (n : Int) (K : AV → Prop) : convK Tryd.prog 5 28 hp (.int .u8 n) K = K (.int .u64 (IntKind.u64.wrap n)) := by simp only [convK, und24, und5]
@[go_sem] theorem conv3_5 (hp : HP) (n : Int) (K : AV → Prop) : convK Tryd.prog 3 5 hp (.int .i64 n) K = K (.int .u8 (IntKind.u8.wrap n)) := by simp only [convK, und3, und5]
@[go_sem] theorem conv5_3 (hp : HP) (n : Int) (K : AV → Prop) : convK Tryd.prog 5 3 hp (.int .u8 n) K = K (.int .i64 (IntKind.i64.wrap n)) := by simp only [convK, und3, und5]

def bav (b : UInt8) : AV := .int .u8 b.toNat
@[go_sem] theorem bav_len (b : UInt8) : (bav b).len = 1 := rfl
@[go_sem] theorem bav_agg (b : UInt8) : (bav b).agg = false := rfl
@[go_sem] theorem bav_ok (b : UInt8) : (bav b).ok = true := rfl
@[go_sem] theorem bav_idf (b : UInt8) : (bav b).idf = true := rfl
def bytes (l : List UInt8) : AV := .sl (l.map bav) false
@[go_sem] theorem bytes_idL (l : List UInt8) : (bytes l).idL = [] := rfl
@[go_sem] theorem bytes_frz (hp : HP) (l : List UInt8) : (bytes l).frz hp = bytes l := rfl
@[go_sem] theorem bytes_flat (l : List UInt8) : (bytes l).flat = false := rfl
@[go_sem] theorem bytes_ok (l : List UInt8) : (bytes l).ok = true := rfl
@[go_sem] theorem bytes_idf (l : List UInt8) : (bytes l).idf = true := rfl
theorem sliceK_hi {P : Program} {t e : TypeId} {xs : List AV} {clip : Bool} {k : Nat} {K : AV → Prop} (he : tElem P t = some e) (hz : (tSize P e).isSome = true) (hs : ∀ y ∈ xs, tSize P e = some y.len) (hk : k ≤ xs.length)
    (h : K (.sl (xs.take k) (clip && decide (k = xs.length)))) : sliceK P t (.sl xs clip) none (some (.int .i64 k)) none K := by
  simp only [sliceK, he, boundOf, Int.natCast_nonneg, if_true, Int.toNat_natCast, Nat.zero_le, true_and, List.drop_zero]
  exact ⟨hk, hz, hs, h⟩
theorem sliceK_lo {P : Program} {t e : TypeId} {xs : List AV} {clip : Bool} {k : Nat} {K : AV → Prop} (he : tElem P t = some e) (hz : (tSize P e).isSome = true) (hs : ∀ y ∈ xs, tSize P e = some y.len) (hk : k ≤ xs.length)
    (h : K (.sl (xs.drop k) clip)) : sliceK P t (.sl xs clip) (some (.int .i64 k)) none none K := by
  simp only [sliceK, he, boundOf, Int.natCast_nonneg, if_true, Int.toNat_natCast, List.take_length, decide_true, Bool.and_true]
  exact ⟨hk, Nat.le_refl _, hz, hs, h⟩
theorem size_bav (l : List UInt8) : ∀ y ∈ l.map bav, tSize Tryd.prog 5 = some y.len := fun y hy => by
  obtain ⟨b, _, rfl⟩ := List.mem_map.1 hy
  exact tSize5
theorem lens_bav (l : List UInt8) : ∀ z ∈ l.map bav, z.len = 1 := fun z hz => by
  obtain ⟨a, _, rfl⟩ := List.mem_map.1 hz
  rfl

end Go.Proofs.YtdlejnafhmpobaaDoor

/- The types of layers 6 and 9; bytes compared. -/
set_option linter.unusedSimpArgs false
namespace Go.Proofs.YtdlejnafhmpobaaDoor
open Go Go.Ab

structure Node where
  root : Root
  parent : Int
  slot : Int
  just : Int
  deriving DecidableEq
def Node.av (a : Node) : AV := .st [.root a.root, .int .i64 a.parent, .int .u64 a.slot, .int .u64 a.just]
@[go_sem] theorem Node.av_flat (a : Node) : a.av.flat = true := rfl
@[go_sem] theorem Node.av_len (a : Node) : a.av.len = 35 := rfl
@[go_sem] theorem Node.av_agg (a : Node) : a.av.agg = true := rfl
@[go_sem] theorem Node.av_idf (a : Node) : a.av.idf = true := rfl
@[go_sem] theorem Node.av_ok (a : Node) : a.av.ok = true := rfl
@[go_sem] theorem Node.av_frz (hp : HP) (a : Node) : a.av.frz hp = a.av := rfl
@[go_sem] theorem Node.av_idL (a : Node) : a.av.idL = [] := rfl
@[go_sem] theorem Node.av_ren (ρ : Nat → Nat) (a : Node) : a.av.ren ρ = a.av := rfl
theorem tField63_0 : tFieldI Tryd.prog 89 0 = some (0, 32, true) := by kernel_rfl
@[go_sem] theorem fap63_0 (o : Nat) (p : List Nat) (off : Nat) (K : AV → Prop) : fieldAddrK Tryd.prog 89 (.ptr o p off) 0 K = K (.ptr o (p ++ [0]) (off + 0)) := fieldAddr_ptr tField63_0 (by decide) o p off K
@[go_sem] theorem far63_0 (a : Node) (K : AV → Prop) : fieldAddrK Tryd.prog 89 (.ref a.av) 0 K = K (.ref (.root a.root)) := fieldAddr_ref tField63_0 (by decide) rfl rfl K
@[go_sem] theorem sub63_0 (a : Node) : a.av.sub [0] = some (.root a.root) := rfl
@[go_sem] theorem offs63_0 (a : Node) : a.av.offs [0] = some 0 := rfl
@[go_sem] theorem upd63_0 (a : Node) (x : Root) : a.av.upd [0] (.root x) = some ({ a with root := x } : Node).av := rfl
theorem tField63_1 : tFieldI Tryd.prog 89 1 = some (32, 1, false) := by kernel_rfl
@[go_sem] theorem fap63_1 (o : Nat) (p : List Nat) (off : Nat) (K : AV → Prop) : fieldAddrK Tryd.prog 89 (.ptr o p off) 1 K = K (.ptr o (p ++ [1]) (off + 32)) := fieldAddr_ptr tField63_1 (by decide) o p off K
@[go_sem] theorem far63_1 (a : Node) (K : AV → Prop) : fieldAddrK Tryd.prog 89 (.ref a.av) 1 K = K (.ref (.int .i64 a.parent)) := fieldAddr_ref tField63_1 (by decide) rfl rfl K
@[go_sem] theorem sub63_1 (a : Node) : a.av.sub [1] = some (.int .i64 a.parent) := rfl
@[go_sem] theorem offs63_1 (a : Node) : a.av.offs [1] = some 32 := rfl
@[go_sem] theorem upd63_1 (a : Node) (x : Int) : a.av.upd [1] (.int .i64 x) = some ({ a with parent := x } : Node).av := rfl
theorem tField63_2 : tFieldI Tryd.prog 89 2 = some (33, 1, false) := by kernel_rfl
@[go_sem] theorem fap63_2 (o : Nat) (p : List Nat) (off : Nat) (K : AV → Prop) : fieldAddrK Tryd.prog 89 (.ptr o p off) 2 K = K (.ptr o (p ++ [2]) (off + 33)) := fieldAddr_ptr tField63_2 (by decide) o p off K
@[go_sem] theorem far63_2 (a : Node) (K : AV → Prop) : fieldAddrK Tryd.prog 89 (.ref a.av) 2 K = K (.ref (.int .u64 a.slot)) := fieldAddr_ref tField63_2 (by decide) rfl rfl K
@[go_sem] theorem sub63_2 (a : Node) : a.av.sub [2] = some (.int .u64 a.slot) := rfl
@[go_sem] theorem offs63_2 (a : Node) : a.av.offs [2] = some 33 := rfl
@[go_sem] theorem upd63_2 (a : Node) (x : Int) : a.av.upd [2] (.int .u64 x) = some ({ a with slot := x } : Node).av := rfl
theorem tField63_3 : tFieldI Tryd.prog 89 3 = some (34, 1, false) := by kernel_rfl
@[go_sem] theorem fap63_3 (o : Nat) (p : List Nat) (off : Nat) (K : AV → Prop) : fieldAddrK Tryd.prog 89 (.ptr o p off) 3 K = K (.ptr o (p ++ [3]) (off + 34)) := fieldAddr_ptr tField63_3 (by decide) o p off K
@[go_sem] theorem far63_3 (a : Node) (K : AV → Prop) : fieldAddrK Tryd.prog 89 (.ref a.av) 3 K = K (.ref (.int .u64 a.just)) := fieldAddr_ref tField63_3 (by decide) rfl rfl K
@[go_sem] theorem sub63_3 (a : Node) : a.av.sub [3] = some (.int .u64 a.just) := rfl
@[go_sem] theorem offs63_3 (a : Node) : a.av.offs [3] = some 34 := rfl
@[go_sem] theorem upd63_3 (a : Node) (x : Int) : a.av.upd [3] (.int .u64 x) = some ({ a with just := x } : Node).av := rfl
@[go_sem] theorem tSize63 : tSize Tryd.prog 89 = some 35 := by kernel_rfl
@[go_sem] theorem tAgg63 : tAgg Tryd.prog 89 = some true := by kernel_rfl
def zNode : Node := ⟨zroot, 0, 0, 0⟩
@[go_sem] theorem tZero63 : tZero Tryd.prog 89 = some zNode.av := by kernel_rfl
theorem Node.eqb (a b : Node) : a.av.eqb b.av = decide (a = b) := by
  cases a; cases b
  simp only [Node.av, AV.eqb, AV.eqbL, int_beq, Node.mk.injEq, Bool.decide_and, Bool.and_true]
theorem fits63 (a : Node) : fits Tryd.prog a.av 89 = true := by kernel_rfl
theorem depth63 (a : Node) : a.av.depth ≤ 9999 := Nat.le_of_ble_eq_true rfl
@[go_sem] theorem eql63 (a b : Node) (K : AV → Prop) : binK Tryd.prog .eql 89 a.av b.av K = K (.bool (decide (a = b))) :=
  bin_eql_of (fun _ _ h => by cases h) (fun _ h => by cases h) (fits63 a) (fits63 b) (depth63 a) (by kernel_rfl) (Node.eqb a b) K
@[go_sem] theorem neq63 (a b : Node) (K : AV → Prop) : binK Tryd.prog .neq 89 a.av b.av K = K (.bool !(decide (a = b))) :=
  bin_neq_of (fun _ _ h => by cases h) (fun _ h => by cases h) (fits63 a) (fits63 b) (depth63 a) (by kernel_rfl) (Node.eqb a b) K
@[go_sem] theorem build63_all (root : Root) (parent : Int) (slot : Int) (just : Int) (K : AV → Prop) : buildK Tryd.prog 89 [(0, .root root), (1, .int .i64 parent), (2, .int .u64 slot), (3, .int .u64 just)] K = K (Node.mk root parent slot just).av := build_struct Tryd.underlying89 tZero63 rfl (by kernel_rfl) rfl K


def tav (t : List Node) : AV := .st [.sl (t.map Node.av) false]
@[go_sem] theorem tav_len (t : List Node) : (tav t).len = 1 := rfl
@[go_sem] theorem tav_agg (t : List Node) : (tav t).agg = true := rfl
@[go_sem] theorem tav_idf (t : List Node) : (tav t).idf = true := rfl
@[go_sem] theorem tav_ok (t : List Node) : (tav t).ok = true := rfl
@[go_sem] theorem tav_flat (t : List Node) : (tav t).flat = false := rfl
@[go_sem] theorem tav_frz (hp : HP) (t : List Node) : (tav t).frz hp = tav t := rfl
@[go_sem] theorem tav_idL (t : List Node) : (tav t).idL = [] := rfl
@[go_sem] theorem tav_ren (ρ : Nat → Nat) (t : List Node) : (tav t).ren ρ = tav t := rfl
@[go_sem] theorem tav_sub (t : List Node) : (tav t).sub [0] = some (.sl (t.map Node.av) false) := rfl
@[go_sem] theorem tav_offs (t : List Node) : (tav t).offs [0] = some 0 := rfl
theorem tField47_0 : tFieldI Tryd.prog 24 0 = some (0, 1, false) := by kernel_rfl
@[go_sem] theorem fap47_0 (o : Nat) (p : List Nat) (off : Nat) (K : AV → Prop) : fieldAddrK Tryd.prog 24 (.ptr o p off) 0 K = K (.ptr o (p ++ [0]) (off + 0)) := fieldAddr_ptr tField47_0 (by decide) o p off K
@[go_sem] theorem far47_0 (t : List Node) (K : AV → Prop) : fieldAddrK Tryd.prog 24 (.ref (tav t)) 0 K = K (.ref (.sl (t.map Node.av) false)) := fieldAddr_ref tField47_0 (by decide) rfl rfl K
@[go_sem] theorem tSize47 : tSize Tryd.prog 24 = some 1 := by kernel_rfl
@[go_sem] theorem tAgg47 : tAgg Tryd.prog 24 = some true := by kernel_rfl
@[go_sem] theorem tZero47 : tZero Tryd.prog 24 = some (.st [.sl [] true]) := by kernel_rfl
@[go_sem] theorem tSize45 : tSize Tryd.prog 22 = some 1 := by kernel_rfl
@[go_sem] theorem tAgg45 : tAgg Tryd.prog 22 = some false := by kernel_rfl
@[go_sem] theorem tElem45 : tElem Tryd.prog 22 = some 89 := by kernel_rfl
@[go_sem] theorem und45 : Tryd.prog.underlying 22 = some (.slice 89) := Tryd.underlying22
@[go_sem] theorem tBytes63 : tBytes Tryd.prog 89 = some 56 := by kernel_rfl
@[go_sem] theorem tSize48 : tSize Tryd.prog 26 = some 1 := by kernel_rfl
@[go_sem] theorem tAgg48 : tAgg Tryd.prog 26 = some false := by kernel_rfl
@[go_sem] theorem und4 : Tryd.prog.underlying 4 = some .bool := Tryd.underlying4
@[go_sem] theorem tSize4 : tSize Tryd.prog 4 = some 1 := by kernel_rfl
@[go_sem] theorem tAgg4 : tAgg Tryd.prog 4 = some false := by kernel_rfl
@[go_sem] theorem tBytes4 : tBytes Tryd.prog 4 = some 1 := by kernel_rfl
@[go_sem] theorem tZero4 : tZero Tryd.prog 4 = some (.bool false) := by kernel_rfl
@[go_sem] theorem tSize51 : tSize Tryd.prog 93 = some 1 := by kernel_rfl
@[go_sem] theorem tAgg51 : tAgg Tryd.prog 93 = some false := by kernel_rfl
@[go_sem] theorem tElem51 : tElem Tryd.prog 93 = some 3 := by kernel_rfl
@[go_sem] theorem und51 : Tryd.prog.underlying 93 = some (.slice 3) := Tryd.underlying93
@[go_sem] theorem tBytes3 : tBytes Tryd.prog 3 = some 8 := by kernel_rfl
@[go_sem] theorem tZero3 : tZero Tryd.prog 3 = some (.int .i64 0) := by kernel_rfl
@[go_sem] theorem tZero51 : tZero Tryd.prog 93 = some (.sl [] true) := by kernel_rfl
def uav (n : Int) : AV := .int .u64 n
def iav (n : Int) : AV := .int .i64 n
@[go_sem] theorem uav_len (n : Int) : (uav n).len = 1 := rfl
@[go_sem] theorem uav_agg (n : Int) : (uav n).agg = false := rfl
@[go_sem] theorem iav_len (n : Int) : (iav n).len = 1 := rfl
@[go_sem] theorem iav_agg (n : Int) : (iav n).agg = false := rfl

theorem rooteqb (a b : Root) : (AV.root a).eqb (.root b) = decide (a = b) := by simp [AV.eqb]
theorem fits23 (a : Root) : fits Tryd.prog (.root a) 30 = true := by kernel_rfl
theorem depth23 (a : Root) : (AV.root a).depth ≤ 9999 := Nat.le_of_ble_eq_true rfl
@[go_sem] theorem eql23 (a b : Root) (K : AV → Prop) : binK Tryd.prog .eql 30 (.root a) (.root b) K = K (.bool (decide (a = b))) :=
  bin_eql_of (fun _ _ h => by cases h) (fun _ h => by cases h) (fits23 a) (fits23 b) (depth23 a) (by kernel_rfl) (rooteqb a b) K
@[go_sem] theorem neq23 (a b : Root) (K : AV → Prop) : binK Tryd.prog .neq 30 (.root a) (.root b) K = K (.bool !(decide (a = b))) :=
  bin_neq_of (fun _ _ h => by cases h) (fun _ h => by cases h) (fits23 a) (fits23 b) (depth23 a) (by kernel_rfl) (rooteqb a b) K

def cmpI (a b : Int) : Int := if a < b then -1 else if b < a then 1 else 0

theorem isNaN_pure (a : Int) : Pure Tryd.prog 100 [.int .u8 a] (.bool false) := by
  have ha : (a != a) = false := by simp
  refine pure_of_tr Tryd.func100 rfl (Nat.le_of_ble_eq_true rfl) rfl fun E hE hP => ?_
  first | refine tr_seq_region (by rw [hE]; rfl) ?_ | (refine Tr.seq ?_; refine tr_seq_region (by rw [hE]; rfl) ?_)
  repeat (refine vc_op rfl ?_; simp only [go_sem, seval])
  refine vc_nil ?_
  first | refine tr_seq_region (by rw [hE]; rfl) ?_ | (refine Tr.seq ?_; refine tr_seq_region (by rw [hE]; rfl) ?_)
  repeat (refine vc_op rfl ?_; simp only [ha, go_sem, seval])
  refine vc_nil ?_
  refine Tr.ret ?_
  simp only [Tryd.f100, go_sem, seval]

theorem cmp_pure (a b : Int) : Pure Tryd.prog 98 [.int .u8 a, .int .u8 b] (.int .i64 (cmpI a b)) := by
  refine pure_of_tr Tryd.func98 rfl (Nat.le_of_ble_eq_true rfl) rfl fun E hE hP => ?_
  first | refine tr_seq_region (by rw [hE]; rfl) ?_ | (refine Tr.seq ?_; refine tr_seq_region (by rw [hE]; rfl) ?_)
  repeat (refine vc_op rfl ?_; simp only [go_sem, seval])
  refine vc_nil ?_
  first | refine tr_seq_region (by rw [hE]; rfl) ?_ | (refine Tr.seq ?_; refine tr_seq_region (by rw [hE]; rfl) ?_)
  repeat (refine vc_op rfl ?_; simp only [go_sem, seval])
  refine call_fn rfl rfl rfl rfl (enters_of Tryd.func100 (by kernel_rfl) rfl) (isNaN_pure a) rfl rfl rfl ?_
  simp only [go_sem, seval]
  repeat (refine vc_op rfl ?_; simp only [go_sem, seval])
  refine vc_nil ?_
  first | refine tr_seq_region (by rw [hE]; rfl) ?_ | (refine Tr.seq ?_; refine tr_seq_region (by rw [hE]; rfl) ?_)
  repeat (refine vc_op rfl ?_; simp only [go_sem, seval])
  refine call_fn rfl rfl rfl rfl (enters_of Tryd.func100 (by kernel_rfl) rfl) (isNaN_pure b) rfl rfl rfl ?_
  simp only [go_sem, seval]
  repeat (refine vc_op rfl ?_; simp only [go_sem, seval])
  refine vc_nil ?_
  first | refine tr_seq_region (by rw [hE]; rfl) ?_ | (refine Tr.seq ?_; refine tr_seq_region (by rw [hE]; rfl) ?_)
  repeat (refine vc_op rfl ?_; simp only [go_sem, seval])
  refine vc_nil ?_
  first | refine Tr.cond rfl (fun h => by cases h) (fun _ => ?_) | refine Tr.seq (Tr.cond rfl (fun h => by cases h) (fun _ => ?_))
  refine Tr.skip ?_
  try simp only [blockK, thenK, ↓reduceIte]
  first | refine tr_seq_region (by rw [hE]; rfl) ?_ | (refine Tr.seq ?_; refine tr_seq_region (by rw [hE]; rfl) ?_)
  repeat (refine vc_op rfl ?_; simp only [go_sem, seval])
  refine vc_nil ?_
  first | refine Tr.cond rfl (fun h => by cases h) (fun _ => ?_) | refine Tr.seq (Tr.cond rfl (fun h => by cases h) (fun _ => ?_))
  refine Tr.skip ?_
  try simp only [blockK, thenK, ↓reduceIte]
  by_cases h1 : a < b
  · have e1 : decide (a < b) = true := decide_eq_true h1
    have er : cmpI a b = -1 := by simp [cmpI, h1]
    first | refine tr_seq_region (by rw [hE]; rfl) ?_ | (refine Tr.seq ?_; refine tr_seq_region (by rw [hE]; rfl) ?_)
    repeat (refine vc_op rfl ?_; simp only [e1, go_sem, seval])
    refine vc_nil ?_
    first | refine Tr.cond (b := true) rfl (fun _ => ?_) (fun h => by cases h) | refine Tr.seq (Tr.cond (b := true) rfl (fun _ => ?_) (fun h => by cases h))
    first | refine tr_seq_region (by rw [hE]; rfl) ?_ | (refine Tr.seq ?_; refine tr_seq_region (by rw [hE]; rfl) ?_)
    repeat (refine vc_op rfl ?_; simp only [go_sem, seval])
    refine vc_nil ?_
    refine Tr.ret ?_
    simp only [er, Tryd.f98, go_sem, seval]
  · have e1 : decide (a < b) = false := decide_eq_false h1
    first | refine tr_seq_region (by rw [hE]; rfl) ?_ | (refine Tr.seq ?_; refine tr_seq_region (by rw [hE]; rfl) ?_)
    repeat (refine vc_op rfl ?_; simp only [e1, go_sem, seval])
    refine vc_nil ?_
    first | refine Tr.cond rfl (fun h => by cases h) (fun _ => ?_) | refine Tr.seq (Tr.cond rfl (fun h => by cases h) (fun _ => ?_))
    refine Tr.skip ?_
    try simp only [blockK, thenK, ↓reduceIte]
    by_cases h2 : b < a
    · have e2 : decide (b < a) = true := decide_eq_true h2
      have er : cmpI a b = 1 := by simp [cmpI, h1, h2]
      first | refine tr_seq_region (by rw [hE]; rfl) ?_ | (refine Tr.seq ?_; refine tr_seq_region (by rw [hE]; rfl) ?_)
      repeat (refine vc_op rfl ?_; simp only [e2, go_sem, seval])
      refine vc_nil ?_
      first | refine Tr.cond (b := true) rfl (fun _ => ?_) (fun h => by cases h) | refine Tr.seq (Tr.cond (b := true) rfl (fun _ => ?_) (fun h => by cases h))
      first | refine tr_seq_region (by rw [hE]; rfl) ?_ | (refine Tr.seq ?_; refine tr_seq_region (by rw [hE]; rfl) ?_)
      repeat (refine vc_op rfl ?_; simp only [go_sem, seval])
      refine vc_nil ?_
      refine Tr.ret ?_
      simp only [er, Tryd.f98, go_sem, seval]
    · have e2 : decide (b < a) = false := decide_eq_false h2
      have er : cmpI a b = 0 := by simp [cmpI, h1, h2]
      first | refine tr_seq_region (by rw [hE]; rfl) ?_ | (refine Tr.seq ?_; refine tr_seq_region (by rw [hE]; rfl) ?_)
      repeat (refine vc_op rfl ?_; simp only [e2, go_sem, seval])
      refine vc_nil ?_
      first | refine Tr.cond rfl (fun h => by cases h) (fun _ => ?_) | refine Tr.seq (Tr.cond rfl (fun h => by cases h) (fun _ => ?_))
      refine Tr.skip ?_
      try simp only [blockK, thenK, ↓reduceIte]
      first | refine tr_seq_region (by rw [hE]; rfl) ?_ | (refine Tr.seq ?_; refine tr_seq_region (by rw [hE]; rfl) ?_)
      repeat (refine vc_op rfl ?_; simp only [go_sem, seval])
      refine vc_nil ?_
      refine Tr.ret ?_
      simp only [er, Tryd.f98, go_sem, seval]

end Go.Proofs.YtdlejnafhmpobaaDoor

/- Roots compared. -/
set_option linter.unusedSimpArgs false
namespace Go.Proofs.YtdlejnafhmpobaaDoor
open Go Go.Ab

def cmpL : List UInt8 → List UInt8 → Int
  | [], [] => 0
  | [], _ :: _ => -1
  | _ :: _, [] => 1
  | x :: xs, y :: ys => if (x.toNat : Int) < y.toNat then -1 else if (y.toNat : Int) < x.toNat then 1 else cmpL xs ys
def lessR (a b : Root) : Bool := decide (cmpL a.1 b.1 < 0)

theorem cmpL_self (a : List UInt8) : cmpL a a = 0 := by
  induction a with
  | nil => rfl
  | cons x xs ih => simp [cmpL, ih]

theorem cmpL_drop {a b : List UInt8} {i : Nat} (ha : i < a.length) (hb : i < b.length) : cmpL (a.drop i) (b.drop i) = if ((a[i]).toNat : Int) < (b[i]).toNat then -1 else if ((b[i]).toNat : Int) < (a[i]).toNat then 1 else cmpL (a.drop (i + 1)) (b.drop (i + 1)) := by
  rw [List.drop_eq_getElem_cons ha, List.drop_eq_getElem_cons hb, cmpL]

def st58 (a b : List UInt8) (i : Nat) : S where
  fr := [(0, .sl (a.map bav) false), (1, .sl (b.map bav) false), (9, .sl (a.map bav) false), (10, .int .i64 a.length), (11, .int .i64 i)]
  hp := []
  nx := 0

set_option maxRecDepth 4000 in
theorem scompare_pure (a b : List UInt8) (hab : a.length = b.length) (hl : a.length ≤ 100) : Pure Tryd.prog 88 [.sl (a.map bav) false, .sl (b.map bav) false] (.int .i64 (cmpL a b)) := by
  refine pure_of_tr Tryd.func88 rfl (Nat.le_of_ble_eq_true rfl) rfl fun E hE hP => ?_
  first | refine tr_seq_region (by rw [hE]; rfl) ?_ | (refine Tr.seq ?_; refine tr_seq_region (by rw [hE]; rfl) ?_)
  repeat (refine vc_op rfl ?_; simp only [go_sem, ↓Nat.reduceBEq, ↓Nat.reduceAdd, ↓Nat.reduceSub, ↓Nat.reduceMul, ↓Nat.reduceEqDiff, ↓Nat.reducePow, ↓Nat.reduceLeDiff, ↓Nat.reduceLT, ↓Int.reduceLE, ↓Int.reduceLT, ↓reduceIte, ↓reduceCtorEq])
  refine vc_nil ?_
  first | refine tr_seq_region (by rw [hE]; rfl) ?_ | (refine Tr.seq ?_; refine tr_seq_region (by rw [hE]; rfl) ?_)
  repeat (refine vc_op rfl ?_; simp only [go_sem, ↓Nat.reduceBEq, ↓Nat.reduceAdd, ↓Nat.reduceSub, ↓Nat.reduceMul, ↓Nat.reduceEqDiff, ↓Nat.reducePow, ↓Nat.reduceLeDiff, ↓Nat.reduceLT, ↓Int.reduceLE, ↓Int.reduceLT, ↓reduceIte, ↓reduceCtorEq])
  refine vc_nil ?_
  first | refine Tr.block ?_ | (refine Tr.seq ?_; refine Tr.block ?_)
  refine Tr.loop (st58 a b) (fun i => i ≤ a.length ∧ cmpL a b = cmpL (a.drop i) (b.drop i)) (fun i => a.length - i) 0 ⟨Nat.zero_le _, by rw [List.drop_zero, List.drop_zero]⟩ ?_ ?_
  · refine wk_ren (fun n => n) ?_ ?_ rfl rfl rfl
    · repeat' (first | exact rfl | exact trivial | constructor)
    · repeat' (first | exact rfl | exact trivial | constructor)
  · rintro i ⟨hi, hc⟩
    unfold st58
    first | refine tr_seq_region (by rw [hE]; rfl) ?_ | (refine Tr.seq ?_; refine tr_seq_region (by rw [hE]; rfl) ?_)
    repeat (refine vc_op rfl ?_; simp only [go_sem, ↓Nat.reduceBEq, ↓Nat.reduceAdd, ↓Nat.reduceSub, ↓Nat.reduceMul, ↓Nat.reduceEqDiff, ↓Nat.reducePow, ↓Nat.reduceLeDiff, ↓Nat.reduceLT, ↓Int.reduceLE, ↓Int.reduceLT, ↓reduceIte, ↓reduceCtorEq])
    refine vc_nil ?_
    refine Tr.seq (Tr.cond rfl (fun h1 => ?_) (fun h1 => ?_))
    · refine Tr.skip ?_
      try simp only [blockK, thenK, ↓reduceIte]
      have hlt : i < a.length := by have := of_decide_eq_true h1; omega
      have hltb : i < b.length := by omega
      have ha := nth_map_lt bav a i hlt
      have hb := nth_map_lt bav b i hltb
      have hw := wrap_next (n := i) (by omega)
      have hd := cmpL_drop hlt hltb
      simp only [bav] at ha hb
      have hge : decide ((b.length : Int) ≤ (i : Int)) = false := decide_eq_false (by omega)
      first | refine Tr.block ?_ | (refine Tr.seq ?_; refine Tr.block ?_)
      first | refine tr_seq_region (by rw [hE]; rfl) ?_ | (refine Tr.seq ?_; refine tr_seq_region (by rw [hE]; rfl) ?_)
      repeat (refine vc_op rfl ?_; simp only [ha, bav, go_sem, ↓Nat.reduceBEq, ↓Nat.reduceAdd, ↓Nat.reduceSub, ↓Nat.reduceMul, ↓Nat.reduceEqDiff, ↓Nat.reducePow, ↓Nat.reduceLeDiff, ↓Nat.reduceLT, ↓Int.reduceLE, ↓Int.reduceLT, ↓reduceIte, ↓reduceCtorEq])
      refine vc_nil ?_
      first | refine tr_seq_region (by rw [hE]; rfl) ?_ | (refine Tr.seq ?_; refine tr_seq_region (by rw [hE]; rfl) ?_)
      repeat (refine vc_op rfl ?_; simp only [hge, go_sem, ↓Nat.reduceBEq, ↓Nat.reduceAdd, ↓Nat.reduceSub, ↓Nat.reduceMul, ↓Nat.reduceEqDiff, ↓Nat.reducePow, ↓Nat.reduceLeDiff, ↓Nat.reduceLT, ↓Int.reduceLE, ↓Int.reduceLT, ↓reduceIte, ↓reduceCtorEq])
      refine vc_nil ?_
      first | refine Tr.cond rfl (fun h => by cases h) (fun _ => ?_) | refine Tr.seq (Tr.cond rfl (fun h => by cases h) (fun _ => ?_))
      refine Tr.skip ?_
      try simp only [blockK, thenK, ↓reduceIte]
      first | refine tr_seq_region (by rw [hE]; rfl) ?_ | (refine Tr.seq ?_; refine tr_seq_region (by rw [hE]; rfl) ?_)
      repeat (refine vc_op rfl ?_; simp only [hb, go_sem, ↓Nat.reduceBEq, ↓Nat.reduceAdd, ↓Nat.reduceSub, ↓Nat.reduceMul, ↓Nat.reduceEqDiff, ↓Nat.reducePow, ↓Nat.reduceLeDiff, ↓Nat.reduceLT, ↓Int.reduceLE, ↓Int.reduceLT, ↓reduceIte, ↓reduceCtorEq])
      refine vc_nil ?_
      first | refine tr_seq_region (by rw [hE]; rfl) ?_ | (refine Tr.seq ?_; refine tr_seq_region (by rw [hE]; rfl) ?_)
      repeat (refine vc_op rfl ?_; simp only [go_sem, ↓Nat.reduceBEq, ↓Nat.reduceAdd, ↓Nat.reduceSub, ↓Nat.reduceMul, ↓Nat.reduceEqDiff, ↓Nat.reducePow, ↓Nat.reduceLeDiff, ↓Nat.reduceLT, ↓Int.reduceLE, ↓Int.reduceLT, ↓reduceIte, ↓reduceCtorEq])
      refine call_fn rfl rfl rfl rfl (enters_of Tryd.func98 (by kernel_rfl) rfl) (cmp_pure ((a[i]).toNat : Int) ((b[i]).toNat : Int)) rfl rfl rfl ?_
      simp only [go_sem, ↓Nat.reduceBEq, ↓Nat.reduceAdd, ↓Nat.reduceSub, ↓Nat.reduceMul, ↓Nat.reduceEqDiff, ↓Nat.reducePow, ↓Nat.reduceLeDiff, ↓Nat.reduceLT, ↓Int.reduceLE, ↓Int.reduceLT, ↓reduceIte, ↓reduceCtorEq]
      repeat (refine vc_op rfl ?_; simp only [go_sem, ↓Nat.reduceBEq, ↓Nat.reduceAdd, ↓Nat.reduceSub, ↓Nat.reduceMul, ↓Nat.reduceEqDiff, ↓Nat.reducePow, ↓Nat.reduceLeDiff, ↓Nat.reduceLT, ↓Int.reduceLE, ↓Int.reduceLT, ↓reduceIte, ↓reduceCtorEq])
      refine vc_nil ?_
      by_cases hlt1 : ((a[i]).toNat : Int) < (b[i]).toNat
      · have e1 : cmpI ((a[i]).toNat : Int) ((b[i]).toNat : Int) = -1 := by simp [cmpI, hlt1]
        have er : cmpL a b = -1 := by rw [hc, hd, if_pos hlt1]
        rw [e1]
        first | refine tr_seq_region (by rw [hE]; rfl) ?_ | (refine Tr.seq ?_; refine tr_seq_region (by rw [hE]; rfl) ?_)
        repeat (refine vc_op rfl ?_; simp only [go_sem, ↓Nat.reduceBEq, ↓Nat.reduceAdd, ↓Nat.reduceSub, ↓Nat.reduceMul, ↓Nat.reduceEqDiff, ↓Nat.reducePow, ↓Nat.reduceLeDiff, ↓Nat.reduceLT, ↓Int.reduceLE, ↓Int.reduceLT, ↓reduceIte, ↓reduceCtorEq])
        refine vc_nil ?_
        first | refine Tr.cond (b := true) rfl (fun _ => ?_) (fun h => by cases h) | refine Tr.seq (Tr.cond (b := true) rfl (fun _ => ?_) (fun h => by cases h))
        first | refine tr_seq_region (by rw [hE]; rfl) ?_ | (refine Tr.seq ?_; refine tr_seq_region (by rw [hE]; rfl) ?_)
        repeat (refine vc_op rfl ?_; simp only [go_sem, ↓Nat.reduceBEq, ↓Nat.reduceAdd, ↓Nat.reduceSub, ↓Nat.reduceMul, ↓Nat.reduceEqDiff, ↓Nat.reducePow, ↓Nat.reduceLeDiff, ↓Nat.reduceLT, ↓Int.reduceLE, ↓Int.reduceLT, ↓reduceIte, ↓reduceCtorEq])
        refine vc_nil ?_
        refine Tr.ret ?_
        simp only [er, Tryd.f88, go_sem, ↓Nat.reduceBEq, ↓Nat.reduceAdd, ↓Nat.reduceSub, ↓Nat.reduceMul, ↓Nat.reduceEqDiff, ↓Nat.reducePow, ↓Nat.reduceLeDiff, ↓Nat.reduceLT, ↓Int.reduceLE, ↓Int.reduceLT, ↓reduceIte, ↓reduceCtorEq]
      · by_cases hlt2 : ((b[i]).toNat : Int) < (a[i]).toNat
        · have e1 : cmpI ((a[i]).toNat : Int) ((b[i]).toNat : Int) = 1 := by simp [cmpI, hlt1, hlt2]
          have er : cmpL a b = 1 := by rw [hc, hd, if_neg hlt1, if_pos hlt2]
          rw [e1]
          first | refine tr_seq_region (by rw [hE]; rfl) ?_ | (refine Tr.seq ?_; refine tr_seq_region (by rw [hE]; rfl) ?_)
          repeat (refine vc_op rfl ?_; simp only [go_sem, ↓Nat.reduceBEq, ↓Nat.reduceAdd, ↓Nat.reduceSub, ↓Nat.reduceMul, ↓Nat.reduceEqDiff, ↓Nat.reducePow, ↓Nat.reduceLeDiff, ↓Nat.reduceLT, ↓Int.reduceLE, ↓Int.reduceLT, ↓reduceIte, ↓reduceCtorEq])
          refine vc_nil ?_
          first | refine Tr.cond (b := true) rfl (fun _ => ?_) (fun h => by cases h) | refine Tr.seq (Tr.cond (b := true) rfl (fun _ => ?_) (fun h => by cases h))
          first | refine tr_seq_region (by rw [hE]; rfl) ?_ | (refine Tr.seq ?_; refine tr_seq_region (by rw [hE]; rfl) ?_)
          repeat (refine vc_op rfl ?_; simp only [go_sem, ↓Nat.reduceBEq, ↓Nat.reduceAdd, ↓Nat.reduceSub, ↓Nat.reduceMul, ↓Nat.reduceEqDiff, ↓Nat.reducePow, ↓Nat.reduceLeDiff, ↓Nat.reduceLT, ↓Int.reduceLE, ↓Int.reduceLT, ↓reduceIte, ↓reduceCtorEq])
          refine vc_nil ?_
          refine Tr.ret ?_
          simp only [er, Tryd.f88, go_sem, ↓Nat.reduceBEq, ↓Nat.reduceAdd, ↓Nat.reduceSub, ↓Nat.reduceMul, ↓Nat.reduceEqDiff, ↓Nat.reducePow, ↓Nat.reduceLeDiff, ↓Nat.reduceLT, ↓Int.reduceLE, ↓Int.reduceLT, ↓reduceIte, ↓reduceCtorEq]
        · have e1 : cmpI ((a[i]).toNat : Int) ((b[i]).toNat : Int) = 0 := by simp [cmpI, hlt1, hlt2]
          have er : cmpL a b = cmpL (a.drop (i + 1)) (b.drop (i + 1)) := by rw [hc, hd, if_neg hlt1, if_neg hlt2]
          rw [e1]
          first | refine tr_seq_region (by rw [hE]; rfl) ?_ | (refine Tr.seq ?_; refine tr_seq_region (by rw [hE]; rfl) ?_)
          repeat (refine vc_op rfl ?_; simp only [go_sem, ↓Nat.reduceBEq, ↓Nat.reduceAdd, ↓Nat.reduceSub, ↓Nat.reduceMul, ↓Nat.reduceEqDiff, ↓Nat.reducePow, ↓Nat.reduceLeDiff, ↓Nat.reduceLT, ↓Int.reduceLE, ↓Int.reduceLT, ↓reduceIte, ↓reduceCtorEq])
          refine vc_nil ?_
          refine Tr.cond rfl (fun h => by cases h) (fun _ => ?_)
          refine Tr.skip ?_
          try simp only [blockK, thenK, ↓reduceIte]
          refine tr_region (by rw [hE]; rfl) ?_
          repeat (refine vc_op rfl ?_; simp only [go_sem, ↓Nat.reduceBEq, ↓Nat.reduceAdd, ↓Nat.reduceSub, ↓Nat.reduceMul, ↓Nat.reduceEqDiff, ↓Nat.reducePow, ↓Nat.reduceLeDiff, ↓Nat.reduceLT, ↓Int.reduceLE, ↓Int.reduceLT, ↓reduceIte, ↓reduceCtorEq])
          refine vc_nil ?_
          rw [hw]
          try simp only [blockK, thenK, ↓reduceIte]
          refine ⟨i + 1, ⟨hlt, er⟩, by omega, ?_⟩
          refine wk_ren (fun n => n) ?_ ?_ rfl rfl rfl
          · repeat' (first | exact rfl | exact trivial | constructor)
          · repeat' (first | exact rfl | exact trivial | constructor)
    · refine Tr.exit ?_
      try simp only [blockK, thenK, ↓reduceIte]
      have hil : i = a.length := by have := of_decide_eq_false h1; omega
      have er : cmpL a b = 0 := by rw [hc, hil, List.drop_length, hab, List.drop_length]; rfl
      have hlb : decide ((a.length : Int) < (b.length : Int)) = false := decide_eq_false (by omega)
      first | refine tr_seq_region (by rw [hE]; rfl) ?_ | (refine Tr.seq ?_; refine tr_seq_region (by rw [hE]; rfl) ?_)
      repeat (refine vc_op rfl ?_; simp only [hlb, go_sem, ↓Nat.reduceBEq, ↓Nat.reduceAdd, ↓Nat.reduceSub, ↓Nat.reduceMul, ↓Nat.reduceEqDiff, ↓Nat.reducePow, ↓Nat.reduceLeDiff, ↓Nat.reduceLT, ↓Int.reduceLE, ↓Int.reduceLT, ↓reduceIte, ↓reduceCtorEq])
      refine vc_nil ?_
      first | refine Tr.cond rfl (fun h => by cases h) (fun _ => ?_) | refine Tr.seq (Tr.cond rfl (fun h => by cases h) (fun _ => ?_))
      refine Tr.skip ?_
      try simp only [blockK, thenK, ↓reduceIte]
      first | refine tr_seq_region (by rw [hE]; rfl) ?_ | (refine Tr.seq ?_; refine tr_seq_region (by rw [hE]; rfl) ?_)
      repeat (refine vc_op rfl ?_; simp only [go_sem, ↓Nat.reduceBEq, ↓Nat.reduceAdd, ↓Nat.reduceSub, ↓Nat.reduceMul, ↓Nat.reduceEqDiff, ↓Nat.reducePow, ↓Nat.reduceLeDiff, ↓Nat.reduceLT, ↓Int.reduceLE, ↓Int.reduceLT, ↓reduceIte, ↓reduceCtorEq])
      refine vc_nil ?_
      refine Tr.ret ?_
      simp only [er, Tryd.f88, go_sem, ↓Nat.reduceBEq, ↓Nat.reduceAdd, ↓Nat.reduceSub, ↓Nat.reduceMul, ↓Nat.reduceEqDiff, ↓Nat.reducePow, ↓Nat.reduceLeDiff, ↓Nat.reduceLT, ↓Int.reduceLE, ↓Int.reduceLT, ↓reduceIte, ↓reduceCtorEq]

theorem scompare_root (a b : Root) : Pure Tryd.prog 88 [.sl (a.1.map fun b => .int .u8 b.toNat) false, .sl (b.1.map fun b => .int .u8 b.toNat) false] (.int .i64 (cmpL a.1 b.1)) :=
  scompare_pure a.1 b.1 (a.2.trans b.2.symm) (by rw [a.2]; decide)
theorem lessR_self (a : Root) : lessR a a = false := by simp [lessR, cmpL_self]

theorem less_pure (a b : Root) : Pure Tryd.prog 67 [.root a, .root b] (.bool (lessR a b)) := by
  refine pure_of_tr Tryd.func67 rfl (Nat.le_of_ble_eq_true rfl) rfl fun E hE hP => ?_
  first | refine tr_seq_region (by rw [hE]; rfl) ?_ | (refine Tr.seq ?_; refine tr_seq_region (by rw [hE]; rfl) ?_)
  repeat (refine vc_op rfl ?_; simp only [go_sem, ↓Nat.reduceBEq, ↓Nat.reduceAdd, ↓Nat.reduceSub, ↓Nat.reduceMul, ↓Nat.reduceEqDiff, ↓Nat.reducePow, ↓Nat.reduceLeDiff, ↓Nat.reduceLT, ↓Int.reduceLE, ↓Int.reduceLT, ↓reduceIte, ↓reduceCtorEq])
  refine vc_nil ?_
  by_cases hab : a = b
  · have e0 : decide (a = b) = true := decide_eq_true hab
    have er : lessR a b = false := by rw [hab]; exact lessR_self b
    first | apply tr_md mixed [0, 16] rfl (by rw [hE]; rfl) (by kernel_rfl) | (refine Tr.seq ?_; apply tr_md mixed [0, 16] rfl (by rw [hE]; rfl) (by kernel_rfl))
    intro Q hQ
    simp only [go_sem, seval]
    iterate 4 ((refine vd2_q rfl ?_); intro r hr; simp only [e0, go_sem, ↓Nat.reduceBEq, ↓Nat.reduceAdd, ↓Nat.reduceSub, ↓Nat.reduceMul, ↓Nat.reduceEqDiff, ↓Nat.reducePow, ↓Nat.reduceLeDiff, ↓Nat.reduceLT, ↓Int.reduceLE, ↓Int.reduceLT, ↓reduceIte, ↓reduceCtorEq]; subst hr)
    iterate 2 ((first | refine vd2_goq rfl rfl ?_ | refine vd2_no rfl ?_ | refine vd2_skip rfl ?_); intro r hr; simp only [e0, go_sem, ↓Nat.reduceBEq, ↓Nat.reduceAdd, ↓Nat.reduceSub, ↓Nat.reduceMul, ↓Nat.reduceEqDiff, ↓Nat.reducePow, ↓Nat.reduceLeDiff, ↓Nat.reduceLT, ↓Int.reduceLE, ↓Int.reduceLT, ↓reduceIte, ↓reduceCtorEq]; subst hr)
    (first | refine vd2_gox rfl rfl ?_ | refine vd2_no rfl ?_ | refine vd2_skip rfl ?_); intro r hr; simp only [e0, go_sem, ↓Nat.reduceBEq, ↓Nat.reduceAdd, ↓Nat.reduceSub, ↓Nat.reduceMul, ↓Nat.reduceEqDiff, ↓Nat.reducePow, ↓Nat.reduceLeDiff, ↓Nat.reduceLT, ↓Int.reduceLE, ↓Int.reduceLT, ↓reduceIte, ↓reduceCtorEq]; subst hr
    (first | refine vd2_goq rfl rfl ?_ | refine vd2_no rfl ?_ | refine vd2_skip rfl ?_); intro r hr; simp only [e0, go_sem, ↓Nat.reduceBEq, ↓Nat.reduceAdd, ↓Nat.reduceSub, ↓Nat.reduceMul, ↓Nat.reduceEqDiff, ↓Nat.reducePow, ↓Nat.reduceLeDiff, ↓Nat.reduceLT, ↓Int.reduceLE, ↓Int.reduceLT, ↓reduceIte, ↓reduceCtorEq]; subst hr
    iterate 2 ((refine vd2_q rfl ?_); intro r hr; simp only [e0, go_sem, ↓Nat.reduceBEq, ↓Nat.reduceAdd, ↓Nat.reduceSub, ↓Nat.reduceMul, ↓Nat.reduceEqDiff, ↓Nat.reducePow, ↓Nat.reduceLeDiff, ↓Nat.reduceLT, ↓Int.reduceLE, ↓Int.reduceLT, ↓reduceIte, ↓reduceCtorEq]; subst hr)
    exact hQ
    refine Tr.ret ?_
    simp only [er, Tryd.f67, go_sem, ↓Nat.reduceBEq, ↓Nat.reduceAdd, ↓Nat.reduceSub, ↓Nat.reduceMul, ↓Nat.reduceEqDiff, ↓Nat.reducePow, ↓Nat.reduceLeDiff, ↓Nat.reduceLT, ↓Int.reduceLE, ↓Int.reduceLT, ↓reduceIte, ↓reduceCtorEq]
  · have e0 : decide (a = b) = false := decide_eq_false hab
    have er : lessR a b = decide (cmpL a.1 b.1 < 0) := rfl
    first | apply tr_md mixed [0, 16] rfl (by rw [hE]; rfl) (by kernel_rfl) | (refine Tr.seq ?_; apply tr_md mixed [0, 16] rfl (by rw [hE]; rfl) (by kernel_rfl))
    intro Q hQ
    simp only [go_sem, seval]
    iterate 4 ((refine vd2_q rfl ?_); intro r hr; simp only [e0, go_sem, ↓Nat.reduceBEq, ↓Nat.reduceAdd, ↓Nat.reduceSub, ↓Nat.reduceMul, ↓Nat.reduceEqDiff, ↓Nat.reducePow, ↓Nat.reduceLeDiff, ↓Nat.reduceLT, ↓Int.reduceLE, ↓Int.reduceLT, ↓reduceIte, ↓reduceCtorEq]; subst hr)
    iterate 2 ((first | refine vd2_goq rfl rfl ?_ | refine vd2_no rfl ?_ | refine vd2_skip rfl ?_); intro r hr; simp only [e0, go_sem, ↓Nat.reduceBEq, ↓Nat.reduceAdd, ↓Nat.reduceSub, ↓Nat.reduceMul, ↓Nat.reduceEqDiff, ↓Nat.reducePow, ↓Nat.reduceLeDiff, ↓Nat.reduceLT, ↓Int.reduceLE, ↓Int.reduceLT, ↓reduceIte, ↓reduceCtorEq]; subst hr)
    (first | refine vd2_gox rfl rfl ?_ | refine vd2_no rfl ?_ | refine vd2_skip rfl ?_); intro r hr; simp only [e0, go_sem, ↓Nat.reduceBEq, ↓Nat.reduceAdd, ↓Nat.reduceSub, ↓Nat.reduceMul, ↓Nat.reduceEqDiff, ↓Nat.reducePow, ↓Nat.reduceLeDiff, ↓Nat.reduceLT, ↓Int.reduceLE, ↓Int.reduceLT, ↓reduceIte, ↓reduceCtorEq]
    refine call_fn rfl rfl rfl rfl (enters_of Tryd.func88 (by kernel_rfl) rfl) (scompare_root a b) (by (simp only [go_sem, ↓Nat.reduceBEq, ↓Nat.reduceAdd, ↓Nat.reduceSub, ↓Nat.reduceMul, ↓Nat.reduceEqDiff, ↓Nat.reducePow, ↓Nat.reduceLeDiff, ↓Nat.reduceLT, ↓Int.reduceLE, ↓Int.reduceLT, ↓reduceIte, ↓reduceCtorEq]) <;> rfl) rfl rfl ?_
    simp only [go_sem, ↓Nat.reduceBEq, ↓Nat.reduceAdd, ↓Nat.reduceSub, ↓Nat.reduceMul, ↓Nat.reduceEqDiff, ↓Nat.reducePow, ↓Nat.reduceLeDiff, ↓Nat.reduceLT, ↓Int.reduceLE, ↓Int.reduceLT, ↓reduceIte, ↓reduceCtorEq]
    subst hr
    (first | refine vd2_goq rfl rfl ?_ | refine vd2_no rfl ?_ | refine vd2_skip rfl ?_); intro r hr; simp only [go_sem, ↓Nat.reduceBEq, ↓Nat.reduceAdd, ↓Nat.reduceSub, ↓Nat.reduceMul, ↓Nat.reduceEqDiff, ↓Nat.reducePow, ↓Nat.reduceLeDiff, ↓Nat.reduceLT, ↓Int.reduceLE, ↓Int.reduceLT, ↓reduceIte, ↓reduceCtorEq]; subst hr
    iterate 2 ((refine vd2_q rfl ?_); intro r hr; simp only [go_sem, ↓Nat.reduceBEq, ↓Nat.reduceAdd, ↓Nat.reduceSub, ↓Nat.reduceMul, ↓Nat.reduceEqDiff, ↓Nat.reducePow, ↓Nat.reduceLeDiff, ↓Nat.reduceLT, ↓Int.reduceLE, ↓Int.reduceLT, ↓reduceIte, ↓reduceCtorEq]; subst hr)
    exact hQ
    refine Tr.ret ?_
    simp only [er, Tryd.f67, go_sem, ↓Nat.reduceBEq, ↓Nat.reduceAdd, ↓Nat.reduceSub, ↓Nat.reduceMul, ↓Nat.reduceEqDiff, ↓Nat.reducePow, ↓Nat.reduceLeDiff, ↓Nat.reduceLT, ↓Int.reduceLE, ↓Int.reduceLT, ↓reduceIte, ↓reduceCtorEq]

@[go_sem] theorem root_offs (a : Root) (i : Nat) : (AV.root a).offs [i] = some i := by simp [AV.offs]

def st54_0 (a b : Root) (i : Nat) : S where
  fr := [(2, .ptr 0 [] 0), (3, .ptr 16 [] 0), (5, .int .i64 i)]
  hp := [(0, .var (.root a)), (16, .var (.root b))]
  nx := 48

set_option maxRecDepth 10000 in
theorem refless_pure (a b : Root) : Pure Tryd.prog 68 [.root a, .root b] (.bool (lessR a b)) := by
  refine pure_of_tr Tryd.func68 rfl (Nat.le_of_ble_eq_true rfl) rfl fun E hE hP => ?_
  first | refine tr_seq_region (by rw [hE]; rfl) ?_ | (refine Tr.seq ?_; refine tr_seq_region (by rw [hE]; rfl) ?_)
  repeat (refine vc_op rfl ?_; simp only [go_sem, ↓Nat.reduceBEq, ↓Nat.reduceAdd, ↓Nat.reduceSub, ↓Nat.reduceMul, ↓Nat.reduceEqDiff, ↓Nat.reducePow, ↓Nat.reduceLeDiff, ↓Nat.reduceLT, ↓Int.reduceLE, ↓Int.reduceLT, ↓reduceIte, ↓reduceCtorEq])
  refine vc_nil ?_
  first | refine tr_seq_region (by rw [hE]; rfl) ?_ | (refine Tr.seq ?_; refine tr_seq_region (by rw [hE]; rfl) ?_)
  repeat (refine vc_op rfl ?_; simp only [go_sem, ↓Nat.reduceBEq, ↓Nat.reduceAdd, ↓Nat.reduceSub, ↓Nat.reduceMul, ↓Nat.reduceEqDiff, ↓Nat.reducePow, ↓Nat.reduceLeDiff, ↓Nat.reduceLT, ↓Int.reduceLE, ↓Int.reduceLT, ↓reduceIte, ↓reduceCtorEq])
  refine vc_nil ?_
  first | refine Tr.block ?_ | (refine Tr.seq ?_; refine Tr.block ?_)
  refine Tr.loop (st54_0 a b) (fun i => i ≤ 32 ∧ cmpL a.1 b.1 = cmpL (a.1.drop i) (b.1.drop i)) (fun i => 32 - i) 0 ⟨by omega, by rw [List.drop_zero, List.drop_zero]⟩ ?_ ?_
  · refine wk_ren (fun n => n) ?_ ?_ rfl rfl rfl
    · repeat' (first | exact rfl | exact trivial | constructor)
    · repeat' (first | exact rfl | exact trivial | constructor)
  · rintro i ⟨hi, hc⟩
    unfold st54_0
    first | refine tr_seq_region (by rw [hE]; rfl) ?_ | (refine Tr.seq ?_; refine tr_seq_region (by rw [hE]; rfl) ?_)
    repeat (refine vc_op rfl ?_; simp only [go_sem, ↓Nat.reduceBEq, ↓Nat.reduceAdd, ↓Nat.reduceSub, ↓Nat.reduceMul, ↓Nat.reduceEqDiff, ↓Nat.reducePow, ↓Nat.reduceLeDiff, ↓Nat.reduceLT, ↓Int.reduceLE, ↓Int.reduceLT, ↓reduceIte, ↓reduceCtorEq])
    refine vc_nil ?_
    first | refine Tr.cond rfl (fun h1 => ?_) (fun h1 => ?_) | refine Tr.seq (Tr.cond rfl (fun h1 => ?_) (fun h1 => ?_))
    · refine Tr.skip ?_
      try simp only [blockK, thenK, ↓reduceIte]
      have hlt : i < 32 := by have := of_decide_eq_true h1; omega
      have hla : i < a.1.length := by rw [a.2]; exact hlt
      have hlb : i < b.1.length := by rw [b.2]; exact hlt
      have hw := wrap_next (n := i) (by omega)
      have hd := cmpL_drop hla hlb
      have hz : 0 ≤ (i : Int) := by omega
      have h32 : (i : Int) < ((32 : Nat) : Int) := by omega
      have sa := List.getElem?_eq_getElem hla
      have sb := List.getElem?_eq_getElem hlb
      first | refine Tr.block ?_ | (refine Tr.seq ?_; refine Tr.block ?_)
      by_cases hne : ((a.1[i]).toNat : Int) = (b.1[i]).toNat
      · have e1 : (((a.1[i]).toNat : Int) != ((b.1[i]).toNat : Int)) = false := by simp [hne]
        first | apply tr_md mixed [0, 16] rfl (by rw [hE]; rfl) (by kernel_rfl) | (refine Tr.seq ?_; apply tr_md mixed [0, 16] rfl (by rw [hE]; rfl) (by kernel_rfl))
        intro Q hQ
        simp only [go_sem, seval]
        iterate 7 ((refine vd2_q rfl ?_); intro r hr; simp only [hz, h32, Int.toNat_natCast, Nat.mul_one, true_and, Option.map_some, sa, sb, e1, go_sem, ↓Nat.reduceBEq, ↓Nat.reduceAdd, ↓Nat.reduceSub, ↓Nat.reduceMul, ↓Nat.reduceEqDiff, ↓Nat.reducePow, ↓Nat.reduceLeDiff, ↓Nat.reduceLT, ↓Int.reduceLE, ↓Int.reduceLT, ↓reduceIte, ↓reduceCtorEq]; subst hr)
        exact hQ
        first | refine Tr.cond rfl (fun h => by cases h) (fun _ => ?_) | refine Tr.seq (Tr.cond rfl (fun h => by cases h) (fun _ => ?_))
        refine Tr.skip ?_
        try simp only [blockK, thenK, ↓reduceIte]
        have er : cmpL a.1 b.1 = cmpL (a.1.drop (i + 1)) (b.1.drop (i + 1)) := by rw [hc, hd, if_neg (by omega), if_neg (by omega)]
        refine tr_region (by rw [hE]; rfl) ?_
        repeat (refine vc_op rfl ?_; simp only [go_sem, ↓Nat.reduceBEq, ↓Nat.reduceAdd, ↓Nat.reduceSub, ↓Nat.reduceMul, ↓Nat.reduceEqDiff, ↓Nat.reducePow, ↓Nat.reduceLeDiff, ↓Nat.reduceLT, ↓Int.reduceLE, ↓Int.reduceLT, ↓reduceIte, ↓reduceCtorEq])
        refine vc_nil ?_
        rw [hw]
        try simp only [blockK, thenK, ↓reduceIte]
        refine ⟨i + 1, ⟨hlt, er⟩, by omega, ?_⟩
        refine wk_ren (fun n => n) ?_ ?_ rfl rfl rfl
        · repeat' (first | exact rfl | exact trivial | constructor)
        · repeat' (first | exact rfl | exact trivial | constructor)
      · have e1 : (((a.1[i]).toNat : Int) != ((b.1[i]).toNat : Int)) = true := by simp [hne]
        have er : lessR a b = decide (((a.1[i]).toNat : Int) < (b.1[i]).toNat) := by
          unfold lessR
          rw [hc, hd]
          by_cases h : ((a.1[i]).toNat : Int) < (b.1[i]).toNat
          · simp [h]
          · rw [if_neg h, if_pos (by omega)]; simp [h]
        first | apply tr_md mixed [0, 16] rfl (by rw [hE]; rfl) (by kernel_rfl) | (refine Tr.seq ?_; apply tr_md mixed [0, 16] rfl (by rw [hE]; rfl) (by kernel_rfl))
        intro Q hQ
        simp only [go_sem, seval]
        iterate 7 ((refine vd2_q rfl ?_); intro r hr; simp only [hz, h32, Int.toNat_natCast, Nat.mul_one, true_and, Option.map_some, sa, sb, e1, go_sem, ↓Nat.reduceBEq, ↓Nat.reduceAdd, ↓Nat.reduceSub, ↓Nat.reduceMul, ↓Nat.reduceEqDiff, ↓Nat.reducePow, ↓Nat.reduceLeDiff, ↓Nat.reduceLT, ↓Int.reduceLE, ↓Int.reduceLT, ↓reduceIte, ↓reduceCtorEq]; subst hr)
        exact hQ
        first | refine Tr.cond (b := true) rfl (fun _ => ?_) (fun h => by cases h) | refine Tr.seq (Tr.cond (b := true) rfl (fun _ => ?_) (fun h => by cases h))
        first | apply tr_md mixed [0, 16] rfl (by rw [hE]; rfl) (by kernel_rfl) | (refine Tr.seq ?_; apply tr_md mixed [0, 16] rfl (by rw [hE]; rfl) (by kernel_rfl))
        intro Q hQ
        simp only [go_sem, seval]
        iterate 8 ((refine vd2_q rfl ?_); intro r hr; simp only [hz, h32, Int.toNat_natCast, Nat.mul_one, true_and, Option.map_some, sa, sb, go_sem, ↓Nat.reduceBEq, ↓Nat.reduceAdd, ↓Nat.reduceSub, ↓Nat.reduceMul, ↓Nat.reduceEqDiff, ↓Nat.reducePow, ↓Nat.reduceLeDiff, ↓Nat.reduceLT, ↓Int.reduceLE, ↓Int.reduceLT, ↓reduceIte, ↓reduceCtorEq]; subst hr)
        exact hQ
        refine Tr.ret ?_
        simp only [er, Tryd.f68, go_sem, ↓Nat.reduceBEq, ↓Nat.reduceAdd, ↓Nat.reduceSub, ↓Nat.reduceMul, ↓Nat.reduceEqDiff, ↓Nat.reducePow, ↓Nat.reduceLeDiff, ↓Nat.reduceLT, ↓Int.reduceLE, ↓Int.reduceLT, ↓reduceIte, ↓reduceCtorEq]
    · refine Tr.exit ?_
      try simp only [blockK, thenK, ↓reduceIte]
      have hil : i = 32 := by have := of_decide_eq_false h1; omega
      have er : lessR a b = false := by
        have h0 : cmpL a.1 b.1 = 0 := by
          rw [hc, hil, List.drop_of_length_le (by rw [a.2]; omega), List.drop_of_length_le (by rw [b.2]; omega)]; rfl
        simp [lessR, h0]
      first | refine tr_seq_region (by rw [hE]; rfl) ?_ | (refine Tr.seq ?_; refine tr_seq_region (by rw [hE]; rfl) ?_)
      repeat (refine vc_op rfl ?_; simp only [go_sem, ↓Nat.reduceBEq, ↓Nat.reduceAdd, ↓Nat.reduceSub, ↓Nat.reduceMul, ↓Nat.reduceEqDiff, ↓Nat.reducePow, ↓Nat.reduceLeDiff, ↓Nat.reduceLT, ↓Int.reduceLE, ↓Int.reduceLT, ↓reduceIte, ↓reduceCtorEq])
      refine vc_nil ?_
      refine Tr.ret ?_
      simp only [er, Tryd.f68, go_sem, ↓Nat.reduceBEq, ↓Nat.reduceAdd, ↓Nat.reduceSub, ↓Nat.reduceMul, ↓Nat.reduceEqDiff, ↓Nat.reducePow, ↓Nat.reduceLeDiff, ↓Nat.reduceLT, ↓Int.reduceLE, ↓Int.reduceLT, ↓reduceIte, ↓reduceCtorEq]

end Go.Proofs.YtdlejnafhmpobaaDoor

/- Trees: may one be; places by roots. -/
set_option linter.unusedSimpArgs false
namespace Go.Proofs.YtdlejnafhmpobaaDoor
open Go Go.Ab

def fitsB (t : List Node) (i : Nat) : Bool :=
  match t[i]? with
  | none => false
  | some n => if i = 0 then decide (n.parent = -1) && decide (n.slot ≤ 1099511627776)
    else decide (0 ≤ n.parent) && decide (n.parent < i) && decide (n.slot ≤ 1099511627776) && decide ((t.getD n.parent.toNat zNode).slot < n.slot)

set_option maxRecDepth 10000 in
theorem fits_pure (t : List Node) (i : Nat) (hi : i < t.length) : Pure Tryd.prog 47 [.sl (t.map Node.av) false, .int .i64 i] (.bool (fitsB t i)) := by
  have ha := nth_map_lt Node.av t i hi
  have hf : fitsB t i = (if i = 0 then decide (t[i].parent = -1) && decide (t[i].slot ≤ 1099511627776)
    else decide (0 ≤ t[i].parent) && decide (t[i].parent < i) && decide (t[i].slot ≤ 1099511627776) && decide ((t.getD t[i].parent.toNat zNode).slot < t[i].slot)) := by
    simp [fitsB, hi]
  generalize t[i] = n at ha hf
  refine pure_of_tr Tryd.func47 rfl (Nat.le_of_ble_eq_true rfl) rfl fun E hE hP => ?_
  first | refine tr_seq_region (by rw [hE]; rfl) ?_ | (refine Tr.seq ?_; refine tr_seq_region (by rw [hE]; rfl) ?_)
  repeat (refine vc_op rfl ?_; simp only [go_sem, seval])
  refine vc_nil ?_
  first | refine tr_seq_region (by rw [hE]; rfl) ?_ | (refine Tr.seq ?_; refine tr_seq_region (by rw [hE]; rfl) ?_)
  repeat (refine vc_op rfl ?_; simp only [ha, go_sem, seval])
  refine vc_nil ?_
  by_cases h0 : i = 0
  · have e0 : ((i : Int) == 0) = true := by simp [h0]
    rw [if_pos h0] at hf
    first | refine tr_seq_region (by rw [hE]; rfl) ?_ | (refine Tr.seq ?_; refine tr_seq_region (by rw [hE]; rfl) ?_)
    repeat (refine vc_op rfl ?_; simp only [e0, go_sem, seval])
    refine vc_nil ?_
    first | refine Tr.cond (b := true) rfl (fun _ => ?_) (fun h => by cases h) | refine Tr.seq (Tr.cond (b := true) rfl (fun _ => ?_) (fun h => by cases h))
    by_cases h1 : n.parent = -1
    · have e1 : (n.parent == -1) = true := by simp [h1]
      have er : fitsB t i = decide (n.slot ≤ 1099511627776) := by rw [hf]; simp [h1]
      first | apply tr_m (by rw [hE]; rfl) | (refine Tr.seq ?_; apply tr_m (by rw [hE]; rfl))
      intro Q hQ
      simp only [go_sem, seval]
      iterate 4 ((refine vm_op ?_); intro r hr; simp only [e1, go_sem, seval]; subst hr)
      iterate 3 ((first | refine vm_if rfl ?_ | refine vm_no rfl ?_ | refine vm_skip rfl ?_); intro r hr; simp only [e1, go_sem, seval]; subst hr)
      iterate 2 ((refine vm_op ?_); intro r hr; simp only [e1, go_sem, seval]; subst hr)
      exact hQ
      refine Tr.ret ?_
      simp only [er, Tryd.f47, go_sem, seval]
    · have e1 : (n.parent == -1) = false := by simp [h1]
      have er : fitsB t i = false := by rw [hf]; simp [h1]
      first | apply tr_m (by rw [hE]; rfl) | (refine Tr.seq ?_; apply tr_m (by rw [hE]; rfl))
      intro Q hQ
      simp only [go_sem, seval]
      iterate 4 ((refine vm_op ?_); intro r hr; simp only [e1, go_sem, seval]; subst hr)
      iterate 3 ((first | refine vm_if rfl ?_ | refine vm_no rfl ?_ | refine vm_skip rfl ?_); intro r hr; simp only [e1, go_sem, seval]; subst hr)
      iterate 2 ((refine vm_op ?_); intro r hr; simp only [e1, go_sem, seval]; subst hr)
      exact hQ
      refine Tr.ret ?_
      simp only [er, Tryd.f47, go_sem, seval]
  · have e0 : ((i : Int) == 0) = false := by simp [h0]
    rw [if_neg h0] at hf
    first | refine tr_seq_region (by rw [hE]; rfl) ?_ | (refine Tr.seq ?_; refine tr_seq_region (by rw [hE]; rfl) ?_)
    repeat (refine vc_op rfl ?_; simp only [e0, go_sem, seval])
    refine vc_nil ?_
    first | refine Tr.cond rfl (fun h => by cases h) (fun _ => ?_) | refine Tr.seq (Tr.cond rfl (fun h => by cases h) (fun _ => ?_))
    refine Tr.skip ?_
    try simp only [blockK, thenK, ↓reduceIte]
    by_cases h1 : 0 ≤ n.parent
    · have e1 : decide (0 ≤ n.parent) = true := decide_eq_true h1
      by_cases h2 : n.parent < i
      · have e2 : decide (n.parent < i) = true := decide_eq_true h2
        by_cases h3 : n.slot ≤ 1099511627776
        · have e3 : decide (n.slot ≤ 1099511627776) = true := decide_eq_true h3
          obtain ⟨p, hp⟩ : ∃ p : Nat, n.parent = p := ⟨n.parent.toNat, by omega⟩
          have hpl : p < t.length := by omega
          have hb := nth_map_lt Node.av t p hpl
          have er : fitsB t i = decide ((t[p]).slot < n.slot) := by rw [hf, e1, e2, e3, hp]; simp [hpl]
          rw [hp] at e1 e2
          first | apply tr_md mixed [80] rfl (by rw [hE]; rfl) (by kernel_rfl) | (refine Tr.seq ?_; apply tr_md mixed [80] rfl (by rw [hE]; rfl) (by kernel_rfl))
          intro Q hQ
          simp only [go_sem, seval]
          iterate 4 ((refine vd2_q rfl ?_); intro r hr; simp only [hp, e1, e2, e3, hb, go_sem, seval]; subst hr)
          iterate 4 ((first | refine vd2_goq rfl rfl ?_ | refine vd2_no rfl ?_ | refine vd2_skip rfl ?_); intro r hr; simp only [hp, e1, e2, e3, hb, go_sem, seval]; subst hr)
          iterate 2 ((refine vd2_q rfl ?_); intro r hr; simp only [hp, e1, e2, e3, hb, go_sem, seval]; subst hr)
          iterate 3 ((first | refine vd2_goq rfl rfl ?_ | refine vd2_no rfl ?_ | refine vd2_skip rfl ?_); intro r hr; simp only [hp, e1, e2, e3, hb, go_sem, seval]; subst hr)
          iterate 2 ((refine vd2_q rfl ?_); intro r hr; simp only [hp, e1, e2, e3, hb, go_sem, seval]; subst hr)
          iterate 9 ((first | refine vd2_goq rfl rfl ?_ | refine vd2_no rfl ?_ | refine vd2_skip rfl ?_); intro r hr; simp only [hp, e1, e2, e3, hb, go_sem, seval]; subst hr)
          iterate 2 ((refine vd2_q rfl ?_); intro r hr; simp only [hp, e1, e2, e3, hb, go_sem, seval]; subst hr)
          exact hQ
          refine Tr.ret ?_
          simp only [er, Tryd.f47, go_sem, seval]
        · have e3 : decide (n.slot ≤ 1099511627776) = false := decide_eq_false h3
          have er : fitsB t i = false := by rw [hf]; simp [h3]
          first | apply tr_md mixed [80] rfl (by rw [hE]; rfl) (by kernel_rfl) | (refine Tr.seq ?_; apply tr_md mixed [80] rfl (by rw [hE]; rfl) (by kernel_rfl))
          intro Q hQ
          simp only [go_sem, seval]
          iterate 4 ((refine vd2_q rfl ?_); intro r hr; simp only [e1, e2, e3, go_sem, seval]; subst hr)
          iterate 4 ((first | refine vd2_goq rfl rfl ?_ | refine vd2_no rfl ?_ | refine vd2_skip rfl ?_); intro r hr; simp only [e1, e2, e3, go_sem, seval]; subst hr)
          iterate 2 ((refine vd2_q rfl ?_); intro r hr; simp only [e1, e2, e3, go_sem, seval]; subst hr)
          iterate 3 ((first | refine vd2_goq rfl rfl ?_ | refine vd2_no rfl ?_ | refine vd2_skip rfl ?_); intro r hr; simp only [e1, e2, e3, go_sem, seval]; subst hr)
          iterate 2 ((refine vd2_q rfl ?_); intro r hr; simp only [e1, e2, e3, go_sem, seval]; subst hr)
          iterate 9 ((first | refine vd2_goq rfl rfl ?_ | refine vd2_no rfl ?_ | refine vd2_skip rfl ?_); intro r hr; simp only [e1, e2, e3, go_sem, seval]; subst hr)
          iterate 2 ((refine vd2_q rfl ?_); intro r hr; simp only [e1, e2, e3, go_sem, seval]; subst hr)
          exact hQ
          refine Tr.ret ?_
          simp only [er, Tryd.f47, go_sem, seval]
      · have e2 : decide (n.parent < i) = false := decide_eq_false h2
        have er : fitsB t i = false := by rw [hf]; simp [h2]
        first | apply tr_md mixed [80] rfl (by rw [hE]; rfl) (by kernel_rfl) | (refine Tr.seq ?_; apply tr_md mixed [80] rfl (by rw [hE]; rfl) (by kernel_rfl))
        intro Q hQ
        simp only [go_sem, seval]
        iterate 4 ((refine vd2_q rfl ?_); intro r hr; simp only [e1, e2, go_sem, seval]; subst hr)
        iterate 4 ((first | refine vd2_goq rfl rfl ?_ | refine vd2_no rfl ?_ | refine vd2_skip rfl ?_); intro r hr; simp only [e1, e2, go_sem, seval]; subst hr)
        iterate 2 ((refine vd2_q rfl ?_); intro r hr; simp only [e1, e2, go_sem, seval]; subst hr)
        iterate 3 ((first | refine vd2_goq rfl rfl ?_ | refine vd2_no rfl ?_ | refine vd2_skip rfl ?_); intro r hr; simp only [e1, e2, go_sem, seval]; subst hr)
        iterate 2 ((refine vd2_q rfl ?_); intro r hr; simp only [e1, e2, go_sem, seval]; subst hr)
        iterate 9 ((first | refine vd2_goq rfl rfl ?_ | refine vd2_no rfl ?_ | refine vd2_skip rfl ?_); intro r hr; simp only [e1, e2, go_sem, seval]; subst hr)
        iterate 2 ((refine vd2_q rfl ?_); intro r hr; simp only [e1, e2, go_sem, seval]; subst hr)
        exact hQ
        refine Tr.ret ?_
        simp only [er, Tryd.f47, go_sem, seval]
    · have e1 : decide (0 ≤ n.parent) = false := decide_eq_false h1
      have er : fitsB t i = false := by rw [hf]; simp [h1]
      first | apply tr_md mixed [80] rfl (by rw [hE]; rfl) (by kernel_rfl) | (refine Tr.seq ?_; apply tr_md mixed [80] rfl (by rw [hE]; rfl) (by kernel_rfl))
      intro Q hQ
      simp only [go_sem, seval]
      iterate 4 ((refine vd2_q rfl ?_); intro r hr; simp only [e1, go_sem, seval]; subst hr)
      iterate 4 ((first | refine vd2_goq rfl rfl ?_ | refine vd2_no rfl ?_ | refine vd2_skip rfl ?_); intro r hr; simp only [e1, go_sem, seval]; subst hr)
      iterate 2 ((refine vd2_q rfl ?_); intro r hr; simp only [e1, go_sem, seval]; subst hr)
      iterate 3 ((first | refine vd2_goq rfl rfl ?_ | refine vd2_no rfl ?_ | refine vd2_skip rfl ?_); intro r hr; simp only [e1, go_sem, seval]; subst hr)
      iterate 2 ((refine vd2_q rfl ?_); intro r hr; simp only [e1, go_sem, seval]; subst hr)
      iterate 9 ((first | refine vd2_goq rfl rfl ?_ | refine vd2_no rfl ?_ | refine vd2_skip rfl ?_); intro r hr; simp only [e1, go_sem, seval]; subst hr)
      iterate 2 ((refine vd2_q rfl ?_); intro r hr; simp only [e1, go_sem, seval]; subst hr)
      exact hQ
      refine Tr.ret ?_
      simp only [er, Tryd.f47, go_sem, seval]

end Go.Proofs.YtdlejnafhmpobaaDoor

/- Places by roots. -/
set_option linter.unusedSimpArgs false
namespace Go.Proofs.YtdlejnafhmpobaaDoor
open Go Go.Ab

def entE (e : Root × Nat) : AV × AV := (.root e.1, .int .i64 e.2)
def setR (es : List (Root × Nat)) (r : Root) (i : Nat) : List (Root × Nat) :=
  match es.findIdx? fun e => decide (r = e.1) with
  | some k => es.set k (r, i)
  | none => es ++ [(r, i)]
def idxTo (t : List Node) : Nat → List (Root × Nat)
  | 0 => []
  | i + 1 => match t[i]? with
    | some n => setR (idxTo t i) n.root i
    | none => idxTo t i
def onceB (t : List Node) : Bool := decide ((t.map Node.root).Nodup)

theorem tMap88 : tMap Tryd.prog 73 = some (30, 3) := by kernel_rfl
theorem keys88 (es : List (Root × Nat)) : keysFit Tryd.prog 30 (es.map entE) := fun e he => by
  obtain ⟨x, _, rfl⟩ := List.mem_map.1 he
  exact fits23 x.1
theorem setE_ent (es : List (Root × Nat)) (r : Root) (i : Nat) : setE (.root r) (.int .i64 i) (es.map entE) = (setR es r i).map entE := by
  unfold setE setR
  have h : (es.map entE).findIdx? (fun e => (AV.root r).eqb e.1) = es.findIdx? fun e => decide (r = e.1) := by
    rw [List.findIdx?_map]
    congr 1
  rw [h]
  cases es.findIdx? fun e => decide (r = e.1) with
  | some k => simp only [List.map_set]; rfl
  | none => simp only [List.map_append]; rfl
theorem upd88 {hp : HP} {o : Nat} {es : List (Root × Nat)} {r : Root} {n : Nat} {K : AV → HP → Prop} (hg : HP.get hp o = some (.amap (es.map entE))) (h : K (.tup []) (HP.set hp o (.amap ((setR es r n).map entE)))) :
    mapUpdateK Tryd.prog 73 hp (.mp o) (.root r) (.int .i64 n) K := by
  simp only [mapUpdateK, tMap88, hg]
  refine ⟨fits23 r, depth23 r, keys88 es, rfl, rfl, ?_⟩
  rw [setE_ent]
  exact h

theorem setR_len (es : List (Root × Nat)) (r : Root) (i : Nat) : (setR es r i).length = es.length + (if r ∈ es.map (·.1) then 0 else 1) := by
  unfold setR
  split
  · rename_i k hk
    obtain ⟨h1, h2, _⟩ := List.findIdx?_eq_some_iff_getElem.1 hk
    rw [List.length_set, if_pos (List.mem_map.2 ⟨es[k], List.getElem_mem h1, (of_decide_eq_true h2).symm⟩)]
    rfl
  · rename_i hk
    rw [List.length_append, if_neg]
    · rfl
    · intro h
      obtain ⟨e, he, h2⟩ := List.mem_map.1 h
      have := List.findIdx?_eq_none_iff.1 hk e he
      simp [h2] at this
theorem setR_mem (es : List (Root × Nat)) (r x : Root) (i : Nat) : x ∈ (setR es r i).map (·.1) ↔ x ∈ es.map (·.1) ∨ x = r := by
  unfold setR
  split
  · rename_i k hk
    obtain ⟨h1, h2, _⟩ := List.findIdx?_eq_some_iff_getElem.1 hk
    have h3 : es[k].1 = r := (of_decide_eq_true h2).symm
    have h4 : (es.set k (r, i)).map (·.1) = es.map (·.1) := by
      rw [List.map_set]
      apply List.ext_getElem (by simp)
      intro j h5 h6
      rw [List.getElem_set]
      split
      · rename_i hkj
        subst hkj
        simp [h3]
      · rfl
    rw [h4]
    constructor
    · exact fun h => .inl h
    · rintro (h | h)
      · exact h
      · rw [h, ← h3]
        exact List.mem_map.2 ⟨es[k], List.getElem_mem h1, rfl⟩
  · simp [List.map_append]
theorem idxTo_law (t : List Node) : ∀ k, k ≤ t.length → (∀ x, x ∈ (idxTo t k).map (·.1) ↔ x ∈ (t.map Node.root).take k) ∧ (idxTo t k).length ≤ k ∧ ((idxTo t k).length = k ↔ ((t.map Node.root).take k).Nodup)
  | 0, _ => by simp [idxTo]
  | k + 1, hk => by
    obtain ⟨h1, h2, h3⟩ := idxTo_law t k (by omega)
    have hg : t[k]? = some t[k] := List.getElem?_eq_getElem (by omega)
    have e : idxTo t (k + 1) = setR (idxTo t k) t[k].root k := by rw [idxTo, hg]
    have et : (t.map Node.root).take (k + 1) = (t.map Node.root).take k ++ [t[k].root] := by
      rw [List.take_add_one, List.getElem?_map, hg]; rfl
    rw [e, et]
    refine ⟨fun x => ?_, ?_, ?_⟩
    · rw [setR_mem, h1]; simp
    · rw [setR_len]; split <;> omega
    · rw [setR_len, List.nodup_append]
      by_cases hm : t[k].root ∈ (idxTo t k).map (·.1)
      · rw [if_pos hm]
        have hm' := (h1 _).1 hm
        constructor
        · intro h; omega
        · intro h; exact absurd rfl (h.2.2 _ hm' _ (List.mem_singleton.2 rfl))
      · rw [if_neg hm]
        have hm' : t[k].root ∉ (t.map Node.root).take k := fun h => hm ((h1 _).2 h)
        constructor
        · intro h
          refine ⟨h3.1 (by omega), by simp, fun a ha b hb hab => ?_⟩
          rw [List.mem_singleton.1 hb] at hab
          exact hm' (hab ▸ ha)
        · intro h
          have := h3.2 h.1
          omega
theorem idx_once (t : List Node) : decide (((idxTo t t.length).length : Int) = (t.length : Int)) = onceB t := by
  have := (idxTo_law t t.length (Nat.le_refl _)).2.2
  rw [List.take_of_length_le (by simp)] at this
  unfold onceB
  apply decide_eq_decide.2
  rw [← this]
  omega

@[go_sem] theorem ren_amap (ρ : Nat → Nat) (es : List (AV × AV)) : (AO.amap es).ren ρ = .amap es := rfl

def st56 (t : List Node) (i : Nat) : S where
  fr := [(0, .sl (t.map Node.av) false), (4, .mp 0), (8, .sl (t.map Node.av) false), (9, .int .i64 t.length), (10, .int .i64 i)]
  hp := [(0, .amap ((idxTo t i).map entE))]
  nx := 1

set_option maxRecDepth 10000 in
theorem index_own (t : List Node) (hl : t.length ≤ 100) : Own Tryd.prog 46 [.sl (t.map Node.av) false] (.tup [.mp 0, .bool (onceB t)]) [(0, .amap ((idxTo t t.length).map entE))] := by
  refine own_of_tr Tryd.func46 rfl (Nat.le_of_ble_eq_true rfl) rfl fun E hE hP => ?_
  first | refine tr_seq_region (by rw [hE]; rfl) ?_ | (refine Tr.seq ?_; refine tr_seq_region (by rw [hE]; rfl) ?_)
  repeat (refine vc_op rfl ?_; simp only [go_sem, seval])
  refine vc_nil ?_
  first | refine tr_seq_region (by rw [hE]; rfl) ?_ | (refine Tr.seq ?_; refine tr_seq_region (by rw [hE]; rfl) ?_)
  repeat (refine vc_op rfl ?_; simp only [go_sem, seval])
  refine vc_nil ?_
  first | refine tr_seq_region (by rw [hE]; rfl) ?_ | (refine Tr.seq ?_; refine tr_seq_region (by rw [hE]; rfl) ?_)
  repeat (refine vc_op rfl ?_; simp only [go_sem, seval])
  refine vc_nil ?_
  first | refine Tr.block ?_ | (refine Tr.seq ?_; refine Tr.block ?_)
  refine Tr.loop (st56 t) (fun i => i ≤ t.length) (fun i => t.length - i) 0 (Nat.zero_le _) ?_ ?_
  · refine wk_ren (fun | 0 => 32 | n => n) ?_ ?_ rfl rfl rfl
    · repeat' (first | exact rfl | exact trivial | constructor)
    · repeat' (first | exact rfl | exact trivial | constructor)
  · intro i hi
    unfold st56
    first | refine tr_seq_region (by rw [hE]; rfl) ?_ | (refine Tr.seq ?_; refine tr_seq_region (by rw [hE]; rfl) ?_)
    repeat (refine vc_op rfl ?_; simp only [go_sem, seval])
    refine vc_nil ?_
    first | refine Tr.cond rfl (fun h1 => ?_) (fun h1 => ?_) | refine Tr.seq (Tr.cond rfl (fun h1 => ?_) (fun h1 => ?_))
    · refine Tr.skip ?_
      try simp only [blockK, thenK, ↓reduceIte]
      have hlt : i < t.length := by have := of_decide_eq_true h1; omega
      have ha := nth_map_lt Node.av t i hlt
      have hg : t[i]? = some t[i] := List.getElem?_eq_getElem hlt
      have e : idxTo t (i + 1) = setR (idxTo t i) t[i].root i := by rw [idxTo, hg]
      generalize t[i] = n at ha e
      have hw := wrap_next (n := i) (by omega)
      first | refine Tr.block ?_ | (refine Tr.seq ?_; refine Tr.block ?_)
      first | refine tr_seq_region (by rw [hE]; rfl) ?_ | (refine Tr.seq ?_; refine tr_seq_region (by rw [hE]; rfl) ?_)
      repeat (refine vc_op rfl ?_; simp only [ha, go_sem, seval])
      refine vc_nil ?_
      refine tr_region (by rw [hE]; rfl) ?_
      repeat (refine vc_op rfl ?_; simp only [go_sem, seval])
      refine upd88 rfl ?_
      simp only [go_sem, seval]
      refine vc_nil ?_
      try simp only [blockK, thenK, ↓reduceIte]
      refine tr_region (by rw [hE]; rfl) ?_
      repeat (refine vc_op rfl ?_; simp only [go_sem, seval])
      refine vc_nil ?_
      rw [hw]
      try simp only [blockK, thenK, ↓reduceIte]
      refine ⟨i + 1, hlt, by omega, ?_⟩
      rw [e]
      refine wk_ren (fun n => n) ?_ ?_ rfl rfl rfl
      · repeat' (first | exact rfl | exact trivial | constructor)
      · repeat' (first | exact rfl | exact trivial | constructor)
    · refine Tr.exit ?_
      try simp only [blockK, thenK, ↓reduceIte]
      have hil : i = t.length := by have := of_decide_eq_false h1; omega
      subst hil
      have ho := idx_once t
      first | refine tr_seq_region (by rw [hE]; rfl) ?_ | (refine Tr.seq ?_; refine tr_seq_region (by rw [hE]; rfl) ?_)
      repeat (refine vc_op rfl ?_; simp only [go_sem, seval])
      refine vc_nil ?_
      refine Tr.ret ?_
      simp only [ho, Tryd.f46, go_sem, seval]
      exact ⟨fun n => n, rfl, ⟨⟨rfl, rfl, rfl⟩, trivial⟩, rfl⟩

end Go.Proofs.YtdlejnafhmpobaaDoor

/- May a tree be: the program's answer, and the document's. -/
set_option linter.unusedSimpArgs false
namespace Go.Proofs.YtdlejnafhmpobaaDoor
open Go Go.Ab

def mayB (t : List Node) : Bool := decide (1 ≤ t.length) && decide (t.length ≤ 12) && (List.range t.length).all (fitsB t) && onceB t

def st34 (t : List Node) (i : Nat) : S where
  fr := [(1, .ptr 0 [] 0), (18, .int .i64 t.length), (19, .int .i64 i)]
  hp := [(0, .var (tav t))]
  nx := 1

theorem all_range {n : Nat} {p : Nat → Bool} (h : ∀ j, j < n → p j = true) : (List.range n).all p = true := List.all_eq_true.2 fun j hj => h j (List.mem_range.1 hj)
theorem not_all_range {n i : Nat} {p : Nat → Bool} (hi : i < n) (h : p i = false) : (List.range n).all p = false := by
  rw [List.all_eq_false]
  exact ⟨i, List.mem_range.2 hi, by simp [h]⟩

set_option maxRecDepth 10000 in
theorem may_pure (t : List Node) : Pure Tryd.prog 25 [tav t] (.bool (mayB t)) := by
  refine pure_of_tr Tryd.func25 rfl (Nat.le_of_ble_eq_true rfl) rfl fun E hE hP => ?_
  first | refine tr_seq_region (by rw [hE]; rfl) ?_ | (refine Tr.seq ?_; refine tr_seq_region (by rw [hE]; rfl) ?_)
  repeat (refine vc_op rfl ?_; simp only [go_sem, seval])
  refine vc_nil ?_
  by_cases h0 : t.length = 0
  · have e0 : ((t.length : Int) == 0) = true := by simp [h0]
    have er : mayB t = false := by simp [mayB, h0]
    first | apply tr_m (by rw [hE]; rfl) | (refine Tr.seq ?_; apply tr_m (by rw [hE]; rfl))
    intro Q hQ
    simp only [go_sem, seval]
    iterate 5 ((refine vm_op ?_); intro r hr; simp only [e0, go_sem, seval]; subst hr)
    iterate 4 ((first | refine vm_if rfl ?_ | refine vm_no rfl ?_ | refine vm_skip rfl ?_); intro r hr; simp only [e0, go_sem, seval]; subst hr)
    (refine vm_op ?_); intro r hr; simp only [e0, go_sem, seval]; subst hr
    exact hQ
    first | refine Tr.cond (b := true) rfl (fun _ => ?_) (fun h => by cases h) | refine Tr.seq (Tr.cond (b := true) rfl (fun _ => ?_) (fun h => by cases h))
    first | refine tr_seq_region (by rw [hE]; rfl) ?_ | (refine Tr.seq ?_; refine tr_seq_region (by rw [hE]; rfl) ?_)
    repeat (refine vc_op rfl ?_; simp only [go_sem, seval])
    refine vc_nil ?_
    refine Tr.ret ?_
    simp only [er, Tryd.f25, go_sem, seval]
  · have e0 : ((t.length : Int) == 0) = false := by rw [int_beq]; exact decide_eq_false (by omega)
    by_cases h12 : 12 < t.length
    · have e1 : decide ((12 : Int) < (t.length : Int)) = true := decide_eq_true (by omega)
      have a2 : decide (t.length ≤ 12) = false := decide_eq_false (by omega)
      have er : mayB t = false := by simp [mayB, a2]
      first | apply tr_m (by rw [hE]; rfl) | (refine Tr.seq ?_; apply tr_m (by rw [hE]; rfl))
      intro Q hQ
      simp only [go_sem, seval]
      iterate 5 ((refine vm_op ?_); intro r hr; simp only [e0, e1, go_sem, seval]; subst hr)
      iterate 4 ((first | refine vm_if rfl ?_ | refine vm_no rfl ?_ | refine vm_skip rfl ?_); intro r hr; simp only [e0, e1, go_sem, seval]; subst hr)
      (refine vm_op ?_); intro r hr; simp only [e0, e1, go_sem, seval]; subst hr
      exact hQ
      first | refine Tr.cond (b := true) rfl (fun _ => ?_) (fun h => by cases h) | refine Tr.seq (Tr.cond (b := true) rfl (fun _ => ?_) (fun h => by cases h))
      first | refine tr_seq_region (by rw [hE]; rfl) ?_ | (refine Tr.seq ?_; refine tr_seq_region (by rw [hE]; rfl) ?_)
      repeat (refine vc_op rfl ?_; simp only [go_sem, seval])
      refine vc_nil ?_
      refine Tr.ret ?_
      simp only [er, Tryd.f25, go_sem, seval]
    · have e1 : decide ((12 : Int) < (t.length : Int)) = false := decide_eq_false (by omega)
      have hm : mayB t = ((List.range t.length).all (fitsB t) && onceB t) := by
        have a1 : decide (1 ≤ t.length) = true := decide_eq_true (by omega)
        have a2 : decide (t.length ≤ 12) = true := decide_eq_true (by omega)
        simp [mayB, a1, a2]
      first | apply tr_m (by rw [hE]; rfl) | (refine Tr.seq ?_; apply tr_m (by rw [hE]; rfl))
      intro Q hQ
      simp only [go_sem, seval]
      iterate 5 ((refine vm_op ?_); intro r hr; simp only [e0, e1, go_sem, seval]; subst hr)
      iterate 4 ((first | refine vm_if rfl ?_ | refine vm_no rfl ?_ | refine vm_skip rfl ?_); intro r hr; simp only [e0, e1, go_sem, seval]; subst hr)
      (refine vm_op ?_); intro r hr; simp only [e0, e1, go_sem, seval]; subst hr
      exact hQ
      first | refine Tr.cond rfl (fun h => by cases h) (fun _ => ?_) | refine Tr.seq (Tr.cond rfl (fun h => by cases h) (fun _ => ?_))
      refine Tr.skip ?_
      try simp only [blockK, thenK, ↓reduceIte]
      first | refine tr_seq_region (by rw [hE]; rfl) ?_ | (refine Tr.seq ?_; refine tr_seq_region (by rw [hE]; rfl) ?_)
      repeat (refine vc_op rfl ?_; simp only [go_sem, seval])
      refine vc_nil ?_
      first | refine Tr.block ?_ | (refine Tr.seq ?_; refine Tr.block ?_)
      refine Tr.loop (st34 t) (fun i => i ≤ t.length ∧ ∀ j, j < i → fitsB t j = true) (fun i => t.length - i) 0 ⟨Nat.zero_le _, fun j hj => absurd hj (Nat.not_lt_zero j)⟩ ?_ ?_
      · refine wk_ren (fun n => n) ?_ ?_ rfl rfl rfl
        · repeat' (first | exact rfl | exact trivial | constructor)
        · repeat' (first | exact rfl | exact trivial | constructor)
      · rintro i ⟨hi, hall⟩
        unfold st34
        first | refine tr_seq_region (by rw [hE]; rfl) ?_ | (refine Tr.seq ?_; refine tr_seq_region (by rw [hE]; rfl) ?_)
        repeat (refine vc_op rfl ?_; simp only [go_sem, seval])
        refine vc_nil ?_
        first | refine Tr.cond rfl (fun h1 => ?_) (fun h1 => ?_) | refine Tr.seq (Tr.cond rfl (fun h1 => ?_) (fun h1 => ?_))
        · refine Tr.skip ?_
          try simp only [blockK, thenK, ↓reduceIte]
          have hlt : i < t.length := by have := of_decide_eq_true h1; omega
          have hw := wrap_next (n := i) (by omega)
          first | refine Tr.block ?_ | (refine Tr.seq ?_; refine Tr.block ?_)
          first | refine tr_seq_region (by rw [hE]; rfl) ?_ | (refine Tr.seq ?_; refine tr_seq_region (by rw [hE]; rfl) ?_)
          repeat (refine vc_op rfl ?_; simp only [go_sem, seval])
          refine vc_nil ?_
          by_cases hf : fitsB t i = true
          · first | apply tr_m (by rw [hE]; rfl) | (refine Tr.seq ?_; apply tr_m (by rw [hE]; rfl))
            intro Q hQ
            simp only [go_sem, seval]
            iterate 3 ((refine vm_op ?_); intro r hr; simp only [go_sem, seval]; subst hr)
            (refine vm_op ?_); intro r hr; simp only [go_sem, seval]
            refine call_fn rfl rfl rfl rfl (enters_of Tryd.func47 (by kernel_rfl) rfl) (fits_pure t i hlt) rfl rfl rfl ?_
            simp only [go_sem, seval]
            subst hr
            (refine vm_op ?_); intro r hr; simp only [hf, go_sem, seval]; subst hr
            exact hQ
            first | refine Tr.cond rfl (fun h => by cases h) (fun _ => ?_) | refine Tr.seq (Tr.cond rfl (fun h => by cases h) (fun _ => ?_))
            refine Tr.skip ?_
            try simp only [blockK, thenK, ↓reduceIte]
            refine tr_region (by rw [hE]; rfl) ?_
            repeat (refine vc_op rfl ?_; simp only [go_sem, seval])
            refine vc_nil ?_
            rw [hw]
            try simp only [blockK, thenK, ↓reduceIte]
            refine ⟨i + 1, ⟨hlt, fun j hj => ?_⟩, by omega, ?_⟩
            · rcases Nat.lt_or_ge j i with hj' | hj'
              · exact hall j hj'
              · rw [show j = i by omega]; exact hf
            refine wk_ren (fun n => n) ?_ ?_ rfl rfl rfl
            · repeat' (first | exact rfl | exact trivial | constructor)
            · repeat' (first | exact rfl | exact trivial | constructor)
          · have hf : fitsB t i = false := by simpa using hf
            have er : mayB t = false := by rw [hm, not_all_range hlt hf]; rfl
            first | apply tr_m (by rw [hE]; rfl) | (refine Tr.seq ?_; apply tr_m (by rw [hE]; rfl))
            intro Q hQ
            simp only [go_sem, seval]
            iterate 3 ((refine vm_op ?_); intro r hr; simp only [go_sem, seval]; subst hr)
            (refine vm_op ?_); intro r hr; simp only [go_sem, seval]
            refine call_fn rfl rfl rfl rfl (enters_of Tryd.func47 (by kernel_rfl) rfl) (fits_pure t i hlt) rfl rfl rfl ?_
            simp only [go_sem, seval]
            subst hr
            (refine vm_op ?_); intro r hr; simp only [hf, go_sem, seval]; subst hr
            exact hQ
            first | refine Tr.cond (b := true) rfl (fun _ => ?_) (fun h => by cases h) | refine Tr.seq (Tr.cond (b := true) rfl (fun _ => ?_) (fun h => by cases h))
            first | refine tr_seq_region (by rw [hE]; rfl) ?_ | (refine Tr.seq ?_; refine tr_seq_region (by rw [hE]; rfl) ?_)
            repeat (refine vc_op rfl ?_; simp only [go_sem, seval])
            refine vc_nil ?_
            refine Tr.ret ?_
            simp only [er, Tryd.f25, go_sem, seval]
        · refine Tr.exit ?_
          try simp only [blockK, thenK, ↓reduceIte]
          have hil : i = t.length := by have := of_decide_eq_false h1; omega
          subst hil
          have er : mayB t = onceB t := by rw [hm, all_range hall]; rfl
          first | apply tr_m (by rw [hE]; rfl) | (refine Tr.seq ?_; apply tr_m (by rw [hE]; rfl))
          intro Q hQ
          simp only [go_sem, seval]
          iterate 2 ((refine vm_op ?_); intro r hr; simp only [go_sem, seval]; subst hr)
          (refine vm_op ?_); intro r hr; simp only [go_sem, seval]
          refine call_own rfl rfl rfl rfl (enters_of Tryd.func46 (by kernel_rfl) rfl) (index_own t (by omega)) rfl rfl ?_
          simp only [go_sem, seval]
          subst hr
          iterate 5 ((refine vm_op ?_); intro r hr; simp only [go_sem, seval]; subst hr)
          exact hQ
          first | refine tr_seq_region (by rw [hE]; rfl) ?_ | (refine Tr.seq ?_; refine tr_seq_region (by rw [hE]; rfl) ?_)
          repeat (refine vc_op rfl ?_; simp only [go_sem, seval])
          refine vc_nil ?_
          refine Tr.ret ?_
          simp only [er, Tryd.f25, go_sem, seval]

end Go.Proofs.YtdlejnafhmpobaaDoor

/- The document's answer: may a tree be. -/
set_option linter.unusedSimpArgs false
namespace Go.Proofs.YtdlejnafhmpobaaDoor
open Go Go.Ab

def freshB (t : List Node) (i : Nat) : Bool := (List.range i).all fun k => decide ((t.getD k zNode).root ≠ (t.getD i zNode).root)
def refmayB (t : List Node) : Bool := (List.range t.length).all (fun i => fitsB t i && freshB t i) && (decide (1 ≤ t.length) && decide (t.length ≤ 12))

theorem once_fresh (t : List Node) : onceB t = (List.range t.length).all (freshB t) := by
  rw [Bool.eq_iff_iff]
  unfold onceB freshB
  rw [decide_eq_true_iff, List.all_eq_true, List.Nodup, List.pairwise_iff_getElem]
  constructor
  · intro h i hi
    rw [List.all_eq_true]
    intro k hk
    have hi := List.mem_range.1 hi
    have hk := List.mem_range.1 hk
    have := h k i (by simp; omega) (by simp; omega) hk
    simp only [List.getElem_map] at this
    rw [decide_eq_true_iff]
    simpa [show k < t.length by omega, hi] using this
  · intro h i j h1 h2 hij
    simp only [List.length_map] at h1 h2
    have := List.all_eq_true.1 (h j (List.mem_range.2 h2)) i (List.mem_range.2 hij)
    rw [decide_eq_true_iff] at this
    simpa [h1, h2] using this

theorem all_and' {α : Type} (l : List α) (p q : α → Bool) : (l.all fun x => p x && q x) = (l.all p && l.all q) := by
  induction l with
  | nil => rfl
  | cons a l ih => simp only [List.all_cons, ih]; cases p a <;> cases q a <;> cases l.all p <;> rfl

theorem refmay_eq (t : List Node) : refmayB t = mayB t := by
  unfold refmayB mayB
  rw [once_fresh, all_and']
  cases decide (1 ≤ t.length) <;> cases decide (t.length ≤ 12) <;> cases (List.range t.length).all (fitsB t) <;> cases (List.range t.length).all (freshB t) <;> rfl

def st62_0 (t : List Node) (i : Nat) : S where
  fr := [(1, .ptr 0 [] 0), (3, .int .i64 i)]
  hp := [(0, .var (tav t))]
  nx := 1
def st62_1 (t : List Node) (n : Node) (i k : Nat) : S where
  fr := [(1, .ptr 0 [] 0), (3, .int .i64 i), (4, .ptr 1 [] 0), (5, .int .i64 k)]
  hp := [(0, .var (tav t)), (1, .var n.av)]
  nx := 2

set_option maxRecDepth 10000 in
theorem refmay_pure (t : List Node) (hl : t.length ≤ 100) : Pure Tryd.prog 39 [tav t] (.bool (refmayB t)) := by
  refine pure_of_tr Tryd.func39 rfl (Nat.le_of_ble_eq_true rfl) rfl fun E hE hP => ?_
  first | refine tr_seq_region (by rw [hE]; rfl) ?_ | (refine Tr.seq ?_; refine tr_seq_region (by rw [hE]; rfl) ?_)
  repeat (refine vc_op rfl ?_; simp only [go_sem, seval])
  refine vc_nil ?_
  first | refine tr_seq_region (by rw [hE]; rfl) ?_ | (refine Tr.seq ?_; refine tr_seq_region (by rw [hE]; rfl) ?_)
  repeat (refine vc_op rfl ?_; simp only [go_sem, seval])
  refine vc_nil ?_
  first | refine Tr.block ?_ | (refine Tr.seq ?_; refine Tr.block ?_)
  refine Tr.loop (st62_0 t) (fun i => i ≤ t.length ∧ ∀ j, j < i → (fitsB t j && freshB t j) = true) (fun i => t.length - i) 0 ⟨Nat.zero_le _, fun j hj => absurd hj (Nat.not_lt_zero j)⟩ ?_ ?_
  · refine wk_ren (fun n => n) ?_ ?_ rfl rfl rfl
    · repeat' (first | exact rfl | exact trivial | constructor)
    · repeat' (first | exact rfl | exact trivial | constructor)
  · rintro i ⟨hi, hall⟩
    unfold st62_0
    first | refine tr_seq_region (by rw [hE]; rfl) ?_ | (refine Tr.seq ?_; refine tr_seq_region (by rw [hE]; rfl) ?_)
    repeat (refine vc_op rfl ?_; simp only [go_sem, seval])
    refine vc_nil ?_
    first | refine Tr.cond rfl (fun h1 => ?_) (fun h1 => ?_) | refine Tr.seq (Tr.cond rfl (fun h1 => ?_) (fun h1 => ?_))
    · refine Tr.skip ?_
      try simp only [blockK, thenK, ↓reduceIte]
      have hlt : i < t.length := by have := of_decide_eq_true h1; omega
      have hw := wrap_next (n := i) (by omega)
      have ha := nth_map_lt Node.av t i hlt
      have hf : fitsB t i = (if i = 0 then decide (t[i].parent = -1) && decide (t[i].slot ≤ 1099511627776)
        else decide (0 ≤ t[i].parent) && decide (t[i].parent < i) && decide (t[i].slot ≤ 1099511627776) && decide ((t.getD t[i].parent.toNat zNode).slot < t[i].slot)) := by
        simp [fitsB, hlt]
      have hgd : t.getD i zNode = t[i] := by simp [hlt]
      have hfresh : freshB t i = (List.range i).all fun k => decide ((t.getD k zNode).root ≠ t[i].root) := by rw [← hgd]; rfl
      generalize t[i] = n at ha hf hgd hfresh
      have hbad : (fitsB t i && freshB t i) = false → refmayB t = false := fun h => by
        unfold refmayB; rw [not_all_range hlt h]; rfl
      first | refine Tr.block ?_ | (refine Tr.seq ?_; refine Tr.block ?_)
      first | refine tr_seq_region (by rw [hE]; rfl) ?_ | (refine Tr.seq ?_; refine tr_seq_region (by rw [hE]; rfl) ?_)
      repeat (refine vc_op rfl ?_; simp only [ha, go_sem, seval])
      refine vc_nil ?_
      by_cases hs : 1099511627776 < n.slot
      · have es : decide (1099511627776 < n.slot) = true := decide_eq_true hs
        have er : refmayB t = false := hbad (by
          have : decide (n.slot ≤ 1099511627776) = false := decide_eq_false (by omega)
          rw [hf, this]; split <;> simp)
        first | apply tr_m (by rw [hE]; rfl) | (refine Tr.seq ?_; apply tr_m (by rw [hE]; rfl))
        intro Q hQ
        simp only [go_sem, seval]
        iterate 4 ((refine vm_op ?_); intro r hr; simp only [es, go_sem, seval]; subst hr)
        iterate 7 ((first | refine vm_if rfl ?_ | refine vm_no rfl ?_ | refine vm_skip rfl ?_); intro r hr; simp only [es, go_sem, seval]; subst hr)
        iterate 2 ((refine vm_op ?_); intro r hr; simp only [es, go_sem, seval]; subst hr)
        iterate 13 ((first | refine vm_if rfl ?_ | refine vm_no rfl ?_ | refine vm_skip rfl ?_); intro r hr; simp only [es, go_sem, seval]; subst hr)
        (refine vm_op ?_); intro r hr; simp only [es, go_sem, seval]; subst hr
        exact hQ
        first | refine Tr.cond (b := true) rfl (fun _ => ?_) (fun h => by cases h) | refine Tr.seq (Tr.cond (b := true) rfl (fun _ => ?_) (fun h => by cases h))
        first | refine tr_seq_region (by rw [hE]; rfl) ?_ | (refine Tr.seq ?_; refine tr_seq_region (by rw [hE]; rfl) ?_)
        repeat (refine vc_op rfl ?_; simp only [go_sem, seval])
        refine vc_nil ?_
        refine Tr.ret ?_
        simp only [er, Tryd.f39, go_sem, seval]
      · have es : decide (1099511627776 < n.slot) = false := decide_eq_false hs
        have es' : decide (n.slot ≤ 1099511627776) = true := decide_eq_true (by omega)
        by_cases h0 : i = 0
        · have e0 : ((i : Int) == 0) = true := by rw [int_beq]; exact decide_eq_true (by omega)
          have eg : decide ((0 : Int) < (i : Int)) = false := decide_eq_false (by omega)
          rw [if_pos h0] at hf
          by_cases hp1 : n.parent = -1
          · have ep : (n.parent != -1) = false := by simp [hp1]
            have hf1 : fitsB t i = true := by rw [hf]; simp [hp1, es']
            first | apply tr_m (by rw [hE]; rfl) | (refine Tr.seq ?_; apply tr_m (by rw [hE]; rfl))
            intro Q hQ
            simp only [go_sem, seval]
            iterate 4 ((refine vm_op ?_); intro r hr; simp only [es, e0, eg, ep, go_sem, seval]; subst hr)
            iterate 7 ((first | refine vm_if rfl ?_ | refine vm_no rfl ?_ | refine vm_skip rfl ?_); intro r hr; simp only [es, e0, eg, ep, go_sem, seval]; subst hr)
            iterate 2 ((refine vm_op ?_); intro r hr; simp only [es, e0, eg, ep, go_sem, seval]; subst hr)
            iterate 13 ((first | refine vm_if rfl ?_ | refine vm_no rfl ?_ | refine vm_skip rfl ?_); intro r hr; simp only [es, e0, eg, ep, go_sem, seval]; subst hr)
            (refine vm_op ?_); intro r hr; simp only [es, e0, eg, ep, go_sem, seval]; subst hr
            exact hQ
            first | refine Tr.cond rfl (fun h => by cases h) (fun _ => ?_) | refine Tr.seq (Tr.cond rfl (fun h => by cases h) (fun _ => ?_))
            refine Tr.skip ?_
            try simp only [blockK, thenK, ↓reduceIte]
            first | apply tr_md mixed [0, 161] rfl (by rw [hE]; rfl) (by kernel_rfl) | (refine Tr.seq ?_; apply tr_md mixed [0, 161] rfl (by rw [hE]; rfl) (by kernel_rfl))
            intro Q hQ
            simp only [go_sem, seval]
            iterate 3 ((refine vd2_q rfl ?_); intro r hr; simp only [eg, go_sem, seval]; subst hr)
            iterate 10 ((first | refine vd2_goq rfl rfl ?_ | refine vd2_no rfl ?_ | refine vd2_skip rfl ?_); intro r hr; simp only [eg, go_sem, seval]; subst hr)
            (refine vd2_q rfl ?_); intro r hr; simp only [eg, go_sem, seval]; subst hr
            exact hQ
            first | refine Tr.cond rfl (fun h => by cases h) (fun _ => ?_) | refine Tr.seq (Tr.cond rfl (fun h => by cases h) (fun _ => ?_))
            refine Tr.skip ?_
            try simp only [blockK, thenK, ↓reduceIte]
            first | refine tr_seq_region (by rw [hE]; rfl) ?_ | (refine Tr.seq ?_; refine tr_seq_region (by rw [hE]; rfl) ?_)
            repeat (refine vc_op rfl ?_; simp only [go_sem, seval])
            refine vc_nil ?_
            first | refine Tr.block ?_ | (refine Tr.seq ?_; refine Tr.block ?_)
            refine Tr.loop (st62_1 t n i) (fun k => k ≤ i ∧ ∀ j, j < k → (t.getD j zNode).root ≠ n.root) (fun k => i - k) 0 ⟨Nat.zero_le _, fun j hj => absurd hj (Nat.not_lt_zero j)⟩ ?_ ?_
            · refine wk_ren (fun | 1 => 161 | n => n) ?_ ?_ rfl rfl rfl
              · repeat' (first | exact rfl | exact trivial | constructor)
              · repeat' (first | exact rfl | exact trivial | constructor)
            · rintro k ⟨hk, hkall⟩
              unfold st62_1
              first | refine tr_seq_region (by rw [hE]; rfl) ?_ | (refine Tr.seq ?_; refine tr_seq_region (by rw [hE]; rfl) ?_)
              repeat (refine vc_op rfl ?_; simp only [go_sem, seval])
              refine vc_nil ?_
              first | refine Tr.cond rfl (fun g1 => ?_) (fun g1 => ?_) | refine Tr.seq (Tr.cond rfl (fun g1 => ?_) (fun g1 => ?_))
              · refine Tr.skip ?_
                try simp only [blockK, thenK, ↓reduceIte]
                have hkl : k < i := by have := of_decide_eq_true g1; omega
                have hkt : k < t.length := by omega
                have hkw := wrap_next (n := k) (by omega)
                have hc := nth_map_lt Node.av t k hkt
                have hgk : t.getD k zNode = t[k] := by simp [hkt]
                first | refine Tr.block ?_ | (refine Tr.seq ?_; refine Tr.block ?_)
                by_cases hr : (t[k]).root = n.root
                · have eR : decide ((t[k]).root = n.root) = true := decide_eq_true hr
                  have er : refmayB t = false := hbad (by
                    have : freshB t i = false := by rw [hfresh]; exact not_all_range hkl (by rw [hgk]; exact decide_eq_false (fun h => h hr))
                    rw [this, Bool.and_false])
                  first | apply tr_md mixed [0, 1] rfl (by rw [hE]; rfl) (by kernel_rfl) | (refine Tr.seq ?_; apply tr_md mixed [0, 1] rfl (by rw [hE]; rfl) (by kernel_rfl))
                  intro Q hQ
                  simp only [go_sem, seval]
                  iterate 9 ((refine vd2_q rfl ?_); intro r hr; simp only [hc, eR, go_sem, seval]; subst hr)
                  exact hQ
                  first | refine Tr.cond (b := true) rfl (fun _ => ?_) (fun h => by cases h) | refine Tr.seq (Tr.cond (b := true) rfl (fun _ => ?_) (fun h => by cases h))
                  first | refine tr_seq_region (by rw [hE]; rfl) ?_ | (refine Tr.seq ?_; refine tr_seq_region (by rw [hE]; rfl) ?_)
                  repeat (refine vc_op rfl ?_; simp only [go_sem, seval])
                  refine vc_nil ?_
                  refine Tr.ret ?_
                  simp only [er, Tryd.f39, go_sem, seval]
                · have eR : decide ((t[k]).root = n.root) = false := decide_eq_false hr
                  first | apply tr_md mixed [0, 1] rfl (by rw [hE]; rfl) (by kernel_rfl) | (refine Tr.seq ?_; apply tr_md mixed [0, 1] rfl (by rw [hE]; rfl) (by kernel_rfl))
                  intro Q hQ
                  simp only [go_sem, seval]
                  iterate 9 ((refine vd2_q rfl ?_); intro r hr; simp only [hc, eR, go_sem, seval]; subst hr)
                  exact hQ
                  first | refine Tr.cond rfl (fun h => by cases h) (fun _ => ?_) | refine Tr.seq (Tr.cond rfl (fun h => by cases h) (fun _ => ?_))
                  refine Tr.skip ?_
                  try simp only [blockK, thenK, ↓reduceIte]
                  refine tr_region (by rw [hE]; rfl) ?_
                  repeat (refine vc_op rfl ?_; simp only [go_sem, seval])
                  refine vc_nil ?_
                  rw [hkw]
                  try simp only [blockK, thenK, ↓reduceIte]
                  refine ⟨k + 1, ⟨hkl, fun j hj => ?_⟩, by omega, ?_⟩
                  · rcases Nat.lt_or_ge j k with hj' | hj'
                    · exact hkall j hj'
                    · rw [show j = k by omega, hgk]; exact hr
                  refine wk_ren (fun n => n) ?_ ?_ rfl rfl rfl
                  · repeat' (first | exact rfl | exact trivial | constructor)
                  · repeat' (first | exact rfl | exact trivial | constructor)
              · refine Tr.exit ?_
                try simp only [blockK, thenK, ↓reduceIte]
                have hki : k = i := by have := of_decide_eq_false g1; omega
                have hfr : freshB t i = true := by
                  rw [hfresh]; exact all_range fun j hj => decide_eq_true (hkall j (by omega))
                refine tr_region (by rw [hE]; rfl) ?_
                repeat (refine vc_op rfl ?_; simp only [go_sem, seval])
                refine vc_nil ?_
                rw [hw]
                try simp only [blockK, thenK, ↓reduceIte]
                refine ⟨i + 1, ⟨hlt, fun j hj => ?_⟩, by omega, ?_⟩
                · rcases Nat.lt_or_ge j i with hj' | hj'
                  · exact hall j hj'
                  · rw [show j = i by omega, hf1, hfr]; rfl
                refine wk_ren (fun n => n) ?_ ?_ rfl rfl rfl
                · repeat' (first | exact rfl | exact trivial | constructor)
                · repeat' (first | exact rfl | exact trivial | constructor)
          · have ep : (n.parent != -1) = true := by simp [hp1]
            have er : refmayB t = false := hbad (by rw [hf]; simp [hp1])
            first | apply tr_m (by rw [hE]; rfl) | (refine Tr.seq ?_; apply tr_m (by rw [hE]; rfl))
            intro Q hQ
            simp only [go_sem, seval]
            iterate 4 ((refine vm_op ?_); intro r hr; simp only [es, e0, eg, ep, go_sem, seval]; subst hr)
            iterate 7 ((first | refine vm_if rfl ?_ | refine vm_no rfl ?_ | refine vm_skip rfl ?_); intro r hr; simp only [es, e0, eg, ep, go_sem, seval]; subst hr)
            iterate 2 ((refine vm_op ?_); intro r hr; simp only [es, e0, eg, ep, go_sem, seval]; subst hr)
            iterate 13 ((first | refine vm_if rfl ?_ | refine vm_no rfl ?_ | refine vm_skip rfl ?_); intro r hr; simp only [es, e0, eg, ep, go_sem, seval]; subst hr)
            (refine vm_op ?_); intro r hr; simp only [es, e0, eg, ep, go_sem, seval]; subst hr
            exact hQ
            first | refine Tr.cond (b := true) rfl (fun _ => ?_) (fun h => by cases h) | refine Tr.seq (Tr.cond (b := true) rfl (fun _ => ?_) (fun h => by cases h))
            first | refine tr_seq_region (by rw [hE]; rfl) ?_ | (refine Tr.seq ?_; refine tr_seq_region (by rw [hE]; rfl) ?_)
            repeat (refine vc_op rfl ?_; simp only [go_sem, seval])
            refine vc_nil ?_
            refine Tr.ret ?_
            simp only [er, Tryd.f39, go_sem, seval]
        · have e0 : ((i : Int) == 0) = false := by rw [int_beq]; exact decide_eq_false (by omega)
          have eg : decide ((0 : Int) < (i : Int)) = true := decide_eq_true (by omega)
          rw [if_neg h0] at hf
          by_cases h2 : n.parent < 0
          · have e2 : decide (n.parent < 0) = true := decide_eq_true h2
            have er : refmayB t = false := hbad (by rw [hf, decide_eq_false (p := 0 ≤ n.parent) (by omega)]; rfl)
            first | apply tr_m (by rw [hE]; rfl) | (refine Tr.seq ?_; apply tr_m (by rw [hE]; rfl))
            intro Q hQ
            simp only [go_sem, seval]
            iterate 4 ((refine vm_op ?_); intro r hr; simp only [es, e0, eg, e2, go_sem, seval]; subst hr)
            iterate 7 ((first | refine vm_if rfl ?_ | refine vm_no rfl ?_ | refine vm_skip rfl ?_); intro r hr; simp only [es, e0, eg, e2, go_sem, seval]; subst hr)
            iterate 2 ((refine vm_op ?_); intro r hr; simp only [es, e0, eg, e2, go_sem, seval]; subst hr)
            iterate 13 ((first | refine vm_if rfl ?_ | refine vm_no rfl ?_ | refine vm_skip rfl ?_); intro r hr; simp only [es, e0, eg, e2, go_sem, seval]; subst hr)
            (refine vm_op ?_); intro r hr; simp only [es, e0, eg, e2, go_sem, seval]; subst hr
            exact hQ
            first | refine Tr.cond (b := true) rfl (fun _ => ?_) (fun h => by cases h) | refine Tr.seq (Tr.cond (b := true) rfl (fun _ => ?_) (fun h => by cases h))
            first | refine tr_seq_region (by rw [hE]; rfl) ?_ | (refine Tr.seq ?_; refine tr_seq_region (by rw [hE]; rfl) ?_)
            repeat (refine vc_op rfl ?_; simp only [go_sem, seval])
            refine vc_nil ?_
            refine Tr.ret ?_
            simp only [er, Tryd.f39, go_sem, seval]
          · have e2 : decide (n.parent < 0) = false := decide_eq_false h2
            by_cases h3 : (i : Int) ≤ n.parent
            · have e3 : decide ((i : Int) ≤ n.parent) = true := decide_eq_true h3
              have er : refmayB t = false := hbad (by rw [hf, decide_eq_false (p := n.parent < i) (by omega)]; simp)
              first | apply tr_m (by rw [hE]; rfl) | (refine Tr.seq ?_; apply tr_m (by rw [hE]; rfl))
              intro Q hQ
              simp only [go_sem, seval]
              iterate 4 ((refine vm_op ?_); intro r hr; simp only [es, e0, eg, e2, e3, go_sem, seval]; subst hr)
              iterate 7 ((first | refine vm_if rfl ?_ | refine vm_no rfl ?_ | refine vm_skip rfl ?_); intro r hr; simp only [es, e0, eg, e2, e3, go_sem, seval]; subst hr)
              iterate 2 ((refine vm_op ?_); intro r hr; simp only [es, e0, eg, e2, e3, go_sem, seval]; subst hr)
              iterate 13 ((first | refine vm_if rfl ?_ | refine vm_no rfl ?_ | refine vm_skip rfl ?_); intro r hr; simp only [es, e0, eg, e2, e3, go_sem, seval]; subst hr)
              (refine vm_op ?_); intro r hr; simp only [es, e0, eg, e2, e3, go_sem, seval]; subst hr
              exact hQ
              first | refine Tr.cond (b := true) rfl (fun _ => ?_) (fun h => by cases h) | refine Tr.seq (Tr.cond (b := true) rfl (fun _ => ?_) (fun h => by cases h))
              first | refine tr_seq_region (by rw [hE]; rfl) ?_ | (refine Tr.seq ?_; refine tr_seq_region (by rw [hE]; rfl) ?_)
              repeat (refine vc_op rfl ?_; simp only [go_sem, seval])
              refine vc_nil ?_
              refine Tr.ret ?_
              simp only [er, Tryd.f39, go_sem, seval]
            · have e3 : decide ((i : Int) ≤ n.parent) = false := decide_eq_false h3
              obtain ⟨p, hp⟩ : ∃ p : Nat, n.parent = p := ⟨n.parent.toNat, by omega⟩
              have hpl : p < t.length := by omega
              have hb := nth_map_lt Node.av t p hpl
              have hf2 : fitsB t i = decide ((t[p]).slot < n.slot) := by
                rw [hf, es', decide_eq_true (p := 0 ≤ n.parent) (by omega), decide_eq_true (p := n.parent < i) (by omega), hp]; simp [hpl]
              rw [hp] at e2 e3
              first | apply tr_m (by rw [hE]; rfl) | (refine Tr.seq ?_; apply tr_m (by rw [hE]; rfl))
              intro Q hQ
              simp only [go_sem, seval]
              iterate 4 ((refine vm_op ?_); intro r hr; simp only [es, e0, eg, hp, e2, e3, go_sem, seval]; subst hr)
              iterate 7 ((first | refine vm_if rfl ?_ | refine vm_no rfl ?_ | refine vm_skip rfl ?_); intro r hr; simp only [es, e0, eg, hp, e2, e3, go_sem, seval]; subst hr)
              iterate 2 ((refine vm_op ?_); intro r hr; simp only [es, e0, eg, hp, e2, e3, go_sem, seval]; subst hr)
              iterate 13 ((first | refine vm_if rfl ?_ | refine vm_no rfl ?_ | refine vm_skip rfl ?_); intro r hr; simp only [es, e0, eg, hp, e2, e3, go_sem, seval]; subst hr)
              (refine vm_op ?_); intro r hr; simp only [es, e0, eg, hp, e2, e3, go_sem, seval]; subst hr
              exact hQ
              first | refine Tr.cond rfl (fun h => by cases h) (fun _ => ?_) | refine Tr.seq (Tr.cond rfl (fun h => by cases h) (fun _ => ?_))
              refine Tr.skip ?_
              try simp only [blockK, thenK, ↓reduceIte]
              by_cases h4 : n.slot ≤ (t[p]).slot
              · have e4 : decide (n.slot ≤ (t[p]).slot) = true := decide_eq_true h4
                have er : refmayB t = false := hbad (by rw [hf2, decide_eq_false (by omega)]; rfl)
                first | apply tr_md mixed [0, 161] rfl (by rw [hE]; rfl) (by kernel_rfl) | (refine Tr.seq ?_; apply tr_md mixed [0, 161] rfl (by rw [hE]; rfl) (by kernel_rfl))
                intro Q hQ
                simp only [go_sem, seval]
                iterate 3 ((refine vd2_q rfl ?_); intro r hr; simp only [eg, hp, hb, e4, go_sem, seval]; subst hr)
                iterate 10 ((first | refine vd2_goq rfl rfl ?_ | refine vd2_no rfl ?_ | refine vd2_skip rfl ?_); intro r hr; simp only [eg, hp, hb, e4, go_sem, seval]; subst hr)
                (refine vd2_q rfl ?_); intro r hr; simp only [eg, hp, hb, e4, go_sem, seval]; subst hr
                exact hQ
                first | refine Tr.cond (b := true) rfl (fun _ => ?_) (fun h => by cases h) | refine Tr.seq (Tr.cond (b := true) rfl (fun _ => ?_) (fun h => by cases h))
                first | refine tr_seq_region (by rw [hE]; rfl) ?_ | (refine Tr.seq ?_; refine tr_seq_region (by rw [hE]; rfl) ?_)
                repeat (refine vc_op rfl ?_; simp only [go_sem, seval])
                refine vc_nil ?_
                refine Tr.ret ?_
                simp only [er, Tryd.f39, go_sem, seval]
              · have e4 : decide (n.slot ≤ (t[p]).slot) = false := decide_eq_false h4
                have hf1 : fitsB t i = true := by rw [hf2, decide_eq_true (by omega)]
                first | apply tr_md mixed [0, 161] rfl (by rw [hE]; rfl) (by kernel_rfl) | (refine Tr.seq ?_; apply tr_md mixed [0, 161] rfl (by rw [hE]; rfl) (by kernel_rfl))
                intro Q hQ
                simp only [go_sem, seval]
                iterate 3 ((refine vd2_q rfl ?_); intro r hr; simp only [eg, hp, hb, e4, go_sem, seval]; subst hr)
                iterate 10 ((first | refine vd2_goq rfl rfl ?_ | refine vd2_no rfl ?_ | refine vd2_skip rfl ?_); intro r hr; simp only [eg, hp, hb, e4, go_sem, seval]; subst hr)
                (refine vd2_q rfl ?_); intro r hr; simp only [eg, hp, hb, e4, go_sem, seval]; subst hr
                exact hQ
                first | refine Tr.cond rfl (fun h => by cases h) (fun _ => ?_) | refine Tr.seq (Tr.cond rfl (fun h => by cases h) (fun _ => ?_))
                refine Tr.skip ?_
                try simp only [blockK, thenK, ↓reduceIte]
                first | refine tr_seq_region (by rw [hE]; rfl) ?_ | (refine Tr.seq ?_; refine tr_seq_region (by rw [hE]; rfl) ?_)
                repeat (refine vc_op rfl ?_; simp only [go_sem, seval])
                refine vc_nil ?_
                first | refine Tr.block ?_ | (refine Tr.seq ?_; refine Tr.block ?_)
                refine Tr.loop (st62_1 t n i) (fun k => k ≤ i ∧ ∀ j, j < k → (t.getD j zNode).root ≠ n.root) (fun k => i - k) 0 ⟨Nat.zero_le _, fun j hj => absurd hj (Nat.not_lt_zero j)⟩ ?_ ?_
                · refine wk_ren (fun | 1 => 161 | n => n) ?_ ?_ rfl rfl rfl
                  · repeat' (first | exact rfl | exact trivial | constructor)
                  · repeat' (first | exact rfl | exact trivial | constructor)
                · rintro k ⟨hk, hkall⟩
                  unfold st62_1
                  first | refine tr_seq_region (by rw [hE]; rfl) ?_ | (refine Tr.seq ?_; refine tr_seq_region (by rw [hE]; rfl) ?_)
                  repeat (refine vc_op rfl ?_; simp only [go_sem, seval])
                  refine vc_nil ?_
                  first | refine Tr.cond rfl (fun g1 => ?_) (fun g1 => ?_) | refine Tr.seq (Tr.cond rfl (fun g1 => ?_) (fun g1 => ?_))
                  · refine Tr.skip ?_
                    try simp only [blockK, thenK, ↓reduceIte]
                    have hkl : k < i := by have := of_decide_eq_true g1; omega
                    have hkt : k < t.length := by omega
                    have hkw := wrap_next (n := k) (by omega)
                    have hc := nth_map_lt Node.av t k hkt
                    have hgk : t.getD k zNode = t[k] := by simp [hkt]
                    first | refine Tr.block ?_ | (refine Tr.seq ?_; refine Tr.block ?_)
                    by_cases hr : (t[k]).root = n.root
                    · have eR : decide ((t[k]).root = n.root) = true := decide_eq_true hr
                      have er : refmayB t = false := hbad (by
                        have : freshB t i = false := by rw [hfresh]; exact not_all_range hkl (by rw [hgk]; exact decide_eq_false (fun h => h hr))
                        rw [this, Bool.and_false])
                      first | apply tr_md mixed [0, 1] rfl (by rw [hE]; rfl) (by kernel_rfl) | (refine Tr.seq ?_; apply tr_md mixed [0, 1] rfl (by rw [hE]; rfl) (by kernel_rfl))
                      intro Q hQ
                      simp only [go_sem, seval]
                      iterate 9 ((refine vd2_q rfl ?_); intro r hr; simp only [hc, eR, go_sem, seval]; subst hr)
                      exact hQ
                      first | refine Tr.cond (b := true) rfl (fun _ => ?_) (fun h => by cases h) | refine Tr.seq (Tr.cond (b := true) rfl (fun _ => ?_) (fun h => by cases h))
                      first | refine tr_seq_region (by rw [hE]; rfl) ?_ | (refine Tr.seq ?_; refine tr_seq_region (by rw [hE]; rfl) ?_)
                      repeat (refine vc_op rfl ?_; simp only [go_sem, seval])
                      refine vc_nil ?_
                      refine Tr.ret ?_
                      simp only [er, Tryd.f39, go_sem, seval]
                    · have eR : decide ((t[k]).root = n.root) = false := decide_eq_false hr
                      first | apply tr_md mixed [0, 1] rfl (by rw [hE]; rfl) (by kernel_rfl) | (refine Tr.seq ?_; apply tr_md mixed [0, 1] rfl (by rw [hE]; rfl) (by kernel_rfl))
                      intro Q hQ
                      simp only [go_sem, seval]
                      iterate 9 ((refine vd2_q rfl ?_); intro r hr; simp only [hc, eR, go_sem, seval]; subst hr)
                      exact hQ
                      first | refine Tr.cond rfl (fun h => by cases h) (fun _ => ?_) | refine Tr.seq (Tr.cond rfl (fun h => by cases h) (fun _ => ?_))
                      refine Tr.skip ?_
                      try simp only [blockK, thenK, ↓reduceIte]
                      refine tr_region (by rw [hE]; rfl) ?_
                      repeat (refine vc_op rfl ?_; simp only [go_sem, seval])
                      refine vc_nil ?_
                      rw [hkw]
                      try simp only [blockK, thenK, ↓reduceIte]
                      refine ⟨k + 1, ⟨hkl, fun j hj => ?_⟩, by omega, ?_⟩
                      · rcases Nat.lt_or_ge j k with hj' | hj'
                        · exact hkall j hj'
                        · rw [show j = k by omega, hgk]; exact hr
                      refine wk_ren (fun n => n) ?_ ?_ rfl rfl rfl
                      · repeat' (first | exact rfl | exact trivial | constructor)
                      · repeat' (first | exact rfl | exact trivial | constructor)
                  · refine Tr.exit ?_
                    try simp only [blockK, thenK, ↓reduceIte]
                    have hki : k = i := by have := of_decide_eq_false g1; omega
                    have hfr : freshB t i = true := by
                      rw [hfresh]; exact all_range fun j hj => decide_eq_true (hkall j (by omega))
                    refine tr_region (by rw [hE]; rfl) ?_
                    repeat (refine vc_op rfl ?_; simp only [go_sem, seval])
                    refine vc_nil ?_
                    rw [hw]
                    try simp only [blockK, thenK, ↓reduceIte]
                    refine ⟨i + 1, ⟨hlt, fun j hj => ?_⟩, by omega, ?_⟩
                    · rcases Nat.lt_or_ge j i with hj' | hj'
                      · exact hall j hj'
                      · rw [show j = i by omega, hf1, hfr]; rfl
                    refine wk_ren (fun n => n) ?_ ?_ rfl rfl rfl
                    · repeat' (first | exact rfl | exact trivial | constructor)
                    · repeat' (first | exact rfl | exact trivial | constructor)
    · refine Tr.exit ?_
      try simp only [blockK, thenK, ↓reduceIte]
      have hil : i = t.length := by have := of_decide_eq_false h1; omega
      subst hil
      have er : refmayB t = (decide (1 ≤ t.length) && decide (t.length ≤ 12)) := by unfold refmayB; rw [all_range hall, Bool.true_and]
      by_cases h5 : 1 ≤ t.length
      · have e5 : decide ((1 : Int) ≤ (t.length : Int)) = true := decide_eq_true (by omega)
        have er2 : refmayB t = decide ((t.length : Int) ≤ 12) := by
          rw [er, decide_eq_true h5, Bool.true_and]; exact decide_eq_decide.2 (by omega)
        first | apply tr_m (by rw [hE]; rfl) | (refine Tr.seq ?_; apply tr_m (by rw [hE]; rfl))
        intro Q hQ
        simp only [go_sem, seval]
        iterate 5 ((refine vm_op ?_); intro r hr; simp only [e5, go_sem, seval]; subst hr)
        iterate 4 ((first | refine vm_if rfl ?_ | refine vm_no rfl ?_ | refine vm_skip rfl ?_); intro r hr; simp only [e5, go_sem, seval]; subst hr)
        iterate 2 ((refine vm_op ?_); intro r hr; simp only [e5, go_sem, seval]; subst hr)
        exact hQ
        refine Tr.ret ?_
        simp only [er2, Tryd.f39, go_sem, seval]
      · have e5 : decide ((1 : Int) ≤ (t.length : Int)) = false := decide_eq_false (by omega)
        have er2 : refmayB t = false := by rw [er, decide_eq_false h5]; rfl
        first | apply tr_m (by rw [hE]; rfl) | (refine Tr.seq ?_; apply tr_m (by rw [hE]; rfl))
        intro Q hQ
        simp only [go_sem, seval]
        iterate 5 ((refine vm_op ?_); intro r hr; simp only [e5, go_sem, seval]; subst hr)
        iterate 4 ((first | refine vm_if rfl ?_ | refine vm_no rfl ?_ | refine vm_skip rfl ?_); intro r hr; simp only [e5, go_sem, seval]; subst hr)
        iterate 2 ((refine vm_op ?_); intro r hr; simp only [e5, go_sem, seval]; subst hr)
        exact hQ
        refine Tr.ret ?_
        simp only [er2, Tryd.f39, go_sem, seval]

end Go.Proofs.YtdlejnafhmpobaaDoor

/- What a tree that may be is like. -/
set_option linter.unusedSimpArgs false
namespace Go.Proofs.YtdlejnafhmpobaaDoor
open Go Go.Ab

theorem nth_node {t : List Node} {k : Nat} (h : k < t.length) : nth (t.map Node.av) (k : Int) = some (t.getD k zNode).av := by
  rw [nth_map_lt Node.av t k h, List.getD_eq_getElem?_getD, List.getElem?_eq_getElem h]; rfl
theorem may_parent {t : List Node} (h : mayB t = true) {k : Nat} (hk : k < t.length) : ((t.getD k zNode).parent = -1 ∧ k = 0) ∨ (0 ≤ (t.getD k zNode).parent ∧ (t.getD k zNode).parent < k) := by
  unfold mayB at h
  simp only [Bool.and_eq_true] at h
  have := List.all_eq_true.1 h.1.2 k (List.mem_range.2 hk)
  unfold fitsB at this
  rw [List.getElem?_eq_getElem hk] at this
  have e : t.getD k zNode = t[k] := by simp [hk]
  rw [e]
  simp only at this
  split at this
  · rename_i h0
    simp at this
    exact .inl ⟨this.1, h0⟩
  · simp at this
    exact .inr ⟨this.1.1.1, this.1.1.2⟩
theorem may_len {t : List Node} (h : mayB t = true) : 1 ≤ t.length ∧ t.length ≤ 12 := by
  unfold mayB at h
  simp at h
  exact ⟨h.1.1.1, h.1.1.2⟩

end Go.Proofs.YtdlejnafhmpobaaDoor

/- Places of a tree. -/
set_option linter.unusedSimpArgs false
namespace Go.Proofs.YtdlejnafhmpobaaDoor
open Go Go.Ab

def badI (t : List Node) (i : Int) : Bool := decide (i < 0) || decide ((t.length : Int) ≤ i)
def idxI (p : Int → Bool) (l : List Int) : Int := match l.findIdx? p with | some k => (k : Int) | none => -1
def isB (t : List Node) (l : List Int) : Bool := mayB t && !l.any (badI t)

theorem is1_pure (t : List Node) (i : Int) : Pure Tryd.prog 70 [.int .i64 i, .ref (tav t)] (.bool (badI t i)) := by
  refine pure_of_tr Tryd.func70 rfl (Nat.le_of_ble_eq_true rfl) rfl fun E hE hP => ?_
  first | refine tr_seq_region (by rw [hE]; rfl) ?_ | (refine Tr.seq ?_; refine tr_seq_region (by rw [hE]; rfl) ?_)
  repeat (refine vc_op rfl ?_; simp only [go_sem, seval])
  refine vc_nil ?_
  by_cases h : i < 0
  · have e : decide (i < 0) = true := decide_eq_true h
    have er : badI t i = true := by simp [badI, h]
    first | apply tr_m (by rw [hE]; rfl) | (refine Tr.seq ?_; apply tr_m (by rw [hE]; rfl))
    intro Q hQ
    simp only [go_sem, seval]
    iterate 3 ((refine vm_op ?_); intro r hr; simp only [e, go_sem, seval]; subst hr)
    iterate 5 ((first | refine vm_if rfl ?_ | refine vm_no rfl ?_ | refine vm_skip rfl ?_); intro r hr; simp only [e, go_sem, seval]; subst hr)
    iterate 2 ((refine vm_op ?_); intro r hr; simp only [e, go_sem, seval]; subst hr)
    exact hQ
    refine Tr.ret ?_
    simp only [er, Tryd.f70, go_sem, seval]
  · have e : decide (i < 0) = false := decide_eq_false h
    have er : badI t i = decide ((t.length : Int) ≤ i) := by simp [badI, h]
    first | apply tr_m (by rw [hE]; rfl) | (refine Tr.seq ?_; apply tr_m (by rw [hE]; rfl))
    intro Q hQ
    simp only [go_sem, seval]
    iterate 3 ((refine vm_op ?_); intro r hr; simp only [e, go_sem, seval]; subst hr)
    iterate 5 ((first | refine vm_if rfl ?_ | refine vm_no rfl ?_ | refine vm_skip rfl ?_); intro r hr; simp only [e, go_sem, seval]; subst hr)
    iterate 2 ((refine vm_op ?_); intro r hr; simp only [e, go_sem, seval]; subst hr)
    exact hQ
    refine Tr.ret ?_
    simp only [er, Tryd.f70, go_sem, seval]

theorem idxI_at {p : Int → Bool} {l : List Int} {i : Nat} (h : i < l.length) (hb : ∀ j (hj : j < i), p (l[j]'(by omega)) = false) (hi : p l[i] = true) : idxI p l = i := by
  have : l.findIdx? p = some i := by
    rw [List.findIdx?_eq_some_iff_getElem]
    exact ⟨h, hi, fun j hj => by simp [hb j hj]⟩
  unfold idxI
  rw [this]
theorem idxI_none {p : Int → Bool} {l : List Int} (hb : ∀ j (hj : j < l.length), p l[j] = false) : idxI p l = -1 := by
  have : l.findIdx? p = none := by
    rw [List.findIdx?_eq_none_iff]
    intro x hx
    obtain ⟨j, hj, rfl⟩ := List.getElem_of_mem hx
    simp [hb j hj]
  unfold idxI
  rw [this]
theorem idxI_any (p : Int → Bool) (l : List Int) : decide (0 ≤ idxI p l) = l.any p := by
  unfold idxI
  cases h : l.findIdx? p with
  | some k =>
    obtain ⟨h1, h2, _⟩ := List.findIdx?_eq_some_iff_getElem.1 h
    have : l.any p = true := List.any_eq_true.2 ⟨l[k], List.getElem_mem h1, h2⟩
    rw [this]
    exact decide_eq_true (Int.natCast_nonneg k)
  | none =>
    have : l.any p = false := by
      rw [List.any_eq_false]
      intro x hx
      have := List.findIdx?_eq_none_iff.1 h x hx
      simp [this]
    rw [this]; rfl

def st67 (t : List Node) (l : List Int) (i : Nat) : S where
  fr := [(0, .sl (l.map iav) false), (1, .fn (.func 70) [] [.ref (tav t)]), (7, .int .i64 l.length), (8, .int .i64 i)]
  hp := []
  nx := 0

set_option maxRecDepth 10000 in
theorem index_pure (t : List Node) (l : List Int) (hl : l.length ≤ 100) : Pure Tryd.prog 89 [.sl (l.map iav) false, .fn (.func 70) [] [.ref (tav t)]] (.int .i64 (idxI (badI t) l)) := by
  refine pure_of_tr Tryd.func89 rfl (Nat.le_of_ble_eq_true rfl) rfl fun E hE hP => ?_
  first | refine tr_seq_region (by rw [hE]; rfl) ?_ | (refine Tr.seq ?_; refine tr_seq_region (by rw [hE]; rfl) ?_)
  repeat (refine vc_op rfl ?_; simp only [go_sem, seval])
  refine vc_nil ?_
  first | refine tr_seq_region (by rw [hE]; rfl) ?_ | (refine Tr.seq ?_; refine tr_seq_region (by rw [hE]; rfl) ?_)
  repeat (refine vc_op rfl ?_; simp only [List.length_map, go_sem, seval])
  refine vc_nil ?_
  first | refine Tr.block ?_ | (refine Tr.seq ?_; refine Tr.block ?_)
  refine Tr.loop (st67 t l) (fun i => i ≤ l.length ∧ ∀ j (hj : j < i) (hl : j < l.length), badI t l[j] = false) (fun i => l.length - i) 0 ⟨Nat.zero_le _, fun j hj => absurd hj (Nat.not_lt_zero j)⟩ ?_ ?_
  · refine wk_ren (fun n => n) ?_ ?_ rfl rfl rfl
    · repeat' (first | exact rfl | exact trivial | constructor)
    · repeat' (first | exact rfl | exact trivial | constructor)
  · rintro i ⟨hi, hall⟩
    unfold st67
    first | refine tr_seq_region (by rw [hE]; rfl) ?_ | (refine Tr.seq ?_; refine tr_seq_region (by rw [hE]; rfl) ?_)
    repeat (refine vc_op rfl ?_; simp only [go_sem, seval])
    refine vc_nil ?_
    first | refine Tr.cond rfl (fun h1 => ?_) (fun h1 => ?_) | refine Tr.seq (Tr.cond rfl (fun h1 => ?_) (fun h1 => ?_))
    · refine Tr.skip ?_
      try simp only [blockK, thenK, ↓reduceIte]
      have hlt : i < l.length := by have := of_decide_eq_true h1; omega
      have ha := nth_map_lt iav l i hlt
      simp only [iav] at ha
      have hw := wrap_next (n := i) (by omega)
      first | refine Tr.block ?_ | (refine Tr.seq ?_; refine Tr.block ?_)
      first | refine tr_seq_region (by rw [hE]; rfl) ?_ | (refine Tr.seq ?_; refine tr_seq_region (by rw [hE]; rfl) ?_)
      repeat (refine vc_op rfl ?_; simp only [go_sem, seval])
      refine vc_nil ?_
      cases hb : badI t l[i] with
      | true =>
        have er : idxI (badI t) l = i := idxI_at hlt (fun j hj => hall j hj (by omega)) hb
        have hc := is1_pure t l[i]
        rw [hb] at hc
        first | apply tr_m (by rw [hE]; rfl) | (refine Tr.seq ?_; apply tr_m (by rw [hE]; rfl))
        intro Q hQ
        simp only [go_sem, seval]
        iterate 5 ((refine vm_op ?_); intro r hr; simp only [iav, ha, go_sem, seval]; subst hr)
        (refine vm_op ?_); intro r hr; simp only [iav, ha, go_sem, seval]
        refine call_fn rfl rfl rfl rfl (enters_of Tryd.func70 (by kernel_rfl) rfl) (hc) rfl rfl rfl ?_
        simp only [go_sem, seval]
        subst hr
        exact hQ
        first | refine Tr.cond (b := true) rfl (fun _ => ?_) (fun h => by cases h) | refine Tr.seq (Tr.cond (b := true) rfl (fun _ => ?_) (fun h => by cases h))
        first | refine tr_seq_region (by rw [hE]; rfl) ?_ | (refine Tr.seq ?_; refine tr_seq_region (by rw [hE]; rfl) ?_)
        repeat (refine vc_op rfl ?_; simp only [go_sem, seval])
        refine vc_nil ?_
        refine Tr.ret ?_
        simp only [er, Tryd.f89, go_sem, seval]
      | false =>
        have hc := is1_pure t l[i]
        rw [hb] at hc
        first | apply tr_m (by rw [hE]; rfl) | (refine Tr.seq ?_; apply tr_m (by rw [hE]; rfl))
        intro Q hQ
        simp only [go_sem, seval]
        iterate 5 ((refine vm_op ?_); intro r hr; simp only [iav, ha, go_sem, seval]; subst hr)
        (refine vm_op ?_); intro r hr; simp only [iav, ha, go_sem, seval]
        refine call_fn rfl rfl rfl rfl (enters_of Tryd.func70 (by kernel_rfl) rfl) (hc) rfl rfl rfl ?_
        simp only [go_sem, seval]
        subst hr
        exact hQ
        first | refine Tr.cond rfl (fun h => by cases h) (fun _ => ?_) | refine Tr.seq (Tr.cond rfl (fun h => by cases h) (fun _ => ?_))
        refine Tr.skip ?_
        try simp only [blockK, thenK, ↓reduceIte]
        refine tr_region (by rw [hE]; rfl) ?_
        repeat (refine vc_op rfl ?_; simp only [go_sem, seval])
        refine vc_nil ?_
        rw [hw]
        try simp only [blockK, thenK, ↓reduceIte]
        refine ⟨i + 1, ⟨hlt, fun j hj hjl => ?_⟩, by omega, ?_⟩
        · rcases Nat.lt_or_ge j i with h | h
          · exact hall j h hjl
          · have : j = i := by omega
            subst this; exact hb
        refine wk_ren (fun n => n) ?_ ?_ rfl rfl rfl
        · repeat' (first | exact rfl | exact trivial | constructor)
        · repeat' (first | exact rfl | exact trivial | constructor)
    · refine Tr.exit ?_
      try simp only [blockK, thenK, ↓reduceIte]
      have hil : i = l.length := by have := of_decide_eq_false h1; omega
      have er : idxI (badI t) l = -1 := idxI_none fun j hj => hall j (by omega) hj
      first | refine tr_seq_region (by rw [hE]; rfl) ?_ | (refine Tr.seq ?_; refine tr_seq_region (by rw [hE]; rfl) ?_)
      repeat (refine vc_op rfl ?_; simp only [go_sem, seval])
      refine vc_nil ?_
      refine Tr.ret ?_
      simp only [er, Tryd.f89, go_sem, seval]

theorem contains_pure (t : List Node) (l : List Int) (hl : l.length ≤ 100) : Pure Tryd.prog 69 [.sl (l.map iav) false, .fn (.func 70) [] [.ref (tav t)]] (.bool (l.any (badI t))) := by
  have er := idxI_any (badI t) l
  refine pure_of_tr Tryd.func69 rfl (Nat.le_of_ble_eq_true rfl) rfl fun E hE hP => ?_
  first | refine tr_seq_region (by rw [hE]; rfl) ?_ | (refine Tr.seq ?_; refine tr_seq_region (by rw [hE]; rfl) ?_)
  repeat (refine vc_op rfl ?_; simp only [go_sem, seval])
  refine vc_nil ?_
  first | apply tr_m (by rw [hE]; rfl) | (refine Tr.seq ?_; apply tr_m (by rw [hE]; rfl))
  intro Q hQ
  simp only [go_sem, seval]
  iterate 2 ((refine vm_op ?_); intro r hr; simp only [go_sem, seval]; subst hr)
  (refine vm_op ?_); intro r hr; simp only [go_sem, seval]
  refine call_fn rfl rfl rfl rfl (enters_of Tryd.func89 (by kernel_rfl) rfl) (index_pure t l hl) rfl rfl rfl ?_
  simp only [go_sem, seval]
  subst hr
  iterate 2 ((refine vm_op ?_); intro r hr; simp only [go_sem, seval]; subst hr)
  exact hQ
  refine Tr.ret ?_
  simp only [er, Tryd.f69, go_sem, seval]

theorem is_pure (t : List Node) (l : List Int) (hl : l.length ≤ 100) : Pure Tryd.prog 44 [tav t, .sl (l.map iav) false] (.bool (isB t l)) := by
  refine pure_of_tr Tryd.func44 rfl (Nat.le_of_ble_eq_true rfl) rfl fun E hE hP => ?_
  first | refine tr_seq_region (by rw [hE]; rfl) ?_ | (refine Tr.seq ?_; refine tr_seq_region (by rw [hE]; rfl) ?_)
  repeat (refine vc_op rfl ?_; simp only [go_sem, seval])
  refine vc_nil ?_
  by_cases hm : mayB t = true
  · have er : isB t l = !l.any (badI t) := by simp [isB, hm]
    first | apply tr_m (by rw [hE]; rfl) | (refine Tr.seq ?_; apply tr_m (by rw [hE]; rfl))
    intro Q hQ
    simp only [go_sem, seval]
    (refine vm_op ?_); intro r hr; simp only [go_sem, seval]; subst hr
    (refine vm_op ?_); intro r hr; simp only [go_sem, seval]
    refine call_fn rfl rfl rfl rfl (enters_of Tryd.func25 (by kernel_rfl) rfl) (may_pure t) rfl rfl rfl ?_
    simp only [go_sem, seval]
    subst hr
    (refine vm_op ?_); intro r hr; simp only [hm, go_sem, seval]; subst hr
    iterate 2 ((first | refine vm_if rfl ?_ | refine vm_no rfl ?_ | refine vm_skip rfl ?_); intro r hr; simp only [hm, go_sem, seval]; subst hr)
    (first | refine vm_if rfl ?_ | refine vm_no rfl ?_ | refine vm_skip rfl ?_); intro r hr; simp only [hm, go_sem, seval]
    refine call_fn rfl rfl rfl rfl (enters_of Tryd.func69 (by kernel_rfl) rfl) (contains_pure t l hl) rfl rfl rfl ?_
    simp only [go_sem, seval]
    subst hr
    (first | refine vm_if rfl ?_ | refine vm_no rfl ?_ | refine vm_skip rfl ?_); intro r hr; simp only [go_sem, seval]; subst hr
    iterate 2 ((refine vm_op ?_); intro r hr; simp only [go_sem, seval]; subst hr)
    exact hQ
    refine Tr.ret ?_
    simp only [er, Tryd.f44, go_sem, seval]
  · have hm : mayB t = false := by simpa using hm
    have er : isB t l = false := by simp [isB, hm]
    first | apply tr_m (by rw [hE]; rfl) | (refine Tr.seq ?_; apply tr_m (by rw [hE]; rfl))
    intro Q hQ
    simp only [go_sem, seval]
    (refine vm_op ?_); intro r hr; simp only [go_sem, seval]; subst hr
    (refine vm_op ?_); intro r hr; simp only [go_sem, seval]
    refine call_fn rfl rfl rfl rfl (enters_of Tryd.func25 (by kernel_rfl) rfl) (may_pure t) rfl rfl rfl ?_
    simp only [go_sem, seval]
    subst hr
    (refine vm_op ?_); intro r hr; simp only [hm, go_sem, seval]; subst hr
    iterate 4 ((first | refine vm_if rfl ?_ | refine vm_no rfl ?_ | refine vm_skip rfl ?_); intro r hr; simp only [hm, go_sem, seval]; subst hr)
    iterate 2 ((refine vm_op ?_); intro r hr; simp only [hm, go_sem, seval]; subst hr)
    exact hQ
    refine Tr.ret ?_
    simp only [er, Tryd.f44, go_sem, seval]

end Go.Proofs.YtdlejnafhmpobaaDoor

/- Who is above whom. -/
set_option linter.unusedSimpArgs false
namespace Go.Proofs.YtdlejnafhmpobaaDoor
open Go Go.Ab

def parI (t : List Node) (a : Int) : Int := (t.getD a.toNat zNode).parent
def aboveN (t : List Node) (i : Int) : Nat → Int → Bool
  | 0, _ => false
  | n + 1, a => if a = -1 then false else if a = i then true else if a < i then false else aboveN t i n (parI t a)
def aboveF (t : List Node) (i a : Int) : Bool := aboveN t i (a + 1).toNat a
def aboveR (t : List Node) (i k : Int) : Bool := isB t [i, k] && aboveF t i k

theorem par_range {t : List Node} (hm : mayB t = true) {a : Int} (h0 : 0 ≤ a) (h1 : a < t.length) : parI t a = -1 ∨ (0 ≤ parI t a ∧ parI t a < a) := by
  have := may_parent hm (k := a.toNat) (by omega)
  unfold parI
  omega
theorem aboveN_none (t : List Node) (i : Int) (m : Nat) : aboveN t i m (-1) = false := by cases m <;> simp [aboveN]
theorem aboveN_fuel {t : List Node} (hm : mayB t = true) (i : Int) : ∀ (m m' : Nat) (a : Int), 0 ≤ a → a < t.length → a < m → a < m' → aboveN t i m a = aboveN t i m' a
  | 0, _, a, h0, _, h1, _ => by omega
  | _, 0, a, h0, _, _, h1 => by omega
  | m + 1, m' + 1, a, h0, h1, h2, h3 => by
    simp only [aboveN]
    split
    · rfl
    · split
      · rfl
      · split
        · rfl
        · rcases par_range hm h0 h1 with h | ⟨h4, h5⟩
          · rw [h, aboveN_none, aboveN_none]
          · exact aboveN_fuel hm i m m' _ h4 (by omega) (by omega) (by omega)
theorem aboveF_step {t : List Node} (hm : mayB t = true) {i a : Int} (h0 : 0 ≤ a) (h1 : a < t.length) : aboveF t i a = if a = i then true else if a < i then false else aboveF t i (parI t a) := by
  obtain ⟨m, hmm⟩ : ∃ m, (a + 1).toNat = m + 1 := ⟨a.toNat, by omega⟩
  unfold aboveF
  rw [hmm, aboveN, if_neg (by omega)]
  split
  · rfl
  · split
    · rfl
    · rcases par_range hm h0 h1 with h | ⟨h4, h5⟩
      · rw [h, aboveN_none, aboveN_none]
      · exact aboveN_fuel hm i _ _ _ h4 (by omega) (by omega) (by omega)

theorem tline_own (t : List Node) (k : Int) : Own Tryd.prog 45 [tav t, .int .i64 k] (.fn (.func 71) [] [.ptr 0 [] 0, .ptr 1 [] 0]) [(0, .var (.int .i64 k)), (1, .var (tav t))] := by
  refine own_of_tr Tryd.func45 rfl (Nat.le_of_ble_eq_true rfl) rfl fun E hE hP => ?_
  first | refine tr_seq_region (by rw [hE]; rfl) ?_ | (refine Tr.seq ?_; refine tr_seq_region (by rw [hE]; rfl) ?_)
  repeat (refine vc_op rfl ?_; simp only [go_sem, seval])
  refine vc_nil ?_
  first | refine tr_seq_region (by rw [hE]; rfl) ?_ | (refine Tr.seq ?_; refine tr_seq_region (by rw [hE]; rfl) ?_)
  repeat (refine vc_op rfl ?_; simp only [go_sem, seval])
  refine vc_nil ?_
  refine Tr.ret ?_
  simp only [Tryd.f45, go_sem, seval]
  exact ⟨fun | 0 => 16 | 1 => 0 | n => n, rfl, ⟨⟨rfl, rfl, rfl⟩, ⟨rfl, rfl, rfl⟩, trivial⟩, rfl⟩

def st37 (t : List Node) (i k : Int) : S where
  fr := [(4, .ptr 1 [] 0), (6, .ptr 2 [] 0), (16, .fn (.func 71) [] [.ptr 3 [] 0, .ptr 4 [] 0])]
  hp := [(1, .var (.int .i64 i)), (2, .var (.bool false)), (3, .var (.int .i64 k)), (4, .var (tav t))]
  nx := 5
def st66 (t : List Node) (i : Int) (l : Nat) (b : LB) (a : Int) : S where
  fr := [(0, .fn (.yield l) [] []), (1, .ptr 3 [] 0), (2, .ptr 4 [] 0)]
  hp := [(6, .lp b .ready none), (5, .dfr), (1, .var (.int .i64 i)), (2, .var (.bool false)), (3, .var (.int .i64 a)), (4, .var (tav t))]
  nx := 7

set_option maxRecDepth 10000 in
theorem above_pure (t : List Node) (i k : Int) : Pure Tryd.prog 23 [tav t, .int .i64 i, .int .i64 k] (.bool (aboveR t i k)) := by
  have hic : Pure Tryd.prog 44 [tav t, .sl [.int .i64 i, .int .i64 k] false] (.bool (isB t [i, k])) := is_pure t [i, k] (by simp)
  refine pure_of_trM Tryd.func23 rfl (Nat.le_of_ble_eq_true rfl) rfl fun E hE hP => ?_
  first | refine tr_seq_region (by rw [hE]; rfl) ?_ | (refine Tr.seq ?_; refine tr_seq_region (by rw [hE]; rfl) ?_)
  repeat (refine vc_op rfl ?_; simp only [go_sem, seval])
  refine vc_nil ?_
  refine Tr.scope ?_
  by_cases hb : isB t [i, k] = true
  · have hm : mayB t = true := by
      cases h : mayB t with
      | true => rfl
      | false => simp [isB, h] at hb
    have hk : 0 ≤ k ∧ k < t.length := by
      simp [isB, badI, hm] at hb; omega
    have er : aboveR t i k = aboveF t i k := by unfold aboveR; rw [hb, Bool.true_and]
    rw [hb] at hic
    first | apply tr_m (by rw [hE]; rfl) | (refine Tr.seq ?_; apply tr_m (by rw [hE]; rfl))
    intro Q hQ
    simp only [go_sem, seval]
    iterate 4 ((refine vm_op ?_); intro r hr; simp only [go_sem, seval]; subst hr)
    (refine vm_op ?_); intro r hr; simp only [go_sem, seval]
    refine call_fn rfl rfl rfl rfl (enters_of Tryd.func44 (by kernel_rfl) rfl) (hic) rfl rfl rfl ?_
    simp only [go_sem, seval]
    subst hr
    (refine vm_op ?_); intro r hr; simp only [go_sem, seval]; subst hr
    exact hQ
    first | refine Tr.cond rfl (fun h => by cases h) (fun _ => ?_) | refine Tr.seq (Tr.cond rfl (fun h => by cases h) (fun _ => ?_))
    refine Tr.skip ?_
    try simp only [blockK, thenK, ↓reduceIte]
    refine Tr.seq (Tr.label ?_)
    simp only [thenK]
    first | apply tr_m (by rw [hE]; rfl) | (refine Tr.seq ?_; apply tr_m (by rw [hE]; rfl))
    intro Q hQ
    simp only [go_sem, seval]
    iterate 2 ((refine vm_op ?_); intro r hr; simp only [go_sem, seval]; subst hr)
    (refine vm_op ?_); intro r hr; simp only [go_sem, seval]
    refine call_own rfl rfl rfl rfl (enters_of Tryd.func45 (by kernel_rfl) rfl) (tline_own t k) rfl rfl ?_
    simp only [go_sem, seval]
    subst hr
    exact hQ
    refine Tr.wk (s' := st37 t i k) ?_ ?_
    · refine wk_ren (fun | 1 => 16 | 2 => 32 | 3 => 176 | 4 => 177 | n => n) ?_ ?_ rfl rfl rfl
      · repeat' (first | exact rfl | exact trivial | constructor)
      · repeat' (first | exact rfl | exact trivial | constructor)
    · unfold st37
      first | refine Tr.block ?_ | (refine Tr.seq ?_; refine Tr.block ?_)
      refine Tr.range (fid := 71) (fn := Tryd.f71) rfl (enters_of Tryd.func71 (by kernel_rfl) rfl) Tryd.func71 rfl rfl (Nat.le_of_ble_eq_true rfl) ?_
      have hE0 := hE
      intro E' l b hE hP' sd
      have hP : E'.pn = 7 := hP'
      rw [er]
      first | refine Tr.block ?_ | (refine Tr.seq ?_; refine Tr.block ?_)
      refine Tr.loop (st66 t i l b) (fun a => (a = -1 ∨ (0 ≤ a ∧ a < t.length)) ∧ aboveF t i a = aboveF t i k) (fun a => (a + 1).toNat) k ⟨.inr hk, rfl⟩ ?_ ?_
      · refine wk_ren (fun n => n) ?_ ?_ rfl rfl rfl
        · repeat' (first | exact rfl | exact trivial | constructor)
        · repeat' (first | exact rfl | exact trivial | constructor)
      · rintro a ⟨ha, habove⟩
        unfold st66
        rcases ha with ha | ⟨ha0, ha1⟩
        · subst ha
          have er2 : aboveF t i k = false := by rw [← habove]; rfl
          first | refine tr_seq_y 5 sd (by rw [hE]; rfl) rfl rfl rfl ?_ | (refine Tr.seq ?_; refine tr_seq_y 5 sd (by rw [hE]; rfl) rfl rfl rfl ?_)
          simp only [List.toList_toArray, List.take_succ_cons, List.take_zero]
          repeat (first | (refine vc_op rfl ?_; simp only [go_sem, seval]) | (refine vc_go rfl rfl rfl ?_; simp only [go_sem, seval]) | (refine vc_no rfl rfl rfl ?_; simp only [go_sem, seval]) | (refine vc_skip rfl rfl rfl ?_; simp only [go_sem, seval]))
          refine vc_nil ?_
          refine gy_no rfl rfl rfl ?_
          simp only [go_sem, seval]
          repeat (refine vc_op rfl ?_; simp only [go_sem, seval])
          refine vc_nil ?_
          first | refine Tr.cond (b := false) rfl (fun h => by cases h) (fun _ => ?_) | refine Tr.seq (Tr.cond (b := false) rfl (fun h => by cases h) (fun _ => ?_))
          refine Tr.exit ?_
          try simp only [blockK, thenK, ↓reduceIte]
          have hE := hE0
          refine ⟨rfl, _, _, rfl, by simp, rfl, ?_⟩
          simp only [goOn]
          simp only [HP.del, List.filter_cons, List.filter_nil, Bool.not_false, Bool.not_true, if_true, Bool.false_eq_true, if_false, go_sem, seval]
          rw [er2]
          first | apply tr_m (by rw [hE]; rfl) | (refine Tr.seq ?_; apply tr_m (by rw [hE]; rfl))
          intro Q hQ
          simp only [go_sem, seval]
          (refine vm_op ?_); intro r hr; simp only [go_sem, seval]; subst hr
          exact hQ
          refine Tr.ret ?_
          simp only [noGoto]
          refine ⟨by simp, fun o ho => by rw [List.mem_singleton.1 ho]; rfl, ?_⟩
          simp only [HP.drop, List.contains_cons, List.contains_nil, Bool.or_false, Bool.false_or, Bool.or_true, List.filter_cons, List.filter_nil, Bool.not_false, Bool.not_true, if_true, Bool.false_eq_true, if_false,  Tryd.f23, go_sem, seval]
        · have hstep := aboveF_step hm (i := i) ha0 ha1
          have hpr := par_range hm ha0 ha1
          obtain ⟨j, rfl⟩ : ∃ j : Nat, a = j := ⟨a.toNat, by omega⟩
          have ej : ((j : Int) != -1) = true := by rw [int_bne, decide_eq_false (by omega)]; rfl
          first | refine tr_seq_y 5 sd (by rw [hE]; rfl) rfl rfl rfl ?_ | (refine Tr.seq ?_; refine tr_seq_y 5 sd (by rw [hE]; rfl) rfl rfl rfl ?_)
          simp only [List.toList_toArray, List.take_succ_cons, List.take_zero]
          repeat (first | (refine vc_op rfl ?_; simp only [ej, go_sem, seval]) | (refine vc_go rfl rfl rfl ?_; simp only [ej, go_sem, seval]) | (refine vc_no rfl rfl rfl ?_; simp only [ej, go_sem, seval]) | (refine vc_skip rfl rfl rfl ?_; simp only [ej, go_sem, seval]))
          refine vc_nil ?_
          have hE1 := hE
          have hP1 := hP
          refine gy_if rfl rfl rfl ?_
          refine ⟨_, rfl, rfl, rfl, rfl, by rw [hE0]; rfl, rfl, ?_⟩
          intro Er hE hP
          rw [hE0] at hE
          simp only [frPut, List.zip_cons_cons, List.zip_nil_left, List.zip_nil_right, List.foldl_cons, List.foldl_nil, List.toList_toArray, List.map_cons, List.map_nil, go_sem, seval]
          refine tr_region (by rw [hE]; rfl) ?_
          repeat (refine vc_op rfl ?_; simp only [go_sem, seval])
          refine vc_nil ?_
          refine ⟨rfl, ?_⟩
          simp only [go_sem, seval]
          first | refine Tr.block ?_ | (refine Tr.seq ?_; refine Tr.block ?_)
          first | refine Tr.block ?_ | (refine Tr.seq ?_; refine Tr.block ?_)
          by_cases h1 : (j : Int) = i
          · have e1 : decide ((j : Int) = i) = true := decide_eq_true h1
            have er2 : aboveF t i k = true := by rw [← habove, hstep, if_pos h1]
            first | apply tr_m (by rw [hE]; rfl) | (refine Tr.seq ?_; apply tr_m (by rw [hE]; rfl))
            intro Q hQ
            simp only [go_sem, seval]
            iterate 4 ((refine vm_op ?_); intro r hr; simp only [int_beq, e1, go_sem, seval]; subst hr)
            exact hQ
            first | refine Tr.cond (b := true) rfl (fun _ => ?_) (fun h => by cases h) | refine Tr.seq (Tr.cond (b := true) rfl (fun _ => ?_) (fun h => by cases h))
            first | apply tr_m (by rw [hE]; rfl) | (refine Tr.seq ?_; apply tr_m (by rw [hE]; rfl))
            intro Q hQ
            simp only [go_sem, seval]
            (refine vm_op ?_); intro r hr; simp only [go_sem, seval]; subst hr
            exact hQ
            refine Tr.ret ?_
            try simp only [blockK, thenK, ↓reduceIte]
            refine ⟨rfl, ?_⟩
            simp only [go_sem, seval]
            repeat (refine vc_op rfl ?_; simp only [go_sem, seval])
            refine vc_nil ?_
            have hE := hE1
            have hP := hP1
            first | refine Tr.cond (b := false) rfl (fun h => by cases h) (fun _ => ?_) | refine Tr.seq (Tr.cond (b := false) rfl (fun h => by cases h) (fun _ => ?_))
            refine Tr.exit ?_
            try simp only [blockK, thenK, ↓reduceIte]
            have hE := hE0
            refine ⟨rfl, _, _, rfl, by simp, rfl, ?_⟩
            simp only [goOn]
            simp only [HP.del, List.filter_cons, List.filter_nil, Bool.not_false, Bool.not_true, if_true, Bool.false_eq_true, if_false, go_sem, seval]
            rw [er2]
            simp only [noGoto]
            refine ⟨by simp, fun o ho => by rw [List.mem_singleton.1 ho]; rfl, ?_⟩
            simp only [HP.drop, List.contains_cons, List.contains_nil, Bool.or_false, Bool.false_or, Bool.or_true, List.filter_cons, List.filter_nil, Bool.not_false, Bool.not_true, if_true, Bool.false_eq_true, if_false,  Tryd.f23, go_sem, seval]
          · have e1 : decide ((j : Int) = i) = false := decide_eq_false h1
            by_cases h2 : (j : Int) < i
            · have e2 : decide ((j : Int) < i) = true := decide_eq_true h2
              have er2 : aboveF t i k = false := by rw [← habove, hstep, if_neg h1, if_pos h2]
              first | apply tr_m (by rw [hE]; rfl) | (refine Tr.seq ?_; apply tr_m (by rw [hE]; rfl))
              intro Q hQ
              simp only [go_sem, seval]
              iterate 4 ((refine vm_op ?_); intro r hr; simp only [int_beq, e1, go_sem, seval]; subst hr)
              exact hQ
              first | refine Tr.cond (b := false) rfl (fun h => by cases h) (fun _ => ?_) | refine Tr.seq (Tr.cond (b := false) rfl (fun h => by cases h) (fun _ => ?_))
              first | apply tr_m (by rw [hE]; rfl) | (refine Tr.seq ?_; apply tr_m (by rw [hE]; rfl))
              intro Q hQ
              simp only [go_sem, seval]
              iterate 4 ((refine vm_op ?_); intro r hr; simp only [e2, go_sem, seval]; subst hr)
              exact hQ
              first | refine Tr.cond (b := true) rfl (fun _ => ?_) (fun h => by cases h) | refine Tr.seq (Tr.cond (b := true) rfl (fun _ => ?_) (fun h => by cases h))
              refine Tr.exit ?_
              try simp only [blockK, thenK, ↓reduceIte]
              refine ⟨rfl, ?_⟩
              simp only [go_sem, seval]
              repeat (refine vc_op rfl ?_; simp only [go_sem, seval])
              refine vc_nil ?_
              have hE := hE1
              have hP := hP1
              first | refine Tr.cond (b := false) rfl (fun h => by cases h) (fun _ => ?_) | refine Tr.seq (Tr.cond (b := false) rfl (fun h => by cases h) (fun _ => ?_))
              refine Tr.exit ?_
              try simp only [blockK, thenK, ↓reduceIte]
              have hE := hE0
              refine ⟨rfl, _, _, rfl, by simp, rfl, ?_⟩
              simp only [goOn]
              simp only [HP.del, List.filter_cons, List.filter_nil, Bool.not_false, Bool.not_true, if_true, Bool.false_eq_true, if_false, go_sem, seval]
              rw [er2]
              first | apply tr_m (by rw [hE]; rfl) | (refine Tr.seq ?_; apply tr_m (by rw [hE]; rfl))
              intro Q hQ
              simp only [go_sem, seval]
              (refine vm_op ?_); intro r hr; simp only [go_sem, seval]; subst hr
              exact hQ
              refine Tr.ret ?_
              simp only [noGoto]
              refine ⟨by simp, fun o ho => by rw [List.mem_singleton.1 ho]; rfl, ?_⟩
              simp only [HP.drop, List.contains_cons, List.contains_nil, Bool.or_false, Bool.false_or, Bool.or_true, List.filter_cons, List.filter_nil, Bool.not_false, Bool.not_true, if_true, Bool.false_eq_true, if_false,  Tryd.f23, go_sem, seval]
            · have e2 : decide ((j : Int) < i) = false := decide_eq_false h2
              rw [if_neg h1, if_neg h2] at hstep
              have hn := nth_node (t := t) (k := j) (by omega)
              have hpar : (t.getD j zNode).parent = parI t j := by unfold parI; rw [Int.toNat_natCast]
              first | apply tr_m (by rw [hE]; rfl) | (refine Tr.seq ?_; apply tr_m (by rw [hE]; rfl))
              intro Q hQ
              simp only [go_sem, seval]
              iterate 4 ((refine vm_op ?_); intro r hr; simp only [int_beq, e1, go_sem, seval]; subst hr)
              exact hQ
              first | refine Tr.cond (b := false) rfl (fun h => by cases h) (fun _ => ?_) | refine Tr.seq (Tr.cond (b := false) rfl (fun h => by cases h) (fun _ => ?_))
              first | apply tr_m (by rw [hE]; rfl) | (refine Tr.seq ?_; apply tr_m (by rw [hE]; rfl))
              intro Q hQ
              simp only [go_sem, seval]
              iterate 4 ((refine vm_op ?_); intro r hr; simp only [e2, go_sem, seval]; subst hr)
              exact hQ
              first | refine Tr.cond (b := false) rfl (fun h => by cases h) (fun _ => ?_) | refine Tr.seq (Tr.cond (b := false) rfl (fun h => by cases h) (fun _ => ?_))
              refine Tr.skip ?_
              try simp only [blockK, thenK, ↓reduceIte]
              refine ⟨rfl, ?_⟩
              simp only [go_sem, seval]
              repeat (refine vc_op rfl ?_; simp only [go_sem, seval])
              refine vc_nil ?_
              have hE := hE1
              have hP := hP1
              first | refine Tr.cond (b := true) rfl (fun _ => ?_) (fun h => by cases h) | refine Tr.seq (Tr.cond (b := true) rfl (fun _ => ?_) (fun h => by cases h))
              refine Tr.skip ?_
              try simp only [blockK, thenK, ↓reduceIte]
              first | refine Tr.block ?_ | (refine Tr.seq ?_; refine Tr.block ?_)
              refine Tr.skip ?_
              try simp only [blockK, thenK, ↓reduceIte]
              apply tr_ml (by rw [hE]; rfl)
              intro Q hQ
              simp only [go_sem, seval]
              iterate 7 ((refine vm_op ?_); intro r hr; simp only [hn, hpar, go_sem, seval]; subst hr)
              exact hQ
              try simp only [blockK, thenK, ↓reduceIte]
              refine ⟨parI t j, ⟨by omega, by rw [← hstep]; exact habove⟩, by omega, ?_⟩
              refine wk_ren (fun n => n) ?_ ?_ rfl rfl rfl
              · repeat' (first | exact rfl | exact trivial | constructor)
              · repeat' (first | exact rfl | exact trivial | constructor)
  · have hb : isB t [i, k] = false := by simpa using hb
    have er : aboveR t i k = false := by unfold aboveR; rw [hb, Bool.false_and]
    rw [hb] at hic
    first | apply tr_m (by rw [hE]; rfl) | (refine Tr.seq ?_; apply tr_m (by rw [hE]; rfl))
    intro Q hQ
    simp only [go_sem, seval]
    iterate 4 ((refine vm_op ?_); intro r hr; simp only [go_sem, seval]; subst hr)
    (refine vm_op ?_); intro r hr; simp only [go_sem, seval]
    refine call_fn rfl rfl rfl rfl (enters_of Tryd.func44 (by kernel_rfl) rfl) (hic) rfl rfl rfl ?_
    simp only [go_sem, seval]
    subst hr
    (refine vm_op ?_); intro r hr; simp only [go_sem, seval]; subst hr
    exact hQ
    first | refine Tr.cond (b := true) rfl (fun _ => ?_) (fun h => by cases h) | refine Tr.seq (Tr.cond (b := true) rfl (fun _ => ?_) (fun h => by cases h))
    first | apply tr_m (by rw [hE]; rfl) | (refine Tr.seq ?_; apply tr_m (by rw [hE]; rfl))
    intro Q hQ
    simp only [go_sem, seval]
    (refine vm_op ?_); intro r hr; simp only [go_sem, seval]; subst hr
    exact hQ
    refine Tr.ret ?_
    simp only [thenK, noGoto]
    rw [er]
    refine ⟨List.nodup_nil, fun o ho => (by cases ho), ?_⟩
    simp only [drop_none,  Tryd.f23, go_sem, seval]

end Go.Proofs.YtdlejnafhmpobaaDoor

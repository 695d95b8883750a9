/- The types of layer 3, and what is simple about bytes. -/
import Derived.Test.YtpcegpfbmmgbbaaAbFour
import Derived.Test.YtpcegpfbmmgbbaaProg
set_option linter.unusedSimpArgs false
namespace Go.Proofs.Ytpcegpfbmmgbbaa
open Go Go.Ab

structure Check where
  epoch : Int
  root : Root
  deriving DecidableEq
def Check.av (a : Check) : AV := .st [.int .u64 a.epoch, .root a.root]
@[go_sem] theorem Check.av_flat (a : Check) : a.av.flat = true := rfl
@[go_sem] theorem Check.av_len (a : Check) : a.av.len = 33 := rfl
@[go_sem] theorem Check.av_agg (a : Check) : a.av.agg = true := rfl
@[go_sem] theorem Check.av_idf (a : Check) : a.av.idf = true := rfl
@[go_sem] theorem Check.av_ok (a : Check) : a.av.ok = true := rfl
@[go_sem] theorem Check.av_frz (hp : HP) (a : Check) : a.av.frz hp = a.av := rfl
@[go_sem] theorem Check.av_idL (a : Check) : a.av.idL = [] := rfl
@[go_sem] theorem Check.av_ren (ρ : Nat → Nat) (a : Check) : a.av.ren ρ = a.av := rfl
theorem tField28_0 : tFieldI Try.prog 28 0 = some (0, 1, false) := by kernel_rfl
@[go_sem] theorem fap28_0 (o : Nat) (p : List Nat) (off : Nat) (K : AV → Prop) : fieldAddrK Try.prog 28 (.ptr o p off) 0 K = K (.ptr o (p ++ [0]) (off + 0)) := fieldAddr_ptr tField28_0 (by decide) o p off K
@[go_sem] theorem far28_0 (a : Check) (K : AV → Prop) : fieldAddrK Try.prog 28 (.ref a.av) 0 K = K (.ref (.int .u64 a.epoch)) := fieldAddr_ref tField28_0 (by decide) rfl rfl K
@[go_sem] theorem sub28_0 (a : Check) : a.av.sub [0] = some (.int .u64 a.epoch) := rfl
@[go_sem] theorem offs28_0 (a : Check) : a.av.offs [0] = some 0 := rfl
@[go_sem] theorem upd28_0 (a : Check) (x : Int) : a.av.upd [0] (.int .u64 x) = some ({ a with epoch := x } : Check).av := rfl
theorem tField28_1 : tFieldI Try.prog 28 1 = some (1, 32, true) := by kernel_rfl
@[go_sem] theorem fap28_1 (o : Nat) (p : List Nat) (off : Nat) (K : AV → Prop) : fieldAddrK Try.prog 28 (.ptr o p off) 1 K = K (.ptr o (p ++ [1]) (off + 1)) := fieldAddr_ptr tField28_1 (by decide) o p off K
@[go_sem] theorem far28_1 (a : Check) (K : AV → Prop) : fieldAddrK Try.prog 28 (.ref a.av) 1 K = K (.ref (.root a.root)) := fieldAddr_ref tField28_1 (by decide) rfl rfl K
@[go_sem] theorem sub28_1 (a : Check) : a.av.sub [1] = some (.root a.root) := rfl
@[go_sem] theorem offs28_1 (a : Check) : a.av.offs [1] = some 1 := rfl
@[go_sem] theorem upd28_1 (a : Check) (x : Root) : a.av.upd [1] (.root x) = some ({ a with root := x } : Check).av := rfl
@[go_sem] theorem tSize28 : tSize Try.prog 28 = some 33 := by kernel_rfl
@[go_sem] theorem tAgg28 : tAgg Try.prog 28 = some true := by kernel_rfl
def zCheck : Check := ⟨0, zroot⟩
@[go_sem] theorem tZero28 : tZero Try.prog 28 = some zCheck.av := by kernel_rfl
theorem Check.eqb (a b : Check) : a.av.eqb b.av = decide (a = b) := by
  cases a; cases b
  simp only [Check.av, AV.eqb, AV.eqbL, int_beq, Check.mk.injEq, Bool.decide_and, Bool.and_true]
theorem fits28 (a : Check) : fits Try.prog a.av 28 = true := by kernel_rfl
theorem depth28 (a : Check) : a.av.depth ≤ 9999 := Nat.le_of_ble_eq_true rfl
@[go_sem] theorem eql28 (a b : Check) (K : AV → Prop) : binK Try.prog .eql 28 a.av b.av K = K (.bool (decide (a = b))) :=
  bin_eql_of (fun _ _ h => by cases h) (fun _ h => by cases h) (fits28 a) (fits28 b) (depth28 a) (by kernel_rfl) (Check.eqb a b) K
@[go_sem] theorem neq28 (a b : Check) (K : AV → Prop) : binK Try.prog .neq 28 a.av b.av K = K (.bool !(decide (a = b))) :=
  bin_neq_of (fun _ _ h => by cases h) (fun _ h => by cases h) (fits28 a) (fits28 b) (depth28 a) (by kernel_rfl) (Check.eqb a b) K
@[go_sem] theorem build28_all (epoch : Int) (root : Root) (K : AV → Prop) : buildK Try.prog 28 [(0, .int .u64 epoch), (1, .root root)] K = K (Check.mk epoch root).av := build_struct Try.underlying28 tZero28 rfl (by kernel_rfl) rfl K

structure Block where
  root : Root
  parent : Root
  slot : Int
  just : Int
  deriving DecidableEq
def Block.av (a : Block) : AV := .st [.root a.root, .root a.parent, .int .u64 a.slot, .int .u64 a.just]
@[go_sem] theorem Block.av_flat (a : Block) : a.av.flat = true := rfl
@[go_sem] theorem Block.av_len (a : Block) : a.av.len = 66 := rfl
@[go_sem] theorem Block.av_agg (a : Block) : a.av.agg = true := rfl
@[go_sem] theorem Block.av_idf (a : Block) : a.av.idf = true := rfl
@[go_sem] theorem Block.av_ok (a : Block) : a.av.ok = true := rfl
@[go_sem] theorem Block.av_frz (hp : HP) (a : Block) : a.av.frz hp = a.av := rfl
@[go_sem] theorem Block.av_idL (a : Block) : a.av.idL = [] := rfl
@[go_sem] theorem Block.av_ren (ρ : Nat → Nat) (a : Block) : a.av.ren ρ = a.av := rfl
theorem tField26_0 : tFieldI Try.prog 26 0 = some (0, 32, true) := by kernel_rfl
@[go_sem] theorem fap26_0 (o : Nat) (p : List Nat) (off : Nat) (K : AV → Prop) : fieldAddrK Try.prog 26 (.ptr o p off) 0 K = K (.ptr o (p ++ [0]) (off + 0)) := fieldAddr_ptr tField26_0 (by decide) o p off K
@[go_sem] theorem far26_0 (a : Block) (K : AV → Prop) : fieldAddrK Try.prog 26 (.ref a.av) 0 K = K (.ref (.root a.root)) := fieldAddr_ref tField26_0 (by decide) rfl rfl K
@[go_sem] theorem sub26_0 (a : Block) : a.av.sub [0] = some (.root a.root) := rfl
@[go_sem] theorem offs26_0 (a : Block) : a.av.offs [0] = some 0 := rfl
@[go_sem] theorem upd26_0 (a : Block) (x : Root) : a.av.upd [0] (.root x) = some ({ a with root := x } : Block).av := rfl
theorem tField26_1 : tFieldI Try.prog 26 1 = some (32, 32, true) := by kernel_rfl
@[go_sem] theorem fap26_1 (o : Nat) (p : List Nat) (off : Nat) (K : AV → Prop) : fieldAddrK Try.prog 26 (.ptr o p off) 1 K = K (.ptr o (p ++ [1]) (off + 32)) := fieldAddr_ptr tField26_1 (by decide) o p off K
@[go_sem] theorem far26_1 (a : Block) (K : AV → Prop) : fieldAddrK Try.prog 26 (.ref a.av) 1 K = K (.ref (.root a.parent)) := fieldAddr_ref tField26_1 (by decide) rfl rfl K
@[go_sem] theorem sub26_1 (a : Block) : a.av.sub [1] = some (.root a.parent) := rfl
@[go_sem] theorem offs26_1 (a : Block) : a.av.offs [1] = some 32 := rfl
@[go_sem] theorem upd26_1 (a : Block) (x : Root) : a.av.upd [1] (.root x) = some ({ a with parent := x } : Block).av := rfl
theorem tField26_2 : tFieldI Try.prog 26 2 = some (64, 1, false) := by kernel_rfl
@[go_sem] theorem fap26_2 (o : Nat) (p : List Nat) (off : Nat) (K : AV → Prop) : fieldAddrK Try.prog 26 (.ptr o p off) 2 K = K (.ptr o (p ++ [2]) (off + 64)) := fieldAddr_ptr tField26_2 (by decide) o p off K
@[go_sem] theorem far26_2 (a : Block) (K : AV → Prop) : fieldAddrK Try.prog 26 (.ref a.av) 2 K = K (.ref (.int .u64 a.slot)) := fieldAddr_ref tField26_2 (by decide) rfl rfl K
@[go_sem] theorem sub26_2 (a : Block) : a.av.sub [2] = some (.int .u64 a.slot) := rfl
@[go_sem] theorem offs26_2 (a : Block) : a.av.offs [2] = some 64 := rfl
@[go_sem] theorem upd26_2 (a : Block) (x : Int) : a.av.upd [2] (.int .u64 x) = some ({ a with slot := x } : Block).av := rfl
theorem tField26_3 : tFieldI Try.prog 26 3 = some (65, 1, false) := by kernel_rfl
@[go_sem] theorem fap26_3 (o : Nat) (p : List Nat) (off : Nat) (K : AV → Prop) : fieldAddrK Try.prog 26 (.ptr o p off) 3 K = K (.ptr o (p ++ [3]) (off + 65)) := fieldAddr_ptr tField26_3 (by decide) o p off K
@[go_sem] theorem far26_3 (a : Block) (K : AV → Prop) : fieldAddrK Try.prog 26 (.ref a.av) 3 K = K (.ref (.int .u64 a.just)) := fieldAddr_ref tField26_3 (by decide) rfl rfl K
@[go_sem] theorem sub26_3 (a : Block) : a.av.sub [3] = some (.int .u64 a.just) := rfl
@[go_sem] theorem offs26_3 (a : Block) : a.av.offs [3] = some 65 := rfl
@[go_sem] theorem upd26_3 (a : Block) (x : Int) : a.av.upd [3] (.int .u64 x) = some ({ a with just := x } : Block).av := rfl
@[go_sem] theorem tSize26 : tSize Try.prog 26 = some 66 := by kernel_rfl
@[go_sem] theorem tAgg26 : tAgg Try.prog 26 = some true := by kernel_rfl
def zBlock : Block := ⟨zroot, zroot, 0, 0⟩
@[go_sem] theorem tZero26 : tZero Try.prog 26 = some zBlock.av := by kernel_rfl
theorem Block.eqb (a b : Block) : a.av.eqb b.av = decide (a = b) := by
  cases a; cases b
  simp only [Block.av, AV.eqb, AV.eqbL, int_beq, Block.mk.injEq, Bool.decide_and, Bool.and_true]
theorem fits26 (a : Block) : fits Try.prog a.av 26 = true := by kernel_rfl
theorem depth26 (a : Block) : a.av.depth ≤ 9999 := Nat.le_of_ble_eq_true rfl
@[go_sem] theorem eql26 (a b : Block) (K : AV → Prop) : binK Try.prog .eql 26 a.av b.av K = K (.bool (decide (a = b))) :=
  bin_eql_of (fun _ _ h => by cases h) (fun _ h => by cases h) (fits26 a) (fits26 b) (depth26 a) (by kernel_rfl) (Block.eqb a b) K
@[go_sem] theorem neq26 (a b : Block) (K : AV → Prop) : binK Try.prog .neq 26 a.av b.av K = K (.bool !(decide (a = b))) :=
  bin_neq_of (fun _ _ h => by cases h) (fun _ h => by cases h) (fits26 a) (fits26 b) (depth26 a) (by kernel_rfl) (Block.eqb a b) K
@[go_sem] theorem build26_all (root : Root) (parent : Root) (slot : Int) (just : Int) (K : AV → Prop) : buildK Try.prog 26 [(0, .root root), (1, .root parent), (2, .int .u64 slot), (3, .int .u64 just)] K = K (Block.mk root parent slot just).av := build_struct Try.underlying26 tZero26 rfl (by kernel_rfl) rfl K

structure Att where
  val : Int
  slot : Int
  head : Root
  source : Check
  target : Check
  deriving DecidableEq
def Att.av (a : Att) : AV := .st [.int .i64 a.val, .int .u64 a.slot, .root a.head, a.source.av, a.target.av]
@[go_sem] theorem Att.av_flat (a : Att) : a.av.flat = true := rfl
@[go_sem] theorem Att.av_len (a : Att) : a.av.len = 100 := rfl
@[go_sem] theorem Att.av_agg (a : Att) : a.av.agg = true := rfl
@[go_sem] theorem Att.av_idf (a : Att) : a.av.idf = true := rfl
@[go_sem] theorem Att.av_ok (a : Att) : a.av.ok = true := rfl
@[go_sem] theorem Att.av_frz (hp : HP) (a : Att) : a.av.frz hp = a.av := rfl
@[go_sem] theorem Att.av_idL (a : Att) : a.av.idL = [] := rfl
@[go_sem] theorem Att.av_ren (ρ : Nat → Nat) (a : Att) : a.av.ren ρ = a.av := rfl
theorem tField30_0 : tFieldI Try.prog 30 0 = some (0, 1, false) := by kernel_rfl
@[go_sem] theorem fap30_0 (o : Nat) (p : List Nat) (off : Nat) (K : AV → Prop) : fieldAddrK Try.prog 30 (.ptr o p off) 0 K = K (.ptr o (p ++ [0]) (off + 0)) := fieldAddr_ptr tField30_0 (by decide) o p off K
@[go_sem] theorem far30_0 (a : Att) (K : AV → Prop) : fieldAddrK Try.prog 30 (.ref a.av) 0 K = K (.ref (.int .i64 a.val)) := fieldAddr_ref tField30_0 (by decide) rfl rfl K
@[go_sem] theorem sub30_0 (a : Att) : a.av.sub [0] = some (.int .i64 a.val) := rfl
@[go_sem] theorem offs30_0 (a : Att) : a.av.offs [0] = some 0 := rfl
@[go_sem] theorem upd30_0 (a : Att) (x : Int) : a.av.upd [0] (.int .i64 x) = some ({ a with val := x } : Att).av := rfl
theorem tField30_1 : tFieldI Try.prog 30 1 = some (1, 1, false) := by kernel_rfl
@[go_sem] theorem fap30_1 (o : Nat) (p : List Nat) (off : Nat) (K : AV → Prop) : fieldAddrK Try.prog 30 (.ptr o p off) 1 K = K (.ptr o (p ++ [1]) (off + 1)) := fieldAddr_ptr tField30_1 (by decide) o p off K
@[go_sem] theorem far30_1 (a : Att) (K : AV → Prop) : fieldAddrK Try.prog 30 (.ref a.av) 1 K = K (.ref (.int .u64 a.slot)) := fieldAddr_ref tField30_1 (by decide) rfl rfl K
@[go_sem] theorem sub30_1 (a : Att) : a.av.sub [1] = some (.int .u64 a.slot) := rfl
@[go_sem] theorem offs30_1 (a : Att) : a.av.offs [1] = some 1 := rfl
@[go_sem] theorem upd30_1 (a : Att) (x : Int) : a.av.upd [1] (.int .u64 x) = some ({ a with slot := x } : Att).av := rfl
theorem tField30_2 : tFieldI Try.prog 30 2 = some (2, 32, true) := by kernel_rfl
@[go_sem] theorem fap30_2 (o : Nat) (p : List Nat) (off : Nat) (K : AV → Prop) : fieldAddrK Try.prog 30 (.ptr o p off) 2 K = K (.ptr o (p ++ [2]) (off + 2)) := fieldAddr_ptr tField30_2 (by decide) o p off K
@[go_sem] theorem far30_2 (a : Att) (K : AV → Prop) : fieldAddrK Try.prog 30 (.ref a.av) 2 K = K (.ref (.root a.head)) := fieldAddr_ref tField30_2 (by decide) rfl rfl K
@[go_sem] theorem sub30_2 (a : Att) : a.av.sub [2] = some (.root a.head) := rfl
@[go_sem] theorem offs30_2 (a : Att) : a.av.offs [2] = some 2 := rfl
@[go_sem] theorem upd30_2 (a : Att) (x : Root) : a.av.upd [2] (.root x) = some ({ a with head := x } : Att).av := rfl
theorem tField30_3 : tFieldI Try.prog 30 3 = some (34, 33, true) := by kernel_rfl
@[go_sem] theorem fap30_3 (o : Nat) (p : List Nat) (off : Nat) (K : AV → Prop) : fieldAddrK Try.prog 30 (.ptr o p off) 3 K = K (.ptr o (p ++ [3]) (off + 34)) := fieldAddr_ptr tField30_3 (by decide) o p off K
@[go_sem] theorem far30_3 (a : Att) (K : AV → Prop) : fieldAddrK Try.prog 30 (.ref a.av) 3 K = K (.ref (a.source.av)) := fieldAddr_ref tField30_3 (by decide) rfl rfl K
@[go_sem] theorem sub30_3 (a : Att) : a.av.sub [3] = some (a.source.av) := rfl
@[go_sem] theorem offs30_3 (a : Att) : a.av.offs [3] = some 34 := rfl
@[go_sem] theorem upd30_3 (a : Att) (x : Check) : a.av.upd [3] (x.av) = some ({ a with source := x } : Att).av := rfl
@[go_sem] theorem sub30_3_0 (a : Att) : a.av.sub [3, 0] = some (.int .u64 a.source.epoch) := rfl
@[go_sem] theorem offs30_3_0 (a : Att) : a.av.offs [3, 0] = some 34 := rfl
@[go_sem] theorem sub30_3_1 (a : Att) : a.av.sub [3, 1] = some (.root a.source.root) := rfl
@[go_sem] theorem offs30_3_1 (a : Att) : a.av.offs [3, 1] = some 35 := rfl
theorem tField30_4 : tFieldI Try.prog 30 4 = some (67, 33, true) := by kernel_rfl
@[go_sem] theorem fap30_4 (o : Nat) (p : List Nat) (off : Nat) (K : AV → Prop) : fieldAddrK Try.prog 30 (.ptr o p off) 4 K = K (.ptr o (p ++ [4]) (off + 67)) := fieldAddr_ptr tField30_4 (by decide) o p off K
@[go_sem] theorem far30_4 (a : Att) (K : AV → Prop) : fieldAddrK Try.prog 30 (.ref a.av) 4 K = K (.ref (a.target.av)) := fieldAddr_ref tField30_4 (by decide) rfl rfl K
@[go_sem] theorem sub30_4 (a : Att) : a.av.sub [4] = some (a.target.av) := rfl
@[go_sem] theorem offs30_4 (a : Att) : a.av.offs [4] = some 67 := rfl
@[go_sem] theorem upd30_4 (a : Att) (x : Check) : a.av.upd [4] (x.av) = some ({ a with target := x } : Att).av := rfl
@[go_sem] theorem sub30_4_0 (a : Att) : a.av.sub [4, 0] = some (.int .u64 a.target.epoch) := rfl
@[go_sem] theorem offs30_4_0 (a : Att) : a.av.offs [4, 0] = some 67 := rfl
@[go_sem] theorem sub30_4_1 (a : Att) : a.av.sub [4, 1] = some (.root a.target.root) := rfl
@[go_sem] theorem offs30_4_1 (a : Att) : a.av.offs [4, 1] = some 68 := rfl
@[go_sem] theorem tSize30 : tSize Try.prog 30 = some 100 := by kernel_rfl
@[go_sem] theorem tAgg30 : tAgg Try.prog 30 = some true := by kernel_rfl
def zAtt : Att := ⟨0, 0, zroot, zCheck, zCheck⟩
@[go_sem] theorem tZero30 : tZero Try.prog 30 = some zAtt.av := by kernel_rfl
theorem Att.eqb (a b : Att) : a.av.eqb b.av = decide (a = b) := by
  have h_source := Check.eqb a.source b.source
  have h_target := Check.eqb a.target b.target
  cases a; cases b
  simp only at h_source h_target
  simp only [Att.av, AV.eqb, AV.eqbL, int_beq, h_source, h_target, Att.mk.injEq, Bool.decide_and, Bool.and_true]
theorem fits30 (a : Att) : fits Try.prog a.av 30 = true := by kernel_rfl
theorem depth30 (a : Att) : a.av.depth ≤ 9999 := Nat.le_of_ble_eq_true rfl
@[go_sem] theorem eql30 (a b : Att) (K : AV → Prop) : binK Try.prog .eql 30 a.av b.av K = K (.bool (decide (a = b))) :=
  bin_eql_of (fun _ _ h => by cases h) (fun _ h => by cases h) (fits30 a) (fits30 b) (depth30 a) (by kernel_rfl) (Att.eqb a b) K
@[go_sem] theorem neq30 (a b : Att) (K : AV → Prop) : binK Try.prog .neq 30 a.av b.av K = K (.bool !(decide (a = b))) :=
  bin_neq_of (fun _ _ h => by cases h) (fun _ h => by cases h) (fits30 a) (fits30 b) (depth30 a) (by kernel_rfl) (Att.eqb a b) K
@[go_sem] theorem build30_all (val : Int) (slot : Int) (head : Root) (source : Check) (target : Check) (K : AV → Prop) : buildK Try.prog 30 [(0, .int .i64 val), (1, .int .u64 slot), (2, .root head), (3, source.av), (4, target.av)] K = K (Att.mk val slot head source target).av := build_struct Try.underlying30 tZero30 rfl (by kernel_rfl) rfl K

theorem mixed : Try.prog.follows .mixedOrders = true := by kernel_rfl
@[go_sem] theorem und5 : Try.prog.underlying 5 = some (.int .u8) := Try.underlying5
@[go_sem] theorem und24 : Try.prog.underlying 24 = some (.int .u64) := Try.underlying24
@[go_sem] theorem und31 : Try.prog.underlying 31 = some (.slice 5) := Try.underlying31
@[go_sem] theorem und48 : Try.prog.underlying 48 = some (.slice 24) := Try.underlying48
@[go_sem] theorem und94 : Try.prog.underlying 94 = some (.slice 23) := Try.underlying94
@[go_sem] theorem und9 : Try.prog.underlying 9 = some .string := Try.underlying9
@[go_sem] theorem und3 : Try.prog.underlying 3 = some (.int .i64) := Try.underlying3
@[go_sem] theorem tSize5 : tSize Try.prog 5 = some 1 := by kernel_rfl
@[go_sem] theorem tAgg5 : tAgg Try.prog 5 = some false := by kernel_rfl
@[go_sem] theorem tBytes5 : tBytes Try.prog 5 = some 1 := by kernel_rfl
@[go_sem] theorem tZero5 : tZero Try.prog 5 = some (.int .u8 0) := by kernel_rfl
@[go_sem] theorem tSize24 : tSize Try.prog 24 = some 1 := by kernel_rfl
@[go_sem] theorem tAgg24 : tAgg Try.prog 24 = some false := by kernel_rfl
@[go_sem] theorem tBytes24 : tBytes Try.prog 24 = some 8 := by kernel_rfl
@[go_sem] theorem tZero24 : tZero Try.prog 24 = some (.int .u64 0) := by kernel_rfl
@[go_sem] theorem tSize23 : tSize Try.prog 23 = some 32 := by kernel_rfl
@[go_sem] theorem tAgg23 : tAgg Try.prog 23 = some true := by kernel_rfl
@[go_sem] theorem tBytes23 : tBytes Try.prog 23 = some 32 := by kernel_rfl
@[go_sem] theorem tZero23 : tZero Try.prog 23 = some (.root zroot) := by kernel_rfl
@[go_sem] theorem tArr23 : tArr Try.prog 23 = some (32, 5) := by kernel_rfl
@[go_sem] theorem tSize31 : tSize Try.prog 31 = some 1 := by kernel_rfl
@[go_sem] theorem tAgg31 : tAgg Try.prog 31 = some false := by kernel_rfl
@[go_sem] theorem tElem31 : tElem Try.prog 31 = some 5 := by kernel_rfl
@[go_sem] theorem tElem48 : tElem Try.prog 48 = some 24 := by kernel_rfl
@[go_sem] theorem tElem94 : tElem Try.prog 94 = some 23 := by kernel_rfl
@[go_sem] theorem tSize3 : tSize Try.prog 3 = some 1 := by kernel_rfl
@[go_sem] theorem tAgg3 : tAgg Try.prog 3 = some false := by kernel_rfl
theorem tField68_0 : tFieldI Try.prog 68 0 = some (0, 1, false) := by kernel_rfl
@[go_sem] theorem fap68_0 (o : Nat) (p : List Nat) (off : Nat) (K : AV → Prop) : fieldAddrK Try.prog 68 (.ptr o p off) 0 K = K (.ptr o (p ++ [0]) (off + 0)) := fieldAddr_ptr tField68_0 (by decide) o p off K
theorem tField75_0 : tFieldI Try.prog 75 0 = some (0, 1, false) := by kernel_rfl
@[go_sem] theorem fap75_0 (o : Nat) (p : List Nat) (off : Nat) (K : AV → Prop) : fieldAddrK Try.prog 75 (.ptr o p off) 0 K = K (.ptr o (p ++ [0]) (off + 0)) := fieldAddr_ptr tField75_0 (by decide) o p off K
@[go_sem] theorem tZero68 : tZero Try.prog 68 = some (.st [.sl [] true]) := by kernel_rfl
@[go_sem] theorem tZero75 : tZero Try.prog 75 = some (.st [.sl [] true]) := by kernel_rfl
@[go_sem] theorem build68_sl (xs : List AV) (c : Bool) (K : AV → Prop) : buildK Try.prog 68 [(0, .sl xs c)] K = K (.st [.sl xs c]) := build_struct Try.underlying68 tZero68 rfl (by kernel_rfl) rfl K
@[go_sem] theorem build75_sl (xs : List AV) (c : Bool) (K : AV → Prop) : buildK Try.prog 75 [(0, .sl xs c)] K = K (.st [.sl xs c]) := build_struct Try.underlying75 tZero75 rfl (by kernel_rfl) rfl K
@[go_sem] theorem conv24_5 (hp : HP) (n : Int) (K : AV → Prop) : convK Try.prog 24 5 hp (.int .u64 n) K = K (.int .u8 (IntKind.u8.wrap n)) := by simp only [convK, und24, und5]
@[go_sem] theorem conv5_24 (hp : HP) (n : Int) (K : AV → Prop) : convK Try.prog 5 24 hp (.int .u8 n) K = K (.int .u64 (IntKind.u64.wrap n)) := by simp only [convK, und24, und5]
@[go_sem] theorem conv3_5 (hp : HP) (n : Int) (K : AV → Prop) : convK Try.prog 3 5 hp (.int .i64 n) K = K (.int .u8 (IntKind.u8.wrap n)) := by simp only [convK, und3, und5]
@[go_sem] theorem conv5_3 (hp : HP) (n : Int) (K : AV → Prop) : convK Try.prog 5 3 hp (.int .u8 n) K = K (.int .i64 (IntKind.i64.wrap n)) := by simp only [convK, und3, und5]

def bav (b : UInt8) : AV := .int .u8 b.toNat
@[go_sem] theorem bav_len (b : UInt8) : (bav b).len = 1 := rfl
@[go_sem] theorem bav_agg (b : UInt8) : (bav b).agg = false := rfl
@[go_sem] theorem bav_ok (b : UInt8) : (bav b).ok = true := rfl
@[go_sem] theorem bav_idf (b : UInt8) : (bav b).idf = true := rfl
def bytes (l : List UInt8) : AV := .sl (l.map bav) false
@[go_sem] theorem bytes_idL (l : List UInt8) : (bytes l).idL = [] := rfl
@[go_sem] theorem bytes_frz (hp : HP) (l : List UInt8) : (bytes l).frz hp = bytes l := rfl
@[go_sem] theorem bytes_flat (l : List UInt8) : (bytes l).flat = false := rfl
@[go_sem] theorem bytes_ok (l : List UInt8) : (bytes l).ok = true := rfl
@[go_sem] theorem bytes_idf (l : List UInt8) : (bytes l).idf = true := rfl
theorem sliceK_hi {P : Program} {t e : TypeId} {xs : List AV} {clip : Bool} {k : Nat} {K : AV → Prop} (he : tElem P t = some e) (hz : (tSize P e).isSome = true) (hs : ∀ y ∈ xs, tSize P e = some y.len) (hk : k ≤ xs.length)
    (h : K (.sl (xs.take k) (clip && decide (k = xs.length)))) : sliceK P t (.sl xs clip) none (some (.int .i64 k)) none K := by
  simp only [sliceK, he, boundOf, Int.natCast_nonneg, if_true, Int.toNat_natCast, Nat.zero_le, true_and, List.drop_zero]
  exact ⟨hk, hz, hs, h⟩
theorem sliceK_lo {P : Program} {t e : TypeId} {xs : List AV} {clip : Bool} {k : Nat} {K : AV → Prop} (he : tElem P t = some e) (hz : (tSize P e).isSome = true) (hs : ∀ y ∈ xs, tSize P e = some y.len) (hk : k ≤ xs.length)
    (h : K (.sl (xs.drop k) clip)) : sliceK P t (.sl xs clip) (some (.int .i64 k)) none none K := by
  simp only [sliceK, he, boundOf, Int.natCast_nonneg, if_true, Int.toNat_natCast, List.take_length, decide_true, Bool.and_true]
  exact ⟨hk, Nat.le_refl _, hz, hs, h⟩
theorem size_bav (l : List UInt8) : ∀ y ∈ l.map bav, tSize Try.prog 5 = some y.len := fun y hy => by
  obtain ⟨b, _, rfl⟩ := List.mem_map.1 hy
  exact tSize5
theorem slice_hi31 {l : List UInt8} {k : Nat} {n : Int} {K : AV → Prop} (hn : n = (k : Int)) (hk : k ≤ l.length) (h : K (.sl ((l.take k).map bav) false)) : sliceK Try.prog 31 (.sl (l.map bav) false) none (some (.int .i64 n)) none K := by
  subst hn
  refine sliceK_hi tElem31 (by rw [tSize5]; rfl) (size_bav l) (by simpa using hk) ?_
  rw [Bool.false_and, ← List.map_take]; exact h
theorem slice_lo31 {l : List UInt8} {k : Nat} {n : Int} {K : AV → Prop} (hn : n = (k : Int)) (hk : k ≤ l.length) (h : K (.sl ((l.drop k).map bav) false)) : sliceK Try.prog 31 (.sl (l.map bav) false) (some (.int .i64 n)) none none K := by
  subst hn
  refine sliceK_lo tElem31 (by rw [tSize5]; rfl) (size_bav l) (by simpa using hk) ?_
  rw [← List.map_drop]; exact h
theorem lens_bav (l : List UInt8) : ∀ z ∈ l.map bav, z.len = 1 := fun z hz => by
  obtain ⟨a, _, rfl⟩ := List.mem_map.1 hz
  rfl

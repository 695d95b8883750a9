/- The types of layers 12, 17 and 18. -/
import Derived.Test.YtgnidooihignfaaGreatDoorP4
import Derived.Test.YtgnidooihignfaaGreatDoorP3
set_option linter.unusedSimpArgs false
set_option maxRecDepth 10000
namespace Go.Proofs.YtgnidooihignfaaGreatDoor
open Go Go.Ab
theorem bool_beq_dec (a b : Bool) : (a == b) = decide (a = b) := by cases a <;> cases b <;> rfl
structure Latest where
 has : Bool
 root : Root
 epoch : Int
 deriving DecidableEq
def Latest.av (a : Latest) : AV := .st [.bool a.has, .root a.root, .int .u64 a.epoch]
@[go_sem] theorem Latest.av_flat (a : Latest) : a.av.flat = true := rfl
@[go_sem] theorem Latest.av_len (a : Latest) : a.av.len = 34 := rfl
@[go_sem] theorem Latest.av_agg (a : Latest) : a.av.agg = true := rfl
@[go_sem] theorem Latest.av_idf (a : Latest) : a.av.idf = true := rfl
@[go_sem] theorem Latest.av_ok (a : Latest) : a.av.ok = true := rfl
@[go_sem] theorem Latest.av_frz (hp : HP) (a : Latest) : a.av.frz hp = a.av := rfl
@[go_sem] theorem Latest.av_idL (a : Latest) : a.av.idL = [] := rfl
@[go_sem] theorem Latest.av_ren (ρ : Nat → Nat) (a : Latest) : a.av.ren ρ = a.av := rfl
theorem stField155_0 : tFieldI Tryz.prog 146 0 = some (0, 1, false) := by kernel_rfl
@[go_sem] theorem sfap155_0 (o : Nat) (p : List Nat) (off : Nat) (K : AV → Prop) : fieldAddrK Tryz.prog 146 (.ptr o p off) 0 K = K (.ptr o (p ++ [0]) (off + 0)) := fieldAddr_ptr stField155_0 (by decide) o p off K
@[go_sem] theorem sfar155_0 (a : Latest) (K : AV → Prop) : fieldAddrK Tryz.prog 146 (.ref a.av) 0 K = K (.ref (.bool a.has)) := fieldAddr_ref stField155_0 (by decide) rfl rfl K
@[go_sem] theorem ssub155_0 (a : Latest) : a.av.sub [0] = some (.bool a.has) := rfl
@[go_sem] theorem soffs155_0 (a : Latest) : a.av.offs [0] = some 0 := rfl
@[go_sem] theorem supd155_0 (a : Latest) (x : Bool) : a.av.upd [0] (.bool x) = some ({ a with has := x } : Latest).av := rfl
theorem stField155_1 : tFieldI Tryz.prog 146 1 = some (1, 32, true) := by kernel_rfl
@[go_sem] theorem sfap155_1 (o : Nat) (p : List Nat) (off : Nat) (K : AV → Prop) : fieldAddrK Tryz.prog 146 (.ptr o p off) 1 K = K (.ptr o (p ++ [1]) (off + 1)) := fieldAddr_ptr stField155_1 (by decide) o p off K
@[go_sem] theorem sfar155_1 (a : Latest) (K : AV → Prop) : fieldAddrK Tryz.prog 146 (.ref a.av) 1 K = K (.ref (.root a.root)) := fieldAddr_ref stField155_1 (by decide) rfl rfl K
@[go_sem] theorem ssub155_1 (a : Latest) : a.av.sub [1] = some (.root a.root) := rfl
@[go_sem] theorem soffs155_1 (a : Latest) : a.av.offs [1] = some 1 := rfl
@[go_sem] theorem supd155_1 (a : Latest) (x : Root) : a.av.upd [1] (.root x) = some ({ a with root := x } : Latest).av := rfl
theorem stField155_2 : tFieldI Tryz.prog 146 2 = some (33, 1, false) := by kernel_rfl
@[go_sem] theorem sfap155_2 (o : Nat) (p : List Nat) (off : Nat) (K : AV → Prop) : fieldAddrK Tryz.prog 146 (.ptr o p off) 2 K = K (.ptr o (p ++ [2]) (off + 33)) := fieldAddr_ptr stField155_2 (by decide) o p off K
@[go_sem] theorem sfar155_2 (a : Latest) (K : AV → Prop) : fieldAddrK Tryz.prog 146 (.ref a.av) 2 K = K (.ref (.int .u64 a.epoch)) := fieldAddr_ref stField155_2 (by decide) rfl rfl K
@[go_sem] theorem ssub155_2 (a : Latest) : a.av.sub [2] = some (.int .u64 a.epoch) := rfl
@[go_sem] theorem soffs155_2 (a : Latest) : a.av.offs [2] = some 33 := rfl
@[go_sem] theorem supd155_2 (a : Latest) (x : Int) : a.av.upd [2] (.int .u64 x) = some ({ a with epoch := x } : Latest).av := rfl
@[go_sem] theorem stSize155 : tSize Tryz.prog 146 = some 34 ∧ tAgg Tryz.prog 146 = some true := by and_intros <;> kernel_rfl
def zLatest : Latest := ⟨false, zroot, 0⟩
@[go_sem] theorem stZero155 : tZero Tryz.prog 146 = some zLatest.av := by kernel_rfl
theorem Latest.eqb (a b : Latest) : a.av.eqb b.av = decide (a = b) := by
 cases a; cases b
 simp only [Latest.av, AV.eqb, AV.eqbL, int_beq, Latest.mk.injEq, Bool.decide_and, Bool.and_true, bool_beq_dec]
theorem sfits155 (a : Latest) : fits Tryz.prog a.av 146 = true := by kernel_rfl
theorem sdepth155 (a : Latest) : a.av.depth ≤ 9999 := Nat.le_of_ble_eq_true rfl
@[go_sem] theorem seql155 (a b : Latest) (K : AV → Prop) : binK Tryz.prog .eql 146 a.av b.av K = K (.bool (decide (a = b))) :=
  bin_eql_of (fun _ _ h => by cases h) (fun _ h => by cases h) (sfits155 a) (sfits155 b) (sdepth155 a) kR (Latest.eqb a b) K
@[go_sem] theorem sneq155 (a b : Latest) (K : AV → Prop) : binK Tryz.prog .neq 146 a.av b.av K = K (.bool !(decide (a = b))) :=
  bin_neq_of (fun _ _ h => by cases h) (fun _ h => by cases h) (sfits155 a) (sfits155 b) (sdepth155 a) kR (Latest.eqb a b) K
@[go_sem] theorem sbuild155_all (has : Bool) (root : Root) (epoch : Int) (K : AV → Prop) : buildK Tryz.prog 146 [(0, .bool has), (1, .root root), (2, .int .u64 epoch)] K = K (Latest.mk has root epoch).av := build_struct Tryz.underlying146 stZero155 rfl kR rfl K
structure Block where
 root : Root
 parent : Root
 slot : Int
 just : Int
 deriving DecidableEq
def Block.av (a : Block) : AV := .st [.root a.root, .root a.parent, .int .u64 a.slot, .int .u64 a.just]
@[go_sem] theorem Block.av_flat (a : Block) : a.av.flat = true := rfl
@[go_sem] theorem Block.av_len (a : Block) : a.av.len = 66 := rfl
@[go_sem] theorem Block.av_agg (a : Block) : a.av.agg = true := rfl
@[go_sem] theorem Block.av_idf (a : Block) : a.av.idf = true := rfl
@[go_sem] theorem Block.av_ok (a : Block) : a.av.ok = true := rfl
@[go_sem] theorem Block.av_frz (hp : HP) (a : Block) : a.av.frz hp = a.av := rfl
@[go_sem] theorem Block.av_idL (a : Block) : a.av.idL = [] := rfl
@[go_sem] theorem Block.av_ren (ρ : Nat → Nat) (a : Block) : a.av.ren ρ = a.av := rfl
theorem stField68_0 : tFieldI Tryz.prog 58 0 = some (0, 32, true) := by kernel_rfl
@[go_sem] theorem sfap68_0 (o : Nat) (p : List Nat) (off : Nat) (K : AV → Prop) : fieldAddrK Tryz.prog 58 (.ptr o p off) 0 K = K (.ptr o (p ++ [0]) (off + 0)) := fieldAddr_ptr stField68_0 (by decide) o p off K
@[go_sem] theorem sfar68_0 (a : Block) (K : AV → Prop) : fieldAddrK Tryz.prog 58 (.ref a.av) 0 K = K (.ref (.root a.root)) := fieldAddr_ref stField68_0 (by decide) rfl rfl K
@[go_sem] theorem ssub68_0 (a : Block) : a.av.sub [0] = some (.root a.root) := rfl
@[go_sem] theorem soffs68_0 (a : Block) : a.av.offs [0] = some 0 := rfl
@[go_sem] theorem supd68_0 (a : Block) (x : Root) : a.av.upd [0] (.root x) = some ({ a with root := x } : Block).av := rfl
theorem stField68_1 : tFieldI Tryz.prog 58 1 = some (32, 32, true) := by kernel_rfl
@[go_sem] theorem sfap68_1 (o : Nat) (p : List Nat) (off : Nat) (K : AV → Prop) : fieldAddrK Tryz.prog 58 (.ptr o p off) 1 K = K (.ptr o (p ++ [1]) (off + 32)) := fieldAddr_ptr stField68_1 (by decide) o p off K
@[go_sem] theorem sfar68_1 (a : Block) (K : AV → Prop) : fieldAddrK Tryz.prog 58 (.ref a.av) 1 K = K (.ref (.root a.parent)) := fieldAddr_ref stField68_1 (by decide) rfl rfl K
@[go_sem] theorem ssub68_1 (a : Block) : a.av.sub [1] = some (.root a.parent) := rfl
@[go_sem] theorem soffs68_1 (a : Block) : a.av.offs [1] = some 32 := rfl
@[go_sem] theorem supd68_1 (a : Block) (x : Root) : a.av.upd [1] (.root x) = some ({ a with parent := x } : Block).av := rfl
theorem stField68_2 : tFieldI Tryz.prog 58 2 = some (64, 1, false) := by kernel_rfl
@[go_sem] theorem sfap68_2 (o : Nat) (p : List Nat) (off : Nat) (K : AV → Prop) : fieldAddrK Tryz.prog 58 (.ptr o p off) 2 K = K (.ptr o (p ++ [2]) (off + 64)) := fieldAddr_ptr stField68_2 (by decide) o p off K
@[go_sem] theorem sfar68_2 (a : Block) (K : AV → Prop) : fieldAddrK Tryz.prog 58 (.ref a.av) 2 K = K (.ref (.int .u64 a.slot)) := fieldAddr_ref stField68_2 (by decide) rfl rfl K
@[go_sem] theorem ssub68_2 (a : Block) : a.av.sub [2] = some (.int .u64 a.slot) := rfl
@[go_sem] theorem soffs68_2 (a : Block) : a.av.offs [2] = some 64 := rfl
@[go_sem] theorem supd68_2 (a : Block) (x : Int) : a.av.upd [2] (.int .u64 x) = some ({ a with slot := x } : Block).av := rfl
theorem stField68_3 : tFieldI Tryz.prog 58 3 = some (65, 1, false) := by kernel_rfl
@[go_sem] theorem sfap68_3 (o : Nat) (p : List Nat) (off : Nat) (K : AV → Prop) : fieldAddrK Tryz.prog 58 (.ptr o p off) 3 K = K (.ptr o (p ++ [3]) (off + 65)) := fieldAddr_ptr stField68_3 (by decide) o p off K
@[go_sem] theorem sfar68_3 (a : Block) (K : AV → Prop) : fieldAddrK Tryz.prog 58 (.ref a.av) 3 K = K (.ref (.int .u64 a.just)) := fieldAddr_ref stField68_3 (by decide) rfl rfl K
@[go_sem] theorem ssub68_3 (a : Block) : a.av.sub [3] = some (.int .u64 a.just) := rfl
@[go_sem] theorem soffs68_3 (a : Block) : a.av.offs [3] = some 65 := rfl
@[go_sem] theorem supd68_3 (a : Block) (x : Int) : a.av.upd [3] (.int .u64 x) = some ({ a with just := x } : Block).av := rfl
@[go_sem] theorem stSize68 : tSize Tryz.prog 58 = some 66 ∧ tAgg Tryz.prog 58 = some true := by and_intros <;> kernel_rfl
def zBlock : Block := ⟨zroot, zroot, 0, 0⟩
@[go_sem] theorem stZero68 : tZero Tryz.prog 58 = some zBlock.av := by kernel_rfl
theorem Block.eqb (a b : Block) : a.av.eqb b.av = decide (a = b) := by
 cases a; cases b
 simp only [Block.av, AV.eqb, AV.eqbL, int_beq, Block.mk.injEq, Bool.decide_and, Bool.and_true]
theorem sfits68 (a : Block) : fits Tryz.prog a.av 58 = true := by kernel_rfl
theorem sdepth68 (a : Block) : a.av.depth ≤ 9999 := Nat.le_of_ble_eq_true rfl
@[go_sem] theorem seql68 (a b : Block) (K : AV → Prop) : binK Tryz.prog .eql 58 a.av b.av K = K (.bool (decide (a = b))) :=
  bin_eql_of (fun _ _ h => by cases h) (fun _ h => by cases h) (sfits68 a) (sfits68 b) (sdepth68 a) kR (Block.eqb a b) K
@[go_sem] theorem sneq68 (a b : Block) (K : AV → Prop) : binK Tryz.prog .neq 58 a.av b.av K = K (.bool !(decide (a = b))) :=
  bin_neq_of (fun _ _ h => by cases h) (fun _ h => by cases h) (sfits68 a) (sfits68 b) (sdepth68 a) kR (Block.eqb a b) K
@[go_sem] theorem sbuild68_all (root : Root) (parent : Root) (slot : Int) (just : Int) (K : AV → Prop) : buildK Tryz.prog 58 [(0, .root root), (1, .root parent), (2, .int .u64 slot), (3, .int .u64 just)] K = K (Block.mk root parent slot just).av := build_struct Tryz.underlying58 stZero68 rfl kR rfl K
structure Att where
 val : Int
 slot : Int
 head : Root
 source : Check
 target : Check
 deriving DecidableEq
def Att.av (a : Att) : AV := .st [.int .i64 a.val, .int .u64 a.slot, .root a.head, a.source.av, a.target.av]
@[go_sem] theorem Att.av_flat (a : Att) : a.av.flat = true := rfl
@[go_sem] theorem Att.av_len (a : Att) : a.av.len = 100 := rfl
@[go_sem] theorem Att.av_agg (a : Att) : a.av.agg = true := rfl
@[go_sem] theorem Att.av_idf (a : Att) : a.av.idf = true := rfl
@[go_sem] theorem Att.av_ok (a : Att) : a.av.ok = true := rfl
@[go_sem] theorem Att.av_frz (hp : HP) (a : Att) : a.av.frz hp = a.av := rfl
@[go_sem] theorem Att.av_idL (a : Att) : a.av.idL = [] := rfl
@[go_sem] theorem Att.av_ren (ρ : Nat → Nat) (a : Att) : a.av.ren ρ = a.av := rfl
theorem stField127_0 : tFieldI Tryz.prog 76 0 = some (0, 1, false) := by kernel_rfl
@[go_sem] theorem sfap127_0 (o : Nat) (p : List Nat) (off : Nat) (K : AV → Prop) : fieldAddrK Tryz.prog 76 (.ptr o p off) 0 K = K (.ptr o (p ++ [0]) (off + 0)) := fieldAddr_ptr stField127_0 (by decide) o p off K
@[go_sem] theorem sfar127_0 (a : Att) (K : AV → Prop) : fieldAddrK Tryz.prog 76 (.ref a.av) 0 K = K (.ref (.int .i64 a.val)) := fieldAddr_ref stField127_0 (by decide) rfl rfl K
@[go_sem] theorem ssub127_0 (a : Att) : a.av.sub [0] = some (.int .i64 a.val) := rfl
@[go_sem] theorem soffs127_0 (a : Att) : a.av.offs [0] = some 0 := rfl
@[go_sem] theorem supd127_0 (a : Att) (x : Int) : a.av.upd [0] (.int .i64 x) = some ({ a with val := x } : Att).av := rfl
theorem stField127_1 : tFieldI Tryz.prog 76 1 = some (1, 1, false) := by kernel_rfl
@[go_sem] theorem sfap127_1 (o : Nat) (p : List Nat) (off : Nat) (K : AV → Prop) : fieldAddrK Tryz.prog 76 (.ptr o p off) 1 K = K (.ptr o (p ++ [1]) (off + 1)) := fieldAddr_ptr stField127_1 (by decide) o p off K
@[go_sem] theorem sfar127_1 (a : Att) (K : AV → Prop) : fieldAddrK Tryz.prog 76 (.ref a.av) 1 K = K (.ref (.int .u64 a.slot)) := fieldAddr_ref stField127_1 (by decide) rfl rfl K
@[go_sem] theorem ssub127_1 (a : Att) : a.av.sub [1] = some (.int .u64 a.slot) := rfl
@[go_sem] theorem soffs127_1 (a : Att) : a.av.offs [1] = some 1 := rfl
@[go_sem] theorem supd127_1 (a : Att) (x : Int) : a.av.upd [1] (.int .u64 x) = some ({ a with slot := x } : Att).av := rfl
theorem stField127_2 : tFieldI Tryz.prog 76 2 = some (2, 32, true) := by kernel_rfl
@[go_sem] theorem sfap127_2 (o : Nat) (p : List Nat) (off : Nat) (K : AV → Prop) : fieldAddrK Tryz.prog 76 (.ptr o p off) 2 K = K (.ptr o (p ++ [2]) (off + 2)) := fieldAddr_ptr stField127_2 (by decide) o p off K
@[go_sem] theorem sfar127_2 (a : Att) (K : AV → Prop) : fieldAddrK Tryz.prog 76 (.ref a.av) 2 K = K (.ref (.root a.head)) := fieldAddr_ref stField127_2 (by decide) rfl rfl K
@[go_sem] theorem ssub127_2 (a : Att) : a.av.sub [2] = some (.root a.head) := rfl
@[go_sem] theorem soffs127_2 (a : Att) : a.av.offs [2] = some 2 := rfl
@[go_sem] theorem supd127_2 (a : Att) (x : Root) : a.av.upd [2] (.root x) = some ({ a with head := x } : Att).av := rfl
theorem stField127_3 : tFieldI Tryz.prog 76 3 = some (34, 33, true) := by kernel_rfl
@[go_sem] theorem sfap127_3 (o : Nat) (p : List Nat) (off : Nat) (K : AV → Prop) : fieldAddrK Tryz.prog 76 (.ptr o p off) 3 K = K (.ptr o (p ++ [3]) (off + 34)) := fieldAddr_ptr stField127_3 (by decide) o p off K
@[go_sem] theorem sfar127_3 (a : Att) (K : AV → Prop) : fieldAddrK Tryz.prog 76 (.ref a.av) 3 K = K (.ref (a.source.av)) := fieldAddr_ref stField127_3 (by decide) rfl rfl K
@[go_sem] theorem ssub127_3 (a : Att) : a.av.sub [3] = some (a.source.av) := rfl
@[go_sem] theorem soffs127_3 (a : Att) : a.av.offs [3] = some 34 := rfl
@[go_sem] theorem supd127_3 (a : Att) (x : Check) : a.av.upd [3] (x.av) = some ({ a with source := x } : Att).av := rfl
@[go_sem] theorem ssub127_3_0 (a : Att) : a.av.sub [3, 0] = some (.int .u64 a.source.epoch) := rfl
@[go_sem] theorem soffs127_3_0 (a : Att) : a.av.offs [3, 0] = some 34 := rfl
@[go_sem] theorem ssub127_3_1 (a : Att) : a.av.sub [3, 1] = some (.root a.source.root) := rfl
@[go_sem] theorem soffs127_3_1 (a : Att) : a.av.offs [3, 1] = some 35 := rfl
theorem stField127_4 : tFieldI Tryz.prog 76 4 = some (67, 33, true) := by kernel_rfl
@[go_sem] theorem sfap127_4 (o : Nat) (p : List Nat) (off : Nat) (K : AV → Prop) : fieldAddrK Tryz.prog 76 (.ptr o p off) 4 K = K (.ptr o (p ++ [4]) (off + 67)) := fieldAddr_ptr stField127_4 (by decide) o p off K
@[go_sem] theorem sfar127_4 (a : Att) (K : AV → Prop) : fieldAddrK Tryz.prog 76 (.ref a.av) 4 K = K (.ref (a.target.av)) := fieldAddr_ref stField127_4 (by decide) rfl rfl K
@[go_sem] theorem ssub127_4 (a : Att) : a.av.sub [4] = some (a.target.av) := rfl
@[go_sem] theorem soffs127_4 (a : Att) : a.av.offs [4] = some 67 := rfl
@[go_sem] theorem supd127_4 (a : Att) (x : Check) : a.av.upd [4] (x.av) = some ({ a with target := x } : Att).av := rfl
@[go_sem] theorem ssub127_4_0 (a : Att) : a.av.sub [4, 0] = some (.int .u64 a.target.epoch) := rfl
@[go_sem] theorem soffs127_4_0 (a : Att) : a.av.offs [4, 0] = some 67 := rfl
@[go_sem] theorem ssub127_4_1 (a : Att) : a.av.sub [4, 1] = some (.root a.target.root) := rfl
@[go_sem] theorem soffs127_4_1 (a : Att) : a.av.offs [4, 1] = some 68 := rfl
@[go_sem] theorem stSize127 : tSize Tryz.prog 76 = some 100 ∧ tAgg Tryz.prog 76 = some true := by and_intros <;> kernel_rfl
def zAtt : Att := ⟨0, 0, zroot, zCheck, zCheck⟩
@[go_sem] theorem stZero127 : tZero Tryz.prog 76 = some zAtt.av := by kernel_rfl
theorem Att.eqb (a b : Att) : a.av.eqb b.av = decide (a = b) := by
 have h_source := Check.eqb a.source b.source
 have h_target := Check.eqb a.target b.target
 cases a; cases b
 simp only at h_source h_target
 simp only [Att.av, AV.eqb, AV.eqbL, int_beq, h_source, h_target, Att.mk.injEq, Bool.decide_and, Bool.and_true]
theorem sfits127 (a : Att) : fits Tryz.prog a.av 76 = true := by kernel_rfl
theorem sdepth127 (a : Att) : a.av.depth ≤ 9999 := Nat.le_of_ble_eq_true rfl
@[go_sem] theorem seql127 (a b : Att) (K : AV → Prop) : binK Tryz.prog .eql 76 a.av b.av K = K (.bool (decide (a = b))) :=
  bin_eql_of (fun _ _ h => by cases h) (fun _ h => by cases h) (sfits127 a) (sfits127 b) (sdepth127 a) kR (Att.eqb a b) K
@[go_sem] theorem sneq127 (a b : Att) (K : AV → Prop) : binK Tryz.prog .neq 76 a.av b.av K = K (.bool !(decide (a = b))) :=
  bin_neq_of (fun _ _ h => by cases h) (fun _ h => by cases h) (sfits127 a) (sfits127 b) (sdepth127 a) kR (Att.eqb a b) K
@[go_sem] theorem sbuild127_all (val : Int) (slot : Int) (head : Root) (source : Check) (target : Check) (K : AV → Prop) : buildK Tryz.prog 76 [(0, .int .i64 val), (1, .int .u64 slot), (2, .root head), (3, source.av), (4, target.av)] K = K (Att.mk val slot head source target).av := build_struct Tryz.underlying76 stZero127 rfl kR rfl K
structure Resp where
 e : Int
 r : Root
 is : Bool
 c : Check
 deriving DecidableEq
def Resp.av (a : Resp) : AV := .st [.int .i64 a.e, .root a.r, .bool a.is, a.c.av]
@[go_sem] theorem Resp.av_flat (a : Resp) : a.av.flat = true := rfl
@[go_sem] theorem Resp.av_len (a : Resp) : a.av.len = 67 := rfl
@[go_sem] theorem Resp.av_agg (a : Resp) : a.av.agg = true := rfl
@[go_sem] theorem Resp.av_idf (a : Resp) : a.av.idf = true := rfl
@[go_sem] theorem Resp.av_ok (a : Resp) : a.av.ok = true := rfl
@[go_sem] theorem Resp.av_frz (hp : HP) (a : Resp) : a.av.frz hp = a.av := rfl
@[go_sem] theorem Resp.av_idL (a : Resp) : a.av.idL = [] := rfl
@[go_sem] theorem Resp.av_ren (ρ : Nat → Nat) (a : Resp) : a.av.ren ρ = a.av := rfl
theorem stField51_0 : tFieldI Tryz.prog 51 0 = some (0, 1, false) := by kernel_rfl
@[go_sem] theorem sfap51_0 (o : Nat) (p : List Nat) (off : Nat) (K : AV → Prop) : fieldAddrK Tryz.prog 51 (.ptr o p off) 0 K = K (.ptr o (p ++ [0]) (off + 0)) := fieldAddr_ptr stField51_0 (by decide) o p off K
@[go_sem] theorem sfar51_0 (a : Resp) (K : AV → Prop) : fieldAddrK Tryz.prog 51 (.ref a.av) 0 K = K (.ref (.int .i64 a.e)) := fieldAddr_ref stField51_0 (by decide) rfl rfl K
@[go_sem] theorem ssub51_0 (a : Resp) : a.av.sub [0] = some (.int .i64 a.e) := rfl
@[go_sem] theorem soffs51_0 (a : Resp) : a.av.offs [0] = some 0 := rfl
@[go_sem] theorem supd51_0 (a : Resp) (x : Int) : a.av.upd [0] (.int .i64 x) = some ({ a with e := x } : Resp).av := rfl
theorem stField51_1 : tFieldI Tryz.prog 51 1 = some (1, 32, true) := by kernel_rfl
@[go_sem] theorem sfap51_1 (o : Nat) (p : List Nat) (off : Nat) (K : AV → Prop) : fieldAddrK Tryz.prog 51 (.ptr o p off) 1 K = K (.ptr o (p ++ [1]) (off + 1)) := fieldAddr_ptr stField51_1 (by decide) o p off K
@[go_sem] theorem sfar51_1 (a : Resp) (K : AV → Prop) : fieldAddrK Tryz.prog 51 (.ref a.av) 1 K = K (.ref (.root a.r)) := fieldAddr_ref stField51_1 (by decide) rfl rfl K
@[go_sem] theorem ssub51_1 (a : Resp) : a.av.sub [1] = some (.root a.r) := rfl
@[go_sem] theorem soffs51_1 (a : Resp) : a.av.offs [1] = some 1 := rfl
@[go_sem] theorem supd51_1 (a : Resp) (x : Root) : a.av.upd [1] (.root x) = some ({ a with r := x } : Resp).av := rfl
theorem stField51_2 : tFieldI Tryz.prog 51 2 = some (33, 1, false) := by kernel_rfl
@[go_sem] theorem sfap51_2 (o : Nat) (p : List Nat) (off : Nat) (K : AV → Prop) : fieldAddrK Tryz.prog 51 (.ptr o p off) 2 K = K (.ptr o (p ++ [2]) (off + 33)) := fieldAddr_ptr stField51_2 (by decide) o p off K
@[go_sem] theorem sfar51_2 (a : Resp) (K : AV → Prop) : fieldAddrK Tryz.prog 51 (.ref a.av) 2 K = K (.ref (.bool a.is)) := fieldAddr_ref stField51_2 (by decide) rfl rfl K
@[go_sem] theorem ssub51_2 (a : Resp) : a.av.sub [2] = some (.bool a.is) := rfl
@[go_sem] theorem soffs51_2 (a : Resp) : a.av.offs [2] = some 33 := rfl
@[go_sem] theorem supd51_2 (a : Resp) (x : Bool) : a.av.upd [2] (.bool x) = some ({ a with is := x } : Resp).av := rfl
theorem stField51_3 : tFieldI Tryz.prog 51 3 = some (34, 33, true) := by kernel_rfl
@[go_sem] theorem sfap51_3 (o : Nat) (p : List Nat) (off : Nat) (K : AV → Prop) : fieldAddrK Tryz.prog 51 (.ptr o p off) 3 K = K (.ptr o (p ++ [3]) (off + 34)) := fieldAddr_ptr stField51_3 (by decide) o p off K
@[go_sem] theorem sfar51_3 (a : Resp) (K : AV → Prop) : fieldAddrK Tryz.prog 51 (.ref a.av) 3 K = K (.ref (a.c.av)) := fieldAddr_ref stField51_3 (by decide) rfl rfl K
@[go_sem] theorem ssub51_3 (a : Resp) : a.av.sub [3] = some (a.c.av) := rfl
@[go_sem] theorem soffs51_3 (a : Resp) : a.av.offs [3] = some 34 := rfl
@[go_sem] theorem supd51_3 (a : Resp) (x : Check) : a.av.upd [3] (x.av) = some ({ a with c := x } : Resp).av := rfl
@[go_sem] theorem ssub51_3_0 (a : Resp) : a.av.sub [3, 0] = some (.int .u64 a.c.epoch) := rfl
@[go_sem] theorem soffs51_3_0 (a : Resp) : a.av.offs [3, 0] = some 34 := rfl
@[go_sem] theorem ssub51_3_1 (a : Resp) : a.av.sub [3, 1] = some (.root a.c.root) := rfl
@[go_sem] theorem soffs51_3_1 (a : Resp) : a.av.offs [3, 1] = some 35 := rfl
@[go_sem] theorem stSize51 : tSize Tryz.prog 51 = some 67 ∧ tAgg Tryz.prog 51 = some true := by and_intros <;> kernel_rfl
def zResp : Resp := ⟨0, zroot, false, zCheck⟩
@[go_sem] theorem stZero51 : tZero Tryz.prog 51 = some zResp.av := by kernel_rfl
theorem Resp.eqb (a b : Resp) : a.av.eqb b.av = decide (a = b) := by
 have h_c := Check.eqb a.c b.c
 cases a; cases b
 simp only at h_c
 simp only [Resp.av, AV.eqb, AV.eqbL, int_beq, h_c, Resp.mk.injEq, Bool.decide_and, Bool.and_true, bool_beq_dec]
theorem sfits51 (a : Resp) : fits Tryz.prog a.av 51 = true := by kernel_rfl
theorem sdepth51 (a : Resp) : a.av.depth ≤ 9999 := Nat.le_of_ble_eq_true rfl
@[go_sem] theorem seql51 (a b : Resp) (K : AV → Prop) : binK Tryz.prog .eql 51 a.av b.av K = K (.bool (decide (a = b))) :=
  bin_eql_of (fun _ _ h => by cases h) (fun _ h => by cases h) (sfits51 a) (sfits51 b) (sdepth51 a) kR (Resp.eqb a b) K
@[go_sem] theorem sneq51 (a b : Resp) (K : AV → Prop) : binK Tryz.prog .neq 51 a.av b.av K = K (.bool !(decide (a = b))) :=
  bin_neq_of (fun _ _ h => by cases h) (fun _ h => by cases h) (sfits51 a) (sfits51 b) (sdepth51 a) kR (Resp.eqb a b) K
@[go_sem] theorem sbuild51_all (e : Int) (r : Root) (is : Bool) (c : Check) (K : AV → Prop) : buildK Tryz.prog 51 [(0, .int .i64 e), (1, .root r), (2, .bool is), (3, c.av)] K = K (Resp.mk e r is c).av := build_struct Tryz.underlying51 stZero51 rfl kR rfl K
structure Note where
 ver : Int
 head : Root
 fin : Check
 deriving DecidableEq
def Note.av (a : Note) : AV := .st [.int .i64 a.ver, .root a.head, a.fin.av]
@[go_sem] theorem Note.av_flat (a : Note) : a.av.flat = true := rfl
@[go_sem] theorem Note.av_len (a : Note) : a.av.len = 66 := rfl
@[go_sem] theorem Note.av_agg (a : Note) : a.av.agg = true := rfl
@[go_sem] theorem Note.av_idf (a : Note) : a.av.idf = true := rfl
@[go_sem] theorem Note.av_ok (a : Note) : a.av.ok = true := rfl
@[go_sem] theorem Note.av_frz (hp : HP) (a : Note) : a.av.frz hp = a.av := rfl
@[go_sem] theorem Note.av_idL (a : Note) : a.av.idL = [] := rfl
@[go_sem] theorem Note.av_ren (ρ : Nat → Nat) (a : Note) : a.av.ren ρ = a.av := rfl
theorem stField54_0 : tFieldI Tryz.prog 54 0 = some (0, 1, false) := by kernel_rfl
@[go_sem] theorem sfap54_0 (o : Nat) (p : List Nat) (off : Nat) (K : AV → Prop) : fieldAddrK Tryz.prog 54 (.ptr o p off) 0 K = K (.ptr o (p ++ [0]) (off + 0)) := fieldAddr_ptr stField54_0 (by decide) o p off K
@[go_sem] theorem sfar54_0 (a : Note) (K : AV → Prop) : fieldAddrK Tryz.prog 54 (.ref a.av) 0 K = K (.ref (.int .i64 a.ver)) := fieldAddr_ref stField54_0 (by decide) rfl rfl K
@[go_sem] theorem ssub54_0 (a : Note) : a.av.sub [0] = some (.int .i64 a.ver) := rfl
@[go_sem] theorem soffs54_0 (a : Note) : a.av.offs [0] = some 0 := rfl
@[go_sem] theorem supd54_0 (a : Note) (x : Int) : a.av.upd [0] (.int .i64 x) = some ({ a with ver := x } : Note).av := rfl
theorem stField54_1 : tFieldI Tryz.prog 54 1 = some (1, 32, true) := by kernel_rfl
@[go_sem] theorem sfap54_1 (o : Nat) (p : List Nat) (off : Nat) (K : AV → Prop) : fieldAddrK Tryz.prog 54 (.ptr o p off) 1 K = K (.ptr o (p ++ [1]) (off + 1)) := fieldAddr_ptr stField54_1 (by decide) o p off K
@[go_sem] theorem sfar54_1 (a : Note) (K : AV → Prop) : fieldAddrK Tryz.prog 54 (.ref a.av) 1 K = K (.ref (.root a.head)) := fieldAddr_ref stField54_1 (by decide) rfl rfl K
@[go_sem] theorem ssub54_1 (a : Note) : a.av.sub [1] = some (.root a.head) := rfl
@[go_sem] theorem soffs54_1 (a : Note) : a.av.offs [1] = some 1 := rfl
@[go_sem] theorem supd54_1 (a : Note) (x : Root) : a.av.upd [1] (.root x) = some ({ a with head := x } : Note).av := rfl
theorem stField54_2 : tFieldI Tryz.prog 54 2 = some (33, 33, true) := by kernel_rfl
@[go_sem] theorem sfap54_2 (o : Nat) (p : List Nat) (off : Nat) (K : AV → Prop) : fieldAddrK Tryz.prog 54 (.ptr o p off) 2 K = K (.ptr o (p ++ [2]) (off + 33)) := fieldAddr_ptr stField54_2 (by decide) o p off K
@[go_sem] theorem sfar54_2 (a : Note) (K : AV → Prop) : fieldAddrK Tryz.prog 54 (.ref a.av) 2 K = K (.ref (a.fin.av)) := fieldAddr_ref stField54_2 (by decide) rfl rfl K
@[go_sem] theorem ssub54_2 (a : Note) : a.av.sub [2] = some (a.fin.av) := rfl
@[go_sem] theorem soffs54_2 (a : Note) : a.av.offs [2] = some 33 := rfl
@[go_sem] theorem supd54_2 (a : Note) (x : Check) : a.av.upd [2] (x.av) = some ({ a with fin := x } : Note).av := rfl
@[go_sem] theorem ssub54_2_0 (a : Note) : a.av.sub [2, 0] = some (.int .u64 a.fin.epoch) := rfl
@[go_sem] theorem soffs54_2_0 (a : Note) : a.av.offs [2, 0] = some 33 := rfl
@[go_sem] theorem ssub54_2_1 (a : Note) : a.av.sub [2, 1] = some (.root a.fin.root) := rfl
@[go_sem] theorem soffs54_2_1 (a : Note) : a.av.offs [2, 1] = some 34 := rfl
@[go_sem] theorem stSize54 : tSize Tryz.prog 54 = some 66 ∧ tAgg Tryz.prog 54 = some true := by and_intros <;> kernel_rfl
def zNote : Note := ⟨0, zroot, zCheck⟩
@[go_sem] theorem stZero54 : tZero Tryz.prog 54 = some zNote.av := by kernel_rfl
theorem Note.eqb (a b : Note) : a.av.eqb b.av = decide (a = b) := by
 have h_fin := Check.eqb a.fin b.fin
 cases a; cases b
 simp only at h_fin
 simp only [Note.av, AV.eqb, AV.eqbL, int_beq, h_fin, Note.mk.injEq, Bool.decide_and, Bool.and_true]
theorem sfits54 (a : Note) : fits Tryz.prog a.av 54 = true := by kernel_rfl
theorem sdepth54 (a : Note) : a.av.depth ≤ 9999 := Nat.le_of_ble_eq_true rfl
@[go_sem] theorem seql54 (a b : Note) (K : AV → Prop) : binK Tryz.prog .eql 54 a.av b.av K = K (.bool (decide (a = b))) :=
  bin_eql_of (fun _ _ h => by cases h) (fun _ h => by cases h) (sfits54 a) (sfits54 b) (sdepth54 a) kR (Note.eqb a b) K
@[go_sem] theorem sneq54 (a b : Note) (K : AV → Prop) : binK Tryz.prog .neq 54 a.av b.av K = K (.bool !(decide (a = b))) :=
  bin_neq_of (fun _ _ h => by cases h) (fun _ h => by cases h) (sfits54 a) (sfits54 b) (sdepth54 a) kR (Note.eqb a b) K
@[go_sem] theorem sbuild54_all (ver : Int) (head : Root) (fin : Check) (K : AV → Prop) : buildK Tryz.prog 54 [(0, .int .i64 ver), (1, .root head), (2, fin.av)] K = K (Note.mk ver head fin).av := build_struct Tryz.underlying54 stZero54 rfl kR rfl K
@[go_sem] theorem stF29_0 : tFieldI Tryz.prog 29 0 = some (0, 1, false) := by kernel_rfl
@[go_sem] theorem sfap29_0 (o : Nat) (p : List Nat) (off : Nat) (K : AV → Prop) : fieldAddrK Tryz.prog 29 (.ptr o p off) 0 K = K (.ptr o (p ++ [0]) (off + 0)) := fieldAddr_ptr stF29_0 (by decide) o p off K
@[go_sem] theorem stF29_1 : tFieldI Tryz.prog 29 1 = some (1, 1, false) := by kernel_rfl
@[go_sem] theorem sfap29_1 (o : Nat) (p : List Nat) (off : Nat) (K : AV → Prop) : fieldAddrK Tryz.prog 29 (.ptr o p off) 1 K = K (.ptr o (p ++ [1]) (off + 1)) := fieldAddr_ptr stF29_1 (by decide) o p off K
@[go_sem] theorem sfa29 (xs : List AV) (i : Nat) (K : AV → Prop) : fieldAddrK Tryz.prog 29 (.ref (.st xs)) i K = faR Tryz.prog 29 xs i K := rfl
@[go_sem] theorem stSize29 : tSize Tryz.prog 29 = some 2 ∧ tAgg Tryz.prog 29 = some true := by and_intros <;> kernel_rfl
@[go_sem] theorem stZero29 : tZero Tryz.prog 29 = some (.st [.sl [] true, .int .u64 0]) := by kernel_rfl
@[go_sem] theorem sbuild29 (ps : List (Nat × AV)) (K : AV → Prop) : buildK Tryz.prog 29 ps K = bsR [.sl [] true, .int .u64 0] ps K := build_structG Tryz.underlying29 stZero29 rfl kR ps K
@[go_sem] theorem stF38_0 : tFieldI Tryz.prog 38 0 = some (0, 1, true) := by kernel_rfl
@[go_sem] theorem sfap38_0 (o : Nat) (p : List Nat) (off : Nat) (K : AV → Prop) : fieldAddrK Tryz.prog 38 (.ptr o p off) 0 K = K (.ptr o (p ++ [0]) (off + 0)) := fieldAddr_ptr stF38_0 (by decide) o p off K
@[go_sem] theorem stF38_1 : tFieldI Tryz.prog 38 1 = some (1, 1, false) := by kernel_rfl
@[go_sem] theorem sfap38_1 (o : Nat) (p : List Nat) (off : Nat) (K : AV → Prop) : fieldAddrK Tryz.prog 38 (.ptr o p off) 1 K = K (.ptr o (p ++ [1]) (off + 1)) := fieldAddr_ptr stF38_1 (by decide) o p off K
@[go_sem] theorem stF38_2 : tFieldI Tryz.prog 38 2 = some (2, 2, true) := by kernel_rfl
@[go_sem] theorem sfap38_2 (o : Nat) (p : List Nat) (off : Nat) (K : AV → Prop) : fieldAddrK Tryz.prog 38 (.ptr o p off) 2 K = K (.ptr o (p ++ [2]) (off + 2)) := fieldAddr_ptr stF38_2 (by decide) o p off K
@[go_sem] theorem stF38_3 : tFieldI Tryz.prog 38 3 = some (4, 1, false) := by kernel_rfl
@[go_sem] theorem sfap38_3 (o : Nat) (p : List Nat) (off : Nat) (K : AV → Prop) : fieldAddrK Tryz.prog 38 (.ptr o p off) 3 K = K (.ptr o (p ++ [3]) (off + 4)) := fieldAddr_ptr stF38_3 (by decide) o p off K
@[go_sem] theorem stF38_4 : tFieldI Tryz.prog 38 4 = some (5, 1, false) := by kernel_rfl
@[go_sem] theorem sfap38_4 (o : Nat) (p : List Nat) (off : Nat) (K : AV → Prop) : fieldAddrK Tryz.prog 38 (.ptr o p off) 4 K = K (.ptr o (p ++ [4]) (off + 5)) := fieldAddr_ptr stF38_4 (by decide) o p off K
@[go_sem] theorem stF38_5 : tFieldI Tryz.prog 38 5 = some (6, 1, false) := by kernel_rfl
@[go_sem] theorem sfap38_5 (o : Nat) (p : List Nat) (off : Nat) (K : AV → Prop) : fieldAddrK Tryz.prog 38 (.ptr o p off) 5 K = K (.ptr o (p ++ [5]) (off + 6)) := fieldAddr_ptr stF38_5 (by decide) o p off K
@[go_sem] theorem stF38_6 : tFieldI Tryz.prog 38 6 = some (7, 1, false) := by kernel_rfl
@[go_sem] theorem sfap38_6 (o : Nat) (p : List Nat) (off : Nat) (K : AV → Prop) : fieldAddrK Tryz.prog 38 (.ptr o p off) 6 K = K (.ptr o (p ++ [6]) (off + 7)) := fieldAddr_ptr stF38_6 (by decide) o p off K
@[go_sem] theorem stF38_7 : tFieldI Tryz.prog 38 7 = some (8, 33, true) := by kernel_rfl
@[go_sem] theorem sfap38_7 (o : Nat) (p : List Nat) (off : Nat) (K : AV → Prop) : fieldAddrK Tryz.prog 38 (.ptr o p off) 7 K = K (.ptr o (p ++ [7]) (off + 8)) := fieldAddr_ptr stF38_7 (by decide) o p off K
@[go_sem] theorem stF38_8 : tFieldI Tryz.prog 38 8 = some (41, 1, false) := by kernel_rfl
@[go_sem] theorem sfap38_8 (o : Nat) (p : List Nat) (off : Nat) (K : AV → Prop) : fieldAddrK Tryz.prog 38 (.ptr o p off) 8 K = K (.ptr o (p ++ [8]) (off + 41)) := fieldAddr_ptr stF38_8 (by decide) o p off K
@[go_sem] theorem sfa38 (xs : List AV) (i : Nat) (K : AV → Prop) : fieldAddrK Tryz.prog 38 (.ref (.st xs)) i K = faR Tryz.prog 38 xs i K := rfl
@[go_sem] theorem stSize38 : tSize Tryz.prog 38 = some 42 ∧ tAgg Tryz.prog 38 = some true := by and_intros <;> kernel_rfl
@[go_sem] theorem stZero38 : tZero Tryz.prog 38 = some (.st [.st [.sl [] true], .sl [] true, .st [.sl [] true, .int .u64 0], .sl [] true, .sl [] true, .sl [] true, .sl [] true, zCheck.av, .int .u64 0]) := by kernel_rfl
@[go_sem] theorem sbuild38 (ps : List (Nat × AV)) (K : AV → Prop) : buildK Tryz.prog 38 ps K = bsR [.st [.sl [] true], .sl [] true, .st [.sl [] true, .int .u64 0], .sl [] true, .sl [] true, .sl [] true, .sl [] true, zCheck.av, .int .u64 0] ps K := build_structG Tryz.underlying38 stZero38 rfl kR ps K
@[go_sem] theorem stF40_0 : tFieldI Tryz.prog 40 0 = some (0, 1, false) := by kernel_rfl
@[go_sem] theorem sfap40_0 (o : Nat) (p : List Nat) (off : Nat) (K : AV → Prop) : fieldAddrK Tryz.prog 40 (.ptr o p off) 0 K = K (.ptr o (p ++ [0]) (off + 0)) := fieldAddr_ptr stF40_0 (by decide) o p off K
@[go_sem] theorem stF40_1 : tFieldI Tryz.prog 40 1 = some (1, 1, true) := by kernel_rfl
@[go_sem] theorem sfap40_1 (o : Nat) (p : List Nat) (off : Nat) (K : AV → Prop) : fieldAddrK Tryz.prog 40 (.ptr o p off) 1 K = K (.ptr o (p ++ [1]) (off + 1)) := fieldAddr_ptr stF40_1 (by decide) o p off K
@[go_sem] theorem stF40_2 : tFieldI Tryz.prog 40 2 = some (2, 32, true) := by kernel_rfl
@[go_sem] theorem sfap40_2 (o : Nat) (p : List Nat) (off : Nat) (K : AV → Prop) : fieldAddrK Tryz.prog 40 (.ptr o p off) 2 K = K (.ptr o (p ++ [2]) (off + 2)) := fieldAddr_ptr stF40_2 (by decide) o p off K
@[go_sem] theorem stF40_3 : tFieldI Tryz.prog 40 3 = some (34, 33, true) := by kernel_rfl
@[go_sem] theorem sfap40_3 (o : Nat) (p : List Nat) (off : Nat) (K : AV → Prop) : fieldAddrK Tryz.prog 40 (.ptr o p off) 3 K = K (.ptr o (p ++ [3]) (off + 34)) := fieldAddr_ptr stF40_3 (by decide) o p off K
@[go_sem] theorem stF40_4 : tFieldI Tryz.prog 40 4 = some (67, 33, true) := by kernel_rfl
@[go_sem] theorem sfap40_4 (o : Nat) (p : List Nat) (off : Nat) (K : AV → Prop) : fieldAddrK Tryz.prog 40 (.ptr o p off) 4 K = K (.ptr o (p ++ [4]) (off + 67)) := fieldAddr_ptr stF40_4 (by decide) o p off K
@[go_sem] theorem sfa40 (xs : List AV) (i : Nat) (K : AV → Prop) : fieldAddrK Tryz.prog 40 (.ref (.st xs)) i K = faR Tryz.prog 40 xs i K := rfl
@[go_sem] theorem stSize40 : tSize Tryz.prog 40 = some 100 ∧ tAgg Tryz.prog 40 = some true := by and_intros <;> kernel_rfl
@[go_sem] theorem stZero40 : tZero Tryz.prog 40 = some (.st [.int .i64 0, .st [.sl [] true], .root zroot, zCheck.av, zCheck.av]) := by kernel_rfl
@[go_sem] theorem sbuild40 (ps : List (Nat × AV)) (K : AV → Prop) : buildK Tryz.prog 40 ps K = bsR [.int .i64 0, .st [.sl [] true], .root zroot, zCheck.av, zCheck.av] ps K := build_structG Tryz.underlying40 stZero40 rfl kR ps K
@[go_sem] theorem stF43_0 : tFieldI Tryz.prog 43 0 = some (0, 1, false) := by kernel_rfl
@[go_sem] theorem sfap43_0 (o : Nat) (p : List Nat) (off : Nat) (K : AV → Prop) : fieldAddrK Tryz.prog 43 (.ptr o p off) 0 K = K (.ptr o (p ++ [0]) (off + 0)) := fieldAddr_ptr stF43_0 (by decide) o p off K
@[go_sem] theorem stF43_1 : tFieldI Tryz.prog 43 1 = some (1, 1, false) := by kernel_rfl
@[go_sem] theorem sfap43_1 (o : Nat) (p : List Nat) (off : Nat) (K : AV → Prop) : fieldAddrK Tryz.prog 43 (.ptr o p off) 1 K = K (.ptr o (p ++ [1]) (off + 1)) := fieldAddr_ptr stF43_1 (by decide) o p off K
@[go_sem] theorem stF43_2 : tFieldI Tryz.prog 43 2 = some (2, 32, true) := by kernel_rfl
@[go_sem] theorem sfap43_2 (o : Nat) (p : List Nat) (off : Nat) (K : AV → Prop) : fieldAddrK Tryz.prog 43 (.ptr o p off) 2 K = K (.ptr o (p ++ [2]) (off + 2)) := fieldAddr_ptr stF43_2 (by decide) o p off K
@[go_sem] theorem stF43_3 : tFieldI Tryz.prog 43 3 = some (34, 32, true) := by kernel_rfl
@[go_sem] theorem sfap43_3 (o : Nat) (p : List Nat) (off : Nat) (K : AV → Prop) : fieldAddrK Tryz.prog 43 (.ptr o p off) 3 K = K (.ptr o (p ++ [3]) (off + 34)) := fieldAddr_ptr stF43_3 (by decide) o p off K
@[go_sem] theorem stF43_4 : tFieldI Tryz.prog 43 4 = some (66, 1, false) := by kernel_rfl
@[go_sem] theorem sfap43_4 (o : Nat) (p : List Nat) (off : Nat) (K : AV → Prop) : fieldAddrK Tryz.prog 43 (.ptr o p off) 4 K = K (.ptr o (p ++ [4]) (off + 66)) := fieldAddr_ptr stF43_4 (by decide) o p off K
@[go_sem] theorem sfa43 (xs : List AV) (i : Nat) (K : AV → Prop) : fieldAddrK Tryz.prog 43 (.ref (.st xs)) i K = faR Tryz.prog 43 xs i K := rfl
@[go_sem] theorem stSize43 : tSize Tryz.prog 43 = some 67 ∧ tAgg Tryz.prog 43 = some true := by and_intros <;> kernel_rfl
@[go_sem] theorem stZero43 : tZero Tryz.prog 43 = some (.st [.int .i64 0, .sl [] true, .root zroot, .root zroot, .int .u64 0]) := by kernel_rfl
@[go_sem] theorem sbuild43 (ps : List (Nat × AV)) (K : AV → Prop) : buildK Tryz.prog 43 ps K = bsR [.int .i64 0, .sl [] true, .root zroot, .root zroot, .int .u64 0] ps K := build_structG Tryz.underlying43 stZero43 rfl kR ps K
@[go_sem] theorem stF129_0 : tFieldI Tryz.prog 112 0 = some (0, 42, true) := by kernel_rfl
@[go_sem] theorem sfap129_0 (o : Nat) (p : List Nat) (off : Nat) (K : AV → Prop) : fieldAddrK Tryz.prog 112 (.ptr o p off) 0 K = K (.ptr o (p ++ [0]) (off + 0)) := fieldAddr_ptr stF129_0 (by decide) o p off K
@[go_sem] theorem stF129_1 : tFieldI Tryz.prog 112 1 = some (42, 66, true) := by kernel_rfl
@[go_sem] theorem sfap129_1 (o : Nat) (p : List Nat) (off : Nat) (K : AV → Prop) : fieldAddrK Tryz.prog 112 (.ptr o p off) 1 K = K (.ptr o (p ++ [1]) (off + 42)) := fieldAddr_ptr stF129_1 (by decide) o p off K
@[go_sem] theorem stF129_2 : tFieldI Tryz.prog 112 2 = some (108, 100, true) := by kernel_rfl
@[go_sem] theorem sfap129_2 (o : Nat) (p : List Nat) (off : Nat) (K : AV → Prop) : fieldAddrK Tryz.prog 112 (.ptr o p off) 2 K = K (.ptr o (p ++ [2]) (off + 108)) := fieldAddr_ptr stF129_2 (by decide) o p off K
@[go_sem] theorem stF129_3 : tFieldI Tryz.prog 112 3 = some (208, 67, true) := by kernel_rfl
@[go_sem] theorem sfap129_3 (o : Nat) (p : List Nat) (off : Nat) (K : AV → Prop) : fieldAddrK Tryz.prog 112 (.ptr o p off) 3 K = K (.ptr o (p ++ [3]) (off + 208)) := fieldAddr_ptr stF129_3 (by decide) o p off K
@[go_sem] theorem sfa129 (xs : List AV) (i : Nat) (K : AV → Prop) : fieldAddrK Tryz.prog 112 (.ref (.st xs)) i K = faR Tryz.prog 112 xs i K := rfl
@[go_sem] theorem stSize129 : tSize Tryz.prog 112 = some 275 ∧ tAgg Tryz.prog 112 = some true := by and_intros <;> kernel_rfl
@[go_sem] theorem stZero129 : tZero Tryz.prog 112 = some (.st [.st [.st [.sl [] true], .sl [] true, .st [.sl [] true, .int .u64 0], .sl [] true, .sl [] true, .sl [] true, .sl [] true, zCheck.av, .int .u64 0], zBlock.av, zAtt.av, .st [.int .i64 0, .sl [] true, .root zroot, .root zroot, .int .u64 0]]) := by kernel_rfl
@[go_sem] theorem sbuild129 (ps : List (Nat × AV)) (K : AV → Prop) : buildK Tryz.prog 112 ps K = bsR [.st [.st [.sl [] true], .sl [] true, .st [.sl [] true, .int .u64 0], .sl [] true, .sl [] true, .sl [] true, .sl [] true, zCheck.av, .int .u64 0], zBlock.av, zAtt.av, .st [.int .i64 0, .sl [] true, .root zroot, .root zroot, .int .u64 0]] ps K := build_structG Tryz.underlying112 stZero129 rfl kR ps K
@[go_sem] theorem stF207_0 : tFieldI Tryz.prog 205 0 = some (0, 1, true) := by kernel_rfl
@[go_sem] theorem sfap207_0 (o : Nat) (p : List Nat) (off : Nat) (K : AV → Prop) : fieldAddrK Tryz.prog 205 (.ptr o p off) 0 K = K (.ptr o (p ++ [0]) (off + 0)) := fieldAddr_ptr stF207_0 (by decide) o p off K
@[go_sem] theorem stF207_1 : tFieldI Tryz.prog 205 1 = some (1, 1, false) := by kernel_rfl
@[go_sem] theorem sfap207_1 (o : Nat) (p : List Nat) (off : Nat) (K : AV → Prop) : fieldAddrK Tryz.prog 205 (.ptr o p off) 1 K = K (.ptr o (p ++ [1]) (off + 1)) := fieldAddr_ptr stF207_1 (by decide) o p off K
@[go_sem] theorem sfa207 (xs : List AV) (i : Nat) (K : AV → Prop) : fieldAddrK Tryz.prog 205 (.ref (.st xs)) i K = faR Tryz.prog 205 xs i K := rfl
@[go_sem] theorem stSize207 : tSize Tryz.prog 205 = some 2 ∧ tAgg Tryz.prog 205 = some true := by and_intros <;> kernel_rfl
@[go_sem] theorem stZero207 : tZero Tryz.prog 205 = some (.st [.st [.sl [] true], .sl [] true]) := by kernel_rfl
@[go_sem] theorem sbuild207 (ps : List (Nat × AV)) (K : AV → Prop) : buildK Tryz.prog 205 ps K = bsR [.st [.sl [] true], .sl [] true] ps K := build_structG Tryz.underlying205 stZero207 rfl kR ps K
@[go_sem] theorem stF243_0 : tFieldI Tryz.prog 263 0 = some (0, 1, false) := by kernel_rfl
@[go_sem] theorem sfap243_0 (o : Nat) (p : List Nat) (off : Nat) (K : AV → Prop) : fieldAddrK Tryz.prog 263 (.ptr o p off) 0 K = K (.ptr o (p ++ [0]) (off + 0)) := fieldAddr_ptr stF243_0 (by decide) o p off K
@[go_sem] theorem stF243_1 : tFieldI Tryz.prog 263 1 = some (1, 1, false) := by kernel_rfl
@[go_sem] theorem sfap243_1 (o : Nat) (p : List Nat) (off : Nat) (K : AV → Prop) : fieldAddrK Tryz.prog 263 (.ptr o p off) 1 K = K (.ptr o (p ++ [1]) (off + 1)) := fieldAddr_ptr stF243_1 (by decide) o p off K
@[go_sem] theorem sfa243 (xs : List AV) (i : Nat) (K : AV → Prop) : fieldAddrK Tryz.prog 263 (.ref (.st xs)) i K = faR Tryz.prog 263 xs i K := rfl
@[go_sem] theorem stSize243 : tSize Tryz.prog 263 = some 2 ∧ tAgg Tryz.prog 263 = some true := by and_intros <;> kernel_rfl
@[go_sem] theorem stZero243 : tZero Tryz.prog 263 = some (.st [.int .u64 0, .int .u64 0]) := by kernel_rfl
@[go_sem] theorem sbuild243 (ps : List (Nat × AV)) (K : AV → Prop) : buildK Tryz.prog 263 ps K = bsR [.int .u64 0, .int .u64 0] ps K := build_structG Tryz.underlying263 stZero243 rfl kR ps K
theorem nclone_c (l : List Node) (hl : l.length ≤ 1000) : CalO Tryz.prog 47 [.sl (l.map Node.av) false] (.ms 0 35 l.length) [(0, .row 35 (l.map Node.av))] := by
 have hR : Tryz.f47.results.toList = [.tmp 2] := rfl
 refine calO_tr Tryz.func47 rfl fun E hE hP => ?_
 refine mr ?_
 refine mSr ?_
 refine mO ?_
 refine ⟨fun hz c => ?_, fun hz => ?_⟩
 · have hz' : l = [] := List.eq_nil_of_length_eq_zero hz
   subst hz'
   refine vc_nil ?_
   refine Tr.cond rfl (fun hc => ?_) (fun hc => ?_)
   · refine mr ?_
     refine Tr.wk (Wk.nil 2 35 rfl) ?_
     refine Tr.ret ?_
     simp only [hR, go_sem, seval]
     exact ⟨fun n => 64 + n, rfl, ⟨⟨rfl, rfl, rfl⟩, trivial⟩, rfl⟩
   · refine mW ?_
     refine Tr.ret ?_
     simp only [hR, go_sem, seval]
     exact ⟨fun n => 80 + n, rfl, ⟨⟨rfl, rfl, rfl⟩, trivial⟩, rfl⟩
 · refine vc_nil ?_
   refine mW ?_
   refine Tr.ret ?_
   simp only [hR, go_sem, seval]
   exact ⟨fun n => 80 + n, rfl, ⟨⟨rfl, rfl, rfl⟩, trivial⟩, rfl⟩
theorem uclone_c (l : List Int) (hl : l.length ≤ 1000) : CalO Tryz.prog 77 [.sl (l.map uav) false] (.ms 0 1 l.length) [(0, .row 1 (l.map uav))] := by
 have hR : Tryz.f77.results.toList = [.tmp 2] := rfl
 refine calO_tr Tryz.func77 rfl fun E hE hP => ?_
 refine mr ?_
 refine mSr ?_
 refine mO ?_
 refine ⟨fun hz c => ?_, fun hz => ?_⟩
 · have hz' : l = [] := List.eq_nil_of_length_eq_zero hz
   subst hz'
   refine vc_nil ?_
   refine Tr.cond rfl (fun hc => ?_) (fun hc => ?_)
   · refine mr ?_
     refine Tr.wk (Wk.nil 2 1 rfl) ?_
     refine Tr.ret ?_
     simp only [hR, go_sem, seval]
     exact ⟨fun n => 64 + n, rfl, ⟨⟨rfl, rfl, rfl⟩, trivial⟩, rfl⟩
   · refine mW ?_
     refine Tr.ret ?_
     simp only [hR, go_sem, seval]
     exact ⟨fun n => 80 + n, rfl, ⟨⟨rfl, rfl, rfl⟩, trivial⟩, rfl⟩
 · refine vc_nil ?_
   refine mW ?_
   refine Tr.ret ?_
   simp only [hR, go_sem, seval]
   exact ⟨fun n => 80 + n, rfl, ⟨⟨rfl, rfl, rfl⟩, trivial⟩, rfl⟩
theorem nequal_c (l k : List Node) (hl : l.length ≤ 1000) : Cal Tryz.prog 118 [.sl (l.map Node.av) false, .sl (k.map Node.av) false] (.bool (decide (l = k))) := by
 by_cases hlen : l.length = k.length
 · have e0 : ((l.length : Int) != (k.length : Int)) = false := by simp [hlen]
   have ff := e0
   have hR : Tryz.f118.results.toList = [.tmp 4] := rfl
   refine cal_tr Tryz.func118 rfl fun E hE hP => ?_
   refine mW ?_
   refine Tr.loop (fun i : Nat => (⟨[(0, .sl (l.map Node.av) false), (1, .sl (k.map Node.av) false), (12, .int .i64 l.length), (13, .int .i64 i)], [], 0, []⟩ : S)) (fun i => i ≤ l.length ∧ ∀ j (h1 : j < l.length) (h2 : j < k.length), j < i → l[j] = k[j]) (fun i => l.length - i) 0 ⟨Nat.zero_le _, fun _ _ _ h => by omega⟩ ?_ ?_
   · exact mK
   · intro i ⟨hi, hall⟩
     by_cases hlt : i < l.length
     · have e1 : decide ((i : Int) < (l.length : Int)) = true := dtO
       have hkt : i < k.length := by omega
       have hn := nth_map_lt Node.av l i hlt
       have hn2 := nth_map_lt Node.av k i hkt
       have hw := wN i
       by_cases he : l[i] = k[i]
       · have e2 : decide (l[i] = k[i]) = true := decide_eq_true he
         have ff := And.intro e1 (And.intro hn (And.intro hn2 (And.intro hw e2)))
         refine mW ?_
         refine ⟨i + 1, ⟨hlt, fun j h1 h2 hji => ?_⟩, by omega, ?_⟩
         · rcases Nat.lt_or_ge j i with h | h
           · exact hall j h1 h2 h
           · have : j = i := by omega
             subst this; exact he
         · exact mK
       · have e2 : decide (l[i] = k[i]) = false := decide_eq_false he
         have er : decide (l = k) = false := decide_eq_false fun h => he (by subst h; rfl)
         have ff := And.intro e1 (And.intro hn (And.intro hn2 (And.intro hw (And.intro e2 er))))
         exact mWE
     · have e1 : decide ((i : Int) < (l.length : Int)) = false := dfO
       have er : decide (l = k) = true := decide_eq_true (List.ext_getElem hlen fun j h1 h2 => hall j h1 h2 (by omega))
       have ff := And.intro e1 er
       exact mWE
 · have e0 : ((l.length : Int) != (k.length : Int)) = true := by simp; omega
   have er : decide (l = k) = false := decide_eq_false fun h => hlen (by rw [h])
   have ff := And.intro e0 er
   have hR : Tryz.f118.results.toList = [.tmp 4] := rfl
   refine cal_tr Tryz.func118 rfl fun E hE hP => ?_
   exact mWE
attribute [go_sem] uav iav bav
theorem uequal_c (l k : List Int) (hl : l.length ≤ 1000) : Cal Tryz.prog 90 [.sl (l.map uav) false, .sl (k.map uav) false] (.bool (decide (l = k))) := by
 by_cases hlen : l.length = k.length
 · have e0 : ((l.length : Int) != (k.length : Int)) = false := by simp [hlen]
   have ff := e0
   have hR : Tryz.f90.results.toList = [.tmp 4] := rfl
   refine cal_tr Tryz.func90 rfl fun E hE hP => ?_
   refine mW ?_
   refine Tr.loop (fun i : Nat => (⟨[(0, .sl (l.map uav) false), (1, .sl (k.map uav) false), (12, .int .i64 l.length), (13, .int .i64 i)], [], 0, []⟩ : S)) (fun i => i ≤ l.length ∧ ∀ j (h1 : j < l.length) (h2 : j < k.length), j < i → l[j] = k[j]) (fun i => l.length - i) 0 ⟨Nat.zero_le _, fun _ _ _ h => by omega⟩ ?_ ?_
   · exact mK
   · intro i ⟨hi, hall⟩
     by_cases hlt : i < l.length
     · have e1 : decide ((i : Int) < (l.length : Int)) = true := dtO
       have hkt : i < k.length := by omega
       have hn := nth_map_lt uav l i hlt
       have hn2 := nth_map_lt uav k i hkt
       have hw := wN i
       by_cases he : l[i] = k[i]
       · have e2 : decide (l[i] = k[i]) = true := decide_eq_true he
         have ff := And.intro e1 (And.intro hn (And.intro hn2 (And.intro hw e2)))
         refine mW ?_
         refine ⟨i + 1, ⟨hlt, fun j h1 h2 hji => ?_⟩, by omega, ?_⟩
         · rcases Nat.lt_or_ge j i with h | h
           · exact hall j h1 h2 h
           · have : j = i := by omega
             subst this; exact he
         · exact mK
       · have e2 : decide (l[i] = k[i]) = false := decide_eq_false he
         have er : decide (l = k) = false := decide_eq_false fun h => he (by subst h; rfl)
         have ff := And.intro e1 (And.intro hn (And.intro hn2 (And.intro hw (And.intro e2 er))))
         exact mWE
     · have e1 : decide ((i : Int) < (l.length : Int)) = false := dfO
       have er : decide (l = k) = true := decide_eq_true (List.ext_getElem hlen fun j h1 h2 => hall j h1 h2 (by omega))
       have ff := And.intro e1 er
       exact mWE
 · have e0 : ((l.length : Int) != (k.length : Int)) = true := by simp; omega
   have er : decide (l = k) = false := decide_eq_false fun h => hlen (by rw [h])
   have ff := And.intro e0 er
   have hR : Tryz.f90.results.toList = [.tmp 4] := rfl
   refine cal_tr Tryz.func90 rfl fun E hE hP => ?_
   exact mWE
end Go.Proofs.YtgnidooihignfaaGreatDoor
set_option linter.unusedSimpArgs false
set_option maxRecDepth 10000
namespace Go.Proofs.YtgnidooihignfaaGreatDoor
open Go Go.Ab Go.RowKit
theorem add64_x (x y : Nat) (h : x + y < 18446744073709551616) : extR Tryz.prog 238 [.int .u64 x, .int .u64 y, .int .u64 0] (.tup [.int .u64 (x + y : Nat), .int .u64 0]) := by
 intro C vals hv w
 obtain ⟨a, r, rfl, ha, b, r, rfl, hb, c, r, rfl, hc, rfl⟩ := hv
 have ha : a = .int .u64 x := RepT.int_of (.inr ha)
 have hb : b = .int .u64 y := RepT.int_of (.inr hb)
 have hc : c = .int .u64 0 := RepT.int_of (.inr hc)
 subst ha; subst hb; subst hc
 refine ⟨.tuple #[.int .u64 ((x + y + 0) % 18446744073709551616 : Nat), .int .u64 ((x + y + 0) / 18446744073709551616 : Nat)], ?_, ?_⟩
 · rfl
 · rw [Nat.add_zero, Nat.mod_eq_of_lt h, Nat.div_eq_of_lt h]
   exact ⟨[.int .u64 ((x + y : Nat) : Int), .int .u64 0], rfl, _, _, rfl, ⟨by simp [Rep, Value.cells], rfl, rfl⟩, _, _, rfl, ⟨by simp [Rep, Value.cells], rfl, rfl⟩, rfl⟩
theorem nsum_c (x y : Nat) (h : x + y < 18446744073709551616) : Cal Tryz.prog 231 [.st [.int .u64 x, .int .u64 y]] (.tup [.int .u64 (x + y : Nat), .int .u64 0]) := by
 have z1 := add64_x x y h
 have hR : Tryz.f231.results.toList = [.tmp 2, .tmp 3] := rfl
 refine cal_tr Tryz.func231 rfl fun E hE hP => ?_
 exact mWE
theorem ntold_c (x y : Nat) (h : x + y < 18446744073709551616) : Cal Tryz.prog 230 [.fn (.func 231) [.st [.int .u64 x, .int .u64 y]] []] (.tup [.int .u64 (x + y : Nat), .bool true]) := by
 have c1 := nsum_c x y h
 have hR : Tryz.f230.results.toList = [.tmp 2, .tmp 3] := rfl
 refine cal_tr Tryz.func230 rfl fun E hE hP => ?_
 exact mWE
theorem nadd_c (x y : Nat) (h : x + y < 18446744073709551616) : Cal Tryz.prog 214 [.int .u64 x, .int .u64 y] (.tup [.int .u64 (x + y : Nat), .bool true]) := by
 have c1 := ntold_c x y h
 have hR : Tryz.f214.results.toList = [.tmp 4, .tmp 5] := rfl
 refine cal_tr Tryz.func214 rfl fun E hE hP => ?_
 exact mWE
end Go.Proofs.YtgnidooihignfaaGreatDoor
set_option linter.unusedSimpArgs false
set_option maxRecDepth 10000
namespace Go.Proofs.YtgnidooihignfaaGreatDoor
open Go Go.Ab
def latests (l : List Latest) : AV := .sl (l.map Latest.av) false
def vav (l : List Latest) (o : Int) : AV := .st [.sl (l.map Latest.av) false, .int .u64 o]
attribute [go_sem] vav
@[go_sem] theorem stElem26 : tElem Tryz.prog 26 = some 146 ∧ tSize Tryz.prog 26 = some 1 ∧ tAgg Tryz.prog 26 = some false ∧ tBytes Tryz.prog 146 = some 48 := by and_intros <;> kernel_rfl
@[go_sem] theorem sbuild155_0 (K : AV → Prop) : buildK Tryz.prog 146 [] K = K zLatest.av := build_struct Tryz.underlying146 stZero155 rfl kR rfl K
@[go_sem] theorem sbuild29_0 (K : AV → Prop) : buildK Tryz.prog 29 [] K = K (.st [.sl [] true, .int .u64 0]) := build_struct Tryz.underlying29 stZero29 rfl kR rfl K
def vbad (o : Int) (i : Nat) (x : Latest) : Bool := (!x.has || decide (¬ andU o (bit i) = 0)) && !decide (x = zLatest)
def vmayB (l : List Latest) (o : Int) : Bool := decide (1 ≤ l.length) && (decide (l.length ≤ 8) && (decide (o < bit l.length) && (List.range l.length).all fun i => !vbad o i (l.getD i zLatest)))
theorem vmay_c (l : List Latest) (o : Int) : Cal Tryz.prog 200 [vav l o] (.bool (vmayB l o)) := by
 by_cases h0 : l.length = 0
 · have e0 : decide ((l.length : Int) = 0) = true := dtO
   have er : vmayB l o = false := by simp [vmayB, h0]
   have ff := And.intro e0 er
   have hR : Tryz.f200.results.toList = [.tmp 2] := rfl
   refine cal_tr Tryz.func200 rfl fun E hE hP => ?_
   exact mWE
 · have e0 : decide ((l.length : Int) = 0) = false := dfO
   by_cases h8 : 8 < l.length
   · have e8 : decide ((8 : Int) < (l.length : Int)) = true := dtO
     have er : vmayB l o = false := by simp [vmayB]; omega
     have ff := And.intro e0 (And.intro e8 er)
     have hR : Tryz.f200.results.toList = [.tmp 2] := rfl
     refine cal_tr Tryz.func200 rfl fun E hE hP => ?_
     exact mWE
   · have e8 : decide ((8 : Int) < (l.length : Int)) = false := dfO
     have c1 := And.intro (en Tryz.func190) (bit_pure l.length)
     by_cases hb : bit l.length ≤ o
     · have e9 : decide (bit l.length ≤ o) = true := decide_eq_true hb
       have er : vmayB l o = false := by simp [vmayB]; omega
       have ff := And.intro e0 (And.intro e8 (And.intro e9 er))
       have hR : Tryz.f200.results.toList = [.tmp 2] := rfl
       refine cal_tr Tryz.func200 rfl fun E hE hP => ?_
       exact mWE
     · have e9 : decide (bit l.length ≤ o) = false := decide_eq_false hb
       have ff := And.intro e0 (And.intro e8 e9)
       have hR : Tryz.f200.results.toList = [.tmp 2] := rfl
       refine cal_tr Tryz.func200 rfl fun E hE hP => ?_
       refine mW ?_
       refine Tr.loop (fun i : Nat => (⟨[(1, .ptr 0 [] 0), (25, .sl (l.map Latest.av) false), (26, .int .i64 l.length), (27, .int .i64 i)], [(0, .var (vav l o))], 1, []⟩ : S)) (fun i => i ≤ l.length ∧ ∀ j, j < i → vbad o j (l.getD j zLatest) = false) (fun i => l.length - i) 0 ⟨Nat.zero_le _, fun _ h => by omega⟩ ?_ ?_
       · exact mK
       · intro i ⟨hi, hall⟩
         by_cases hlt : i < l.length
         · have e1 : decide ((i : Int) < (l.length : Int)) = true := dtO
           have hn := nth_map_lt Latest.av l i hlt
           have hw := wN i
           have hgd : l.getD i zLatest = l[i] := by simp [List.getD_eq_getElem?_getD, hlt]
           have c2 := And.intro (en Tryz.func190) (bit_pure i)
           have hv : vbad o i l[i] = ((!l[i].has || decide (¬ andU o (bit i) = 0)) && !decide (l[i] = zLatest)) := rfl
           have hno : vbad o i l[i] = true → vmayB l o = false := fun h => by
            have : ((List.range l.length).all fun i => !vbad o i (l.getD i zLatest)) = false := by
             rw [List.all_eq_false]
             exact ⟨i, List.mem_range.2 hlt, by rw [hgd, h]; simp⟩
            unfold vmayB
            rw [this, Bool.and_false, Bool.and_false, Bool.and_false]
           have hyes : vbad o i l[i] = false → ∀ j, j < i + 1 → vbad o j (l.getD j zLatest) = false := fun h j hj => by
            rcases Nat.lt_or_ge j i with h1 | h1
            · exact hall j h1
            · have : j = i := by omega
              subst this; rw [hgd]; exact h
           generalize l[i] = x at hn hv hno hyes
           cases hz : decide (x = zLatest)
           · rw [hz, Bool.not_false, Bool.and_true] at hv
             cases hh : x.has
             · have er := hno (by rw [hv, hh]; rfl)
               have ff := And.intro e1 (And.intro hn (And.intro hw (And.intro hh (And.intro hz er))))
               exact mWE
             · cases hb : decide (andU o (bit i) = 0)
               · have er := hno (by rw [hv, decide_not, hb]; simp)
                 have hb' : decide (bitsI .and .u64 o (bit i) = 0) = false := hb
                 have ff := And.intro e1 (And.intro hn (And.intro hw (And.intro hh (And.intro hz (And.intro hb' er)))))
                 exact mWE
               · have hy := hyes (by rw [hv, hh, decide_not, hb]; rfl)
                 have hb' : decide (bitsI .and .u64 o (bit i) = 0) = true := hb
                 have ff := And.intro e1 (And.intro hn (And.intro hw (And.intro hh (And.intro hz hb'))))
                 refine mW ?_
                 exact ⟨i + 1, ⟨hlt, hy⟩, by omega, mK⟩
           · rw [hz, Bool.not_true, Bool.and_false] at hv
             have hy := hyes hv
             cases hh : x.has
             · have ff := And.intro e1 (And.intro hn (And.intro hw (And.intro hh hz)))
               refine mW ?_
               exact ⟨i + 1, ⟨hlt, hy⟩, by omega, mK⟩
             · cases hb : decide (bitsI .and .u64 o (bit i) = 0)
               · have ff := And.intro e1 (And.intro hn (And.intro hw (And.intro hh (And.intro hz hb))))
                 refine mW ?_
                 exact ⟨i + 1, ⟨hlt, hy⟩, by omega, mK⟩
               · have ff := And.intro e1 (And.intro hn (And.intro hw (And.intro hh (And.intro hz hb))))
                 refine mW ?_
                 exact ⟨i + 1, ⟨hlt, hy⟩, by omega, mK⟩
         · have e1 : decide ((i : Int) < (l.length : Int)) = false := dfO
           have hil : i = l.length := by omega
           have er : vmayB l o = true := by
            simp only [vmayB, Bool.and_eq_true, decide_eq_true_eq, List.all_eq_true, Bool.not_eq_true']
            exact ⟨by omega, by omega, by omega, fun j hj => hall j (by rw [hil]; exact List.mem_range.1 hj)⟩
           have ff := And.intro e1 er
           exact mWE
def skipB (bl : List Latest) (i : Nat) (x : Latest) : Bool := !x.has || (decide (i < bl.length) && decide (bl.getD i zLatest = x))
def addAt (l : List Int) (k : Nat) (x : Int) : List Int := l.set k (IntKind.u64.wrap (l.getD k 0 + x))
def votS (t : List Node) (bl : List Latest) (b : List Int) (out : List Int) (i : Nat) (x : Latest) : List Int :=
 if skipB bl i x then out else if findR t x.root < 0 then out else addAt out (findR t x.root).toNat (b.getD i 0)
def votTo (t : List Node) (vl bl : List Latest) (b : List Int) : Nat → List Int
 | 0 => List.replicate t.length 0
 | i + 1 => votS t bl b (votTo t vl bl b i) i (vl.getD i zLatest)
theorem votS_len (t : List Node) (bl : List Latest) (b : List Int) (out : List Int) (i : Nat) (x : Latest) : (votS t bl b out i x).length = out.length := by
 unfold votS addAt
 split
 · rfl
 · split
   · rfl
   · rw [List.length_set]
theorem votTo_len (t : List Node) (vl bl : List Latest) (b : List Int) : ∀ i, (votTo t vl bl b i).length = t.length
 | 0 => by simp [votTo]
 | i + 1 => by rw [votTo, votS_len, votTo_len t vl bl b i]
theorem findR_range (t : List Node) (r : Root) : findR t r = -1 ∨ (0 ≤ findR t r ∧ findR t r < t.length) := by
 unfold findR
 split
 · exact findI_range t r
 · exact .inl rfl
theorem voted_o (t : List Node) (vl bl : List Latest) (o bo : Int) : CalO Tryz.prog 213 [tav t, vav vl o, vav bl bo] (.fn (.func 229) [] [.ptr 1 [] 0, .ptr 2 [] 0, .ptr 0 [] 0]) [(0, .var (tav t)), (1, .var (vav vl o)), (2, .var (vav bl bo))] := by
 have hR : Tryz.f213.results.toList = [.tmp 6] := rfl
 refine calO_tr Tryz.func213 rfl fun E hE hP => ?_
 refine mW ?_
 refine Tr.ret ?_
 simp only [hR, go_sem, seval]
 exact ⟨fun | 0 => 0 | 1 => 16 | 2 => 32 | n => n, rfl, ⟨⟨rfl, rfl, rfl⟩, ⟨rfl, rfl, rfl⟩, ⟨rfl, rfl, rfl⟩, trivial⟩, rfl⟩
def stSu (t : List Node) (vl bl : List Latest) (o bo : Int) (b out : List Int) : S where
 fr := [(7, .ptr 0 [] 0), (9, .ptr 1 [] 0), (19, .fn (.func 229) [] [.ptr 4 [] 0, .ptr 5 [] 0, .ptr 3 [] 0])]
 hp := [(0, .var (u64s b)), (1, .var (.ms 2 1 t.length)), (2, .row 1 (out.map uav)), (3, .var (tav t)), (4, .var (vav vl o)), (5, .var (vav bl bo))]
 nx := 6
def stSv (t : List Node) (vl bl : List Latest) (o bo : Int) (b : List Int) (L : Nat) (c : LB) (i : Nat) : S where
 fr := [(0, .fn (.yield L) [] []), (1, .ptr 4 [] 0), (2, .ptr 5 [] 0), (3, .ptr 3 [] 0), (9, .sl (vl.map Latest.av) false), (10, .int .i64 vl.length), (11, .int .i64 i)]
 hp := [(7, .lp c .ready none), (6, .dfr), (0, .var (u64s b)), (1, .var (.ms 2 1 t.length)), (2, .row 1 ((votTo t vl bl b i).map uav)), (3, .var (tav t)), (4, .var (vav vl o)), (5, .var (vav bl bo))]
 nx := 8
theorem sum_c (t : List Node) (vl bl : List Latest) (o bo : Int) (b : List Int) (ht : t.length ≤ 1000) (hv : vl.length ≤ b.length) (hb : b.length ≤ 1000) : Cal Tryz.prog 166 [tav t, vav vl o, vav bl bo, u64s b] (u64s (votTo t vl bl b vl.length)) := by
 have hrep : List.replicate t.length (AV.int .u64 0) = (votTo t vl bl b 0).map uav := by simp [votTo, uav]
 have hvl := votTo_len t vl bl b
 refine ⟨enters_of Tryz.func166 kR rfl, pure_of_trM Tryz.func166 rfl nb rfl fun E hE hP => ?_⟩
 have ff := hrep
 have o1 := voted_o t vl bl o bo
 refine mW ?_
 refine Tr.wk (s' := stSu t vl bl o bo b (votTo t vl bl b 0)) ?_ ?_
 · refine wk_ren (fun | 0 => 48 | 1 => 144 | 2 => 128 | 3 => 224 | 4 => 225 | 5 => 226 | n => n) mB mB rfl rfl rfl
 · unfold stSu
   refine Tr.range (fid := 229) (fn := Tryz.f229) rfl (en Tryz.func229) Tryz.func229 rfl rfl nb ?_
   have hE0 := hE
   intro E' L c hE hP' sd
   have hP : E'.pn = 8 := hP'
   refine mW ?_
   refine Tr.loop (stSv t vl bl o bo b L c) (fun i => i ≤ vl.length) (fun i => vl.length - i) 0 (Nat.zero_le _) ?_ ?_
   · exact mK
   · intro i hi
     unfold stSv
     by_cases hlt : i < vl.length
     · have e1 : decide ((i : Int) < (vl.length : Int)) = true := dtO
       have hn := nth_map_lt Latest.av vl i hlt
       have hw := wN i
       have hgd : vl.getD i zLatest = vl[i] := by simp [List.getD_eq_getElem?_getD, hlt]
       have hnx : votTo t vl bl b (i + 1) = votS t bl b (votTo t vl bl b i) i vl[i] := by rw [votTo, hgd]
       have hol := hvl i
       generalize votTo t vl bl b i = out at hnx hol
       generalize vl[i] = x at hn hnx
       have c1 := And.intro (en Tryz.func27) (find_pure t x.root)
       cases hh : x.has
       · rw [votS, skipB, hh, Bool.not_false, Bool.true_or, if_pos rfl] at hnx
         have ff := And.intro e1 (And.intro hn (And.intro hw hh))
         refine mW ?_
         refine ⟨i + 1, hlt, by omega, ?_⟩
         rw [hnx]
         exact mK
       · by_cases hbl : i < bl.length
         · have e2 : decide ((i : Int) < (bl.length : Int)) = true := dtO
           have hn2 := nth_map_lt Latest.av bl i hbl
           have hgd2 : bl.getD i zLatest = bl[i] := by simp [List.getD_eq_getElem?_getD, hbl]
           rw [votS, skipB, hh, Bool.not_true, Bool.false_or, decide_eq_true hbl, Bool.true_and, hgd2] at hnx
           generalize bl[i] = y at hn2 hnx
           cases he : decide (y = x)
           · rw [he, if_neg (by simp)] at hnx
             have ff := And.intro e1 (And.intro hn (And.intro hw (And.intro hh (And.intro e2 (And.intro hn2 he)))))
             refine mW ?_
             rcases findR_range t x.root with hf | ⟨hf0, hf1⟩
             · rw [hf, if_pos (by decide)] at hnx
               have e4 : decide (0 ≤ findR t x.root) = false := dfO
               first | refine tr_seq_y 6 sd xE rfl rfl rfl ?_ | (refine Tr.seq ?_; refine tr_seq_y 6 sd xE rfl rfl rfl ?_)
               refine mL ?_
               repeat (first | (refine vc_op rfl ?_; simp only [e4, go_sem, seval]) | (refine vc_go rfl rfl rfl ?_; simp only [e4, go_sem, seval]) | (refine vc_no rfl rfl rfl ?_; simp only [e4, go_sem, seval]) | (refine vc_skip rfl rfl rfl ?_; simp only [e4, go_sem, seval]))
               refine vc_nil ?_
               refine gy_no rfl rfl rfl ?_
               simp only [e4, go_sem, seval]
               repeat (first | (refine vc_op rfl ?_; simp only [e4, go_sem, seval]) | (refine vc_go rfl rfl rfl ?_; simp only [e4, go_sem, seval]) | (refine vc_no rfl rfl rfl ?_; simp only [e4, go_sem, seval]) | (refine vc_skip rfl rfl rfl ?_; simp only [e4, go_sem, seval]))
               refine vc_nil ?_
               refine mW ?_
               refine ⟨i + 1, hlt, by omega, ?_⟩
               rw [hnx]
               exact mK
             · rw [if_neg (by omega)] at hnx
               have e4 : decide (0 ≤ findR t x.root) = true := dtO
               obtain ⟨k, hk⟩ : ∃ k : Nat, findR t x.root = k := ⟨(findR t x.root).toNat, by omega⟩
               first | refine tr_seq_y 6 sd xE rfl rfl rfl ?_ | (refine Tr.seq ?_; refine tr_seq_y 6 sd xE rfl rfl rfl ?_)
               refine mL ?_
               repeat (first | (refine vc_op rfl ?_; simp only [e4, go_sem, seval]) | (refine vc_go rfl rfl rfl ?_; simp only [e4, go_sem, seval]) | (refine vc_no rfl rfl rfl ?_; simp only [e4, go_sem, seval]) | (refine vc_skip rfl rfl rfl ?_; simp only [e4, go_sem, seval]))
               refine vc_nil ?_
               have hE1 := hE
               have hP1 := hP
               refine gy_if rfl rfl rfl ?_
               refine ⟨_, rfl, rfl, rfl, rfl, by rw [hE0]; rfl, rfl, ?_⟩
               intro Er hE hP
               rw [hE0] at hE
               refine mZ ?_
               refine mr ?_
               refine mr ?_
               refine ⟨rfl, ?_⟩
               refine mS ?_
               refine mBk ?_
               have hib : i < b.length := by omega
               have hz : 0 ≤ (k : Int) := by omega
               have hkl : (k : Int) < (t.length : Int) := by omega
               have hko : k < out.length := by omega
               have hnb := nth_map_lt uav b i hib
               have hgb : b.getD i 0 = b[i] := by simp [List.getD_eq_getElem?_getD, hib]
               have hgo : (out.map uav)[k]? = some (.int .u64 (out.getD k 0)) := by simp [List.getD_eq_getElem?_getD, hko, uav]
               have hset : ∀ z : Int, (out.map uav).set k (.int .u64 z) = (out.set k z).map uav := fun z => by rw [List.map_set]; rfl
               rw [hk, Int.toNat_natCast, addAt, hgb] at hnx
               refine tr_drawn mixed _ (keepAll _) xE kR ?_
               simp only [List.map_cons, List.map_nil]
               refine vd_q rfl rfl ?_; simp only [hk, hz, hkl, u64s, hnb, hgo, hset, Nat.mul_one, go_sem, seval]
               refine vd_q rfl rfl ?_; simp only [hk, hz, hkl, u64s, hnb, hgo, hset, Nat.mul_one, go_sem, seval]
               refine vd_q rfl rfl ?_; simp only [hk, hz, hkl, u64s, hnb, hgo, hset, Nat.mul_one, go_sem, seval]
               refine vd_q rfl rfl ?_; simp only [hk, hz, hkl, u64s, hnb, hgo, hset, Nat.mul_one, go_sem, seval]
               refine vd_q rfl rfl ?_; simp only [hk, hz, hkl, u64s, hnb, hgo, hset, Nat.mul_one, go_sem, seval]
               refine vd_q rfl rfl ?_; simp only [hk, hz, hkl, u64s, hnb, hgo, hset, Nat.mul_one, go_sem, seval]
               refine vd_q rfl rfl ?_; simp only [hk, hz, hkl, u64s, hnb, hgo, hset, Nat.mul_one, go_sem, seval]
               refine vd_q rfl rfl ?_; simp only [hk, hz, hkl, u64s, hnb, hgo, hset, Nat.mul_one, go_sem, seval]
               refine vd_q rfl rfl ?_; simp only [hk, hz, hkl, u64s, hnb, hgo, hset, Nat.mul_one, go_sem, seval]
               refine vd_q rfl rfl ?_; simp only [hk, hz, hkl, u64s, hnb, hgo, hset, Nat.mul_one, go_sem, seval]
               refine vd_w rfl rfl kR ?_; simp only [hk, hz, hkl, u64s, hnb, hgo, hset, Nat.mul_one, go_sem, seval]
               refine vd_nil ?_
               refine ⟨rfl, ?_⟩
               refine mS ?_
               refine mG ?_
               refine vc_nil ?_
               have hE := hE1
               have hP := hP1
               refine mW ?_
               refine ⟨i + 1, hlt, by omega, ?_⟩
               rw [hnx]
               exact mK
           · rw [he, if_pos rfl] at hnx
             have ff := And.intro e1 (And.intro hn (And.intro hw (And.intro hh (And.intro e2 (And.intro hn2 he)))))
             refine mW ?_
             refine ⟨i + 1, hlt, by omega, ?_⟩
             rw [hnx]
             exact mK
         · have e2 : decide ((i : Int) < (bl.length : Int)) = false := dfO
           rw [votS, skipB, hh, Bool.not_true, Bool.false_or, decide_eq_false hbl, Bool.false_and, if_neg (by simp)] at hnx
           have ff := And.intro e1 (And.intro hn (And.intro hw (And.intro hh e2)))
           refine mW ?_
           rcases findR_range t x.root with hf | ⟨hf0, hf1⟩
           · rw [hf, if_pos (by decide)] at hnx
             have e4 : decide (0 ≤ findR t x.root) = false := dfO
             first | refine tr_seq_y 6 sd xE rfl rfl rfl ?_ | (refine Tr.seq ?_; refine tr_seq_y 6 sd xE rfl rfl rfl ?_)
             refine mL ?_
             repeat (first | (refine vc_op rfl ?_; simp only [e4, go_sem, seval]) | (refine vc_go rfl rfl rfl ?_; simp only [e4, go_sem, seval]) | (refine vc_no rfl rfl rfl ?_; simp only [e4, go_sem, seval]) | (refine vc_skip rfl rfl rfl ?_; simp only [e4, go_sem, seval]))
             refine vc_nil ?_
             refine gy_no rfl rfl rfl ?_
             simp only [e4, go_sem, seval]
             repeat (first | (refine vc_op rfl ?_; simp only [e4, go_sem, seval]) | (refine vc_go rfl rfl rfl ?_; simp only [e4, go_sem, seval]) | (refine vc_no rfl rfl rfl ?_; simp only [e4, go_sem, seval]) | (refine vc_skip rfl rfl rfl ?_; simp only [e4, go_sem, seval]))
             refine vc_nil ?_
             refine mW ?_
             refine ⟨i + 1, hlt, by omega, ?_⟩
             rw [hnx]
             exact mK
           · rw [if_neg (by omega)] at hnx
             have e4 : decide (0 ≤ findR t x.root) = true := dtO
             obtain ⟨k, hk⟩ : ∃ k : Nat, findR t x.root = k := ⟨(findR t x.root).toNat, by omega⟩
             first | refine tr_seq_y 6 sd xE rfl rfl rfl ?_ | (refine Tr.seq ?_; refine tr_seq_y 6 sd xE rfl rfl rfl ?_)
             refine mL ?_
             repeat (first | (refine vc_op rfl ?_; simp only [e4, go_sem, seval]) | (refine vc_go rfl rfl rfl ?_; simp only [e4, go_sem, seval]) | (refine vc_no rfl rfl rfl ?_; simp only [e4, go_sem, seval]) | (refine vc_skip rfl rfl rfl ?_; simp only [e4, go_sem, seval]))
             refine vc_nil ?_
             have hE1 := hE
             have hP1 := hP
             refine gy_if rfl rfl rfl ?_
             refine ⟨_, rfl, rfl, rfl, rfl, by rw [hE0]; rfl, rfl, ?_⟩
             intro Er hE hP
             rw [hE0] at hE
             refine mZ ?_
             refine mr ?_
             refine mr ?_
             refine ⟨rfl, ?_⟩
             refine mS ?_
             refine mBk ?_
             have hib : i < b.length := by omega
             have hz : 0 ≤ (k : Int) := by omega
             have hkl : (k : Int) < (t.length : Int) := by omega
             have hko : k < out.length := by omega
             have hnb := nth_map_lt uav b i hib
             have hgb : b.getD i 0 = b[i] := by simp [List.getD_eq_getElem?_getD, hib]
             have hgo : (out.map uav)[k]? = some (.int .u64 (out.getD k 0)) := by simp [List.getD_eq_getElem?_getD, hko, uav]
             have hset : ∀ z : Int, (out.map uav).set k (.int .u64 z) = (out.set k z).map uav := fun z => by rw [List.map_set]; rfl
             rw [hk, Int.toNat_natCast, addAt, hgb] at hnx
             refine tr_drawn mixed _ (keepAll _) xE kR ?_
             simp only [List.map_cons, List.map_nil]
             refine vd_q rfl rfl ?_; simp only [hk, hz, hkl, u64s, hnb, hgo, hset, Nat.mul_one, go_sem, seval]
             refine vd_q rfl rfl ?_; simp only [hk, hz, hkl, u64s, hnb, hgo, hset, Nat.mul_one, go_sem, seval]
             refine vd_q rfl rfl ?_; simp only [hk, hz, hkl, u64s, hnb, hgo, hset, Nat.mul_one, go_sem, seval]
             refine vd_q rfl rfl ?_; simp only [hk, hz, hkl, u64s, hnb, hgo, hset, Nat.mul_one, go_sem, seval]
             refine vd_q rfl rfl ?_; simp only [hk, hz, hkl, u64s, hnb, hgo, hset, Nat.mul_one, go_sem, seval]
             refine vd_q rfl rfl ?_; simp only [hk, hz, hkl, u64s, hnb, hgo, hset, Nat.mul_one, go_sem, seval]
             refine vd_q rfl rfl ?_; simp only [hk, hz, hkl, u64s, hnb, hgo, hset, Nat.mul_one, go_sem, seval]
             refine vd_q rfl rfl ?_; simp only [hk, hz, hkl, u64s, hnb, hgo, hset, Nat.mul_one, go_sem, seval]
             refine vd_q rfl rfl ?_; simp only [hk, hz, hkl, u64s, hnb, hgo, hset, Nat.mul_one, go_sem, seval]
             refine vd_q rfl rfl ?_; simp only [hk, hz, hkl, u64s, hnb, hgo, hset, Nat.mul_one, go_sem, seval]
             refine vd_w rfl rfl kR ?_; simp only [hk, hz, hkl, u64s, hnb, hgo, hset, Nat.mul_one, go_sem, seval]
             refine vd_nil ?_
             refine ⟨rfl, ?_⟩
             refine mS ?_
             refine mG ?_
             refine vc_nil ?_
             have hE := hE1
             have hP := hP1
             refine mW ?_
             refine ⟨i + 1, hlt, by omega, ?_⟩
             rw [hnx]
             exact mK
     · have e1 : decide ((i : Int) < (vl.length : Int)) = false := dfO
       have hil : i = vl.length := by omega
       subst hil
       have ff := e1
       refine mW ?_
       have hE := hE0
       refine ⟨rfl, _, _, rfl, by simp, rfl, ?_⟩
       simp only [goOn]
       simp only [HP.del, fB, go_sem, seval]
       refine mW ?_
       refine Tr.ret ?_
       refine ⟨by simp, fun o ho => by rw [List.mem_singleton.1 ho]; rfl, ?_⟩
       simp only [HP.drop, List.contains_cons, List.contains_nil, Bool.or_false, Bool.false_or, Bool.or_true, fB, u64s, hvl, List.length_map, Tryz.f166, go_sem, seval]
def upW (t : List Node) (w : List Int) (i : Nat) : List Int :=
 if parI t i < 0 then w else w.set (parI t i).toNat (w.getD (parI t i).toNat 0 + w.getD i 0)
def subTo (t : List Node) (w : List Int) : Nat → List Int
 | 0 => w
 | m + 1 => upW t (subTo t w m) (t.length - 1 - m)
def subW (t : List Node) (w : List Int) : List Int := subTo t w t.length
def small (B : Int) (w : List Int) : Prop := ∀ j, 0 ≤ w.getD j 0 ∧ w.getD j 0 ≤ B
theorem upW_len (t : List Node) (w : List Int) (i : Nat) : (upW t w i).length = w.length := by
 unfold upW
 split
 · rfl
 · rw [List.length_set]
theorem subTo_len (t : List Node) (w : List Int) : ∀ m, (subTo t w m).length = w.length
 | 0 => rfl
 | m + 1 => by rw [subTo, upW_len, subTo_len t w m]
theorem getD_set (l : List Int) (k j : Nat) (x : Int) : (l.set k x).getD j 0 = if k = j ∧ k < l.length then x else l.getD j 0 := by
 simp only [List.getD_eq_getElem?_getD, List.getElem?_set]
 by_cases h : k = j
 · subst h
   by_cases h2 : k < l.length
   · simp [h2]
   · simp [h2]
 · simp [h]
theorem small_up {t : List Node} {B : Int} {w : List Int} (h : small B w) (i : Nat) : small (2 * B) (upW t w i) := by
 intro j
 have hj := h j
 unfold upW
 split
 · omega
 · rw [getD_set]
   have h1 := h (parI t i).toNat
   have h2 := h i
   split <;> omega
theorem small_sub {t : List Node} {B : Int} {w : List Int} (h : small B w) : ∀ m, small (2 ^ m * B) (subTo t w m)
 | 0 => by
   have e : (2 : Int) ^ 0 * B = B := by simp
   rw [e]; exact h
 | m + 1 => by
   have := small_up (t := t) (small_sub (t := t) h m) (t.length - 1 - m)
   have e : (2 : Int) ^ (m + 1) * B = 2 * (2 ^ m * B) := by rw [Int.pow_succ, Int.mul_comm (2 ^ m) 2, Int.mul_assoc]
   rw [e]
   exact this
def stU (t : List Node) (n : Nat) (w : List Int) : HP := [(0, .var (.st [tav t, .ms 1 1 n])), (1, .row 1 (w.map uav))]
theorem up_e (t : List Node) (w : List Int) (i : Nat) (hm : mayB t = true) (hi : i < t.length) (hw : w.length = t.length) (hs : small 4611686018427387904 w) :
 CalE Tryz.prog 167 [.ptr 0 [] 0, .int .i64 i] 2 (stU t t.length w) (.bool true) (stU t t.length (upW t w i)) := by
 have hn := nth_node hi
 have hpi : parI t i = (t.getD i zNode).parent := by simp [parI]
 have hr := par_range hm (a := i) (by omega) (by omega)
 unfold stU
 generalize t.getD i zNode = n at hn hpi
 by_cases hp : parI t i < 0
 · have e1 : decide (n.parent < 0) = true := dtO
   have er : upW t w i = w := by rw [upW, if_pos hp]
   rw [er]
   have ff := And.intro hn e1
   have hR : Tryz.f167.results.toList = [.tmp 4] := rfl
   refine calE_tr Tryz.func167 rfl fun E hE hP => ?_
   exact mWF
 · have e1 : decide (n.parent < 0) = false := dfO
   obtain ⟨k, hk⟩ : ∃ k : Nat, n.parent = k := ⟨n.parent.toNat, by omega⟩
   have hkt : k < t.length := by omega
   have h1 := hs k
   have h2 := hs i
   obtain ⟨x, hx⟩ : ∃ x : Nat, w.getD k 0 = x := ⟨(w.getD k 0).toNat, by omega⟩
   obtain ⟨y, hy⟩ : ∃ y : Nat, w.getD i 0 = y := ⟨(w.getD i 0).toNat, by omega⟩
   have er : upW t w i = w.set k ((x + y : Nat) : Int) := by rw [upW, if_neg hp, hpi, hk, Int.toNat_natCast, hx, hy]; rfl
   have hgk : (w.map uav)[k]? = some (.int .u64 x) := by rw [← hx]; simp [List.getD_eq_getElem?_getD, show k < w.length by omega, uav]
   have hgi : (w.map uav)[i]? = some (.int .u64 y) := by rw [← hy]; simp [List.getD_eq_getElem?_getD, show i < w.length by omega, uav]
   have hset : (w.map uav).set k (.int .u64 ((x + y : Nat) : Int)) = (w.set k ((x + y : Nat) : Int)).map uav := by rw [List.map_set]; rfl
   have c1 := nadd_c x y (by omega)
   rw [er]
   have e2 : decide ((k : Int) < 0) = false := dfO
   have ff := And.intro hn (And.intro e1 (And.intro hk (And.intro e2 (And.intro hgk (And.intro hgi (And.intro hset Nat.mul_one))))))
   have hR : Tryz.f167.results.toList = [.tmp 4] := rfl
   refine calE_tr Tryz.func167 rfl fun E hE hP => ?_
   exact mWF
theorem pow12 : ∀ k : Nat, k ≤ 12 → (2 : Int) ^ k ≤ 2 ^ 12 := by decide
theorem sub_c (t : List Node) (w : List Int) (hm : mayB t = true) (hw : w.length = t.length) (hs : small 1125899906842624 w) : Cal Tryz.prog 96 [tav t, u64s w] (.tup [u64s (subW t w), .bool true]) := by
 have hml := may_len hm
 have c1 := And.intro (en Tryz.func71) (may_pure t)
 rw [hm] at c1
 have o1 := uclone_c w (by omega)
 have e0 : ((w.length : Int) != (t.length : Int)) = false := by simp [hw]
 have hlen := subTo_len t w
 have ff := e0
 have hR : Tryz.f96.results.toList = [.tmp 4, .tmp 5] := rfl
 refine cal_tr Tryz.func96 rfl fun E hE hP => ?_
 refine mW ?_
 refine Tr.loop (fun m : Nat => (⟨[(1, .sl (w.map uav) false), (6, .ptr 0 [] 0), (7, .fn (.func 167) [.ptr 0 [] 0] []), (28, .int .i64 w.length), (29, .int .i64 m)], [(0, .var (.st [tav t, .ms 1 1 t.length])), (1, .row 1 ((subTo t w m).map uav))], 2, []⟩ : S)) (fun m => m ≤ w.length) (fun m => w.length - m) 0 (Nat.zero_le _) ?_ ?_
 · rw [hw]
   refine wk_ren (fun | 0 => 288 | 1 => 256 | n => n) mB mB rfl rfl rfl
 · intro m hmi
   by_cases hlt : m < w.length
   · have e1 : decide ((m : Int) < (w.length : Int)) = true := dtO
     have hw1 : IntKind.i64.wrap ((w.length : Int) - 1) = ((w.length - 1 : Nat) : Int) := by rw [show (w.length : Int) - 1 = ((w.length - 1 : Nat) : Int) by omega]; exact wrap_small (by omega)
     have hw2 : IntKind.i64.wrap (((w.length - 1 : Nat) : Int) - (m : Int)) = ((t.length - 1 - m : Nat) : Int) := by rw [show ((w.length - 1 : Nat) : Int) - (m : Int) = ((t.length - 1 - m : Nat) : Int) by omega]; exact wrap_small (by omega)
     have hw3 := wN m
     have hsm := small_sub (t := t) hs m
     have hsm' : small 4611686018427387904 (subTo t w m) := fun j => by
      have h1 := hsm j
      have h2 : (2 : Int) ^ m ≤ 2 ^ 12 := pow12 m (by omega)
      have h3 : (2 : Int) ^ m * 1125899906842624 ≤ 2 ^ 12 * 1125899906842624 := Int.mul_le_mul_of_nonneg_right h2 (by decide)
      omega
     have y1 := up_e t (subTo t w m) (t.length - 1 - m) hm (by omega) (by rw [hlen]; exact hw) hsm'
     unfold stU at y1
     have ff := And.intro e1 (And.intro hw1 (And.intro hw2 hw3))
     refine mW ?_
     exact ⟨m + 1, hlt, by omega, mK⟩
   · have e1 : decide ((m : Int) < (w.length : Int)) = false := dfO
     have hil : m = w.length := by omega
     have ff := And.intro e1 (hlen m)
     subst hil
     refine mW ?_
     refine Tr.ret ?_
     simp only [hR, go_sem, seval]
     rw [if_pos (by rw [hlen, hw]), hw]
     rfl
def fitB (t : List Node) (vl : List Latest) (o : Int) (b : List Int) : Bool := mayB t && (vmayB vl o && (mayS b && decide (vl.length = b.length)))
def ownW (t : List Node) (vl : List Latest) (b : List Int) : List Int := votTo t vl [] b vl.length
def weights (t : List Node) (vl : List Latest) (b : List Int) : List Int := subW t (ownW t vl b)
theorem fit_spec {t : List Node} {vl : List Latest} {o : Int} {b : List Int} (h : fitB t vl o b = true) : mayB t = true ∧ vmayB vl o = true ∧ mayS b = true ∧ vl.length = b.length := by
 simpa [fitB, and_assoc] using h
theorem fit_c (t : List Node) (vl : List Latest) (o : Int) (b : List Int) : Cal Tryz.prog 165 [tav t, vav vl o, u64s b] (.bool (fitB t vl o b)) := by
 have c1 := And.intro (en Tryz.func71) (may_pure t)
 have c2 := vmay_c vl o
 have c3 := And.intro (en Tryz.func76) (smay_pure b)
 cases h1 : mayB t
 · rw [h1] at c1
   have er : fitB t vl o b = false := by simp [fitB, h1]
   have ff := er
   have hR : Tryz.f165.results.toList = [.tmp 6] := rfl
   refine cal_tr Tryz.func165 rfl fun E hE hP => ?_
   exact mWE
 · rw [h1] at c1
   cases h2 : vmayB vl o
   · rw [h2] at c2
     have er : fitB t vl o b = false := by simp [fitB, h2]
     have ff := er
     have hR : Tryz.f165.results.toList = [.tmp 6] := rfl
     refine cal_tr Tryz.func165 rfl fun E hE hP => ?_
     exact mWE
   · rw [h2] at c2
     cases h3 : mayS b
     · rw [h3] at c3
       have er : fitB t vl o b = false := by simp [fitB, h3]
       have ff := er
       have hR : Tryz.f165.results.toList = [.tmp 6] := rfl
       refine cal_tr Tryz.func165 rfl fun E hE hP => ?_
       exact mWE
     · rw [h3] at c3
       have er : fitB t vl o b = decide ((vl.length : Int) = (b.length : Int)) := by
        simp only [fitB, h1, h2, h3, Bool.true_and]
        exact decide_eq_decide.2 (by omega)
       have ff := er
       have hR : Tryz.f165.results.toList = [.tmp 6] := rfl
       refine cal_tr Tryz.func165 rfl fun E hE hP => ?_
       exact mWE
theorem small_vot {t : List Node} {vl bl : List Latest} {b : List Int} (hb : okB b) (hS : mayS b = true) : ∀ i : Nat, i ≤ 1000 → small ((i : Int) * 1099511627776) (votTo t vl bl b i)
 | 0, _ => fun j => by
   rw [votTo, List.getD_eq_getElem?_getD]
   cases e : (List.replicate t.length (0 : Int))[j]? with
   | none => simp
   | some x =>
     have := List.eq_of_mem_replicate (List.mem_of_getElem? e)
     subst this
     simp
 | i + 1, hi => fun j => by
   have ih := small_vot (t := t) (vl := vl) (bl := bl) hb hS i (by omega)
   rw [votTo, votS]
   have hj := ih j
   have e : ((i + 1 : Nat) : Int) * 1099511627776 = (i : Int) * 1099511627776 + 1099511627776 := by omega
   rw [e]
   split
   · omega
   · split
     · omega
     · rw [addAt, getD_set]
       split
       · have hk := ih (findR t (vl.getD i zLatest).root).toNat
         have hbi : 0 ≤ b.getD i 0 ∧ b.getD i 0 ≤ 1099511627776 := by
          by_cases hi : i < b.length
          · exact bal_range hS hb hi
          · rw [List.getD_eq_getElem?_getD, List.getElem?_eq_none (by omega)]; simp
         rw [wrapU_lt (by omega) (by omega)]
         omega
       · omega
theorem small_own {t : List Node} {vl : List Latest} {b : List Int} (hb : okB b) (hS : mayS b = true) (hl : vl.length = b.length) : small 1125899906842624 (ownW t vl b) := fun j => by
 have h8 := (mayS_spec hS).2.1
 have := small_vot (t := t) (vl := vl) (bl := []) hb hS vl.length (by omega) j
 unfold ownW
 omega
theorem own_c (t : List Node) (vl : List Latest) (o : Int) (b : List Int) (h : fitB t vl o b = true) : Cal Tryz.prog 95 [tav t, vav vl o, u64s b] (.tup [u64s (ownW t vl b), .bool true]) := by
 obtain ⟨hm, hv, hS, hl⟩ := fit_spec h
 have hml := may_len hm
 have h8 := (mayS_spec hS).2.1
 have c1 := fit_c t vl o b
 rw [h] at c1
 have c2 := sum_c t vl [] o 0 b (by omega) (by omega) (by omega)
 have hR : Tryz.f95.results.toList = [.tmp 6, .tmp 7] := rfl
 refine cal_tr Tryz.func95 rfl fun E hE hP => ?_
 exact mX
theorem own_no (t : List Node) (vl : List Latest) (o : Int) (b : List Int) (h : fitB t vl o b = false) : Cal Tryz.prog 95 [tav t, vav vl o, u64s b] (.tup [u64s [], .bool false]) := by
 have c1 := fit_c t vl o b
 rw [h] at c1
 have hR : Tryz.f95.results.toList = [.tmp 6, .tmp 7] := rfl
 refine cal_tr Tryz.func95 rfl fun E hE hP => ?_
 exact mX
theorem weights_c (t : List Node) (vl : List Latest) (o : Int) (b : List Int) (hb : okB b) (h : fitB t vl o b = true) : Cal Tryz.prog 34 [tav t, vav vl o, u64s b] (.tup [u64s (weights t vl b), .bool true]) := by
 obtain ⟨hm, hv, hS, hl⟩ := fit_spec h
 have c1 := own_c t vl o b h
 have c2 := sub_c t (ownW t vl b) hm (votTo_len _ _ _ _ _) (small_own hb hS hl)
 have hR : Tryz.f34.results.toList = [.tmp 6, .tmp 7] := rfl
 refine cal_tr Tryz.func34 rfl fun E hE hP => ?_
 exact mX
theorem weights_no (t : List Node) (vl : List Latest) (o : Int) (b : List Int) (h : fitB t vl o b = false) : Cal Tryz.prog 34 [tav t, vav vl o, u64s b] (.tup [u64s [], .bool false]) := by
 have c1 := own_no t vl o b h
 have hR : Tryz.f34.results.toList = [.tmp 6, .tmp 7] := rfl
 refine cal_tr Tryz.func34 rfl fun E hE hP => ?_
 exact mX
theorem wsame_c (a b : List Int) (hl : a.length ≤ 1000) : Cal Tryz.prog 35 [u64s a, u64s b] (.bool (decide (a = b))) := by
 have c1 := uequal_c a b hl
 have hR : Tryz.f35.results.toList = [.tmp 4] := rfl
 refine cal_tr Tryz.func35 rfl fun E hE hP => ?_
 exact mX
def atts (l : List Att) : AV := .sl (l.map Att.av) false
def isFar (a : Att) : Bool := decide (1099511627776 < a.slot)
theorem far_c (a : Att) : Cal Tryz.prog 124 [a.av] (.bool (isFar a)) := by
 have hR : Tryz.f124.results.toList = [.tmp 2] := rfl
 refine cal_tr Tryz.func124 rfl fun E hE hP => ?_
 exact mX
theorem aindex_c  (l : List Att) (hl : l.length ≤ 1000) (hc : ∀ a : Att, Cal Tryz.prog 124 ([Att.av a] ++ []) (.bool (isFar a))) : Cal Tryz.prog 188 [.sl (l.map Att.av) false, .fn (.func 124) [] []] (.int .i64 (fidx (isFar) l)) := by
 have hR : Tryz.f188.results.toList = [.tmp 4] := rfl
 refine cal_tr Tryz.func188 rfl fun E hE hP => ?_
 refine mW ?_
 refine Tr.loop (fun i : Nat => (⟨[(0, .sl (l.map Att.av) false), (1, .fn (.func 124) [] []), (7, .int .i64 l.length), (8, .int .i64 i)], [], 0, []⟩ : S)) (fun i => i ≤ l.length ∧ ∀ j (hj : j < l.length), j < i → isFar l[j] = false) (fun i => l.length - i) 0 ⟨Nat.zero_le _, fun _ _ h => by omega⟩ ?_ ?_
 · exact mK
 · intro i ⟨hi, hall⟩
   by_cases hlt : i < l.length
   · have e1 : decide ((i : Int) < (l.length : Int)) = true := dtO
     have hn := nth_map_lt Att.av l i hlt
     have hw := wN i
     have c1 := hc l[i]
     cases hp : isFar l[i]
     · rw [hp] at c1
       have ff := And.intro e1 (And.intro hn hw)
       refine mW ?_
       refine ⟨i + 1, ⟨hlt, fun j hj hji => ?_⟩, by omega, ?_⟩
       · rcases Nat.lt_or_ge j i with h | h
         · exact hall j hj h
         · have : j = i := by omega
           subst this; exact hp
       · exact mK
     · rw [hp] at c1
       have er := fidx_at hlt (fun j hj => hall j (by omega) hj) hp
       have ff := And.intro e1 (And.intro hn (And.intro hw er))
       exact mWE
   · have e1 : decide ((i : Int) < (l.length : Int)) = false := dfO
     have er := fidx_none (p := isFar) (l := l) fun j hj => hall j hj (by omega)
     have ff := And.intro e1 er
     exact mWE
theorem acontains_c  (l : List Att) (hl : l.length ≤ 1000) (hc : ∀ a : Att, Cal Tryz.prog 124 ([Att.av a] ++ []) (.bool (isFar a))) : Cal Tryz.prog 123 [.sl (l.map Att.av) false, .fn (.func 124) [] []] (.bool (l.any (isFar))) := by
 have c1 := aindex_c  l hl hc
 have er := fidx_any (isFar) l
 have ff := er
 have hR : Tryz.f123.results.toList = [.tmp 4] := rfl
 refine cal_tr Tryz.func123 rfl fun E hE hP => ?_
 exact mWE
def lmayA (l : List Att) : Bool := decide (l.length ≤ 6) && !l.any isFar
theorem lmay_c (l : List Att) : Cal Tryz.prog 59 [atts l] (.bool (lmayA l)) := by
 unfold atts
 by_cases h6 : l.length ≤ 6
 · have e6 : decide ((l.length : Int) ≤ 6) = true := dtO
   have c1 := acontains_c l (by omega) far_c
   have er : lmayA l = !l.any isFar := by simp [lmayA, h6]
   have ff := And.intro e6 er
   have hR : Tryz.f59.results.toList = [.tmp 2] := rfl
   refine cal_tr Tryz.func59 rfl fun E hE hP => ?_
   exact mX
 · have e6 : decide ((l.length : Int) ≤ 6) = false := dfO
   have er : lmayA l = false := by simp [lmayA, h6]
   have ff := And.intro e6 er
   have hR : Tryz.f59.results.toList = [.tmp 2] := rfl
   refine cal_tr Tryz.func59 rfl fun E hE hP => ?_
   exact mX
theorem nanU_c (n : Int) : Cal Tryz.prog 192 [.int .u64 n] (.bool false) := by
 have e : (n != n) = false := by simp
 have ff := e
 have hR : Tryz.f192.results.toList = [.tmp 2] := rfl
 refine cal_tr Tryz.func192 rfl fun E hE hP => ?_
 exact mX
def cmpU (a b : Int) : Int := if a < b then -1 else if b < a then 1 else 0
theorem compareU_c (a b : Int) : Cal Tryz.prog 131 [.int .u64 a, .int .u64 b] (.int .i64 (cmpU a b)) := by
 have c1 := nanU_c a
 have c2 := nanU_c b
 by_cases h1 : a < b
 · have e1 : decide (a < b) = true := decide_eq_true h1
   have er : cmpU a b = -1 := by rw [cmpU, if_pos h1]
   have ff := And.intro e1 er
   have hR : Tryz.f131.results.toList = [.tmp 4] := rfl
   refine cal_tr Tryz.func131 rfl fun E hE hP => ?_
   exact mX
 · have e1 : decide (a < b) = false := decide_eq_false h1
   by_cases h2 : b < a
   · have e2 : decide (b < a) = true := decide_eq_true h2
     have er : cmpU a b = 1 := by rw [cmpU, if_neg h1, if_pos h2]
     have ff := And.intro e1 (And.intro e2 er)
     have hR : Tryz.f131.results.toList = [.tmp 4] := rfl
     refine cal_tr Tryz.func131 rfl fun E hE hP => ?_
     exact mX
   · have e2 : decide (b < a) = false := decide_eq_false h2
     have er : cmpU a b = 0 := by rw [cmpU, if_neg h1, if_neg h2]
     have ff := And.intro e1 (And.intro e2 er)
     have hR : Tryz.f131.results.toList = [.tmp 4] := rfl
     refine cal_tr Tryz.func131 rfl fun E hE hP => ?_
     exact mX
theorem next1_c (a b : Att) : Cal Tryz.prog 130 [a.av, b.av] (.int .i64 (cmpU a.slot b.slot)) := by
 have c1 := compareU_c a.slot b.slot
 have hR : Tryz.f130.results.toList = [.tmp 4] := rfl
 refine cal_tr Tryz.func130 rfl fun E hE hP => ?_
 exact mX
def least (m : Att) (l : List Att) : Att := l.foldl (fun m a => if a.slot < m.slot then a else m) m
theorem least_next {a0 : Att} {l : List Att} {i : Nat} (h : i < l.length) : least a0 (l.take (i + 1)) = if l[i].slot < (least a0 (l.take i)).slot then l[i] else least a0 (l.take i) := by
 unfold least
 rw [List.take_add_one, List.getElem?_eq_getElem h, Option.toList_some, List.foldl_append]
 rfl
theorem cmpU_lt (a b : Int) : decide (cmpU a b < 0) = decide (a < b) := by
 unfold cmpU
 split
 · rename_i h; simp [h]
 · rename_i h
   split <;> simp [h]
theorem min_c (l : List Att) (a0 : Att) (hl : l.length ≤ 1000) (hn : 0 < l.length) (ha0 : l[0] = a0) : Cal Tryz.prog 129 [.sl (l.map Att.av) false, .fn (.func 130) [] []] (least a0 l).av := by
 have e0 : decide ((l.length : Int) < 1) = false := dfO
 have hn0 := nth_map_lt Att.av l 0 hn
 rw [ha0] at hn0
 have hn0' : nth (l.map Att.av) (0 : Int) = some a0.av := hn0
 have ff := And.intro e0 hn0'
 have hR : Tryz.f129.results.toList = [.cell 4 76] := rfl
 refine cal_tr Tryz.func129 rfl fun E hE hP => ?_
 refine mW ?_
 refine Tr.loop (fun i : Nat => (⟨[(0, .sl (l.map Att.av) false), (1, .fn (.func 130) [] []), (4, .ptr 0 [] 0), (5, .ptr 1 [] 0), (6, .int .i64 i)], [(0, .var zAtt.av), (1, .var (least a0 (l.take i)).av)], 2, []⟩ : S)) (fun i => 1 ≤ i ∧ i ≤ l.length) (fun i => l.length - i) 1 ⟨Nat.le_refl _, hn⟩ ?_ ?_
 · have e : (least a0 (l.take 1)) = a0 := by
    rw [least_next hn, ha0]
    simp [least]
   rw [e]
   refine wk_ren (fun | 1 => 112 | n => n) mB mB rfl rfl rfl
 · intro i ⟨h1, hi⟩
   by_cases hlt : i < l.length
   · have e1 : decide ((i : Int) < (l.length : Int)) = true := dtO
     have hni := nth_map_lt Att.av l i hlt
     have hw := wN i
     have hnx := least_next (a0 := a0) hlt
     generalize least a0 (l.take i) = m at hnx
     generalize l[i] = a at hni hnx
     have c1 := next1_c a m
     have e2 := cmpU_lt a.slot m.slot
     by_cases h : a.slot < m.slot
     · rw [if_pos h] at hnx
       rw [decide_eq_true h] at e2
       have ff := And.intro e1 (And.intro hni (And.intro hw e2))
       refine mW ?_
       refine ⟨i + 1, ⟨by omega, hlt⟩, by omega, ?_⟩
       rw [hnx]
       exact mK
     · rw [if_neg h] at hnx
       rw [decide_eq_false h] at e2
       have ff := And.intro e1 (And.intro hni (And.intro hw e2))
       refine mW ?_
       refine ⟨i + 1, ⟨by omega, hlt⟩, by omega, ?_⟩
       rw [hnx]
       exact mK
   · have e1 : decide ((i : Int) < (l.length : Int)) = false := dfO
     have hil : i = l.length := by omega
     subst hil
     have ff := And.intro e1 (List.take_length (l := l))
     exact mX
def nextA (l : List Att) : Int × Bool := match l with | [] => (0, false) | a :: r => ((least a (a :: r)).slot, true)
theorem next_c (l : List Att) (hl : l.length ≤ 1000) : Cal Tryz.prog 62 [atts l] (.tup [.int .u64 (nextA l).1, .bool (nextA l).2]) := by
 unfold atts
 cases l with
 | nil =>
   have hR : Tryz.f62.results.toList = [.tmp 2, .tmp 3] := rfl
   refine cal_tr Tryz.func62 rfl fun E hE hP => ?_
   exact mX
 | cons a r =>
   have c1 := min_c (a :: r) a hl (by simp) rfl
   have e0 : decide ((((a :: r).length : Nat) : Int) = 0) = false := decide_eq_false (by simp; omega)
   have ff := e0
   have hR : Tryz.f62.results.toList = [.tmp 2, .tmp 3] := rfl
   refine cal_tr Tryz.func62 rfl fun E hE hP => ?_
   exact mX
structure Eng where
 t : List Node
 b : List Int
 vl : List Latest
 o : Int
 w : List Int
 late : List Att
 k : List Link
 j : List Check
 fin : Check
 now : Int
 deriving DecidableEq
def Eng.av (e : Eng) : AV := .st [tav e.t, u64s e.b, vav e.vl e.o, u64s e.w, atts e.late, links e.k, checks e.j, e.fin.av, .int .u64 e.now]
attribute [go_sem] Eng.av atts latests
structure Eng.few (e : Eng) : Prop where
 t : e.t.length ≤ 100
 b : e.b.length ≤ 100
 vl : e.vl.length ≤ 100
 w : e.w.length ≤ 100
 late : e.late.length ≤ 100
 k : e.k.length ≤ 40
 j : e.j.length ≤ 40
structure Eng.ok (e : Eng) : Prop where
 b : okB e.b
 kL : okL e.k
 kC : okC e.k
def rootsJ (js : List Check) : List Root := js.map Check.root
def rootsK (ks : List Link) : List Root := ks.flatMap fun a => [a.s.root, a.t.root]
def rootsV (vs : List Latest) : List Root := (vs.filter (·.has)).map Latest.root
def rootsL (e : Eng) : List Root := rootsJ e.j ++ rootsK e.k ++ rootsV e.vl
def rv (l : List Root) : List AV := l.map AV.root
@[go_sem] theorem rv_len (l : List Root) : (rv l).length = l.length := by simp [rv]
theorem rv_app (l k : List Root) : rv (l ++ k) = rv l ++ rv k := List.map_append
@[go_sem] theorem rv_lens (l : List Root) (n : Nat) : (∀ z ∈ rv l, z.len = n) = ∀ a ∈ l, 32 = n := by
  unfold rv
  rw [List.forall_mem_map]
  rfl
theorem rootsK_len (l : List Link) : (rootsK l).length = 2 * l.length := by
 induction l with
 | nil => rfl
 | cons a l ih => rw [rootsK, List.flatMap_cons, List.length_append, List.length_cons]; simp only [rootsK] at ih; rw [ih]; simp; omega
theorem rootsV_len (l : List Latest) : (rootsV l).length ≤ l.length := by
 unfold rootsV; rw [List.length_map]; exact List.length_filter_le _ _
theorem roots_c (e : Eng) (he : e.few) : Cal Tryz.prog 64 [e.av] (.sl (rv (rootsL e)) false) := by
 have hj := he.j
 have hk := he.k
 have hv := he.vl
 have hR : Tryz.f64.results.toList = [.tmp 2] := rfl
 refine cal_tr Tryz.func64 rfl fun E hE hP => ?_
 refine mW ?_
 refine Tr.wk (Wk.nil 3 32 rfl) ?_
 refine Tr.loop (fun i : Nat => (⟨[(1, .ptr 0 [] 0), (3, .ms 1 32 (rootsJ (e.j.take i)).length), (11, .sl (e.j.map Check.av) false), (12, .int .i64 e.j.length), (13, .int .i64 i)], [(0, .var e.av), (1, .row 32 (rv (rootsJ (e.j.take i))))], 2, []⟩ : S)) (fun i => i ≤ e.j.length) (fun i => e.j.length - i) 0 (Nat.zero_le _) ?_ ?_
 · refine wk_ren (fun | 1 => 112 | n => n) mB mB rfl rfl rfl
 · intro i hi
   by_cases hlt : i < e.j.length
   · have e1 : decide ((i : Int) < (e.j.length : Int)) = true := dtO
     have hn := nth_map_lt Check.av e.j i hlt
     have hw := wN i
     have hL : rootsJ (e.j.take (i + 1)) = rootsJ (e.j.take i) ++ [e.j[i].root] := by unfold rootsJ; rw [List.take_add_one, List.getElem?_eq_getElem hlt, Option.toList_some, List.map_append]; rfl
     have hLl : (rootsJ (e.j.take i)).length ≤ 40 := by unfold rootsJ; rw [List.length_map, List.length_take]; omega
     generalize rootsJ (e.j.take i) = L at hL hLl
     generalize e.j[i] = c at hn hL
     have ff := And.intro e1 (And.intro hn hw)
     refine mW ?_
     refine ⟨i + 1, hlt, by omega, ?_⟩
     rw [hL, List.length_append, List.length_singleton, rv_app]
     refine wk_ren (fun | 1 => 146 | n => n) mB mB rfl rfl rfl
   · have e1 : decide ((i : Int) < (e.j.length : Int)) = false := dfO
     have hil : i = e.j.length := by omega
     subst hil
     have hJl : (rootsJ e.j).length ≤ 40 := by unfold rootsJ; rw [List.length_map]; omega
     rw [List.take_length]
     have hrl : rootsL e = (rootsJ e.j ++ rootsK e.k) ++ rootsV e.vl := rfl
     generalize rootsJ e.j = J at hJl hrl
     have ff := e1
     refine mW ?_
     refine Tr.loop (fun i : Nat => (⟨[(1, .ptr 0 [] 0), (3, .ms 1 32 (J ++ rootsK (e.k.take i)).length), (24, .sl (e.k.map Link.av) false), (25, .int .i64 e.k.length), (26, .int .i64 i)], [(0, .var e.av), (1, .row 32 (rv (J ++ rootsK (e.k.take i))))], 2, []⟩ : S)) (fun i => i ≤ e.k.length) (fun i => e.k.length - i) 0 (Nat.zero_le _) ?_ ?_
     · have e0 : J ++ rootsK (e.k.take 0) = J := List.append_nil J
       rw [e0]
       exact mK
     · intro i hi
       by_cases hlt : i < e.k.length
       · have e1 : decide ((i : Int) < (e.k.length : Int)) = true := dtO
         have hn := nth_map_lt Link.av e.k i hlt
         have hw := wN i
         have hL : J ++ rootsK (e.k.take (i + 1)) = (J ++ rootsK (e.k.take i)) ++ [e.k[i].s.root, e.k[i].t.root] := by unfold rootsK; rw [List.take_add_one, List.getElem?_eq_getElem hlt, Option.toList_some, List.flatMap_append, List.append_assoc]; rfl
         have hLl : (J ++ rootsK (e.k.take i)).length ≤ 200 := by rw [List.length_append, rootsK_len, List.length_take]; omega
         generalize J ++ rootsK (e.k.take i) = L at hL hLl
         generalize e.k[i] = c at hn hL
         have ff := And.intro e1 (And.intro hn hw)
         refine mW ?_
         refine ⟨i + 1, hlt, by omega, ?_⟩
         rw [hL, List.length_append, rv_app]
         refine wk_ren (fun | 1 => 210 | n => n) mB mB rfl rfl rfl
       · have e1 : decide ((i : Int) < (e.k.length : Int)) = false := dfO
         have hil : i = e.k.length := by omega
         subst hil
         rw [List.take_length]
         have hKl : (J ++ rootsK e.k).length ≤ 200 := by rw [List.length_append, rootsK_len]; omega
         generalize J ++ rootsK e.k = K at hKl hrl
         have ff := e1
         refine mW ?_
         refine Tr.loop (fun i : Nat => (⟨[(1, .ptr 0 [] 0), (3, .ms 1 32 (K ++ rootsV (e.vl.take i)).length), (42, .sl (e.vl.map Latest.av) false), (43, .int .i64 e.vl.length), (44, .int .i64 i)], [(0, .var e.av), (1, .row 32 (rv (K ++ rootsV (e.vl.take i))))], 2, []⟩ : S)) (fun i => i ≤ e.vl.length) (fun i => e.vl.length - i) 0 (Nat.zero_le _) ?_ ?_
         · have e0 : K ++ rootsV (e.vl.take 0) = K := List.append_nil K
           rw [e0]
           exact mK
         · intro i hi
           by_cases hlt : i < e.vl.length
           · have e1 : decide ((i : Int) < (e.vl.length : Int)) = true := dtO
             have hn := nth_map_lt Latest.av e.vl i hlt
             have hw := wN i
             have hL : K ++ rootsV (e.vl.take (i + 1)) = (K ++ rootsV (e.vl.take i)) ++ (if e.vl[i].has then [e.vl[i].root] else []) := by
              unfold rootsV
              rw [List.take_add_one, List.getElem?_eq_getElem hlt, Option.toList_some, List.filter_append, List.map_append, List.append_assoc]
              cases h : e.vl[i].has <;> simp [h]
             have hLl : (K ++ rootsV (e.vl.take i)).length ≤ 400 := by
              have := rootsV_len (e.vl.take i)
              rw [List.length_take] at this
              rw [List.length_append]; omega
             generalize K ++ rootsV (e.vl.take i) = L at hL hLl
             generalize e.vl[i] = c at hn hL
             cases hh : c.has
             · rw [hh, if_neg (by simp), List.append_nil] at hL
               have ff := And.intro e1 (And.intro hn (And.intro hw hh))
               refine mW ?_
               refine ⟨i + 1, hlt, by omega, ?_⟩
               rw [hL]
               exact mK
             · rw [hh, if_pos rfl] at hL
               have ff := And.intro e1 (And.intro hn (And.intro hw hh))
               refine mW ?_
               refine ⟨i + 1, hlt, by omega, ?_⟩
               rw [hL, List.length_append, List.length_singleton, rv_app]
               refine wk_ren (fun | 1 => 178 | n => n) mB mB rfl rfl rfl
           · have e1 : decide ((i : Int) < (e.vl.length : Int)) = false := dfO
             have hil : i = e.vl.length := by omega
             subst hil
             rw [List.take_length]
             rw [← hrl]
             have ff := e1
             exact mX
def lostB (e : Eng) (r : Root) : Bool := decide (findR e.t r < 0)
theorem may1_c (e : Eng) (r : Root) : Cal Tryz.prog 65 [.root r, .ref e.av] (.bool (lostB e r)) := by
 have c1 := And.intro (en Tryz.func27) (find_pure e.t r)
 have hR : Tryz.f65.results.toList = [.tmp 3] := rfl
 refine cal_tr Tryz.func65 rfl fun E hE hP => ?_
 exact mX
theorem rindex_c (e : Eng) (l : List Root) (hl : l.length ≤ 1000) (hc : ∀ a : Root, Cal Tryz.prog 65 ([AV.root a] ++ [.ref e.av]) (.bool (lostB e a))) : Cal Tryz.prog 132 [.sl (l.map AV.root) false, .fn (.func 65) [] [.ref e.av]] (.int .i64 (fidx (lostB e) l)) := by
 have hR : Tryz.f132.results.toList = [.tmp 4] := rfl
 refine cal_tr Tryz.func132 rfl fun E hE hP => ?_
 refine mW ?_
 refine Tr.loop (fun i : Nat => (⟨[(0, .sl (l.map AV.root) false), (1, .fn (.func 65) [] [.ref e.av]), (7, .int .i64 l.length), (8, .int .i64 i)], [], 0, []⟩ : S)) (fun i => i ≤ l.length ∧ ∀ j (hj : j < l.length), j < i → lostB e l[j] = false) (fun i => l.length - i) 0 ⟨Nat.zero_le _, fun _ _ h => by omega⟩ ?_ ?_
 · exact mK
 · intro i ⟨hi, hall⟩
   by_cases hlt : i < l.length
   · have e1 : decide ((i : Int) < (l.length : Int)) = true := dtO
     have hn := nth_map_lt AV.root l i hlt
     have hw := wN i
     have c1 := hc l[i]
     cases hp : lostB e l[i]
     · rw [hp] at c1
       have ff := And.intro e1 (And.intro hn hw)
       refine mW ?_
       refine ⟨i + 1, ⟨hlt, fun j hj hji => ?_⟩, by omega, ?_⟩
       · rcases Nat.lt_or_ge j i with h | h
         · exact hall j hj h
         · have : j = i := by omega
           subst this; exact hp
       · exact mK
     · rw [hp] at c1
       have er := fidx_at hlt (fun j hj => hall j (by omega) hj) hp
       have ff := And.intro e1 (And.intro hn (And.intro hw er))
       exact mWE
   · have e1 : decide ((i : Int) < (l.length : Int)) = false := dfO
     have er := fidx_none (p := lostB e) (l := l) fun j hj => hall j hj (by omega)
     have ff := And.intro e1 er
     exact mWE
theorem rcontains_c (e : Eng) (l : List Root) (hl : l.length ≤ 1000) (hc : ∀ a : Root, Cal Tryz.prog 65 ([AV.root a] ++ [.ref e.av]) (.bool (lostB e a))) : Cal Tryz.prog 63 [.sl (l.map AV.root) false, .fn (.func 65) [] [.ref e.av]] (.bool (l.any (lostB e))) := by
 have c1 := rindex_c e l hl hc
 have er := fidx_any (lostB e) l
 have ff := er
 have hR : Tryz.f63.results.toList = [.tmp 4] := rfl
 refine cal_tr Tryz.func63 rfl fun E hE hP => ?_
 exact mWE
def mayE (e : Eng) : Bool := fitB e.t e.vl e.o e.b && (decide (weights e.t e.vl e.b = e.w) && (lmayA e.late && (lmayB e.k && (decide (e.now ≤ 1099511627776) && (decide (e.fin ∈ e.j) && (!((nextA e.late).2 && decide ((nextA e.late).1 < e.now)) &&
 (!(rootsL e).any (lostB e) && (decide e.j.Nodup && (decide ((moreR e.t e.k e.b e.j).length = e.j.length) && decide (nextR e.t e.k e.b e.j e.fin = e.fin))))))))))
theorem rootsL_len {e : Eng} (he : e.few) : (rootsL e).length ≤ 220 := by
 have h1 := he.j
 have h2 := he.k
 have h3 := he.vl
 have h4 := rootsV_len e.vl
 unfold rootsL
 rw [List.length_append, List.length_append, rootsK_len]
 unfold rootsJ
 rw [List.length_map]
 omega
theorem may_n1 (e : Eng) (_ : e.few) (_ : e.ok) (h1 : fitB e.t e.vl e.o e.b = false) : CalT Tryz.prog 0 tabV 24 [e.av] (.bool (mayE e)) := by
 have c1 := weights_no e.t e.vl e.o e.b h1
 have er : mayE e = false := by simp only [mayE, h1, Bool.true_and, Bool.false_and, Bool.and_false, Bool.not_true, Bool.not_false]
 have ff := er
 have hR : Tryz.f24.results.toList = [.tmp 2] := rfl
 refine calE_tr Tryz.func24 rfl fun E hE hP => ?_
 exact mX
theorem may_n2 (e : Eng) (he : e.few) (ho : e.ok) (h1 : fitB e.t e.vl e.o e.b = true) (h2 : decide (weights e.t e.vl e.b = e.w) = false) : CalT Tryz.prog 0 tabV 24 [e.av] (.bool (mayE e)) := by
 have c1 := weights_c e.t e.vl e.o e.b ho.b h1
 have hwl : (weights e.t e.vl e.b).length ≤ 1000 := by
  have := he.t
  unfold weights subW ownW
  rw [subTo_len, votTo_len]; omega
 have c2 := wsame_c (weights e.t e.vl e.b) e.w hwl
 rw [h2] at c2
 have er : mayE e = false := by simp only [mayE, h1, h2, Bool.true_and, Bool.false_and, Bool.and_false, Bool.not_true, Bool.not_false]
 have ff := er
 have hR : Tryz.f24.results.toList = [.tmp 2] := rfl
 refine calE_tr Tryz.func24 rfl fun E hE hP => ?_
 exact mX
theorem may_n3 (e : Eng) (he : e.few) (ho : e.ok) (h1 : fitB e.t e.vl e.o e.b = true) (h2 : decide (weights e.t e.vl e.b = e.w) = true) (h3 : lmayA e.late = false) : CalT Tryz.prog 0 tabV 24 [e.av] (.bool (mayE e)) := by
 have c1 := weights_c e.t e.vl e.o e.b ho.b h1
 have hwl : (weights e.t e.vl e.b).length ≤ 1000 := by
  have := he.t
  unfold weights subW ownW
  rw [subTo_len, votTo_len]; omega
 have c2 := wsame_c (weights e.t e.vl e.b) e.w hwl
 rw [h2] at c2
 have c3 := lmay_c e.late
 rw [h3] at c3
 have er : mayE e = false := by simp only [mayE, h1, h2, h3, Bool.true_and, Bool.false_and, Bool.and_false, Bool.not_true, Bool.not_false]
 have ff := er
 have hR : Tryz.f24.results.toList = [.tmp 2] := rfl
 refine calE_tr Tryz.func24 rfl fun E hE hP => ?_
 exact mX
theorem may_n4 (e : Eng) (he : e.few) (ho : e.ok) (h1 : fitB e.t e.vl e.o e.b = true) (h2 : decide (weights e.t e.vl e.b = e.w) = true) (h3 : lmayA e.late = true) (h4 : lmayB e.k = false) : CalT Tryz.prog 0 tabV 24 [e.av] (.bool (mayE e)) := by
 have c1 := weights_c e.t e.vl e.o e.b ho.b h1
 have hwl : (weights e.t e.vl e.b).length ≤ 1000 := by
  have := he.t
  unfold weights subW ownW
  rw [subTo_len, votTo_len]; omega
 have c2 := wsame_c (weights e.t e.vl e.b) e.w hwl
 rw [h2] at c2
 have c3 := lmay_c e.late
 rw [h3] at c3
 have c4 := And.intro (en Tryz.func60) (LMay_pure e.k)
 rw [h4] at c4
 have er : mayE e = false := by simp only [mayE, h1, h2, h3, h4, Bool.true_and, Bool.false_and, Bool.and_false, Bool.not_true, Bool.not_false]
 have ff := er
 have hR : Tryz.f24.results.toList = [.tmp 2] := rfl
 refine calE_tr Tryz.func24 rfl fun E hE hP => ?_
 exact mX
theorem may_n5 (e : Eng) (he : e.few) (ho : e.ok) (h1 : fitB e.t e.vl e.o e.b = true) (h2 : decide (weights e.t e.vl e.b = e.w) = true) (h3 : lmayA e.late = true) (h4 : lmayB e.k = true) (h5 : decide (e.now ≤ 1099511627776) = false) : CalT Tryz.prog 0 tabV 24 [e.av] (.bool (mayE e)) := by
 have c1 := weights_c e.t e.vl e.o e.b ho.b h1
 have hwl : (weights e.t e.vl e.b).length ≤ 1000 := by
  have := he.t
  unfold weights subW ownW
  rw [subTo_len, votTo_len]; omega
 have c2 := wsame_c (weights e.t e.vl e.b) e.w hwl
 rw [h2] at c2
 have c3 := lmay_c e.late
 rw [h3] at c3
 have c4 := And.intro (en Tryz.func60) (LMay_pure e.k)
 rw [h4] at c4
 have g5 : decide (1099511627776 < e.now) = true := decide_eq_true (by have := of_decide_eq_false h5; omega)
 have er : mayE e = false := by simp only [mayE, h1, h2, h3, h4, h5, Bool.true_and, Bool.false_and, Bool.and_false, Bool.not_true, Bool.not_false]
 have ff := And.intro g5 er
 have hR : Tryz.f24.results.toList = [.tmp 2] := rfl
 refine calE_tr Tryz.func24 rfl fun E hE hP => ?_
 exact mX
theorem may_n6 (e : Eng) (he : e.few) (ho : e.ok) (h1 : fitB e.t e.vl e.o e.b = true) (h2 : decide (weights e.t e.vl e.b = e.w) = true) (h3 : lmayA e.late = true) (h4 : lmayB e.k = true) (h5 : decide (e.now ≤ 1099511627776) = true) (h6 : decide (e.fin ∈ e.j) = false) : CalT Tryz.prog 0 tabV 24 [e.av] (.bool (mayE e)) := by
 have c1 := weights_c e.t e.vl e.o e.b ho.b h1
 have hwl : (weights e.t e.vl e.b).length ≤ 1000 := by
  have := he.t
  unfold weights subW ownW
  rw [subTo_len, votTo_len]; omega
 have c2 := wsame_c (weights e.t e.vl e.b) e.w hwl
 rw [h2] at c2
 have c3 := lmay_c e.late
 rw [h3] at c3
 have c4 := And.intro (en Tryz.func60) (LMay_pure e.k)
 rw [h4] at c4
 have hj := he.j
 have c5 := And.intro (en Tryz.func61) (ccontains_pure e.j e.fin (by omega))
 rw [h6] at c5
 have g5 : decide (1099511627776 < e.now) = false := decide_eq_false (by have := of_decide_eq_true h5; omega)
 have er : mayE e = false := by simp only [mayE, h1, h2, h3, h4, h5, h6, Bool.true_and, Bool.false_and, Bool.and_false, Bool.not_true, Bool.not_false]
 have ff := And.intro g5 er
 have hR : Tryz.f24.results.toList = [.tmp 2] := rfl
 refine calE_tr Tryz.func24 rfl fun E hE hP => ?_
 exact mX
theorem may_n7 (e : Eng) (he : e.few) (ho : e.ok) (h1 : fitB e.t e.vl e.o e.b = true) (h2 : decide (weights e.t e.vl e.b = e.w) = true) (h3 : lmayA e.late = true) (h4 : lmayB e.k = true) (h5 : decide (e.now ≤ 1099511627776) = true) (h6 : decide (e.fin ∈ e.j) = true) (h7 : ((nextA e.late).2 && decide ((nextA e.late).1 < e.now)) = true) : CalT Tryz.prog 0 tabV 24 [e.av] (.bool (mayE e)) := by
 have c1 := weights_c e.t e.vl e.o e.b ho.b h1
 have hwl : (weights e.t e.vl e.b).length ≤ 1000 := by
  have := he.t
  unfold weights subW ownW
  rw [subTo_len, votTo_len]; omega
 have c2 := wsame_c (weights e.t e.vl e.b) e.w hwl
 rw [h2] at c2
 have c3 := lmay_c e.late
 rw [h3] at c3
 have c4 := And.intro (en Tryz.func60) (LMay_pure e.k)
 rw [h4] at c4
 have hj := he.j
 have c5 := And.intro (en Tryz.func61) (ccontains_pure e.j e.fin (by omega))
 rw [h6] at c5
 have c6 := next_c e.late (by have := he.late; omega)
 have g5 : decide (1099511627776 < e.now) = false := decide_eq_false (by have := of_decide_eq_true h5; omega)
 have er : mayE e = false := by simp only [mayE, h1, h2, h3, h4, h5, h6, h7, Bool.true_and, Bool.false_and, Bool.and_false, Bool.not_true, Bool.not_false]
 rw [Bool.and_eq_true] at h7
 rw [h7.1] at c6
 have ff := And.intro g5 (And.intro h7.2 er)
 have hR : Tryz.f24.results.toList = [.tmp 2] := rfl
 refine calE_tr Tryz.func24 rfl fun E hE hP => ?_
 exact mX
theorem may_n8 (e : Eng) (he : e.few) (ho : e.ok) (h1 : fitB e.t e.vl e.o e.b = true) (h2 : decide (weights e.t e.vl e.b = e.w) = true) (h3 : lmayA e.late = true) (h4 : lmayB e.k = true) (h5 : decide (e.now ≤ 1099511627776) = true) (h6 : decide (e.fin ∈ e.j) = true) (h7 : ((nextA e.late).2 && decide ((nextA e.late).1 < e.now)) = false) (h8 : (rootsL e).any (lostB e) = true) : CalT Tryz.prog 0 tabV 24 [e.av] (.bool (mayE e)) := by
 have c1 := weights_c e.t e.vl e.o e.b ho.b h1
 have hwl : (weights e.t e.vl e.b).length ≤ 1000 := by
  have := he.t
  unfold weights subW ownW
  rw [subTo_len, votTo_len]; omega
 have c2 := wsame_c (weights e.t e.vl e.b) e.w hwl
 rw [h2] at c2
 have c3 := lmay_c e.late
 rw [h3] at c3
 have c4 := And.intro (en Tryz.func60) (LMay_pure e.k)
 rw [h4] at c4
 have hj := he.j
 have c5 := And.intro (en Tryz.func61) (ccontains_pure e.j e.fin (by omega))
 rw [h6] at c5
 have c6 := next_c e.late (by have := he.late; omega)
 have c7 := roots_c e he
 have c8 := rcontains_c e (rootsL e) (by have := rootsL_len he; omega) (may1_c e)
 rw [h8] at c8
 have g5 : decide (1099511627776 < e.now) = false := decide_eq_false (by have := of_decide_eq_true h5; omega)
 have er : mayE e = false := by simp only [mayE, h1, h2, h3, h4, h5, h6, h7, h8, Bool.true_and, Bool.false_and, Bool.and_false, Bool.not_true, Bool.not_false]
 cases hs : (nextA e.late).2
 · rw [hs] at c6
   have ff := And.intro g5 er
   have hR : Tryz.f24.results.toList = [.tmp 2] := rfl
   refine calE_tr Tryz.func24 rfl fun E hE hP => ?_
   exact mX
 · rw [hs, Bool.true_and] at h7
   rw [hs] at c6
   have ff := And.intro g5 (And.intro h7 er)
   have hR : Tryz.f24.results.toList = [.tmp 2] := rfl
   refine calE_tr Tryz.func24 rfl fun E hE hP => ?_
   exact mX
theorem may_y0 (e : Eng) (he : e.few) (ho : e.ok) (h1 : fitB e.t e.vl e.o e.b = true) (h2 : decide (weights e.t e.vl e.b = e.w) = true) (h3 : lmayA e.late = true) (h4 : lmayB e.k = true) (h5 : decide (e.now ≤ 1099511627776) = true) (h6 : decide (e.fin ∈ e.j) = true) (h7 : ((nextA e.late).2 && decide ((nextA e.late).1 < e.now)) = false) (h8 : (rootsL e).any (lostB e) = false) (hs : (nextA e.late).2 = false) : CalT Tryz.prog 0 tabV 24 [e.av] (.bool (mayE e)) := by
 have c1 := weights_c e.t e.vl e.o e.b ho.b h1
 have hwl : (weights e.t e.vl e.b).length ≤ 1000 := by
  have := he.t
  unfold weights subW ownW
  rw [subTo_len, votTo_len]; omega
 have c2 := wsame_c (weights e.t e.vl e.b) e.w hwl
 rw [h2] at c2
 have c3 := lmay_c e.late
 rw [h3] at c3
 have c4 := And.intro (en Tryz.func60) (LMay_pure e.k)
 rw [h4] at c4
 have hj := he.j
 have hk := he.k
 have c5 := And.intro (en Tryz.func61) (ccontains_pure e.j e.fin (by omega))
 rw [h6] at c5
 have c6 := next_c e.late (by have := he.late; omega)
 have c7 := roots_c e he
 have c8 := rcontains_c e (rootsL e) (by have := rootsL_len he; omega) (may1_c e)
 rw [h8] at c8
 have x1 := And.intro (en Tryz.func66) (more_T e.t e.k e.b e.j hk hj ho.b ho.kL)
 have x2 := And.intro (en Tryz.func67) (next_T e.t e.k e.b e.j e.fin (by omega) (by omega) ho.b ho.kL ho.kC)
 have g5 : decide (1099511627776 < e.now) = false := decide_eq_false (by have := of_decide_eq_true h5; omega)
 have er : mayE e = (decide e.j.Nodup && (decide ((moreR e.t e.k e.b e.j).length = e.j.length) && decide (nextR e.t e.k e.b e.j e.fin = e.fin))) := by
  simp only [mayE, h1, h2, h3, h4, h5, h6, h7, h8, Bool.true_and, Bool.not_false]
 rw [hs] at c6
 have ff := g5
 have hR : Tryz.f24.results.toList = [.tmp 2] := rfl
 refine calE_tr Tryz.func24 rfl fun E hE hP => ?_
 refine mW ?_
 refine Tr.loop (fun i : Nat => (⟨[(1, .ptr 1 [] 0), (7, .mp 2), (73, .sl (e.j.map Check.av) false), (74, .int .i64 e.j.length), (75, .int .i64 i)], [(0, .tab 0 tabV), (1, .var e.av), (2, .amap ((insTo e.j i).map centE))], 3, []⟩ : S)) (fun i => i ≤ e.j.length ∧ (e.j.take i).Nodup) (fun i => e.j.length - i) 0 ⟨Nat.zero_le _, List.nodup_nil⟩ ?_ ?_
 · refine wk_ren (fun | 2 => 1009 | n => n) mB mB rfl rfl rfl
 · intro i ⟨hi, hnd⟩
   by_cases hlt : i < e.j.length
   · have e1 : decide ((i : Int) < (e.j.length : Int)) = true := dtO
     have hn := nth_map_lt Check.av e.j i hlt
     have hw := wN i
     have hin : e.j[i] ∈ insTo e.j i ↔ e.j[i] ∈ e.j.take i := by unfold insTo; rw [insTo_mem]; simp
     have hnx : insTo e.j (i + 1) = insC (insTo e.j i) e.j[i] := foldl_next insC [] hlt
     have htk : e.j.take (i + 1) = e.j.take i ++ [e.j[i]] := by rw [List.take_add_one, List.getElem?_eq_getElem hlt]; rfl
     have hno : e.j[i] ∈ e.j.take i → ¬ e.j.Nodup := fun h hd => by
      have h1 : (e.j.take (i + 1)).Nodup := hd.sublist (List.take_sublist _ _)
      rw [htk, List.nodup_append] at h1
      exact h1.2.2 _ h _ (by simp) rfl
     have hyes : ¬ e.j[i] ∈ e.j.take i → (e.j.take (i + 1)).Nodup := fun h => by
      rw [htk, List.nodup_append]
      exact ⟨hnd, by simp, fun a ha b hb hab => h (by rw [List.mem_singleton.1 hb] at hab; rw [← hab]; exact ha)⟩
     rw [← hin] at hno hyes
     generalize insTo e.j i = es at hno hyes hnx
     generalize e.j[i] = c at hn hno hyes hnx
     have ff := And.intro e1 (And.intro hn hw)
     refine mW ?_
     by_cases hc : c ∈ es
     · have ec : decide (c ∈ es) = true := decide_eq_true hc
       have er2 : decide e.j.Nodup = false := decide_eq_false (hno hc)
       rw [er2, Bool.false_and] at er
       first | apply tr_m xE | (refine Tr.seq ?_; apply tr_m xE)
       intro Q hQ
       refine mS ?_
       iterate 2 (refine vm_op ?_; intro r hr; simp only [ec, go_sem, seval]; subst hr)
       refine vm_op ?_; intro r hr; simp only [ec, go_sem, seval]
       refine look56 rfl ?_
       try simp only [ec, go_sem, seval]
       subst hr
       exact hQ
       have ff := er
       exact mX
     · have ec : decide (c ∈ es) = false := decide_eq_false hc
       first | apply tr_m xE | (refine Tr.seq ?_; apply tr_m xE)
       intro Q hQ
       refine mS ?_
       iterate 2 (refine vm_op ?_; intro r hr; simp only [ec, go_sem, seval]; subst hr)
       refine vm_op ?_; intro r hr; simp only [ec, go_sem, seval]
       refine look56 rfl ?_
       try simp only [ec, go_sem, seval]
       subst hr
       exact hQ
       refine mC ?_
       refine mC ?_
       apply tr_ml xE
       intro Q hQ
       refine mS ?_
       iterate 2 refine mV ?_
       refine vm_op ?_; intro r hr; simp only [go_sem, seval]
       refine upd56 rfl ?_
       try simp only [go_sem, seval]
       subst hr
       exact hQ
       refine mW ?_
       refine ⟨i + 1, ⟨hlt, hyes hc⟩, by omega, ?_⟩
       rw [hnx]
       exact mK
   · have e1 : decide ((i : Int) < (e.j.length : Int)) = false := dfO
     have hil : i = e.j.length := by omega
     subst hil
     rw [List.take_length] at hnd
     rw [decide_eq_true hnd, Bool.true_and] at er
     by_cases hm : (moreR e.t e.k e.b e.j).length = e.j.length
     · have em : decide (((moreR e.t e.k e.b e.j).length : Int) = (e.j.length : Int)) = true := dtO
       rw [decide_eq_true hm, Bool.true_and] at er
       have ff := And.intro e1 (And.intro em er)
       exact mX
     · have em : decide (((moreR e.t e.k e.b e.j).length : Int) = (e.j.length : Int)) = false := dfO
       rw [decide_eq_false hm, Bool.false_and] at er
       have ff := And.intro e1 (And.intro em er)
       exact mX
theorem may_y1 (e : Eng) (he : e.few) (ho : e.ok) (h1 : fitB e.t e.vl e.o e.b = true) (h2 : decide (weights e.t e.vl e.b = e.w) = true) (h3 : lmayA e.late = true) (h4 : lmayB e.k = true) (h5 : decide (e.now ≤ 1099511627776) = true) (h6 : decide (e.fin ∈ e.j) = true) (h7 : ((nextA e.late).2 && decide ((nextA e.late).1 < e.now)) = false) (h8 : (rootsL e).any (lostB e) = false) (hs : (nextA e.late).2 = true) : CalT Tryz.prog 0 tabV 24 [e.av] (.bool (mayE e)) := by
 have c1 := weights_c e.t e.vl e.o e.b ho.b h1
 have hwl : (weights e.t e.vl e.b).length ≤ 1000 := by
  have := he.t
  unfold weights subW ownW
  rw [subTo_len, votTo_len]; omega
 have c2 := wsame_c (weights e.t e.vl e.b) e.w hwl
 rw [h2] at c2
 have c3 := lmay_c e.late
 rw [h3] at c3
 have c4 := And.intro (en Tryz.func60) (LMay_pure e.k)
 rw [h4] at c4
 have hj := he.j
 have hk := he.k
 have c5 := And.intro (en Tryz.func61) (ccontains_pure e.j e.fin (by omega))
 rw [h6] at c5
 have c6 := next_c e.late (by have := he.late; omega)
 have c7 := roots_c e he
 have c8 := rcontains_c e (rootsL e) (by have := rootsL_len he; omega) (may1_c e)
 rw [h8] at c8
 have x1 := And.intro (en Tryz.func66) (more_T e.t e.k e.b e.j hk hj ho.b ho.kL)
 have x2 := And.intro (en Tryz.func67) (next_T e.t e.k e.b e.j e.fin (by omega) (by omega) ho.b ho.kL ho.kC)
 have g5 : decide (1099511627776 < e.now) = false := decide_eq_false (by have := of_decide_eq_true h5; omega)
 have er : mayE e = (decide e.j.Nodup && (decide ((moreR e.t e.k e.b e.j).length = e.j.length) && decide (nextR e.t e.k e.b e.j e.fin = e.fin))) := by
  simp only [mayE, h1, h2, h3, h4, h5, h6, h7, h8, Bool.true_and, Bool.not_false]
 rw [hs, Bool.true_and] at h7
 rw [hs] at c6
 have ff := And.intro g5 h7
 have hR : Tryz.f24.results.toList = [.tmp 2] := rfl
 refine calE_tr Tryz.func24 rfl fun E hE hP => ?_
 refine mW ?_
 refine Tr.loop (fun i : Nat => (⟨[(1, .ptr 1 [] 0), (7, .mp 2), (73, .sl (e.j.map Check.av) false), (74, .int .i64 e.j.length), (75, .int .i64 i)], [(0, .tab 0 tabV), (1, .var e.av), (2, .amap ((insTo e.j i).map centE))], 3, []⟩ : S)) (fun i => i ≤ e.j.length ∧ (e.j.take i).Nodup) (fun i => e.j.length - i) 0 ⟨Nat.zero_le _, List.nodup_nil⟩ ?_ ?_
 · refine wk_ren (fun | 2 => 1073 | n => n) mB mB rfl rfl rfl
 · intro i ⟨hi, hnd⟩
   by_cases hlt : i < e.j.length
   · have e1 : decide ((i : Int) < (e.j.length : Int)) = true := dtO
     have hn := nth_map_lt Check.av e.j i hlt
     have hw := wN i
     have hin : e.j[i] ∈ insTo e.j i ↔ e.j[i] ∈ e.j.take i := by unfold insTo; rw [insTo_mem]; simp
     have hnx : insTo e.j (i + 1) = insC (insTo e.j i) e.j[i] := foldl_next insC [] hlt
     have htk : e.j.take (i + 1) = e.j.take i ++ [e.j[i]] := by rw [List.take_add_one, List.getElem?_eq_getElem hlt]; rfl
     have hno : e.j[i] ∈ e.j.take i → ¬ e.j.Nodup := fun h hd => by
      have h1 : (e.j.take (i + 1)).Nodup := hd.sublist (List.take_sublist _ _)
      rw [htk, List.nodup_append] at h1
      exact h1.2.2 _ h _ (by simp) rfl
     have hyes : ¬ e.j[i] ∈ e.j.take i → (e.j.take (i + 1)).Nodup := fun h => by
      rw [htk, List.nodup_append]
      exact ⟨hnd, by simp, fun a ha b hb hab => h (by rw [List.mem_singleton.1 hb] at hab; rw [← hab]; exact ha)⟩
     rw [← hin] at hno hyes
     generalize insTo e.j i = es at hno hyes hnx
     generalize e.j[i] = c at hn hno hyes hnx
     have ff := And.intro e1 (And.intro hn hw)
     refine mW ?_
     by_cases hc : c ∈ es
     · have ec : decide (c ∈ es) = true := decide_eq_true hc
       have er2 : decide e.j.Nodup = false := decide_eq_false (hno hc)
       rw [er2, Bool.false_and] at er
       first | apply tr_m xE | (refine Tr.seq ?_; apply tr_m xE)
       intro Q hQ
       refine mS ?_
       iterate 2 (refine vm_op ?_; intro r hr; simp only [ec, go_sem, seval]; subst hr)
       refine vm_op ?_; intro r hr; simp only [ec, go_sem, seval]
       refine look56 rfl ?_
       try simp only [ec, go_sem, seval]
       subst hr
       exact hQ
       have ff := er
       exact mX
     · have ec : decide (c ∈ es) = false := decide_eq_false hc
       first | apply tr_m xE | (refine Tr.seq ?_; apply tr_m xE)
       intro Q hQ
       refine mS ?_
       iterate 2 (refine vm_op ?_; intro r hr; simp only [ec, go_sem, seval]; subst hr)
       refine vm_op ?_; intro r hr; simp only [ec, go_sem, seval]
       refine look56 rfl ?_
       try simp only [ec, go_sem, seval]
       subst hr
       exact hQ
       refine mC ?_
       refine mC ?_
       apply tr_ml xE
       intro Q hQ
       refine mS ?_
       iterate 2 refine mV ?_
       refine vm_op ?_; intro r hr; simp only [go_sem, seval]
       refine upd56 rfl ?_
       try simp only [go_sem, seval]
       subst hr
       exact hQ
       refine mW ?_
       refine ⟨i + 1, ⟨hlt, hyes hc⟩, by omega, ?_⟩
       rw [hnx]
       exact mK
   · have e1 : decide ((i : Int) < (e.j.length : Int)) = false := dfO
     have hil : i = e.j.length := by omega
     subst hil
     rw [List.take_length] at hnd
     rw [decide_eq_true hnd, Bool.true_and] at er
     by_cases hm : (moreR e.t e.k e.b e.j).length = e.j.length
     · have em : decide (((moreR e.t e.k e.b e.j).length : Int) = (e.j.length : Int)) = true := dtO
       rw [decide_eq_true hm, Bool.true_and] at er
       have ff := And.intro e1 (And.intro em er)
       exact mX
     · have em : decide (((moreR e.t e.k e.b e.j).length : Int) = (e.j.length : Int)) = false := dfO
       rw [decide_eq_false hm, Bool.false_and] at er
       have ff := And.intro e1 (And.intro em er)
       exact mX
theorem may_t (e : Eng) (he : e.few) (ho : e.ok) : CalT Tryz.prog 0 tabV 24 [e.av] (.bool (mayE e)) := by
 cases h1 : fitB e.t e.vl e.o e.b
 · exact may_n1 e he ho h1
 cases h2 : decide (weights e.t e.vl e.b = e.w)
 · exact may_n2 e he ho h1 h2
 cases h3 : lmayA e.late
 · exact may_n3 e he ho h1 h2 h3
 cases h4 : lmayB e.k
 · exact may_n4 e he ho h1 h2 h3 h4
 cases h5 : decide (e.now ≤ 1099511627776)
 · exact may_n5 e he ho h1 h2 h3 h4 h5
 cases h6 : decide (e.fin ∈ e.j)
 · exact may_n6 e he ho h1 h2 h3 h4 h5 h6
 cases h7 : (nextA e.late).2 && decide ((nextA e.late).1 < e.now)
 · cases h8 : (rootsL e).any (lostB e)
   · cases hs : (nextA e.late).2
     · exact may_y0 e he ho h1 h2 h3 h4 h5 h6 h7 h8 hs
     · exact may_y1 e he ho h1 h2 h3 h4 h5 h6 h7 h8 hs
   · exact may_n8 e he ho h1 h2 h3 h4 h5 h6 h7 h8
 · exact may_n7 e he ho h1 h2 h3 h4 h5 h6 h7
@[go_sem] theorem sbuild24 (xs : List AV) (c : Bool) (K : AV → Prop) : buildK Tryz.prog 24 [(0, .sl xs c)] K = K (.st [.sl xs c]) := build_struct Tryz.underlying24 tZero47 rfl kR rfl K
@[go_sem] theorem sbuild24_0 (K : AV → Prop) : buildK Tryz.prog 24 [] K = K (.st [.sl [] true]) := build_struct Tryz.underlying24 tZero47 rfl kR rfl K
@[go_sem] theorem sbuild63_012 (r : Root) (p s : Int) (K : AV → Prop) : buildK Tryz.prog 65 [(0, .root r), (1, .int .i64 p), (2, .int .u64 s)] K = K (Node.mk r p s 0).av := build_struct Tryz.underlying65 tZero63 rfl kR rfl K
@[go_sem] theorem sbuild36_1 (r : Root) (K : AV → Prop) : buildK Tryz.prog 36 [(1, .root r)] K = K (Check.mk 0 r).av := build_struct Tryz.underlying36 tZero28 rfl kR rfl K
def one (r : Root) : List Node := [⟨r, -1, 0, 0⟩]
theorem one_may (r : Root) : mayB (one r) = true := by
 unfold mayB one
 simp [fitsB, onceB]
theorem tnew_c (r : Root) : Cal Tryz.prog 74 [.root r, .int .u64 0] (.tup [tav (one r), .bool true]) := by
 have c1 := And.intro (en Tryz.func71) (may_pure (one r))
 rw [one_may] at c1
 unfold one at *
 have hR : Tryz.f74.results.toList = [.cell 4 24, .tmp 5] := rfl
 refine cal_tr Tryz.func74 rfl fun E hE hP => ?_
 exact mX
theorem vnew_c (n : Nat) (h1 : 1 ≤ n) (h8 : n ≤ 8) : Cal Tryz.prog 75 [.int .i64 n] (.tup [vav (List.replicate n zLatest) 0, .bool true]) := by
 have e1 : decide ((n : Int) < 1) = false := dfO
 have e2 : decide ((8 : Int) < (n : Int)) = false := dfO
 have er : List.map Latest.av (List.replicate n zLatest) = List.replicate n zLatest.av := List.map_replicate
 have ff := And.intro e1 (And.intro e2 (And.intro er (List.length_replicate (n := n) (a := zLatest.av))))
 have hR : Tryz.f75.results.toList = [.cell 2 29, .tmp 3] := rfl
 refine cal_tr Tryz.func75 rfl fun E hE hP => ?_
 exact mX
def newE (r : Root) (b : List Int) : Eng := ⟨one r, b, List.replicate b.length zLatest, 0, [0], [], [], [⟨0, r⟩], ⟨0, r⟩, 0⟩
theorem enew_c (r : Root) (b : List Int) (hS : mayS b = true) : Cal Tryz.prog 29 [.root r, u64s b] (.tup [(newE r b).av, .bool true]) := by
 obtain ⟨h1, h8, _⟩ := mayS_spec hS
 have c1 := tnew_c r
 have c2 := vnew_c b.length h1 h8
 have c3 := And.intro (en Tryz.func76) (smay_pure b)
 rw [hS] at c3
 have hR : Tryz.f29.results.toList = [.cell 4 38, .tmp 5] := rfl
 refine cal_tr Tryz.func29 rfl fun E hE hP => ?_
 refine mW ?_
 refine tr_seq_plan mixed _ (.one 0 (.one 1 (.one 3 (.one 5 (.one 6 (.one 7 (.two 2 (.one 4 (.one 8 (.one 9 (.one 10 .done)))) 4 (.one 2 (.one 8 (.one 9 (.one 10 .done))))))))))) (⟨[(4, .ptr 0 [] 0), (5, .bool true)], [(0, .var (.st [tav (one r), .ms 1 1 b.length, vav (List.replicate b.length zLatest) 0, .ms 2 1 1, .sl [] true, .sl [] true, .sl [(Check.mk 0 r).av] true, (Check.mk 0 r).av, .int .u64 0])), (1, .row 1 (b.map uav)), (2, .row 1 [.int .u64 0])], 3, []⟩) (keepAll _) xE kR ?_ ?_
 · simp only [List.map_cons, List.map_nil]
   refine pR ?_; simp only [gA, List.replicate_succ, List.replicate_zero, go_sem, seval]
   refine pR ?_; simp only [gA, List.replicate_succ, List.replicate_zero, go_sem, seval]
   refine pR ?_; simp only [gA, List.replicate_succ, List.replicate_zero, go_sem, seval]
   refine pR ?_; simp only [gA, List.replicate_succ, List.replicate_zero, go_sem, seval]
   refine pR ?_; simp only [gA, List.replicate_succ, List.replicate_zero, go_sem, seval]
   refine pR ?_; simp only [gA, List.replicate_succ, List.replicate_zero, go_sem, seval]
   apply pl_two; exact rfl; exact rfl
   · refine st_x rfl rfl ?_; simp only [gA, List.replicate_succ, List.replicate_zero, go_sem, seval]
     refine call_own rfl rfl rfl rfl (en Tryz.func77) ((uclone_c b (by omega)).2) rfl rfl ?_
     refine mS ?_
     apply pl_x; exact rfl
     refine st_x rfl rfl ?_; simp only [gA, List.replicate_succ, List.replicate_zero, go_sem, seval]
     refine pR ?_; simp only [gA, List.replicate_succ, List.replicate_zero, go_sem, seval]
     apply pl_x; exact rfl
     refine st_w rfl rfl kR ?_; simp only [gA, List.replicate_succ, List.replicate_zero, go_sem, seval]
     refine pR ?_; simp only [gA, List.replicate_succ, List.replicate_zero, go_sem, seval]
     refine pl_done (st := _) ?_ rfl
     refine wk_ren (fun | 0 => 16 | 1 => 592 | 2 => 624 | n => n) mB mB rfl rfl rfl
   · refine st_x rfl rfl ?_; simp only [gA, List.replicate_succ, List.replicate_zero, go_sem, seval]
     apply pl_x; exact rfl
     refine st_x rfl rfl ?_; simp only [gA, List.replicate_succ, List.replicate_zero, go_sem, seval]
     refine call_own rfl rfl rfl rfl (en Tryz.func77) ((uclone_c b (by omega)).2) rfl rfl ?_
     refine mS ?_
     refine pR ?_; simp only [gA, List.replicate_succ, List.replicate_zero, go_sem, seval]
     apply pl_x; exact rfl
     refine st_w rfl rfl kR ?_; simp only [gA, List.replicate_succ, List.replicate_zero, go_sem, seval]
     refine pR ?_; simp only [gA, List.replicate_succ, List.replicate_zero, go_sem, seval]
     refine pl_done (st := _) ?_ rfl
     refine wk_ren (fun | 0 => 16 | 1 => 592 | 2 => 624 | n => n) mB mB rfl rfl rfl
 exact mX
theorem aboveF_le {t : List Node} (hm : mayB t = true) {i : Int} : ∀ (n : Nat) (a : Int), a < n → 0 ≤ a → a < t.length → aboveF t i a = true → i ≤ a
 | 0, a, h, h0, _, _ => by omega
 | n + 1, a, h, h0, h1, hf => by
   rw [aboveF_step hm h0 h1] at hf
   split at hf
   · omega
   · split at hf
     · cases hf
     · omega
theorem aboveF_trans {t : List Node} (hm : mayB t = true) {i k : Int} (h0 : 0 ≤ k) (hk : k < t.length) (hi : aboveF t i k = true) : ∀ (n : Nat) (a : Int), a < n → 0 ≤ a → a < t.length → aboveF t k a = true → aboveF t i a = true
 | 0, a, h, g0, _, _ => by omega
 | n + 1, a, h, g0, h1, hf => by
   have hle := aboveF_le hm (k.toNat + 1) k (by omega) h0 hk hi
   have hla := aboveF_le hm (a.toNat + 1) a (by omega) g0 h1 hf
   rw [aboveF_step hm g0 h1] at hf
   by_cases e : a = k
   · rw [e]; exact hi
   · rw [if_neg e, if_neg (by omega)] at hf
     rw [aboveF_step hm g0 h1]
     by_cases e2 : a = i
     · rw [if_pos e2]
     · rw [if_neg e2, if_neg (by omega)]
       rcases par_range hm g0 h1 with h2 | ⟨h2, h3⟩
       · rw [h2] at hf
         unfold aboveF at hf
         rw [aboveN_none] at hf
         cases hf
       · exact aboveF_trans hm h0 hk hi n _ (by omega) h2 (by omega) hf
theorem above_spec {t : List Node} {i k : Int} : aboveR t i k = true ↔ mayB t = true ∧ (0 ≤ i ∧ i < t.length) ∧ (0 ≤ k ∧ k < t.length) ∧ aboveF t i k = true := by
 unfold aboveR
 rw [Bool.and_eq_true, isB_two, Bool.and_eq_true]
 constructor
 · rintro ⟨⟨h1, h2⟩, h3⟩
   exact ⟨(isB_spec h1).1, (isB_spec h1).2, (isB_spec h2).2, h3⟩
 · rintro ⟨h1, h2, h3, h4⟩
   refine ⟨⟨?_, ?_⟩, h4⟩
   · unfold isB; rw [h1]; simp [badI]; omega
   · unfold isB; rw [h1]; simp [badI]; omega
theorem above_self {t : List Node} {i : Int} (hm : mayB t = true) (h0 : 0 ≤ i) (h1 : i < t.length) : aboveR t i i = true := by
 rw [above_spec]
 exact ⟨hm, ⟨h0, h1⟩, ⟨h0, h1⟩, by rw [aboveF_step hm h0 h1, if_pos rfl]⟩
end Go.Proofs.YtgnidooihignfaaGreatDoor

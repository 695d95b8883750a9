/- Links: the types. -/
import Derived.Test.YtdlejnafhmpobaaDoorFbS
set_option linter.unusedSimpArgs false
set_option maxRecDepth 10000
namespace Go.Proofs.YtdlejnafhmpobaaDoor
open Go Go.Ab

structure Link where
  s : Check
  t : Check
  mask : Int
  deriving DecidableEq
def Link.av (a : Link) : AV := .st [a.s.av, a.t.av, .int .u64 a.mask]
@[go_sem] theorem Link.av_flat (a : Link) : a.av.flat = true := rfl
@[go_sem] theorem Link.av_len (a : Link) : a.av.len = 67 := rfl
@[go_sem] theorem Link.av_agg (a : Link) : a.av.agg = true := rfl
@[go_sem] theorem Link.av_idf (a : Link) : a.av.idf = true := rfl
@[go_sem] theorem Link.av_ok (a : Link) : a.av.ok = true := rfl
@[go_sem] theorem Link.av_frz (hp : HP) (a : Link) : a.av.frz hp = a.av := rfl
@[go_sem] theorem Link.av_idL (a : Link) : a.av.idL = [] := rfl
@[go_sem] theorem Link.av_ren (ρ : Nat → Nat) (a : Link) : a.av.ren ρ = a.av := rfl
theorem tField59_0 : tFieldI Tryd.prog 59 0 = some (0, 33, true) := by kernel_rfl
@[go_sem] theorem fap59_0 (o : Nat) (p : List Nat) (off : Nat) (K : AV → Prop) : fieldAddrK Tryd.prog 59 (.ptr o p off) 0 K = K (.ptr o (p ++ [0]) (off + 0)) := fieldAddr_ptr tField59_0 (by decide) o p off K
@[go_sem] theorem far59_0 (a : Link) (K : AV → Prop) : fieldAddrK Tryd.prog 59 (.ref a.av) 0 K = K (.ref (a.s.av)) := fieldAddr_ref tField59_0 (by decide) rfl rfl K
@[go_sem] theorem sub59_0 (a : Link) : a.av.sub [0] = some (a.s.av) := rfl
@[go_sem] theorem offs59_0 (a : Link) : a.av.offs [0] = some 0 := rfl
@[go_sem] theorem upd59_0 (a : Link) (x : Check) : a.av.upd [0] (x.av) = some ({ a with s := x } : Link).av := rfl
@[go_sem] theorem sub59_0_0 (a : Link) : a.av.sub [0, 0] = some (.int .u64 a.s.epoch) := rfl
@[go_sem] theorem offs59_0_0 (a : Link) : a.av.offs [0, 0] = some 0 := rfl
@[go_sem] theorem sub59_0_1 (a : Link) : a.av.sub [0, 1] = some (.root a.s.root) := rfl
@[go_sem] theorem offs59_0_1 (a : Link) : a.av.offs [0, 1] = some 1 := rfl
theorem tField59_1 : tFieldI Tryd.prog 59 1 = some (33, 33, true) := by kernel_rfl
@[go_sem] theorem fap59_1 (o : Nat) (p : List Nat) (off : Nat) (K : AV → Prop) : fieldAddrK Tryd.prog 59 (.ptr o p off) 1 K = K (.ptr o (p ++ [1]) (off + 33)) := fieldAddr_ptr tField59_1 (by decide) o p off K
@[go_sem] theorem far59_1 (a : Link) (K : AV → Prop) : fieldAddrK Tryd.prog 59 (.ref a.av) 1 K = K (.ref (a.t.av)) := fieldAddr_ref tField59_1 (by decide) rfl rfl K
@[go_sem] theorem sub59_1 (a : Link) : a.av.sub [1] = some (a.t.av) := rfl
@[go_sem] theorem offs59_1 (a : Link) : a.av.offs [1] = some 33 := rfl
@[go_sem] theorem upd59_1 (a : Link) (x : Check) : a.av.upd [1] (x.av) = some ({ a with t := x } : Link).av := rfl
@[go_sem] theorem sub59_1_0 (a : Link) : a.av.sub [1, 0] = some (.int .u64 a.t.epoch) := rfl
@[go_sem] theorem offs59_1_0 (a : Link) : a.av.offs [1, 0] = some 33 := rfl
@[go_sem] theorem sub59_1_1 (a : Link) : a.av.sub [1, 1] = some (.root a.t.root) := rfl
@[go_sem] theorem offs59_1_1 (a : Link) : a.av.offs [1, 1] = some 34 := rfl
theorem tField59_2 : tFieldI Tryd.prog 59 2 = some (66, 1, false) := by kernel_rfl
@[go_sem] theorem fap59_2 (o : Nat) (p : List Nat) (off : Nat) (K : AV → Prop) : fieldAddrK Tryd.prog 59 (.ptr o p off) 2 K = K (.ptr o (p ++ [2]) (off + 66)) := fieldAddr_ptr tField59_2 (by decide) o p off K
@[go_sem] theorem far59_2 (a : Link) (K : AV → Prop) : fieldAddrK Tryd.prog 59 (.ref a.av) 2 K = K (.ref (.int .u64 a.mask)) := fieldAddr_ref tField59_2 (by decide) rfl rfl K
@[go_sem] theorem sub59_2 (a : Link) : a.av.sub [2] = some (.int .u64 a.mask) := rfl
@[go_sem] theorem offs59_2 (a : Link) : a.av.offs [2] = some 66 := rfl
@[go_sem] theorem upd59_2 (a : Link) (x : Int) : a.av.upd [2] (.int .u64 x) = some ({ a with mask := x } : Link).av := rfl
@[go_sem] theorem tSize59 : tSize Tryd.prog 59 = some 67 := by kernel_rfl
@[go_sem] theorem tAgg59 : tAgg Tryd.prog 59 = some true := by kernel_rfl
def zLink : Link := ⟨zCheck, zCheck, 0⟩
@[go_sem] theorem tZero59 : tZero Tryd.prog 59 = some zLink.av := by kernel_rfl
theorem Link.eqb (a b : Link) : a.av.eqb b.av = decide (a = b) := by
  have h_s := Check.eqb a.s b.s
  have h_t := Check.eqb a.t b.t
  cases a; cases b
  simp only at h_s h_t
  simp only [Link.av, AV.eqb, AV.eqbL, int_beq, h_s, h_t, Link.mk.injEq, Bool.decide_and, Bool.and_true]
theorem fits59 (a : Link) : fits Tryd.prog a.av 59 = true := by kernel_rfl
theorem depth59 (a : Link) : a.av.depth ≤ 9999 := Nat.le_of_ble_eq_true rfl
@[go_sem] theorem eql59 (a b : Link) (K : AV → Prop) : binK Tryd.prog .eql 59 a.av b.av K = K (.bool (decide (a = b))) :=
  bin_eql_of (fun _ _ h => by cases h) (fun _ h => by cases h) (fits59 a) (fits59 b) (depth59 a) (by kernel_rfl) (Link.eqb a b) K
@[go_sem] theorem neq59 (a b : Link) (K : AV → Prop) : binK Tryd.prog .neq 59 a.av b.av K = K (.bool !(decide (a = b))) :=
  bin_neq_of (fun _ _ h => by cases h) (fun _ h => by cases h) (fits59 a) (fits59 b) (depth59 a) (by kernel_rfl) (Link.eqb a b) K
@[go_sem] theorem build59_all (s : Check) (t : Check) (mask : Int) (K : AV → Prop) : buildK Tryd.prog 59 [(0, s.av), (1, t.av), (2, .int .u64 mask)] K = K (Link.mk s t mask).av := build_struct Tryd.underlying59 tZero59 rfl (by kernel_rfl) rfl K

structure LKey where
  s : Check
  t : Check
  deriving DecidableEq
def LKey.av (a : LKey) : AV := .st [a.s.av, a.t.av]
@[go_sem] theorem LKey.av_flat (a : LKey) : a.av.flat = true := rfl
@[go_sem] theorem LKey.av_len (a : LKey) : a.av.len = 66 := rfl
@[go_sem] theorem LKey.av_agg (a : LKey) : a.av.agg = true := rfl
@[go_sem] theorem LKey.av_idf (a : LKey) : a.av.idf = true := rfl
@[go_sem] theorem LKey.av_ok (a : LKey) : a.av.ok = true := rfl
@[go_sem] theorem LKey.av_frz (hp : HP) (a : LKey) : a.av.frz hp = a.av := rfl
@[go_sem] theorem LKey.av_idL (a : LKey) : a.av.idL = [] := rfl
@[go_sem] theorem LKey.av_ren (ρ : Nat → Nat) (a : LKey) : a.av.ren ρ = a.av := rfl
theorem tField99_0 : tFieldI Tryd.prog 99 0 = some (0, 33, true) := by kernel_rfl
@[go_sem] theorem fap99_0 (o : Nat) (p : List Nat) (off : Nat) (K : AV → Prop) : fieldAddrK Tryd.prog 99 (.ptr o p off) 0 K = K (.ptr o (p ++ [0]) (off + 0)) := fieldAddr_ptr tField99_0 (by decide) o p off K
@[go_sem] theorem far99_0 (a : LKey) (K : AV → Prop) : fieldAddrK Tryd.prog 99 (.ref a.av) 0 K = K (.ref (a.s.av)) := fieldAddr_ref tField99_0 (by decide) rfl rfl K
@[go_sem] theorem sub99_0 (a : LKey) : a.av.sub [0] = some (a.s.av) := rfl
@[go_sem] theorem offs99_0 (a : LKey) : a.av.offs [0] = some 0 := rfl
@[go_sem] theorem upd99_0 (a : LKey) (x : Check) : a.av.upd [0] (x.av) = some ({ a with s := x } : LKey).av := rfl
@[go_sem] theorem sub99_0_0 (a : LKey) : a.av.sub [0, 0] = some (.int .u64 a.s.epoch) := rfl
@[go_sem] theorem offs99_0_0 (a : LKey) : a.av.offs [0, 0] = some 0 := rfl
@[go_sem] theorem sub99_0_1 (a : LKey) : a.av.sub [0, 1] = some (.root a.s.root) := rfl
@[go_sem] theorem offs99_0_1 (a : LKey) : a.av.offs [0, 1] = some 1 := rfl
theorem tField99_1 : tFieldI Tryd.prog 99 1 = some (33, 33, true) := by kernel_rfl
@[go_sem] theorem fap99_1 (o : Nat) (p : List Nat) (off : Nat) (K : AV → Prop) : fieldAddrK Tryd.prog 99 (.ptr o p off) 1 K = K (.ptr o (p ++ [1]) (off + 33)) := fieldAddr_ptr tField99_1 (by decide) o p off K
@[go_sem] theorem far99_1 (a : LKey) (K : AV → Prop) : fieldAddrK Tryd.prog 99 (.ref a.av) 1 K = K (.ref (a.t.av)) := fieldAddr_ref tField99_1 (by decide) rfl rfl K
@[go_sem] theorem sub99_1 (a : LKey) : a.av.sub [1] = some (a.t.av) := rfl
@[go_sem] theorem offs99_1 (a : LKey) : a.av.offs [1] = some 33 := rfl
@[go_sem] theorem upd99_1 (a : LKey) (x : Check) : a.av.upd [1] (x.av) = some ({ a with t := x } : LKey).av := rfl
@[go_sem] theorem sub99_1_0 (a : LKey) : a.av.sub [1, 0] = some (.int .u64 a.t.epoch) := rfl
@[go_sem] theorem offs99_1_0 (a : LKey) : a.av.offs [1, 0] = some 33 := rfl
@[go_sem] theorem sub99_1_1 (a : LKey) : a.av.sub [1, 1] = some (.root a.t.root) := rfl
@[go_sem] theorem offs99_1_1 (a : LKey) : a.av.offs [1, 1] = some 34 := rfl
@[go_sem] theorem tSize99 : tSize Tryd.prog 99 = some 66 := by kernel_rfl
@[go_sem] theorem tAgg99 : tAgg Tryd.prog 99 = some true := by kernel_rfl
def zLKey : LKey := ⟨zCheck, zCheck⟩
@[go_sem] theorem tZero99 : tZero Tryd.prog 99 = some zLKey.av := by kernel_rfl
theorem LKey.eqb (a b : LKey) : a.av.eqb b.av = decide (a = b) := by
  have h_s := Check.eqb a.s b.s
  have h_t := Check.eqb a.t b.t
  cases a; cases b
  simp only at h_s h_t
  simp only [LKey.av, AV.eqb, AV.eqbL, int_beq, h_s, h_t, LKey.mk.injEq, Bool.decide_and, Bool.and_true]
theorem fits99 (a : LKey) : fits Tryd.prog a.av 99 = true := by kernel_rfl
theorem depth99 (a : LKey) : a.av.depth ≤ 9999 := Nat.le_of_ble_eq_true rfl
@[go_sem] theorem eql99 (a b : LKey) (K : AV → Prop) : binK Tryd.prog .eql 99 a.av b.av K = K (.bool (decide (a = b))) :=
  bin_eql_of (fun _ _ h => by cases h) (fun _ h => by cases h) (fits99 a) (fits99 b) (depth99 a) (by kernel_rfl) (LKey.eqb a b) K
@[go_sem] theorem neq99 (a b : LKey) (K : AV → Prop) : binK Tryd.prog .neq 99 a.av b.av K = K (.bool !(decide (a = b))) :=
  bin_neq_of (fun _ _ h => by cases h) (fun _ h => by cases h) (fits99 a) (fits99 b) (depth99 a) (by kernel_rfl) (LKey.eqb a b) K
@[go_sem] theorem build99_all (s : Check) (t : Check) (K : AV → Prop) : buildK Tryd.prog 99 [(0, s.av), (1, t.av)] K = K (LKey.mk s t).av := build_struct Tryd.underlying99 tZero99 rfl (by kernel_rfl) rfl K


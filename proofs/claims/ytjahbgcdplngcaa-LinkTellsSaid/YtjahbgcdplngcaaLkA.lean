/- The types of layer 15. -/
import Derived.Test.YtjahbgcdplngcaaLtA
set_option linter.unusedSimpArgs false
namespace Go.Proofs.Ytjahbgcdplngcaa
open Go Go.Ab

@[go_sem] theorem Check.av_flat (a : Check) : a.av.flat = true := rfl
@[go_sem] theorem Check.av_len (a : Check) : a.av.len = 33 := rfl
@[go_sem] theorem Check.av_agg (a : Check) : a.av.agg = true := rfl
@[go_sem] theorem Check.av_idf (a : Check) : a.av.idf = true := rfl
@[go_sem] theorem Check.av_ok (a : Check) : a.av.ok = true := rfl
@[go_sem] theorem Check.av_frz (hp : HP) (a : Check) : a.av.frz hp = a.av := rfl
@[go_sem] theorem Check.av_idL (a : Check) : a.av.idL = [] := rfl
@[go_sem] theorem Check.av_ren (ρ : Nat → Nat) (a : Check) : a.av.ren ρ = a.av := rfl
theorem tField27_0 : tFieldI Try.prog 27 0 = some (0, 1, false) := by kernel_rfl
@[go_sem] theorem fap27_0 (o : Nat) (p : List Nat) (off : Nat) (K : AV → Prop) : fieldAddrK Try.prog 27 (.ptr o p off) 0 K = K (.ptr o (p ++ [0]) (off + 0)) := fieldAddr_ptr tField27_0 (by decide) o p off K
@[go_sem] theorem far27_0 (a : Check) (K : AV → Prop) : fieldAddrK Try.prog 27 (.ref a.av) 0 K = K (.ref (.int .u64 a.epoch)) := fieldAddr_ref tField27_0 (by decide) rfl rfl K
@[go_sem] theorem sub27_0 (a : Check) : a.av.sub [0] = some (.int .u64 a.epoch) := rfl
@[go_sem] theorem offs27_0 (a : Check) : a.av.offs [0] = some 0 := rfl
@[go_sem] theorem tSize27 : tSize Try.prog 27 = some 33 := by kernel_rfl
@[go_sem] theorem tAgg27 : tAgg Try.prog 27 = some true := by kernel_rfl
@[go_sem] theorem tZero27 : tZero Try.prog 27 = some zcheck.av := by kernel_rfl
theorem fits27 (a : Check) : fits Try.prog a.av 27 = true := by kernel_rfl
theorem depth27 (a : Check) : a.av.depth ≤ 9999 := Nat.le_of_ble_eq_true rfl
@[go_sem] theorem eql27 (a b : Check) (K : AV → Prop) : binK Try.prog .eql 27 a.av b.av K = K (.bool (decide (a = b))) :=
  bin_eql_of (fun _ _ h => by cases h) (fun _ h => by cases h) (fits27 a) (fits27 b) (depth27 a) (by kernel_rfl) (Check.eqb a b) K
@[go_sem] theorem neq27 (a b : Check) (K : AV → Prop) : binK Try.prog .neq 27 a.av b.av K = K (.bool !(decide (a = b))) :=
  bin_neq_of (fun _ _ h => by cases h) (fun _ h => by cases h) (fits27 a) (fits27 b) (depth27 a) (by kernel_rfl) (Check.eqb a b) K
abbrev zCheck := zcheck

structure Link where
  s : Check
  t : Check
  mask : Int
  deriving DecidableEq
def Link.av (a : Link) : AV := .st [a.s.av, a.t.av, .int .u64 a.mask]
@[go_sem] theorem Link.av_flat (a : Link) : a.av.flat = true := rfl
@[go_sem] theorem Link.av_len (a : Link) : a.av.len = 67 := rfl
@[go_sem] theorem Link.av_agg (a : Link) : a.av.agg = true := rfl
@[go_sem] theorem Link.av_idf (a : Link) : a.av.idf = true := rfl
@[go_sem] theorem Link.av_ok (a : Link) : a.av.ok = true := rfl
@[go_sem] theorem Link.av_frz (hp : HP) (a : Link) : a.av.frz hp = a.av := rfl
@[go_sem] theorem Link.av_idL (a : Link) : a.av.idL = [] := rfl
@[go_sem] theorem Link.av_ren (ρ : Nat → Nat) (a : Link) : a.av.ren ρ = a.av := rfl
theorem tField36_0 : tFieldI Try.prog 36 0 = some (0, 33, true) := by kernel_rfl
@[go_sem] theorem fap36_0 (o : Nat) (p : List Nat) (off : Nat) (K : AV → Prop) : fieldAddrK Try.prog 36 (.ptr o p off) 0 K = K (.ptr o (p ++ [0]) (off + 0)) := fieldAddr_ptr tField36_0 (by decide) o p off K
@[go_sem] theorem far36_0 (a : Link) (K : AV → Prop) : fieldAddrK Try.prog 36 (.ref a.av) 0 K = K (.ref (a.s.av)) := fieldAddr_ref tField36_0 (by decide) rfl rfl K
@[go_sem] theorem sub36_0 (a : Link) : a.av.sub [0] = some (a.s.av) := rfl
@[go_sem] theorem offs36_0 (a : Link) : a.av.offs [0] = some 0 := rfl
@[go_sem] theorem upd36_0 (a : Link) (x : Check) : a.av.upd [0] (x.av) = some ({ a with s := x } : Link).av := rfl
@[go_sem] theorem sub36_0_0 (a : Link) : a.av.sub [0, 0] = some (.int .u64 a.s.epoch) := rfl
@[go_sem] theorem offs36_0_0 (a : Link) : a.av.offs [0, 0] = some 0 := rfl
@[go_sem] theorem sub36_0_1 (a : Link) : a.av.sub [0, 1] = some (.root a.s.root) := rfl
@[go_sem] theorem offs36_0_1 (a : Link) : a.av.offs [0, 1] = some 1 := rfl
theorem tField36_1 : tFieldI Try.prog 36 1 = some (33, 33, true) := by kernel_rfl
@[go_sem] theorem fap36_1 (o : Nat) (p : List Nat) (off : Nat) (K : AV → Prop) : fieldAddrK Try.prog 36 (.ptr o p off) 1 K = K (.ptr o (p ++ [1]) (off + 33)) := fieldAddr_ptr tField36_1 (by decide) o p off K
@[go_sem] theorem far36_1 (a : Link) (K : AV → Prop) : fieldAddrK Try.prog 36 (.ref a.av) 1 K = K (.ref (a.t.av)) := fieldAddr_ref tField36_1 (by decide) rfl rfl K
@[go_sem] theorem sub36_1 (a : Link) : a.av.sub [1] = some (a.t.av) := rfl
@[go_sem] theorem offs36_1 (a : Link) : a.av.offs [1] = some 33 := rfl
@[go_sem] theorem upd36_1 (a : Link) (x : Check) : a.av.upd [1] (x.av) = some ({ a with t := x } : Link).av := rfl
@[go_sem] theorem sub36_1_0 (a : Link) : a.av.sub [1, 0] = some (.int .u64 a.t.epoch) := rfl
@[go_sem] theorem offs36_1_0 (a : Link) : a.av.offs [1, 0] = some 33 := rfl
@[go_sem] theorem sub36_1_1 (a : Link) : a.av.sub [1, 1] = some (.root a.t.root) := rfl
@[go_sem] theorem offs36_1_1 (a : Link) : a.av.offs [1, 1] = some 34 := rfl
theorem tField36_2 : tFieldI Try.prog 36 2 = some (66, 1, false) := by kernel_rfl
@[go_sem] theorem fap36_2 (o : Nat) (p : List Nat) (off : Nat) (K : AV → Prop) : fieldAddrK Try.prog 36 (.ptr o p off) 2 K = K (.ptr o (p ++ [2]) (off + 66)) := fieldAddr_ptr tField36_2 (by decide) o p off K
@[go_sem] theorem far36_2 (a : Link) (K : AV → Prop) : fieldAddrK Try.prog 36 (.ref a.av) 2 K = K (.ref (.int .u64 a.mask)) := fieldAddr_ref tField36_2 (by decide) rfl rfl K
@[go_sem] theorem sub36_2 (a : Link) : a.av.sub [2] = some (.int .u64 a.mask) := rfl
@[go_sem] theorem offs36_2 (a : Link) : a.av.offs [2] = some 66 := rfl
@[go_sem] theorem upd36_2 (a : Link) (x : Int) : a.av.upd [2] (.int .u64 x) = some ({ a with mask := x } : Link).av := rfl
@[go_sem] theorem tSize36 : tSize Try.prog 36 = some 67 := by kernel_rfl
@[go_sem] theorem tAgg36 : tAgg Try.prog 36 = some true := by kernel_rfl
def zLink : Link := ⟨zCheck, zCheck, 0⟩
@[go_sem] theorem tZero36 : tZero Try.prog 36 = some zLink.av := by kernel_rfl
theorem Link.eqb (a b : Link) : a.av.eqb b.av = decide (a = b) := by
  have h_s := Check.eqb a.s b.s
  have h_t := Check.eqb a.t b.t
  cases a; cases b
  simp only at h_s h_t
  simp only [Link.av, AV.eqb, AV.eqbL, int_beq, h_s, h_t, Link.mk.injEq, Bool.decide_and, Bool.and_true]
theorem fits36 (a : Link) : fits Try.prog a.av 36 = true := by kernel_rfl
theorem depth36 (a : Link) : a.av.depth ≤ 9999 := Nat.le_of_ble_eq_true rfl
@[go_sem] theorem eql36 (a b : Link) (K : AV → Prop) : binK Try.prog .eql 36 a.av b.av K = K (.bool (decide (a = b))) :=
  bin_eql_of (fun _ _ h => by cases h) (fun _ h => by cases h) (fits36 a) (fits36 b) (depth36 a) (by kernel_rfl) (Link.eqb a b) K
@[go_sem] theorem neq36 (a b : Link) (K : AV → Prop) : binK Try.prog .neq 36 a.av b.av K = K (.bool !(decide (a = b))) :=
  bin_neq_of (fun _ _ h => by cases h) (fun _ h => by cases h) (fits36 a) (fits36 b) (depth36 a) (by kernel_rfl) (Link.eqb a b) K
@[go_sem] theorem build36_all (s : Check) (t : Check) (mask : Int) (K : AV → Prop) : buildK Try.prog 36 [(0, s.av), (1, t.av), (2, .int .u64 mask)] K = K (Link.mk s t mask).av := build_struct Try.underlying36 tZero36 rfl (by kernel_rfl) rfl K

structure LKey where
  s : Check
  t : Check
  deriving DecidableEq
def LKey.av (a : LKey) : AV := .st [a.s.av, a.t.av]
@[go_sem] theorem LKey.av_flat (a : LKey) : a.av.flat = true := rfl
@[go_sem] theorem LKey.av_len (a : LKey) : a.av.len = 66 := rfl
@[go_sem] theorem LKey.av_agg (a : LKey) : a.av.agg = true := rfl
@[go_sem] theorem LKey.av_idf (a : LKey) : a.av.idf = true := rfl
@[go_sem] theorem LKey.av_ok (a : LKey) : a.av.ok = true := rfl
@[go_sem] theorem LKey.av_frz (hp : HP) (a : LKey) : a.av.frz hp = a.av := rfl
@[go_sem] theorem LKey.av_idL (a : LKey) : a.av.idL = [] := rfl
@[go_sem] theorem LKey.av_ren (ρ : Nat → Nat) (a : LKey) : a.av.ren ρ = a.av := rfl
theorem tField67_0 : tFieldI Try.prog 67 0 = some (0, 33, true) := by kernel_rfl
@[go_sem] theorem fap67_0 (o : Nat) (p : List Nat) (off : Nat) (K : AV → Prop) : fieldAddrK Try.prog 67 (.ptr o p off) 0 K = K (.ptr o (p ++ [0]) (off + 0)) := fieldAddr_ptr tField67_0 (by decide) o p off K
@[go_sem] theorem far67_0 (a : LKey) (K : AV → Prop) : fieldAddrK Try.prog 67 (.ref a.av) 0 K = K (.ref (a.s.av)) := fieldAddr_ref tField67_0 (by decide) rfl rfl K
@[go_sem] theorem sub67_0 (a : LKey) : a.av.sub [0] = some (a.s.av) := rfl
@[go_sem] theorem offs67_0 (a : LKey) : a.av.offs [0] = some 0 := rfl
@[go_sem] theorem upd67_0 (a : LKey) (x : Check) : a.av.upd [0] (x.av) = some ({ a with s := x } : LKey).av := rfl
@[go_sem] theorem sub67_0_0 (a : LKey) : a.av.sub [0, 0] = some (.int .u64 a.s.epoch) := rfl
@[go_sem] theorem offs67_0_0 (a : LKey) : a.av.offs [0, 0] = some 0 := rfl
@[go_sem] theorem sub67_0_1 (a : LKey) : a.av.sub [0, 1] = some (.root a.s.root) := rfl
@[go_sem] theorem offs67_0_1 (a : LKey) : a.av.offs [0, 1] = some 1 := rfl
theorem tField67_1 : tFieldI Try.prog 67 1 = some (33, 33, true) := by kernel_rfl
@[go_sem] theorem fap67_1 (o : Nat) (p : List Nat) (off : Nat) (K : AV → Prop) : fieldAddrK Try.prog 67 (.ptr o p off) 1 K = K (.ptr o (p ++ [1]) (off + 33)) := fieldAddr_ptr tField67_1 (by decide) o p off K
@[go_sem] theorem far67_1 (a : LKey) (K : AV → Prop) : fieldAddrK Try.prog 67 (.ref a.av) 1 K = K (.ref (a.t.av)) := fieldAddr_ref tField67_1 (by decide) rfl rfl K
@[go_sem] theorem sub67_1 (a : LKey) : a.av.sub [1] = some (a.t.av) := rfl
@[go_sem] theorem offs67_1 (a : LKey) : a.av.offs [1] = some 33 := rfl
@[go_sem] theorem upd67_1 (a : LKey) (x : Check) : a.av.upd [1] (x.av) = some ({ a with t := x } : LKey).av := rfl
@[go_sem] theorem sub67_1_0 (a : LKey) : a.av.sub [1, 0] = some (.int .u64 a.t.epoch) := rfl
@[go_sem] theorem offs67_1_0 (a : LKey) : a.av.offs [1, 0] = some 33 := rfl
@[go_sem] theorem sub67_1_1 (a : LKey) : a.av.sub [1, 1] = some (.root a.t.root) := rfl
@[go_sem] theorem offs67_1_1 (a : LKey) : a.av.offs [1, 1] = some 34 := rfl
@[go_sem] theorem tSize67 : tSize Try.prog 67 = some 66 := by kernel_rfl
@[go_sem] theorem tAgg67 : tAgg Try.prog 67 = some true := by kernel_rfl
def zLKey : LKey := ⟨zCheck, zCheck⟩
@[go_sem] theorem tZero67 : tZero Try.prog 67 = some zLKey.av := by kernel_rfl
theorem LKey.eqb (a b : LKey) : a.av.eqb b.av = decide (a = b) := by
  have h_s := Check.eqb a.s b.s
  have h_t := Check.eqb a.t b.t
  cases a; cases b
  simp only at h_s h_t
  simp only [LKey.av, AV.eqb, AV.eqbL, int_beq, h_s, h_t, LKey.mk.injEq, Bool.decide_and, Bool.and_true]
theorem fits67 (a : LKey) : fits Try.prog a.av 67 = true := by kernel_rfl
theorem depth67 (a : LKey) : a.av.depth ≤ 9999 := Nat.le_of_ble_eq_true rfl
@[go_sem] theorem eql67 (a b : LKey) (K : AV → Prop) : binK Try.prog .eql 67 a.av b.av K = K (.bool (decide (a = b))) :=
  bin_eql_of (fun _ _ h => by cases h) (fun _ h => by cases h) (fits67 a) (fits67 b) (depth67 a) (by kernel_rfl) (LKey.eqb a b) K
@[go_sem] theorem neq67 (a b : LKey) (K : AV → Prop) : binK Try.prog .neq 67 a.av b.av K = K (.bool !(decide (a = b))) :=
  bin_neq_of (fun _ _ h => by cases h) (fun _ h => by cases h) (fits67 a) (fits67 b) (depth67 a) (by kernel_rfl) (LKey.eqb a b) K
@[go_sem] theorem build67_all (s : Check) (t : Check) (K : AV → Prop) : buildK Try.prog 67 [(0, s.av), (1, t.av)] K = K (LKey.mk s t).av := build_struct Try.underlying67 tZero67 rfl (by kernel_rfl) rfl K


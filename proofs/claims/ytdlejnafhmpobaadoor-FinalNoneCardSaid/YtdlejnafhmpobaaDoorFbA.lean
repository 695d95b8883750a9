/- The types of layers 6 and 9; bytes compared. -/
import Derived.Test.YtdlejnafhmpobaaDoorFwA
import Derived.Test.YtdlejnafhmpobaaDoorAbFour
set_option linter.unusedSimpArgs false
namespace Go.Proofs.YtdlejnafhmpobaaDoor
open Go Go.Ab

structure Node where
  root : Root
  parent : Int
  slot : Int
  just : Int
  deriving DecidableEq
def Node.av (a : Node) : AV := .st [.root a.root, .int .i64 a.parent, .int .u64 a.slot, .int .u64 a.just]
@[go_sem] theorem Node.av_flat (a : Node) : a.av.flat = true := rfl
@[go_sem] theorem Node.av_len (a : Node) : a.av.len = 35 := rfl
@[go_sem] theorem Node.av_agg (a : Node) : a.av.agg = true := rfl
@[go_sem] theorem Node.av_idf (a : Node) : a.av.idf = true := rfl
@[go_sem] theorem Node.av_ok (a : Node) : a.av.ok = true := rfl
@[go_sem] theorem Node.av_frz (hp : HP) (a : Node) : a.av.frz hp = a.av := rfl
@[go_sem] theorem Node.av_idL (a : Node) : a.av.idL = [] := rfl
@[go_sem] theorem Node.av_ren (ρ : Nat → Nat) (a : Node) : a.av.ren ρ = a.av := rfl
theorem tField63_0 : tFieldI Tryd.prog 89 0 = some (0, 32, true) := by kernel_rfl
@[go_sem] theorem fap63_0 (o : Nat) (p : List Nat) (off : Nat) (K : AV → Prop) : fieldAddrK Tryd.prog 89 (.ptr o p off) 0 K = K (.ptr o (p ++ [0]) (off + 0)) := fieldAddr_ptr tField63_0 (by decide) o p off K
@[go_sem] theorem far63_0 (a : Node) (K : AV → Prop) : fieldAddrK Tryd.prog 89 (.ref a.av) 0 K = K (.ref (.root a.root)) := fieldAddr_ref tField63_0 (by decide) rfl rfl K
@[go_sem] theorem sub63_0 (a : Node) : a.av.sub [0] = some (.root a.root) := rfl
@[go_sem] theorem offs63_0 (a : Node) : a.av.offs [0] = some 0 := rfl
@[go_sem] theorem upd63_0 (a : Node) (x : Root) : a.av.upd [0] (.root x) = some ({ a with root := x } : Node).av := rfl
theorem tField63_1 : tFieldI Tryd.prog 89 1 = some (32, 1, false) := by kernel_rfl
@[go_sem] theorem fap63_1 (o : Nat) (p : List Nat) (off : Nat) (K : AV → Prop) : fieldAddrK Tryd.prog 89 (.ptr o p off) 1 K = K (.ptr o (p ++ [1]) (off + 32)) := fieldAddr_ptr tField63_1 (by decide) o p off K
@[go_sem] theorem far63_1 (a : Node) (K : AV → Prop) : fieldAddrK Tryd.prog 89 (.ref a.av) 1 K = K (.ref (.int .i64 a.parent)) := fieldAddr_ref tField63_1 (by decide) rfl rfl K
@[go_sem] theorem sub63_1 (a : Node) : a.av.sub [1] = some (.int .i64 a.parent) := rfl
@[go_sem] theorem offs63_1 (a : Node) : a.av.offs [1] = some 32 := rfl
@[go_sem] theorem upd63_1 (a : Node) (x : Int) : a.av.upd [1] (.int .i64 x) = some ({ a with parent := x } : Node).av := rfl
theorem tField63_2 : tFieldI Tryd.prog 89 2 = some (33, 1, false) := by kernel_rfl
@[go_sem] theorem fap63_2 (o : Nat) (p : List Nat) (off : Nat) (K : AV → Prop) : fieldAddrK Tryd.prog 89 (.ptr o p off) 2 K = K (.ptr o (p ++ [2]) (off + 33)) := fieldAddr_ptr tField63_2 (by decide) o p off K
@[go_sem] theorem far63_2 (a : Node) (K : AV → Prop) : fieldAddrK Tryd.prog 89 (.ref a.av) 2 K = K (.ref (.int .u64 a.slot)) := fieldAddr_ref tField63_2 (by decide) rfl rfl K
@[go_sem] theorem sub63_2 (a : Node) : a.av.sub [2] = some (.int .u64 a.slot) := rfl
@[go_sem] theorem offs63_2 (a : Node) : a.av.offs [2] = some 33 := rfl
@[go_sem] theorem upd63_2 (a : Node) (x : Int) : a.av.upd [2] (.int .u64 x) = some ({ a with slot := x } : Node).av := rfl
theorem tField63_3 : tFieldI Tryd.prog 89 3 = some (34, 1, false) := by kernel_rfl
@[go_sem] theorem fap63_3 (o : Nat) (p : List Nat) (off : Nat) (K : AV → Prop) : fieldAddrK Tryd.prog 89 (.ptr o p off) 3 K = K (.ptr o (p ++ [3]) (off + 34)) := fieldAddr_ptr tField63_3 (by decide) o p off K
@[go_sem] theorem far63_3 (a : Node) (K : AV → Prop) : fieldAddrK Tryd.prog 89 (.ref a.av) 3 K = K (.ref (.int .u64 a.just)) := fieldAddr_ref tField63_3 (by decide) rfl rfl K
@[go_sem] theorem sub63_3 (a : Node) : a.av.sub [3] = some (.int .u64 a.just) := rfl
@[go_sem] theorem offs63_3 (a : Node) : a.av.offs [3] = some 34 := rfl
@[go_sem] theorem upd63_3 (a : Node) (x : Int) : a.av.upd [3] (.int .u64 x) = some ({ a with just := x } : Node).av := rfl
@[go_sem] theorem tSize63 : tSize Tryd.prog 89 = some 35 := by kernel_rfl
@[go_sem] theorem tAgg63 : tAgg Tryd.prog 89 = some true := by kernel_rfl
def zNode : Node := ⟨zroot, 0, 0, 0⟩
@[go_sem] theorem tZero63 : tZero Tryd.prog 89 = some zNode.av := by kernel_rfl
theorem Node.eqb (a b : Node) : a.av.eqb b.av = decide (a = b) := by
  cases a; cases b
  simp only [Node.av, AV.eqb, AV.eqbL, int_beq, Node.mk.injEq, Bool.decide_and, Bool.and_true]
theorem fits63 (a : Node) : fits Tryd.prog a.av 89 = true := by kernel_rfl
theorem depth63 (a : Node) : a.av.depth ≤ 9999 := Nat.le_of_ble_eq_true rfl
@[go_sem] theorem eql63 (a b : Node) (K : AV → Prop) : binK Tryd.prog .eql 89 a.av b.av K = K (.bool (decide (a = b))) :=
  bin_eql_of (fun _ _ h => by cases h) (fun _ h => by cases h) (fits63 a) (fits63 b) (depth63 a) (by kernel_rfl) (Node.eqb a b) K
@[go_sem] theorem neq63 (a b : Node) (K : AV → Prop) : binK Tryd.prog .neq 89 a.av b.av K = K (.bool !(decide (a = b))) :=
  bin_neq_of (fun _ _ h => by cases h) (fun _ h => by cases h) (fits63 a) (fits63 b) (depth63 a) (by kernel_rfl) (Node.eqb a b) K
@[go_sem] theorem build63_all (root : Root) (parent : Int) (slot : Int) (just : Int) (K : AV → Prop) : buildK Tryd.prog 89 [(0, .root root), (1, .int .i64 parent), (2, .int .u64 slot), (3, .int .u64 just)] K = K (Node.mk root parent slot just).av := build_struct Tryd.underlying89 tZero63 rfl (by kernel_rfl) rfl K


def tav (t : List Node) : AV := .st [.sl (t.map Node.av) false]
@[go_sem] theorem tav_len (t : List Node) : (tav t).len = 1 := rfl
@[go_sem] theorem tav_agg (t : List Node) : (tav t).agg = true := rfl
@[go_sem] theorem tav_idf (t : List Node) : (tav t).idf = true := rfl
@[go_sem] theorem tav_ok (t : List Node) : (tav t).ok = true := rfl
@[go_sem] theorem tav_flat (t : List Node) : (tav t).flat = false := rfl
@[go_sem] theorem tav_frz (hp : HP) (t : List Node) : (tav t).frz hp = tav t := rfl
@[go_sem] theorem tav_idL (t : List Node) : (tav t).idL = [] := rfl
@[go_sem] theorem tav_ren (ρ : Nat → Nat) (t : List Node) : (tav t).ren ρ = tav t := rfl
@[go_sem] theorem tav_sub (t : List Node) : (tav t).sub [0] = some (.sl (t.map Node.av) false) := rfl
@[go_sem] theorem tav_offs (t : List Node) : (tav t).offs [0] = some 0 := rfl
theorem tField47_0 : tFieldI Tryd.prog 24 0 = some (0, 1, false) := by kernel_rfl
@[go_sem] theorem fap47_0 (o : Nat) (p : List Nat) (off : Nat) (K : AV → Prop) : fieldAddrK Tryd.prog 24 (.ptr o p off) 0 K = K (.ptr o (p ++ [0]) (off + 0)) := fieldAddr_ptr tField47_0 (by decide) o p off K
@[go_sem] theorem far47_0 (t : List Node) (K : AV → Prop) : fieldAddrK Tryd.prog 24 (.ref (tav t)) 0 K = K (.ref (.sl (t.map Node.av) false)) := fieldAddr_ref tField47_0 (by decide) rfl rfl K
@[go_sem] theorem tSize47 : tSize Tryd.prog 24 = some 1 := by kernel_rfl
@[go_sem] theorem tAgg47 : tAgg Tryd.prog 24 = some true := by kernel_rfl
@[go_sem] theorem tZero47 : tZero Tryd.prog 24 = some (.st [.sl [] true]) := by kernel_rfl
@[go_sem] theorem tSize45 : tSize Tryd.prog 22 = some 1 := by kernel_rfl
@[go_sem] theorem tAgg45 : tAgg Tryd.prog 22 = some false := by kernel_rfl
@[go_sem] theorem tElem45 : tElem Tryd.prog 22 = some 89 := by kernel_rfl
@[go_sem] theorem und45 : Tryd.prog.underlying 22 = some (.slice 89) := Tryd.underlying22
@[go_sem] theorem tBytes63 : tBytes Tryd.prog 89 = some 56 := by kernel_rfl
@[go_sem] theorem tSize48 : tSize Tryd.prog 26 = some 1 := by kernel_rfl
@[go_sem] theorem tAgg48 : tAgg Tryd.prog 26 = some false := by kernel_rfl
@[go_sem] theorem und4 : Tryd.prog.underlying 4 = some .bool := Tryd.underlying4
@[go_sem] theorem tSize4 : tSize Tryd.prog 4 = some 1 := by kernel_rfl
@[go_sem] theorem tAgg4 : tAgg Tryd.prog 4 = some false := by kernel_rfl
@[go_sem] theorem tBytes4 : tBytes Tryd.prog 4 = some 1 := by kernel_rfl
@[go_sem] theorem tZero4 : tZero Tryd.prog 4 = some (.bool false) := by kernel_rfl
@[go_sem] theorem tSize51 : tSize Tryd.prog 93 = some 1 := by kernel_rfl
@[go_sem] theorem tAgg51 : tAgg Tryd.prog 93 = some false := by kernel_rfl
@[go_sem] theorem tElem51 : tElem Tryd.prog 93 = some 3 := by kernel_rfl
@[go_sem] theorem und51 : Tryd.prog.underlying 93 = some (.slice 3) := Tryd.underlying93
@[go_sem] theorem tBytes3 : tBytes Tryd.prog 3 = some 8 := by kernel_rfl
@[go_sem] theorem tZero3 : tZero Tryd.prog 3 = some (.int .i64 0) := by kernel_rfl
@[go_sem] theorem tZero51 : tZero Tryd.prog 93 = some (.sl [] true) := by kernel_rfl
def uav (n : Int) : AV := .int .u64 n
def iav (n : Int) : AV := .int .i64 n
@[go_sem] theorem uav_len (n : Int) : (uav n).len = 1 := rfl
@[go_sem] theorem uav_agg (n : Int) : (uav n).agg = false := rfl
@[go_sem] theorem iav_len (n : Int) : (iav n).len = 1 := rfl
@[go_sem] theorem iav_agg (n : Int) : (iav n).agg = false := rfl

theorem rooteqb (a b : Root) : (AV.root a).eqb (.root b) = decide (a = b) := by simp [AV.eqb]
theorem fits23 (a : Root) : fits Tryd.prog (.root a) 30 = true := by kernel_rfl
theorem depth23 (a : Root) : (AV.root a).depth ≤ 9999 := Nat.le_of_ble_eq_true rfl
@[go_sem] theorem eql23 (a b : Root) (K : AV → Prop) : binK Tryd.prog .eql 30 (.root a) (.root b) K = K (.bool (decide (a = b))) :=
  bin_eql_of (fun _ _ h => by cases h) (fun _ h => by cases h) (fits23 a) (fits23 b) (depth23 a) (by kernel_rfl) (rooteqb a b) K
@[go_sem] theorem neq23 (a b : Root) (K : AV → Prop) : binK Tryd.prog .neq 30 (.root a) (.root b) K = K (.bool !(decide (a = b))) :=
  bin_neq_of (fun _ _ h => by cases h) (fun _ h => by cases h) (fits23 a) (fits23 b) (depth23 a) (by kernel_rfl) (rooteqb a b) K

def cmpI (a b : Int) : Int := if a < b then -1 else if b < a then 1 else 0

theorem isNaN_pure (a : Int) : Pure Tryd.prog 100 [.int .u8 a] (.bool false) := by
  have ha : (a != a) = false := by simp
  refine pure_of_tr Tryd.func100 rfl (Nat.le_of_ble_eq_true rfl) rfl fun E hE hP => ?_
  first | refine tr_seq_region (by rw [hE]; rfl) ?_ | (refine Tr.seq ?_; refine tr_seq_region (by rw [hE]; rfl) ?_)
  repeat (refine vc_op rfl ?_; simp only [go_sem, seval])
  refine vc_nil ?_
  first | refine tr_seq_region (by rw [hE]; rfl) ?_ | (refine Tr.seq ?_; refine tr_seq_region (by rw [hE]; rfl) ?_)
  repeat (refine vc_op rfl ?_; simp only [ha, go_sem, seval])
  refine vc_nil ?_
  refine Tr.ret ?_
  simp only [Tryd.f100, go_sem, seval]

theorem cmp_pure (a b : Int) : Pure Tryd.prog 98 [.int .u8 a, .int .u8 b] (.int .i64 (cmpI a b)) := by
  refine pure_of_tr Tryd.func98 rfl (Nat.le_of_ble_eq_true rfl) rfl fun E hE hP => ?_
  first | refine tr_seq_region (by rw [hE]; rfl) ?_ | (refine Tr.seq ?_; refine tr_seq_region (by rw [hE]; rfl) ?_)
  repeat (refine vc_op rfl ?_; simp only [go_sem, seval])
  refine vc_nil ?_
  first | refine tr_seq_region (by rw [hE]; rfl) ?_ | (refine Tr.seq ?_; refine tr_seq_region (by rw [hE]; rfl) ?_)
  repeat (refine vc_op rfl ?_; simp only [go_sem, seval])
  refine call_fn rfl rfl rfl rfl (enters_of Tryd.func100 (by kernel_rfl) rfl) (isNaN_pure a) rfl rfl rfl ?_
  simp only [go_sem, seval]
  repeat (refine vc_op rfl ?_; simp only [go_sem, seval])
  refine vc_nil ?_
  first | refine tr_seq_region (by rw [hE]; rfl) ?_ | (refine Tr.seq ?_; refine tr_seq_region (by rw [hE]; rfl) ?_)
  repeat (refine vc_op rfl ?_; simp only [go_sem, seval])
  refine call_fn rfl rfl rfl rfl (enters_of Tryd.func100 (by kernel_rfl) rfl) (isNaN_pure b) rfl rfl rfl ?_
  simp only [go_sem, seval]
  repeat (refine vc_op rfl ?_; simp only [go_sem, seval])
  refine vc_nil ?_
  first | refine tr_seq_region (by rw [hE]; rfl) ?_ | (refine Tr.seq ?_; refine tr_seq_region (by rw [hE]; rfl) ?_)
  repeat (refine vc_op rfl ?_; simp only [go_sem, seval])
  refine vc_nil ?_
  first | refine Tr.cond rfl (fun h => by cases h) (fun _ => ?_) | refine Tr.seq (Tr.cond rfl (fun h => by cases h) (fun _ => ?_))
  refine Tr.skip ?_
  try simp only [blockK, thenK, ↓reduceIte]
  first | refine tr_seq_region (by rw [hE]; rfl) ?_ | (refine Tr.seq ?_; refine tr_seq_region (by rw [hE]; rfl) ?_)
  repeat (refine vc_op rfl ?_; simp only [go_sem, seval])
  refine vc_nil ?_
  first | refine Tr.cond rfl (fun h => by cases h) (fun _ => ?_) | refine Tr.seq (Tr.cond rfl (fun h => by cases h) (fun _ => ?_))
  refine Tr.skip ?_
  try simp only [blockK, thenK, ↓reduceIte]
  by_cases h1 : a < b
  · have e1 : decide (a < b) = true := decide_eq_true h1
    have er : cmpI a b = -1 := by simp [cmpI, h1]
    first | refine tr_seq_region (by rw [hE]; rfl) ?_ | (refine Tr.seq ?_; refine tr_seq_region (by rw [hE]; rfl) ?_)
    repeat (refine vc_op rfl ?_; simp only [e1, go_sem, seval])
    refine vc_nil ?_
    first | refine Tr.cond (b := true) rfl (fun _ => ?_) (fun h => by cases h) | refine Tr.seq (Tr.cond (b := true) rfl (fun _ => ?_) (fun h => by cases h))
    first | refine tr_seq_region (by rw [hE]; rfl) ?_ | (refine Tr.seq ?_; refine tr_seq_region (by rw [hE]; rfl) ?_)
    repeat (refine vc_op rfl ?_; simp only [go_sem, seval])
    refine vc_nil ?_
    refine Tr.ret ?_
    simp only [er, Tryd.f98, go_sem, seval]
  · have e1 : decide (a < b) = false := decide_eq_false h1
    first | refine tr_seq_region (by rw [hE]; rfl) ?_ | (refine Tr.seq ?_; refine tr_seq_region (by rw [hE]; rfl) ?_)
    repeat (refine vc_op rfl ?_; simp only [e1, go_sem, seval])
    refine vc_nil ?_
    first | refine Tr.cond rfl (fun h => by cases h) (fun _ => ?_) | refine Tr.seq (Tr.cond rfl (fun h => by cases h) (fun _ => ?_))
    refine Tr.skip ?_
    try simp only [blockK, thenK, ↓reduceIte]
    by_cases h2 : b < a
    · have e2 : decide (b < a) = true := decide_eq_true h2
      have er : cmpI a b = 1 := by simp [cmpI, h1, h2]
      first | refine tr_seq_region (by rw [hE]; rfl) ?_ | (refine Tr.seq ?_; refine tr_seq_region (by rw [hE]; rfl) ?_)
      repeat (refine vc_op rfl ?_; simp only [e2, go_sem, seval])
      refine vc_nil ?_
      first | refine Tr.cond (b := true) rfl (fun _ => ?_) (fun h => by cases h) | refine Tr.seq (Tr.cond (b := true) rfl (fun _ => ?_) (fun h => by cases h))
      first | refine tr_seq_region (by rw [hE]; rfl) ?_ | (refine Tr.seq ?_; refine tr_seq_region (by rw [hE]; rfl) ?_)
      repeat (refine vc_op rfl ?_; simp only [go_sem, seval])
      refine vc_nil ?_
      refine Tr.ret ?_
      simp only [er, Tryd.f98, go_sem, seval]
    · have e2 : decide (b < a) = false := decide_eq_false h2
      have er : cmpI a b = 0 := by simp [cmpI, h1, h2]
      first | refine tr_seq_region (by rw [hE]; rfl) ?_ | (refine Tr.seq ?_; refine tr_seq_region (by rw [hE]; rfl) ?_)
      repeat (refine vc_op rfl ?_; simp only [e2, go_sem, seval])
      refine vc_nil ?_
      first | refine Tr.cond rfl (fun h => by cases h) (fun _ => ?_) | refine Tr.seq (Tr.cond rfl (fun h => by cases h) (fun _ => ?_))
      refine Tr.skip ?_
      try simp only [blockK, thenK, ↓reduceIte]
      first | refine tr_seq_region (by rw [hE]; rfl) ?_ | (refine Tr.seq ?_; refine tr_seq_region (by rw [hE]; rfl) ?_)
      repeat (refine vc_op rfl ?_; simp only [go_sem, seval])
      refine vc_nil ?_
      refine Tr.ret ?_
      simp only [er, Tryd.f98, go_sem, seval]

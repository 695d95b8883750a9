/- Links: the types. -/
import Derived.Test.YtdlejnafhmpobaaDoorP1
set_option linter.unusedSimpArgs false
set_option maxRecDepth 10000
namespace Go.Proofs.YtdlejnafhmpobaaDoor
open Go Go.Ab

structure Link where
  s : Check
  t : Check
  mask : Int
  deriving DecidableEq
def Link.av (a : Link) : AV := .st [a.s.av, a.t.av, .int .u64 a.mask]
@[go_sem] theorem Link.av_flat (a : Link) : a.av.flat = true := rfl
@[go_sem] theorem Link.av_len (a : Link) : a.av.len = 67 := rfl
@[go_sem] theorem Link.av_agg (a : Link) : a.av.agg = true := rfl
@[go_sem] theorem Link.av_idf (a : Link) : a.av.idf = true := rfl
@[go_sem] theorem Link.av_ok (a : Link) : a.av.ok = true := rfl
@[go_sem] theorem Link.av_frz (hp : HP) (a : Link) : a.av.frz hp = a.av := rfl
@[go_sem] theorem Link.av_idL (a : Link) : a.av.idL = [] := rfl
@[go_sem] theorem Link.av_ren (ρ : Nat → Nat) (a : Link) : a.av.ren ρ = a.av := rfl
theorem tField59_0 : tFieldI Tryd.prog 59 0 = some (0, 33, true) := by kernel_rfl
@[go_sem] theorem fap59_0 (o : Nat) (p : List Nat) (off : Nat) (K : AV → Prop) : fieldAddrK Tryd.prog 59 (.ptr o p off) 0 K = K (.ptr o (p ++ [0]) (off + 0)) := fieldAddr_ptr tField59_0 (by decide) o p off K
@[go_sem] theorem far59_0 (a : Link) (K : AV → Prop) : fieldAddrK Tryd.prog 59 (.ref a.av) 0 K = K (.ref (a.s.av)) := fieldAddr_ref tField59_0 (by decide) rfl rfl K
@[go_sem] theorem sub59_0 (a : Link) : a.av.sub [0] = some (a.s.av) := rfl
@[go_sem] theorem offs59_0 (a : Link) : a.av.offs [0] = some 0 := rfl
@[go_sem] theorem upd59_0 (a : Link) (x : Check) : a.av.upd [0] (x.av) = some ({ a with s := x } : Link).av := rfl
@[go_sem] theorem sub59_0_0 (a : Link) : a.av.sub [0, 0] = some (.int .u64 a.s.epoch) := rfl
@[go_sem] theorem offs59_0_0 (a : Link) : a.av.offs [0, 0] = some 0 := rfl
@[go_sem] theorem sub59_0_1 (a : Link) : a.av.sub [0, 1] = some (.root a.s.root) := rfl
@[go_sem] theorem offs59_0_1 (a : Link) : a.av.offs [0, 1] = some 1 := rfl
theorem tField59_1 : tFieldI Tryd.prog 59 1 = some (33, 33, true) := by kernel_rfl
@[go_sem] theorem fap59_1 (o : Nat) (p : List Nat) (off : Nat) (K : AV → Prop) : fieldAddrK Tryd.prog 59 (.ptr o p off) 1 K = K (.ptr o (p ++ [1]) (off + 33)) := fieldAddr_ptr tField59_1 (by decide) o p off K
@[go_sem] theorem far59_1 (a : Link) (K : AV → Prop) : fieldAddrK Tryd.prog 59 (.ref a.av) 1 K = K (.ref (a.t.av)) := fieldAddr_ref tField59_1 (by decide) rfl rfl K
@[go_sem] theorem sub59_1 (a : Link) : a.av.sub [1] = some (a.t.av) := rfl
@[go_sem] theorem offs59_1 (a : Link) : a.av.offs [1] = some 33 := rfl
@[go_sem] theorem upd59_1 (a : Link) (x : Check) : a.av.upd [1] (x.av) = some ({ a with t := x } : Link).av := rfl
@[go_sem] theorem sub59_1_0 (a : Link) : a.av.sub [1, 0] = some (.int .u64 a.t.epoch) := rfl
@[go_sem] theorem offs59_1_0 (a : Link) : a.av.offs [1, 0] = some 33 := rfl
@[go_sem] theorem sub59_1_1 (a : Link) : a.av.sub [1, 1] = some (.root a.t.root) := rfl
@[go_sem] theorem offs59_1_1 (a : Link) : a.av.offs [1, 1] = some 34 := rfl
theorem tField59_2 : tFieldI Tryd.prog 59 2 = some (66, 1, false) := by kernel_rfl
@[go_sem] theorem fap59_2 (o : Nat) (p : List Nat) (off : Nat) (K : AV → Prop) : fieldAddrK Tryd.prog 59 (.ptr o p off) 2 K = K (.ptr o (p ++ [2]) (off + 66)) := fieldAddr_ptr tField59_2 (by decide) o p off K
@[go_sem] theorem far59_2 (a : Link) (K : AV → Prop) : fieldAddrK Tryd.prog 59 (.ref a.av) 2 K = K (.ref (.int .u64 a.mask)) := fieldAddr_ref tField59_2 (by decide) rfl rfl K
@[go_sem] theorem sub59_2 (a : Link) : a.av.sub [2] = some (.int .u64 a.mask) := rfl
@[go_sem] theorem offs59_2 (a : Link) : a.av.offs [2] = some 66 := rfl
@[go_sem] theorem upd59_2 (a : Link) (x : Int) : a.av.upd [2] (.int .u64 x) = some ({ a with mask := x } : Link).av := rfl
@[go_sem] theorem tSize59 : tSize Tryd.prog 59 = some 67 := by kernel_rfl
@[go_sem] theorem tAgg59 : tAgg Tryd.prog 59 = some true := by kernel_rfl
def zLink : Link := ⟨zCheck, zCheck, 0⟩
@[go_sem] theorem tZero59 : tZero Tryd.prog 59 = some zLink.av := by kernel_rfl
theorem Link.eqb (a b : Link) : a.av.eqb b.av = decide (a = b) := by
  have h_s := Check.eqb a.s b.s
  have h_t := Check.eqb a.t b.t
  cases a; cases b
  simp only at h_s h_t
  simp only [Link.av, AV.eqb, AV.eqbL, int_beq, h_s, h_t, Link.mk.injEq, Bool.decide_and, Bool.and_true]
theorem fits59 (a : Link) : fits Tryd.prog a.av 59 = true := by kernel_rfl
theorem depth59 (a : Link) : a.av.depth ≤ 9999 := Nat.le_of_ble_eq_true rfl
@[go_sem] theorem eql59 (a b : Link) (K : AV → Prop) : binK Tryd.prog .eql 59 a.av b.av K = K (.bool (decide (a = b))) :=
  bin_eql_of (fun _ _ h => by cases h) (fun _ h => by cases h) (fits59 a) (fits59 b) (depth59 a) (by kernel_rfl) (Link.eqb a b) K
@[go_sem] theorem neq59 (a b : Link) (K : AV → Prop) : binK Tryd.prog .neq 59 a.av b.av K = K (.bool !(decide (a = b))) :=
  bin_neq_of (fun _ _ h => by cases h) (fun _ h => by cases h) (fits59 a) (fits59 b) (depth59 a) (by kernel_rfl) (Link.eqb a b) K
@[go_sem] theorem build59_all (s : Check) (t : Check) (mask : Int) (K : AV → Prop) : buildK Tryd.prog 59 [(0, s.av), (1, t.av), (2, .int .u64 mask)] K = K (Link.mk s t mask).av := build_struct Tryd.underlying59 tZero59 rfl (by kernel_rfl) rfl K

structure LKey where
  s : Check
  t : Check
  deriving DecidableEq
def LKey.av (a : LKey) : AV := .st [a.s.av, a.t.av]
@[go_sem] theorem LKey.av_flat (a : LKey) : a.av.flat = true := rfl
@[go_sem] theorem LKey.av_len (a : LKey) : a.av.len = 66 := rfl
@[go_sem] theorem LKey.av_agg (a : LKey) : a.av.agg = true := rfl
@[go_sem] theorem LKey.av_idf (a : LKey) : a.av.idf = true := rfl
@[go_sem] theorem LKey.av_ok (a : LKey) : a.av.ok = true := rfl
@[go_sem] theorem LKey.av_frz (hp : HP) (a : LKey) : a.av.frz hp = a.av := rfl
@[go_sem] theorem LKey.av_idL (a : LKey) : a.av.idL = [] := rfl
@[go_sem] theorem LKey.av_ren (ρ : Nat → Nat) (a : LKey) : a.av.ren ρ = a.av := rfl
theorem tField99_0 : tFieldI Tryd.prog 99 0 = some (0, 33, true) := by kernel_rfl
@[go_sem] theorem fap99_0 (o : Nat) (p : List Nat) (off : Nat) (K : AV → Prop) : fieldAddrK Tryd.prog 99 (.ptr o p off) 0 K = K (.ptr o (p ++ [0]) (off + 0)) := fieldAddr_ptr tField99_0 (by decide) o p off K
@[go_sem] theorem far99_0 (a : LKey) (K : AV → Prop) : fieldAddrK Tryd.prog 99 (.ref a.av) 0 K = K (.ref (a.s.av)) := fieldAddr_ref tField99_0 (by decide) rfl rfl K
@[go_sem] theorem sub99_0 (a : LKey) : a.av.sub [0] = some (a.s.av) := rfl
@[go_sem] theorem offs99_0 (a : LKey) : a.av.offs [0] = some 0 := rfl
@[go_sem] theorem upd99_0 (a : LKey) (x : Check) : a.av.upd [0] (x.av) = some ({ a with s := x } : LKey).av := rfl
@[go_sem] theorem sub99_0_0 (a : LKey) : a.av.sub [0, 0] = some (.int .u64 a.s.epoch) := rfl
@[go_sem] theorem offs99_0_0 (a : LKey) : a.av.offs [0, 0] = some 0 := rfl
@[go_sem] theorem sub99_0_1 (a : LKey) : a.av.sub [0, 1] = some (.root a.s.root) := rfl
@[go_sem] theorem offs99_0_1 (a : LKey) : a.av.offs [0, 1] = some 1 := rfl
theorem tField99_1 : tFieldI Tryd.prog 99 1 = some (33, 33, true) := by kernel_rfl
@[go_sem] theorem fap99_1 (o : Nat) (p : List Nat) (off : Nat) (K : AV → Prop) : fieldAddrK Tryd.prog 99 (.ptr o p off) 1 K = K (.ptr o (p ++ [1]) (off + 33)) := fieldAddr_ptr tField99_1 (by decide) o p off K
@[go_sem] theorem far99_1 (a : LKey) (K : AV → Prop) : fieldAddrK Tryd.prog 99 (.ref a.av) 1 K = K (.ref (a.t.av)) := fieldAddr_ref tField99_1 (by decide) rfl rfl K
@[go_sem] theorem sub99_1 (a : LKey) : a.av.sub [1] = some (a.t.av) := rfl
@[go_sem] theorem offs99_1 (a : LKey) : a.av.offs [1] = some 33 := rfl
@[go_sem] theorem upd99_1 (a : LKey) (x : Check) : a.av.upd [1] (x.av) = some ({ a with t := x } : LKey).av := rfl
@[go_sem] theorem sub99_1_0 (a : LKey) : a.av.sub [1, 0] = some (.int .u64 a.t.epoch) := rfl
@[go_sem] theorem offs99_1_0 (a : LKey) : a.av.offs [1, 0] = some 33 := rfl
@[go_sem] theorem sub99_1_1 (a : LKey) : a.av.sub [1, 1] = some (.root a.t.root) := rfl
@[go_sem] theorem offs99_1_1 (a : LKey) : a.av.offs [1, 1] = some 34 := rfl
@[go_sem] theorem tSize99 : tSize Tryd.prog 99 = some 66 := by kernel_rfl
@[go_sem] theorem tAgg99 : tAgg Tryd.prog 99 = some true := by kernel_rfl
def zLKey : LKey := ⟨zCheck, zCheck⟩
@[go_sem] theorem tZero99 : tZero Tryd.prog 99 = some zLKey.av := by kernel_rfl
theorem LKey.eqb (a b : LKey) : a.av.eqb b.av = decide (a = b) := by
  have h_s := Check.eqb a.s b.s
  have h_t := Check.eqb a.t b.t
  cases a; cases b
  simp only at h_s h_t
  simp only [LKey.av, AV.eqb, AV.eqbL, int_beq, h_s, h_t, LKey.mk.injEq, Bool.decide_and, Bool.and_true]
theorem fits99 (a : LKey) : fits Tryd.prog a.av 99 = true := by kernel_rfl
theorem depth99 (a : LKey) : a.av.depth ≤ 9999 := Nat.le_of_ble_eq_true rfl
@[go_sem] theorem eql99 (a b : LKey) (K : AV → Prop) : binK Tryd.prog .eql 99 a.av b.av K = K (.bool (decide (a = b))) :=
  bin_eql_of (fun _ _ h => by cases h) (fun _ h => by cases h) (fits99 a) (fits99 b) (depth99 a) (by kernel_rfl) (LKey.eqb a b) K
@[go_sem] theorem neq99 (a b : LKey) (K : AV → Prop) : binK Tryd.prog .neq 99 a.av b.av K = K (.bool !(decide (a = b))) :=
  bin_neq_of (fun _ _ h => by cases h) (fun _ h => by cases h) (fits99 a) (fits99 b) (depth99 a) (by kernel_rfl) (LKey.eqb a b) K
@[go_sem] theorem build99_all (s : Check) (t : Check) (K : AV → Prop) : buildK Tryd.prog 99 [(0, s.av), (1, t.av)] K = K (LKey.mk s t).av := build_struct Tryd.underlying99 tZero99 rfl (by kernel_rfl) rfl K

end Go.Proofs.YtdlejnafhmpobaaDoor

/- The functions of layer 15: those of Go's library, and the small ones. -/
set_option linter.unusedSimpArgs false
set_option maxRecDepth 10000
namespace Go.Proofs.YtdlejnafhmpobaaDoor
open Go Go.Ab

def links (l : List Link) : AV := .sl (l.map Link.av) false
@[go_sem] theorem links_idL (l : List Link) : (links l).idL = [] := rfl
@[go_sem] theorem links_frz (hp : HP) (l : List Link) : (links l).frz hp = links l := rfl
@[go_sem] theorem links_flat (l : List Link) : (links l).flat = false := rfl
@[go_sem] theorem links_ok (l : List Link) : (links l).ok = true := rfl
@[go_sem] theorem links_idf (l : List Link) : (links l).idf = true := rfl
@[go_sem] theorem tElem22 : tElem Tryd.prog 25 = some 59 := by kernel_rfl
@[go_sem] theorem tBytes36 : tBytes Tryd.prog 59 = some 88 := by kernel_rfl
@[go_sem] theorem und22 : Tryd.prog.underlying 25 = some (.slice 59) := Tryd.underlying25

def bit (n : Int) : Int := if n < 0 then 0 else IntKind.u64.wrap (1 * 2 ^ min n.toNat IntKind.u64.bits)
theorem bit_pure (n : Int) : Pure Tryd.prog 73 [.int .i64 n] (.int .u64 (bit n)) := by
  refine pure_of_tr Tryd.func73 rfl (Nat.le_of_ble_eq_true rfl) rfl fun E hE hP => ?_
  first | refine tr_seq_region (by rw [hE]; rfl) ?_ | (refine Tr.seq ?_; refine tr_seq_region (by rw [hE]; rfl) ?_)
  repeat (refine vc_op rfl ?_; simp only [go_sem, seval])
  refine vc_nil ?_
  refine Tr.seq ?_
  first | refine tr_seq_region (by rw [hE]; rfl) ?_ | (refine Tr.seq ?_; refine tr_seq_region (by rw [hE]; rfl) ?_)
  repeat (refine vc_op rfl ?_; simp only [go_sem, seval])
  refine vc_nil ?_
  refine Tr.cond rfl (fun h1 => ?_) (fun h1 => ?_)
  · have hb : bit n = 0 := by rw [bit, if_pos (of_decide_eq_true h1)]
    first | refine tr_seq_region (by rw [hE]; rfl) ?_ | (refine Tr.seq ?_; refine tr_seq_region (by rw [hE]; rfl) ?_)
    repeat (refine vc_op rfl ?_; simp only [go_sem, seval])
    refine vc_nil ?_
    refine Tr.ret ?_
    simp only [hb, Tryd.f73, go_sem, seval]
  · have hn := of_decide_eq_false h1
    have hb : bit n = IntKind.u64.wrap (1 * 2 ^ min n.toNat IntKind.u64.bits) := by rw [bit, if_neg hn]
    refine Tr.skip ?_
    try simp only [blockK, thenK, ↓reduceIte]
    first | refine tr_seq_region (by rw [hE]; rfl) ?_ | (refine Tr.seq ?_; refine tr_seq_region (by rw [hE]; rfl) ?_)
    repeat (refine vc_op rfl ?_; simp only [go_sem, seval])
    refine ⟨by omega, ?_⟩
    repeat (refine vc_op rfl ?_; simp only [go_sem, seval])
    refine vc_nil ?_
    refine Tr.ret ?_
    simp only [hb, Tryd.f73, go_sem, seval]

def keyOf (l : Link) : LKey := ⟨l.s, l.t⟩
theorem of_pure (l : Link) : Pure Tryd.prog 74 [l.av] (keyOf l).av := by
  refine pure_of_tr Tryd.func74 rfl (Nat.le_of_ble_eq_true rfl) rfl fun E hE hP => ?_
  first | refine tr_seq_region (by rw [hE]; rfl) ?_ | (refine Tr.seq ?_; refine tr_seq_region (by rw [hE]; rfl) ?_)
  repeat (refine vc_op rfl ?_; simp only [go_sem, seval])
  refine vc_nil ?_
  first | refine tr_seq_region (by rw [hE]; rfl) ?_ | (refine Tr.seq ?_; refine tr_seq_region (by rw [hE]; rfl) ?_)
  repeat (refine vc_op rfl ?_; simp only [go_sem, seval])
  refine vc_nil ?_
  refine Tr.ret ?_
  simp only [keyOf, Tryd.f74, go_sem, seval]

def odd (l : Link) : Bool := decide (l.t.epoch ≤ l.s.epoch) || (decide (l.mask = 0) || decide (256 ≤ l.mask))
theorem odd_pure (l : Link) : Pure Tryd.prog 49 [l.av] (.bool (odd l)) := by
  have hb : bit 8 = 256 := by decide +kernel
  refine pure_of_tr Tryd.func49 rfl (Nat.le_of_ble_eq_true rfl) rfl fun E hE hP => ?_
  first | refine tr_seq_region (by rw [hE]; rfl) ?_ | (refine Tr.seq ?_; refine tr_seq_region (by rw [hE]; rfl) ?_)
  repeat (refine vc_op rfl ?_; simp only [go_sem, seval])
  refine vc_nil ?_
  by_cases h1 : l.t.epoch ≤ l.s.epoch
  · have e1 : decide (l.t.epoch ≤ l.s.epoch) = true := decide_eq_true h1
    have ho : odd l = true := by simp [odd, h1]
    first | apply tr_md mixed [0] rfl (by rw [hE]; rfl) (by kernel_rfl) | (refine Tr.seq ?_; apply tr_md mixed [0] rfl (by rw [hE]; rfl) (by kernel_rfl))
    intro Q hQ
    simp only [go_sem, seval]
    iterate 8 ((refine vd2_q rfl ?_); intro r hr; simp only [e1, go_sem, seval]; subst hr)
    iterate 3 ((first | refine vd2_goq rfl rfl ?_ | refine vd2_no rfl ?_ | refine vd2_skip rfl ?_); intro r hr; simp only [e1, go_sem, seval]; subst hr)
    iterate 2 ((refine vd2_q rfl ?_); intro r hr; simp only [e1, go_sem, seval]; subst hr)
    iterate 2 ((first | refine vd2_goq rfl rfl ?_ | refine vd2_no rfl ?_ | refine vd2_skip rfl ?_); intro r hr; simp only [e1, go_sem, seval]; subst hr)
    (first | refine vd2_gox rfl rfl ?_ | refine vd2_no rfl ?_ | refine vd2_skip rfl ?_); intro r hr; simp only [e1, go_sem, seval]; subst hr
    (first | refine vd2_goq rfl rfl ?_ | refine vd2_no rfl ?_ | refine vd2_skip rfl ?_); intro r hr; simp only [e1, go_sem, seval]; subst hr
    iterate 2 ((refine vd2_q rfl ?_); intro r hr; simp only [e1, go_sem, seval]; subst hr)
    exact hQ
    refine Tr.ret ?_
    simp only [ho, Tryd.f49, go_sem, seval]
  · have e1 : decide (l.t.epoch ≤ l.s.epoch) = false := decide_eq_false h1
    by_cases h2 : l.mask = 0
    · have e2 : decide (l.mask = 0) = true := decide_eq_true h2
      have ho : odd l = true := by simp [odd, h2]
      first | apply tr_md mixed [0] rfl (by rw [hE]; rfl) (by kernel_rfl) | (refine Tr.seq ?_; apply tr_md mixed [0] rfl (by rw [hE]; rfl) (by kernel_rfl))
      intro Q hQ
      simp only [go_sem, seval]
      iterate 8 ((refine vd2_q rfl ?_); intro r hr; simp only [e1, e2, go_sem, seval]; subst hr)
      iterate 3 ((first | refine vd2_goq rfl rfl ?_ | refine vd2_no rfl ?_ | refine vd2_skip rfl ?_); intro r hr; simp only [e1, e2, go_sem, seval]; subst hr)
      iterate 2 ((refine vd2_q rfl ?_); intro r hr; simp only [e1, e2, go_sem, seval]; subst hr)
      iterate 2 ((first | refine vd2_goq rfl rfl ?_ | refine vd2_no rfl ?_ | refine vd2_skip rfl ?_); intro r hr; simp only [e1, e2, go_sem, seval]; subst hr)
      (first | refine vd2_gox rfl rfl ?_ | refine vd2_no rfl ?_ | refine vd2_skip rfl ?_); intro r hr; simp only [e1, e2, go_sem, seval]; subst hr
      (first | refine vd2_goq rfl rfl ?_ | refine vd2_no rfl ?_ | refine vd2_skip rfl ?_); intro r hr; simp only [e1, e2, go_sem, seval]; subst hr
      iterate 2 ((refine vd2_q rfl ?_); intro r hr; simp only [e1, e2, go_sem, seval]; subst hr)
      exact hQ
      refine Tr.ret ?_
      simp only [ho, Tryd.f49, go_sem, seval]
    · have e2 : decide (l.mask = 0) = false := decide_eq_false h2
      have ho : odd l = decide (256 ≤ l.mask) := by simp [odd, h1, h2]
      first | apply tr_md mixed [0] rfl (by rw [hE]; rfl) (by kernel_rfl) | (refine Tr.seq ?_; apply tr_md mixed [0] rfl (by rw [hE]; rfl) (by kernel_rfl))
      intro Q hQ
      simp only [go_sem, seval]
      iterate 8 ((refine vd2_q rfl ?_); intro r hr; simp only [e1, e2, go_sem, seval]; subst hr)
      iterate 3 ((first | refine vd2_goq rfl rfl ?_ | refine vd2_no rfl ?_ | refine vd2_skip rfl ?_); intro r hr; simp only [e1, e2, go_sem, seval]; subst hr)
      iterate 2 ((refine vd2_q rfl ?_); intro r hr; simp only [e1, e2, go_sem, seval]; subst hr)
      iterate 2 ((first | refine vd2_goq rfl rfl ?_ | refine vd2_no rfl ?_ | refine vd2_skip rfl ?_); intro r hr; simp only [e1, e2, go_sem, seval]; subst hr)
      (first | refine vd2_gox rfl rfl ?_ | refine vd2_no rfl ?_ | refine vd2_skip rfl ?_); intro r hr; simp only [e1, e2, go_sem, seval]
      refine call_fn rfl rfl rfl rfl (enters_of Tryd.func73 (by kernel_rfl) rfl) (bit_pure 8) rfl rfl rfl ?_
      simp only [go_sem, seval]
      subst hr
      (first | refine vd2_goq rfl rfl ?_ | refine vd2_no rfl ?_ | refine vd2_skip rfl ?_); intro r hr; simp only [hb, go_sem, seval]; subst hr
      iterate 2 ((refine vd2_q rfl ?_); intro r hr; simp only [hb, go_sem, seval]; subst hr)
      exact hQ
      refine Tr.ret ?_
      simp only [ho, Tryd.f49, go_sem, seval]

theorem lens_links (l : List Link) : ∀ z ∈ l.map Link.av, z.len = 67 := fun z hz => by
  obtain ⟨a, _, rfl⟩ := List.mem_map.1 hz
  rfl

def lidx (l : List Link) : Int := match l.findIdx? odd with | some i => (i : Int) | none => -1

theorem lidx_at {l : List Link} {i : Nat} (h : i < l.length) (hb : ∀ j (hj : j < i), odd (l[j]'(by omega)) = false) (hi : odd l[i] = true) : lidx l = i := by
  have : l.findIdx? odd = some i := by
    rw [List.findIdx?_eq_some_iff_getElem]
    exact ⟨h, hi, fun j hj => by rw [hb j hj]; simp⟩
  rw [lidx, this]
theorem lidx_none {l : List Link} (hb : ∀ j (hj : j < l.length), odd l[j] = false) : lidx l = -1 := by
  have : l.findIdx? odd = none := by
    rw [List.findIdx?_eq_none_iff]
    intro x hx
    obtain ⟨j, hj, rfl⟩ := List.mem_iff_getElem.1 hx
    exact hb j hj
  rw [lidx, this]
theorem lidx_any (l : List Link) : decide (0 ≤ lidx l) = l.any odd := by
  unfold lidx
  cases h : l.findIdx? odd with
  | none =>
    rw [List.findIdx?_eq_none_iff] at h
    have : l.any odd = false := by rw [List.any_eq_false]; intro x hx; rw [h x hx]; simp
    rw [this]; rfl
  | some i =>
    rw [List.findIdx?_eq_some_iff_getElem] at h
    obtain ⟨h1, h2, _⟩ := h
    have : l.any odd = true := List.any_eq_true.2 ⟨l[i], List.getElem_mem h1, h2⟩
    rw [this]; simp

def lidxSt (l : List Link) (i : Nat) : S where
  fr := [(8, .int .i64 i), (7, .int .i64 l.length), (0, .sl (l.map Link.av) false), (1, .fn (.func 49) [] [])]
  hp := []
  nx := 0

theorem LIndex_pure (l : List Link) (hl : l.length ≤ 100) : Pure Tryd.prog 72 [links l, .fn (.func 49) [] []] (.int .i64 (lidx l)) := by
  unfold links
  refine pure_of_tr Tryd.func72 rfl (Nat.le_of_ble_eq_true rfl) rfl fun E hE hP => ?_
  first | refine tr_seq_region (by rw [hE]; rfl) ?_ | (refine Tr.seq ?_; refine tr_seq_region (by rw [hE]; rfl) ?_)
  repeat (refine vc_op rfl ?_; simp only [go_sem, seval])
  refine vc_nil ?_
  refine Tr.seq ?_
  first | refine tr_seq_region (by rw [hE]; rfl) ?_ | (refine Tr.seq ?_; refine tr_seq_region (by rw [hE]; rfl) ?_)
  repeat (refine vc_op rfl ?_; simp only [go_sem, seval])
  refine vc_nil ?_
  refine Tr.block ?_
  refine Tr.loop (lidxSt l) (fun i => i ≤ l.length ∧ ∀ j (hj : j < l.length), j < i → odd l[j] = false) (fun i => l.length - i) 0 ⟨Nat.zero_le _, fun _ _ h => by omega⟩ ?_ ?_
  · refine wk_ren (fun n => n) ?_ ?_ rfl rfl rfl
    · repeat' (first | exact rfl | exact trivial | constructor)
    · repeat' (first | exact rfl | exact trivial | constructor)
  · intro i ⟨hi, hbefore⟩
    unfold lidxSt
    first | refine tr_seq_region (by rw [hE]; rfl) ?_ | (refine Tr.seq ?_; refine tr_seq_region (by rw [hE]; rfl) ?_)
    repeat (refine vc_op rfl ?_; simp only [go_sem, seval])
    refine vc_nil ?_
    refine Tr.seq (Tr.cond rfl (fun hb => ?_) (fun hb => ?_))
    · refine Tr.skip ?_
      have hlt : i < l.length := by have := of_decide_eq_true hb; omega
      have ha := nth_map_lt Link.av l i hlt
      generalize hla : l[i] = a at ha
      have hw := wrap_next (n := i) (by omega)
      simp only [thenK]
      refine Tr.seq (Tr.block ?_)
      first | refine tr_seq_region (by rw [hE]; rfl) ?_ | (refine Tr.seq ?_; refine tr_seq_region (by rw [hE]; rfl) ?_)
      repeat (refine vc_op rfl ?_; simp only [go_sem, seval])
      refine vc_nil ?_
      first | refine tr_seq_region (by rw [hE]; rfl) ?_ | (refine Tr.seq ?_; refine tr_seq_region (by rw [hE]; rfl) ?_)
      repeat (refine vc_op rfl ?_; simp only [ha, go_sem, seval])
      refine call_fn rfl rfl rfl rfl (enters_of Tryd.func49 (by kernel_rfl) rfl) (odd_pure a) rfl rfl rfl ?_
      simp only [go_sem, seval]
      repeat (refine vc_op rfl ?_; simp only [go_sem, seval])
      refine vc_nil ?_
      refine Tr.cond rfl (fun hd => ?_) (fun hd => ?_)
      · first | refine tr_seq_region (by rw [hE]; rfl) ?_ | (refine Tr.seq ?_; refine tr_seq_region (by rw [hE]; rfl) ?_)
        repeat (refine vc_op rfl ?_; simp only [go_sem, seval])
        refine vc_nil ?_
        have hidx : lidx l = i := lidx_at hlt (fun j hj => hbefore j (by omega) hj) (by rw [hla]; exact hd)
        refine Tr.ret ?_
        simp only [Tryd.f72, hidx, go_sem, seval]
      · refine Tr.skip ?_
        simp only [blockK, thenK]
        refine tr_region (by rw [hE]; rfl) ?_
        repeat (refine vc_op rfl ?_; simp only [hw, go_sem, seval])
        refine vc_nil ?_
        refine ⟨i + 1, ⟨hlt, fun j hj hji => ?_⟩, by omega, ?_⟩
        · by_cases h : j = i
          · subst h; rw [hla]; exact hd
          · exact hbefore j hj (by omega)
        · refine wk_ren (fun n => n) ?_ ?_ rfl rfl rfl
          · repeat' (first | exact rfl | exact trivial | constructor)
          · repeat' (first | exact rfl | exact trivial | constructor)
    · refine Tr.exit ?_
      simp only [blockK, thenK, ↓reduceIte]
      have hil : i = l.length := by
        have := of_decide_eq_false hb
        omega
      subst hil
      have hidx : lidx l = -1 := lidx_none fun j hj => hbefore j hj hj
      first | refine tr_seq_region (by rw [hE]; rfl) ?_ | (refine Tr.seq ?_; refine tr_seq_region (by rw [hE]; rfl) ?_)
      repeat (refine vc_op rfl ?_; simp only [go_sem, seval])
      refine vc_nil ?_
      refine Tr.ret ?_
      simp only [Tryd.f72, hidx, go_sem, seval]

theorem LContains_pure (l : List Link) (hl : l.length ≤ 100) : Pure Tryd.prog 48 [links l, .fn (.func 49) [] []] (.bool (l.any odd)) := by
  refine pure_of_tr Tryd.func48 rfl (Nat.le_of_ble_eq_true rfl) rfl fun E hE hP => ?_
  first | refine tr_seq_region (by rw [hE]; rfl) ?_ | (refine Tr.seq ?_; refine tr_seq_region (by rw [hE]; rfl) ?_)
  repeat (refine vc_op rfl ?_; simp only [go_sem, seval])
  refine vc_nil ?_
  first | refine tr_seq_region (by rw [hE]; rfl) ?_ | (refine Tr.seq ?_; refine tr_seq_region (by rw [hE]; rfl) ?_)
  repeat (refine vc_op rfl ?_; simp only [go_sem, seval])
  refine call_fn rfl rfl rfl rfl (enters_of Tryd.func72 (by kernel_rfl) rfl) (LIndex_pure l hl) rfl rfl rfl ?_
  simp only [go_sem, seval]
  repeat (refine vc_op rfl ?_; simp only [lidx_any, go_sem, seval])
  refine vc_nil ?_
  refine Tr.ret ?_
  simp only [Tryd.f48, go_sem, seval]

end Go.Proofs.YtdlejnafhmpobaaDoor

/- The places of links, and who attested one. -/
set_option linter.unusedSimpArgs false
set_option maxRecDepth 10000
namespace Go.Proofs.YtdlejnafhmpobaaDoor
open Go Go.Ab

def lentE (e : LKey × Nat) : AV × AV := (e.1.av, .int .i64 e.2)
def llook (es : List (LKey × Nat)) (k : LKey) : Option Nat := (es.find? fun e => decide (k = e.1)).map (·.2)
def placesTo (l : List Link) : Nat → List (LKey × Nat)
  | 0 => []
  | i + 1 => match l[i]? with
    | some x => if (llook (placesTo l i) (keyOf x)).isSome then placesTo l i else placesTo l i ++ [(keyOf x, i)]
    | none => placesTo l i
def places (l : List Link) : List (LKey × Nat) := placesTo l l.length

theorem tMap64 : tMap Tryd.prog 80 = some (99, 3) := by kernel_rfl
theorem ltZero3 : tZero Tryd.prog 3 = some (.int .i64 0) := by kernel_rfl
theorem keys64 (es : List (LKey × Nat)) : keysFit Tryd.prog 99 (es.map lentE) := fun e he => by
  obtain ⟨x, _, rfl⟩ := List.mem_map.1 he
  exact fits99 x.1
theorem found64 (es : List (LKey × Nat)) (k : LKey) : foundE k.av (es.map lentE) = (llook es k).map fun n => .int .i64 n := by
  unfold foundE llook
  induction es with
  | nil => rfl
  | cons e es ih =>
    have hb : k.av.eqb (lentE e).1 = decide (k = e.1) := LKey.eqb k e.1
    simp only [List.map_cons, List.find?_cons, hb]
    cases decide (k = e.1)
    · exact ih
    · rfl
theorem look64 {hp : HP} {o : Nat} {es : List (LKey × Nat)} {k : LKey} {K : AV → Prop} (hg : HP.get hp o = some (.amap (es.map lentE))) (h : K (.tup [.int .i64 ((llook es k).getD 0), .bool (llook es k).isSome])) :
    lookupK Tryd.prog 80 hp (.mp o) k.av true K := by
  simp only [lookupK, tMap64, hg, ltZero3, if_true]
  refine ⟨fits99 k, depth99 k, keys64 es, ?_⟩
  rw [found64]
  cases hl : llook es k with
  | none => rw [hl] at h; exact h
  | some n => rw [hl] at h; exact h
theorem upd64 {hp : HP} {o : Nat} {es : List (LKey × Nat)} {k : LKey} {n : Nat} {K : AV → HP → Prop} (hg : HP.get hp o = some (.amap (es.map lentE))) (hn : llook es k = none) (h : K (.tup []) (HP.set hp o (.amap ((es ++ [(k, n)]).map lentE)))) :
    mapUpdateK Tryd.prog 80 hp (.mp o) k.av (.int .i64 n) K := by
  simp only [mapUpdateK, tMap64, hg]
  refine ⟨fits99 k, depth99 k, keys64 es, rfl, rfl, ?_⟩
  have : setE k.av (.int .i64 n) (es.map lentE) = (es ++ [(k, n)]).map lentE := by
    have hf : foundE k.av (es.map lentE) = none := by rw [found64, hn]; rfl
    unfold setE
    have : (es.map lentE).findIdx? (fun e => k.av.eqb e.1) = none := by
      rw [List.findIdx?_eq_none_iff]
      intro e he
      unfold foundE at hf
      simp only [Option.map_eq_none_iff, List.find?_eq_none] at hf
      simpa using hf e he
    rw [this, List.map_append]
    rfl
  rw [this]
  exact h

theorem placesTo_next {l : List Link} {i : Nat} {a : Link} (h : i < l.length) (ha : l[i] = a) : placesTo l (i + 1) = if (llook (placesTo l i) (keyOf a)).isSome then placesTo l i else placesTo l i ++ [(keyOf a, i)] := by
  rw [placesTo]
  simp [h, ha]

def st41 (l : List Link) (i : Nat) : S where
  fr := [(3, .mp 0), (9, .sl (l.map Link.av) false), (10, .int .i64 l.length), (11, .int .i64 i)]
  hp := [(0, .amap ((placesTo l i).map lentE))]
  nx := 1

@[go_sem] theorem lren_amap (ρ : Nat → Nat) (es : List (AV × AV)) : (AO.amap es).ren ρ = .amap es := rfl

theorem places_own (l : List Link) (hl : l.length ≤ 100) : Own Tryd.prog 50 [links l] (.mp 0) [(0, .amap ((places l).map lentE))] := by
  unfold links
  refine own_of_tr Tryd.func50 rfl (Nat.le_of_ble_eq_true rfl) rfl fun E hE hP => ?_
  first | refine tr_seq_region (by rw [hE]; rfl) ?_ | (refine Tr.seq ?_; refine tr_seq_region (by rw [hE]; rfl) ?_)
  repeat (refine vc_op rfl ?_; simp only [go_sem, seval])
  refine vc_nil ?_
  first | refine tr_seq_region (by rw [hE]; rfl) ?_ | (refine Tr.seq ?_; refine tr_seq_region (by rw [hE]; rfl) ?_)
  repeat (refine vc_op rfl ?_; simp only [go_sem, seval])
  refine vc_nil ?_
  refine Tr.seq ?_
  first | refine tr_seq_region (by rw [hE]; rfl) ?_ | (refine Tr.seq ?_; refine tr_seq_region (by rw [hE]; rfl) ?_)
  repeat (refine vc_op rfl ?_; simp only [go_sem, seval])
  refine vc_nil ?_
  refine Tr.block ?_
  refine Tr.loop (st41 l) (fun i => i ≤ l.length) (fun i => l.length - i) 0 (Nat.zero_le _) ?_ ?_
  · refine wk_ren (fun | 0 => 16 | n => n) ?_ ?_ rfl rfl rfl
    · repeat' (first | exact rfl | exact trivial | constructor)
    · repeat' (first | exact rfl | exact trivial | constructor)
  · intro i hi
    unfold st41
    first | refine tr_seq_region (by rw [hE]; rfl) ?_ | (refine Tr.seq ?_; refine tr_seq_region (by rw [hE]; rfl) ?_)
    repeat (refine vc_op rfl ?_; simp only [go_sem, seval])
    refine vc_nil ?_
    refine Tr.seq (Tr.cond rfl (fun h1 => ?_) (fun h1 => ?_))
    · refine Tr.skip ?_
      try simp only [blockK, thenK, ↓reduceIte]
      have hlt : i < l.length := by have := of_decide_eq_true h1; omega
      have ha := nth_map_lt Link.av l i hlt
      generalize hla : l[i] = a at ha
      have hw := wrap_next (n := i) (by omega)
      have hpl := placesTo_next hlt hla
      refine Tr.seq ?_
      refine Tr.block ?_
      first | refine tr_seq_region (by rw [hE]; rfl) ?_ | (refine Tr.seq ?_; refine tr_seq_region (by rw [hE]; rfl) ?_)
      repeat (refine vc_op rfl ?_; simp only [ha, go_sem, seval])
      refine vc_nil ?_
      first | refine tr_seq_region (by rw [hE]; rfl) ?_ | (refine Tr.seq ?_; refine tr_seq_region (by rw [hE]; rfl) ?_)
      repeat (refine vc_op rfl ?_; simp only [go_sem, seval])
      refine call_fn rfl rfl rfl rfl (enters_of Tryd.func74 (by kernel_rfl) rfl) (of_pure a) rfl rfl rfl ?_
      simp only [go_sem, seval]
      repeat (refine vc_op rfl ?_; simp only [go_sem, seval])
      refine look64 rfl ?_
      repeat (refine vc_op rfl ?_; simp only [go_sem, seval])
      refine vc_nil ?_
      first | refine tr_seq_region (by rw [hE]; rfl) ?_ | (refine Tr.seq ?_; refine tr_seq_region (by rw [hE]; rfl) ?_)
      repeat (refine vc_op rfl ?_; simp only [go_sem, seval])
      refine vc_nil ?_
      refine Tr.cond rfl (fun h2 => ?_) (fun h2 => ?_)
      · have hn : llook (placesTo l i) (keyOf a) = none := by
          cases hq : llook (placesTo l i) (keyOf a) with
          | none => rfl
          | some x => rw [hq] at h2; simp at h2
        rw [hn] at hpl
        simp only [Option.isSome_none, Bool.false_eq_true, if_false] at hpl
        refine tr_region (by rw [hE]; rfl) ?_
        repeat (refine vc_op rfl ?_; simp only [go_sem, seval])
        refine call_fn rfl rfl rfl rfl (enters_of Tryd.func74 (by kernel_rfl) rfl) (of_pure a) rfl rfl rfl ?_
        simp only [go_sem, seval]
        repeat (refine vc_op rfl ?_; simp only [go_sem, seval])
        refine upd64 rfl hn ?_
        simp only [go_sem, seval]
        repeat (refine vc_op rfl ?_; simp only [go_sem, seval])
        refine vc_nil ?_
        try simp only [blockK, thenK, ↓reduceIte]
        refine tr_region (by rw [hE]; rfl) ?_
        repeat (refine vc_op rfl ?_; simp only [hw, go_sem, seval])
        refine vc_nil ?_
        try simp only [blockK, thenK, ↓reduceIte]
        refine ⟨i + 1, hlt, by omega, ?_⟩
        rw [hpl]
        refine wk_ren (fun n => n) ?_ ?_ rfl rfl rfl
        · repeat' (first | exact rfl | exact trivial | constructor)
        · repeat' (first | exact rfl | exact trivial | constructor)
      · have hn : (llook (placesTo l i) (keyOf a)).isSome = true := by
          cases hq : llook (placesTo l i) (keyOf a) with
          | none => rw [hq] at h2; simp at h2
          | some x => rfl
        rw [hn, if_pos rfl] at hpl
        refine Tr.skip ?_
        try simp only [blockK, thenK, ↓reduceIte]
        refine tr_region (by rw [hE]; rfl) ?_
        repeat (refine vc_op rfl ?_; simp only [hw, go_sem, seval])
        refine vc_nil ?_
        try simp only [blockK, thenK, ↓reduceIte]
        refine ⟨i + 1, hlt, by omega, ?_⟩
        rw [hpl]
        refine wk_ren (fun n => n) ?_ ?_ rfl rfl rfl
        · repeat' (first | exact rfl | exact trivial | constructor)
        · repeat' (first | exact rfl | exact trivial | constructor)
    · refine Tr.exit ?_
      try simp only [blockK, thenK, ↓reduceIte]
      have hil : i = l.length := by
        have := of_decide_eq_false h1
        omega
      subst hil
      first | refine tr_seq_region (by rw [hE]; rfl) ?_ | (refine Tr.seq ?_; refine tr_seq_region (by rw [hE]; rfl) ?_)
      repeat (refine vc_op rfl ?_; simp only [go_sem, seval])
      refine vc_nil ?_
      refine Tr.ret ?_
      simp only [Tryd.f50, go_sem, seval]
      exact ⟨fun n => n, rfl, ⟨⟨rfl, rfl, rfl⟩, trivial⟩, rfl⟩

end Go.Proofs.YtdlejnafhmpobaaDoor

/- Links that may be, who attested one, and one more that is attested. -/
set_option linter.unusedSimpArgs false
set_option maxRecDepth 10000
namespace Go.Proofs.YtdlejnafhmpobaaDoor
open Go Go.Ab

@[go_sem] theorem und64 : Tryd.prog.underlying 80 = some (.map 99 3) := Tryd.underlying80

theorem look_spec {l : List Link} {n : Nat} {k : LKey} {i : Nat} (h : llook (placesTo l n) k = some i) : i < n ∧ ∃ hi : i < l.length, keyOf l[i] = k := by
  induction n with
  | zero => simp [placesTo, llook] at h
  | succ n ih =>
    by_cases hn : n < l.length
    · rw [placesTo_next hn rfl] at h
      split at h
      · obtain ⟨h1, h2⟩ := ih h
        exact ⟨by omega, h2⟩
      · unfold llook at h
        rw [List.find?_append] at h
        cases hq : (placesTo l n).find? fun e => decide (k = e.1) with
        | some e =>
          rw [hq] at h
          have h' : llook (placesTo l n) k = some i := by unfold llook; rw [hq]; simpa using h
          obtain ⟨h1, h2⟩ := ih h'
          exact ⟨by omega, h2⟩
        | none =>
          rw [hq] at h
          by_cases hk : k = keyOf l[n]
          · simp [hk] at h
            subst h
            exact ⟨by omega, hn, hk.symm⟩
          · simp [hk] at h
    · have e : placesTo l (n + 1) = placesTo l n := by rw [placesTo, List.getElem?_eq_none (by omega)]
      rw [e] at h
      obtain ⟨h1, h2⟩ := ih h
      exact ⟨by omega, h2⟩

def lmayB (l : List Link) : Bool := decide (l.length ≤ 16) && (!l.any odd && decide ((places l).length = l.length))

theorem LMay_pure (l : List Link) : Pure Tryd.prog 26 [links l] (.bool (lmayB l)) := by
  unfold links
  refine pure_of_tr Tryd.func26 rfl (Nat.le_of_ble_eq_true rfl) rfl fun E hE hP => ?_
  first | refine tr_seq_region (by rw [hE]; rfl) ?_ | (refine Tr.seq ?_; refine tr_seq_region (by rw [hE]; rfl) ?_)
  repeat (refine vc_op rfl ?_; simp only [go_sem, seval])
  refine vc_nil ?_
  by_cases h : l.length ≤ 16
  · have h1 : decide ((l.length : Int) ≤ 16) = true := decide_eq_true (by omega)
    cases h2 : l.any odd with
    | true =>
      have hm : lmayB l = false := by simp only [lmayB, h2]; simp
      first | apply tr_m (by rw [hE]; rfl) | (refine Tr.seq ?_; apply tr_m (by rw [hE]; rfl))
      intro Q hQ
      simp only [go_sem, seval]
      iterate 4 ((refine vm_op ?_); intro r hr; simp only [h1, go_sem, seval]; subst hr)
      (first | refine vm_if rfl ?_ | refine vm_no rfl ?_ | refine vm_skip rfl ?_); intro r hr; simp only [h1, go_sem, seval]; subst hr
      (first | refine vm_if rfl ?_ | refine vm_no rfl ?_ | refine vm_skip rfl ?_); intro r hr; simp only [h1, go_sem, seval]
      refine call_fn rfl rfl rfl rfl (enters_of Tryd.func48 (by kernel_rfl) rfl) (LContains_pure l (by omega)) rfl rfl rfl ?_
      simp only [go_sem, seval]
      subst hr
      (first | refine vm_if rfl ?_ | refine vm_no rfl ?_ | refine vm_skip rfl ?_); intro r hr; simp only [h2, go_sem, seval]; subst hr
      iterate 2 ((refine vm_op ?_); intro r hr; simp only [h2, go_sem, seval]; subst hr)
      iterate 6 ((first | refine vm_if rfl ?_ | refine vm_no rfl ?_ | refine vm_skip rfl ?_); intro r hr; simp only [h2, go_sem, seval]; subst hr)
      iterate 2 ((refine vm_op ?_); intro r hr; simp only [h2, go_sem, seval]; subst hr)
      exact hQ
      refine Tr.ret ?_
      simp only [hm, Tryd.f26, go_sem, seval]
    | false =>
      have hm : lmayB l = decide (((places l).length : Int) = l.length) := by simp only [lmayB, h2, h]; simp; omega
      first | apply tr_m (by rw [hE]; rfl) | (refine Tr.seq ?_; apply tr_m (by rw [hE]; rfl))
      intro Q hQ
      simp only [go_sem, seval]
      iterate 4 ((refine vm_op ?_); intro r hr; simp only [h1, go_sem, seval]; subst hr)
      (first | refine vm_if rfl ?_ | refine vm_no rfl ?_ | refine vm_skip rfl ?_); intro r hr; simp only [h1, go_sem, seval]; subst hr
      (first | refine vm_if rfl ?_ | refine vm_no rfl ?_ | refine vm_skip rfl ?_); intro r hr; simp only [h1, go_sem, seval]
      refine call_fn rfl rfl rfl rfl (enters_of Tryd.func48 (by kernel_rfl) rfl) (LContains_pure l (by omega)) rfl rfl rfl ?_
      simp only [go_sem, seval]
      subst hr
      (first | refine vm_if rfl ?_ | refine vm_no rfl ?_ | refine vm_skip rfl ?_); intro r hr; simp only [h2, go_sem, seval]; subst hr
      iterate 2 ((refine vm_op ?_); intro r hr; simp only [h2, go_sem, seval]; subst hr)
      (first | refine vm_if rfl ?_ | refine vm_no rfl ?_ | refine vm_skip rfl ?_); intro r hr; simp only [h2, go_sem, seval]; subst hr
      (first | refine vm_if rfl ?_ | refine vm_no rfl ?_ | refine vm_skip rfl ?_); intro r hr; simp only [h2, go_sem, seval]
      refine call_own rfl rfl rfl rfl (enters_of Tryd.func50 (by kernel_rfl) rfl) (places_own l (by omega)) rfl rfl ?_
      simp only [go_sem, seval]
      subst hr
      iterate 4 ((first | refine vm_if rfl ?_ | refine vm_no rfl ?_ | refine vm_skip rfl ?_); intro r hr; simp only [go_sem, seval]; subst hr)
      iterate 2 ((refine vm_op ?_); intro r hr; simp only [go_sem, seval]; subst hr)
      exact hQ
      refine Tr.ret ?_
      simp only [hm, Tryd.f26, go_sem, seval]
  · have h1 : decide ((l.length : Int) ≤ 16) = false := decide_eq_false (by omega)
    have hm : lmayB l = false := by simp [lmayB, h]
    first | apply tr_m (by rw [hE]; rfl) | (refine Tr.seq ?_; apply tr_m (by rw [hE]; rfl))
    intro Q hQ
    simp only [go_sem, seval]
    iterate 4 ((refine vm_op ?_); intro r hr; simp only [h1, go_sem, seval]; subst hr)
    iterate 3 ((first | refine vm_if rfl ?_ | refine vm_no rfl ?_ | refine vm_skip rfl ?_); intro r hr; simp only [h1, go_sem, seval]; subst hr)
    iterate 2 ((refine vm_op ?_); intro r hr; simp only [h1, go_sem, seval]; subst hr)
    iterate 6 ((first | refine vm_if rfl ?_ | refine vm_no rfl ?_ | refine vm_skip rfl ?_); intro r hr; simp only [h1, go_sem, seval]; subst hr)
    iterate 2 ((refine vm_op ?_); intro r hr; simp only [h1, go_sem, seval]; subst hr)
    exact hQ
    refine Tr.ret ?_
    simp only [hm, Tryd.f26, go_sem, seval]

end Go.Proofs.YtdlejnafhmpobaaDoor

/- Which links clash, and who is guilty. -/
set_option linter.unusedSimpArgs false
set_option maxRecDepth 10000
namespace Go.Proofs.YtdlejnafhmpobaaDoor
open Go Go.Ab

def rule1 (x y : Link) : Bool := !decide (keyOf x = keyOf y) && decide (x.t.epoch = y.t.epoch)
def rule2 (x y : Link) : Bool := decide (x.s.epoch < y.s.epoch) && decide (y.t.epoch < x.t.epoch)

theorem rule1_pure (x y : Link) : Pure Tryd.prog 94 [x.av, y.av] (.bool (rule1 x y)) := by
  refine pure_of_tr Tryd.func94 rfl (Nat.le_of_ble_eq_true rfl) rfl fun E hE hP => ?_
  first | refine tr_seq_region (by rw [hE]; rfl) ?_ | (refine Tr.seq ?_; refine tr_seq_region (by rw [hE]; rfl) ?_)
  repeat (refine vc_op rfl ?_; simp only [go_sem, seval])
  refine vc_nil ?_
  cases h1 : decide (keyOf x = keyOf y) with
  | true =>
    have hr1 : rule1 x y = false := by simp [rule1, h1]
    first | apply tr_md mixed [0, 16] rfl (by rw [hE]; rfl) (by kernel_rfl) | (refine Tr.seq ?_; apply tr_md mixed [0, 16] rfl (by rw [hE]; rfl) (by kernel_rfl))
    intro Q hQ
    simp only [go_sem, seval]
    (refine vd2_q rfl ?_); intro r hr; simp only [go_sem, seval]; subst hr
    (refine vd2_x rfl ?_); intro r hr; simp only [go_sem, seval]
    refine call_fn rfl rfl rfl rfl (enters_of Tryd.func74 (by kernel_rfl) rfl) (of_pure x) rfl rfl rfl ?_
    simp only [go_sem, seval]
    subst hr
    (refine vd2_q rfl ?_); intro r hr; simp only [go_sem, seval]; subst hr
    (refine vd2_x rfl ?_); intro r hr; simp only [go_sem, seval]
    refine call_fn rfl rfl rfl rfl (enters_of Tryd.func74 (by kernel_rfl) rfl) (of_pure y) rfl rfl rfl ?_
    simp only [go_sem, seval]
    subst hr
    iterate 2 ((refine vd2_q rfl ?_); intro r hr; simp only [h1, go_sem, seval]; subst hr)
    iterate 7 ((first | refine vd2_goq rfl rfl ?_ | refine vd2_no rfl ?_ | refine vd2_skip rfl ?_); intro r hr; simp only [h1, go_sem, seval]; subst hr)
    iterate 2 ((refine vd2_q rfl ?_); intro r hr; simp only [h1, go_sem, seval]; subst hr)
    exact hQ
    refine Tr.ret ?_
    simp only [hr1, Tryd.f94, go_sem, seval]
  | false =>
    have hr1 : rule1 x y = decide (x.t.epoch = y.t.epoch) := by simp [rule1, h1]
    first | apply tr_md mixed [0, 16] rfl (by rw [hE]; rfl) (by kernel_rfl) | (refine Tr.seq ?_; apply tr_md mixed [0, 16] rfl (by rw [hE]; rfl) (by kernel_rfl))
    intro Q hQ
    simp only [go_sem, seval]
    (refine vd2_q rfl ?_); intro r hr; simp only [go_sem, seval]; subst hr
    (refine vd2_x rfl ?_); intro r hr; simp only [go_sem, seval]
    refine call_fn rfl rfl rfl rfl (enters_of Tryd.func74 (by kernel_rfl) rfl) (of_pure x) rfl rfl rfl ?_
    simp only [go_sem, seval]
    subst hr
    (refine vd2_q rfl ?_); intro r hr; simp only [go_sem, seval]; subst hr
    (refine vd2_x rfl ?_); intro r hr; simp only [go_sem, seval]
    refine call_fn rfl rfl rfl rfl (enters_of Tryd.func74 (by kernel_rfl) rfl) (of_pure y) rfl rfl rfl ?_
    simp only [go_sem, seval]
    subst hr
    iterate 2 ((refine vd2_q rfl ?_); intro r hr; simp only [h1, go_sem, seval]; subst hr)
    iterate 7 ((first | refine vd2_goq rfl rfl ?_ | refine vd2_no rfl ?_ | refine vd2_skip rfl ?_); intro r hr; simp only [h1, go_sem, seval]; subst hr)
    iterate 2 ((refine vd2_q rfl ?_); intro r hr; simp only [h1, go_sem, seval]; subst hr)
    exact hQ
    refine Tr.ret ?_
    simp only [hr1, Tryd.f94, go_sem, seval]

theorem rule2_pure (x y : Link) : Pure Tryd.prog 95 [x.av, y.av] (.bool (rule2 x y)) := by
  refine pure_of_tr Tryd.func95 rfl (Nat.le_of_ble_eq_true rfl) rfl fun E hE hP => ?_
  first | refine tr_seq_region (by rw [hE]; rfl) ?_ | (refine Tr.seq ?_; refine tr_seq_region (by rw [hE]; rfl) ?_)
  repeat (refine vc_op rfl ?_; simp only [go_sem, seval])
  refine vc_nil ?_
  cases h1 : decide (x.s.epoch < y.s.epoch) with
  | true =>
    have hr1 : rule2 x y = decide (y.t.epoch < x.t.epoch) := by simp [rule2, h1]
    first | apply tr_m (by rw [hE]; rfl) | (refine Tr.seq ?_; apply tr_m (by rw [hE]; rfl))
    intro Q hQ
    simp only [go_sem, seval]
    iterate 8 ((refine vm_op ?_); intro r hr; simp only [h1, go_sem, seval]; subst hr)
    iterate 7 ((first | refine vm_if rfl ?_ | refine vm_no rfl ?_ | refine vm_skip rfl ?_); intro r hr; simp only [h1, go_sem, seval]; subst hr)
    iterate 2 ((refine vm_op ?_); intro r hr; simp only [h1, go_sem, seval]; subst hr)
    exact hQ
    refine Tr.ret ?_
    simp only [hr1, Tryd.f95, go_sem, seval]
  | false =>
    have hr1 : rule2 x y = false := by simp [rule2, h1]
    first | apply tr_m (by rw [hE]; rfl) | (refine Tr.seq ?_; apply tr_m (by rw [hE]; rfl))
    intro Q hQ
    simp only [go_sem, seval]
    iterate 8 ((refine vm_op ?_); intro r hr; simp only [h1, go_sem, seval]; subst hr)
    iterate 7 ((first | refine vm_if rfl ?_ | refine vm_no rfl ?_ | refine vm_skip rfl ?_); intro r hr; simp only [h1, go_sem, seval]; subst hr)
    iterate 2 ((refine vm_op ?_); intro r hr; simp only [h1, go_sem, seval]; subst hr)
    exact hQ
    refine Tr.ret ?_
    simp only [hr1, Tryd.f95, go_sem, seval]

inductive Rule where
  | one | two
def Rule.av : Rule → AV
  | .one => .st [.fn (.func 94) [] []]
  | .two => .st [.fn (.func 95) [] []]
@[go_sem] theorem Rule.av_flat (a : Rule) : a.av.flat = false := by cases a <;> rfl
@[go_sem] theorem Rule.av_len (a : Rule) : a.av.len = 1 := by cases a <;> rfl
@[go_sem] theorem Rule.av_agg (a : Rule) : a.av.agg = true := by cases a <;> rfl
@[go_sem] theorem Rule.av_idf (a : Rule) : a.av.idf = true := by cases a <;> rfl
@[go_sem] theorem Rule.av_ok (a : Rule) : a.av.ok = true := by cases a <;> rfl
@[go_sem] theorem Rule.av_frz (hp : HP) (a : Rule) : a.av.frz hp = a.av := by cases a <;> rfl
@[go_sem] theorem Rule.av_idL (a : Rule) : a.av.idL = [] := by cases a <;> rfl
def rules (l : List Rule) : AV := .sl (l.map Rule.av) false
theorem tField71_0 : tFieldI Tryd.prog 110 0 = some (0, 1, false) := by kernel_rfl
@[go_sem] theorem fap71_0 (o : Nat) (p : List Nat) (off : Nat) (K : AV → Prop) : fieldAddrK Tryd.prog 110 (.ptr o p off) 0 K = K (.ptr o (p ++ [0]) (off + 0)) := fieldAddr_ptr tField71_0 (by decide) o p off K
@[go_sem] theorem tSize71 : tSize Tryd.prog 110 = some 1 := by kernel_rfl
@[go_sem] theorem tAgg71 : tAgg Tryd.prog 110 = some true := by kernel_rfl
@[go_sem] theorem tSize34 : tSize Tryd.prog 87 = some 1 := by kernel_rfl
@[go_sem] theorem tAgg34 : tAgg Tryd.prog 87 = some false := by kernel_rfl
@[go_sem] theorem tElem69 : tElem Tryd.prog 108 = some 110 := by kernel_rfl
@[go_sem] theorem und69 : Tryd.prog.underlying 108 = some (.slice 110) := Tryd.underlying108

def hit (x y : Link) : Rule → Bool
  | .one => rule1 x y || rule1 y x
  | .two => rule2 x y || rule2 y x

theorem clash1_pure (r : Rule) (x y : Link) : Pure Tryd.prog 81 [r.av, .ref x.av, .ref y.av] (.bool (hit x y r)) := by
  cases r with
  | one =>
    unfold Rule.av
    refine pure_of_tr Tryd.func81 rfl (Nat.le_of_ble_eq_true rfl) rfl fun E hE hP => ?_
    first | refine tr_seq_region (by rw [hE]; rfl) ?_ | (refine Tr.seq ?_; refine tr_seq_region (by rw [hE]; rfl) ?_)
    repeat (refine vc_op rfl ?_; simp only [go_sem, seval])
    refine vc_nil ?_
    cases h1 : rule1 x y with
    | true =>
      have hh : hit x y .one = true := by simp [hit, h1]
      first | apply tr_m (by rw [hE]; rfl) | (refine Tr.seq ?_; apply tr_m (by rw [hE]; rfl))
      intro Q hQ
      simp only [go_sem, seval]
      iterate 4 ((refine vm_op ?_); intro r hr; simp only [go_sem, seval]; subst hr)
      (refine vm_op ?_); intro r hr; simp only [go_sem, seval]
      refine call_fn rfl rfl rfl rfl (enters_of Tryd.func94 (by kernel_rfl) rfl) (rule1_pure x y) rfl rfl rfl ?_
      simp only [go_sem, seval]
      rw [h1]; subst hr
      (refine vm_op ?_); intro r hr; simp only [go_sem, seval]; subst hr
      iterate 5 ((first | refine vm_if rfl ?_ | refine vm_no rfl ?_ | refine vm_skip rfl ?_); intro r hr; simp only [go_sem, seval]; subst hr)
      iterate 2 ((refine vm_op ?_); intro r hr; simp only [go_sem, seval]; subst hr)
      exact hQ
      refine Tr.ret ?_
      simp only [hh, Tryd.f81, go_sem, seval]
    | false =>
      have hh : hit x y .one = rule1 y x := by simp [hit, h1]
      first | apply tr_m (by rw [hE]; rfl) | (refine Tr.seq ?_; apply tr_m (by rw [hE]; rfl))
      intro Q hQ
      simp only [go_sem, seval]
      iterate 4 ((refine vm_op ?_); intro r hr; simp only [go_sem, seval]; subst hr)
      (refine vm_op ?_); intro r hr; simp only [go_sem, seval]
      refine call_fn rfl rfl rfl rfl (enters_of Tryd.func94 (by kernel_rfl) rfl) (rule1_pure x y) rfl rfl rfl ?_
      simp only [go_sem, seval]
      rw [h1]; subst hr
      (refine vm_op ?_); intro r hr; simp only [go_sem, seval]; subst hr
      iterate 4 ((first | refine vm_if rfl ?_ | refine vm_no rfl ?_ | refine vm_skip rfl ?_); intro r hr; simp only [go_sem, seval]; subst hr)
      (first | refine vm_if rfl ?_ | refine vm_no rfl ?_ | refine vm_skip rfl ?_); intro r hr; simp only [go_sem, seval]
      refine call_fn rfl rfl rfl rfl (enters_of Tryd.func94 (by kernel_rfl) rfl) (rule1_pure y x) rfl rfl rfl ?_
      simp only [go_sem, seval]
      subst hr
      iterate 2 ((refine vm_op ?_); intro r hr; simp only [go_sem, seval]; subst hr)
      exact hQ
      refine Tr.ret ?_
      simp only [hh, Tryd.f81, go_sem, seval]
  | two =>
    unfold Rule.av
    refine pure_of_tr Tryd.func81 rfl (Nat.le_of_ble_eq_true rfl) rfl fun E hE hP => ?_
    first | refine tr_seq_region (by rw [hE]; rfl) ?_ | (refine Tr.seq ?_; refine tr_seq_region (by rw [hE]; rfl) ?_)
    repeat (refine vc_op rfl ?_; simp only [go_sem, seval])
    refine vc_nil ?_
    cases h1 : rule2 x y with
    | true =>
      have hh : hit x y .two = true := by simp [hit, h1]
      first | apply tr_m (by rw [hE]; rfl) | (refine Tr.seq ?_; apply tr_m (by rw [hE]; rfl))
      intro Q hQ
      simp only [go_sem, seval]
      iterate 4 ((refine vm_op ?_); intro r hr; simp only [go_sem, seval]; subst hr)
      (refine vm_op ?_); intro r hr; simp only [go_sem, seval]
      refine call_fn rfl rfl rfl rfl (enters_of Tryd.func95 (by kernel_rfl) rfl) (rule2_pure x y) rfl rfl rfl ?_
      simp only [go_sem, seval]
      rw [h1]; subst hr
      (refine vm_op ?_); intro r hr; simp only [go_sem, seval]; subst hr
      iterate 5 ((first | refine vm_if rfl ?_ | refine vm_no rfl ?_ | refine vm_skip rfl ?_); intro r hr; simp only [go_sem, seval]; subst hr)
      iterate 2 ((refine vm_op ?_); intro r hr; simp only [go_sem, seval]; subst hr)
      exact hQ
      refine Tr.ret ?_
      simp only [hh, Tryd.f81, go_sem, seval]
    | false =>
      have hh : hit x y .two = rule2 y x := by simp [hit, h1]
      first | apply tr_m (by rw [hE]; rfl) | (refine Tr.seq ?_; apply tr_m (by rw [hE]; rfl))
      intro Q hQ
      simp only [go_sem, seval]
      iterate 4 ((refine vm_op ?_); intro r hr; simp only [go_sem, seval]; subst hr)
      (refine vm_op ?_); intro r hr; simp only [go_sem, seval]
      refine call_fn rfl rfl rfl rfl (enters_of Tryd.func95 (by kernel_rfl) rfl) (rule2_pure x y) rfl rfl rfl ?_
      simp only [go_sem, seval]
      rw [h1]; subst hr
      (refine vm_op ?_); intro r hr; simp only [go_sem, seval]; subst hr
      iterate 4 ((first | refine vm_if rfl ?_ | refine vm_no rfl ?_ | refine vm_skip rfl ?_); intro r hr; simp only [go_sem, seval]; subst hr)
      (first | refine vm_if rfl ?_ | refine vm_no rfl ?_ | refine vm_skip rfl ?_); intro r hr; simp only [go_sem, seval]
      refine call_fn rfl rfl rfl rfl (enters_of Tryd.func95 (by kernel_rfl) rfl) (rule2_pure y x) rfl rfl rfl ?_
      simp only [go_sem, seval]
      subst hr
      iterate 2 ((refine vm_op ?_); intro r hr; simp only [go_sem, seval]; subst hr)
      exact hQ
      refine Tr.ret ?_
      simp only [hh, Tryd.f81, go_sem, seval]

def ridx (x y : Link) (l : List Rule) : Int := match l.findIdx? (hit x y) with | some i => (i : Int) | none => -1

theorem ridx_at {x y : Link} {l : List Rule} {i : Nat} (h : i < l.length) (hb : ∀ j (hj : j < i), (hit x y) (l[j]'(by omega)) = false) (hi : (hit x y) l[i] = true) : ridx x y l = i := by
  have : l.findIdx? (hit x y) = some i := by
    rw [List.findIdx?_eq_some_iff_getElem]
    exact ⟨h, hi, fun j hj => by rw [hb j hj]; simp⟩
  rw [ridx, this]
theorem ridx_none {x y : Link} {l : List Rule} (hb : ∀ j (hj : j < l.length), (hit x y) l[j] = false) : ridx x y l = -1 := by
  have : l.findIdx? (hit x y) = none := by
    rw [List.findIdx?_eq_none_iff]
    intro z hz
    obtain ⟨j, hj, rfl⟩ := List.mem_iff_getElem.1 hz
    exact hb j hj
  rw [ridx, this]
theorem ridx_any (x y : Link) (l : List Rule) : decide (0 ≤ ridx x y l) = l.any (hit x y) := by
  unfold ridx
  cases h : l.findIdx? (hit x y) with
  | none =>
    rw [List.findIdx?_eq_none_iff] at h
    have : l.any (hit x y) = false := by rw [List.any_eq_false]; intro z hz; rw [h z hz]; simp
    rw [this]; rfl
  | some i =>
    rw [List.findIdx?_eq_some_iff_getElem] at h
    obtain ⟨h1, h2, _⟩ := h
    have : l.any (hit x y) = true := List.any_eq_true.2 ⟨l[i], List.getElem_mem h1, h2⟩
    rw [this]; simp

def ridxSt (x y : Link) (l : List Rule) (i : Nat) : S where
  fr := [(8, .int .i64 i), (7, .int .i64 l.length), (0, .sl (l.map Rule.av) false), (1, .fn (.func 81) [] [.ref x.av, .ref y.av])]
  hp := []
  nx := 0

theorem RIndex_pure (x y : Link) (l : List Rule) (hl : l.length ≤ 100) : Pure Tryd.prog 93 [rules l, .fn (.func 81) [] [.ref x.av, .ref y.av]] (.int .i64 (ridx x y l)) := by
  unfold rules
  refine pure_of_tr Tryd.func93 rfl (Nat.le_of_ble_eq_true rfl) rfl fun E hE hP => ?_
  first | refine tr_seq_region (by rw [hE]; rfl) ?_ | (refine Tr.seq ?_; refine tr_seq_region (by rw [hE]; rfl) ?_)
  repeat (refine vc_op rfl ?_; simp only [go_sem, seval])
  refine vc_nil ?_
  refine Tr.seq ?_
  first | refine tr_seq_region (by rw [hE]; rfl) ?_ | (refine Tr.seq ?_; refine tr_seq_region (by rw [hE]; rfl) ?_)
  repeat (refine vc_op rfl ?_; simp only [go_sem, seval])
  refine vc_nil ?_
  refine Tr.block ?_
  refine Tr.loop (ridxSt x y l) (fun i => i ≤ l.length ∧ ∀ j (hj : j < l.length), j < i → (hit x y) l[j] = false) (fun i => l.length - i) 0 ⟨Nat.zero_le _, fun _ _ h => by omega⟩ ?_ ?_
  · refine wk_ren (fun n => n) ?_ ?_ rfl rfl rfl
    · repeat' (first | exact rfl | exact trivial | constructor)
    · repeat' (first | exact rfl | exact trivial | constructor)
  · intro i ⟨hi, hbefore⟩
    unfold ridxSt
    first | refine tr_seq_region (by rw [hE]; rfl) ?_ | (refine Tr.seq ?_; refine tr_seq_region (by rw [hE]; rfl) ?_)
    repeat (refine vc_op rfl ?_; simp only [go_sem, seval])
    refine vc_nil ?_
    refine Tr.seq (Tr.cond rfl (fun hb => ?_) (fun hb => ?_))
    · refine Tr.skip ?_
      have hlt : i < l.length := by have := of_decide_eq_true hb; omega
      have ha := nth_map_lt Rule.av l i hlt
      generalize hla : l[i] = a at ha
      have hw := wrap_next (n := i) (by omega)
      simp only [thenK]
      refine Tr.seq (Tr.block ?_)
      first | refine tr_seq_region (by rw [hE]; rfl) ?_ | (refine Tr.seq ?_; refine tr_seq_region (by rw [hE]; rfl) ?_)
      repeat (refine vc_op rfl ?_; simp only [go_sem, seval])
      refine vc_nil ?_
      first | refine tr_seq_region (by rw [hE]; rfl) ?_ | (refine Tr.seq ?_; refine tr_seq_region (by rw [hE]; rfl) ?_)
      repeat (refine vc_op rfl ?_; simp only [ha, go_sem, seval])
      refine call_fn rfl rfl rfl (by simp only [go_sem, seval]) (enters_of Tryd.func81 (by kernel_rfl) rfl) (clash1_pure a x y) (by first | rfl | simp only [go_sem, seval]) (by simp only [go_sem, seval]) rfl ?_
      simp only [go_sem, seval]
      repeat (refine vc_op rfl ?_; simp only [go_sem, seval])
      refine vc_nil ?_
      refine Tr.cond rfl (fun hd => ?_) (fun hd => ?_)
      · first | refine tr_seq_region (by rw [hE]; rfl) ?_ | (refine Tr.seq ?_; refine tr_seq_region (by rw [hE]; rfl) ?_)
        repeat (refine vc_op rfl ?_; simp only [go_sem, seval])
        refine vc_nil ?_
        have hidx : ridx x y l = i := ridx_at hlt (fun j hj => hbefore j (by omega) hj) (by rw [hla]; exact hd)
        refine Tr.ret ?_
        simp only [Tryd.f93, hidx, go_sem, seval]
      · refine Tr.skip ?_
        simp only [blockK, thenK]
        refine tr_region (by rw [hE]; rfl) ?_
        repeat (refine vc_op rfl ?_; simp only [hw, go_sem, seval])
        refine vc_nil ?_
        refine ⟨i + 1, ⟨hlt, fun j hj hji => ?_⟩, by omega, ?_⟩
        · by_cases h : j = i
          · subst h; rw [hla]; exact hd
          · exact hbefore j hj (by omega)
        · refine wk_ren (fun n => n) ?_ ?_ rfl rfl rfl
          · repeat' (first | exact rfl | exact trivial | constructor)
          · repeat' (first | exact rfl | exact trivial | constructor)
    · refine Tr.exit ?_
      simp only [blockK, thenK, ↓reduceIte]
      have hil : i = l.length := by
        have := of_decide_eq_false hb
        omega
      subst hil
      have hidx : ridx x y l = -1 := ridx_none fun j hj => hbefore j hj hj
      first | refine tr_seq_region (by rw [hE]; rfl) ?_ | (refine Tr.seq ?_; refine tr_seq_region (by rw [hE]; rfl) ?_)
      repeat (refine vc_op rfl ?_; simp only [go_sem, seval])
      refine vc_nil ?_
      refine Tr.ret ?_
      simp only [Tryd.f93, hidx, go_sem, seval]

theorem RContains_pure (x y : Link) (l : List Rule) (hl : l.length ≤ 100) : Pure Tryd.prog 79 [rules l, .fn (.func 81) [] [.ref x.av, .ref y.av]] (.bool (l.any (hit x y))) := by
  refine pure_of_tr Tryd.func79 rfl (Nat.le_of_ble_eq_true rfl) rfl fun E hE hP => ?_
  first | refine tr_seq_region (by rw [hE]; rfl) ?_ | (refine Tr.seq ?_; refine tr_seq_region (by rw [hE]; rfl) ?_)
  repeat (refine vc_op rfl ?_; simp only [go_sem, seval])
  refine vc_nil ?_
  first | refine tr_seq_region (by rw [hE]; rfl) ?_ | (refine Tr.seq ?_; refine tr_seq_region (by rw [hE]; rfl) ?_)
  repeat (refine vc_op rfl ?_; simp only [go_sem, seval])
  refine call_fn rfl rfl rfl rfl (enters_of Tryd.func93 (by kernel_rfl) rfl) (RIndex_pure x y l hl) rfl rfl rfl ?_
  simp only [go_sem, seval]
  repeat (refine vc_op rfl ?_; simp only [ridx_any, go_sem, seval])
  refine vc_nil ?_
  refine Tr.ret ?_
  simp only [Tryd.f79, go_sem, seval]

end Go.Proofs.YtdlejnafhmpobaaDoor

/- Which links clash, and who is guilty, once more. -/
set_option linter.unusedSimpArgs false
set_option maxRecDepth 10000
namespace Go.Proofs.YtdlejnafhmpobaaDoor
open Go Go.Ab

def clash (x y : Link) : Bool := [Rule.one, Rule.two].any (hit x y)

@[go_sem] theorem build71_one (f : FuncId) (K : AV → Prop) : buildK Tryd.prog 110 [(0, .fn (.func f) [] [])] K = K (.st [.fn (.func f) [] []]) :=
  build_struct Tryd.underlying110 (zs := [.nilf]) (by kernel_rfl) rfl (by kernel_rfl) rfl K

@[go_sem] theorem tZero71 : tZero Tryd.prog 110 = some (.st [.nilf]) := by kernel_rfl
theorem rules_pure : Pure Tryd.prog 80 [] (rules [.one, .two]) := by
  unfold rules
  refine pure_of_tr Tryd.func80 rfl (Nat.le_of_ble_eq_true rfl) rfl fun E hE hP => ?_
  first | refine tr_seq_region (by rw [hE]; rfl) ?_ | (refine Tr.seq ?_; refine tr_seq_region (by rw [hE]; rfl) ?_)
  repeat (refine vc_op rfl ?_; simp only [go_sem, seval])
  refine vc_nil ?_
  first | refine tr_seq_region (by rw [hE]; rfl) ?_ | (refine Tr.seq ?_; refine tr_seq_region (by rw [hE]; rfl) ?_)
  repeat (refine vc_op rfl ?_; simp only [go_sem, seval])
  refine vc_nil ?_
  refine Tr.ret ?_
  simp only [Rule.av, Tryd.f80, go_sem, seval]

theorem LClash_pure (x y : Link) : Pure Tryd.prog 56 [x.av, y.av] (.bool (clash x y)) := by
  refine pure_of_tr Tryd.func56 rfl (Nat.le_of_ble_eq_true rfl) rfl fun E hE hP => ?_
  first | refine tr_seq_region (by rw [hE]; rfl) ?_ | (refine Tr.seq ?_; refine tr_seq_region (by rw [hE]; rfl) ?_)
  repeat (refine vc_op rfl ?_; simp only [go_sem, seval])
  refine vc_nil ?_
  first | refine tr_seq_region (by rw [hE]; rfl) ?_ | (refine Tr.seq ?_; refine tr_seq_region (by rw [hE]; rfl) ?_)
  repeat (refine vc_op rfl ?_; simp only [go_sem, seval])
  refine call_fn rfl rfl rfl rfl (enters_of Tryd.func80 (by kernel_rfl) rfl) (rules_pure) rfl rfl rfl ?_
  simp only [go_sem, seval]
  repeat (refine vc_op rfl ?_; simp only [go_sem, seval])
  refine call_fn rfl rfl rfl rfl (enters_of Tryd.func79 (by kernel_rfl) rfl) (RContains_pure x y [.one, .two] (by show 2 ≤ 100; omega)) rfl rfl rfl ?_
  simp only [go_sem, seval]
  repeat (refine vc_op rfl ?_; simp only [go_sem, seval])
  refine vc_nil ?_
  refine Tr.ret ?_
  simp only [clash, Tryd.f56, go_sem, seval]

def orU (a b : Int) : Int := bitsI .or .u64 a b
def andU (a b : Int) : Int := bitsI .and .u64 a b
def gstep (a : Link) (o : Int) (b : Link) : Int := if clash a b then orU o (andU a.mask b.mask) else o
def gin (a : Link) (ls : List Link) (o : Int) : Int := ls.foldl (gstep a) o
def gto (l : List Link) : Nat → Int
  | 0 => 0
  | i + 1 => match l[i]? with | some a => gin a (l.drop (i + 1)) (gto l i) | none => gto l i
def guilty (l : List Link) : Int := gto l l.length

theorem gin_next {a b : Link} {ls : List Link} {o : Int} {j : Nat} (h : j < ls.length) (hb : ls[j] = b) : gin a (ls.take (j + 1)) o = gstep a (gin a (ls.take j) o) b := by
  rw [take_next h hb, gin, List.foldl_append]; rfl
theorem gto_next {a : Link} {l : List Link} {i : Nat} (h : i < l.length) (ha : l[i] = a) : gto l (i + 1) = gin a (l.drop (i + 1)) (gto l i) := by
  rw [gto]; simp [h, ha]

theorem slice_lo22 {l : List Link} {k : Nat} {K : AV → Prop} (hk : k ≤ l.length) (h : K (.sl ((l.drop k).map Link.av) false)) : sliceK Tryd.prog 25 (.sl (l.map Link.av) false) (some (.int .i64 k)) none none K := by
  refine sliceK_lo tElem22 (by rw [tSize59]; rfl) (fun y hy => ?_) (by simpa using hk) ?_
  · obtain ⟨a, _, rfl⟩ := List.mem_map.1 hy
    exact tSize59
  · rw [← List.map_drop]
    exact h

def stGo (l : List Link) (i : Nat) : S where
  fr := [(10, .int .i64 i), (3, .int .u64 (gto l i)), (0, .sl (l.map Link.av) false), (8, .sl (l.map Link.av) false), (9, .int .i64 l.length)]
  hp := []
  nx := 0
def stGi (l : List Link) (i : Nat) (a : Link) (ls : List Link) (o : Int) (j : Nat) : S where
  fr := [(20, .int .i64 j), (3, .int .u64 (gin a (ls.take j) o)), (18, .sl (ls.map Link.av) false), (19, .int .i64 ls.length), (5, .ptr 0 [] 0), (10, .int .i64 i), (0, .sl (l.map Link.av) false), (8, .sl (l.map Link.av) false), (9, .int .i64 l.length)]
  hp := [(0, .var a.av)]
  nx := 1

theorem LGuilty_pure (l : List Link) (hl : l.length ≤ 100) : Pure Tryd.prog 29 [links l] (.int .u64 (guilty l)) := by
  unfold links
  refine pure_of_tr Tryd.func29 rfl (Nat.le_of_ble_eq_true rfl) rfl fun E hE hP => ?_
  first | refine tr_seq_region (by rw [hE]; rfl) ?_ | (refine Tr.seq ?_; refine tr_seq_region (by rw [hE]; rfl) ?_)
  repeat (refine vc_op rfl ?_; simp only [go_sem, seval])
  refine vc_nil ?_
  first | refine tr_seq_region (by rw [hE]; rfl) ?_ | (refine Tr.seq ?_; refine tr_seq_region (by rw [hE]; rfl) ?_)
  repeat (refine vc_op rfl ?_; simp only [go_sem, seval])
  refine vc_nil ?_
  refine Tr.seq ?_
  first | refine tr_seq_region (by rw [hE]; rfl) ?_ | (refine Tr.seq ?_; refine tr_seq_region (by rw [hE]; rfl) ?_)
  repeat (refine vc_op rfl ?_; simp only [go_sem, seval])
  refine vc_nil ?_
  refine Tr.block ?_
  refine Tr.loop (stGo l) (fun i => i ≤ l.length) (fun i => l.length - i) 0 (Nat.zero_le _) ?_ ?_
  · refine wk_ren (fun n => n) ?_ ?_ rfl rfl rfl
    · repeat' (first | exact rfl | exact trivial | constructor)
    · repeat' (first | exact rfl | exact trivial | constructor)
  · intro i hi
    unfold stGo
    first | refine tr_seq_region (by rw [hE]; rfl) ?_ | (refine Tr.seq ?_; refine tr_seq_region (by rw [hE]; rfl) ?_)
    repeat (refine vc_op rfl ?_; simp only [go_sem, seval])
    refine vc_nil ?_
    refine Tr.seq (Tr.cond rfl (fun h1 => ?_) (fun h1 => ?_))
    · refine Tr.skip ?_
      try simp only [blockK, thenK, ↓reduceIte]
      have hlt : i < l.length := by have := of_decide_eq_true h1; omega
      have ha := nth_map_lt Link.av l i hlt
      generalize hla : l[i] = a at ha
      have hw := wrap_next (n := i) (by omega)
      have hnx := gto_next hlt hla
      have hdl : (l.drop (i + 1)).length ≤ 100 := by simp; omega
      generalize hls : l.drop (i + 1) = ls at hnx hdl
      generalize ho : gto l i = o at hnx
      refine Tr.seq ?_
      refine Tr.block ?_
      first | refine tr_seq_region (by rw [hE]; rfl) ?_ | (refine Tr.seq ?_; refine tr_seq_region (by rw [hE]; rfl) ?_)
      repeat (refine vc_op rfl ?_; simp only [ha, go_sem, seval])
      refine vc_nil ?_
      first | refine tr_seq_region (by rw [hE]; rfl) ?_ | (refine Tr.seq ?_; refine tr_seq_region (by rw [hE]; rfl) ?_)
      repeat (refine vc_op rfl ?_; simp only [hw, go_sem, seval])
      refine slice_lo22 hlt ?_
      rw [hls]
      repeat (refine vc_op rfl ?_; simp only [go_sem, seval])
      refine vc_nil ?_
      refine Tr.block ?_
      refine Tr.loop (stGi l i a ls o) (fun j => j ≤ ls.length) (fun j => ls.length - j) 0 (Nat.zero_le _) ?_ ?_
      · refine wk_ren (fun | 0 => 64 | n => n) ?_ ?_ rfl rfl rfl
        · repeat' (first | exact rfl | exact trivial | constructor)
        · repeat' (first | exact rfl | exact trivial | constructor)
      · intro j hj
        unfold stGi
        first | refine tr_seq_region (by rw [hE]; rfl) ?_ | (refine Tr.seq ?_; refine tr_seq_region (by rw [hE]; rfl) ?_)
        repeat (refine vc_op rfl ?_; simp only [go_sem, seval])
        refine vc_nil ?_
        refine Tr.seq (Tr.cond rfl (fun h2 => ?_) (fun h2 => ?_))
        · refine Tr.skip ?_
          try simp only [blockK, thenK, ↓reduceIte]
          have hjt : j < ls.length := by have := of_decide_eq_true h2; omega
          have hb := nth_map_lt Link.av ls j hjt
          generalize hlb : ls[j] = b at hb
          have hw2 := wrap_next (n := j) (by omega)
          have hgn := gin_next (a := a) (o := o) hjt hlb
          refine Tr.seq ?_
          refine Tr.block ?_
          first | refine tr_seq_region (by rw [hE]; rfl) ?_ | (refine Tr.seq ?_; refine tr_seq_region (by rw [hE]; rfl) ?_)
          repeat (refine vc_op rfl ?_; simp only [hb, go_sem, seval])
          refine vc_nil ?_
          first | refine tr_seq_region (by rw [hE]; rfl) ?_ | (refine Tr.seq ?_; refine tr_seq_region (by rw [hE]; rfl) ?_)
          repeat (refine vc_op rfl ?_; simp only [go_sem, seval])
          refine call_fn rfl rfl rfl rfl (enters_of Tryd.func56 (by kernel_rfl) rfl) (LClash_pure a b) rfl rfl rfl ?_
          simp only [go_sem, seval]
          repeat (refine vc_op rfl ?_; simp only [go_sem, seval])
          refine vc_nil ?_
          refine Tr.cond rfl (fun h3 => ?_) (fun h3 => ?_)
          · rw [gstep, if_pos h3] at hgn
            refine tr_region (by rw [hE]; rfl) ?_
            repeat (refine vc_op rfl ?_; simp only [go_sem, seval])
            refine vc_nil ?_
            try simp only [blockK, thenK, ↓reduceIte]
            refine tr_region (by rw [hE]; rfl) ?_
            repeat (refine vc_op rfl ?_; simp only [hw2, go_sem, seval])
            refine vc_nil ?_
            try simp only [blockK, thenK, ↓reduceIte]
            refine ⟨j + 1, hjt, by omega, ?_⟩
            rw [hgn]
            refine wk_ren (fun n => n) ?_ ?_ rfl rfl rfl
            · repeat' (first | exact rfl | exact trivial | constructor)
            · repeat' (first | exact rfl | exact trivial | constructor)
          · rw [gstep, if_neg (by rw [h3]; decide)] at hgn
            refine Tr.skip ?_
            try simp only [blockK, thenK, ↓reduceIte]
            refine tr_region (by rw [hE]; rfl) ?_
            repeat (refine vc_op rfl ?_; simp only [hw2, go_sem, seval])
            refine vc_nil ?_
            try simp only [blockK, thenK, ↓reduceIte]
            refine ⟨j + 1, hjt, by omega, ?_⟩
            rw [hgn]
            refine wk_ren (fun n => n) ?_ ?_ rfl rfl rfl
            · repeat' (first | exact rfl | exact trivial | constructor)
            · repeat' (first | exact rfl | exact trivial | constructor)
        · refine Tr.exit ?_
          try simp only [blockK, thenK, ↓reduceIte]
          have hjl : j = ls.length := by
            have := of_decide_eq_false h2
            omega
          subst hjl
          rw [List.take_length]
          refine tr_region (by rw [hE]; rfl) ?_
          repeat (refine vc_op rfl ?_; simp only [hw, go_sem, seval])
          refine vc_nil ?_
          try simp only [blockK, thenK, ↓reduceIte]
          refine ⟨i + 1, hlt, by omega, ?_⟩
          rw [hnx]
          refine wk_ren (fun n => n) ?_ ?_ rfl rfl rfl
          · repeat' (first | exact rfl | exact trivial | constructor)
          · repeat' (first | exact rfl | exact trivial | constructor)
    · refine Tr.exit ?_
      try simp only [blockK, thenK, ↓reduceIte]
      have hil : i = l.length := by
        have := of_decide_eq_false h1
        omega
      subst hil
      first | refine tr_seq_region (by rw [hE]; rfl) ?_ | (refine Tr.seq ?_; refine tr_seq_region (by rw [hE]; rfl) ?_)
      repeat (refine vc_op rfl ?_; simp only [go_sem, seval])
      refine vc_nil ?_
      refine Tr.ret ?_
      simp only [guilty, Tryd.f29, go_sem, seval]

end Go.Proofs.YtdlejnafhmpobaaDoor

/- Bits of masks, and who is guilty, bit by bit. -/
set_option linter.unusedSimpArgs false
set_option maxRecDepth 10000
namespace Go.Proofs.YtdlejnafhmpobaaDoor
open Go Go.Ab

def bv (n : Int) : BitVec 64 := BitVec.ofInt 64 n
def inU (n : Int) : Prop := 0 ≤ n ∧ n < 18446744073709551616
def hasB (n : Int) (k : Nat) : Bool := (bv n).getLsbD k

theorem wrapU {n : Nat} (h : n < 18446744073709551616) : IntKind.u64.wrap (n : Int) = n := by
  simp [IntKind.wrap, IntKind.signed, IntKind.bits]
  omega
theorem bv_nat (x : BitVec 64) : bv (x.toNat : Int) = x := by simp [bv]
theorem bv_back {n : Int} (h : inU n) : ((bv n).toNat : Int) = n := by
  obtain ⟨h1, h2⟩ := h
  simp only [bv, BitVec.toNat_ofInt]
  omega
theorem orU_eq (a b : Int) : orU a b = ((bv a ||| bv b).toNat : Int) := by
  unfold orU bitsI
  exact wrapU (bv a ||| bv b).isLt
theorem andU_eq (a b : Int) : andU a b = ((bv a &&& bv b).toNat : Int) := by
  unfold andU bitsI
  exact wrapU (bv a &&& bv b).isLt
theorem inU_nat (x : BitVec 64) : inU (x.toNat : Int) := ⟨by omega, by have := x.isLt; omega⟩
theorem inU_or (a b : Int) : inU (orU a b) := by rw [orU_eq]; exact inU_nat _
theorem inU_and (a b : Int) : inU (andU a b) := by rw [andU_eq]; exact inU_nat _
theorem has_or (a b : Int) (k : Nat) : hasB (orU a b) k = (hasB a k || hasB b k) := by
  unfold hasB; rw [orU_eq, bv_nat]; simp
theorem has_and (a b : Int) (k : Nat) : hasB (andU a b) k = (hasB a k && hasB b k) := by
  unfold hasB; rw [andU_eq, bv_nat]; simp
theorem eq_of_has {a b : Int} (ha : inU a) (hb : inU b) (h : ∀ k, hasB a k = hasB b k) : a = b := by
  rw [← bv_back ha, ← bv_back hb]
  congr 2
  exact BitVec.eq_of_getLsbD_eq fun k _ => h k
theorem has_zero (k : Nat) : hasB 0 k = false := by simp [hasB, bv]

theorem gin_has (a : Link) (k : Nat) : ∀ (ls : List Link) (o : Int), hasB (gin a ls o) k = true ↔ hasB o k = true ∨ ∃ b ∈ ls, clash a b = true ∧ hasB a.mask k = true ∧ hasB b.mask k = true
  | [], o => by simp [gin]
  | b :: ls, o => by
    have e : gin a (b :: ls) o = gin a ls (gstep a o b) := rfl
    rw [e, gin_has a k ls]
    unfold gstep
    by_cases hc : clash a b = true
    · rw [if_pos hc, has_or, has_and, Bool.or_eq_true, Bool.and_eq_true]
      constructor
      · rintro ((h | h) | ⟨c, h1, h2⟩)
        · exact .inl h
        · exact .inr ⟨b, by simp, hc, h⟩
        · exact .inr ⟨c, by simp [h1], h2⟩
      · rintro (h | ⟨c, h1, h2⟩)
        · exact .inl (.inl h)
        · rcases List.mem_cons.1 h1 with rfl | h1
          · exact .inl (.inr h2.2)
          · exact .inr ⟨c, h1, h2⟩
    · rw [if_neg hc]
      constructor
      · rintro (h | ⟨c, h1, h2⟩)
        · exact .inl h
        · exact .inr ⟨c, by simp [h1], h2⟩
      · rintro (h | ⟨c, h1, h2⟩)
        · exact .inl h
        · rcases List.mem_cons.1 h1 with rfl | h1
          · exact absurd h2.1 hc
          · exact .inr ⟨c, h1, h2⟩
theorem gin_in (a : Link) : ∀ (ls : List Link) (o : Int), inU o → inU (gin a ls o)
  | [], _, h => h
  | b :: ls, o, h => by
    have e : gin a (b :: ls) o = gin a ls (gstep a o b) := rfl
    rw [e]
    refine gin_in a ls _ ?_
    unfold gstep
    split
    · exact inU_or _ _
    · exact h

theorem gto_has (l : List Link) (k : Nat) : ∀ (n : Nat), n ≤ l.length → (hasB (gto l n) k = true ↔ ∃ (i j : Nat) (a b : Link), i < j ∧ i < n ∧ l[i]? = some a ∧ l[j]? = some b ∧ clash a b = true ∧ hasB a.mask k = true ∧ hasB b.mask k = true)
  | 0, _ => by simp [gto, has_zero]
  | n + 1, hn => by
    rw [gto_next (by omega) rfl, gin_has, gto_has l k n (by omega)]
    constructor
    · rintro (⟨i, j, a, b, h1, h2, h3⟩ | ⟨b, hb, h⟩)
      · exact ⟨i, j, a, b, h1, by omega, h3⟩
      · obtain ⟨m, hm⟩ := List.mem_iff_getElem?.1 hb
        rw [List.getElem?_drop] at hm
        exact ⟨n, n + 1 + m, l[n], b, by omega, by omega, by simp, hm, h⟩
    · rintro ⟨i, j, a, b, h1, h2, h3, h4, h5⟩
      by_cases hi : i = n
      · subst hi
        have ha : l[i] = a := by
          have := (List.getElem?_eq_some_iff.1 h3).2
          exact this
        rw [ha]
        refine .inr ⟨b, ?_, h5⟩
        rw [List.mem_iff_getElem?]
        exact ⟨j - (i + 1), by rw [List.getElem?_drop, show i + 1 + (j - (i + 1)) = j by omega]; exact h4⟩
      · exact .inl ⟨i, j, a, b, h1, by omega, h3, h4, h5⟩

/-- Who is guilty: whoever attested two links that clash. -/
theorem guilty_has (l : List Link) (k : Nat) : hasB (guilty l) k = true ↔ ∃ (i j : Nat) (a b : Link), i < j ∧ l[i]? = some a ∧ l[j]? = some b ∧ clash a b = true ∧ hasB a.mask k = true ∧ hasB b.mask k = true := by
  rw [guilty, gto_has l k l.length (Nat.le_refl _)]
  constructor
  · rintro ⟨i, j, a, b, h1, _, h3⟩
    exact ⟨i, j, a, b, h1, h3⟩
  · rintro ⟨i, j, a, b, h1, h3⟩
    exact ⟨i, j, a, b, h1, (List.getElem?_eq_some_iff.1 h3.1).1, h3⟩
theorem gto_in (l : List Link) : ∀ n, inU (gto l n)
  | 0 => by simp [gto, inU]
  | n + 1 => by
    rw [gto]
    split
    · exact gin_in _ _ _ (gto_in l n)
    · exact gto_in l n
theorem guilty_in (l : List Link) : inU (guilty l) := gto_in l _

theorem clash_comm (x y : Link) : clash x y = clash y x := by
  simp only [clash, List.any_cons, List.any_nil, hit, Bool.or_false]
  rw [Bool.or_comm (rule1 x y), Bool.or_comm (rule2 x y)]

theorem get_reverse {l : List Link} {i : Nat} {a : Link} (h : l.reverse[i]? = some a) : i < l.length ∧ l[l.length - 1 - i]? = some a := by
  have hi : i < l.length := by have := (List.getElem?_eq_some_iff.1 h).1; simpa using this
  rw [List.getElem?_reverse hi] at h
  exact ⟨hi, h⟩
theorem guilty_rev_imp {l : List Link} {k : Nat} (h : hasB (guilty l.reverse) k = true) : hasB (guilty l) k = true := by
  rw [guilty_has] at h ⊢
  obtain ⟨i, j, a, b, h1, h2, h3, h4, h5, h6⟩ := h
  obtain ⟨k1, k2⟩ := get_reverse h2
  obtain ⟨k3, k4⟩ := get_reverse h3
  exact ⟨_, _, b, a, by omega, k4, k2, by rw [clash_comm]; exact h4, h6, h5⟩
theorem guilty_reverse (l : List Link) : guilty l.reverse = guilty l := by
  refine eq_of_has (guilty_in _) (guilty_in _) fun k => ?_
  rw [Bool.eq_iff_iff]
  refine ⟨guilty_rev_imp, fun h => ?_⟩
  have := guilty_rev_imp (l := l.reverse) (k := k)
  rw [List.reverse_reverse] at this
  exact this h

theorem orFold_has (k : Nat) : ∀ (l : List Link) (o : Int), hasB (l.foldl (fun o a => orU o a.mask) o) k = true ↔ hasB o k = true ∨ ∃ a ∈ l, hasB a.mask k = true
  | [], o => by simp
  | b :: l, o => by
    rw [List.foldl_cons, orFold_has k l, has_or, Bool.or_eq_true]
    constructor
    · rintro ((h | h) | ⟨a, h1, h2⟩)
      · exact .inl h
      · exact .inr ⟨b, by simp, h⟩
      · exact .inr ⟨a, by simp [h1], h2⟩
    · rintro (h | ⟨a, h1, h2⟩)
      · exact .inl (.inl h)
      · rcases List.mem_cons.1 h1 with rfl | h1
        · exact .inl (.inr h2)
        · exact .inr ⟨a, h1, h2⟩

theorem bit_range : ∀ v : Nat, v ≤ 7 → 0 < bit v ∧ bit v < 256
  | 0, _ => by decide +kernel
  | 1, _ => by decide +kernel
  | 2, _ => by decide +kernel
  | 3, _ => by decide +kernel
  | 4, _ => by decide +kernel
  | 5, _ => by decide +kernel
  | 6, _ => by decide +kernel
  | 7, _ => by decide +kernel
  | n + 8, h => by omega

theorem placesTo_len {l : List Link} : ∀ n, n ≤ l.length → (∀ (i j : Nat) (a b : Link), i < j → j < n → l[i]? = some a → l[j]? = some b → keyOf a ≠ keyOf b) → (placesTo l n).length = n
  | 0, _, _ => rfl
  | n + 1, h, hk => by
    have ih := placesTo_len n (by omega) fun i j a b h1 h2 => hk i j a b h1 (by omega)
    rw [placesTo_next (by omega) rfl]
    cases hq : llook (placesTo l n) (keyOf l[n]) with
    | none => simp [ih]
    | some i =>
      obtain ⟨h1, h2, h3⟩ := look_spec hq
      exact absurd h3 (hk i n l[i] l[n] h1 (by omega) (by simp) (by simp))
theorem places_len {l : List Link} (hk : ∀ (i j : Nat) (a b : Link), i < j → l[i]? = some a → l[j]? = some b → keyOf a ≠ keyOf b) : (places l).length = l.length :=
  placesTo_len _ (Nat.le_refl _) fun i j a b h1 _ => hk i j a b h1
theorem look_none {l : List Link} {k : LKey} (h : ∀ a ∈ l, keyOf a ≠ k) : llook (places l) k = none := by
  cases hq : llook (places l) k with
  | none => rfl
  | some i =>
    obtain ⟨_, h2, h3⟩ := look_spec hq
    exact absurd h3 (h _ (List.getElem_mem h2))

end Go.Proofs.YtdlejnafhmpobaaDoor

/- What putting a link does, in plain terms. -/
set_option linter.unusedSimpArgs false
set_option maxRecDepth 10000
namespace Go.Proofs.YtdlejnafhmpobaaDoor
open Go Go.Ab

theorem placesTo_congr {l l' : List Link} : ∀ n, (∀ j, j < n → (l[j]?).map keyOf = (l'[j]?).map keyOf) → placesTo l n = placesTo l' n
  | 0, _ => rfl
  | n + 1, h => by
    have ih := placesTo_congr n fun j hj => h j (by omega)
    have hn := h n (by omega)
    rw [placesTo, placesTo, ih]
    cases h1 : l[n]? with
    | none =>
      rw [h1] at hn
      cases h2 : l'[n]? with
      | none => rfl
      | some b => rw [h2] at hn; simp at hn
    | some a =>
      rw [h1] at hn
      cases h2 : l'[n]? with
      | none => rw [h2] at hn; simp at hn
      | some b =>
        rw [h2] at hn
        simp only [Option.map_some, Option.some.injEq] at hn
        simp only [hn]

theorem look_app {es : List (LKey × Nat)} {k : LKey} {x : LKey × Nat} : llook (es ++ [x]) k = match llook es k with | some i => some i | none => if k = x.1 then some x.2 else none := by
  unfold llook
  rw [List.find?_append]
  cases h : es.find? fun e => decide (k = e.1) with
  | some e => simp
  | none =>
    by_cases hk : k = x.1
    · simp [hk]
    · simp [hk]

theorem look_mem {l : List Link} : ∀ (n j : Nat) (hn : n ≤ l.length) (hj : j < n), (llook (placesTo l n) (keyOf (l[j]'(by omega)))).isSome = true
  | 0, j, _, hj => by omega
  | n + 1, j, hn, hj => by
    rw [placesTo_next (l := l) (i := n) (by omega) rfl]
    by_cases hjn : j = n
    · subst hjn
      split
      · assumption
      · rename_i h
        rw [look_app]
        cases hq : llook (placesTo l j) (keyOf l[j]) with
        | some i => rfl
        | none => simp
    · have ih := look_mem (l := l) n j (by omega) (by omega)
      split
      · exact ih
      · rw [look_app]
        obtain ⟨i, hi⟩ := Option.isSome_iff_exists.1 ih
        rw [hi]; rfl

theorem placesTo_le {l : List Link} : ∀ n, (placesTo l n).length ≤ n
  | 0 => Nat.le_refl _
  | n + 1 => by
    have ih := placesTo_le (l := l) n
    rw [placesTo]
    split
    · split
      · omega
      · simp; omega
    · omega

theorem keys_apart {l : List Link} : ∀ n, n ≤ l.length → (placesTo l n).length = n → ∀ (i j : Nat) (a b : Link), i < j → j < n → l[i]? = some a → l[j]? = some b → keyOf a ≠ keyOf b
  | 0, _, _, i, j, a, b, h1, h2, _, _ => by omega
  | n + 1, hn, hlen, i, j, a, b, h1, h2, h3, h4 => by
    rw [placesTo_next (l := l) (i := n) (by omega) rfl] at hlen
    have hle := placesTo_le (l := l) n
    cases hq : llook (placesTo l n) (keyOf l[n]) with
    | some x =>
      rw [hq] at hlen
      simp at hlen
      omega
    | none =>
      rw [hq] at hlen
      have hl' : (placesTo l n).length = n := by simpa using hlen
      by_cases hj : j = n
      · subst hj
        intro he
        have hb : l[j] = b := (List.getElem?_eq_some_iff.1 h4).2
        have ha : l[i]'(Nat.lt_trans h1 (by omega)) = a := (List.getElem?_eq_some_iff.1 h3).2
        have := look_mem (l := l) j i (by omega) h1
        rw [ha, he, ← hb, hq] at this
        cases this
      · exact keys_apart n (by omega) hl' i j a b h1 (by omega) h3 h4

theorem or_self_in {a : Int} (h : inU a) : orU a a = a := eq_of_has (inU_or _ _) h fun k => by rw [has_or]; simp
theorem or_zero_in {a : Int} (h : inU a) : orU 0 a = a := eq_of_has (inU_or _ _) h fun k => by rw [has_or, has_zero]; simp
theorem or_again (a b : Int) : orU (orU a b) b = orU a b := eq_of_has (inU_or _ _) (inU_or _ _) fun k => by rw [has_or, has_or]; simp
theorem or_lt {a b : Int} (ha : 0 ≤ a) (ha2 : a < 256) (hb : 0 ≤ b) (hb2 : b < 256) : orU a b < 256 := by
  rw [orU_eq, BitVec.toNat_or]
  have h1 := bv_back (n := a) ⟨ha, by omega⟩
  have h2 := bv_back (n := b) ⟨hb, by omega⟩
  have := Nat.or_lt_two_pow (x := (bv a).toNat) (y := (bv b).toNat) (n := 8) (by omega) (by omega)
  omega
theorem or_pos {a b : Int} (ha : 0 < a) (ha2 : a < 256) : 0 < orU a b := by
  rw [orU_eq, BitVec.toNat_or]
  have h1 := bv_back (n := a) ⟨by omega, by omega⟩
  have : (bv a).toNat ≤ (bv a).toNat ||| (bv b).toNat := Nat.left_le_or
  omega

theorem may_spec {l : List Link} (h : lmayB l = true) : l.length ≤ 16 ∧ (∀ a ∈ l, odd a = false) ∧ (places l).length = l.length := by
  simp only [lmayB, Bool.and_eq_true, decide_eq_true_eq, Bool.not_eq_true', List.any_eq_false] at h
  exact ⟨h.1, fun a ha => by simpa using h.2.1 a ha, h.2.2⟩
theorem may_of {l : List Link} (h1 : l.length ≤ 16) (h2 : ∀ a ∈ l, odd a = false) (h3 : (places l).length = l.length) : lmayB l = true := by
  simp only [lmayB, Bool.and_eq_true, decide_eq_true_eq, Bool.not_eq_true', List.any_eq_false]
  exact ⟨h1, fun a ha => by simp [h2 a ha], h3⟩
theorem odd_false {a : Link} : odd a = false ↔ a.s.epoch < a.t.epoch ∧ a.mask ≠ 0 ∧ a.mask < 256 := by
  simp only [odd, Bool.or_eq_false_iff, decide_eq_false_iff_not]
  omega

end Go.Proofs.YtdlejnafhmpobaaDoor

/- The reference of layer 15. -/
set_option linter.unusedSimpArgs false
set_option maxRecDepth 10000
namespace Go.Proofs.YtdlejnafhmpobaaDoor
open Go Go.Ab

theorem bit_pow : ∀ v : Nat, v ≤ 7 → bit v = ((2 ^ v : Nat) : Int)
  | 0, _ => by decide +kernel
  | 1, _ => by decide +kernel
  | 2, _ => by decide +kernel
  | 3, _ => by decide +kernel
  | 4, _ => by decide +kernel
  | 5, _ => by decide +kernel
  | 6, _ => by decide +kernel
  | 7, _ => by decide +kernel
  | n + 8, h => by omega
def st42 (v i : Nat) : S where
  fr := [(4, .int .i64 i), (3, .int .u64 ((2 ^ i : Nat) : Int)), (0, .int .i64 v)]
  hp := []
  nx := 0
theorem RBit_pure (v : Nat) (hv : v ≤ 7) : Pure Tryd.prog 99 [.int .i64 v] (.int .u64 (bit v)) := by
  rw [bit_pow v hv]
  have e1 : decide ((v : Int) < 0) = false := decide_eq_false (by omega)
  have e2 : decide (63 < (v : Int)) = false := decide_eq_false (by omega)
  refine pure_of_tr Tryd.func99 rfl (Nat.le_of_ble_eq_true rfl) rfl fun E hE hP => ?_
  first | refine tr_seq_region (by rw [hE]; rfl) ?_ | (refine Tr.seq ?_; refine tr_seq_region (by rw [hE]; rfl) ?_)
  repeat (refine vc_op rfl ?_; simp only [go_sem, seval])
  refine vc_nil ?_
  refine Tr.seq ?_
  first | apply tr_m (by rw [hE]; rfl) | (refine Tr.seq ?_; apply tr_m (by rw [hE]; rfl))
  intro Q hQ
  simp only [go_sem, seval]
  iterate 3 ((refine vm_op ?_); intro r hr; simp only [e1, e2, go_sem, seval]; subst hr)
  iterate 2 ((first | refine vm_if rfl ?_ | refine vm_no rfl ?_ | refine vm_skip rfl ?_); intro r hr; simp only [e1, e2, go_sem, seval]; subst hr)
  (refine vm_op ?_); intro r hr; simp only [e1, e2, go_sem, seval]; subst hr
  exact hQ
  refine Tr.cond rfl (fun h1 => by cases h1) (fun h1 => ?_)
  refine Tr.skip ?_
  try simp only [blockK, thenK, ↓reduceIte]
  first | refine tr_seq_region (by rw [hE]; rfl) ?_ | (refine Tr.seq ?_; refine tr_seq_region (by rw [hE]; rfl) ?_)
  repeat (refine vc_op rfl ?_; simp only [go_sem, seval])
  refine vc_nil ?_
  refine Tr.seq ?_
  first | refine tr_seq_region (by rw [hE]; rfl) ?_ | (refine Tr.seq ?_; refine tr_seq_region (by rw [hE]; rfl) ?_)
  repeat (refine vc_op rfl ?_; simp only [go_sem, seval])
  refine vc_nil ?_
  refine Tr.block ?_
  refine Tr.loop (st42 v) (fun i => i ≤ v) (fun i => v - i) 0 (Nat.zero_le _) ?_ ?_
  · refine wk_ren (fun n => n) ?_ ?_ rfl rfl rfl
    · repeat' (first | exact rfl | exact trivial | constructor)
    · repeat' (first | exact rfl | exact trivial | constructor)
  · intro i hi
    unfold st42
    refine Tr.seq ?_
    first | refine tr_seq_region (by rw [hE]; rfl) ?_ | (refine Tr.seq ?_; refine tr_seq_region (by rw [hE]; rfl) ?_)
    repeat (refine vc_op rfl ?_; simp only [go_sem, seval])
    refine vc_nil ?_
    refine Tr.cond rfl (fun h2 => ?_) (fun h2 => ?_)
    · refine Tr.skip ?_
      try simp only [blockK, thenK, ↓reduceIte]
      have hlt : i < v := by have := of_decide_eq_true h2; omega
      have hw := wrap_next (n := i) (by omega)
      have hp : 2 ^ (i + 1) ≤ 2 ^ 7 := Nat.pow_le_pow_right (by omega) (by omega)
      have hm : IntKind.u64.wrap (2 * ((2 ^ i : Nat) : Int)) = ((2 ^ (i + 1) : Nat) : Int) := by
        rw [show (2 * ((2 ^ i : Nat) : Int)) = ((2 ^ (i + 1) : Nat) : Int) by rw [Nat.pow_succ]; omega]
        exact wrapU (by omega)
      refine Tr.seq ?_
      refine Tr.block ?_
      refine tr_region (by rw [hE]; rfl) ?_
      repeat (refine vc_op rfl ?_; simp only [hm, go_sem, seval])
      refine vc_nil ?_
      try simp only [blockK, thenK, ↓reduceIte]
      refine tr_region (by rw [hE]; rfl) ?_
      repeat (refine vc_op rfl ?_; simp only [hw, go_sem, seval])
      refine vc_nil ?_
      try simp only [blockK, thenK, ↓reduceIte]
      refine ⟨i + 1, hlt, by omega, ?_⟩
      refine wk_ren (fun n => n) ?_ ?_ rfl rfl rfl
      · repeat' (first | exact rfl | exact trivial | constructor)
      · repeat' (first | exact rfl | exact trivial | constructor)
    · refine Tr.exit ?_
      try simp only [blockK, thenK, ↓reduceIte]
      have hil : i = v := by
        have := of_decide_eq_false h2
        omega
      subst hil
      first | refine tr_seq_region (by rw [hE]; rfl) ?_ | (refine Tr.seq ?_; refine tr_seq_region (by rw [hE]; rfl) ?_)
      repeat (refine vc_op rfl ?_; simp only [go_sem, seval])
      refine vc_nil ?_
      refine Tr.ret ?_
      simp only [Tryd.f99, go_sem, seval]

theorem ROne_pure (x y : Link) : Pure Tryd.prog 83 [x.av, y.av] (.bool (decide (keyOf x = keyOf y))) := by
  refine pure_of_tr Tryd.func83 rfl (Nat.le_of_ble_eq_true rfl) rfl fun E hE hP => ?_
  first | refine tr_seq_region (by rw [hE]; rfl) ?_ | (refine Tr.seq ?_; refine tr_seq_region (by rw [hE]; rfl) ?_)
  repeat (refine vc_op rfl ?_; simp only [go_sem, seval])
  refine vc_nil ?_
  cases h1 : decide (x.s = y.s) with
  | true =>
    have hk : decide (keyOf x = keyOf y) = decide (x.t = y.t) := by
      have := of_decide_eq_true h1
      simp [keyOf, this]
    first | apply tr_m (by rw [hE]; rfl) | (refine Tr.seq ?_; apply tr_m (by rw [hE]; rfl))
    intro Q hQ
    simp only [go_sem, seval]
    iterate 6 ((refine vm_op ?_); intro r hr; simp only [h1, go_sem, seval]; subst hr)
    iterate 5 ((first | refine vm_if rfl ?_ | refine vm_no rfl ?_ | refine vm_skip rfl ?_); intro r hr; simp only [h1, go_sem, seval]; subst hr)
    iterate 2 ((refine vm_op ?_); intro r hr; simp only [h1, go_sem, seval]; subst hr)
    exact hQ
    refine Tr.ret ?_
    simp only [hk, Tryd.f83, go_sem, seval]
  | false =>
    have hk : decide (keyOf x = keyOf y) = false := by
      have := of_decide_eq_false h1
      simp [keyOf, this]
    first | apply tr_m (by rw [hE]; rfl) | (refine Tr.seq ?_; apply tr_m (by rw [hE]; rfl))
    intro Q hQ
    simp only [go_sem, seval]
    iterate 6 ((refine vm_op ?_); intro r hr; simp only [h1, go_sem, seval]; subst hr)
    iterate 5 ((first | refine vm_if rfl ?_ | refine vm_no rfl ?_ | refine vm_skip rfl ?_); intro r hr; simp only [h1, go_sem, seval]; subst hr)
    iterate 2 ((refine vm_op ?_); intro r hr; simp only [h1, go_sem, seval]; subst hr)
    exact hQ
    refine Tr.ret ?_
    simp only [hk, Tryd.f83, go_sem, seval]

end Go.Proofs.YtdlejnafhmpobaaDoor

/- The reference of layer 15, once more. -/
set_option linter.unusedSimpArgs false
set_option maxRecDepth 10000
namespace Go.Proofs.YtdlejnafhmpobaaDoor
open Go Go.Ab

theorem look_first {l : List Link} {k : LKey} : ∀ (n i : Nat), n ≤ l.length → llook (placesTo l n) k = some i → ∀ (j : Nat) (a : Link), j < i → l[j]? = some a → keyOf a ≠ k
  | 0, i, _, h => by simp [placesTo, llook] at h
  | n + 1, i, hn, h => by
    rw [placesTo_next (l := l) (i := n) (by omega) rfl] at h
    split at h
    · exact look_first n i (by omega) h
    · rw [look_app] at h
      cases hq : llook (placesTo l n) k with
      | some x =>
        rw [hq] at h
        simp only [Option.some.injEq] at h
        subst h
        exact look_first n x (by omega) hq
      | none =>
        rw [hq] at h
        simp only at h
        split at h
        · simp only [Option.some.injEq] at h
          subst h
          intro j a hj ha he
          have ha' : l[j]'(by omega) = a := (List.getElem?_eq_some_iff.1 ha).2
          have := look_mem (l := l) n j (by omega) hj
          rw [ha', he, hq] at this
          cases this
        · cases h
theorem look_at {l : List Link} {k : LKey} {i : Nat} (hi : i < l.length) (hk : keyOf l[i] = k) (hb : ∀ (j : Nat) (hj : j < l.length), j < i → keyOf l[j] ≠ k) : llook (places l) k = some i := by
  have h1 := look_mem (l := l) l.length i (Nat.le_refl _) hi
  rw [hk] at h1
  obtain ⟨m, hm⟩ := Option.isSome_iff_exists.1 h1
  have hm' : llook (places l) k = some m := hm
  obtain ⟨_, h2, h3⟩ := look_spec hm
  have h4 := look_first l.length m (Nat.le_refl _) hm
  rcases Nat.lt_trichotomy m i with h | h | h
  · exact absurd h3 (hb m h2 h)
  · rw [hm', h]
  · exact absurd hk (h4 i l[i] h (by simp))
theorem look_no {l : List Link} {k : LKey} (hb : ∀ (j : Nat) (hj : j < l.length), keyOf l[j] ≠ k) : llook (places l) k = none :=
  look_none fun a ha => by
    obtain ⟨j, hj, rfl⟩ := List.mem_iff_getElem.1 ha
    exact hb j hj

theorem key_eq {a : Link} {s t : Check} (h1 : a.s = s) (h2 : a.t = t) : keyOf a = ⟨s, t⟩ := by rw [keyOf, h1, h2]
theorem key_ne1 {a : Link} {s t : Check} (h1 : a.s ≠ s) : keyOf a ≠ ⟨s, t⟩ := fun h => h1 (by simp [keyOf] at h; exact h.1)
theorem key_ne2 {a : Link} {s t : Check} (h1 : a.t ≠ t) : keyOf a ≠ ⟨s, t⟩ := fun h => h1 (by simp [keyOf] at h; exact h.2)

/-! ### Guilty, by the reference -/

end Go.Proofs.YtdlejnafhmpobaaDoor

/- The reference of layer 15: may links be, and one more attests. -/
set_option linter.unusedSimpArgs false
set_option maxRecDepth 10000
namespace Go.Proofs.YtdlejnafhmpobaaDoor
open Go Go.Ab

def st18o (l : List Link) (i : Nat) : S where
  fr := [(3, .int .i64 i), (0, .sl (l.map Link.av) false)]
  hp := []
  nx := 0
def st18i (l : List Link) (i j : Nat) : S where
  fr := [(4, .int .i64 j), (3, .int .i64 i), (0, .sl (l.map Link.av) false)]
  hp := []
  nx := 0

theorem may_odd {l : List Link} {i : Nat} (h : i < l.length) (ho : odd l[i] = true) : lmayB l = false := by
  rw [Bool.eq_false_iff]
  intro hm
  rw [(may_spec hm).2.1 _ (List.getElem_mem h)] at ho
  cases ho
theorem may_twice {l : List Link} {i j : Nat} (hi : i < l.length) (hj : j < i) (hk : keyOf l[i] = keyOf (l[j]'(by omega))) : lmayB l = false := by
  rw [Bool.eq_false_iff]
  intro hm
  exact keys_apart l.length (Nat.le_refl _) (may_spec hm).2.2 j i (l[j]'(by omega)) l[i] hj hi (by simp) (by simp) hk.symm

theorem RLMay_pure (l : List Link) (hl : l.length ≤ 100) (hmask : ∀ a ∈ l, 0 ≤ a.mask) : Pure Tryd.prog 61 [links l] (.bool (lmayB l)) := by
  unfold links
  refine pure_of_tr Tryd.func61 rfl (Nat.le_of_ble_eq_true rfl) rfl fun E hE hP => ?_
  first | refine tr_seq_region (by rw [hE]; rfl) ?_ | (refine Tr.seq ?_; refine tr_seq_region (by rw [hE]; rfl) ?_)
  repeat (refine vc_op rfl ?_; simp only [go_sem, seval])
  refine vc_nil ?_
  refine Tr.seq ?_
  first | refine tr_seq_region (by rw [hE]; rfl) ?_ | (refine Tr.seq ?_; refine tr_seq_region (by rw [hE]; rfl) ?_)
  repeat (refine vc_op rfl ?_; simp only [go_sem, seval])
  refine vc_nil ?_
  refine Tr.block ?_
  refine Tr.loop (st18o l) (fun i => i ≤ l.length ∧ (∀ (j : Nat) (hj : j < l.length), j < i → odd l[j] = false) ∧ ∀ (j m : Nat) (hj : j < l.length) (hm : m < j), j < i → keyOf l[j] ≠ keyOf (l[m]'(by omega))) (fun i => l.length - i) 0 ⟨Nat.zero_le _, fun _ _ h => by omega, fun _ _ _ _ h => by omega⟩ ?_ ?_
  · refine wk_ren (fun n => n) ?_ ?_ rfl rfl rfl
    · repeat' (first | exact rfl | exact trivial | constructor)
    · repeat' (first | exact rfl | exact trivial | constructor)
  · intro i ⟨hi, hbo, hbk⟩
    unfold st18o
    refine Tr.seq ?_
    first | refine tr_seq_region (by rw [hE]; rfl) ?_ | (refine Tr.seq ?_; refine tr_seq_region (by rw [hE]; rfl) ?_)
    repeat (refine vc_op rfl ?_; simp only [go_sem, seval])
    refine vc_nil ?_
    refine Tr.cond rfl (fun h1 => ?_) (fun h1 => ?_)
    · refine Tr.skip ?_
      try simp only [blockK, thenK, ↓reduceIte]
      have hlt : i < l.length := by have := of_decide_eq_true h1; omega
      have ha := nth_map_lt Link.av l i hlt
      have hbad' := may_odd hlt
      have htw := fun j => may_twice (j := j) hlt
      have hm0 := hmask l[i] (List.getElem_mem hlt)
      generalize hla : l[i] = a at ha hbad' hm0 htw
      have hw := wrap_next (n := i) (by omega)
      refine Tr.seq ?_
      refine Tr.block ?_
      refine Tr.seq ?_
      by_cases c1 : a.t.epoch ≤ a.s.epoch
      · have e1 : decide (a.t.epoch ≤ a.s.epoch) = true := decide_eq_true c1
        have e2 : True := trivial
        have e3 : True := trivial
        have hbad := hbad' (by simp [odd, c1])
        first | apply tr_md mixed [] rfl (by rw [hE]; rfl) (by kernel_rfl) | (refine Tr.seq ?_; apply tr_md mixed [] rfl (by rw [hE]; rfl) (by kernel_rfl))
        intro Q hQ
        simp only [go_sem, seval]
        iterate 14 ((refine vd2_q rfl ?_); intro r hr; simp only [ha, e1, go_sem, seval]; subst hr)
        iterate 6 ((first | refine vd2_goq rfl rfl ?_ | refine vd2_no rfl ?_ | refine vd2_skip rfl ?_); intro r hr; simp only [ha, e1, go_sem, seval]; subst hr)
        iterate 2 ((refine vd2_q rfl ?_); intro r hr; simp only [ha, e1, go_sem, seval]; subst hr)
        iterate 6 ((first | refine vd2_goq rfl rfl ?_ | refine vd2_no rfl ?_ | refine vd2_skip rfl ?_); intro r hr; simp only [ha, e1, go_sem, seval]; subst hr)
        (refine vd2_q rfl ?_); intro r hr; simp only [ha, e1, go_sem, seval]; subst hr
        exact hQ
        refine Tr.cond rfl (fun h => ?_) (fun h => by cases h)
        first | refine tr_seq_region (by rw [hE]; rfl) ?_ | (refine Tr.seq ?_; refine tr_seq_region (by rw [hE]; rfl) ?_)
        repeat (refine vc_op rfl ?_; simp only [go_sem, seval])
        refine vc_nil ?_
        refine Tr.ret ?_
        simp only [hbad, Tryd.f61, go_sem, seval]
      · have e1 : decide (a.t.epoch ≤ a.s.epoch) = false := decide_eq_false c1
        by_cases c2 : a.mask < 1
        · have e2 : decide (a.mask < 1) = true := decide_eq_true c2
          have hbad := hbad' (by simp [odd]; omega)
          first | apply tr_md mixed [] rfl (by rw [hE]; rfl) (by kernel_rfl) | (refine Tr.seq ?_; apply tr_md mixed [] rfl (by rw [hE]; rfl) (by kernel_rfl))
          intro Q hQ
          simp only [go_sem, seval]
          iterate 14 ((refine vd2_q rfl ?_); intro r hr; simp only [ha, e1, e2, go_sem, seval]; subst hr)
          iterate 6 ((first | refine vd2_goq rfl rfl ?_ | refine vd2_no rfl ?_ | refine vd2_skip rfl ?_); intro r hr; simp only [ha, e1, e2, go_sem, seval]; subst hr)
          iterate 2 ((refine vd2_q rfl ?_); intro r hr; simp only [ha, e1, e2, go_sem, seval]; subst hr)
          iterate 6 ((first | refine vd2_goq rfl rfl ?_ | refine vd2_no rfl ?_ | refine vd2_skip rfl ?_); intro r hr; simp only [ha, e1, e2, go_sem, seval]; subst hr)
          (refine vd2_q rfl ?_); intro r hr; simp only [ha, e1, e2, go_sem, seval]; subst hr
          exact hQ
          refine Tr.cond rfl (fun h => ?_) (fun h => by cases h)
          first | refine tr_seq_region (by rw [hE]; rfl) ?_ | (refine Tr.seq ?_; refine tr_seq_region (by rw [hE]; rfl) ?_)
          repeat (refine vc_op rfl ?_; simp only [go_sem, seval])
          refine vc_nil ?_
          refine Tr.ret ?_
          simp only [hbad, Tryd.f61, go_sem, seval]
        · have e2 : decide (a.mask < 1) = false := decide_eq_false c2
          by_cases c3 : 255 < a.mask
          · have e3 : decide (255 < a.mask) = true := decide_eq_true c3
            have hbad := hbad' (by simp [odd]; omega)
            first | apply tr_md mixed [] rfl (by rw [hE]; rfl) (by kernel_rfl) | (refine Tr.seq ?_; apply tr_md mixed [] rfl (by rw [hE]; rfl) (by kernel_rfl))
            intro Q hQ
            simp only [go_sem, seval]
            iterate 14 ((refine vd2_q rfl ?_); intro r hr; simp only [ha, e1, e2, e3, go_sem, seval]; subst hr)
            iterate 6 ((first | refine vd2_goq rfl rfl ?_ | refine vd2_no rfl ?_ | refine vd2_skip rfl ?_); intro r hr; simp only [ha, e1, e2, e3, go_sem, seval]; subst hr)
            iterate 2 ((refine vd2_q rfl ?_); intro r hr; simp only [ha, e1, e2, e3, go_sem, seval]; subst hr)
            iterate 6 ((first | refine vd2_goq rfl rfl ?_ | refine vd2_no rfl ?_ | refine vd2_skip rfl ?_); intro r hr; simp only [ha, e1, e2, e3, go_sem, seval]; subst hr)
            (refine vd2_q rfl ?_); intro r hr; simp only [ha, e1, e2, e3, go_sem, seval]; subst hr
            exact hQ
            refine Tr.cond rfl (fun h => ?_) (fun h => by cases h)
            first | refine tr_seq_region (by rw [hE]; rfl) ?_ | (refine Tr.seq ?_; refine tr_seq_region (by rw [hE]; rfl) ?_)
            repeat (refine vc_op rfl ?_; simp only [go_sem, seval])
            refine vc_nil ?_
            refine Tr.ret ?_
            simp only [hbad, Tryd.f61, go_sem, seval]
          · have e3 : decide (255 < a.mask) = false := decide_eq_false c3
            have hgood : odd a = false := by rw [odd_false]; omega
            first | apply tr_md mixed [] rfl (by rw [hE]; rfl) (by kernel_rfl) | (refine Tr.seq ?_; apply tr_md mixed [] rfl (by rw [hE]; rfl) (by kernel_rfl))
            intro Q hQ
            simp only [go_sem, seval]
            iterate 14 ((refine vd2_q rfl ?_); intro r hr; simp only [ha, e1, e2, e3, go_sem, seval]; subst hr)
            iterate 6 ((first | refine vd2_goq rfl rfl ?_ | refine vd2_no rfl ?_ | refine vd2_skip rfl ?_); intro r hr; simp only [ha, e1, e2, e3, go_sem, seval]; subst hr)
            iterate 2 ((refine vd2_q rfl ?_); intro r hr; simp only [ha, e1, e2, e3, go_sem, seval]; subst hr)
            iterate 6 ((first | refine vd2_goq rfl rfl ?_ | refine vd2_no rfl ?_ | refine vd2_skip rfl ?_); intro r hr; simp only [ha, e1, e2, e3, go_sem, seval]; subst hr)
            (refine vd2_q rfl ?_); intro r hr; simp only [ha, e1, e2, e3, go_sem, seval]; subst hr
            exact hQ
            refine Tr.cond rfl (fun h => by cases h) (fun h => ?_)
            refine Tr.skip ?_
            try simp only [blockK, thenK, ↓reduceIte]
            first | refine tr_seq_region (by rw [hE]; rfl) ?_ | (refine Tr.seq ?_; refine tr_seq_region (by rw [hE]; rfl) ?_)
            repeat (refine vc_op rfl ?_; simp only [go_sem, seval])
            refine vc_nil ?_
            refine Tr.block ?_
            refine Tr.loop (st18i l i) (fun j => j ≤ i ∧ ∀ (m : Nat) (hm : m < l.length), m < j → keyOf a ≠ keyOf l[m]) (fun j => i - j) 0 ⟨Nat.zero_le _, fun _ _ h => by omega⟩ ?_ ?_
            · refine wk_ren (fun n => n) ?_ ?_ rfl rfl rfl
              · repeat' (first | exact rfl | exact trivial | constructor)
              · repeat' (first | exact rfl | exact trivial | constructor)
            · intro j ⟨hj, hbj⟩
              unfold st18i
              refine Tr.seq ?_
              first | refine tr_seq_region (by rw [hE]; rfl) ?_ | (refine Tr.seq ?_; refine tr_seq_region (by rw [hE]; rfl) ?_)
              repeat (refine vc_op rfl ?_; simp only [go_sem, seval])
              refine vc_nil ?_
              refine Tr.cond rfl (fun h2 => ?_) (fun h2 => ?_)
              · refine Tr.skip ?_
                try simp only [blockK, thenK, ↓reduceIte]
                have hji : j < i := by have := of_decide_eq_true h2; omega
                have hjt : j < l.length := by omega
                have hb := nth_map_lt Link.av l j hjt
                have htwj := htw j hji
                generalize hlb : l[j] = b at hb htwj
                have hw2 := wrap_next (n := j) (by omega)
                refine Tr.seq ?_
                refine Tr.block ?_
                first | refine tr_seq_drawn mixed [] rfl (by rw [hE]; rfl) (by kernel_rfl) ?_ | (refine Tr.seq ?_; refine tr_seq_drawn mixed [] rfl (by rw [hE]; rfl) (by kernel_rfl) ?_)
                repeat (first | (refine vd_q rfl rfl ?_; simp only [ha, hb, go_sem, seval]) | (refine vd_x rfl rfl ?_; simp only [ha, hb, go_sem, seval]) | (refine vd_goq rfl rfl rfl rfl ?_; simp only [ha, hb, go_sem, seval]) | (refine vd_gox rfl rfl rfl rfl ?_; simp only [ha, hb, go_sem, seval]) | (refine vd_no rfl rfl rfl ?_; simp only [ha, hb, go_sem, seval]) | (refine vd_skip rfl rfl rfl ?_; simp only [ha, hb, go_sem, seval]))
                refine call_fn rfl rfl rfl rfl (enters_of Tryd.func83 (by kernel_rfl) rfl) (ROne_pure a b) rfl rfl rfl ?_
                simp only [go_sem, seval]
                repeat (first | (refine vd_q rfl rfl ?_; simp only [go_sem, seval]) | (refine vd_x rfl rfl ?_; simp only [go_sem, seval]) | (refine vd_goq rfl rfl rfl rfl ?_; simp only [go_sem, seval]) | (refine vd_gox rfl rfl rfl rfl ?_; simp only [go_sem, seval]) | (refine vd_no rfl rfl rfl ?_; simp only [go_sem, seval]) | (refine vd_skip rfl rfl rfl ?_; simp only [go_sem, seval]))
                refine vd_nil ?_
                first | refine tr_seq_region (by rw [hE]; rfl) ?_ | (refine Tr.seq ?_; refine tr_seq_region (by rw [hE]; rfl) ?_)
                repeat (refine vc_op rfl ?_; simp only [go_sem, seval])
                refine vc_nil ?_
                refine Tr.cond rfl (fun h3 => ?_) (fun h3 => ?_)
                · have hbad := htwj (of_decide_eq_true h3)
                  first | refine tr_seq_region (by rw [hE]; rfl) ?_ | (refine Tr.seq ?_; refine tr_seq_region (by rw [hE]; rfl) ?_)
                  repeat (refine vc_op rfl ?_; simp only [go_sem, seval])
                  refine vc_nil ?_
                  refine Tr.ret ?_
                  simp only [hbad, Tryd.f61, go_sem, seval]
                · have hne := of_decide_eq_false h3
                  refine Tr.skip ?_
                  try simp only [blockK, thenK, ↓reduceIte]
                  refine tr_region (by rw [hE]; rfl) ?_
                  repeat (refine vc_op rfl ?_; simp only [hw2, go_sem, seval])
                  refine vc_nil ?_
                  try simp only [blockK, thenK, ↓reduceIte]
                  refine ⟨j + 1, ⟨hji, fun m hm hmj => ?_⟩, by omega, ?_⟩
                  · by_cases h : m = j
                    · subst h; rw [hlb]; exact hne
                    · exact hbj m hm (by omega)
                  · refine wk_ren (fun n => n) ?_ ?_ rfl rfl rfl
                    · repeat' (first | exact rfl | exact trivial | constructor)
                    · repeat' (first | exact rfl | exact trivial | constructor)
              · refine Tr.exit ?_
                try simp only [blockK, thenK, ↓reduceIte]
                have hjl : j = i := by
                  have := of_decide_eq_false h2
                  omega
                subst hjl
                refine tr_region (by rw [hE]; rfl) ?_
                repeat (refine vc_op rfl ?_; simp only [hw, go_sem, seval])
                refine vc_nil ?_
                try simp only [blockK, thenK, ↓reduceIte]
                refine ⟨j + 1, ⟨hlt, fun m hm hmj => ?_, fun m m' hm hm' hmj => ?_⟩, by omega, ?_⟩
                · by_cases h : m = j
                  · subst h; rw [hla]; exact hgood
                  · exact hbo m hm (by omega)
                · by_cases h : m = j
                  · subst h; rw [hla]; exact hbj m' (by omega) hm'
                  · exact hbk m m' hm hm' (by omega)
                · refine wk_ren (fun n => n) ?_ ?_ rfl rfl rfl
                  · repeat' (first | exact rfl | exact trivial | constructor)
                  · repeat' (first | exact rfl | exact trivial | constructor)
    · refine Tr.exit ?_
      try simp only [blockK, thenK, ↓reduceIte]
      have hil : i = l.length := by
        have := of_decide_eq_false h1
        omega
      subst hil
      have hpl : (places l).length = l.length := places_len fun x y a b hxy hx hy => by
        have hyl := (List.getElem?_eq_some_iff.1 hy).1
        have e1 : l[x]'(by omega) = a := (List.getElem?_eq_some_iff.1 hx).2
        have e2 : l[y] = b := (List.getElem?_eq_some_iff.1 hy).2
        have := hbk y x hyl hxy hyl
        rw [e1, e2] at this
        exact fun h => this h.symm
      have hodd : l.any odd = false := by
        rw [List.any_eq_false]
        intro a ha
        obtain ⟨j, hj, rfl⟩ := List.mem_iff_getElem.1 ha
        simp [hbo j hj hj]
      have hfin : lmayB l = decide ((l.length : Int) ≤ 16) := by
        simp only [lmayB, hodd, hpl]
        simp
        omega
      first | refine tr_seq_region (by rw [hE]; rfl) ?_ | (refine Tr.seq ?_; refine tr_seq_region (by rw [hE]; rfl) ?_)
      repeat (refine vc_op rfl ?_; simp only [go_sem, seval])
      refine vc_nil ?_
      refine Tr.ret ?_
      simp only [hfin, Tryd.f61, go_sem, seval]

end Go.Proofs.YtdlejnafhmpobaaDoor

/- Balances: who may be, the bits, the table. -/
set_option linter.unusedSimpArgs false
set_option maxRecDepth 10000
namespace Go.Proofs.YtdlejnafhmpobaaDoor
open Go Go.Ab

def u64s (l : List Int) : AV := .sl (l.map uav) false
@[go_sem] theorem uav_ok (b : Int) : (uav b).ok = true := rfl
@[go_sem] theorem uav_idf (b : Int) : (uav b).idf = true := rfl
@[go_sem] theorem u64s_idL (l : List Int) : (u64s l).idL = [] := rfl
@[go_sem] theorem u64s_frz (hp : HP) (l : List Int) : (u64s l).frz hp = u64s l := rfl
@[go_sem] theorem u64s_flat (l : List Int) : (u64s l).flat = false := rfl
@[go_sem] theorem u64s_ok (l : List Int) : (u64s l).ok = true := rfl
@[go_sem] theorem u64s_idf (l : List Int) : (u64s l).idf = true := rfl

def over (n : Int) : Bool := decide (1099511627776 < n)
theorem over_pure (n : Int) : Pure Tryd.prog 51 [.int .u64 n] (.bool (over n)) := by
  unfold over
  refine pure_of_tr Tryd.func51 rfl (Nat.le_of_ble_eq_true rfl) rfl fun E hE hP => ?_
  first | refine tr_seq_region (by rw [hE]; rfl) ?_ | (refine Tr.seq ?_; refine tr_seq_region (by rw [hE]; rfl) ?_)
  repeat (refine vc_op rfl ?_; simp only [go_sem, seval])
  refine vc_nil ?_
  first | refine tr_seq_region (by rw [hE]; rfl) ?_ | (refine Tr.seq ?_; refine tr_seq_region (by rw [hE]; rfl) ?_)
  repeat (refine vc_op rfl ?_; simp only [go_sem, seval])
  refine vc_nil ?_
  refine Tr.ret ?_
  simp only [Tryd.f51, go_sem, seval]

def oidx (l : List Int) : Int := match l.findIdx? over with | some i => (i : Int) | none => -1
theorem oidx_at {l : List Int} {i : Nat} (h : i < l.length) (hb : ∀ j (hj : j < i), over (l[j]'(by omega)) = false) (hi : over l[i] = true) : oidx l = i := by
  have : l.findIdx? over = some i := by
    rw [List.findIdx?_eq_some_iff_getElem]
    exact ⟨h, hi, fun j hj => by rw [hb j hj]; simp⟩
  rw [oidx, this]
theorem oidx_none {l : List Int} (hb : ∀ j (hj : j < l.length), over l[j] = false) : oidx l = -1 := by
  have : l.findIdx? over = none := by
    rw [List.findIdx?_eq_none_iff]
    intro x hx
    obtain ⟨j, hj, rfl⟩ := List.mem_iff_getElem.1 hx
    exact hb j hj
  rw [oidx, this]
theorem oidx_any (l : List Int) : decide (0 ≤ oidx l) = l.any over := by
  unfold oidx
  cases h : l.findIdx? over with
  | none =>
    rw [List.findIdx?_eq_none_iff] at h
    have : l.any over = false := by rw [List.any_eq_false]; intro x hx; rw [h x hx]; simp
    rw [this]; rfl
  | some i =>
    rw [List.findIdx?_eq_some_iff_getElem] at h
    obtain ⟨h1, h2, _⟩ := h
    have : l.any over = true := List.any_eq_true.2 ⟨l[i], List.getElem_mem h1, h2⟩
    rw [this]; simp

def oidxSt (l : List Int) (i : Nat) : S where
  fr := [(8, .int .i64 i), (7, .int .i64 l.length), (0, .sl (l.map uav) false), (1, .fn (.func 51) [] [])]
  hp := []
  nx := 0

theorem oindex_pure (l : List Int) (hl : l.length ≤ 100) : Pure Tryd.prog 75 [u64s l, .fn (.func 51) [] []] (.int .i64 (oidx l)) := by
  unfold u64s
  refine pure_of_tr Tryd.func75 rfl (Nat.le_of_ble_eq_true rfl) rfl fun E hE hP => ?_
  first | refine tr_seq_region (by rw [hE]; rfl) ?_ | (refine Tr.seq ?_; refine tr_seq_region (by rw [hE]; rfl) ?_)
  repeat (refine vc_op rfl ?_; simp only [go_sem, seval])
  refine vc_nil ?_
  first | refine tr_seq_region (by rw [hE]; rfl) ?_ | (refine Tr.seq ?_; refine tr_seq_region (by rw [hE]; rfl) ?_)
  repeat (refine vc_op rfl ?_; simp only [go_sem, seval])
  refine vc_nil ?_
  first | refine Tr.block ?_ | (refine Tr.seq ?_; refine Tr.block ?_)
  refine Tr.loop (oidxSt l) (fun i => i ≤ l.length ∧ ∀ j (hj : j < l.length), j < i → over l[j] = false) (fun i => l.length - i) 0 ⟨Nat.zero_le _, fun _ _ h => by omega⟩ ?_ ?_
  · refine wk_ren (fun n => n) ?_ ?_ rfl rfl rfl
    · repeat' (first | exact rfl | exact trivial | constructor)
    · repeat' (first | exact rfl | exact trivial | constructor)
  · intro i ⟨hi, hall⟩
    unfold oidxSt
    first | refine tr_seq_region (by rw [hE]; rfl) ?_ | (refine Tr.seq ?_; refine tr_seq_region (by rw [hE]; rfl) ?_)
    repeat (refine vc_op rfl ?_; simp only [go_sem, seval])
    refine vc_nil ?_
    first | refine Tr.cond rfl (fun h1 => ?_) (fun h1 => ?_) | refine Tr.seq (Tr.cond rfl (fun h1 => ?_) (fun h1 => ?_))
    · refine Tr.skip ?_
      try simp only [blockK, thenK, ↓reduceIte]
      have hlt : i < l.length := by have := of_decide_eq_true h1; omega
      have ha := nth_map_lt uav l i hlt
      have hw := wrap_next (n := i) (by omega)
      first | refine Tr.block ?_ | (refine Tr.seq ?_; refine Tr.block ?_)
      first | refine tr_seq_region (by rw [hE]; rfl) ?_ | (refine Tr.seq ?_; refine tr_seq_region (by rw [hE]; rfl) ?_)
      repeat (refine vc_op rfl ?_; simp only [go_sem, seval])
      refine vc_nil ?_
      cases hb : over l[i] with
      | true =>
        have er : oidx l = i := oidx_at hlt (fun j hj => hall j (by omega) hj) hb
        have hc := over_pure l[i]
        rw [hb] at hc
        first | apply tr_m (by rw [hE]; rfl) | (refine Tr.seq ?_; apply tr_m (by rw [hE]; rfl))
        intro Q hQ
        simp only [go_sem, seval]
        iterate 5 ((refine vm_op ?_); intro r hr; simp only [uav, ha, go_sem, seval]; subst hr)
        (refine vm_op ?_); intro r hr; simp only [uav, ha, go_sem, seval]
        refine call_fn rfl rfl rfl rfl (enters_of Tryd.func51 (by kernel_rfl) rfl) (hc) rfl rfl rfl ?_
        simp only [go_sem, seval]
        subst hr
        exact hQ
        first | refine Tr.cond (b := true) rfl (fun _ => ?_) (fun h => by cases h) | refine Tr.seq (Tr.cond (b := true) rfl (fun _ => ?_) (fun h => by cases h))
        first | refine tr_seq_region (by rw [hE]; rfl) ?_ | (refine Tr.seq ?_; refine tr_seq_region (by rw [hE]; rfl) ?_)
        repeat (refine vc_op rfl ?_; simp only [go_sem, seval])
        refine vc_nil ?_
        refine Tr.ret ?_
        simp only [er, Tryd.f75, go_sem, seval]
      | false =>
        have hc := over_pure l[i]
        rw [hb] at hc
        first | apply tr_m (by rw [hE]; rfl) | (refine Tr.seq ?_; apply tr_m (by rw [hE]; rfl))
        intro Q hQ
        simp only [go_sem, seval]
        iterate 5 ((refine vm_op ?_); intro r hr; simp only [uav, ha, go_sem, seval]; subst hr)
        (refine vm_op ?_); intro r hr; simp only [uav, ha, go_sem, seval]
        refine call_fn rfl rfl rfl rfl (enters_of Tryd.func51 (by kernel_rfl) rfl) (hc) rfl rfl rfl ?_
        simp only [go_sem, seval]
        subst hr
        exact hQ
        first | refine Tr.cond rfl (fun h => by cases h) (fun _ => ?_) | refine Tr.seq (Tr.cond rfl (fun h => by cases h) (fun _ => ?_))
        refine Tr.skip ?_
        try simp only [blockK, thenK, ↓reduceIte]
        refine tr_region (by rw [hE]; rfl) ?_
        repeat (refine vc_op rfl ?_; simp only [go_sem, seval])
        refine vc_nil ?_
        rw [hw]
        try simp only [blockK, thenK, ↓reduceIte]
        refine ⟨i + 1, ⟨hlt, fun j hj hjl => ?_⟩, by omega, ?_⟩
        · rcases Nat.lt_or_ge j i with h | h
          · exact hall j hj h
          · have : j = i := by omega
            subst this; exact hb
        refine wk_ren (fun n => n) ?_ ?_ rfl rfl rfl
        · repeat' (first | exact rfl | exact trivial | constructor)
        · repeat' (first | exact rfl | exact trivial | constructor)
    · refine Tr.exit ?_
      try simp only [blockK, thenK, ↓reduceIte]
      have hil : i = l.length := by have := of_decide_eq_false h1; omega
      have er : oidx l = -1 := oidx_none fun j hj => hall j hj (by omega)
      first | refine tr_seq_region (by rw [hE]; rfl) ?_ | (refine Tr.seq ?_; refine tr_seq_region (by rw [hE]; rfl) ?_)
      repeat (refine vc_op rfl ?_; simp only [go_sem, seval])
      refine vc_nil ?_
      refine Tr.ret ?_
      simp only [er, Tryd.f75, go_sem, seval]

theorem ocontains_pure (l : List Int) (hl : l.length ≤ 100) : Pure Tryd.prog 52 [u64s l, .fn (.func 51) [] []] (.bool (l.any over)) := by
  have er := oidx_any l
  refine pure_of_tr Tryd.func52 rfl (Nat.le_of_ble_eq_true rfl) rfl fun E hE hP => ?_
  first | refine tr_seq_region (by rw [hE]; rfl) ?_ | (refine Tr.seq ?_; refine tr_seq_region (by rw [hE]; rfl) ?_)
  repeat (refine vc_op rfl ?_; simp only [go_sem, seval])
  refine vc_nil ?_
  first | apply tr_m (by rw [hE]; rfl) | (refine Tr.seq ?_; apply tr_m (by rw [hE]; rfl))
  intro Q hQ
  simp only [go_sem, seval]
  iterate 2 ((refine vm_op ?_); intro r hr; simp only [go_sem, seval]; subst hr)
  (refine vm_op ?_); intro r hr; simp only [go_sem, seval]
  refine call_fn rfl rfl rfl rfl (enters_of Tryd.func75 (by kernel_rfl) rfl) (oindex_pure l hl) rfl rfl rfl ?_
  simp only [go_sem, seval]
  subst hr
  iterate 2 ((refine vm_op ?_); intro r hr; simp only [go_sem, seval]; subst hr)
  exact hQ
  refine Tr.ret ?_
  simp only [er, Tryd.f52, go_sem, seval]

def mayS (l : List Int) : Bool := decide (0 < l.length) && (decide (l.length ≤ 8) && !l.any over)

theorem smay_pure (l : List Int) : Pure Tryd.prog 27 [u64s l] (.bool (mayS l)) := by
  unfold u64s
  refine pure_of_tr Tryd.func27 rfl (Nat.le_of_ble_eq_true rfl) rfl fun E hE hP => ?_
  first | refine tr_seq_region (by rw [hE]; rfl) ?_ | (refine Tr.seq ?_; refine tr_seq_region (by rw [hE]; rfl) ?_)
  repeat (refine vc_op rfl ?_; simp only [go_sem, seval])
  refine vc_nil ?_
  first | refine tr_seq_region (by rw [hE]; rfl) ?_ | (refine Tr.seq ?_; refine tr_seq_region (by rw [hE]; rfl) ?_)
  repeat (refine vc_op rfl ?_; simp only [go_sem, seval])
  refine vc_nil ?_
  by_cases h0 : 0 < l.length
  · have e0 : decide ((0 : Int) < (l.length : Int)) = true := decide_eq_true (by omega)
    by_cases h1 : l.length ≤ 8
    · have e1 : decide ((l.length : Int) ≤ 8) = true := decide_eq_true (by omega)
      have er : mayS l = !l.any over := by simp [mayS, h0, h1]
      first | apply tr_m (by rw [hE]; rfl) | (refine Tr.seq ?_; apply tr_m (by rw [hE]; rfl))
      intro Q hQ
      simp only [go_sem, seval]
      iterate 4 ((refine vm_op ?_); intro r hr; simp only [e0, e1, go_sem, seval]; subst hr)
      iterate 3 ((first | refine vm_if rfl ?_ | refine vm_no rfl ?_ | refine vm_skip rfl ?_); intro r hr; simp only [e0, e1, go_sem, seval]; subst hr)
      iterate 2 ((refine vm_op ?_); intro r hr; simp only [e0, e1, go_sem, seval]; subst hr)
      iterate 2 ((first | refine vm_if rfl ?_ | refine vm_no rfl ?_ | refine vm_skip rfl ?_); intro r hr; simp only [e0, e1, go_sem, seval]; subst hr)
      (first | refine vm_if rfl ?_ | refine vm_no rfl ?_ | refine vm_skip rfl ?_); intro r hr; simp only [e0, e1, go_sem, seval]
      refine call_fn rfl rfl rfl rfl (enters_of Tryd.func52 (by kernel_rfl) rfl) (ocontains_pure l (by omega)) rfl rfl rfl ?_
      simp only [go_sem, seval]
      subst hr
      (first | refine vm_if rfl ?_ | refine vm_no rfl ?_ | refine vm_skip rfl ?_); intro r hr; simp only [go_sem, seval]; subst hr
      iterate 2 ((refine vm_op ?_); intro r hr; simp only [go_sem, seval]; subst hr)
      exact hQ
      refine Tr.ret ?_
      simp only [er, Tryd.f27, go_sem, seval]
    · have e1 : decide ((l.length : Int) ≤ 8) = false := decide_eq_false (by omega)
      have er : mayS l = false := by simp [mayS, h1]
      first | apply tr_m (by rw [hE]; rfl) | (refine Tr.seq ?_; apply tr_m (by rw [hE]; rfl))
      intro Q hQ
      simp only [go_sem, seval]
      iterate 4 ((refine vm_op ?_); intro r hr; simp only [e0, e1, go_sem, seval]; subst hr)
      iterate 3 ((first | refine vm_if rfl ?_ | refine vm_no rfl ?_ | refine vm_skip rfl ?_); intro r hr; simp only [e0, e1, go_sem, seval]; subst hr)
      iterate 2 ((refine vm_op ?_); intro r hr; simp only [e0, e1, go_sem, seval]; subst hr)
      iterate 4 ((first | refine vm_if rfl ?_ | refine vm_no rfl ?_ | refine vm_skip rfl ?_); intro r hr; simp only [e0, e1, go_sem, seval]; subst hr)
      iterate 2 ((refine vm_op ?_); intro r hr; simp only [e0, e1, go_sem, seval]; subst hr)
      exact hQ
      refine Tr.ret ?_
      simp only [er, Tryd.f27, go_sem, seval]
  · have e0 : decide ((0 : Int) < (l.length : Int)) = false := decide_eq_false (by omega)
    have er : mayS l = false := by simp only [mayS, decide_eq_false h0, Bool.false_and]
    first | apply tr_m (by rw [hE]; rfl) | (refine Tr.seq ?_; apply tr_m (by rw [hE]; rfl))
    intro Q hQ
    simp only [go_sem, seval]
    iterate 4 ((refine vm_op ?_); intro r hr; simp only [e0, go_sem, seval]; subst hr)
    iterate 3 ((first | refine vm_if rfl ?_ | refine vm_no rfl ?_ | refine vm_skip rfl ?_); intro r hr; simp only [e0, go_sem, seval]; subst hr)
    iterate 2 ((refine vm_op ?_); intro r hr; simp only [e0, go_sem, seval]; subst hr)
    iterate 4 ((first | refine vm_if rfl ?_ | refine vm_no rfl ?_ | refine vm_skip rfl ?_); intro r hr; simp only [e0, go_sem, seval]; subst hr)
    iterate 2 ((refine vm_op ?_); intro r hr; simp only [e0, go_sem, seval]; subst hr)
    exact hQ
    refine Tr.ret ?_
    simp only [er, Tryd.f27, go_sem, seval]

def tabN : List Int := [0, 1, 56, 2, 57, 49, 28, 3, 61, 58, 42, 50, 38, 29, 17, 4, 62, 47, 59, 36, 45, 43, 51, 22, 53, 39, 33, 30, 24, 18, 12, 5, 63, 55, 48, 27, 60, 41, 37, 16, 46, 35, 44, 21, 52, 32, 23, 11, 54, 26, 40, 15, 34, 20, 31, 10, 25, 14, 19, 9, 13, 8, 7, 6]
def tabV : AV := .arr (tabN.map fun n => .int .u8 n)
def tz (m : Nat) : Nat := (List.range 8).find? (fun v => m.testBit v) |>.getD 0

end Go.Proofs.YtdlejnafhmpobaaDoor

/- The table: which bit is the last one. -/
set_option linter.unusedSimpArgs false
set_option maxRecDepth 10000
namespace Go.Proofs.YtdlejnafhmpobaaDoor
open Go Go.Ab

@[go_sem] theorem tArr125 : tArr Tryd.prog 125 = some (64, 5) := by kernel_rfl

def tzI (m : Nat) : Int := (IntKind.u64.wrap (bitsI BinOp.and IntKind.u64 (m : Int) (IntKind.u64.wrap (0 - (m : Int))) * 285870213051353865)).fdiv (2 ^ min (Int.toNat 58) 64)
theorem tz_all : (List.range 256).all (fun m => decide (m = 0) || (decide (0 ≤ tzI m) && decide (tabN[(tzI m).toNat]? = some (tz m : Int)) && decide (tz m < 8))) = true := by decide +kernel
theorem tz_idx {m : Nat} (h0 : 0 < m) (h1 : m < 256) : nth (tabN.map fun n => AV.int .u8 n) (tzI m) = some (.int .u8 (tz m)) ∧ tz m < 8 := by
  have h := List.all_eq_true.1 tz_all m (List.mem_range.2 h1)
  have hm : decide (m = 0) = false := decide_eq_false (by omega)
  simp only [hm, Bool.false_or, Bool.and_eq_true, decide_eq_true_eq] at h
  obtain ⟨⟨h2, h3⟩, h4⟩ := h
  refine ⟨?_, h4⟩
  rw [nth, if_pos h2, List.getElem?_map, h3]
  rfl

theorem tz_T (m : Nat) (h0 : 0 < m) (h1 : m < 256) : PureT Tryd.prog 0 tabV 92 [.int .u64 m] (.int .i64 (tz m)) := by
  have hn := (tz_idx h0 h1).1
  have h8 := (tz_idx h0 h1).2
  have ew : IntKind.i64.wrap (tz m : Int) = tz m := wrap_small (by omega)
  unfold tzI at hn
  obtain ⟨p, hp⟩ : ∃ p, IntKind.u64.wrap (bitsI BinOp.and IntKind.u64 (m : Int) (IntKind.u64.wrap (0 - (m : Int))) * 285870213051353865) = p := ⟨_, rfl⟩
  rw [hp] at hn
  obtain ⟨q, hq⟩ : ∃ q, p.fdiv (2 ^ min (Int.toNat 58) 64) = q := ⟨_, rfl⟩
  rw [hq] at hn
  have e0 : ((m : Int) == 0) = false := by rw [int_beq]; exact decide_eq_false (by omega)
  refine eff_of_tr Tryd.func92 rfl (Nat.le_of_ble_eq_true rfl) (by first | rfl | (simp only [AV.idsB, AV.idsBL, Bool.and_true, Bool.true_and] <;> rfl)) fun E hE hP => ?_
  first | refine tr_seq_region (by rw [hE]; rfl) ?_ | (refine Tr.seq ?_; refine tr_seq_region (by rw [hE]; rfl) ?_)
  repeat (refine vc_op rfl ?_; simp only [go_sem, ↓Nat.reduceBEq, ↓Nat.reduceAdd, ↓Nat.reduceSub, ↓Nat.reduceMul, ↓Nat.reduceEqDiff, ↓Nat.reducePow, ↓Nat.reduceLeDiff, ↓Nat.reduceLT, ↓Int.reduceLE, ↓Int.reduceLT, ↓reduceIte, ↓reduceCtorEq])
  refine vc_nil ?_
  first | apply tr_m (by rw [hE]; rfl) | (refine Tr.seq ?_; apply tr_m (by rw [hE]; rfl))
  intro Q hQ
  simp only [go_sem, seval]
  iterate 2 ((refine vm_op ?_); intro r hr; simp only [e0, go_sem, ↓Nat.reduceBEq, ↓Nat.reduceAdd, ↓Nat.reduceSub, ↓Nat.reduceMul, ↓Nat.reduceEqDiff, ↓Nat.reducePow, ↓Nat.reduceLeDiff, ↓Nat.reduceLT, ↓Int.reduceLE, ↓Int.reduceLT, ↓reduceIte, ↓reduceCtorEq]; subst hr)
  exact hQ
  first | refine Tr.cond rfl (fun h => by cases h) (fun _ => ?_) | refine Tr.seq (Tr.cond rfl (fun h => by cases h) (fun _ => ?_))
  refine Tr.skip ?_
  try simp only [blockK, thenK, ↓reduceIte]
  first | apply tr_m (by rw [hE]; rfl) | (refine Tr.seq ?_; apply tr_m (by rw [hE]; rfl))
  intro Q hQ
  simp only [go_sem, seval]
  iterate 5 ((refine vm_op ?_); intro r hr; simp only [hp, go_sem, ↓Nat.reduceBEq, ↓Nat.reduceAdd, ↓Nat.reduceSub, ↓Nat.reduceMul, ↓Nat.reduceEqDiff, ↓Nat.reducePow, ↓Nat.reduceLeDiff, ↓Nat.reduceLT, ↓Int.reduceLE, ↓Int.reduceLT, ↓reduceIte, ↓reduceCtorEq]; subst hr)
  (refine vm_op ?_); intro r hr; simp only [hq, go_sem, ↓Nat.reduceBEq, ↓Nat.reduceAdd, ↓Nat.reduceSub, ↓Nat.reduceMul, ↓Nat.reduceEqDiff, ↓Nat.reducePow, ↓Nat.reduceLeDiff, ↓Nat.reduceLT, ↓Int.reduceLE, ↓Int.reduceLT, ↓reduceIte, ↓reduceCtorEq]; subst hr
  (refine vm_op ?_); intro r hr; simp only [tabV, hn, ew, go_sem, ↓Nat.reduceBEq, ↓Nat.reduceAdd, ↓Nat.reduceSub, ↓Nat.reduceMul, ↓Nat.reduceEqDiff, ↓Nat.reducePow, ↓Nat.reduceLeDiff, ↓Nat.reduceLT, ↓Int.reduceLE, ↓Int.reduceLT, ↓reduceIte, ↓reduceCtorEq]
  refine ⟨rfl, fun z hz => ?_, ?_⟩
  · obtain ⟨n, _, rfl⟩ := List.mem_map.1 hz
    rfl
  subst hr
  iterate 3 ((refine vm_op ?_); intro r hr; simp only [ew, go_sem, ↓Nat.reduceBEq, ↓Nat.reduceAdd, ↓Nat.reduceSub, ↓Nat.reduceMul, ↓Nat.reduceEqDiff, ↓Nat.reducePow, ↓Nat.reduceLeDiff, ↓Nat.reduceLT, ↓Int.reduceLE, ↓Int.reduceLT, ↓reduceIte, ↓reduceCtorEq]; subst hr)
  exact hQ
  refine Tr.ret ?_
  simp only [Tryd.f92, go_sem, ↓Nat.reduceBEq, ↓Nat.reduceAdd, ↓Nat.reduceSub, ↓Nat.reduceMul, ↓Nat.reduceEqDiff, ↓Nat.reducePow, ↓Nat.reduceLeDiff, ↓Nat.reduceLT, ↓Int.reduceLE, ↓Int.reduceLT, ↓reduceIte, ↓reduceCtorEq]
  exact ⟨fun n => n, ⟨⟨rfl, rfl, rfl⟩, trivial⟩, rfl, fun _ _ => rfl⟩

end Go.Proofs.YtdlejnafhmpobaaDoor

/- Products of two words, thirds. -/
set_option linter.unusedSimpArgs false
set_option maxRecDepth 10000
namespace Go.Proofs.YtdlejnafhmpobaaDoor
open Go Go.Ab

theorem wrapU_lt {n : Int} (h0 : 0 ≤ n) (h : n < 18446744073709551616) : IntKind.u64.wrap n = n := by
  obtain ⟨m, rfl⟩ : ∃ m : Nat, n = m := ⟨n.toNat, by omega⟩
  exact wrapU (by omega)
theorem low32 (x : Nat) (h : x < 18446744073709551616) : bitsI BinOp.and IntKind.u64 (x : Int) 4294967295 = ((x % 4294967296 : Nat) : Int) := by
  show andU x 4294967295 = _
  rw [andU_eq, BitVec.toNat_and]
  have e1 : (bv (x : Int)).toNat = x := by have := bv_back (n := x) ⟨by omega, by omega⟩; omega
  have e2 : (bv (4294967295 : Int)).toNat = 2 ^ 32 - 1 := by decide
  rw [e1, e2, Nat.and_two_pow_sub_one_eq_mod]
theorem high32 (x : Nat) : (x : Int).fdiv (2 ^ min (Int.toNat 32) 64) = ((x / 4294967296 : Nat) : Int) := by
  have e : ((2 : Int) ^ min (Int.toNat 32) 64) = ((4294967296 : Nat) : Int) := by decide
  rw [e, Int.fdiv_eq_ediv_of_nonneg _ (by omega)]
  rfl

theorem mul_pure (x y : Nat) (hx : x < 1152921504606846976) (hy : y < 4) : Pure Tryd.prog 90 [.int .u64 x, .int .u64 y] (.tup [.int .u64 0, .int .u64 (x * y : Nat)]) := by
  obtain ⟨x0, hx0⟩ : ∃ k, x % 4294967296 = k := ⟨_, rfl⟩
  obtain ⟨x1, hx1⟩ : ∃ k, x / 4294967296 = k := ⟨_, rfl⟩
  have f1 := low32 x (by omega)
  have f2 := high32 x
  have f3 := low32 y (by omega)
  have f4 := high32 y
  rw [hx0] at f1
  rw [hx1] at f2
  rw [Nat.mod_eq_of_lt (by omega)] at f3
  rw [Nat.div_eq_of_lt (by omega)] at f4
  have b0 : x0 < 4294967296 := by omega
  have b1 : x1 < 268435456 := by omega
  obtain ⟨w0, hw0⟩ : ∃ k, x0 * y = k := ⟨_, rfl⟩
  have c0 : w0 < 17179869184 := by rw [← hw0]; exact Nat.lt_of_le_of_lt (Nat.mul_le_mul (Nat.le_refl x0) (by omega : y ≤ 3)) (by omega)
  obtain ⟨p1, hp1⟩ : ∃ k, x1 * y = k := ⟨_, rfl⟩
  have c1 : p1 < 1073741824 := by rw [← hp1]; exact Nat.lt_of_le_of_lt (Nat.mul_le_mul (Nat.le_refl x1) (by omega : y ≤ 3)) (by omega)
  have f5 : IntKind.u64.wrap ((x0 : Int) * (y : Int)) = w0 := by rw [← Int.natCast_mul, hw0]; exact wrapU (by omega)
  have f6 : IntKind.u64.wrap ((x1 : Int) * (y : Int)) = p1 := by rw [← Int.natCast_mul, hp1]; exact wrapU (by omega)
  have f7 := high32 w0
  obtain ⟨g, hg⟩ : ∃ k, w0 / 4294967296 = k := ⟨_, rfl⟩
  rw [hg] at f7
  obtain ⟨t, ht⟩ : ∃ k, p1 + g = k := ⟨_, rfl⟩
  have f8 : IntKind.u64.wrap ((p1 : Int) + (g : Int)) = t := by rw [← Int.natCast_add, ht]; exact wrapU (by omega)
  have f9 := low32 t (by omega)
  have f10 := high32 t
  rw [Nat.mod_eq_of_lt (by omega)] at f9
  rw [Nat.div_eq_of_lt (by omega)] at f10
  have z1 : IntKind.u64.wrap ((x0 : Int) * ((0 : Nat) : Int)) = 0 := by simp; decide
  have z2 : IntKind.u64.wrap ((x1 : Int) * ((0 : Nat) : Int)) = 0 := by simp; decide
  have z3 : IntKind.u64.wrap ((t : Int) + 0) = t := by rw [Int.add_zero]; exact wrapU (by omega)
  have z4 : IntKind.u64.wrap ((0 : Int) + ((0 : Nat) : Int)) = 0 := by decide
  have c2 : x * y < 4611686018427387904 := Nat.lt_of_le_of_lt (Nat.mul_le_mul (Nat.le_refl x) (by omega : y ≤ 3)) (by omega)
  have f11 : IntKind.u64.wrap ((x : Int) * (y : Int)) = ((x * y : Nat) : Int) := by rw [← Int.natCast_mul]; exact wrapU (by omega)
  generalize ((x * y : Nat) : Int) = r at f11 ⊢
  generalize hz : ((0 : Nat) : Int) = z at *
  clear hx c2
  refine pure_of_tr Tryd.func90 rfl (Nat.le_of_ble_eq_true rfl) rfl fun E hE hP => ?_
  first | refine tr_seq_region (by rw [hE]; rfl) ?_ | (refine Tr.seq ?_; refine tr_seq_region (by rw [hE]; rfl) ?_)
  repeat (refine vc_op rfl ?_; simp only [go_sem, ↓Nat.reduceBEq, ↓Nat.reduceAdd, ↓Nat.reduceSub, ↓Nat.reduceMul, ↓Nat.reduceEqDiff, ↓Nat.reducePow, ↓Nat.reduceLeDiff, ↓Nat.reduceLT, ↓Int.reduceLE, ↓Int.reduceLT, ↓reduceIte, ↓reduceCtorEq])
  refine vc_nil ?_
  first | apply tr_m (by rw [hE]; rfl) | (refine Tr.seq ?_; apply tr_m (by rw [hE]; rfl))
  intro Q hQ
  simp only [go_sem, seval]
  iterate 3 ((refine vm_op ?_); intro r hr; simp only [f1, go_sem, ↓Nat.reduceBEq, ↓Nat.reduceAdd, ↓Nat.reduceSub, ↓Nat.reduceMul, ↓Nat.reduceEqDiff, ↓Nat.reducePow, ↓Nat.reduceLeDiff, ↓Nat.reduceLT, ↓Int.reduceLE, ↓Int.reduceLT, ↓reduceIte, ↓reduceCtorEq]; subst hr)
  exact hQ
  first | apply tr_m (by rw [hE]; rfl) | (refine Tr.seq ?_; apply tr_m (by rw [hE]; rfl))
  intro Q hQ
  simp only [go_sem, seval]
  iterate 3 ((refine vm_op ?_); intro r hr; simp only [f2, go_sem, ↓Nat.reduceBEq, ↓Nat.reduceAdd, ↓Nat.reduceSub, ↓Nat.reduceMul, ↓Nat.reduceEqDiff, ↓Nat.reducePow, ↓Nat.reduceLeDiff, ↓Nat.reduceLT, ↓Int.reduceLE, ↓Int.reduceLT, ↓reduceIte, ↓reduceCtorEq]; subst hr)
  exact hQ
  first | apply tr_m (by rw [hE]; rfl) | (refine Tr.seq ?_; apply tr_m (by rw [hE]; rfl))
  intro Q hQ
  simp only [go_sem, seval]
  iterate 3 ((refine vm_op ?_); intro r hr; simp only [f3, go_sem, ↓Nat.reduceBEq, ↓Nat.reduceAdd, ↓Nat.reduceSub, ↓Nat.reduceMul, ↓Nat.reduceEqDiff, ↓Nat.reducePow, ↓Nat.reduceLeDiff, ↓Nat.reduceLT, ↓Int.reduceLE, ↓Int.reduceLT, ↓reduceIte, ↓reduceCtorEq]; subst hr)
  exact hQ
  first | apply tr_m (by rw [hE]; rfl) | (refine Tr.seq ?_; apply tr_m (by rw [hE]; rfl))
  intro Q hQ
  simp only [go_sem, seval]
  iterate 3 ((refine vm_op ?_); intro r hr; simp only [f4, go_sem, ↓Nat.reduceBEq, ↓Nat.reduceAdd, ↓Nat.reduceSub, ↓Nat.reduceMul, ↓Nat.reduceEqDiff, ↓Nat.reducePow, ↓Nat.reduceLeDiff, ↓Nat.reduceLT, ↓Int.reduceLE, ↓Int.reduceLT, ↓reduceIte, ↓reduceCtorEq]; subst hr)
  exact hQ
  first | apply tr_m (by rw [hE]; rfl) | (refine Tr.seq ?_; apply tr_m (by rw [hE]; rfl))
  intro Q hQ
  simp only [go_sem, seval]
  iterate 4 ((refine vm_op ?_); intro r hr; simp only [f5, go_sem, ↓Nat.reduceBEq, ↓Nat.reduceAdd, ↓Nat.reduceSub, ↓Nat.reduceMul, ↓Nat.reduceEqDiff, ↓Nat.reducePow, ↓Nat.reduceLeDiff, ↓Nat.reduceLT, ↓Int.reduceLE, ↓Int.reduceLT, ↓reduceIte, ↓reduceCtorEq]; subst hr)
  exact hQ
  first | apply tr_m (by rw [hE]; rfl) | (refine Tr.seq ?_; apply tr_m (by rw [hE]; rfl))
  intro Q hQ
  simp only [go_sem, seval]
  iterate 7 ((refine vm_op ?_); intro r hr; simp only [f6, f7, f8, go_sem, ↓Nat.reduceBEq, ↓Nat.reduceAdd, ↓Nat.reduceSub, ↓Nat.reduceMul, ↓Nat.reduceEqDiff, ↓Nat.reducePow, ↓Nat.reduceLeDiff, ↓Nat.reduceLT, ↓Int.reduceLE, ↓Int.reduceLT, ↓reduceIte, ↓reduceCtorEq]; subst hr)
  exact hQ
  first | apply tr_m (by rw [hE]; rfl) | (refine Tr.seq ?_; apply tr_m (by rw [hE]; rfl))
  intro Q hQ
  simp only [go_sem, seval]
  iterate 3 ((refine vm_op ?_); intro r hr; simp only [f9, go_sem, ↓Nat.reduceBEq, ↓Nat.reduceAdd, ↓Nat.reduceSub, ↓Nat.reduceMul, ↓Nat.reduceEqDiff, ↓Nat.reducePow, ↓Nat.reduceLeDiff, ↓Nat.reduceLT, ↓Int.reduceLE, ↓Int.reduceLT, ↓reduceIte, ↓reduceCtorEq]; subst hr)
  exact hQ
  first | apply tr_m (by rw [hE]; rfl) | (refine Tr.seq ?_; apply tr_m (by rw [hE]; rfl))
  intro Q hQ
  simp only [go_sem, seval]
  iterate 3 ((refine vm_op ?_); intro r hr; simp only [f10, go_sem, ↓Nat.reduceBEq, ↓Nat.reduceAdd, ↓Nat.reduceSub, ↓Nat.reduceMul, ↓Nat.reduceEqDiff, ↓Nat.reducePow, ↓Nat.reduceLeDiff, ↓Nat.reduceLT, ↓Int.reduceLE, ↓Int.reduceLT, ↓reduceIte, ↓reduceCtorEq]; subst hr)
  exact hQ
  first | apply tr_m (by rw [hE]; rfl) | (refine Tr.seq ?_; apply tr_m (by rw [hE]; rfl))
  intro Q hQ
  simp only [go_sem, seval]
  iterate 6 ((refine vm_op ?_); intro r hr; simp only [z1, z3, go_sem, ↓Nat.reduceBEq, ↓Nat.reduceAdd, ↓Nat.reduceSub, ↓Nat.reduceMul, ↓Nat.reduceEqDiff, ↓Nat.reducePow, ↓Nat.reduceLeDiff, ↓Nat.reduceLT, ↓Int.reduceLE, ↓Int.reduceLT, ↓reduceIte, ↓reduceCtorEq]; subst hr)
  exact hQ
  first | apply tr_m (by rw [hE]; rfl) | (refine Tr.seq ?_; apply tr_m (by rw [hE]; rfl))
  intro Q hQ
  simp only [go_sem, seval]
  iterate 9 ((refine vm_op ?_); intro r hr; simp only [z2, z4, f10, go_sem, ↓Nat.reduceBEq, ↓Nat.reduceAdd, ↓Nat.reduceSub, ↓Nat.reduceMul, ↓Nat.reduceEqDiff, ↓Nat.reducePow, ↓Nat.reduceLeDiff, ↓Nat.reduceLT, ↓Int.reduceLE, ↓Int.reduceLT, ↓reduceIte, ↓reduceCtorEq]; subst hr)
  exact hQ
  first | apply tr_m (by rw [hE]; rfl) | (refine Tr.seq ?_; apply tr_m (by rw [hE]; rfl))
  intro Q hQ
  simp only [go_sem, seval]
  iterate 4 ((refine vm_op ?_); intro r hr; simp only [f11, go_sem, ↓Nat.reduceBEq, ↓Nat.reduceAdd, ↓Nat.reduceSub, ↓Nat.reduceMul, ↓Nat.reduceEqDiff, ↓Nat.reducePow, ↓Nat.reduceLeDiff, ↓Nat.reduceLT, ↓Int.reduceLE, ↓Int.reduceLT, ↓reduceIte, ↓reduceCtorEq]; subst hr)
  exact hQ
  refine Tr.ret ?_
  simp only [Tryd.f90, go_sem, ↓Nat.reduceBEq, ↓Nat.reduceAdd, ↓Nat.reduceSub, ↓Nat.reduceMul, ↓Nat.reduceEqDiff, ↓Nat.reducePow, ↓Nat.reduceLeDiff, ↓Nat.reduceLT, ↓Int.reduceLE, ↓Int.reduceLT, ↓reduceIte, ↓reduceCtorEq]

end Go.Proofs.YtdlejnafhmpobaaDoor

/- Two thirds, and one third. -/
set_option linter.unusedSimpArgs false
set_option maxRecDepth 10000
namespace Go.Proofs.YtdlejnafhmpobaaDoor
open Go Go.Ab

def wav (a b : Int) : AV := .arr [.int .u64 a, .int .u64 b]
@[go_sem] theorem wav_len (a b : Int) : (wav a b).len = 2 := rfl
@[go_sem] theorem wav_agg (a b : Int) : (wav a b).agg = true := rfl
@[go_sem] theorem wav_idf (a b : Int) : (wav a b).idf = true := rfl
@[go_sem] theorem wav_ok (a b : Int) : (wav a b).ok = true := rfl
@[go_sem] theorem wav_flat (a b : Int) : (wav a b).flat = true := rfl
@[go_sem] theorem wav_frz (hp : HP) (a b : Int) : (wav a b).frz hp = wav a b := rfl
@[go_sem] theorem wav_idL (a b : Int) : (wav a b).idL = [] := rfl
@[go_sem] theorem wav_ren (ρ : Nat → Nat) (a b : Int) : (wav a b).ren ρ = wav a b := rfl
@[go_sem] theorem und103 : Tryd.prog.underlying 103 = some (.array 2 28) := Tryd.underlying103
@[go_sem] theorem tArr103 : tArr Tryd.prog 103 = some (2, 28) := by kernel_rfl
@[go_sem] theorem tSize103 : tSize Tryd.prog 103 = some 2 := by kernel_rfl
@[go_sem] theorem tAgg103 : tAgg Tryd.prog 103 = some true := by kernel_rfl
@[go_sem] theorem tZero103 : tZero Tryd.prog 103 = some (wav 0 0) := by kernel_rfl
@[go_sem] theorem build103 (a b : Int) (K : AV → Prop) : buildK Tryd.prog 103 [(0, .int .u64 a), (1, .int .u64 b)] K = K (wav a b) := by
  simp only [buildK, und103, tZero103, wav]
  apply propext
  constructor
  · rintro ⟨sz, _, _, _, h⟩; exact h
  · intro h; exact ⟨1, by kernel_rfl, by simp [AV.len], rfl, h⟩
@[go_sem] theorem wav_sub0 (a b : Int) : (wav a b).sub [0] = some (.int .u64 a) := rfl
@[go_sem] theorem wav_sub1 (a b : Int) : (wav a b).sub [1] = some (.int .u64 b) := rfl
@[go_sem] theorem wav_offs0 (a b : Int) : (wav a b).offs [0] = some 0 := rfl
@[go_sem] theorem wav_offs1 (a b : Int) : (wav a b).offs [1] = some 1 := rfl
theorem arr103 (a b : Int) : arrInts Tryd.prog 103 [.int .u64 a, .int .u64 b] = some [a, b] := by
  have h1 : Tryd.prog.underlying 28 = some (.int .u64) := Tryd.underlying28
  have h2 : tSize Tryd.prog 28 = some 1 := by kernel_rfl
  simp only [arrInts, und103, h1, h2, List.length_cons, List.length_nil, and_self, if_true, intsOf, Option.map_some]
theorem guard103 : Tryd.prog.eqGuardType Tryd.prog.depth 103 = false := by kernel_rfl
@[go_sem] theorem eql103 (a b c d : Int) (K : AV → Prop) : binK Tryd.prog .eql 103 (wav a b) (wav c d) K = K (.bool ([a, b] == [c, d])) := by
  simp only [wav, binK, arr103, guard103, true_and]
theorem wav_0 (a b : Int) : nth [AV.int .u64 a, .int .u64 b] 0 = some (.int .u64 a) := rfl
theorem wav_1 (a b : Int) : nth [AV.int .u64 a, .int .u64 b] 1 = some (.int .u64 b) := rfl

theorem pz0 : ((0 : Int) < ((2 : Nat) : Int)) = True := by simp
theorem pz1 : ((1 : Int) < ((2 : Nat) : Int)) = True := by simp

theorem times_pure (x y : Nat) (hx : x < 1152921504606846976) (hy : y < 4) : Pure Tryd.prog 76 [.int .u64 x, .int .u64 y] (wav 0 (x * y : Nat)) := by
  have hm := mul_pure x y hx hy
  generalize ((x * y : Nat) : Int) = p at hm ⊢
  refine pure_of_tr Tryd.func76 rfl (Nat.le_of_ble_eq_true rfl) rfl fun E hE hP => ?_
  first | refine tr_seq_region (by rw [hE]; rfl) ?_ | (refine Tr.seq ?_; refine tr_seq_region (by rw [hE]; rfl) ?_)
  repeat (refine vc_op rfl ?_; simp only [go_sem, seval])
  refine vc_nil ?_
  first | apply tr_m (by rw [hE]; rfl) | (refine Tr.seq ?_; apply tr_m (by rw [hE]; rfl))
  intro Q hQ
  simp only [go_sem, seval]
  iterate 2 ((refine vm_op ?_); intro r hr; simp only [go_sem, seval]; subst hr)
  (refine vm_op ?_); intro r hr; simp only [go_sem, seval]
  refine call_fn rfl rfl rfl rfl (enters_of Tryd.func90 (by kernel_rfl) rfl) (hm) rfl rfl rfl ?_
  simp only [go_sem, seval]
  subst hr
  iterate 5 ((refine vm_op ?_); intro r hr; simp only [go_sem, seval]; subst hr)
  exact hQ
  first | apply tr_m (by rw [hE]; rfl) | (refine Tr.seq ?_; apply tr_m (by rw [hE]; rfl))
  intro Q hQ
  simp only [go_sem, seval]
  iterate 4 ((refine vm_op ?_); intro r hr; simp only [go_sem, seval]; subst hr)
  exact hQ
  refine Tr.ret ?_
  simp only [Tryd.f76, go_sem, seval]

theorem least_pure (a b : Int) : Pure Tryd.prog 77 [wav 0 a, wav 0 b] (.bool (decide (b ≤ a))) := by
  refine pure_of_tr Tryd.func77 rfl (Nat.le_of_ble_eq_true rfl) rfl fun E hE hP => ?_
  first | refine tr_seq_region (by rw [hE]; rfl) ?_ | (refine Tr.seq ?_; refine tr_seq_region (by rw [hE]; rfl) ?_)
  repeat (refine vc_op rfl ?_; simp only [go_sem, seval])
  refine vc_nil ?_
  by_cases h1 : a = b
  · have er : decide (b ≤ a) = true := decide_eq_true (by omega)
    have e1 : ([0, a] == [0, b]) = true := by simp [h1]
    first | apply tr_m (by rw [hE]; rfl) | (refine Tr.seq ?_; apply tr_m (by rw [hE]; rfl))
    intro Q hQ
    simp only [go_sem, seval]
    iterate 4 ((refine vm_op ?_); intro r hr; simp only [e1, go_sem, seval]; subst hr)
    iterate 5 ((first | refine vm_if rfl ?_ | refine vm_no rfl ?_ | refine vm_skip rfl ?_); intro r hr; simp only [e1, go_sem, seval]; subst hr)
    iterate 2 ((refine vm_op ?_); intro r hr; simp only [e1, go_sem, seval]; subst hr)
    iterate 12 ((first | refine vm_if rfl ?_ | refine vm_no rfl ?_ | refine vm_skip rfl ?_); intro r hr; simp only [e1, go_sem, seval]; subst hr)
    iterate 2 ((refine vm_op ?_); intro r hr; simp only [e1, go_sem, seval]; subst hr)
    exact hQ
    refine Tr.ret ?_
    simp only [er, Tryd.f77, go_sem, seval]
  · have er : decide (b ≤ a) = decide (b < a) := decide_eq_decide.2 (by omega)
    have e1 : ([0, a] == [0, b]) = false := by simp [h1]
    first | apply tr_m (by rw [hE]; rfl) | (refine Tr.seq ?_; apply tr_m (by rw [hE]; rfl))
    intro Q hQ
    simp only [go_sem, seval]
    iterate 4 ((refine vm_op ?_); intro r hr; simp only [e1, go_sem, seval]; subst hr)
    iterate 5 ((first | refine vm_if rfl ?_ | refine vm_no rfl ?_ | refine vm_skip rfl ?_); intro r hr; simp only [pz0, pz1, Int.toNat_zero, Int.toNat_one, Nat.zero_mul, Nat.one_mul, go_sem, seval]; subst hr)
    iterate 2 ((refine vm_op ?_); intro r hr; simp only [pz0, pz1, Int.toNat_zero, Int.toNat_one, Nat.zero_mul, Nat.one_mul, go_sem, seval]; subst hr)
    iterate 12 ((first | refine vm_if rfl ?_ | refine vm_no rfl ?_ | refine vm_skip rfl ?_); intro r hr; simp only [pz0, pz1, Int.toNat_zero, Int.toNat_one, Nat.zero_mul, Nat.one_mul, go_sem, seval]; subst hr)
    iterate 2 ((refine vm_op ?_); intro r hr; simp only [pz0, pz1, Int.toNat_zero, Int.toNat_one, Nat.zero_mul, Nat.one_mul, go_sem, seval]; subst hr)
    exact hQ
    refine Tr.ret ?_
    simp only [er, Tryd.f77, go_sem, seval]

end Go.Proofs.YtdlejnafhmpobaaDoor

/- Two thirds, and one third, of numbers. -/
set_option linter.unusedSimpArgs false
set_option maxRecDepth 10000
namespace Go.Proofs.YtdlejnafhmpobaaDoor
open Go Go.Ab

theorem nmost_pure (a b : Nat) (ha : a < 1152921504606846976) (hb : b < 1152921504606846976) : Pure Tryd.prog 82 [.int .u64 a, .int .u64 b] (.bool (decide (2 * b ≤ 3 * a))) := by
  have h1 := times_pure a 3 ha (by omega)
  have h2 := times_pure b 2 hb (by omega)
  have h3 := least_pure ((a * 3 : Nat) : Int) ((b * 2 : Nat) : Int)
  have er : decide (2 * b ≤ 3 * a) = decide (((b * 2 : Nat) : Int) ≤ ((a * 3 : Nat) : Int)) := decide_eq_decide.2 (by omega)
  rw [er]
  generalize ((a * 3 : Nat) : Int) = p at h1 h3 ⊢
  generalize ((b * 2 : Nat) : Int) = q at h2 h3 ⊢
  refine pure_of_tr Tryd.func82 rfl (Nat.le_of_ble_eq_true rfl) rfl fun E hE hP => ?_
  first | refine tr_seq_region (by rw [hE]; rfl) ?_ | (refine Tr.seq ?_; refine tr_seq_region (by rw [hE]; rfl) ?_)
  repeat (refine vc_op rfl ?_; simp only [go_sem, seval])
  refine vc_nil ?_
  first | apply tr_m (by rw [hE]; rfl) | (refine Tr.seq ?_; apply tr_m (by rw [hE]; rfl))
  intro Q hQ
  simp only [go_sem, seval]
  (refine vm_op ?_); intro r hr; simp only [go_sem, seval]; subst hr
  (refine vm_op ?_); intro r hr; simp only [go_sem, seval]
  refine call_fn rfl rfl rfl rfl (enters_of Tryd.func76 (by kernel_rfl) rfl) (h1) rfl rfl rfl ?_
  simp only [go_sem, seval]
  subst hr
  (refine vm_op ?_); intro r hr; simp only [go_sem, seval]; subst hr
  (refine vm_op ?_); intro r hr; simp only [go_sem, seval]
  refine call_fn rfl rfl rfl rfl (enters_of Tryd.func76 (by kernel_rfl) rfl) (h2) rfl rfl rfl ?_
  simp only [go_sem, seval]
  subst hr
  (refine vm_op ?_); intro r hr; simp only [go_sem, seval]
  refine call_fn rfl rfl rfl rfl (enters_of Tryd.func77 (by kernel_rfl) rfl) (h3) rfl rfl rfl ?_
  simp only [go_sem, seval]
  subst hr
  (refine vm_op ?_); intro r hr; simp only [go_sem, seval]; subst hr
  exact hQ
  refine Tr.ret ?_
  simp only [Tryd.f82, go_sem, seval]
theorem nsome_pure (a b : Nat) (ha : a < 1152921504606846976) : Pure Tryd.prog 53 [.int .u64 a, .int .u64 b] (.bool (decide (b ≤ 3 * a))) := by
  have h1 := times_pure a 3 ha (by omega)
  have h3 := least_pure ((a * 3 : Nat) : Int) (b : Int)
  have er : decide (b ≤ 3 * a) = decide ((b : Int) ≤ ((a * 3 : Nat) : Int)) := decide_eq_decide.2 (by omega)
  rw [er]
  generalize ((a * 3 : Nat) : Int) = p at h1 h3 ⊢
  generalize (b : Int) = q at h3 ⊢
  refine pure_of_tr Tryd.func53 rfl (Nat.le_of_ble_eq_true rfl) rfl fun E hE hP => ?_
  first | refine tr_seq_region (by rw [hE]; rfl) ?_ | (refine Tr.seq ?_; refine tr_seq_region (by rw [hE]; rfl) ?_)
  repeat (refine vc_op rfl ?_; simp only [go_sem, seval])
  refine vc_nil ?_
  first | apply tr_m (by rw [hE]; rfl) | (refine Tr.seq ?_; apply tr_m (by rw [hE]; rfl))
  intro Q hQ
  simp only [go_sem, seval]
  (refine vm_op ?_); intro r hr; simp only [go_sem, seval]; subst hr
  (refine vm_op ?_); intro r hr; simp only [go_sem, seval]
  refine call_fn rfl rfl rfl rfl (enters_of Tryd.func76 (by kernel_rfl) rfl) (h1) rfl rfl rfl ?_
  simp only [go_sem, seval]
  subst hr
  iterate 2 ((refine vm_op ?_); intro r hr; simp only [go_sem, seval]; subst hr)
  (refine vm_op ?_); intro r hr; simp only [go_sem, seval]
  refine call_fn rfl rfl rfl rfl (enters_of Tryd.func77 (by kernel_rfl) rfl) (h3) rfl rfl rfl ?_
  simp only [go_sem, seval]
  subst hr
  (refine vm_op ?_); intro r hr; simp only [go_sem, seval]; subst hr
  exact hQ
  refine Tr.ret ?_
  simp only [Tryd.f53, go_sem, seval]

theorem n3 : (¬ (3 : Int) = 0) = True := by simp
theorem need_pure (w : Nat) (hw : w < 1152921504606846976) : Pure Tryd.prog 96 [.int .u64 w] (.int .u64 ((2 * w + 2) / 3 : Nat)) := by
  have q1 : IntKind.u64.wrap ((w : Int).tdiv 3) = ((w / 3 : Nat) : Int) := by
    have e : (w : Int).tdiv 3 = ((w / 3 : Nat) : Int) := rfl
    rw [e]; exact wrapU (by omega)
  have q2 : IntKind.u64.wrap (2 * ((w / 3 : Nat) : Int)) = ((2 * (w / 3) : Nat) : Int) := by
    have e : 2 * ((w / 3 : Nat) : Int) = ((2 * (w / 3) : Nat) : Int) := by omega
    rw [e]; exact wrapU (by omega)
  have q3 : (w : Int).tmod 3 = ((w % 3 : Nat) : Int) := rfl
  obtain ⟨p, hp⟩ : ∃ p : Nat, 2 * (w / 3) = p := ⟨_, rfl⟩
  obtain ⟨d, hd⟩ : ∃ d : Nat, w / 3 = d := ⟨_, rfl⟩
  obtain ⟨m, hm⟩ : ∃ m : Nat, w % 3 = m := ⟨_, rfl⟩
  have hm3 : m < 3 := by omega
  by_cases h1 : m = 1
  · have er : (2 * w + 2) / 3 = p + 1 := by omega
    have e1 : ((m : Int) == 1) = true := by rw [int_beq]; exact decide_eq_true (by omega)
    have q4 : IntKind.u64.wrap ((p : Int) + 1) = ((p + 1 : Nat) : Int) := wrapU (n := p + 1) (by omega)
    rw [hp, hd] at q2
    rw [hd] at q1
    rw [hm] at q3
    rw [er]
    clear hw hp hd hm er
    refine pure_of_tr Tryd.func96 rfl (Nat.le_of_ble_eq_true rfl) rfl fun E hE hP => ?_
    first | refine tr_seq_region (by rw [hE]; rfl) ?_ | (refine Tr.seq ?_; refine tr_seq_region (by rw [hE]; rfl) ?_)
    repeat (refine vc_op rfl ?_; simp only [go_sem, seval])
    refine vc_nil ?_
    first | refine tr_seq_region (by rw [hE]; rfl) ?_ | (refine Tr.seq ?_; refine tr_seq_region (by rw [hE]; rfl) ?_)
    repeat (refine vc_op rfl ?_; simp only [n3, q1, q2, go_sem, seval])
    refine vc_nil ?_
    first | refine tr_seq_region (by rw [hE]; rfl) ?_ | (refine Tr.seq ?_; refine tr_seq_region (by rw [hE]; rfl) ?_)
    repeat (refine vc_op rfl ?_; simp only [n3, q3, e1, go_sem, seval])
    refine vc_nil ?_
    first | refine Tr.cond (b := true) rfl (fun _ => ?_) (fun h => by cases h) | refine Tr.seq (Tr.cond (b := true) rfl (fun _ => ?_) (fun h => by cases h))
    first | refine tr_seq_region (by rw [hE]; rfl) ?_ | (refine Tr.seq ?_; refine tr_seq_region (by rw [hE]; rfl) ?_)
    repeat (refine vc_op rfl ?_; simp only [q4, go_sem, seval])
    refine vc_nil ?_
    refine Tr.ret ?_
    simp only [Tryd.f96, go_sem, seval]
  · have e1 : ((m : Int) == 1) = false := by rw [int_beq]; exact decide_eq_false (by omega)
    by_cases h2 : m = 2
    · have er : (2 * w + 2) / 3 = p + 2 := by omega
      have e2 : ((m : Int) == 2) = true := by rw [int_beq]; exact decide_eq_true (by omega)
      have q4 : IntKind.u64.wrap ((p : Int) + 2) = ((p + 2 : Nat) : Int) := wrapU (n := p + 2) (by omega)
      rw [hp, hd] at q2
      rw [hd] at q1
      rw [hm] at q3
      rw [er]
      clear hw hp hd hm er
      refine pure_of_tr Tryd.func96 rfl (Nat.le_of_ble_eq_true rfl) rfl fun E hE hP => ?_
      first | refine tr_seq_region (by rw [hE]; rfl) ?_ | (refine Tr.seq ?_; refine tr_seq_region (by rw [hE]; rfl) ?_)
      repeat (refine vc_op rfl ?_; simp only [go_sem, seval])
      refine vc_nil ?_
      first | refine tr_seq_region (by rw [hE]; rfl) ?_ | (refine Tr.seq ?_; refine tr_seq_region (by rw [hE]; rfl) ?_)
      repeat (refine vc_op rfl ?_; simp only [n3, q1, q2, go_sem, seval])
      refine vc_nil ?_
      first | refine tr_seq_region (by rw [hE]; rfl) ?_ | (refine Tr.seq ?_; refine tr_seq_region (by rw [hE]; rfl) ?_)
      repeat (refine vc_op rfl ?_; simp only [n3, q3, e1, go_sem, seval])
      refine vc_nil ?_
      first | refine Tr.cond rfl (fun h => by cases h) (fun _ => ?_) | refine Tr.seq (Tr.cond rfl (fun h => by cases h) (fun _ => ?_))
      refine Tr.skip ?_
      try simp only [blockK, thenK, ↓reduceIte]
      first | refine tr_seq_region (by rw [hE]; rfl) ?_ | (refine Tr.seq ?_; refine tr_seq_region (by rw [hE]; rfl) ?_)
      repeat (refine vc_op rfl ?_; simp only [n3, q3, e2, go_sem, seval])
      refine vc_nil ?_
      first | refine Tr.cond (b := true) rfl (fun _ => ?_) (fun h => by cases h) | refine Tr.seq (Tr.cond (b := true) rfl (fun _ => ?_) (fun h => by cases h))
      first | refine tr_seq_region (by rw [hE]; rfl) ?_ | (refine Tr.seq ?_; refine tr_seq_region (by rw [hE]; rfl) ?_)
      repeat (refine vc_op rfl ?_; simp only [q4, go_sem, seval])
      refine vc_nil ?_
      refine Tr.ret ?_
      simp only [Tryd.f96, go_sem, seval]
    · have er : (2 * w + 2) / 3 = p := by omega
      have e2 : ((m : Int) == 2) = false := by rw [int_beq]; exact decide_eq_false (by omega)
      rw [hp, hd] at q2
      rw [hd] at q1
      rw [hm] at q3
      rw [er]
      clear hw hp hd hm er
      refine pure_of_tr Tryd.func96 rfl (Nat.le_of_ble_eq_true rfl) rfl fun E hE hP => ?_
      first | refine tr_seq_region (by rw [hE]; rfl) ?_ | (refine Tr.seq ?_; refine tr_seq_region (by rw [hE]; rfl) ?_)
      repeat (refine vc_op rfl ?_; simp only [go_sem, seval])
      refine vc_nil ?_
      first | refine tr_seq_region (by rw [hE]; rfl) ?_ | (refine Tr.seq ?_; refine tr_seq_region (by rw [hE]; rfl) ?_)
      repeat (refine vc_op rfl ?_; simp only [n3, q1, q2, go_sem, seval])
      refine vc_nil ?_
      first | refine tr_seq_region (by rw [hE]; rfl) ?_ | (refine Tr.seq ?_; refine tr_seq_region (by rw [hE]; rfl) ?_)
      repeat (refine vc_op rfl ?_; simp only [n3, q3, e1, go_sem, seval])
      refine vc_nil ?_
      first | refine Tr.cond rfl (fun h => by cases h) (fun _ => ?_) | refine Tr.seq (Tr.cond rfl (fun h => by cases h) (fun _ => ?_))
      refine Tr.skip ?_
      try simp only [blockK, thenK, ↓reduceIte]
      first | refine tr_seq_region (by rw [hE]; rfl) ?_ | (refine Tr.seq ?_; refine tr_seq_region (by rw [hE]; rfl) ?_)
      repeat (refine vc_op rfl ?_; simp only [n3, q3, e2, go_sem, seval])
      refine vc_nil ?_
      first | refine Tr.cond rfl (fun h => by cases h) (fun _ => ?_) | refine Tr.seq (Tr.cond rfl (fun h => by cases h) (fun _ => ?_))
      refine Tr.skip ?_
      try simp only [blockK, thenK, ↓reduceIte]
      first | refine tr_seq_region (by rw [hE]; rfl) ?_ | (refine Tr.seq ?_; refine tr_seq_region (by rw [hE]; rfl) ?_)
      repeat (refine vc_op rfl ?_; simp only [go_sem, seval])
      refine vc_nil ?_
      refine Tr.ret ?_
      simp only [Tryd.f96, go_sem, seval]
theorem refnmost_pure (a b : Nat) (hb : b < 1152921504606846976) : Pure Tryd.prog 84 [.int .u64 a, .int .u64 b] (.bool (decide (2 * b ≤ 3 * a))) := by
  have h1 := need_pure b hb
  have er : decide (2 * b ≤ 3 * a) = decide ((((2 * b + 2) / 3 : Nat) : Int) ≤ (a : Int)) := decide_eq_decide.2 (by omega)
  rw [er]
  generalize (((2 * b + 2) / 3 : Nat) : Int) = p at h1 ⊢
  refine pure_of_tr Tryd.func84 rfl (Nat.le_of_ble_eq_true rfl) rfl fun E hE hP => ?_
  first | refine tr_seq_region (by rw [hE]; rfl) ?_ | (refine Tr.seq ?_; refine tr_seq_region (by rw [hE]; rfl) ?_)
  repeat (refine vc_op rfl ?_; simp only [go_sem, seval])
  refine vc_nil ?_
  first | apply tr_m (by rw [hE]; rfl) | (refine Tr.seq ?_; apply tr_m (by rw [hE]; rfl))
  intro Q hQ
  simp only [go_sem, seval]
  iterate 2 ((refine vm_op ?_); intro r hr; simp only [go_sem, seval]; subst hr)
  (refine vm_op ?_); intro r hr; simp only [go_sem, seval]
  refine call_fn rfl rfl rfl rfl (enters_of Tryd.func96 (by kernel_rfl) rfl) (h1) rfl rfl rfl ?_
  simp only [go_sem, seval]
  subst hr
  iterate 2 ((refine vm_op ?_); intro r hr; simp only [go_sem, seval]; subst hr)
  exact hQ
  refine Tr.ret ?_
  simp only [Tryd.f84, go_sem, seval]

end Go.Proofs.YtdlejnafhmpobaaDoor

/- Checkpoints, and what is simple about bytes. -/
import Derived.Test.YtdlejnafhmpobaaDoorAbFour
import Derived.Test.YtdlejnafhmpobaaDoorProg
set_option linter.unusedSimpArgs false
namespace Go.Proofs.YtdlejnafhmpobaaDoor
open Go Go.Ab

structure Check where
  epoch : Int
  root : Root
  deriving DecidableEq
def Check.av (a : Check) : AV := .st [.int .u64 a.epoch, .root a.root]
@[go_sem] theorem Check.av_flat (a : Check) : a.av.flat = true := rfl
@[go_sem] theorem Check.av_len (a : Check) : a.av.len = 33 := rfl
@[go_sem] theorem Check.av_agg (a : Check) : a.av.agg = true := rfl
@[go_sem] theorem Check.av_idf (a : Check) : a.av.idf = true := rfl
@[go_sem] theorem Check.av_ok (a : Check) : a.av.ok = true := rfl
@[go_sem] theorem Check.av_frz (hp : HP) (a : Check) : a.av.frz hp = a.av := rfl
@[go_sem] theorem Check.av_idL (a : Check) : a.av.idL = [] := rfl
@[go_sem] theorem Check.av_ren (ρ : Nat → Nat) (a : Check) : a.av.ren ρ = a.av := rfl
theorem tField28_0 : tFieldI Tryd.prog 32 0 = some (0, 1, false) := by kernel_rfl
@[go_sem] theorem fap28_0 (o : Nat) (p : List Nat) (off : Nat) (K : AV → Prop) : fieldAddrK Tryd.prog 32 (.ptr o p off) 0 K = K (.ptr o (p ++ [0]) (off + 0)) := fieldAddr_ptr tField28_0 (by decide) o p off K
@[go_sem] theorem far28_0 (a : Check) (K : AV → Prop) : fieldAddrK Tryd.prog 32 (.ref a.av) 0 K = K (.ref (.int .u64 a.epoch)) := fieldAddr_ref tField28_0 (by decide) rfl rfl K
@[go_sem] theorem sub28_0 (a : Check) : a.av.sub [0] = some (.int .u64 a.epoch) := rfl
@[go_sem] theorem offs28_0 (a : Check) : a.av.offs [0] = some 0 := rfl
@[go_sem] theorem upd28_0 (a : Check) (x : Int) : a.av.upd [0] (.int .u64 x) = some ({ a with epoch := x } : Check).av := rfl
theorem tField28_1 : tFieldI Tryd.prog 32 1 = some (1, 32, true) := by kernel_rfl
@[go_sem] theorem fap28_1 (o : Nat) (p : List Nat) (off : Nat) (K : AV → Prop) : fieldAddrK Tryd.prog 32 (.ptr o p off) 1 K = K (.ptr o (p ++ [1]) (off + 1)) := fieldAddr_ptr tField28_1 (by decide) o p off K
@[go_sem] theorem far28_1 (a : Check) (K : AV → Prop) : fieldAddrK Tryd.prog 32 (.ref a.av) 1 K = K (.ref (.root a.root)) := fieldAddr_ref tField28_1 (by decide) rfl rfl K
@[go_sem] theorem sub28_1 (a : Check) : a.av.sub [1] = some (.root a.root) := rfl
@[go_sem] theorem offs28_1 (a : Check) : a.av.offs [1] = some 1 := rfl
@[go_sem] theorem upd28_1 (a : Check) (x : Root) : a.av.upd [1] (.root x) = some ({ a with root := x } : Check).av := rfl
@[go_sem] theorem tSize28 : tSize Tryd.prog 32 = some 33 := by kernel_rfl
@[go_sem] theorem tAgg28 : tAgg Tryd.prog 32 = some true := by kernel_rfl
def zCheck : Check := ⟨0, zroot⟩
@[go_sem] theorem tZero28 : tZero Tryd.prog 32 = some zCheck.av := by kernel_rfl
theorem Check.eqb (a b : Check) : a.av.eqb b.av = decide (a = b) := by
  cases a; cases b
  simp only [Check.av, AV.eqb, AV.eqbL, int_beq, Check.mk.injEq, Bool.decide_and, Bool.and_true]
theorem fits28 (a : Check) : fits Tryd.prog a.av 32 = true := by kernel_rfl
theorem depth28 (a : Check) : a.av.depth ≤ 9999 := Nat.le_of_ble_eq_true rfl
@[go_sem] theorem eql28 (a b : Check) (K : AV → Prop) : binK Tryd.prog .eql 32 a.av b.av K = K (.bool (decide (a = b))) :=
  bin_eql_of (fun _ _ h => by cases h) (fun _ h => by cases h) (fits28 a) (fits28 b) (depth28 a) (by kernel_rfl) (Check.eqb a b) K
@[go_sem] theorem neq28 (a b : Check) (K : AV → Prop) : binK Tryd.prog .neq 32 a.av b.av K = K (.bool !(decide (a = b))) :=
  bin_neq_of (fun _ _ h => by cases h) (fun _ h => by cases h) (fits28 a) (fits28 b) (depth28 a) (by kernel_rfl) (Check.eqb a b) K
@[go_sem] theorem build28_all (epoch : Int) (root : Root) (K : AV → Prop) : buildK Tryd.prog 32 [(0, .int .u64 epoch), (1, .root root)] K = K (Check.mk epoch root).av := build_struct Tryd.underlying32 tZero28 rfl (by kernel_rfl) rfl K

theorem mixed : Tryd.prog.follows .mixedOrders = true := by kernel_rfl
@[go_sem] theorem und5 : Tryd.prog.underlying 5 = some (.int .u8) := Tryd.underlying5
@[go_sem] theorem und24 : Tryd.prog.underlying 28 = some (.int .u64) := Tryd.underlying28
@[go_sem] theorem und31 : Tryd.prog.underlying 115 = some (.slice 5) := Tryd.underlying115
@[go_sem] theorem und48 : Tryd.prog.underlying 26 = some (.slice 28) := Tryd.underlying26
@[go_sem] theorem und3 : Tryd.prog.underlying 3 = some (.int .i64) := Tryd.underlying3
@[go_sem] theorem tSize5 : tSize Tryd.prog 5 = some 1 := by kernel_rfl
@[go_sem] theorem tAgg5 : tAgg Tryd.prog 5 = some false := by kernel_rfl
@[go_sem] theorem tBytes5 : tBytes Tryd.prog 5 = some 1 := by kernel_rfl
@[go_sem] theorem tZero5 : tZero Tryd.prog 5 = some (.int .u8 0) := by kernel_rfl
@[go_sem] theorem tSize24 : tSize Tryd.prog 28 = some 1 := by kernel_rfl
@[go_sem] theorem tAgg24 : tAgg Tryd.prog 28 = some false := by kernel_rfl
@[go_sem] theorem tBytes24 : tBytes Tryd.prog 28 = some 8 := by kernel_rfl
@[go_sem] theorem tZero24 : tZero Tryd.prog 28 = some (.int .u64 0) := by kernel_rfl
@[go_sem] theorem tSize23 : tSize Tryd.prog 30 = some 32 := by kernel_rfl
@[go_sem] theorem tAgg23 : tAgg Tryd.prog 30 = some true := by kernel_rfl
@[go_sem] theorem tBytes23 : tBytes Tryd.prog 30 = some 32 := by kernel_rfl
@[go_sem] theorem tZero23 : tZero Tryd.prog 30 = some (.root zroot) := by kernel_rfl
@[go_sem] theorem tArr23 : tArr Tryd.prog 30 = some (32, 5) := by kernel_rfl
@[go_sem] theorem tSize31 : tSize Tryd.prog 115 = some 1 := by kernel_rfl
@[go_sem] theorem tAgg31 : tAgg Tryd.prog 115 = some false := by kernel_rfl
@[go_sem] theorem tElem31 : tElem Tryd.prog 115 = some 5 := by kernel_rfl
@[go_sem] theorem tElem48 : tElem Tryd.prog 26 = some 28 := by kernel_rfl
@[go_sem] theorem tSize3 : tSize Tryd.prog 3 = some 1 := by kernel_rfl
@[go_sem] theorem tAgg3 : tAgg Tryd.prog 3 = some false := by kernel_rfl
@[go_sem] theorem conv24_5 (hp : HP) (n : Int) (K : AV → Prop) : convK Tryd.prog 28 5 hp (.int .u64 n) K = K (.int .u8 (IntKind.u8.wrap n)) := by simp only [convK, und24, und5]
@[go_sem] theorem conv5_24 (hp : HP) (n : Int) (K : AV → Prop) : convK Tryd.prog 5 28 hp (.int .u8 n) K = K (.int .u64 (IntKind.u64.wrap n)) := by simp only [convK, und24, und5]
@[go_sem] theorem conv3_5 (hp : HP) (n : Int) (K : AV → Prop) : convK Tryd.prog 3 5 hp (.int .i64 n) K = K (.int .u8 (IntKind.u8.wrap n)) := by simp only [convK, und3, und5]
@[go_sem] theorem conv5_3 (hp : HP) (n : Int) (K : AV → Prop) : convK Tryd.prog 5 3 hp (.int .u8 n) K = K (.int .i64 (IntKind.i64.wrap n)) := by simp only [convK, und3, und5]

def bav (b : UInt8) : AV := .int .u8 b.toNat
@[go_sem] theorem bav_len (b : UInt8) : (bav b).len = 1 := rfl
@[go_sem] theorem bav_agg (b : UInt8) : (bav b).agg = false := rfl
@[go_sem] theorem bav_ok (b : UInt8) : (bav b).ok = true := rfl
@[go_sem] theorem bav_idf (b : UInt8) : (bav b).idf = true := rfl
def bytes (l : List UInt8) : AV := .sl (l.map bav) false
@[go_sem] theorem bytes_idL (l : List UInt8) : (bytes l).idL = [] := rfl
@[go_sem] theorem bytes_frz (hp : HP) (l : List UInt8) : (bytes l).frz hp = bytes l := rfl
@[go_sem] theorem bytes_flat (l : List UInt8) : (bytes l).flat = false := rfl
@[go_sem] theorem bytes_ok (l : List UInt8) : (bytes l).ok = true := rfl
@[go_sem] theorem bytes_idf (l : List UInt8) : (bytes l).idf = true := rfl
theorem sliceK_hi {P : Program} {t e : TypeId} {xs : List AV} {clip : Bool} {k : Nat} {K : AV → Prop} (he : tElem P t = some e) (hz : (tSize P e).isSome = true) (hs : ∀ y ∈ xs, tSize P e = some y.len) (hk : k ≤ xs.length)
    (h : K (.sl (xs.take k) (clip && decide (k = xs.length)))) : sliceK P t (.sl xs clip) none (some (.int .i64 k)) none K := by
  simp only [sliceK, he, boundOf, Int.natCast_nonneg, if_true, Int.toNat_natCast, Nat.zero_le, true_and, List.drop_zero]
  exact ⟨hk, hz, hs, h⟩
theorem sliceK_lo {P : Program} {t e : TypeId} {xs : List AV} {clip : Bool} {k : Nat} {K : AV → Prop} (he : tElem P t = some e) (hz : (tSize P e).isSome = true) (hs : ∀ y ∈ xs, tSize P e = some y.len) (hk : k ≤ xs.length)
    (h : K (.sl (xs.drop k) clip)) : sliceK P t (.sl xs clip) (some (.int .i64 k)) none none K := by
  simp only [sliceK, he, boundOf, Int.natCast_nonneg, if_true, Int.toNat_natCast, List.take_length, decide_true, Bool.and_true]
  exact ⟨hk, Nat.le_refl _, hz, hs, h⟩
theorem size_bav (l : List UInt8) : ∀ y ∈ l.map bav, tSize Tryd.prog 5 = some y.len := fun y hy => by
  obtain ⟨b, _, rfl⟩ := List.mem_map.1 hy
  exact tSize5
theorem lens_bav (l : List UInt8) : ∀ z ∈ l.map bav, z.len = 1 := fun z hz => by
  obtain ⟨a, _, rfl⟩ := List.mem_map.1 hz
  rfl

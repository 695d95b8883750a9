/- Two thirds, and one third. -/
import Derived.Test.YtdlejnafhmpobaaDoorFiC
set_option linter.unusedSimpArgs false
set_option maxRecDepth 10000
namespace Go.Proofs.YtdlejnafhmpobaaDoor
open Go Go.Ab

def wav (a b : Int) : AV := .arr [.int .u64 a, .int .u64 b]
@[go_sem] theorem wav_len (a b : Int) : (wav a b).len = 2 := rfl
@[go_sem] theorem wav_agg (a b : Int) : (wav a b).agg = true := rfl
@[go_sem] theorem wav_idf (a b : Int) : (wav a b).idf = true := rfl
@[go_sem] theorem wav_ok (a b : Int) : (wav a b).ok = true := rfl
@[go_sem] theorem wav_flat (a b : Int) : (wav a b).flat = true := rfl
@[go_sem] theorem wav_frz (hp : HP) (a b : Int) : (wav a b).frz hp = wav a b := rfl
@[go_sem] theorem wav_idL (a b : Int) : (wav a b).idL = [] := rfl
@[go_sem] theorem wav_ren (ρ : Nat → Nat) (a b : Int) : (wav a b).ren ρ = wav a b := rfl
@[go_sem] theorem und103 : Tryd.prog.underlying 103 = some (.array 2 28) := Tryd.underlying103
@[go_sem] theorem tArr103 : tArr Tryd.prog 103 = some (2, 28) := by kernel_rfl
@[go_sem] theorem tSize103 : tSize Tryd.prog 103 = some 2 := by kernel_rfl
@[go_sem] theorem tAgg103 : tAgg Tryd.prog 103 = some true := by kernel_rfl
@[go_sem] theorem tZero103 : tZero Tryd.prog 103 = some (wav 0 0) := by kernel_rfl
@[go_sem] theorem build103 (a b : Int) (K : AV → Prop) : buildK Tryd.prog 103 [(0, .int .u64 a), (1, .int .u64 b)] K = K (wav a b) := by
  simp only [buildK, und103, tZero103, wav]
  apply propext
  constructor
  · rintro ⟨sz, _, _, _, h⟩; exact h
  · intro h; exact ⟨1, by kernel_rfl, by simp [AV.len], rfl, h⟩
@[go_sem] theorem wav_sub0 (a b : Int) : (wav a b).sub [0] = some (.int .u64 a) := rfl
@[go_sem] theorem wav_sub1 (a b : Int) : (wav a b).sub [1] = some (.int .u64 b) := rfl
@[go_sem] theorem wav_offs0 (a b : Int) : (wav a b).offs [0] = some 0 := rfl
@[go_sem] theorem wav_offs1 (a b : Int) : (wav a b).offs [1] = some 1 := rfl
theorem arr103 (a b : Int) : arrInts Tryd.prog 103 [.int .u64 a, .int .u64 b] = some [a, b] := by
  have h1 : Tryd.prog.underlying 28 = some (.int .u64) := Tryd.underlying28
  have h2 : tSize Tryd.prog 28 = some 1 := by kernel_rfl
  simp only [arrInts, und103, h1, h2, List.length_cons, List.length_nil, and_self, if_true, intsOf, Option.map_some]
theorem guard103 : Tryd.prog.eqGuardType Tryd.prog.depth 103 = false := by kernel_rfl
@[go_sem] theorem eql103 (a b c d : Int) (K : AV → Prop) : binK Tryd.prog .eql 103 (wav a b) (wav c d) K = K (.bool ([a, b] == [c, d])) := by
  simp only [wav, binK, arr103, guard103, true_and]
theorem wav_0 (a b : Int) : nth [AV.int .u64 a, .int .u64 b] 0 = some (.int .u64 a) := rfl
theorem wav_1 (a b : Int) : nth [AV.int .u64 a, .int .u64 b] 1 = some (.int .u64 b) := rfl

theorem pz0 : ((0 : Int) < ((2 : Nat) : Int)) = True := by simp
theorem pz1 : ((1 : Int) < ((2 : Nat) : Int)) = True := by simp

theorem times_pure (x y : Nat) (hx : x < 1152921504606846976) (hy : y < 4) : Pure Tryd.prog 76 [.int .u64 x, .int .u64 y] (wav 0 (x * y : Nat)) := by
  have hm := mul_pure x y hx hy
  generalize ((x * y : Nat) : Int) = p at hm ⊢
  refine pure_of_tr Tryd.func76 rfl (Nat.le_of_ble_eq_true rfl) rfl fun E hE hP => ?_
  first | refine tr_seq_region (by rw [hE]; rfl) ?_ | (refine Tr.seq ?_; refine tr_seq_region (by rw [hE]; rfl) ?_)
  repeat (refine vc_op rfl ?_; simp only [go_sem, seval])
  refine vc_nil ?_
  first | apply tr_m (by rw [hE]; rfl) | (refine Tr.seq ?_; apply tr_m (by rw [hE]; rfl))
  intro Q hQ
  simp only [List.toList_toArray, List.map_cons, List.map_nil, mo, guardSlot, Option.map_some, Option.map_none, List.getElem?_toArray, List.getElem?_cons_succ, List.getElem?_cons_zero, Option.bind_some]
  iterate 2 ((refine vm_op ?_); intro r hr; simp only [go_sem, seval]; subst hr)
  (refine vm_op ?_); intro r hr; simp only [go_sem, seval]
  refine call_fn rfl rfl rfl rfl (enters_of Tryd.func90 (by kernel_rfl) rfl) (hm) rfl rfl rfl ?_
  simp only [go_sem, seval]
  subst hr
  iterate 5 ((refine vm_op ?_); intro r hr; simp only [go_sem, seval]; subst hr)
  exact hQ
  first | apply tr_m (by rw [hE]; rfl) | (refine Tr.seq ?_; apply tr_m (by rw [hE]; rfl))
  intro Q hQ
  simp only [List.toList_toArray, List.map_cons, List.map_nil, mo, guardSlot, Option.map_some, Option.map_none, List.getElem?_toArray, List.getElem?_cons_succ, List.getElem?_cons_zero, Option.bind_some]
  iterate 4 ((refine vm_op ?_); intro r hr; simp only [go_sem, seval]; subst hr)
  exact hQ
  refine Tr.ret ?_
  simp only [Tryd.f76, go_sem, seval]

theorem least_pure (a b : Int) : Pure Tryd.prog 77 [wav 0 a, wav 0 b] (.bool (decide (b ≤ a))) := by
  refine pure_of_tr Tryd.func77 rfl (Nat.le_of_ble_eq_true rfl) rfl fun E hE hP => ?_
  first | refine tr_seq_region (by rw [hE]; rfl) ?_ | (refine Tr.seq ?_; refine tr_seq_region (by rw [hE]; rfl) ?_)
  repeat (refine vc_op rfl ?_; simp only [go_sem, seval])
  refine vc_nil ?_
  by_cases h1 : a = b
  · have er : decide (b ≤ a) = true := decide_eq_true (by omega)
    have e1 : ([0, a] == [0, b]) = true := by simp [h1]
    first | apply tr_m (by rw [hE]; rfl) | (refine Tr.seq ?_; apply tr_m (by rw [hE]; rfl))
    intro Q hQ
    simp only [List.toList_toArray, List.map_cons, List.map_nil, mo, guardSlot, Option.map_some, Option.map_none, List.getElem?_toArray, List.getElem?_cons_succ, List.getElem?_cons_zero, Option.bind_some]
    iterate 4 ((refine vm_op ?_); intro r hr; simp only [e1, go_sem, seval]; subst hr)
    iterate 5 ((first | refine vm_if rfl ?_ | refine vm_no rfl ?_ | refine vm_skip rfl ?_); intro r hr; simp only [e1, go_sem, seval]; subst hr)
    iterate 2 ((refine vm_op ?_); intro r hr; simp only [e1, go_sem, seval]; subst hr)
    iterate 12 ((first | refine vm_if rfl ?_ | refine vm_no rfl ?_ | refine vm_skip rfl ?_); intro r hr; simp only [e1, go_sem, seval]; subst hr)
    iterate 2 ((refine vm_op ?_); intro r hr; simp only [e1, go_sem, seval]; subst hr)
    exact hQ
    refine Tr.ret ?_
    simp only [er, Tryd.f77, go_sem, seval]
  · have er : decide (b ≤ a) = decide (b < a) := decide_eq_decide.2 (by omega)
    have e1 : ([0, a] == [0, b]) = false := by simp [h1]
    first | apply tr_m (by rw [hE]; rfl) | (refine Tr.seq ?_; apply tr_m (by rw [hE]; rfl))
    intro Q hQ
    simp only [List.toList_toArray, List.map_cons, List.map_nil, mo, guardSlot, Option.map_some, Option.map_none, List.getElem?_toArray, List.getElem?_cons_succ, List.getElem?_cons_zero, Option.bind_some]
    iterate 4 ((refine vm_op ?_); intro r hr; simp only [e1, go_sem, seval]; subst hr)
    iterate 5 ((first | refine vm_if rfl ?_ | refine vm_no rfl ?_ | refine vm_skip rfl ?_); intro r hr; simp only [pz0, pz1, Int.toNat_zero, Int.toNat_one, Nat.zero_mul, Nat.one_mul, go_sem, seval]; subst hr)
    iterate 2 ((refine vm_op ?_); intro r hr; simp only [pz0, pz1, Int.toNat_zero, Int.toNat_one, Nat.zero_mul, Nat.one_mul, go_sem, seval]; subst hr)
    iterate 12 ((first | refine vm_if rfl ?_ | refine vm_no rfl ?_ | refine vm_skip rfl ?_); intro r hr; simp only [pz0, pz1, Int.toNat_zero, Int.toNat_one, Nat.zero_mul, Nat.one_mul, go_sem, seval]; subst hr)
    iterate 2 ((refine vm_op ?_); intro r hr; simp only [pz0, pz1, Int.toNat_zero, Int.toNat_one, Nat.zero_mul, Nat.one_mul, go_sem, seval]; subst hr)
    exact hQ
    refine Tr.ret ?_
    simp only [er, Tryd.f77, go_sem, seval]

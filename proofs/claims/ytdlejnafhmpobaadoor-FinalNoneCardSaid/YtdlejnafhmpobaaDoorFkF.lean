/- Which links clash, and who is guilty. -/
import Derived.Test.YtdlejnafhmpobaaDoorFkD
set_option linter.unusedSimpArgs false
set_option maxRecDepth 10000
namespace Go.Proofs.YtdlejnafhmpobaaDoor
open Go Go.Ab

def rule1 (x y : Link) : Bool := !decide (keyOf x = keyOf y) && decide (x.t.epoch = y.t.epoch)
def rule2 (x y : Link) : Bool := decide (x.s.epoch < y.s.epoch) && decide (y.t.epoch < x.t.epoch)

theorem rule1_pure (x y : Link) : Pure Tryd.prog 94 [x.av, y.av] (.bool (rule1 x y)) := by
  refine pure_of_tr Tryd.func94 rfl (Nat.le_of_ble_eq_true rfl) rfl fun E hE hP => ?_
  first | refine tr_seq_region (by rw [hE]; rfl) ?_ | (refine Tr.seq ?_; refine tr_seq_region (by rw [hE]; rfl) ?_)
  repeat (refine vc_op rfl ?_; simp only [go_sem, seval])
  refine vc_nil ?_
  cases h1 : decide (keyOf x = keyOf y) with
  | true =>
    have hr1 : rule1 x y = false := by simp [rule1, h1]
    first | apply tr_md mixed [0, 16] rfl (by rw [hE]; rfl) (by kernel_rfl) | (refine Tr.seq ?_; apply tr_md mixed [0, 16] rfl (by rw [hE]; rfl) (by kernel_rfl))
    intro Q hQ
    simp only [List.toList_toArray, List.map_cons, List.map_nil, mo, guardSlot, Option.map_some, Option.map_none, List.getElem?_toArray, List.getElem?_cons_succ, List.getElem?_cons_zero, Option.bind_some]
    (refine vd2_q rfl ?_); intro r hr; simp only [go_sem, seval]; subst hr
    (refine vd2_x rfl ?_); intro r hr; simp only [go_sem, seval]
    refine call_fn rfl rfl rfl rfl (enters_of Tryd.func74 (by kernel_rfl) rfl) (of_pure x) rfl rfl rfl ?_
    simp only [go_sem, seval]
    subst hr
    (refine vd2_q rfl ?_); intro r hr; simp only [go_sem, seval]; subst hr
    (refine vd2_x rfl ?_); intro r hr; simp only [go_sem, seval]
    refine call_fn rfl rfl rfl rfl (enters_of Tryd.func74 (by kernel_rfl) rfl) (of_pure y) rfl rfl rfl ?_
    simp only [go_sem, seval]
    subst hr
    iterate 2 ((refine vd2_q rfl ?_); intro r hr; simp only [h1, go_sem, seval]; subst hr)
    iterate 7 ((first | refine vd2_goq rfl rfl ?_ | refine vd2_no rfl ?_ | refine vd2_skip rfl ?_); intro r hr; simp only [h1, go_sem, seval]; subst hr)
    iterate 2 ((refine vd2_q rfl ?_); intro r hr; simp only [h1, go_sem, seval]; subst hr)
    exact hQ
    refine Tr.ret ?_
    simp only [hr1, Tryd.f94, go_sem, seval]
  | false =>
    have hr1 : rule1 x y = decide (x.t.epoch = y.t.epoch) := by simp [rule1, h1]
    first | apply tr_md mixed [0, 16] rfl (by rw [hE]; rfl) (by kernel_rfl) | (refine Tr.seq ?_; apply tr_md mixed [0, 16] rfl (by rw [hE]; rfl) (by kernel_rfl))
    intro Q hQ
    simp only [List.toList_toArray, List.map_cons, List.map_nil, mo, guardSlot, Option.map_some, Option.map_none, List.getElem?_toArray, List.getElem?_cons_succ, List.getElem?_cons_zero, Option.bind_some]
    (refine vd2_q rfl ?_); intro r hr; simp only [go_sem, seval]; subst hr
    (refine vd2_x rfl ?_); intro r hr; simp only [go_sem, seval]
    refine call_fn rfl rfl rfl rfl (enters_of Tryd.func74 (by kernel_rfl) rfl) (of_pure x) rfl rfl rfl ?_
    simp only [go_sem, seval]
    subst hr
    (refine vd2_q rfl ?_); intro r hr; simp only [go_sem, seval]; subst hr
    (refine vd2_x rfl ?_); intro r hr; simp only [go_sem, seval]
    refine call_fn rfl rfl rfl rfl (enters_of Tryd.func74 (by kernel_rfl) rfl) (of_pure y) rfl rfl rfl ?_
    simp only [go_sem, seval]
    subst hr
    iterate 2 ((refine vd2_q rfl ?_); intro r hr; simp only [h1, go_sem, seval]; subst hr)
    iterate 7 ((first | refine vd2_goq rfl rfl ?_ | refine vd2_no rfl ?_ | refine vd2_skip rfl ?_); intro r hr; simp only [h1, go_sem, seval]; subst hr)
    iterate 2 ((refine vd2_q rfl ?_); intro r hr; simp only [h1, go_sem, seval]; subst hr)
    exact hQ
    refine Tr.ret ?_
    simp only [hr1, Tryd.f94, go_sem, seval]

theorem rule2_pure (x y : Link) : Pure Tryd.prog 95 [x.av, y.av] (.bool (rule2 x y)) := by
  refine pure_of_tr Tryd.func95 rfl (Nat.le_of_ble_eq_true rfl) rfl fun E hE hP => ?_
  first | refine tr_seq_region (by rw [hE]; rfl) ?_ | (refine Tr.seq ?_; refine tr_seq_region (by rw [hE]; rfl) ?_)
  repeat (refine vc_op rfl ?_; simp only [go_sem, seval])
  refine vc_nil ?_
  cases h1 : decide (x.s.epoch < y.s.epoch) with
  | true =>
    have hr1 : rule2 x y = decide (y.t.epoch < x.t.epoch) := by simp [rule2, h1]
    first | apply tr_m (by rw [hE]; rfl) | (refine Tr.seq ?_; apply tr_m (by rw [hE]; rfl))
    intro Q hQ
    simp only [List.toList_toArray, List.map_cons, List.map_nil, mo, guardSlot, Option.map_some, Option.map_none, List.getElem?_toArray, List.getElem?_cons_succ, List.getElem?_cons_zero, Option.bind_some]
    iterate 8 ((refine vm_op ?_); intro r hr; simp only [h1, go_sem, seval]; subst hr)
    iterate 7 ((first | refine vm_if rfl ?_ | refine vm_no rfl ?_ | refine vm_skip rfl ?_); intro r hr; simp only [h1, go_sem, seval]; subst hr)
    iterate 2 ((refine vm_op ?_); intro r hr; simp only [h1, go_sem, seval]; subst hr)
    exact hQ
    refine Tr.ret ?_
    simp only [hr1, Tryd.f95, go_sem, seval]
  | false =>
    have hr1 : rule2 x y = false := by simp [rule2, h1]
    first | apply tr_m (by rw [hE]; rfl) | (refine Tr.seq ?_; apply tr_m (by rw [hE]; rfl))
    intro Q hQ
    simp only [List.toList_toArray, List.map_cons, List.map_nil, mo, guardSlot, Option.map_some, Option.map_none, List.getElem?_toArray, List.getElem?_cons_succ, List.getElem?_cons_zero, Option.bind_some]
    iterate 8 ((refine vm_op ?_); intro r hr; simp only [h1, go_sem, seval]; subst hr)
    iterate 7 ((first | refine vm_if rfl ?_ | refine vm_no rfl ?_ | refine vm_skip rfl ?_); intro r hr; simp only [h1, go_sem, seval]; subst hr)
    iterate 2 ((refine vm_op ?_); intro r hr; simp only [h1, go_sem, seval]; subst hr)
    exact hQ
    refine Tr.ret ?_
    simp only [hr1, Tryd.f95, go_sem, seval]

inductive Rule where
  | one | two
def Rule.av : Rule → AV
  | .one => .st [.fn (.func 94) [] []]
  | .two => .st [.fn (.func 95) [] []]
@[go_sem] theorem Rule.av_flat (a : Rule) : a.av.flat = false := by cases a <;> rfl
@[go_sem] theorem Rule.av_len (a : Rule) : a.av.len = 1 := by cases a <;> rfl
@[go_sem] theorem Rule.av_agg (a : Rule) : a.av.agg = true := by cases a <;> rfl
@[go_sem] theorem Rule.av_idf (a : Rule) : a.av.idf = true := by cases a <;> rfl
@[go_sem] theorem Rule.av_ok (a : Rule) : a.av.ok = true := by cases a <;> rfl
@[go_sem] theorem Rule.av_frz (hp : HP) (a : Rule) : a.av.frz hp = a.av := by cases a <;> rfl
@[go_sem] theorem Rule.av_idL (a : Rule) : a.av.idL = [] := by cases a <;> rfl
def rules (l : List Rule) : AV := .sl (l.map Rule.av) false
theorem tField71_0 : tFieldI Tryd.prog 110 0 = some (0, 1, false) := by kernel_rfl
@[go_sem] theorem fap71_0 (o : Nat) (p : List Nat) (off : Nat) (K : AV → Prop) : fieldAddrK Tryd.prog 110 (.ptr o p off) 0 K = K (.ptr o (p ++ [0]) (off + 0)) := fieldAddr_ptr tField71_0 (by decide) o p off K
@[go_sem] theorem tSize71 : tSize Tryd.prog 110 = some 1 := by kernel_rfl
@[go_sem] theorem tAgg71 : tAgg Tryd.prog 110 = some true := by kernel_rfl
@[go_sem] theorem tSize34 : tSize Tryd.prog 87 = some 1 := by kernel_rfl
@[go_sem] theorem tAgg34 : tAgg Tryd.prog 87 = some false := by kernel_rfl
@[go_sem] theorem tElem69 : tElem Tryd.prog 108 = some 110 := by kernel_rfl
@[go_sem] theorem und69 : Tryd.prog.underlying 108 = some (.slice 110) := Tryd.underlying108

def hit (x y : Link) : Rule → Bool
  | .one => rule1 x y || rule1 y x
  | .two => rule2 x y || rule2 y x

theorem clash1_pure (r : Rule) (x y : Link) : Pure Tryd.prog 81 [r.av, .ref x.av, .ref y.av] (.bool (hit x y r)) := by
  cases r with
  | one =>
    unfold Rule.av
    refine pure_of_tr Tryd.func81 rfl (Nat.le_of_ble_eq_true rfl) rfl fun E hE hP => ?_
    first | refine tr_seq_region (by rw [hE]; rfl) ?_ | (refine Tr.seq ?_; refine tr_seq_region (by rw [hE]; rfl) ?_)
    repeat (refine vc_op rfl ?_; simp only [go_sem, seval])
    refine vc_nil ?_
    cases h1 : rule1 x y with
    | true =>
      have hh : hit x y .one = true := by simp [hit, h1]
      first | apply tr_m (by rw [hE]; rfl) | (refine Tr.seq ?_; apply tr_m (by rw [hE]; rfl))
      intro Q hQ
      simp only [List.toList_toArray, List.map_cons, List.map_nil, mo, guardSlot, Option.map_some, Option.map_none, List.getElem?_toArray, List.getElem?_cons_succ, List.getElem?_cons_zero, Option.bind_some]
      iterate 4 ((refine vm_op ?_); intro r hr; simp only [go_sem, seval]; subst hr)
      (refine vm_op ?_); intro r hr; simp only [go_sem, seval]
      refine call_fn rfl rfl rfl rfl (enters_of Tryd.func94 (by kernel_rfl) rfl) (rule1_pure x y) rfl rfl rfl ?_
      simp only [go_sem, seval]
      rw [h1]; subst hr
      (refine vm_op ?_); intro r hr; simp only [go_sem, seval]; subst hr
      iterate 5 ((first | refine vm_if rfl ?_ | refine vm_no rfl ?_ | refine vm_skip rfl ?_); intro r hr; simp only [go_sem, seval]; subst hr)
      iterate 2 ((refine vm_op ?_); intro r hr; simp only [go_sem, seval]; subst hr)
      exact hQ
      refine Tr.ret ?_
      simp only [hh, Tryd.f81, go_sem, seval]
    | false =>
      have hh : hit x y .one = rule1 y x := by simp [hit, h1]
      first | apply tr_m (by rw [hE]; rfl) | (refine Tr.seq ?_; apply tr_m (by rw [hE]; rfl))
      intro Q hQ
      simp only [List.toList_toArray, List.map_cons, List.map_nil, mo, guardSlot, Option.map_some, Option.map_none, List.getElem?_toArray, List.getElem?_cons_succ, List.getElem?_cons_zero, Option.bind_some]
      iterate 4 ((refine vm_op ?_); intro r hr; simp only [go_sem, seval]; subst hr)
      (refine vm_op ?_); intro r hr; simp only [go_sem, seval]
      refine call_fn rfl rfl rfl rfl (enters_of Tryd.func94 (by kernel_rfl) rfl) (rule1_pure x y) rfl rfl rfl ?_
      simp only [go_sem, seval]
      rw [h1]; subst hr
      (refine vm_op ?_); intro r hr; simp only [go_sem, seval]; subst hr
      iterate 4 ((first | refine vm_if rfl ?_ | refine vm_no rfl ?_ | refine vm_skip rfl ?_); intro r hr; simp only [go_sem, seval]; subst hr)
      (first | refine vm_if rfl ?_ | refine vm_no rfl ?_ | refine vm_skip rfl ?_); intro r hr; simp only [go_sem, seval]
      refine call_fn rfl rfl rfl rfl (enters_of Tryd.func94 (by kernel_rfl) rfl) (rule1_pure y x) rfl rfl rfl ?_
      simp only [go_sem, seval]
      subst hr
      iterate 2 ((refine vm_op ?_); intro r hr; simp only [go_sem, seval]; subst hr)
      exact hQ
      refine Tr.ret ?_
      simp only [hh, Tryd.f81, go_sem, seval]
  | two =>
    unfold Rule.av
    refine pure_of_tr Tryd.func81 rfl (Nat.le_of_ble_eq_true rfl) rfl fun E hE hP => ?_
    first | refine tr_seq_region (by rw [hE]; rfl) ?_ | (refine Tr.seq ?_; refine tr_seq_region (by rw [hE]; rfl) ?_)
    repeat (refine vc_op rfl ?_; simp only [go_sem, seval])
    refine vc_nil ?_
    cases h1 : rule2 x y with
    | true =>
      have hh : hit x y .two = true := by simp [hit, h1]
      first | apply tr_m (by rw [hE]; rfl) | (refine Tr.seq ?_; apply tr_m (by rw [hE]; rfl))
      intro Q hQ
      simp only [List.toList_toArray, List.map_cons, List.map_nil, mo, guardSlot, Option.map_some, Option.map_none, List.getElem?_toArray, List.getElem?_cons_succ, List.getElem?_cons_zero, Option.bind_some]
      iterate 4 ((refine vm_op ?_); intro r hr; simp only [go_sem, seval]; subst hr)
      (refine vm_op ?_); intro r hr; simp only [go_sem, seval]
      refine call_fn rfl rfl rfl rfl (enters_of Tryd.func95 (by kernel_rfl) rfl) (rule2_pure x y) rfl rfl rfl ?_
      simp only [go_sem, seval]
      rw [h1]; subst hr
      (refine vm_op ?_); intro r hr; simp only [go_sem, seval]; subst hr
      iterate 5 ((first | refine vm_if rfl ?_ | refine vm_no rfl ?_ | refine vm_skip rfl ?_); intro r hr; simp only [go_sem, seval]; subst hr)
      iterate 2 ((refine vm_op ?_); intro r hr; simp only [go_sem, seval]; subst hr)
      exact hQ
      refine Tr.ret ?_
      simp only [hh, Tryd.f81, go_sem, seval]
    | false =>
      have hh : hit x y .two = rule2 y x := by simp [hit, h1]
      first | apply tr_m (by rw [hE]; rfl) | (refine Tr.seq ?_; apply tr_m (by rw [hE]; rfl))
      intro Q hQ
      simp only [List.toList_toArray, List.map_cons, List.map_nil, mo, guardSlot, Option.map_some, Option.map_none, List.getElem?_toArray, List.getElem?_cons_succ, List.getElem?_cons_zero, Option.bind_some]
      iterate 4 ((refine vm_op ?_); intro r hr; simp only [go_sem, seval]; subst hr)
      (refine vm_op ?_); intro r hr; simp only [go_sem, seval]
      refine call_fn rfl rfl rfl rfl (enters_of Tryd.func95 (by kernel_rfl) rfl) (rule2_pure x y) rfl rfl rfl ?_
      simp only [go_sem, seval]
      rw [h1]; subst hr
      (refine vm_op ?_); intro r hr; simp only [go_sem, seval]; subst hr
      iterate 4 ((first | refine vm_if rfl ?_ | refine vm_no rfl ?_ | refine vm_skip rfl ?_); intro r hr; simp only [go_sem, seval]; subst hr)
      (first | refine vm_if rfl ?_ | refine vm_no rfl ?_ | refine vm_skip rfl ?_); intro r hr; simp only [go_sem, seval]
      refine call_fn rfl rfl rfl rfl (enters_of Tryd.func95 (by kernel_rfl) rfl) (rule2_pure y x) rfl rfl rfl ?_
      simp only [go_sem, seval]
      subst hr
      iterate 2 ((refine vm_op ?_); intro r hr; simp only [go_sem, seval]; subst hr)
      exact hQ
      refine Tr.ret ?_
      simp only [hh, Tryd.f81, go_sem, seval]

def ridx (x y : Link) (l : List Rule) : Int := match l.findIdx? (hit x y) with | some i => (i : Int) | none => -1

theorem ridx_at {x y : Link} {l : List Rule} {i : Nat} (h : i < l.length) (hb : ∀ j (hj : j < i), (hit x y) (l[j]'(by omega)) = false) (hi : (hit x y) l[i] = true) : ridx x y l = i := by
  have : l.findIdx? (hit x y) = some i := by
    rw [List.findIdx?_eq_some_iff_getElem]
    exact ⟨h, hi, fun j hj => by rw [hb j hj]; simp⟩
  rw [ridx, this]
theorem ridx_none {x y : Link} {l : List Rule} (hb : ∀ j (hj : j < l.length), (hit x y) l[j] = false) : ridx x y l = -1 := by
  have : l.findIdx? (hit x y) = none := by
    rw [List.findIdx?_eq_none_iff]
    intro z hz
    obtain ⟨j, hj, rfl⟩ := List.mem_iff_getElem.1 hz
    exact hb j hj
  rw [ridx, this]
theorem ridx_any (x y : Link) (l : List Rule) : decide (0 ≤ ridx x y l) = l.any (hit x y) := by
  unfold ridx
  cases h : l.findIdx? (hit x y) with
  | none =>
    rw [List.findIdx?_eq_none_iff] at h
    have : l.any (hit x y) = false := by rw [List.any_eq_false]; intro z hz; rw [h z hz]; simp
    rw [this]; rfl
  | some i =>
    rw [List.findIdx?_eq_some_iff_getElem] at h
    obtain ⟨h1, h2, _⟩ := h
    have : l.any (hit x y) = true := List.any_eq_true.2 ⟨l[i], List.getElem_mem h1, h2⟩
    rw [this]; simp

def ridxSt (x y : Link) (l : List Rule) (i : Nat) : S where
  fr := [(8, .int .i64 i), (7, .int .i64 l.length), (0, .sl (l.map Rule.av) false), (1, .fn (.func 81) [] [.ref x.av, .ref y.av])]
  hp := []
  nx := 0

theorem RIndex_pure (x y : Link) (l : List Rule) (hl : l.length ≤ 100) : Pure Tryd.prog 93 [rules l, .fn (.func 81) [] [.ref x.av, .ref y.av]] (.int .i64 (ridx x y l)) := by
  unfold rules
  refine pure_of_tr Tryd.func93 rfl (Nat.le_of_ble_eq_true rfl) rfl fun E hE hP => ?_
  first | refine tr_seq_region (by rw [hE]; rfl) ?_ | (refine Tr.seq ?_; refine tr_seq_region (by rw [hE]; rfl) ?_)
  repeat (refine vc_op rfl ?_; simp only [go_sem, seval])
  refine vc_nil ?_
  refine Tr.seq ?_
  first | refine tr_seq_region (by rw [hE]; rfl) ?_ | (refine Tr.seq ?_; refine tr_seq_region (by rw [hE]; rfl) ?_)
  repeat (refine vc_op rfl ?_; simp only [go_sem, seval])
  refine vc_nil ?_
  refine Tr.block ?_
  refine Tr.loop (ridxSt x y l) (fun i => i ≤ l.length ∧ ∀ j (hj : j < l.length), j < i → (hit x y) l[j] = false) (fun i => l.length - i) 0 ⟨Nat.zero_le _, fun _ _ h => by omega⟩ ?_ ?_
  · refine wk_ren (fun n => n) ?_ ?_ rfl rfl rfl
    · repeat' (first | exact rfl | exact trivial | constructor)
    · repeat' (first | exact rfl | exact trivial | constructor)
  · intro i ⟨hi, hbefore⟩
    unfold ridxSt
    first | refine tr_seq_region (by rw [hE]; rfl) ?_ | (refine Tr.seq ?_; refine tr_seq_region (by rw [hE]; rfl) ?_)
    repeat (refine vc_op rfl ?_; simp only [go_sem, seval])
    refine vc_nil ?_
    refine Tr.seq (Tr.cond rfl (fun hb => ?_) (fun hb => ?_))
    · refine Tr.skip ?_
      have hlt : i < l.length := by have := of_decide_eq_true hb; omega
      have ha := nth_map_lt Rule.av l i hlt
      generalize hla : l[i] = a at ha
      have hw := wrap_next (n := i) (by omega)
      simp only [thenK]
      refine Tr.seq (Tr.block ?_)
      first | refine tr_seq_region (by rw [hE]; rfl) ?_ | (refine Tr.seq ?_; refine tr_seq_region (by rw [hE]; rfl) ?_)
      repeat (refine vc_op rfl ?_; simp only [go_sem, seval])
      refine vc_nil ?_
      first | refine tr_seq_region (by rw [hE]; rfl) ?_ | (refine Tr.seq ?_; refine tr_seq_region (by rw [hE]; rfl) ?_)
      repeat (refine vc_op rfl ?_; simp only [ha, go_sem, seval])
      refine call_fn rfl rfl rfl (by simp only [go_sem, seval]) (enters_of Tryd.func81 (by kernel_rfl) rfl) (clash1_pure a x y) (by first | rfl | simp only [go_sem, seval]) (by simp only [go_sem, seval]) rfl ?_
      simp only [go_sem, seval]
      repeat (refine vc_op rfl ?_; simp only [go_sem, seval])
      refine vc_nil ?_
      refine Tr.cond rfl (fun hd => ?_) (fun hd => ?_)
      · first | refine tr_seq_region (by rw [hE]; rfl) ?_ | (refine Tr.seq ?_; refine tr_seq_region (by rw [hE]; rfl) ?_)
        repeat (refine vc_op rfl ?_; simp only [go_sem, seval])
        refine vc_nil ?_
        have hidx : ridx x y l = i := ridx_at hlt (fun j hj => hbefore j (by omega) hj) (by rw [hla]; exact hd)
        refine Tr.ret ?_
        simp only [Tryd.f93, hidx, go_sem, seval]
      · refine Tr.skip ?_
        simp only [blockK, thenK]
        refine tr_region (by rw [hE]; rfl) ?_
        repeat (refine vc_op rfl ?_; simp only [hw, go_sem, seval])
        refine vc_nil ?_
        refine ⟨i + 1, ⟨hlt, fun j hj hji => ?_⟩, by omega, ?_⟩
        · by_cases h : j = i
          · subst h; rw [hla]; exact hd
          · exact hbefore j hj (by omega)
        · refine wk_ren (fun n => n) ?_ ?_ rfl rfl rfl
          · repeat' (first | exact rfl | exact trivial | constructor)
          · repeat' (first | exact rfl | exact trivial | constructor)
    · refine Tr.exit ?_
      simp only [blockK, thenK, ↓reduceIte]
      have hil : i = l.length := by
        have := of_decide_eq_false hb
        omega
      subst hil
      have hidx : ridx x y l = -1 := ridx_none fun j hj => hbefore j hj hj
      first | refine tr_seq_region (by rw [hE]; rfl) ?_ | (refine Tr.seq ?_; refine tr_seq_region (by rw [hE]; rfl) ?_)
      repeat (refine vc_op rfl ?_; simp only [go_sem, seval])
      refine vc_nil ?_
      refine Tr.ret ?_
      simp only [Tryd.f93, hidx, go_sem, seval]

theorem RContains_pure (x y : Link) (l : List Rule) (hl : l.length ≤ 100) : Pure Tryd.prog 79 [rules l, .fn (.func 81) [] [.ref x.av, .ref y.av]] (.bool (l.any (hit x y))) := by
  refine pure_of_tr Tryd.func79 rfl (Nat.le_of_ble_eq_true rfl) rfl fun E hE hP => ?_
  first | refine tr_seq_region (by rw [hE]; rfl) ?_ | (refine Tr.seq ?_; refine tr_seq_region (by rw [hE]; rfl) ?_)
  repeat (refine vc_op rfl ?_; simp only [go_sem, seval])
  refine vc_nil ?_
  first | refine tr_seq_region (by rw [hE]; rfl) ?_ | (refine Tr.seq ?_; refine tr_seq_region (by rw [hE]; rfl) ?_)
  repeat (refine vc_op rfl ?_; simp only [go_sem, seval])
  refine call_fn rfl rfl rfl rfl (enters_of Tryd.func93 (by kernel_rfl) rfl) (RIndex_pure x y l hl) rfl rfl rfl ?_
  simp only [go_sem, seval]
  repeat (refine vc_op rfl ?_; simp only [ridx_any, go_sem, seval])
  refine vc_nil ?_
  refine Tr.ret ?_
  simp only [Tryd.f79, go_sem, seval]


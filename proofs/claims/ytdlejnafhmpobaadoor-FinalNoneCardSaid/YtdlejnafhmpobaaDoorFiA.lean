/- Balances: who may be, the bits, the table. -/
import Derived.Test.YtdlejnafhmpobaaDoorFkR
set_option linter.unusedSimpArgs false
set_option maxRecDepth 10000
namespace Go.Proofs.YtdlejnafhmpobaaDoor
open Go Go.Ab

def u64s (l : List Int) : AV := .sl (l.map uav) false
@[go_sem] theorem uav_ok (b : Int) : (uav b).ok = true := rfl
@[go_sem] theorem uav_idf (b : Int) : (uav b).idf = true := rfl
@[go_sem] theorem u64s_idL (l : List Int) : (u64s l).idL = [] := rfl
@[go_sem] theorem u64s_frz (hp : HP) (l : List Int) : (u64s l).frz hp = u64s l := rfl
@[go_sem] theorem u64s_flat (l : List Int) : (u64s l).flat = false := rfl
@[go_sem] theorem u64s_ok (l : List Int) : (u64s l).ok = true := rfl
@[go_sem] theorem u64s_idf (l : List Int) : (u64s l).idf = true := rfl

def over (n : Int) : Bool := decide (1099511627776 < n)
theorem over_pure (n : Int) : Pure Tryd.prog 51 [.int .u64 n] (.bool (over n)) := by
  unfold over
  refine pure_of_tr Tryd.func51 rfl (Nat.le_of_ble_eq_true rfl) rfl fun E hE hP => ?_
  first | refine tr_seq_region (by rw [hE]; rfl) ?_ | (refine Tr.seq ?_; refine tr_seq_region (by rw [hE]; rfl) ?_)
  repeat (refine vc_op rfl ?_; simp only [go_sem, seval])
  refine vc_nil ?_
  first | refine tr_seq_region (by rw [hE]; rfl) ?_ | (refine Tr.seq ?_; refine tr_seq_region (by rw [hE]; rfl) ?_)
  repeat (refine vc_op rfl ?_; simp only [go_sem, seval])
  refine vc_nil ?_
  refine Tr.ret ?_
  simp only [Tryd.f51, go_sem, seval]

def oidx (l : List Int) : Int := match l.findIdx? over with | some i => (i : Int) | none => -1
theorem oidx_at {l : List Int} {i : Nat} (h : i < l.length) (hb : ∀ j (hj : j < i), over (l[j]'(by omega)) = false) (hi : over l[i] = true) : oidx l = i := by
  have : l.findIdx? over = some i := by
    rw [List.findIdx?_eq_some_iff_getElem]
    exact ⟨h, hi, fun j hj => by rw [hb j hj]; simp⟩
  rw [oidx, this]
theorem oidx_none {l : List Int} (hb : ∀ j (hj : j < l.length), over l[j] = false) : oidx l = -1 := by
  have : l.findIdx? over = none := by
    rw [List.findIdx?_eq_none_iff]
    intro x hx
    obtain ⟨j, hj, rfl⟩ := List.mem_iff_getElem.1 hx
    exact hb j hj
  rw [oidx, this]
theorem oidx_any (l : List Int) : decide (0 ≤ oidx l) = l.any over := by
  unfold oidx
  cases h : l.findIdx? over with
  | none =>
    rw [List.findIdx?_eq_none_iff] at h
    have : l.any over = false := by rw [List.any_eq_false]; intro x hx; rw [h x hx]; simp
    rw [this]; rfl
  | some i =>
    rw [List.findIdx?_eq_some_iff_getElem] at h
    obtain ⟨h1, h2, _⟩ := h
    have : l.any over = true := List.any_eq_true.2 ⟨l[i], List.getElem_mem h1, h2⟩
    rw [this]; simp

def oidxSt (l : List Int) (i : Nat) : S where
  fr := [(8, .int .i64 i), (7, .int .i64 l.length), (0, .sl (l.map uav) false), (1, .fn (.func 51) [] [])]
  hp := []
  nx := 0

theorem oindex_pure (l : List Int) (hl : l.length ≤ 100) : Pure Tryd.prog 75 [u64s l, .fn (.func 51) [] []] (.int .i64 (oidx l)) := by
  unfold u64s
  refine pure_of_tr Tryd.func75 rfl (Nat.le_of_ble_eq_true rfl) rfl fun E hE hP => ?_
  first | refine tr_seq_region (by rw [hE]; rfl) ?_ | (refine Tr.seq ?_; refine tr_seq_region (by rw [hE]; rfl) ?_)
  repeat (refine vc_op rfl ?_; simp only [go_sem, seval])
  refine vc_nil ?_
  first | refine tr_seq_region (by rw [hE]; rfl) ?_ | (refine Tr.seq ?_; refine tr_seq_region (by rw [hE]; rfl) ?_)
  repeat (refine vc_op rfl ?_; simp only [go_sem, seval])
  refine vc_nil ?_
  first | refine Tr.block ?_ | (refine Tr.seq ?_; refine Tr.block ?_)
  refine Tr.loop (oidxSt l) (fun i => i ≤ l.length ∧ ∀ j (hj : j < l.length), j < i → over l[j] = false) (fun i => l.length - i) 0 ⟨Nat.zero_le _, fun _ _ h => by omega⟩ ?_ ?_
  · refine wk_ren (fun n => n) ?_ ?_ rfl rfl rfl
    · repeat' (first | exact rfl | exact trivial | constructor)
    · repeat' (first | exact rfl | exact trivial | constructor)
  · intro i ⟨hi, hall⟩
    unfold oidxSt
    first | refine tr_seq_region (by rw [hE]; rfl) ?_ | (refine Tr.seq ?_; refine tr_seq_region (by rw [hE]; rfl) ?_)
    repeat (refine vc_op rfl ?_; simp only [go_sem, seval])
    refine vc_nil ?_
    first | refine Tr.cond rfl (fun h1 => ?_) (fun h1 => ?_) | refine Tr.seq (Tr.cond rfl (fun h1 => ?_) (fun h1 => ?_))
    · refine Tr.skip ?_
      try simp only [blockK, thenK, ↓reduceIte]
      have hlt : i < l.length := by have := of_decide_eq_true h1; omega
      have ha := nth_map_lt uav l i hlt
      have hw := wrap_next (n := i) (by omega)
      first | refine Tr.block ?_ | (refine Tr.seq ?_; refine Tr.block ?_)
      first | refine tr_seq_region (by rw [hE]; rfl) ?_ | (refine Tr.seq ?_; refine tr_seq_region (by rw [hE]; rfl) ?_)
      repeat (refine vc_op rfl ?_; simp only [go_sem, seval])
      refine vc_nil ?_
      cases hb : over l[i] with
      | true =>
        have er : oidx l = i := oidx_at hlt (fun j hj => hall j (by omega) hj) hb
        have hc := over_pure l[i]
        rw [hb] at hc
        first | apply tr_m (by rw [hE]; rfl) | (refine Tr.seq ?_; apply tr_m (by rw [hE]; rfl))
        intro Q hQ
        simp only [List.toList_toArray, List.map_cons, List.map_nil, mo, guardSlot, Option.map_some, Option.map_none, List.getElem?_toArray, List.getElem?_cons_succ, List.getElem?_cons_zero, Option.bind_some]
        iterate 5 ((refine vm_op ?_); intro r hr; simp only [uav, ha, go_sem, seval]; subst hr)
        (refine vm_op ?_); intro r hr; simp only [uav, ha, go_sem, seval]
        refine call_fn rfl rfl rfl rfl (enters_of Tryd.func51 (by kernel_rfl) rfl) (hc) rfl rfl rfl ?_
        simp only [go_sem, seval]
        subst hr
        exact hQ
        first | refine Tr.cond (b := true) rfl (fun _ => ?_) (fun h => by cases h) | refine Tr.seq (Tr.cond (b := true) rfl (fun _ => ?_) (fun h => by cases h))
        first | refine tr_seq_region (by rw [hE]; rfl) ?_ | (refine Tr.seq ?_; refine tr_seq_region (by rw [hE]; rfl) ?_)
        repeat (refine vc_op rfl ?_; simp only [go_sem, seval])
        refine vc_nil ?_
        refine Tr.ret ?_
        simp only [er, Tryd.f75, go_sem, seval]
      | false =>
        have hc := over_pure l[i]
        rw [hb] at hc
        first | apply tr_m (by rw [hE]; rfl) | (refine Tr.seq ?_; apply tr_m (by rw [hE]; rfl))
        intro Q hQ
        simp only [List.toList_toArray, List.map_cons, List.map_nil, mo, guardSlot, Option.map_some, Option.map_none, List.getElem?_toArray, List.getElem?_cons_succ, List.getElem?_cons_zero, Option.bind_some]
        iterate 5 ((refine vm_op ?_); intro r hr; simp only [uav, ha, go_sem, seval]; subst hr)
        (refine vm_op ?_); intro r hr; simp only [uav, ha, go_sem, seval]
        refine call_fn rfl rfl rfl rfl (enters_of Tryd.func51 (by kernel_rfl) rfl) (hc) rfl rfl rfl ?_
        simp only [go_sem, seval]
        subst hr
        exact hQ
        first | refine Tr.cond rfl (fun h => by cases h) (fun _ => ?_) | refine Tr.seq (Tr.cond rfl (fun h => by cases h) (fun _ => ?_))
        refine Tr.skip ?_
        try simp only [blockK, thenK, ↓reduceIte]
        refine tr_region (by rw [hE]; rfl) ?_
        repeat (refine vc_op rfl ?_; simp only [go_sem, seval])
        refine vc_nil ?_
        rw [hw]
        try simp only [blockK, thenK, ↓reduceIte]
        refine ⟨i + 1, ⟨hlt, fun j hj hjl => ?_⟩, by omega, ?_⟩
        · rcases Nat.lt_or_ge j i with h | h
          · exact hall j hj h
          · have : j = i := by omega
            subst this; exact hb
        refine wk_ren (fun n => n) ?_ ?_ rfl rfl rfl
        · repeat' (first | exact rfl | exact trivial | constructor)
        · repeat' (first | exact rfl | exact trivial | constructor)
    · refine Tr.exit ?_
      try simp only [blockK, thenK, ↓reduceIte]
      have hil : i = l.length := by have := of_decide_eq_false h1; omega
      have er : oidx l = -1 := oidx_none fun j hj => hall j hj (by omega)
      first | refine tr_seq_region (by rw [hE]; rfl) ?_ | (refine Tr.seq ?_; refine tr_seq_region (by rw [hE]; rfl) ?_)
      repeat (refine vc_op rfl ?_; simp only [go_sem, seval])
      refine vc_nil ?_
      refine Tr.ret ?_
      simp only [er, Tryd.f75, go_sem, seval]

theorem ocontains_pure (l : List Int) (hl : l.length ≤ 100) : Pure Tryd.prog 52 [u64s l, .fn (.func 51) [] []] (.bool (l.any over)) := by
  have er := oidx_any l
  refine pure_of_tr Tryd.func52 rfl (Nat.le_of_ble_eq_true rfl) rfl fun E hE hP => ?_
  first | refine tr_seq_region (by rw [hE]; rfl) ?_ | (refine Tr.seq ?_; refine tr_seq_region (by rw [hE]; rfl) ?_)
  repeat (refine vc_op rfl ?_; simp only [go_sem, seval])
  refine vc_nil ?_
  first | apply tr_m (by rw [hE]; rfl) | (refine Tr.seq ?_; apply tr_m (by rw [hE]; rfl))
  intro Q hQ
  simp only [List.toList_toArray, List.map_cons, List.map_nil, mo, guardSlot, Option.map_some, Option.map_none, List.getElem?_toArray, List.getElem?_cons_succ, List.getElem?_cons_zero, Option.bind_some]
  iterate 2 ((refine vm_op ?_); intro r hr; simp only [go_sem, seval]; subst hr)
  (refine vm_op ?_); intro r hr; simp only [go_sem, seval]
  refine call_fn rfl rfl rfl rfl (enters_of Tryd.func75 (by kernel_rfl) rfl) (oindex_pure l hl) rfl rfl rfl ?_
  simp only [go_sem, seval]
  subst hr
  iterate 2 ((refine vm_op ?_); intro r hr; simp only [go_sem, seval]; subst hr)
  exact hQ
  refine Tr.ret ?_
  simp only [er, Tryd.f52, go_sem, seval]

def mayS (l : List Int) : Bool := decide (0 < l.length) && (decide (l.length ≤ 8) && !l.any over)

theorem smay_pure (l : List Int) : Pure Tryd.prog 27 [u64s l] (.bool (mayS l)) := by
  unfold u64s
  refine pure_of_tr Tryd.func27 rfl (Nat.le_of_ble_eq_true rfl) rfl fun E hE hP => ?_
  first | refine tr_seq_region (by rw [hE]; rfl) ?_ | (refine Tr.seq ?_; refine tr_seq_region (by rw [hE]; rfl) ?_)
  repeat (refine vc_op rfl ?_; simp only [go_sem, seval])
  refine vc_nil ?_
  first | refine tr_seq_region (by rw [hE]; rfl) ?_ | (refine Tr.seq ?_; refine tr_seq_region (by rw [hE]; rfl) ?_)
  repeat (refine vc_op rfl ?_; simp only [go_sem, seval])
  refine vc_nil ?_
  by_cases h0 : 0 < l.length
  · have e0 : decide ((0 : Int) < (l.length : Int)) = true := decide_eq_true (by omega)
    by_cases h1 : l.length ≤ 8
    · have e1 : decide ((l.length : Int) ≤ 8) = true := decide_eq_true (by omega)
      have er : mayS l = !l.any over := by simp [mayS, h0, h1]
      first | apply tr_m (by rw [hE]; rfl) | (refine Tr.seq ?_; apply tr_m (by rw [hE]; rfl))
      intro Q hQ
      simp only [List.toList_toArray, List.map_cons, List.map_nil, mo, guardSlot, Option.map_some, Option.map_none, List.getElem?_toArray, List.getElem?_cons_succ, List.getElem?_cons_zero, Option.bind_some]
      iterate 4 ((refine vm_op ?_); intro r hr; simp only [e0, e1, go_sem, seval]; subst hr)
      iterate 3 ((first | refine vm_if rfl ?_ | refine vm_no rfl ?_ | refine vm_skip rfl ?_); intro r hr; simp only [e0, e1, go_sem, seval]; subst hr)
      iterate 2 ((refine vm_op ?_); intro r hr; simp only [e0, e1, go_sem, seval]; subst hr)
      iterate 2 ((first | refine vm_if rfl ?_ | refine vm_no rfl ?_ | refine vm_skip rfl ?_); intro r hr; simp only [e0, e1, go_sem, seval]; subst hr)
      (first | refine vm_if rfl ?_ | refine vm_no rfl ?_ | refine vm_skip rfl ?_); intro r hr; simp only [e0, e1, go_sem, seval]
      refine call_fn rfl rfl rfl rfl (enters_of Tryd.func52 (by kernel_rfl) rfl) (ocontains_pure l (by omega)) rfl rfl rfl ?_
      simp only [go_sem, seval]
      subst hr
      (first | refine vm_if rfl ?_ | refine vm_no rfl ?_ | refine vm_skip rfl ?_); intro r hr; simp only [go_sem, seval]; subst hr
      iterate 2 ((refine vm_op ?_); intro r hr; simp only [go_sem, seval]; subst hr)
      exact hQ
      refine Tr.ret ?_
      simp only [er, Tryd.f27, go_sem, seval]
    · have e1 : decide ((l.length : Int) ≤ 8) = false := decide_eq_false (by omega)
      have er : mayS l = false := by simp [mayS, h1]
      first | apply tr_m (by rw [hE]; rfl) | (refine Tr.seq ?_; apply tr_m (by rw [hE]; rfl))
      intro Q hQ
      simp only [List.toList_toArray, List.map_cons, List.map_nil, mo, guardSlot, Option.map_some, Option.map_none, List.getElem?_toArray, List.getElem?_cons_succ, List.getElem?_cons_zero, Option.bind_some]
      iterate 4 ((refine vm_op ?_); intro r hr; simp only [e0, e1, go_sem, seval]; subst hr)
      iterate 3 ((first | refine vm_if rfl ?_ | refine vm_no rfl ?_ | refine vm_skip rfl ?_); intro r hr; simp only [e0, e1, go_sem, seval]; subst hr)
      iterate 2 ((refine vm_op ?_); intro r hr; simp only [e0, e1, go_sem, seval]; subst hr)
      iterate 4 ((first | refine vm_if rfl ?_ | refine vm_no rfl ?_ | refine vm_skip rfl ?_); intro r hr; simp only [e0, e1, go_sem, seval]; subst hr)
      iterate 2 ((refine vm_op ?_); intro r hr; simp only [e0, e1, go_sem, seval]; subst hr)
      exact hQ
      refine Tr.ret ?_
      simp only [er, Tryd.f27, go_sem, seval]
  · have e0 : decide ((0 : Int) < (l.length : Int)) = false := decide_eq_false (by omega)
    have er : mayS l = false := by simp only [mayS, decide_eq_false h0, Bool.false_and]
    first | apply tr_m (by rw [hE]; rfl) | (refine Tr.seq ?_; apply tr_m (by rw [hE]; rfl))
    intro Q hQ
    simp only [List.toList_toArray, List.map_cons, List.map_nil, mo, guardSlot, Option.map_some, Option.map_none, List.getElem?_toArray, List.getElem?_cons_succ, List.getElem?_cons_zero, Option.bind_some]
    iterate 4 ((refine vm_op ?_); intro r hr; simp only [e0, go_sem, seval]; subst hr)
    iterate 3 ((first | refine vm_if rfl ?_ | refine vm_no rfl ?_ | refine vm_skip rfl ?_); intro r hr; simp only [e0, go_sem, seval]; subst hr)
    iterate 2 ((refine vm_op ?_); intro r hr; simp only [e0, go_sem, seval]; subst hr)
    iterate 4 ((first | refine vm_if rfl ?_ | refine vm_no rfl ?_ | refine vm_skip rfl ?_); intro r hr; simp only [e0, go_sem, seval]; subst hr)
    iterate 2 ((refine vm_op ?_); intro r hr; simp only [e0, go_sem, seval]; subst hr)
    exact hQ
    refine Tr.ret ?_
    simp only [er, Tryd.f27, go_sem, seval]

def tabN : List Int := [0, 1, 56, 2, 57, 49, 28, 3, 61, 58, 42, 50, 38, 29, 17, 4, 62, 47, 59, 36, 45, 43, 51, 22, 53, 39, 33, 30, 24, 18, 12, 5, 63, 55, 48, 27, 60, 41, 37, 16, 46, 35, 44, 21, 52, 32, 23, 11, 54, 26, 40, 15, 34, 20, 31, 10, 25, 14, 19, 9, 13, 8, 7, 6]
def tabV : AV := .arr (tabN.map fun n => .int .u8 n)
def tz (m : Nat) : Nat := (List.range 8).find? (fun v => m.testBit v) |>.getD 0

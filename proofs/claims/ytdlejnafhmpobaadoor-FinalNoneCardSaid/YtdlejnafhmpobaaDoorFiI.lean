/- Where a root is. -/
import Derived.Test.YtdlejnafhmpobaaDoorFiH
set_option linter.unusedSimpArgs false
set_option maxRecDepth 10000
namespace Go.Proofs.YtdlejnafhmpobaaDoor
open Go Go.Ab

def isR (r : Root) (n : Node) : Bool := decide (n.root = r)
def findI (t : List Node) (r : Root) : Int := match t.findIdx? (isR r) with | some i => (i : Int) | none => -1
def findR (t : List Node) (r : Root) : Int := if mayB t then findI t r else -1
theorem findI_at {t : List Node} {r : Root} {i : Nat} (h : i < t.length) (hb : ∀ j (hj : j < i), isR r (t[j]'(by omega)) = false) (hi : isR r t[i] = true) : findI t r = i := by
  have : t.findIdx? (isR r) = some i := by
    rw [List.findIdx?_eq_some_iff_getElem]
    exact ⟨h, hi, fun j hj => by rw [hb j hj]; simp⟩
  rw [findI, this]
theorem findI_none {t : List Node} {r : Root} (hb : ∀ j (hj : j < t.length), isR r t[j] = false) : findI t r = -1 := by
  have : t.findIdx? (isR r) = none := by
    rw [List.findIdx?_eq_none_iff]
    intro x hx
    obtain ⟨j, hj, rfl⟩ := List.mem_iff_getElem.1 hx
    exact hb j hj
  rw [findI, this]
theorem findI_range (t : List Node) (r : Root) : findI t r = -1 ∨ (0 ≤ findI t r ∧ findI t r < t.length) := by
  unfold findI
  cases h : t.findIdx? (isR r) with
  | none => exact .inl rfl
  | some i =>
    obtain ⟨h1, _, _⟩ := List.findIdx?_eq_some_iff_getElem.1 h
    right
    simp only
    omega

def rlook (es : List (Root × Nat)) (r : Root) : Option Nat := (es.find? fun e => decide (r = e.1)).map (·.2)
theorem foundR (es : List (Root × Nat)) (r : Root) : foundE (.root r) (es.map entE) = (rlook es r).map fun n => .int .i64 n := by
  unfold foundE rlook
  induction es with
  | nil => rfl
  | cons e es ih =>
    have hb : (AV.root r).eqb (entE e).1 = decide (r = e.1) := rfl
    simp only [List.map_cons, List.find?_cons, hb]
    cases decide (r = e.1)
    · exact ih
    · rfl
theorem lookR {hp : HP} {o : Nat} {es : List (Root × Nat)} {r : Root} {K : AV → Prop} (hg : HP.get hp o = some (.amap (es.map entE))) (h : K (.tup [.int .i64 ((rlook es r).getD 0), .bool (rlook es r).isSome])) :
    lookupK Tryd.prog 73 hp (.mp o) (.root r) true K := by
  simp only [lookupK, tMap88, hg, ltZero3, if_true]
  refine ⟨fits23 r, depth23 r, keys88 es, ?_⟩
  rw [foundR]
  cases hl : rlook es r with
  | none => rw [hl] at h; exact h
  | some n => rw [hl] at h; exact h
theorem idxTo_once {t : List Node} (hn : (t.map Node.root).Nodup) : ∀ n, n ≤ t.length → idxTo t n = (List.range n).map fun i => ((t.getD i zNode).root, i)
  | 0, _ => rfl
  | n + 1, h => by
    have ih := idxTo_once hn n (by omega)
    have hg : t[n]? = some t[n] := List.getElem?_eq_getElem (by omega)
    have hd : t.getD n zNode = t[n] := by simp [show n < t.length by omega]
    have e : idxTo t (n + 1) = setR (idxTo t n) t[n].root n := by rw [idxTo, hg]
    rw [e, ih, List.range_succ, List.map_append, List.map_cons, List.map_nil, hd]
    unfold setR
    have hno : ((List.range n).map fun i => ((t.getD i zNode).root, i)).findIdx? (fun e => decide (t[n].root = e.1)) = none := by
      rw [List.findIdx?_eq_none_iff]
      intro x hx
      obtain ⟨i, hi, rfl⟩ := List.mem_map.1 hx
      have hin := List.mem_range.1 hi
      have hdi : t.getD i zNode = t[i] := by simp [show i < t.length by omega]
      simp only [hdi]
      refine decide_eq_false fun he => ?_
      have := List.pairwise_iff_getElem.1 hn i n (by simp; omega) (by simp; omega) hin
      simp only [List.getElem_map] at this
      exact this he.symm
    rw [hno]
theorem rlook_once {t : List Node} (hn : (t.map Node.root).Nodup) (r : Root) : rlook (idxTo t t.length) r = t.findIdx? (isR r) := by
  rw [idxTo_once hn _ (Nat.le_refl _), rlook, List.find?_map, Option.map_map]
  have e : (Prod.snd ∘ fun i => ((t.getD i zNode).root, i)) = (id : Nat → Nat) := rfl
  rw [e, Option.map_id, id]
  cases h : t.findIdx? (isR r) with
  | none =>
    rw [List.find?_eq_none]
    intro i hi
    have hil := List.mem_range.1 hi
    have hd : t.getD i zNode = t[i] := by simp [hil]
    have := List.findIdx?_eq_none_iff.1 h t[i] (List.getElem_mem hil)
    simp only [isR, decide_eq_false_iff_not] at this
    simp only [Function.comp, hd, decide_eq_true_eq]
    exact fun he => this he.symm
  | some i =>
    obtain ⟨h1, h2, h3⟩ := List.findIdx?_eq_some_iff_getElem.1 h
    rw [List.find?_range_eq_some]
    have hd : t.getD i zNode = t[i] := by simp [h1]
    refine ⟨?_, List.mem_range.2 h1, fun j hj => ?_⟩
    · simp only [Function.comp, hd, decide_eq_true_eq]
      exact (of_decide_eq_true h2).symm
    · have hdj : t.getD j zNode = t[j]'(by omega) := by simp [show j < t.length by omega]
      have := h3 j hj
      simp only [isR, decide_eq_true_eq] at this
      simp only [Function.comp, hdj, Bool.not_eq_true', decide_eq_false_iff_not]
      exact fun he => this he.symm
theorem may_once {t : List Node} (h : mayB t = true) : (t.map Node.root).Nodup := by
  simp only [mayB, Bool.and_eq_true] at h
  exact of_decide_eq_true h.2

theorem find_pure (t : List Node) (r : Root) : Pure Tryd.prog 24 [tav t, .root r] (.int .i64 (findR t r)) := by
  have hc := may_pure t
  refine pure_of_tr Tryd.func24 rfl (Nat.le_of_ble_eq_true rfl) rfl fun E hE hP => ?_
  first | refine tr_seq_region (by rw [hE]; rfl) ?_ | (refine Tr.seq ?_; refine tr_seq_region (by rw [hE]; rfl) ?_)
  repeat (refine vc_op rfl ?_; simp only [go_sem, seval])
  refine vc_nil ?_
  by_cases h : mayB t = true
  · have er : findR t r = findI t r := by unfold findR; rw [if_pos h]
    have hl := (may_len h).2
    have hk := rlook_once (may_once h) r
    rw [h] at hc
    first | apply tr_m (by rw [hE]; rfl) | (refine Tr.seq ?_; apply tr_m (by rw [hE]; rfl))
    intro Q hQ
    simp only [List.toList_toArray, List.map_cons, List.map_nil, mo, guardSlot, Option.map_some, Option.map_none, List.getElem?_toArray, List.getElem?_cons_succ, List.getElem?_cons_zero, Option.bind_some]
    (refine vm_op ?_); intro r hr; simp only [go_sem, seval]; subst hr
    (refine vm_op ?_); intro r hr; simp only [go_sem, seval]
    refine call_fn rfl rfl rfl rfl (enters_of Tryd.func25 (by kernel_rfl) rfl) (hc) rfl rfl rfl ?_
    simp only [go_sem, seval]
    subst hr
    (refine vm_op ?_); intro r hr; simp only [go_sem, seval]; subst hr
    exact hQ
    first | refine Tr.cond rfl (fun h => by cases h) (fun _ => ?_) | refine Tr.seq (Tr.cond rfl (fun h => by cases h) (fun _ => ?_))
    refine Tr.skip ?_
    try simp only [blockK, thenK, ↓reduceIte]
    first | apply tr_m (by rw [hE]; rfl) | (refine Tr.seq ?_; apply tr_m (by rw [hE]; rfl))
    intro Q hQ
    simp only [List.toList_toArray, List.map_cons, List.map_nil, mo, guardSlot, Option.map_some, Option.map_none, List.getElem?_toArray, List.getElem?_cons_succ, List.getElem?_cons_zero, Option.bind_some]
    iterate 2 ((refine vm_op ?_); intro r hr; simp only [go_sem, seval]; subst hr)
    (refine vm_op ?_); intro r hr; simp only [go_sem, seval]
    refine call_own rfl rfl rfl rfl (enters_of Tryd.func46 (by kernel_rfl) rfl) (index_own t (by omega)) rfl rfl ?_
    simp only [go_sem, seval]
    subst hr
    iterate 5 ((refine vm_op ?_); intro r hr; simp only [go_sem, seval]; subst hr)
    exact hQ
    first | refine tr_seq_region (by rw [hE]; rfl) ?_ | (refine Tr.seq ?_; refine tr_seq_region (by rw [hE]; rfl) ?_)
    iterate 2 (refine vc_op rfl ?_; simp only [go_sem, seval])
    refine vc_op rfl ?_; simp only [go_sem, seval]
    refine lookR rfl ?_
    simp only [hk, go_sem, seval]
    cases hf : t.findIdx? (isR r) with
    | some i =>
      have ef : findR t r = i := by rw [er, findI, hf]
      simp only [Option.getD_some, Option.isSome_some, go_sem, seval]
      iterate 5 (refine vc_op rfl ?_; simp only [go_sem, seval])
      refine vc_nil ?_
      first | refine tr_seq_region (by rw [hE]; rfl) ?_ | (refine Tr.seq ?_; refine tr_seq_region (by rw [hE]; rfl) ?_)
      repeat (refine vc_op rfl ?_; simp only [go_sem, seval])
      refine vc_nil ?_
      first | refine Tr.cond (b := true) rfl (fun _ => ?_) (fun h => by cases h) | refine Tr.seq (Tr.cond (b := true) rfl (fun _ => ?_) (fun h => by cases h))
      first | refine tr_seq_region (by rw [hE]; rfl) ?_ | (refine Tr.seq ?_; refine tr_seq_region (by rw [hE]; rfl) ?_)
      repeat (refine vc_op rfl ?_; simp only [go_sem, seval])
      refine vc_nil ?_
      refine Tr.ret ?_
      simp only [ef, Tryd.f24, go_sem, seval]
    | none =>
      have ef : findR t r = -1 := by rw [er, findI, hf]
      simp only [Option.getD_none, Option.isSome_none, go_sem, seval]
      iterate 5 (refine vc_op rfl ?_; simp only [go_sem, seval])
      refine vc_nil ?_
      first | refine tr_seq_region (by rw [hE]; rfl) ?_ | (refine Tr.seq ?_; refine tr_seq_region (by rw [hE]; rfl) ?_)
      repeat (refine vc_op rfl ?_; simp only [go_sem, seval])
      refine vc_nil ?_
      first | refine Tr.cond rfl (fun h => by cases h) (fun _ => ?_) | refine Tr.seq (Tr.cond rfl (fun h => by cases h) (fun _ => ?_))
      refine Tr.skip ?_
      try simp only [blockK, thenK, ↓reduceIte]
      first | refine tr_seq_region (by rw [hE]; rfl) ?_ | (refine Tr.seq ?_; refine tr_seq_region (by rw [hE]; rfl) ?_)
      repeat (refine vc_op rfl ?_; simp only [go_sem, seval])
      refine vc_nil ?_
      refine Tr.ret ?_
      simp only [ef, Tryd.f24, go_sem, seval]
  · have h : mayB t = false := by simpa using h
    have er : findR t r = -1 := by unfold findR; rw [if_neg (by simp [h])]
    rw [h] at hc
    first | apply tr_m (by rw [hE]; rfl) | (refine Tr.seq ?_; apply tr_m (by rw [hE]; rfl))
    intro Q hQ
    simp only [List.toList_toArray, List.map_cons, List.map_nil, mo, guardSlot, Option.map_some, Option.map_none, List.getElem?_toArray, List.getElem?_cons_succ, List.getElem?_cons_zero, Option.bind_some]
    (refine vm_op ?_); intro r hr; simp only [go_sem, seval]; subst hr
    (refine vm_op ?_); intro r hr; simp only [go_sem, seval]
    refine call_fn rfl rfl rfl rfl (enters_of Tryd.func25 (by kernel_rfl) rfl) (hc) rfl rfl rfl ?_
    simp only [go_sem, seval]
    subst hr
    (refine vm_op ?_); intro r hr; simp only [go_sem, seval]; subst hr
    exact hQ
    first | refine Tr.cond (b := true) rfl (fun _ => ?_) (fun h => by cases h) | refine Tr.seq (Tr.cond (b := true) rfl (fun _ => ?_) (fun h => by cases h))
    first | refine tr_seq_region (by rw [hE]; rfl) ?_ | (refine Tr.seq ?_; refine tr_seq_region (by rw [hE]; rfl) ?_)
    repeat (refine vc_op rfl ?_; simp only [go_sem, seval])
    refine vc_nil ?_
    refine Tr.ret ?_
    simp only [er, Tryd.f24, go_sem, seval]

theorem reffind_pure (t : List Node) (r : Root) (hl : t.length ≤ 100) : Pure Tryd.prog 66 [tav t, .root r] (.int .i64 (findR t r)) := by
  have hc := refmay_pure t hl
  rw [refmay_eq] at hc
  refine pure_of_tr Tryd.func66 rfl (Nat.le_of_ble_eq_true rfl) rfl fun E hE hP => ?_
  first | refine tr_seq_region (by rw [hE]; rfl) ?_ | (refine Tr.seq ?_; refine tr_seq_region (by rw [hE]; rfl) ?_)
  repeat (refine vc_op rfl ?_; simp only [go_sem, seval])
  refine vc_nil ?_
  by_cases h : mayB t = true
  · have er : findR t r = findI t r := by unfold findR; rw [if_pos h]
    rw [h] at hc
    first | apply tr_m (by rw [hE]; rfl) | (refine Tr.seq ?_; apply tr_m (by rw [hE]; rfl))
    intro Q hQ
    simp only [List.toList_toArray, List.map_cons, List.map_nil, mo, guardSlot, Option.map_some, Option.map_none, List.getElem?_toArray, List.getElem?_cons_succ, List.getElem?_cons_zero, Option.bind_some]
    (refine vm_op ?_); intro r hr; simp only [go_sem, seval]; subst hr
    (refine vm_op ?_); intro r hr; simp only [go_sem, seval]
    refine call_fn rfl rfl rfl rfl (enters_of Tryd.func39 (by kernel_rfl) rfl) (hc) rfl rfl rfl ?_
    simp only [go_sem, seval]
    subst hr
    (refine vm_op ?_); intro r hr; simp only [go_sem, seval]; subst hr
    exact hQ
    first | refine tr_seq_region (by rw [hE]; rfl) ?_ | (refine Tr.seq ?_; refine tr_seq_region (by rw [hE]; rfl) ?_)
    repeat (refine vc_op rfl ?_; simp only [go_sem, seval])
    refine vc_nil ?_
    first | refine Tr.block ?_ | (refine Tr.seq ?_; refine Tr.block ?_)
    refine Tr.loop (fun i : Nat => (⟨[(2, .ptr 0 [] 0), (3, .ptr 16 [] 0), (5, .bool true), (6, .int .i64 i)], [(0, .var (tav t)), (16, .var (.root r))], 17, []⟩ : S)) (fun i => i ≤ t.length ∧ ∀ j (hj : j < t.length), j < i → isR r t[j] = false) (fun i => t.length - i) 0 ⟨Nat.zero_le _, fun _ _ h => by omega⟩ ?_ ?_
    · refine wk_ren (fun n => n) ?_ ?_ rfl rfl rfl
      · repeat' (first | exact rfl | exact trivial | constructor)
      · repeat' (first | exact rfl | exact trivial | constructor)
    · intro i ⟨hi, hall⟩
      by_cases hlt : i < t.length
      · have e1 : decide ((i : Int) < (t.length : Int)) = true := decide_eq_true (by omega)
        have hn := nth_node (t := t) hlt
        have hd : t.getD i zNode = t[i] := by simp [hlt]
        have hw := wrap_next (n := i) (by omega)
        rw [hd] at hn
        first | apply tr_m (by rw [hE]; rfl) | (refine Tr.seq ?_; apply tr_m (by rw [hE]; rfl))
        intro Q hQ
        simp only [List.toList_toArray, List.map_cons, List.map_nil, mo, guardSlot, Option.map_some, Option.map_none, List.getElem?_toArray, List.getElem?_cons_succ, List.getElem?_cons_zero, Option.bind_some]
        iterate 6 ((refine vm_op ?_); intro r hr; simp only [e1, go_sem, seval]; subst hr)
        (first | refine vm_if rfl ?_ | refine vm_no rfl ?_ | refine vm_skip rfl ?_); intro r hr; simp only [e1, go_sem, seval]; subst hr
        (refine vm_op ?_); intro r hr; simp only [e1, go_sem, seval]; subst hr
        exact hQ
        first | refine Tr.cond (b := true) rfl (fun _ => ?_) (fun h => by cases h) | refine Tr.seq (Tr.cond (b := true) rfl (fun _ => ?_) (fun h => by cases h))
        refine Tr.skip ?_
        try simp only [blockK, thenK, ↓reduceIte]
        first | refine Tr.block ?_ | (refine Tr.seq ?_; refine Tr.block ?_)
        cases hb : isR r t[i] with
        | true =>
          have hb' : decide (t[i].root = r) = true := hb
          have ef : findI t r = i := findI_at hlt (fun j hj => hall j (by omega) hj) hb
          first | apply tr_md mixed [0, 16] rfl (by rw [hE]; rfl) (by kernel_rfl) | (refine Tr.seq ?_; apply tr_md mixed [0, 16] rfl (by rw [hE]; rfl) (by kernel_rfl))
          intro Q hQ
          simp only [List.toList_toArray, List.map_cons, List.map_nil, mo, guardSlot, Option.map_some, Option.map_none, List.getElem?_toArray, List.getElem?_cons_succ, List.getElem?_cons_zero, Option.bind_some]
          iterate 8 ((refine vd2_q rfl ?_); intro r hr; simp only [hn, hb', go_sem, seval]; subst hr)
          exact hQ
          first | refine Tr.cond (b := true) rfl (fun _ => ?_) (fun h => by cases h) | refine Tr.seq (Tr.cond (b := true) rfl (fun _ => ?_) (fun h => by cases h))
          first | refine tr_seq_region (by rw [hE]; rfl) ?_ | (refine Tr.seq ?_; refine tr_seq_region (by rw [hE]; rfl) ?_)
          repeat (refine vc_op rfl ?_; simp only [go_sem, seval])
          refine vc_nil ?_
          refine Tr.ret ?_
          simp only [er, ef, Tryd.f66, go_sem, seval]
        | false =>
          have hb' : decide (t[i].root = r) = false := hb
          first | apply tr_md mixed [0, 16] rfl (by rw [hE]; rfl) (by kernel_rfl) | (refine Tr.seq ?_; apply tr_md mixed [0, 16] rfl (by rw [hE]; rfl) (by kernel_rfl))
          intro Q hQ
          simp only [List.toList_toArray, List.map_cons, List.map_nil, mo, guardSlot, Option.map_some, Option.map_none, List.getElem?_toArray, List.getElem?_cons_succ, List.getElem?_cons_zero, Option.bind_some]
          iterate 8 ((refine vd2_q rfl ?_); intro r hr; simp only [hn, hb', go_sem, seval]; subst hr)
          exact hQ
          first | refine Tr.cond (b := false) rfl (fun h => by cases h) (fun _ => ?_) | refine Tr.seq (Tr.cond (b := false) rfl (fun h => by cases h) (fun _ => ?_))
          refine Tr.skip ?_
          try simp only [blockK, thenK, ↓reduceIte]
          refine tr_region (by rw [hE]; rfl) ?_
          repeat (refine vc_op rfl ?_; simp only [go_sem, seval])
          refine vc_nil ?_
          rw [hw]
          try simp only [blockK, thenK, ↓reduceIte]
          refine ⟨i + 1, ⟨hlt, fun j hj hjl => ?_⟩, by omega, ?_⟩
          · rcases Nat.lt_or_ge j i with h | h
            · exact hall j hj h
            · have : j = i := by omega
              subst this; exact hb
          refine wk_ren (fun n => n) ?_ ?_ rfl rfl rfl
          · repeat' (first | exact rfl | exact trivial | constructor)
          · repeat' (first | exact rfl | exact trivial | constructor)
      · have e1 : decide ((i : Int) < (t.length : Int)) = false := decide_eq_false (by omega)
        have ef : findI t r = -1 := findI_none fun j hj => hall j hj (by omega)
        first | apply tr_m (by rw [hE]; rfl) | (refine Tr.seq ?_; apply tr_m (by rw [hE]; rfl))
        intro Q hQ
        simp only [List.toList_toArray, List.map_cons, List.map_nil, mo, guardSlot, Option.map_some, Option.map_none, List.getElem?_toArray, List.getElem?_cons_succ, List.getElem?_cons_zero, Option.bind_some]
        iterate 6 ((refine vm_op ?_); intro r hr; simp only [e1, go_sem, seval]; subst hr)
        (first | refine vm_if rfl ?_ | refine vm_no rfl ?_ | refine vm_skip rfl ?_); intro r hr; simp only [e1, go_sem, seval]; subst hr
        (refine vm_op ?_); intro r hr; simp only [e1, go_sem, seval]; subst hr
        exact hQ
        first | refine Tr.cond (b := false) rfl (fun h => by cases h) (fun _ => ?_) | refine Tr.seq (Tr.cond (b := false) rfl (fun h => by cases h) (fun _ => ?_))
        refine Tr.exit ?_
        try simp only [blockK, thenK, ↓reduceIte]
        first | refine tr_seq_region (by rw [hE]; rfl) ?_ | (refine Tr.seq ?_; refine tr_seq_region (by rw [hE]; rfl) ?_)
        repeat (refine vc_op rfl ?_; simp only [go_sem, seval])
        refine vc_nil ?_
        refine Tr.ret ?_
        simp only [er, ef, Tryd.f66, go_sem, seval]
  · have h : mayB t = false := by simpa using h
    have er : findR t r = -1 := by unfold findR; rw [if_neg (by simp [h])]
    rw [h] at hc
    first | apply tr_m (by rw [hE]; rfl) | (refine Tr.seq ?_; apply tr_m (by rw [hE]; rfl))
    intro Q hQ
    simp only [List.toList_toArray, List.map_cons, List.map_nil, mo, guardSlot, Option.map_some, Option.map_none, List.getElem?_toArray, List.getElem?_cons_succ, List.getElem?_cons_zero, Option.bind_some]
    (refine vm_op ?_); intro r hr; simp only [go_sem, seval]; subst hr
    (refine vm_op ?_); intro r hr; simp only [go_sem, seval]
    refine call_fn rfl rfl rfl rfl (enters_of Tryd.func39 (by kernel_rfl) rfl) (hc) rfl rfl rfl ?_
    simp only [go_sem, seval]
    subst hr
    (refine vm_op ?_); intro r hr; simp only [go_sem, seval]; subst hr
    exact hQ
    first | refine tr_seq_region (by rw [hE]; rfl) ?_ | (refine Tr.seq ?_; refine tr_seq_region (by rw [hE]; rfl) ?_)
    repeat (refine vc_op rfl ?_; simp only [go_sem, seval])
    refine vc_nil ?_
    first | refine Tr.block ?_ | (refine Tr.seq ?_; refine Tr.block ?_)
    refine Tr.loop (fun _ : Unit => (⟨[(2, .ptr 0 [] 0), (5, .bool false), (6, .int .i64 0)], [(0, .var (tav t))], 17, []⟩ : S)) (fun _ => True) (fun _ => 0) () trivial ?_ ?_
    · refine wk_ren (fun n => n) ?_ ?_ rfl rfl rfl
      · repeat' (first | exact rfl | exact trivial | constructor)
      · repeat' (first | exact rfl | exact trivial | constructor)
    · intro _ _
      cases hb0 : decide ((0 : Int) < (t.length : Int))
      · first | apply tr_m (by rw [hE]; rfl) | (refine Tr.seq ?_; apply tr_m (by rw [hE]; rfl))
        intro Q hQ
        simp only [List.toList_toArray, List.map_cons, List.map_nil, mo, guardSlot, Option.map_some, Option.map_none, List.getElem?_toArray, List.getElem?_cons_succ, List.getElem?_cons_zero, Option.bind_some]
        iterate 6 ((refine vm_op ?_); intro r hr; simp only [hb0, go_sem, seval]; subst hr)
        (first | refine vm_if rfl ?_ | refine vm_no rfl ?_ | refine vm_skip rfl ?_); intro r hr; simp only [hb0, go_sem, seval]; subst hr
        (refine vm_op ?_); intro r hr; simp only [hb0, go_sem, seval]; subst hr
        exact hQ
        first | refine Tr.cond (b := false) rfl (fun h => by cases h) (fun _ => ?_) | refine Tr.seq (Tr.cond (b := false) rfl (fun h => by cases h) (fun _ => ?_))
        refine Tr.exit ?_
        try simp only [blockK, thenK, ↓reduceIte]
        first | refine tr_seq_region (by rw [hE]; rfl) ?_ | (refine Tr.seq ?_; refine tr_seq_region (by rw [hE]; rfl) ?_)
        repeat (refine vc_op rfl ?_; simp only [go_sem, seval])
        refine vc_nil ?_
        refine Tr.ret ?_
        simp only [er, Tryd.f66, go_sem, seval]
      · first | apply tr_m (by rw [hE]; rfl) | (refine Tr.seq ?_; apply tr_m (by rw [hE]; rfl))
        intro Q hQ
        simp only [List.toList_toArray, List.map_cons, List.map_nil, mo, guardSlot, Option.map_some, Option.map_none, List.getElem?_toArray, List.getElem?_cons_succ, List.getElem?_cons_zero, Option.bind_some]
        iterate 6 ((refine vm_op ?_); intro r hr; simp only [hb0, go_sem, seval]; subst hr)
        (first | refine vm_if rfl ?_ | refine vm_no rfl ?_ | refine vm_skip rfl ?_); intro r hr; simp only [hb0, go_sem, seval]; subst hr
        (refine vm_op ?_); intro r hr; simp only [hb0, go_sem, seval]; subst hr
        exact hQ
        first | refine Tr.cond (b := false) rfl (fun h => by cases h) (fun _ => ?_) | refine Tr.seq (Tr.cond (b := false) rfl (fun h => by cases h) (fun _ => ?_))
        refine Tr.exit ?_
        try simp only [blockK, thenK, ↓reduceIte]
        first | refine tr_seq_region (by rw [hE]; rfl) ?_ | (refine Tr.seq ?_; refine tr_seq_region (by rw [hE]; rfl) ?_)
        repeat (refine vc_op rfl ?_; simp only [go_sem, seval])
        refine vc_nil ?_
        refine Tr.ret ?_
        simp only [er, Tryd.f66, go_sem, seval]

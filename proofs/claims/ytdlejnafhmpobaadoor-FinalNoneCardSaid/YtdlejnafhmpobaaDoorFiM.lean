/- What is justified: the plain words, and the reference. -/
import Derived.Test.YtdlejnafhmpobaaDoorFiL
set_option linter.unusedSimpArgs false
set_option maxRecDepth 10000
namespace Go.Proofs.YtdlejnafhmpobaaDoor
open Go Go.Ab

def goB (out : List Check) (a : Link) : Bool := decide (a.s ∈ out) && !decide (a.t ∈ out)
def leftN (ls : List Link) (out : List Check) : Nat := ls.countP fun a => !decide (a.t ∈ out)
def moreN (ls : List Link) : Nat → List Check → List Check
  | 0, out => out
  | n + 1, out => match ls.find? (goB out) with
    | none => out
    | some a => moreN ls n (out ++ [a.t])
def moreF (ls : List Link) (out : List Check) : List Check := moreN ls (leftN ls out) out
def countL (t : List Node) (l : List Link) (b : List Int) : List Link := if toldR t l b then l.filter (countB t b) else []
def moreR (t : List Node) (l : List Link) (b : List Int) (js : List Check) : List Check := moreF (countL t l b) js

theorem leftN_le {ls : List Link} {out : List Check} {c : Check} : leftN ls (out ++ [c]) ≤ leftN ls out :=
  List.countP_mono_left fun a _ h => by
    simp only [List.mem_append, List.mem_singleton, Bool.not_eq_true', decide_eq_false_iff_not, not_or] at h ⊢
    exact h.1
theorem leftN_lt {ls : List Link} {out : List Check} {a : Link} (ha : a ∈ ls) (hn : a.t ∉ out) : leftN ls (out ++ [a.t]) < leftN ls out := by
  unfold leftN
  induction ls with
  | nil => cases ha
  | cons b ls ih =>
    simp only [List.countP_cons]
    have hmono : ls.countP (fun x => !decide (x.t ∈ out ++ [a.t])) ≤ ls.countP fun x => !decide (x.t ∈ out) := leftN_le
    rcases List.mem_cons.1 ha with rfl | ha
    · have e1 : (!decide (a.t ∈ out ++ [a.t])) = false := by simp
      have e2 : (!decide (a.t ∈ out)) = true := by simp [hn]
      rw [e1, e2]
      simp only [Bool.false_eq_true, if_false, if_true]
      omega
    · have := ih ha
      have h2 : (!decide (b.t ∈ out ++ [a.t])) = true → (!decide (b.t ∈ out)) = true := by
        simp only [List.mem_append, List.mem_singleton, Bool.not_eq_true', decide_eq_false_iff_not, not_or]
        exact fun h => h.1
      split
      · rename_i h
        rw [if_pos (h2 h)]
        omega
      · split <;> omega
theorem goB_spec {out : List Check} {a : Link} (h : goB out a = true) : a.s ∈ out ∧ a.t ∉ out := by
  simp only [goB, Bool.and_eq_true, decide_eq_true_eq, Bool.not_eq_true', decide_eq_false_iff_not] at h
  exact h
theorem moreN_fuel (ls : List Link) : ∀ (n m : Nat) (out : List Check), leftN ls out ≤ n → leftN ls out ≤ m → moreN ls n out = moreN ls m out
  | 0, 0, _, _, _ => rfl
  | 0, m + 1, out, h, _ => by
    rw [moreN, moreN]
    cases hf : ls.find? (goB out) with
    | none => rfl
    | some a =>
      have ha := List.mem_of_find?_eq_some hf
      have hg := goB_spec (List.find?_some hf)
      have := leftN_lt ha hg.2
      omega
  | n + 1, 0, out, _, h => by
    rw [moreN, moreN]
    cases hf : ls.find? (goB out) with
    | none => rfl
    | some a =>
      have ha := List.mem_of_find?_eq_some hf
      have hg := goB_spec (List.find?_some hf)
      have := leftN_lt ha hg.2
      omega
  | n + 1, m + 1, out, h1, h2 => by
    rw [moreN, moreN]
    cases hf : ls.find? (goB out) with
    | none => rfl
    | some a =>
      have ha := List.mem_of_find?_eq_some hf
      have hg := goB_spec (List.find?_some hf)
      have := leftN_lt ha hg.2
      exact moreN_fuel ls n m _ (by omega) (by omega)
theorem moreF_none {ls : List Link} {out : List Check} (h : ls.find? (goB out) = none) : moreF ls out = out := by
  unfold moreF
  cases hn : leftN ls out with
  | zero => rfl
  | succ n => rw [moreN, h]
theorem moreF_some {ls : List Link} {out : List Check} {a : Link} (h : ls.find? (goB out) = some a) : moreF ls out = moreF ls (out ++ [a.t]) ∧ leftN ls (out ++ [a.t]) < leftN ls out := by
  have ha := List.mem_of_find?_eq_some h
  have hg := goB_spec (List.find?_some h)
  have hlt := leftN_lt ha hg.2
  refine ⟨?_, hlt⟩
  unfold moreF
  obtain ⟨n, hn⟩ : ∃ n, leftN ls out = n + 1 := ⟨leftN ls out - 1, by omega⟩
  rw [hn, moreN, h]
  exact moreN_fuel ls _ _ _ (by omega) (Nat.le_refl _)

def pickB (t : List Node) (b : List Int) (out : List Check) (a : Link) : Bool := countB t b a && goB out a
def firstI (t : List Node) (l : List Link) (b : List Int) (out : List Check) : Int := match l.findIdx? (pickB t b out) with | some i => (i : Int) | none => -1
theorem firstI_at {t : List Node} {l : List Link} {b : List Int} {out : List Check} {i : Nat} (h : i < l.length) (hb : ∀ j (hj : j < l.length), j < i → pickB t b out l[j] = false) (hi : pickB t b out l[i] = true) : firstI t l b out = i := by
  have : l.findIdx? (pickB t b out) = some i := by
    rw [List.findIdx?_eq_some_iff_getElem]
    exact ⟨h, hi, fun j hj => by rw [hb j (by omega) hj]; simp⟩
  rw [firstI, this]
theorem firstI_none {t : List Node} {l : List Link} {b : List Int} {out : List Check} (hb : ∀ j (hj : j < l.length), pickB t b out l[j] = false) : firstI t l b out = -1 := by
  have : l.findIdx? (pickB t b out) = none := by
    rw [List.findIdx?_eq_none_iff]
    intro x hx
    obtain ⟨j, hj, rfl⟩ := List.mem_iff_getElem.1 hx
    exact hb j hj
  rw [firstI, this]
theorem firstI_law (t : List Node) (l : List Link) (b : List Int) (out : List Check) : (firstI t l b out = -1 ∧ (l.filter (countB t b)).find? (goB out) = none) ∨ ∃ i : Nat, ∃ h : i < l.length, firstI t l b out = i ∧ (l.filter (countB t b)).find? (goB out) = some l[i] := by
  rw [List.find?_filter]
  have e : (fun a => decide (countB t b a = true ∧ goB out a = true)) = pickB t b out := by
    funext a
    unfold pickB
    cases countB t b a <;> cases goB out a <;> rfl
  rw [e]
  unfold firstI
  cases h : l.findIdx? (pickB t b out) with
  | none =>
    left
    refine ⟨rfl, ?_⟩
    rw [List.find?_eq_none]
    intro x hx
    have := List.findIdx?_eq_none_iff.1 h x hx
    simp [this]
  | some i =>
    right
    obtain ⟨h1, h2, h3⟩ := List.findIdx?_eq_some_iff_getElem.1 h
    refine ⟨i, h1, rfl, ?_⟩
    rw [List.find?_eq_some_iff_getElem]
    exact ⟨h2, i, h1, rfl, fun j hj => by have := h3 j hj; simpa using this⟩

theorem first_pure (t : List Node) (l : List Link) (b : List Int) (out : List Check) (ht : t.length ≤ 100) (hl : l.length ≤ 100) (hbl : b.length ≤ 100) (ho : out.length ≤ 100) (hb : okB b) (hk : okL l) : Pure Tryd.prog 36 [tav t, links l, u64s b, checks out] (.int .i64 (firstI t l b out)) := by
  unfold links
  refine pure_of_tr Tryd.func36 rfl (Nat.le_of_ble_eq_true rfl) rfl fun E hE hP => ?_
  first | refine tr_seq_region (by rw [hE]; rfl) ?_ | (refine Tr.seq ?_; refine tr_seq_region (by rw [hE]; rfl) ?_)
  repeat (refine vc_op rfl ?_; simp only [go_sem, seval])
  refine vc_nil ?_
  first | refine tr_seq_region (by rw [hE]; rfl) ?_ | (refine Tr.seq ?_; refine tr_seq_region (by rw [hE]; rfl) ?_)
  repeat (refine vc_op rfl ?_; simp only [go_sem, seval])
  refine vc_nil ?_
  first | refine Tr.block ?_ | (refine Tr.seq ?_; refine Tr.block ?_)
  refine Tr.loop (fun i : Nat => (⟨[(1, .sl (l.map Link.av) false), (2, u64s b), (3, checks out), (4, .ptr 0 [] 0), (9, .int .i64 i)], [(0, .var (tav t))], 1, []⟩ : S)) (fun i => i ≤ l.length ∧ ∀ j (hj : j < l.length), j < i → pickB t b out l[j] = false) (fun i => l.length - i) 0 ⟨Nat.zero_le _, fun _ _ h => by omega⟩ ?_ ?_
  · refine wk_ren (fun n => n) ?_ ?_ rfl rfl rfl
    · repeat' (first | exact rfl | exact trivial | constructor)
    · repeat' (first | exact rfl | exact trivial | constructor)
  · intro i ⟨hi, hall⟩
    by_cases hlt : i < l.length
    · have e1 : decide ((i : Int) < (l.length : Int)) = true := decide_eq_true (by omega)
      have ha := nth_map_lt Link.av l i hlt
      have hw := wrap_next (n := i) (by omega)
      have c1 := refcounts_pure t l[i] b ht hbl hb (hk _ (List.getElem_mem hlt))
      have c2 := has_pure out l[i].s ho
      have c3 := has_pure out l[i].t ho
      have hpb : pickB t b out l[i] = (countB t b l[i] && (decide (l[i].s ∈ out) && !decide (l[i].t ∈ out))) := rfl
      have hno : pickB t b out l[i] = false → ∀ j (hj : j < l.length), j < i + 1 → pickB t b out l[j] = false := fun hp j hj hjl => by
        rcases Nat.lt_or_ge j i with h | h
        · exact hall j hj h
        · have : j = i := by omega
          subst this; exact hp
      have hyes := firstI_at hlt hall
      generalize l[i] = a at ha c1 c2 c3 hpb hno hyes
      first | refine tr_seq_region (by rw [hE]; rfl) ?_ | (refine Tr.seq ?_; refine tr_seq_region (by rw [hE]; rfl) ?_)
      repeat (refine vc_op rfl ?_; simp only [e1, go_sem, seval])
      refine vc_nil ?_
      first | refine Tr.cond (b := true) rfl (fun _ => ?_) (fun h => by cases h) | refine Tr.seq (Tr.cond (b := true) rfl (fun _ => ?_) (fun h => by cases h))
      refine Tr.skip ?_
      try simp only [blockK, thenK, ↓reduceIte]
      first | refine Tr.block ?_ | (refine Tr.seq ?_; refine Tr.block ?_)
      generalize countB t b a = x1 at c1 hpb
      generalize decide (a.s ∈ out) = x2 at c2 hpb
      generalize decide (a.t ∈ out) = x3 at c3 hpb
      first | apply tr_md mixed [0] rfl (by rw [hE]; rfl) (by kernel_rfl) | (refine Tr.seq ?_; apply tr_md mixed [0] rfl (by rw [hE]; rfl) (by kernel_rfl))
      intro Q hQ
      simp only [List.toList_toArray, List.map_cons, List.map_nil, mo, guardSlot, Option.map_some, Option.map_none, List.getElem?_toArray, List.getElem?_cons_succ, List.getElem?_cons_zero, Option.bind_some]
      iterate 6 ((refine vd2_q rfl ?_); intro r hr; simp only [ha, go_sem, seval]; subst hr)
      (refine vd2_x rfl ?_); intro r hr; simp only [ha, go_sem, seval]
      refine call_fn rfl rfl rfl rfl (enters_of Tryd.func38 (by kernel_rfl) rfl) (c1) rfl rfl rfl ?_
      simp only [go_sem, seval]
      subst hr
      (refine vd2_q rfl ?_); intro r hr; simp only [go_sem, seval]; subst hr
      exact hQ
      first | apply tr_m (by rw [hE]; rfl) | (refine Tr.seq ?_; apply tr_m (by rw [hE]; rfl))
      intro Q hQ
      simp only [List.toList_toArray, List.map_cons, List.map_nil, mo, guardSlot, Option.map_some, Option.map_none, List.getElem?_toArray, List.getElem?_cons_succ, List.getElem?_cons_zero, Option.bind_some]
      iterate 6 ((refine vm_op ?_); intro r hr; simp only [ha, go_sem, seval]; subst hr)
      (refine vm_op ?_); intro r hr; simp only [ha, go_sem, seval]
      refine call_fn rfl rfl rfl rfl (enters_of Tryd.func22 (by kernel_rfl) rfl) (c2) rfl rfl rfl ?_
      simp only [go_sem, seval]
      subst hr
      (refine vm_op ?_); intro r hr; simp only [go_sem, seval]; subst hr
      exact hQ
      first | apply tr_m (by rw [hE]; rfl) | (refine Tr.seq ?_; apply tr_m (by rw [hE]; rfl))
      intro Q hQ
      simp only [List.toList_toArray, List.map_cons, List.map_nil, mo, guardSlot, Option.map_some, Option.map_none, List.getElem?_toArray, List.getElem?_cons_succ, List.getElem?_cons_zero, Option.bind_some]
      iterate 6 ((refine vm_op ?_); intro r hr; simp only [ha, go_sem, seval]; subst hr)
      (refine vm_op ?_); intro r hr; simp only [ha, go_sem, seval]
      refine call_fn rfl rfl rfl rfl (enters_of Tryd.func22 (by kernel_rfl) rfl) (c3) rfl rfl rfl ?_
      simp only [go_sem, seval]
      subst hr
      (refine vm_op ?_); intro r hr; simp only [go_sem, seval]; subst hr
      exact hQ
      cases hp : pickB t b out a with
      | true =>
        have er := hyes hp
        obtain ⟨rfl, rfl, rfl⟩ : x1 = true ∧ x2 = true ∧ x3 = false := by
          rw [hp] at hpb
          revert hpb
          cases x1 <;> cases x2 <;> cases x3 <;> simp
        first | apply tr_m (by rw [hE]; rfl) | (refine Tr.seq ?_; apply tr_m (by rw [hE]; rfl))
        intro Q hQ
        simp only [List.toList_toArray, List.map_cons, List.map_nil, mo, guardSlot, Option.map_some, Option.map_none, List.getElem?_toArray, List.getElem?_cons_succ, List.getElem?_cons_zero, Option.bind_some]
        iterate 2 ((refine vm_op ?_); intro r hr; simp only [go_sem, seval]; subst hr)
        (first | refine vm_if rfl ?_ | refine vm_no rfl ?_ | refine vm_skip rfl ?_); intro r hr; simp only [go_sem, seval]; subst hr
        iterate 2 ((refine vm_op ?_); intro r hr; simp only [go_sem, seval]; subst hr)
        iterate 2 ((first | refine vm_if rfl ?_ | refine vm_no rfl ?_ | refine vm_skip rfl ?_); intro r hr; simp only [go_sem, seval]; subst hr)
        (refine vm_op ?_); intro r hr; simp only [go_sem, seval]; subst hr
        exact hQ
        first | refine Tr.cond (b := true) rfl (fun _ => ?_) (fun h => by cases h) | refine Tr.seq (Tr.cond (b := true) rfl (fun _ => ?_) (fun h => by cases h))
        first | refine tr_seq_region (by rw [hE]; rfl) ?_ | (refine Tr.seq ?_; refine tr_seq_region (by rw [hE]; rfl) ?_)
        repeat (refine vc_op rfl ?_; simp only [go_sem, seval])
        refine vc_nil ?_
        refine Tr.ret ?_
        simp only [er, Tryd.f36, go_sem, seval]
      | false =>
        have hf : (x1 && (x2 && !x3)) = false := by rw [← hpb]; exact hp
        have hno := hno hp
        cases x1
        · first | apply tr_m (by rw [hE]; rfl) | (refine Tr.seq ?_; apply tr_m (by rw [hE]; rfl))
          intro Q hQ
          simp only [List.toList_toArray, List.map_cons, List.map_nil, mo, guardSlot, Option.map_some, Option.map_none, List.getElem?_toArray, List.getElem?_cons_succ, List.getElem?_cons_zero, Option.bind_some]
          iterate 2 ((refine vm_op ?_); intro r hr; simp only [go_sem, seval]; subst hr)
          (first | refine vm_if rfl ?_ | refine vm_no rfl ?_ | refine vm_skip rfl ?_); intro r hr; simp only [go_sem, seval]; subst hr
          iterate 2 ((refine vm_op ?_); intro r hr; simp only [go_sem, seval]; subst hr)
          iterate 2 ((first | refine vm_if rfl ?_ | refine vm_no rfl ?_ | refine vm_skip rfl ?_); intro r hr; simp only [go_sem, seval]; subst hr)
          (refine vm_op ?_); intro r hr; simp only [go_sem, seval]; subst hr
          exact hQ
          first | refine Tr.cond (b := false) rfl (fun h => by cases h) (fun _ => ?_) | refine Tr.seq (Tr.cond (b := false) rfl (fun h => by cases h) (fun _ => ?_))
          refine Tr.skip ?_
          try simp only [blockK, thenK, ↓reduceIte]
          refine tr_region (by rw [hE]; rfl) ?_
          repeat (refine vc_op rfl ?_; simp only [go_sem, seval])
          refine vc_nil ?_
          rw [hw]
          try simp only [blockK, thenK, ↓reduceIte]
          refine ⟨i + 1, ⟨hlt, hno⟩, by omega, ?_⟩
          refine wk_ren (fun n => n) ?_ ?_ rfl rfl rfl
          · repeat' (first | exact rfl | exact trivial | constructor)
          · repeat' (first | exact rfl | exact trivial | constructor)
        · cases x2
          · first | apply tr_m (by rw [hE]; rfl) | (refine Tr.seq ?_; apply tr_m (by rw [hE]; rfl))
            intro Q hQ
            simp only [List.toList_toArray, List.map_cons, List.map_nil, mo, guardSlot, Option.map_some, Option.map_none, List.getElem?_toArray, List.getElem?_cons_succ, List.getElem?_cons_zero, Option.bind_some]
            iterate 2 ((refine vm_op ?_); intro r hr; simp only [go_sem, seval]; subst hr)
            (first | refine vm_if rfl ?_ | refine vm_no rfl ?_ | refine vm_skip rfl ?_); intro r hr; simp only [go_sem, seval]; subst hr
            iterate 2 ((refine vm_op ?_); intro r hr; simp only [go_sem, seval]; subst hr)
            iterate 2 ((first | refine vm_if rfl ?_ | refine vm_no rfl ?_ | refine vm_skip rfl ?_); intro r hr; simp only [go_sem, seval]; subst hr)
            (refine vm_op ?_); intro r hr; simp only [go_sem, seval]; subst hr
            exact hQ
            first | refine Tr.cond (b := false) rfl (fun h => by cases h) (fun _ => ?_) | refine Tr.seq (Tr.cond (b := false) rfl (fun h => by cases h) (fun _ => ?_))
            refine Tr.skip ?_
            try simp only [blockK, thenK, ↓reduceIte]
            refine tr_region (by rw [hE]; rfl) ?_
            repeat (refine vc_op rfl ?_; simp only [go_sem, seval])
            refine vc_nil ?_
            rw [hw]
            try simp only [blockK, thenK, ↓reduceIte]
            refine ⟨i + 1, ⟨hlt, hno⟩, by omega, ?_⟩
            refine wk_ren (fun n => n) ?_ ?_ rfl rfl rfl
            · repeat' (first | exact rfl | exact trivial | constructor)
            · repeat' (first | exact rfl | exact trivial | constructor)
          · cases x3
            · cases hf
            · first | apply tr_m (by rw [hE]; rfl) | (refine Tr.seq ?_; apply tr_m (by rw [hE]; rfl))
              intro Q hQ
              simp only [List.toList_toArray, List.map_cons, List.map_nil, mo, guardSlot, Option.map_some, Option.map_none, List.getElem?_toArray, List.getElem?_cons_succ, List.getElem?_cons_zero, Option.bind_some]
              iterate 2 ((refine vm_op ?_); intro r hr; simp only [go_sem, seval]; subst hr)
              (first | refine vm_if rfl ?_ | refine vm_no rfl ?_ | refine vm_skip rfl ?_); intro r hr; simp only [go_sem, seval]; subst hr
              iterate 2 ((refine vm_op ?_); intro r hr; simp only [go_sem, seval]; subst hr)
              iterate 2 ((first | refine vm_if rfl ?_ | refine vm_no rfl ?_ | refine vm_skip rfl ?_); intro r hr; simp only [go_sem, seval]; subst hr)
              (refine vm_op ?_); intro r hr; simp only [go_sem, seval]; subst hr
              exact hQ
              first | refine Tr.cond (b := false) rfl (fun h => by cases h) (fun _ => ?_) | refine Tr.seq (Tr.cond (b := false) rfl (fun h => by cases h) (fun _ => ?_))
              refine Tr.skip ?_
              try simp only [blockK, thenK, ↓reduceIte]
              refine tr_region (by rw [hE]; rfl) ?_
              repeat (refine vc_op rfl ?_; simp only [go_sem, seval])
              refine vc_nil ?_
              rw [hw]
              try simp only [blockK, thenK, ↓reduceIte]
              refine ⟨i + 1, ⟨hlt, hno⟩, by omega, ?_⟩
              refine wk_ren (fun n => n) ?_ ?_ rfl rfl rfl
              · repeat' (first | exact rfl | exact trivial | constructor)
              · repeat' (first | exact rfl | exact trivial | constructor)
    · have e1 : decide ((i : Int) < (l.length : Int)) = false := decide_eq_false (by omega)
      have er := firstI_none (t := t) (l := l) (b := b) (out := out) fun j hj => hall j hj (by omega)
      first | refine tr_seq_region (by rw [hE]; rfl) ?_ | (refine Tr.seq ?_; refine tr_seq_region (by rw [hE]; rfl) ?_)
      repeat (refine vc_op rfl ?_; simp only [e1, go_sem, seval])
      refine vc_nil ?_
      first | refine Tr.cond (b := false) rfl (fun h => by cases h) (fun _ => ?_) | refine Tr.seq (Tr.cond (b := false) rfl (fun h => by cases h) (fun _ => ?_))
      refine Tr.exit ?_
      try simp only [blockK, thenK, ↓reduceIte]
      first | refine tr_seq_region (by rw [hE]; rfl) ?_ | (refine Tr.seq ?_; refine tr_seq_region (by rw [hE]; rfl) ?_)
      repeat (refine vc_op rfl ?_; simp only [go_sem, seval])
      refine vc_nil ?_
      refine Tr.ret ?_
      simp only [er, Tryd.f36, go_sem, seval]

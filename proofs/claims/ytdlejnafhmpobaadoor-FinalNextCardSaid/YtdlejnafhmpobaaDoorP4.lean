/- What is justified: the plain words, and the reference. -/
import Derived.Test.YtdlejnafhmpobaaDoorP3
set_option linter.unusedSimpArgs false
set_option maxRecDepth 10000
namespace Go.Proofs.YtdlejnafhmpobaaDoor
open Go Go.Ab

def goB (out : List Check) (a : Link) : Bool := decide (a.s ∈ out) && !decide (a.t ∈ out)
def leftN (ls : List Link) (out : List Check) : Nat := ls.countP fun a => !decide (a.t ∈ out)
def moreN (ls : List Link) : Nat → List Check → List Check
  | 0, out => out
  | n + 1, out => match ls.find? (goB out) with
    | none => out
    | some a => moreN ls n (out ++ [a.t])
def moreF (ls : List Link) (out : List Check) : List Check := moreN ls (leftN ls out) out
def countL (t : List Node) (l : List Link) (b : List Int) : List Link := if toldR t l b then l.filter (countB t b) else []
def moreR (t : List Node) (l : List Link) (b : List Int) (js : List Check) : List Check := moreF (countL t l b) js

theorem leftN_le {ls : List Link} {out : List Check} {c : Check} : leftN ls (out ++ [c]) ≤ leftN ls out :=
  List.countP_mono_left fun a _ h => by
    simp only [List.mem_append, List.mem_singleton, Bool.not_eq_true', decide_eq_false_iff_not, not_or] at h ⊢
    exact h.1
theorem leftN_lt {ls : List Link} {out : List Check} {a : Link} (ha : a ∈ ls) (hn : a.t ∉ out) : leftN ls (out ++ [a.t]) < leftN ls out := by
  unfold leftN
  induction ls with
  | nil => cases ha
  | cons b ls ih =>
    simp only [List.countP_cons]
    have hmono : ls.countP (fun x => !decide (x.t ∈ out ++ [a.t])) ≤ ls.countP fun x => !decide (x.t ∈ out) := leftN_le
    rcases List.mem_cons.1 ha with rfl | ha
    · have e1 : (!decide (a.t ∈ out ++ [a.t])) = false := by simp
      have e2 : (!decide (a.t ∈ out)) = true := by simp [hn]
      rw [e1, e2]
      simp only [Bool.false_eq_true, if_false, if_true]
      omega
    · have := ih ha
      have h2 : (!decide (b.t ∈ out ++ [a.t])) = true → (!decide (b.t ∈ out)) = true := by
        simp only [List.mem_append, List.mem_singleton, Bool.not_eq_true', decide_eq_false_iff_not, not_or]
        exact fun h => h.1
      split
      · rename_i h
        rw [if_pos (h2 h)]
        omega
      · split <;> omega
theorem goB_spec {out : List Check} {a : Link} (h : goB out a = true) : a.s ∈ out ∧ a.t ∉ out := by
  simp only [goB, Bool.and_eq_true, decide_eq_true_eq, Bool.not_eq_true', decide_eq_false_iff_not] at h
  exact h
theorem moreN_fuel (ls : List Link) : ∀ (n m : Nat) (out : List Check), leftN ls out ≤ n → leftN ls out ≤ m → moreN ls n out = moreN ls m out
  | 0, 0, _, _, _ => rfl
  | 0, m + 1, out, h, _ => by
    rw [moreN, moreN]
    cases hf : ls.find? (goB out) with
    | none => rfl
    | some a =>
      have ha := List.mem_of_find?_eq_some hf
      have hg := goB_spec (List.find?_some hf)
      have := leftN_lt ha hg.2
      omega
  | n + 1, 0, out, _, h => by
    rw [moreN, moreN]
    cases hf : ls.find? (goB out) with
    | none => rfl
    | some a =>
      have ha := List.mem_of_find?_eq_some hf
      have hg := goB_spec (List.find?_some hf)
      have := leftN_lt ha hg.2
      omega
  | n + 1, m + 1, out, h1, h2 => by
    rw [moreN, moreN]
    cases hf : ls.find? (goB out) with
    | none => rfl
    | some a =>
      have ha := List.mem_of_find?_eq_some hf
      have hg := goB_spec (List.find?_some hf)
      have := leftN_lt ha hg.2
      exact moreN_fuel ls n m _ (by omega) (by omega)
theorem moreF_none {ls : List Link} {out : List Check} (h : ls.find? (goB out) = none) : moreF ls out = out := by
  unfold moreF
  cases hn : leftN ls out with
  | zero => rfl
  | succ n => rw [moreN, h]
theorem moreF_some {ls : List Link} {out : List Check} {a : Link} (h : ls.find? (goB out) = some a) : moreF ls out = moreF ls (out ++ [a.t]) ∧ leftN ls (out ++ [a.t]) < leftN ls out := by
  have ha := List.mem_of_find?_eq_some h
  have hg := goB_spec (List.find?_some h)
  have hlt := leftN_lt ha hg.2
  refine ⟨?_, hlt⟩
  unfold moreF
  obtain ⟨n, hn⟩ : ∃ n, leftN ls out = n + 1 := ⟨leftN ls out - 1, by omega⟩
  rw [hn, moreN, h]
  exact moreN_fuel ls _ _ _ (by omega) (Nat.le_refl _)

def pickB (t : List Node) (b : List Int) (out : List Check) (a : Link) : Bool := countB t b a && goB out a
def firstI (t : List Node) (l : List Link) (b : List Int) (out : List Check) : Int := match l.findIdx? (pickB t b out) with | some i => (i : Int) | none => -1
theorem firstI_at {t : List Node} {l : List Link} {b : List Int} {out : List Check} {i : Nat} (h : i < l.length) (hb : ∀ j (hj : j < l.length), j < i → pickB t b out l[j] = false) (hi : pickB t b out l[i] = true) : firstI t l b out = i := by
  have : l.findIdx? (pickB t b out) = some i := by
    rw [List.findIdx?_eq_some_iff_getElem]
    exact ⟨h, hi, fun j hj => by rw [hb j (by omega) hj]; simp⟩
  rw [firstI, this]
theorem firstI_none {t : List Node} {l : List Link} {b : List Int} {out : List Check} (hb : ∀ j (hj : j < l.length), pickB t b out l[j] = false) : firstI t l b out = -1 := by
  have : l.findIdx? (pickB t b out) = none := by
    rw [List.findIdx?_eq_none_iff]
    intro x hx
    obtain ⟨j, hj, rfl⟩ := List.mem_iff_getElem.1 hx
    exact hb j hj
  rw [firstI, this]
theorem firstI_law (t : List Node) (l : List Link) (b : List Int) (out : List Check) : (firstI t l b out = -1 ∧ (l.filter (countB t b)).find? (goB out) = none) ∨ ∃ i : Nat, ∃ h : i < l.length, firstI t l b out = i ∧ (l.filter (countB t b)).find? (goB out) = some l[i] := by
  rw [List.find?_filter]
  have e : (fun a => decide (countB t b a = true ∧ goB out a = true)) = pickB t b out := by
    funext a
    unfold pickB
    cases countB t b a <;> cases goB out a <;> rfl
  rw [e]
  unfold firstI
  cases h : l.findIdx? (pickB t b out) with
  | none =>
    left
    refine ⟨rfl, ?_⟩
    rw [List.find?_eq_none]
    intro x hx
    have := List.findIdx?_eq_none_iff.1 h x hx
    simp [this]
  | some i =>
    right
    obtain ⟨h1, h2, h3⟩ := List.findIdx?_eq_some_iff_getElem.1 h
    refine ⟨i, h1, rfl, ?_⟩
    rw [List.find?_eq_some_iff_getElem]
    exact ⟨h2, i, h1, rfl, fun j hj => by have := h3 j hj; simpa using this⟩

theorem first_pure (t : List Node) (l : List Link) (b : List Int) (out : List Check) (ht : t.length ≤ 100) (hl : l.length ≤ 100) (hbl : b.length ≤ 9223372036854775807) (ho : out.length ≤ 100) (hb : okB b) (hk : okL l) : Pure Tryd.prog 36 [tav t, links l, u64s b, checks out] (.int .i64 (firstI t l b out)) := by
  unfold links
  refine pure_of_tr Tryd.func36 rfl (Nat.le_of_ble_eq_true rfl) rfl fun E hE hP => ?_
  first | refine tr_seq_region (by rw [hE]; rfl) ?_ | (refine Tr.seq ?_; refine tr_seq_region (by rw [hE]; rfl) ?_)
  repeat (refine vc_op rfl ?_; simp only [go_sem, seval])
  refine vc_nil ?_
  first | refine tr_seq_region (by rw [hE]; rfl) ?_ | (refine Tr.seq ?_; refine tr_seq_region (by rw [hE]; rfl) ?_)
  repeat (refine vc_op rfl ?_; simp only [go_sem, seval])
  refine vc_nil ?_
  first | refine Tr.block ?_ | (refine Tr.seq ?_; refine Tr.block ?_)
  refine Tr.loop (fun i : Nat => (⟨[(1, .sl (l.map Link.av) false), (2, u64s b), (3, checks out), (4, .ptr 0 [] 0), (9, .int .i64 i)], [(0, .var (tav t))], 1, []⟩ : S)) (fun i => i ≤ l.length ∧ ∀ j (hj : j < l.length), j < i → pickB t b out l[j] = false) (fun i => l.length - i) 0 ⟨Nat.zero_le _, fun _ _ h => by omega⟩ ?_ ?_
  · refine wk_ren (fun n => n) ?_ ?_ rfl rfl rfl
    · repeat' (first | exact rfl | exact trivial | constructor)
    · repeat' (first | exact rfl | exact trivial | constructor)
  · intro i ⟨hi, hall⟩
    by_cases hlt : i < l.length
    · have e1 : decide ((i : Int) < (l.length : Int)) = true := decide_eq_true (by omega)
      have ha := nth_map_lt Link.av l i hlt
      have hw := wrap_next (n := i) (by omega)
      have c1 := refcounts_pure t l[i] b ht hbl hb (hk _ (List.getElem_mem hlt))
      have c2 := has_pure out l[i].s ho
      have c3 := has_pure out l[i].t ho
      have hpb : pickB t b out l[i] = (countB t b l[i] && (decide (l[i].s ∈ out) && !decide (l[i].t ∈ out))) := rfl
      have hno : pickB t b out l[i] = false → ∀ j (hj : j < l.length), j < i + 1 → pickB t b out l[j] = false := fun hp j hj hjl => by
        rcases Nat.lt_or_ge j i with h | h
        · exact hall j hj h
        · have : j = i := by omega
          subst this; exact hp
      have hyes := firstI_at hlt hall
      generalize l[i] = a at ha c1 c2 c3 hpb hno hyes
      first | refine tr_seq_region (by rw [hE]; rfl) ?_ | (refine Tr.seq ?_; refine tr_seq_region (by rw [hE]; rfl) ?_)
      repeat (refine vc_op rfl ?_; simp only [e1, go_sem, seval])
      refine vc_nil ?_
      first | refine Tr.cond (b := true) rfl (fun _ => ?_) (fun h => by cases h) | refine Tr.seq (Tr.cond (b := true) rfl (fun _ => ?_) (fun h => by cases h))
      refine Tr.skip ?_
      try simp only [blockK, thenK, ↓reduceIte]
      first | refine Tr.block ?_ | (refine Tr.seq ?_; refine Tr.block ?_)
      generalize countB t b a = x1 at c1 hpb
      generalize decide (a.s ∈ out) = x2 at c2 hpb
      generalize decide (a.t ∈ out) = x3 at c3 hpb
      first | apply tr_md mixed [0] rfl (by rw [hE]; rfl) (by kernel_rfl) | (refine Tr.seq ?_; apply tr_md mixed [0] rfl (by rw [hE]; rfl) (by kernel_rfl))
      intro Q hQ
      simp only [go_sem, seval]
      iterate 6 ((refine vd2_q rfl ?_); intro r hr; simp only [ha, go_sem, seval]; subst hr)
      (refine vd2_x rfl ?_); intro r hr; simp only [ha, go_sem, seval]
      refine call_fn rfl rfl rfl rfl (enters_of Tryd.func38 (by kernel_rfl) rfl) (c1) rfl rfl rfl ?_
      simp only [go_sem, seval]
      subst hr
      (refine vd2_q rfl ?_); intro r hr; simp only [go_sem, seval]; subst hr
      exact hQ
      first | apply tr_m (by rw [hE]; rfl) | (refine Tr.seq ?_; apply tr_m (by rw [hE]; rfl))
      intro Q hQ
      simp only [go_sem, seval]
      iterate 6 ((refine vm_op ?_); intro r hr; simp only [ha, go_sem, seval]; subst hr)
      (refine vm_op ?_); intro r hr; simp only [ha, go_sem, seval]
      refine call_fn rfl rfl rfl rfl (enters_of Tryd.func22 (by kernel_rfl) rfl) (c2) rfl rfl rfl ?_
      simp only [go_sem, seval]
      subst hr
      (refine vm_op ?_); intro r hr; simp only [go_sem, seval]; subst hr
      exact hQ
      first | apply tr_m (by rw [hE]; rfl) | (refine Tr.seq ?_; apply tr_m (by rw [hE]; rfl))
      intro Q hQ
      simp only [go_sem, seval]
      iterate 6 ((refine vm_op ?_); intro r hr; simp only [ha, go_sem, seval]; subst hr)
      (refine vm_op ?_); intro r hr; simp only [ha, go_sem, seval]
      refine call_fn rfl rfl rfl rfl (enters_of Tryd.func22 (by kernel_rfl) rfl) (c3) rfl rfl rfl ?_
      simp only [go_sem, seval]
      subst hr
      (refine vm_op ?_); intro r hr; simp only [go_sem, seval]; subst hr
      exact hQ
      cases hp : pickB t b out a with
      | true =>
        have er := hyes hp
        obtain ⟨rfl, rfl, rfl⟩ : x1 = true ∧ x2 = true ∧ x3 = false := by
          rw [hp] at hpb
          revert hpb
          cases x1 <;> cases x2 <;> cases x3 <;> simp
        first | apply tr_m (by rw [hE]; rfl) | (refine Tr.seq ?_; apply tr_m (by rw [hE]; rfl))
        intro Q hQ
        simp only [go_sem, seval]
        iterate 2 ((refine vm_op ?_); intro r hr; simp only [go_sem, seval]; subst hr)
        (first | refine vm_if rfl ?_ | refine vm_no rfl ?_ | refine vm_skip rfl ?_); intro r hr; simp only [go_sem, seval]; subst hr
        iterate 2 ((refine vm_op ?_); intro r hr; simp only [go_sem, seval]; subst hr)
        iterate 2 ((first | refine vm_if rfl ?_ | refine vm_no rfl ?_ | refine vm_skip rfl ?_); intro r hr; simp only [go_sem, seval]; subst hr)
        (refine vm_op ?_); intro r hr; simp only [go_sem, seval]; subst hr
        exact hQ
        first | refine Tr.cond (b := true) rfl (fun _ => ?_) (fun h => by cases h) | refine Tr.seq (Tr.cond (b := true) rfl (fun _ => ?_) (fun h => by cases h))
        first | refine tr_seq_region (by rw [hE]; rfl) ?_ | (refine Tr.seq ?_; refine tr_seq_region (by rw [hE]; rfl) ?_)
        repeat (refine vc_op rfl ?_; simp only [go_sem, seval])
        refine vc_nil ?_
        refine Tr.ret ?_
        simp only [er, Tryd.f36, go_sem, seval]
      | false =>
        have hf : (x1 && (x2 && !x3)) = false := by rw [← hpb]; exact hp
        have hno := hno hp
        cases x1
        · first | apply tr_m (by rw [hE]; rfl) | (refine Tr.seq ?_; apply tr_m (by rw [hE]; rfl))
          intro Q hQ
          simp only [go_sem, seval]
          iterate 2 ((refine vm_op ?_); intro r hr; simp only [go_sem, seval]; subst hr)
          (first | refine vm_if rfl ?_ | refine vm_no rfl ?_ | refine vm_skip rfl ?_); intro r hr; simp only [go_sem, seval]; subst hr
          iterate 2 ((refine vm_op ?_); intro r hr; simp only [go_sem, seval]; subst hr)
          iterate 2 ((first | refine vm_if rfl ?_ | refine vm_no rfl ?_ | refine vm_skip rfl ?_); intro r hr; simp only [go_sem, seval]; subst hr)
          (refine vm_op ?_); intro r hr; simp only [go_sem, seval]; subst hr
          exact hQ
          first | refine Tr.cond (b := false) rfl (fun h => by cases h) (fun _ => ?_) | refine Tr.seq (Tr.cond (b := false) rfl (fun h => by cases h) (fun _ => ?_))
          refine Tr.skip ?_
          try simp only [blockK, thenK, ↓reduceIte]
          refine tr_region (by rw [hE]; rfl) ?_
          repeat (refine vc_op rfl ?_; simp only [go_sem, seval])
          refine vc_nil ?_
          rw [hw]
          try simp only [blockK, thenK, ↓reduceIte]
          refine ⟨i + 1, ⟨hlt, hno⟩, by omega, ?_⟩
          refine wk_ren (fun n => n) ?_ ?_ rfl rfl rfl
          · repeat' (first | exact rfl | exact trivial | constructor)
          · repeat' (first | exact rfl | exact trivial | constructor)
        · cases x2
          · first | apply tr_m (by rw [hE]; rfl) | (refine Tr.seq ?_; apply tr_m (by rw [hE]; rfl))
            intro Q hQ
            simp only [go_sem, seval]
            iterate 2 ((refine vm_op ?_); intro r hr; simp only [go_sem, seval]; subst hr)
            (first | refine vm_if rfl ?_ | refine vm_no rfl ?_ | refine vm_skip rfl ?_); intro r hr; simp only [go_sem, seval]; subst hr
            iterate 2 ((refine vm_op ?_); intro r hr; simp only [go_sem, seval]; subst hr)
            iterate 2 ((first | refine vm_if rfl ?_ | refine vm_no rfl ?_ | refine vm_skip rfl ?_); intro r hr; simp only [go_sem, seval]; subst hr)
            (refine vm_op ?_); intro r hr; simp only [go_sem, seval]; subst hr
            exact hQ
            first | refine Tr.cond (b := false) rfl (fun h => by cases h) (fun _ => ?_) | refine Tr.seq (Tr.cond (b := false) rfl (fun h => by cases h) (fun _ => ?_))
            refine Tr.skip ?_
            try simp only [blockK, thenK, ↓reduceIte]
            refine tr_region (by rw [hE]; rfl) ?_
            repeat (refine vc_op rfl ?_; simp only [go_sem, seval])
            refine vc_nil ?_
            rw [hw]
            try simp only [blockK, thenK, ↓reduceIte]
            refine ⟨i + 1, ⟨hlt, hno⟩, by omega, ?_⟩
            refine wk_ren (fun n => n) ?_ ?_ rfl rfl rfl
            · repeat' (first | exact rfl | exact trivial | constructor)
            · repeat' (first | exact rfl | exact trivial | constructor)
          · cases x3
            · cases hf
            · first | apply tr_m (by rw [hE]; rfl) | (refine Tr.seq ?_; apply tr_m (by rw [hE]; rfl))
              intro Q hQ
              simp only [go_sem, seval]
              iterate 2 ((refine vm_op ?_); intro r hr; simp only [go_sem, seval]; subst hr)
              (first | refine vm_if rfl ?_ | refine vm_no rfl ?_ | refine vm_skip rfl ?_); intro r hr; simp only [go_sem, seval]; subst hr
              iterate 2 ((refine vm_op ?_); intro r hr; simp only [go_sem, seval]; subst hr)
              iterate 2 ((first | refine vm_if rfl ?_ | refine vm_no rfl ?_ | refine vm_skip rfl ?_); intro r hr; simp only [go_sem, seval]; subst hr)
              (refine vm_op ?_); intro r hr; simp only [go_sem, seval]; subst hr
              exact hQ
              first | refine Tr.cond (b := false) rfl (fun h => by cases h) (fun _ => ?_) | refine Tr.seq (Tr.cond (b := false) rfl (fun h => by cases h) (fun _ => ?_))
              refine Tr.skip ?_
              try simp only [blockK, thenK, ↓reduceIte]
              refine tr_region (by rw [hE]; rfl) ?_
              repeat (refine vc_op rfl ?_; simp only [go_sem, seval])
              refine vc_nil ?_
              rw [hw]
              try simp only [blockK, thenK, ↓reduceIte]
              refine ⟨i + 1, ⟨hlt, hno⟩, by omega, ?_⟩
              refine wk_ren (fun n => n) ?_ ?_ rfl rfl rfl
              · repeat' (first | exact rfl | exact trivial | constructor)
              · repeat' (first | exact rfl | exact trivial | constructor)
    · have e1 : decide ((i : Int) < (l.length : Int)) = false := decide_eq_false (by omega)
      have er := firstI_none (t := t) (l := l) (b := b) (out := out) fun j hj => hall j hj (by omega)
      first | refine tr_seq_region (by rw [hE]; rfl) ?_ | (refine Tr.seq ?_; refine tr_seq_region (by rw [hE]; rfl) ?_)
      repeat (refine vc_op rfl ?_; simp only [e1, go_sem, seval])
      refine vc_nil ?_
      first | refine Tr.cond (b := false) rfl (fun h => by cases h) (fun _ => ?_) | refine Tr.seq (Tr.cond (b := false) rfl (fun h => by cases h) (fun _ => ?_))
      refine Tr.exit ?_
      try simp only [blockK, thenK, ↓reduceIte]
      first | refine tr_seq_region (by rw [hE]; rfl) ?_ | (refine Tr.seq ?_; refine tr_seq_region (by rw [hE]; rfl) ?_)
      repeat (refine vc_op rfl ?_; simp only [go_sem, seval])
      refine vc_nil ?_
      refine Tr.ret ?_
      simp only [er, Tryd.f36, go_sem, seval]

end Go.Proofs.YtdlejnafhmpobaaDoor

/- The reference: what is justified. -/
set_option linter.unusedSimpArgs false
set_option maxRecDepth 10000
namespace Go.Proofs.YtdlejnafhmpobaaDoor
open Go Go.Ab

theorem moreR_not {t : List Node} {l : List Link} {b : List Int} {js : List Check} (h : toldR t l b = false) : moreR t l b js = js := by
  unfold moreR countL
  rw [if_neg (by simp [h])]
  exact moreF_none rfl
theorem moreR_told {t : List Node} {l : List Link} {b : List Int} {js : List Check} (h : toldR t l b = true) : moreR t l b js = moreF (l.filter (countB t b)) js := by
  unfold moreR countL
  rw [if_pos h]
theorem leftN_len (ls : List Link) (out : List Check) : leftN ls out ≤ ls.length := List.countP_le_length

def stM (t : List Node) (l : List Link) (b : List Int) (out : List Check) : S where
  fr := [(1, .sl (l.map Link.av) false), (2, u64s b), (4, .ptr 0 [] 0), (9, .ms 16 33 out.length), (11, .int .i64 (firstI t l b out))]
  hp := [(0, .var (tav t)), (16, .row 33 (out.map Check.av))]
  nx := 17

theorem refmore_pure (t : List Node) (l : List Link) (b : List Int) (js : List Check) (ht : t.length ≤ 100) (hl : l.length ≤ 40) (hbl : b.length ≤ 9223372036854775807) (hj : js.length ≤ 40) (hb : okB b) (hk : okL l) : Pure Tryd.prog 13 [tav t, links l, u64s b, checks js] (checks (moreR t l b js)) := by
  have h1 := reftold_pure t l b ht (by omega) hbl hk
  unfold checks
  refine pure_of_tr Tryd.func13 rfl (Nat.le_of_ble_eq_true rfl) rfl fun E hE hP => ?_
  first | refine tr_seq_region (by rw [hE]; rfl) ?_ | (refine Tr.seq ?_; refine tr_seq_region (by rw [hE]; rfl) ?_)
  repeat (refine vc_op rfl ?_; simp only [go_sem, seval])
  refine vc_nil ?_
  first | refine tr_seq_region (by rw [hE]; rfl) ?_ | (refine Tr.seq ?_; refine tr_seq_region (by rw [hE]; rfl) ?_)
  repeat (refine vc_op rfl ?_; simp only [go_sem, seval])
  refine ⟨lens_checks js, by omega, by omega, .inl trivial, ?_⟩
  repeat (refine vc_op rfl ?_; simp only [go_sem, seval])
  refine vc_nil ?_
  cases h : toldR t l b with
  | false =>
    have er := moreR_not (js := js) h
    rw [h] at h1
    first | apply tr_m (by rw [hE]; rfl) | (refine Tr.seq ?_; apply tr_m (by rw [hE]; rfl))
    intro Q hQ
    simp only [go_sem, seval]
    iterate 3 ((refine vm_op ?_); intro r hr; simp only [go_sem, seval]; subst hr)
    (refine vm_op ?_); intro r hr; simp only [go_sem, seval]
    refine call_fn rfl rfl rfl rfl (enters_of Tryd.func35 (by kernel_rfl) rfl) (h1) rfl rfl rfl ?_
    simp only [go_sem, seval]
    subst hr
    (refine vm_op ?_); intro r hr; simp only [go_sem, seval]; subst hr
    exact hQ
    first | refine tr_seq_region (by rw [hE]; rfl) ?_ | (refine Tr.seq ?_; refine tr_seq_region (by rw [hE]; rfl) ?_)
    repeat (refine vc_op rfl ?_; simp only [go_sem, seval])
    refine vc_nil ?_
    first | refine Tr.cond (b := true) rfl (fun _ => ?_) (fun h => by cases h) | refine Tr.seq (Tr.cond (b := true) rfl (fun _ => ?_) (fun h => by cases h))
    first | refine tr_seq_region (by rw [hE]; rfl) ?_ | (refine Tr.seq ?_; refine tr_seq_region (by rw [hE]; rfl) ?_)
    repeat (refine vc_op rfl ?_; simp only [go_sem, seval])
    refine vc_nil ?_
    have hlen : js.length = (js.map Check.av).length := by simp
    refine Tr.ret ?_
    simp only [er, ← hlen, Tryd.f13, go_sem, seval]
  | true =>
    have er := moreR_told (js := js) h
    rw [h] at h1
    have hf := first_pure t l b js ht (by omega) hbl (by omega) hb hk
    first | apply tr_m (by rw [hE]; rfl) | (refine Tr.seq ?_; apply tr_m (by rw [hE]; rfl))
    intro Q hQ
    simp only [go_sem, seval]
    iterate 3 ((refine vm_op ?_); intro r hr; simp only [go_sem, seval]; subst hr)
    (refine vm_op ?_); intro r hr; simp only [go_sem, seval]
    refine call_fn rfl rfl rfl rfl (enters_of Tryd.func35 (by kernel_rfl) rfl) (h1) rfl rfl rfl ?_
    simp only [go_sem, seval]
    subst hr
    (refine vm_op ?_); intro r hr; simp only [go_sem, seval]; subst hr
    exact hQ
    first | refine tr_seq_region (by rw [hE]; rfl) ?_ | (refine Tr.seq ?_; refine tr_seq_region (by rw [hE]; rfl) ?_)
    repeat (refine vc_op rfl ?_; simp only [go_sem, seval])
    refine vc_nil ?_
    first | refine Tr.cond rfl (fun h => by cases h) (fun _ => ?_) | refine Tr.seq (Tr.cond rfl (fun h => by cases h) (fun _ => ?_))
    refine Tr.skip ?_
    try simp only [blockK, thenK, ↓reduceIte]
    first | apply tr_m (by rw [hE]; rfl) | (refine Tr.seq ?_; apply tr_m (by rw [hE]; rfl))
    intro Q hQ
    simp only [go_sem, seval]
    iterate 4 ((refine vm_op ?_); intro r hr; simp only [go_sem, seval]; subst hr)
    (refine vm_op ?_); intro r hr; simp only [go_sem, seval]
    refine call_fn rfl rfl rfl rfl (enters_of Tryd.func36 (by kernel_rfl) rfl) (hf) (by (simp only [checks, List.length_map, go_sem, seval]) <;> rfl) rfl rfl ?_
    simp only [go_sem, seval]
    subst hr
    (refine vm_op ?_); intro r hr; simp only [go_sem, seval]; subst hr
    exact hQ
    first | refine Tr.block ?_ | (refine Tr.seq ?_; refine Tr.block ?_)
    refine Tr.loop (stM t l b) (fun out => moreF (l.filter (countB t b)) out = moreF (l.filter (countB t b)) js ∧ out.length + leftN (l.filter (countB t b)) out ≤ 80) (fun out => leftN (l.filter (countB t b)) out) js ⟨rfl, ?_⟩ ?_ ?_
    · have h1 := leftN_len (l.filter (countB t b)) js
      have h2 : (l.filter (countB t b)).length ≤ l.length := List.length_filter_le _ _
      omega
    · refine wk_ren (fun | 16 => 48 | n => n) ?_ ?_ rfl rfl rfl
      · repeat' (first | exact rfl | exact trivial | constructor)
      · repeat' (first | exact rfl | exact trivial | constructor)
    · intro out ⟨hsame, hlen⟩
      unfold stM
      rcases firstI_law t l b out with ⟨hi, hn⟩ | ⟨i, hil, hi, hn⟩
      · have er2 := moreF_none hn
        rw [hi]
        have e1 : decide ((0 : Int) ≤ -1) = false := rfl
        first | refine tr_seq_region (by rw [hE]; rfl) ?_ | (refine Tr.seq ?_; refine tr_seq_region (by rw [hE]; rfl) ?_)
        repeat (refine vc_op rfl ?_; simp only [e1, go_sem, seval])
        refine vc_nil ?_
        first | refine Tr.cond (b := false) rfl (fun h => by cases h) (fun _ => ?_) | refine Tr.seq (Tr.cond (b := false) rfl (fun h => by cases h) (fun _ => ?_))
        refine Tr.exit ?_
        try simp only [blockK, thenK, ↓reduceIte]
        rw [er, ← hsame, er2]
        first | refine tr_seq_region (by rw [hE]; rfl) ?_ | (refine Tr.seq ?_; refine tr_seq_region (by rw [hE]; rfl) ?_)
        repeat (refine vc_op rfl ?_; simp only [go_sem, seval])
        refine vc_nil ?_
        have hlen : out.length = (out.map Check.av).length := by simp
        refine Tr.ret ?_
        simp only [← hlen, Tryd.f13, go_sem, seval]
      · obtain ⟨hs, hlt⟩ := moreF_some hn
        rw [hi]
        have e1 : decide ((0 : Int) ≤ (i : Int)) = true := decide_eq_true (by omega)
        have ha := nth_map_lt Link.av l i hil
        generalize l[i] = a at ha hs hlt
        have hf := first_pure t l b (out ++ [a.t]) ht (by omega) hbl (by simp; omega) hb hk
        first | refine tr_seq_region (by rw [hE]; rfl) ?_ | (refine Tr.seq ?_; refine tr_seq_region (by rw [hE]; rfl) ?_)
        repeat (refine vc_op rfl ?_; simp only [e1, go_sem, seval])
        refine vc_nil ?_
        first | refine Tr.cond (b := true) rfl (fun _ => ?_) (fun h => by cases h) | refine Tr.seq (Tr.cond (b := true) rfl (fun _ => ?_) (fun h => by cases h))
        refine Tr.skip ?_
        try simp only [blockK, thenK, ↓reduceIte]
        first | refine Tr.block ?_ | (refine Tr.seq ?_; refine Tr.block ?_)
        first | apply tr_m (by rw [hE]; rfl) | (refine Tr.seq ?_; apply tr_m (by rw [hE]; rfl))
        intro Q hQ
        simp only [go_sem, seval]
        iterate 7 ((refine vm_op ?_); intro r hr; simp only [ha, go_sem, seval]; subst hr)
        (refine vm_op ?_); intro r hr; simp only [ha, go_sem, seval]
        refine ⟨by omega, by omega, ?_⟩
        simp only [List.filter_cons, List.filter_nil, Bool.not_false, Bool.not_true, if_true, Bool.false_eq_true, if_false, go_sem, seval]
        subst hr
        (refine vm_op ?_); intro r hr; simp only [go_sem, seval]; subst hr
        exact hQ
        apply tr_ml (by rw [hE]; rfl)
        intro Q hQ
        simp only [go_sem, seval]
        iterate 4 ((refine vm_op ?_); intro r hr; simp only [go_sem, seval]; subst hr)
        (refine vm_op ?_); intro r hr; simp only [go_sem, seval]
        refine call_fn rfl rfl rfl rfl (enters_of Tryd.func36 (by kernel_rfl) rfl) (hf) (by (simp only [checks, List.map_append, List.map_cons, List.map_nil, List.length_append, List.length_singleton, List.length_map, eq_self, go_sem, seval]) <;> rfl) rfl rfl ?_
        simp only [go_sem, seval]
        subst hr
        (refine vm_op ?_); intro r hr; simp only [go_sem, seval]; subst hr
        exact hQ
        try simp only [blockK, thenK, ↓reduceIte]
        refine ⟨out ++ [a.t], ⟨hs.symm.trans hsame, by simp only [List.length_append, List.length_singleton]; omega⟩, hlt, ?_⟩
        simp only [stM, List.map_append, List.length_append, List.length_singleton, List.map_cons, List.map_nil]
        refine wk_ren (fun | 16 => 161 | n => n) ?_ ?_ rfl rfl rfl
        · repeat' (first | exact rfl | exact trivial | constructor)
        · repeat' (first | exact rfl | exact trivial | constructor)

end Go.Proofs.YtdlejnafhmpobaaDoor

/- The reference: what may be final. -/
set_option linter.unusedSimpArgs false
set_option maxRecDepth 10000
namespace Go.Proofs.YtdlejnafhmpobaaDoor
open Go Go.Ab

def okC (l : List Link) : Prop := ∀ a ∈ l, 0 ≤ a.s.epoch ∧ 0 ≤ a.t.epoch ∧ a.s.epoch < 18446744073709551616 ∧ a.t.epoch < 18446744073709551616
def linkF (js : List Check) (c : Check) (a : Link) : Bool := decide (a.t ∈ js) && (decide (a.s = c) && decide (a.t.epoch = a.s.epoch + 1))
def finB (t : List Node) (l : List Link) (b : List Int) (js : List Check) (c : Check) : Bool := (countL t l b).any (linkF js c)
def finalsR (t : List Node) (l : List Link) (b : List Int) (js : List Check) : List Check := js.filter (finB t l b js)

def linkW (js : List Check) (c : Check) (a : Link) : Bool := decide (a.t ∈ js) && (decide (a.s = c) && decide (IntKind.u64.wrap (a.t.epoch - 1) = c.epoch))
def anyW (t : List Node) (l : List Link) (b : List Int) (js : List Check) (c : Check) (k : Nat) : Bool := (l.take k).any fun a => countB t b a && linkW js c a

theorem told_links {t : List Node} {l : List Link} {b : List Int} (h : toldR t l b = true) : mayB t = true ∧ lmayB l = true ∧ mayS b = true := by
  simpa [toldR] using h
theorem may_epoch {l : List Link} (h : lmayB l = true) {a : Link} (ha : a ∈ l) : a.s.epoch < a.t.epoch := (odd_false.1 ((may_spec h).2.1 a ha)).1
theorem finals_not {t : List Node} {l : List Link} {b : List Int} {js : List Check} (h : toldR t l b = false) : finalsR t l b js = [] := by
  unfold finalsR finB countL
  rw [if_neg (by simp [h])]
  simp
theorem anyW_all {t : List Node} {l : List Link} {b : List Int} {js : List Check} {c : Check} (h : toldR t l b = true) (hk : okC l) : anyW t l b js c l.length = finB t l b js c := by
  unfold anyW finB countL
  rw [if_pos h, List.take_length, List.any_filter, Bool.eq_iff_iff, List.any_eq_true, List.any_eq_true]
  have hl := (told_links h).2.1
  have e : ∀ a ∈ l, linkW js c a = linkF js c a := fun a ha => by
    have h1 := may_epoch hl ha
    have h2 := hk a ha
    have hw : IntKind.u64.wrap (a.t.epoch - 1) = a.t.epoch - 1 := wrapU_lt (by omega) (by omega)
    unfold linkW linkF
    rw [hw]
    by_cases hs : a.s = c
    · have : decide (a.t.epoch - 1 = c.epoch) = decide (a.t.epoch = a.s.epoch + 1) := decide_eq_decide.2 (by rw [hs]; omega)
      rw [this]
    · rw [decide_eq_false hs]; simp
  constructor
  · rintro ⟨a, ha, hb⟩
    exact ⟨a, ha, by rw [← e a ha]; exact hb⟩
  · rintro ⟨a, ha, hb⟩
    exact ⟨a, ha, by rw [e a ha]; exact hb⟩
theorem anyW_next {t : List Node} {l : List Link} {b : List Int} {js : List Check} {c : Check} {k : Nat} (h : k < l.length) : anyW t l b js c (k + 1) = (anyW t l b js c k || (countB t b l[k] && linkW js c l[k])) := by
  unfold anyW
  rw [List.take_add_one, List.getElem?_eq_getElem h, List.any_append]
  simp only [Option.toList_some, List.any_cons, List.any_nil, Bool.or_false]

def stF (t : List Node) (l : List Link) (b : List Int) (js : List Check) (i : Nat) : S where
  fr := [(1, .sl (l.map Link.av) false), (2, u64s b), (3, .sl (js.map Check.av) false), (4, .ptr 0 [] 0), (9, .ms 1 33 ((js.take i).filter (finB t l b js)).length), (10, .bool true), (11, .int .i64 i)]
  hp := [(0, .var (tav t)), (1, .row 33 (((js.take i).filter (finB t l b js)).map Check.av))]
  nx := 2
def stFi (t : List Node) (l : List Link) (b : List Int) (js : List Check) (i : Nat) (c : Check) (m : List Check) (k : Nat) : S where
  fr := [(1, .sl (l.map Link.av) false), (2, u64s b), (3, .sl (js.map Check.av) false), (4, .ptr 0 [] 0), (9, .ms 1 33 m.length), (10, .bool true), (11, .int .i64 i), (12, .bool (anyW t l b js c k)), (13, .int .i64 k)]
  hp := [(0, .var (tav t)), (1, .row 33 (m.map Check.av))]
  nx := 2

theorem reffinals_pure (t : List Node) (l : List Link) (b : List Int) (js : List Check) (ht : t.length ≤ 100) (hl : l.length ≤ 100) (hbl : b.length ≤ 9223372036854775807) (hj : js.length ≤ 100) (hb : okB b) (hk : okL l) (hc : okC l) : Pure Tryd.prog 15 [tav t, links l, u64s b, checks js] (checks (finalsR t l b js)) := by
  have h1 := reftold_pure t l b ht hl hbl hk
  unfold checks
  cases h : toldR t l b with
  | false =>
    have er := finals_not (js := js) h
    rw [h] at h1
    unfold links at h1 ⊢
    refine pure_of_tr Tryd.func15 rfl (Nat.le_of_ble_eq_true rfl) rfl fun E hE hP => ?_
    first | refine tr_seq_region (by rw [hE]; rfl) ?_ | (refine Tr.seq ?_; refine tr_seq_region (by rw [hE]; rfl) ?_)
    repeat (refine vc_op rfl ?_; simp only [go_sem, seval])
    refine vc_nil ?_
    first | refine tr_seq_region (by rw [hE]; rfl) ?_ | (refine Tr.seq ?_; refine tr_seq_region (by rw [hE]; rfl) ?_)
    repeat (refine vc_op rfl ?_; simp only [go_sem, seval])
    refine vc_nil ?_
    first | apply tr_m (by rw [hE]; rfl) | (refine Tr.seq ?_; apply tr_m (by rw [hE]; rfl))
    intro Q hQ
    simp only [go_sem, seval]
    iterate 3 ((refine vm_op ?_); intro r hr; simp only [go_sem, seval]; subst hr)
    (refine vm_op ?_); intro r hr; simp only [go_sem, seval]
    refine call_fn rfl rfl rfl rfl (enters_of Tryd.func35 (by kernel_rfl) rfl) (h1) rfl rfl rfl ?_
    simp only [go_sem, seval]
    subst hr
    (refine vm_op ?_); intro r hr; simp only [go_sem, seval]; subst hr
    exact hQ
    first | refine tr_seq_region (by rw [hE]; rfl) ?_ | (refine Tr.seq ?_; refine tr_seq_region (by rw [hE]; rfl) ?_)
    repeat (refine vc_op rfl ?_; simp only [go_sem, seval])
    refine vc_nil ?_
    first | refine Tr.block ?_ | (refine Tr.seq ?_; refine Tr.block ?_)
    refine Tr.loop (fun _ : Unit => (⟨[(3, .sl (js.map Check.av) false), (9, .sl [] true), (10, .bool false), (11, .int .i64 0)], [], 1, []⟩ : S)) (fun _ => True) (fun _ => 0) () trivial ?_ ?_
    · refine wk_ren (fun n => n) ?_ ?_ rfl rfl rfl
      · repeat' (first | exact rfl | exact trivial | constructor)
      · repeat' (first | exact rfl | exact trivial | constructor)
    · intro _ _
      cases hb0 : decide ((0 : Int) < (js.length : Int))
      · first | apply tr_m (by rw [hE]; rfl) | (refine Tr.seq ?_; apply tr_m (by rw [hE]; rfl))
        intro Q hQ
        simp only [go_sem, seval]
        iterate 5 ((refine vm_op ?_); intro r hr; simp only [hb0, go_sem, seval]; subst hr)
        (first | refine vm_if rfl ?_ | refine vm_no rfl ?_ | refine vm_skip rfl ?_); intro r hr; simp only [hb0, go_sem, seval]; subst hr
        (refine vm_op ?_); intro r hr; simp only [hb0, go_sem, seval]; subst hr
        exact hQ
        first | refine Tr.cond (b := false) rfl (fun h => by cases h) (fun _ => ?_) | refine Tr.seq (Tr.cond (b := false) rfl (fun h => by cases h) (fun _ => ?_))
        refine Tr.exit ?_
        try simp only [blockK, thenK, ↓reduceIte]
        first | refine tr_seq_region (by rw [hE]; rfl) ?_ | (refine Tr.seq ?_; refine tr_seq_region (by rw [hE]; rfl) ?_)
        repeat (refine vc_op rfl ?_; simp only [go_sem, seval])
        refine vc_nil ?_
        refine Tr.ret ?_
        simp only [er, Tryd.f15, go_sem, seval]
      · first | apply tr_m (by rw [hE]; rfl) | (refine Tr.seq ?_; apply tr_m (by rw [hE]; rfl))
        intro Q hQ
        simp only [go_sem, seval]
        iterate 5 ((refine vm_op ?_); intro r hr; simp only [hb0, go_sem, seval]; subst hr)
        (first | refine vm_if rfl ?_ | refine vm_no rfl ?_ | refine vm_skip rfl ?_); intro r hr; simp only [hb0, go_sem, seval]; subst hr
        (refine vm_op ?_); intro r hr; simp only [hb0, go_sem, seval]; subst hr
        exact hQ
        first | refine Tr.cond (b := false) rfl (fun h => by cases h) (fun _ => ?_) | refine Tr.seq (Tr.cond (b := false) rfl (fun h => by cases h) (fun _ => ?_))
        refine Tr.exit ?_
        try simp only [blockK, thenK, ↓reduceIte]
        first | refine tr_seq_region (by rw [hE]; rfl) ?_ | (refine Tr.seq ?_; refine tr_seq_region (by rw [hE]; rfl) ?_)
        repeat (refine vc_op rfl ?_; simp only [go_sem, seval])
        refine vc_nil ?_
        refine Tr.ret ?_
        simp only [er, Tryd.f15, go_sem, seval]
  | true =>
    rw [h] at h1
    unfold links at h1 ⊢
    refine pure_of_tr Tryd.func15 rfl (Nat.le_of_ble_eq_true rfl) rfl fun E hE hP => ?_
    first | refine tr_seq_region (by rw [hE]; rfl) ?_ | (refine Tr.seq ?_; refine tr_seq_region (by rw [hE]; rfl) ?_)
    repeat (refine vc_op rfl ?_; simp only [go_sem, seval])
    refine vc_nil ?_
    first | refine tr_seq_region (by rw [hE]; rfl) ?_ | (refine Tr.seq ?_; refine tr_seq_region (by rw [hE]; rfl) ?_)
    repeat (refine vc_op rfl ?_; simp only [go_sem, seval])
    refine vc_nil ?_
    first | apply tr_m (by rw [hE]; rfl) | (refine Tr.seq ?_; apply tr_m (by rw [hE]; rfl))
    intro Q hQ
    simp only [go_sem, seval]
    iterate 3 ((refine vm_op ?_); intro r hr; simp only [go_sem, seval]; subst hr)
    (refine vm_op ?_); intro r hr; simp only [go_sem, seval]
    refine call_fn rfl rfl rfl rfl (enters_of Tryd.func35 (by kernel_rfl) rfl) (h1) rfl rfl rfl ?_
    simp only [go_sem, seval]
    subst hr
    (refine vm_op ?_); intro r hr; simp only [go_sem, seval]; subst hr
    exact hQ
    first | refine tr_seq_region (by rw [hE]; rfl) ?_ | (refine Tr.seq ?_; refine tr_seq_region (by rw [hE]; rfl) ?_)
    repeat (refine vc_op rfl ?_; simp only [go_sem, seval])
    refine vc_nil ?_
    first | refine Tr.block ?_ | (refine Tr.seq ?_; refine Tr.block ?_)
    refine Tr.loop (stF t l b js) (fun i => i ≤ js.length) (fun i => js.length - i) 0 (Nat.zero_le _) ?_ ?_
    · refine (Wk.nil 9 33 rfl).trans ?_
      refine wk_ren (fun | 1 => 144 | n => n) ?_ ?_ rfl rfl rfl
      · repeat' (first | exact rfl | exact trivial | constructor)
      · repeat' (first | exact rfl | exact trivial | constructor)
    · intro i hi
      unfold stF
      by_cases hlt : i < js.length
      · have e1 : decide ((i : Int) < (js.length : Int)) = true := decide_eq_true (by omega)
        have hn := nth_map_lt Check.av js i hlt
        have hw := wrap_next (n := i) (by omega)
        have hnx : (js.take (i + 1)).filter (finB t l b js) = (js.take i).filter (finB t l b js) ++ if finB t l b js js[i] then [js[i]] else [] := by
          rw [List.take_add_one, List.getElem?_eq_getElem hlt, List.filter_append]
          congr 1
          simp only [Option.toList_some, List.filter_cons, List.filter_nil]
        have hm : ((js.take i).filter (finB t l b js)).length ≤ 100 := by
          have := List.length_filter_le (finB t l b js) (js.take i)
          rw [List.length_take] at this
          omega
        have hall := anyW_all (js := js) (c := js[i]) h hc
        generalize (js.take i).filter (finB t l b js) = m at hnx hm
        generalize js[i] = c at hn hnx hall
        first | apply tr_m (by rw [hE]; rfl) | (refine Tr.seq ?_; apply tr_m (by rw [hE]; rfl))
        intro Q hQ
        simp only [go_sem, seval]
        iterate 5 ((refine vm_op ?_); intro r hr; simp only [e1, go_sem, seval]; subst hr)
        (first | refine vm_if rfl ?_ | refine vm_no rfl ?_ | refine vm_skip rfl ?_); intro r hr; simp only [e1, go_sem, seval]; subst hr
        (refine vm_op ?_); intro r hr; simp only [e1, go_sem, seval]; subst hr
        exact hQ
        first | refine Tr.cond (b := true) rfl (fun _ => ?_) (fun h => by cases h) | refine Tr.seq (Tr.cond (b := true) rfl (fun _ => ?_) (fun h => by cases h))
        refine Tr.skip ?_
        try simp only [blockK, thenK, ↓reduceIte]
        first | refine Tr.block ?_ | (refine Tr.seq ?_; refine Tr.block ?_)
        first | refine tr_seq_region (by rw [hE]; rfl) ?_ | (refine Tr.seq ?_; refine tr_seq_region (by rw [hE]; rfl) ?_)
        repeat (refine vc_op rfl ?_; simp only [go_sem, seval])
        refine vc_nil ?_
        first | refine tr_seq_region (by rw [hE]; rfl) ?_ | (refine Tr.seq ?_; refine tr_seq_region (by rw [hE]; rfl) ?_)
        repeat (refine vc_op rfl ?_; simp only [go_sem, seval])
        refine vc_nil ?_
        first | refine Tr.block ?_ | (refine Tr.seq ?_; refine Tr.block ?_)
        refine Tr.loop (stFi t l b js i c m) (fun k => k ≤ l.length) (fun k => l.length - k) 0 (Nat.zero_le _) ?_ ?_
        · refine wk_ren (fun n => n) ?_ ?_ rfl rfl rfl
          · repeat' (first | exact rfl | exact trivial | constructor)
          · repeat' (first | exact rfl | exact trivial | constructor)
        · intro k hk1
          unfold stFi
          by_cases hkl : k < l.length
          · have e2 : decide ((k : Int) < (l.length : Int)) = true := decide_eq_true (by omega)
            have ha := nth_map_lt Link.av l k hkl
            have hw2 := wrap_next (n := k) (by omega)
            have c1 := refcounts_pure t l[k] b ht hbl hb (hk _ (List.getElem_mem hkl))
            have c2 := has_pure js l[k].t hj
            have hnk := anyW_next (t := t) (b := b) (js := js) (c := c) hkl
            generalize l[k] = a at ha c1 c2 hnk
            unfold linkW at hnk
            unfold checks at c2
            generalize countB t b a = x1 at c1 hnk
            generalize decide (a.t ∈ js) = x2 at c2 hnk
            generalize anyW t l b js c k = x0 at hnk
            first | apply tr_m (by rw [hE]; rfl) | (refine Tr.seq ?_; apply tr_m (by rw [hE]; rfl))
            intro Q hQ
            simp only [go_sem, seval]
            iterate 4 ((refine vm_op ?_); intro r hr; simp only [e2, go_sem, seval]; subst hr)
            exact hQ
            first | refine Tr.cond (b := true) rfl (fun _ => ?_) (fun h => by cases h) | refine Tr.seq (Tr.cond (b := true) rfl (fun _ => ?_) (fun h => by cases h))
            refine Tr.skip ?_
            try simp only [blockK, thenK, ↓reduceIte]
            first | refine Tr.block ?_ | (refine Tr.seq ?_; refine Tr.block ?_)
            first | apply tr_md mixed [0] rfl (by rw [hE]; rfl) (by kernel_rfl) | (refine Tr.seq ?_; apply tr_md mixed [0] rfl (by rw [hE]; rfl) (by kernel_rfl))
            intro Q hQ
            simp only [go_sem, seval]
            iterate 6 ((refine vd2_q rfl ?_); intro r hr; simp only [ha, go_sem, seval]; subst hr)
            (refine vd2_x rfl ?_); intro r hr; simp only [ha, go_sem, seval]
            refine call_fn rfl rfl rfl rfl (enters_of Tryd.func38 (by kernel_rfl) rfl) (c1) rfl rfl rfl ?_
            simp only [go_sem, seval]
            subst hr
            (refine vd2_q rfl ?_); intro r hr; simp only [go_sem, seval]; subst hr
            exact hQ
            first | apply tr_m (by rw [hE]; rfl) | (refine Tr.seq ?_; apply tr_m (by rw [hE]; rfl))
            intro Q hQ
            simp only [go_sem, seval]
            iterate 6 ((refine vm_op ?_); intro r hr; simp only [ha, go_sem, seval]; subst hr)
            (refine vm_op ?_); intro r hr; simp only [ha, go_sem, seval]
            refine call_fn rfl rfl rfl rfl (enters_of Tryd.func22 (by kernel_rfl) rfl) (c2) rfl rfl rfl ?_
            simp only [go_sem, seval]
            subst hr
            (refine vm_op ?_); intro r hr; simp only [go_sem, seval]; subst hr
            exact hQ
            cases x0
            · cases x1
              · have hnk : anyW t l b js c (k + 1) = false := hnk
                have e3 : True := trivial
                apply tr_mdl mixed [] rfl (by rw [hE]; rfl) (by kernel_rfl)
                intro Q hQ
                simp only [go_sem, seval]
                iterate 2 ((refine vd2_q rfl ?_); intro r hr; simp only [ha, hn, e3, int_beq, go_sem, seval]; subst hr)
                iterate 31 ((first | refine vd2_goq rfl rfl ?_ | refine vd2_no rfl ?_ | refine vd2_skip rfl ?_); intro r hr; simp only [ha, hn, e3, int_beq, go_sem, seval]; subst hr)
                iterate 2 ((refine vd2_q rfl ?_); intro r hr; simp only [ha, hn, e3, int_beq, go_sem, seval]; subst hr)
                exact hQ
                try simp only [blockK, thenK, ↓reduceIte]
                refine tr_region (by rw [hE]; rfl) ?_
                repeat (refine vc_op rfl ?_; simp only [go_sem, seval])
                refine vc_nil ?_
                rw [hw2]
                try simp only [blockK, thenK, ↓reduceIte]
                refine ⟨k + 1, hkl, by omega, ?_⟩
                simp only [stFi, hnk]
                refine wk_ren (fun n => n) ?_ ?_ rfl rfl rfl
                · repeat' (first | exact rfl | exact trivial | constructor)
                · repeat' (first | exact rfl | exact trivial | constructor)
              · cases x2
                · have hnk : anyW t l b js c (k + 1) = false := hnk
                  have e3 : True := trivial
                  apply tr_mdl mixed [] rfl (by rw [hE]; rfl) (by kernel_rfl)
                  intro Q hQ
                  simp only [go_sem, seval]
                  iterate 2 ((refine vd2_q rfl ?_); intro r hr; simp only [ha, hn, e3, int_beq, go_sem, seval]; subst hr)
                  iterate 31 ((first | refine vd2_goq rfl rfl ?_ | refine vd2_no rfl ?_ | refine vd2_skip rfl ?_); intro r hr; simp only [ha, hn, e3, int_beq, go_sem, seval]; subst hr)
                  iterate 2 ((refine vd2_q rfl ?_); intro r hr; simp only [ha, hn, e3, int_beq, go_sem, seval]; subst hr)
                  exact hQ
                  try simp only [blockK, thenK, ↓reduceIte]
                  refine tr_region (by rw [hE]; rfl) ?_
                  repeat (refine vc_op rfl ?_; simp only [go_sem, seval])
                  refine vc_nil ?_
                  rw [hw2]
                  try simp only [blockK, thenK, ↓reduceIte]
                  refine ⟨k + 1, hkl, by omega, ?_⟩
                  simp only [stFi, hnk]
                  refine wk_ren (fun n => n) ?_ ?_ rfl rfl rfl
                  · repeat' (first | exact rfl | exact trivial | constructor)
                  · repeat' (first | exact rfl | exact trivial | constructor)
                · cases e3 : decide (a.s = c)
                  · have hnk : anyW t l b js c (k + 1) = false := by rw [hnk, e3]; rfl
                    apply tr_mdl mixed [] rfl (by rw [hE]; rfl) (by kernel_rfl)
                    intro Q hQ
                    simp only [go_sem, seval]
                    iterate 2 ((refine vd2_q rfl ?_); intro r hr; simp only [ha, hn, e3, int_beq, go_sem, seval]; subst hr)
                    iterate 31 ((first | refine vd2_goq rfl rfl ?_ | refine vd2_no rfl ?_ | refine vd2_skip rfl ?_); intro r hr; simp only [ha, hn, e3, int_beq, go_sem, seval]; subst hr)
                    iterate 2 ((refine vd2_q rfl ?_); intro r hr; simp only [ha, hn, e3, int_beq, go_sem, seval]; subst hr)
                    exact hQ
                    try simp only [blockK, thenK, ↓reduceIte]
                    refine tr_region (by rw [hE]; rfl) ?_
                    repeat (refine vc_op rfl ?_; simp only [go_sem, seval])
                    refine vc_nil ?_
                    rw [hw2]
                    try simp only [blockK, thenK, ↓reduceIte]
                    refine ⟨k + 1, hkl, by omega, ?_⟩
                    simp only [stFi, hnk]
                    refine wk_ren (fun n => n) ?_ ?_ rfl rfl rfl
                    · repeat' (first | exact rfl | exact trivial | constructor)
                    · repeat' (first | exact rfl | exact trivial | constructor)
                  · have hnk : anyW t l b js c (k + 1) = decide (IntKind.u64.wrap (a.t.epoch - 1) = c.epoch) := by rw [hnk, e3]; rfl
                    apply tr_mdl mixed [] rfl (by rw [hE]; rfl) (by kernel_rfl)
                    intro Q hQ
                    simp only [go_sem, seval]
                    iterate 2 ((refine vd2_q rfl ?_); intro r hr; simp only [ha, hn, e3, int_beq, go_sem, seval]; subst hr)
                    iterate 31 ((first | refine vd2_goq rfl rfl ?_ | refine vd2_no rfl ?_ | refine vd2_skip rfl ?_); intro r hr; simp only [ha, hn, e3, int_beq, go_sem, seval]; subst hr)
                    iterate 2 ((refine vd2_q rfl ?_); intro r hr; simp only [ha, hn, e3, int_beq, go_sem, seval]; subst hr)
                    exact hQ
                    try simp only [blockK, thenK, ↓reduceIte]
                    refine tr_region (by rw [hE]; rfl) ?_
                    repeat (refine vc_op rfl ?_; simp only [go_sem, seval])
                    refine vc_nil ?_
                    rw [hw2]
                    try simp only [blockK, thenK, ↓reduceIte]
                    refine ⟨k + 1, hkl, by omega, ?_⟩
                    simp only [stFi, hnk]
                    refine wk_ren (fun n => n) ?_ ?_ rfl rfl rfl
                    · repeat' (first | exact rfl | exact trivial | constructor)
                    · repeat' (first | exact rfl | exact trivial | constructor)
            · have hnk : anyW t l b js c (k + 1) = true := by rw [hnk]; rfl
              have e3 : True := trivial
              apply tr_mdl mixed [] rfl (by rw [hE]; rfl) (by kernel_rfl)
              intro Q hQ
              simp only [go_sem, seval]
              iterate 2 ((refine vd2_q rfl ?_); intro r hr; simp only [ha, hn, e3, int_beq, go_sem, seval]; subst hr)
              iterate 31 ((first | refine vd2_goq rfl rfl ?_ | refine vd2_no rfl ?_ | refine vd2_skip rfl ?_); intro r hr; simp only [ha, hn, e3, int_beq, go_sem, seval]; subst hr)
              iterate 2 ((refine vd2_q rfl ?_); intro r hr; simp only [ha, hn, e3, int_beq, go_sem, seval]; subst hr)
              exact hQ
              try simp only [blockK, thenK, ↓reduceIte]
              refine tr_region (by rw [hE]; rfl) ?_
              repeat (refine vc_op rfl ?_; simp only [go_sem, seval])
              refine vc_nil ?_
              rw [hw2]
              try simp only [blockK, thenK, ↓reduceIte]
              refine ⟨k + 1, hkl, by omega, ?_⟩
              simp only [stFi, hnk]
              refine wk_ren (fun n => n) ?_ ?_ rfl rfl rfl
              · repeat' (first | exact rfl | exact trivial | constructor)
              · repeat' (first | exact rfl | exact trivial | constructor)
          · have e2 : decide ((k : Int) < (l.length : Int)) = false := decide_eq_false (by omega)
            have hkl : k = l.length := by omega
            subst hkl
            rw [hall]
            first | apply tr_m (by rw [hE]; rfl) | (refine Tr.seq ?_; apply tr_m (by rw [hE]; rfl))
            intro Q hQ
            simp only [go_sem, seval]
            iterate 4 ((refine vm_op ?_); intro r hr; simp only [e2, go_sem, seval]; subst hr)
            exact hQ
            first | refine Tr.cond (b := false) rfl (fun h => by cases h) (fun _ => ?_) | refine Tr.seq (Tr.cond (b := false) rfl (fun h => by cases h) (fun _ => ?_))
            refine Tr.exit ?_
            try simp only [blockK, thenK, ↓reduceIte]
            cases hf : finB t l b js c with
            | true =>
              rw [hf, if_pos rfl] at hnx
              first | refine tr_seq_region (by rw [hE]; rfl) ?_ | (refine Tr.seq ?_; refine tr_seq_region (by rw [hE]; rfl) ?_)
              repeat (refine vc_op rfl ?_; simp only [go_sem, seval])
              refine vc_nil ?_
              first | refine Tr.cond (b := true) rfl (fun _ => ?_) (fun h => by cases h) | refine Tr.seq (Tr.cond (b := true) rfl (fun _ => ?_) (fun h => by cases h))
              apply tr_ml (by rw [hE]; rfl)
              intro Q hQ
              simp only [go_sem, seval]
              iterate 6 ((refine vm_op ?_); intro r hr; simp only [hn, go_sem, seval]; subst hr)
              (refine vm_op ?_); intro r hr; simp only [hn, go_sem, seval]
              refine ⟨by omega, by omega, ?_⟩
              simp only [List.filter_cons, List.filter_nil, Bool.not_false, Bool.not_true, if_true, Bool.false_eq_true, if_false, go_sem, seval]
              subst hr
              (refine vm_op ?_); intro r hr; simp only [go_sem, seval]; subst hr
              exact hQ
              try simp only [blockK, thenK, ↓reduceIte]
              refine tr_region (by rw [hE]; rfl) ?_
              repeat (refine vc_op rfl ?_; simp only [go_sem, seval])
              refine vc_nil ?_
              rw [hw]
              try simp only [blockK, thenK, ↓reduceIte]
              refine ⟨i + 1, hlt, by omega, ?_⟩
              simp only [stF, hnx, List.map_append, List.length_append, List.length_singleton, List.map_cons, List.map_nil]
              refine wk_ren (fun | 1 => 178 | n => n) ?_ ?_ rfl rfl rfl
              · repeat' (first | exact rfl | exact trivial | constructor)
              · repeat' (first | exact rfl | exact trivial | constructor)
            | false =>
              rw [hf, if_neg (by simp), List.append_nil] at hnx
              first | refine tr_seq_region (by rw [hE]; rfl) ?_ | (refine Tr.seq ?_; refine tr_seq_region (by rw [hE]; rfl) ?_)
              repeat (refine vc_op rfl ?_; simp only [go_sem, seval])
              refine vc_nil ?_
              first | refine Tr.cond (b := false) rfl (fun h => by cases h) (fun _ => ?_) | refine Tr.seq (Tr.cond (b := false) rfl (fun h => by cases h) (fun _ => ?_))
              refine Tr.skip ?_
              try simp only [blockK, thenK, ↓reduceIte]
              refine tr_region (by rw [hE]; rfl) ?_
              repeat (refine vc_op rfl ?_; simp only [go_sem, seval])
              refine vc_nil ?_
              rw [hw]
              try simp only [blockK, thenK, ↓reduceIte]
              refine ⟨i + 1, hlt, by omega, ?_⟩
              simp only [stF, hnx]
              refine wk_ren (fun n => n) ?_ ?_ rfl rfl rfl
              · repeat' (first | exact rfl | exact trivial | constructor)
              · repeat' (first | exact rfl | exact trivial | constructor)
      · have e1 : decide ((i : Int) < (js.length : Int)) = false := decide_eq_false (by omega)
        have hil : i = js.length := by omega
        have er : (js.take i).filter (finB t l b js) = finalsR t l b js := by rw [hil, List.take_length]; rfl
        rw [er]
        have hlen : (finalsR t l b js).length = ((finalsR t l b js).map Check.av).length := by simp
        first | apply tr_m (by rw [hE]; rfl) | (refine Tr.seq ?_; apply tr_m (by rw [hE]; rfl))
        intro Q hQ
        simp only [go_sem, seval]
        iterate 5 ((refine vm_op ?_); intro r hr; simp only [e1, go_sem, seval]; subst hr)
        (first | refine vm_if rfl ?_ | refine vm_no rfl ?_ | refine vm_skip rfl ?_); intro r hr; simp only [e1, go_sem, seval]; subst hr
        (refine vm_op ?_); intro r hr; simp only [e1, go_sem, seval]; subst hr
        exact hQ
        first | refine Tr.cond (b := false) rfl (fun h => by cases h) (fun _ => ?_) | refine Tr.seq (Tr.cond (b := false) rfl (fun h => by cases h) (fun _ => ?_))
        refine Tr.exit ?_
        try simp only [blockK, thenK, ↓reduceIte]
        first | refine tr_seq_region (by rw [hE]; rfl) ?_ | (refine Tr.seq ?_; refine tr_seq_region (by rw [hE]; rfl) ?_)
        repeat (refine vc_op rfl ?_; simp only [go_sem, seval])
        refine vc_nil ?_
        refine Tr.ret ?_
        simp only [← hlen, Tryd.f15, go_sem, seval]

end Go.Proofs.YtdlejnafhmpobaaDoor

/- The reference: what is final then, what is best, and what is on one chain. -/
set_option linter.unusedSimpArgs false
set_option maxRecDepth 10000
namespace Go.Proofs.YtdlejnafhmpobaaDoor
open Go Go.Ab

def nextS (t : List Node) (fin out c : Check) : Check := if decide (fin.epoch < c.epoch) && (behindB t c fin && betterB out c) then c else out
def nextR (t : List Node) (l : List Link) (b : List Int) (js : List Check) (fin : Check) : Check := (finalsR t l b js).foldl (nextS t fin) fin
def bestS (t : List Node) (fin out c : Check) : Check := if behindB t c fin && betterB out c then c else out
def bestR (t : List Node) (js : List Check) (fin : Check) : Check := js.foldl (bestS t fin) fin
def pairB (t : List Node) (a c : Check) : Bool := behindB t a c || behindB t c a
def rowB (t : List Node) (l : List Check) (i : Nat) : Bool := (l.take i).all fun c => pairB t (l.getD i zCheck) c
def chainR (t : List Node) (l : List Check) : Bool := mayB t && (List.range l.length).all (rowB t l)

theorem foldl_next {α β : Type} (f : β → α → β) (z : β) {l : List α} {i : Nat} (h : i < l.length) : (l.take (i + 1)).foldl f z = f ((l.take i).foldl f z) l[i] := by
  rw [List.take_add_one, List.getElem?_eq_getElem h, List.foldl_append]
  rfl

theorem finals_len (t : List Node) (l : List Link) (b : List Int) (js : List Check) : (finalsR t l b js).length ≤ js.length := List.length_filter_le _ _

theorem refnext_pure (t : List Node) (l : List Link) (b : List Int) (js : List Check) (fin : Check) (ht : t.length ≤ 100) (hl : l.length ≤ 100) (hbl : b.length ≤ 9223372036854775807) (hj : js.length ≤ 100) (hb : okB b) (hk : okL l) (hc : okC l) : Pure Tryd.prog 18 [tav t, links l, u64s b, checks js, fin.av] (nextR t l b js fin).av := by
  have h1 := reffinals_pure t l b js ht hl hbl hj hb hk hc
  have hfl := finals_len t l b js
  have er : nextR t l b js fin = (finalsR t l b js).foldl (nextS t fin) fin := rfl
  generalize finalsR t l b js = f at h1 hfl er
  unfold checks at h1 ⊢
  refine pure_of_tr Tryd.func18 rfl (Nat.le_of_ble_eq_true rfl) rfl fun E hE hP => ?_
  first | refine tr_seq_region (by rw [hE]; rfl) ?_ | (refine Tr.seq ?_; refine tr_seq_region (by rw [hE]; rfl) ?_)
  repeat (refine vc_op rfl ?_; simp only [go_sem, seval])
  refine vc_nil ?_
  first | refine tr_seq_region (by rw [hE]; rfl) ?_ | (refine Tr.seq ?_; refine tr_seq_region (by rw [hE]; rfl) ?_)
  repeat (refine vc_op rfl ?_; simp only [go_sem, seval])
  refine vc_nil ?_
  first | apply tr_m (by rw [hE]; rfl) | (refine Tr.seq ?_; apply tr_m (by rw [hE]; rfl))
  intro Q hQ
  simp only [go_sem, seval]
  iterate 4 ((refine vm_op ?_); intro r hr; simp only [go_sem, seval]; subst hr)
  (refine vm_op ?_); intro r hr; simp only [go_sem, seval]
  refine call_fn rfl rfl rfl rfl (enters_of Tryd.func15 (by kernel_rfl) rfl) (h1) rfl rfl rfl ?_
  simp only [go_sem, seval]
  subst hr
  (refine vm_op ?_); intro r hr; simp only [go_sem, seval]; subst hr
  exact hQ
  first | refine tr_seq_region (by rw [hE]; rfl) ?_ | (refine Tr.seq ?_; refine tr_seq_region (by rw [hE]; rfl) ?_)
  repeat (refine vc_op rfl ?_; simp only [go_sem, seval])
  refine vc_nil ?_
  first | refine Tr.block ?_ | (refine Tr.seq ?_; refine Tr.block ?_)
  refine Tr.loop (fun i : Nat => (⟨[(5, .ptr 0 [] 0), (9, .ptr 16 [] 0), (10, .ptr 32 [] 0), (11, .ptr 64 [] 0), (12, .sl (f.map Check.av) false), (13, .int .i64 i)], [(0, .var (tav t)), (16, .var fin.av), (32, .var zCheck.av), (64, .var ((f.take i).foldl (nextS t fin) fin).av)], 65, []⟩ : S)) (fun i => i ≤ f.length) (fun i => f.length - i) 0 (Nat.zero_le _) ?_ ?_
  · refine wk_ren (fun n => n) ?_ ?_ rfl rfl rfl
    · repeat' (first | exact rfl | exact trivial | constructor)
    · repeat' (first | exact rfl | exact trivial | constructor)
  · intro i hi
    by_cases hlt : i < f.length
    · have e1 : decide ((i : Int) < (f.length : Int)) = true := decide_eq_true (by omega)
      have hn := nth_map_lt Check.av f i hlt
      have hw := wrap_next (n := i) (by omega)
      have hnx := foldl_next (nextS t fin) fin hlt
      generalize (f.take i).foldl (nextS t fin) fin = o at hnx
      generalize f[i] = c at hn hnx
      have c1 := refbehind_pure t c fin ht
      have c2 := refbetter_pure o c
      have hS : nextS t fin o c = if decide (fin.epoch < c.epoch) && (behindB t c fin && betterB o c) then c else o := rfl
      rw [hS] at hnx
      generalize behindB t c fin = x1 at c1 hnx
      generalize betterB o c = x2 at c2 hnx
      first | refine tr_seq_region (by rw [hE]; rfl) ?_ | (refine Tr.seq ?_; refine tr_seq_region (by rw [hE]; rfl) ?_)
      repeat (refine vc_op rfl ?_; simp only [e1, go_sem, seval])
      refine vc_nil ?_
      first | refine Tr.cond (b := true) rfl (fun _ => ?_) (fun h => by cases h) | refine Tr.seq (Tr.cond (b := true) rfl (fun _ => ?_) (fun h => by cases h))
      refine Tr.skip ?_
      try simp only [blockK, thenK, ↓reduceIte]
      first | refine Tr.block ?_ | (refine Tr.seq ?_; refine Tr.block ?_)
      first | apply tr_md mixed [0, 16] rfl (by rw [hE]; rfl) (by kernel_rfl) | (refine Tr.seq ?_; apply tr_md mixed [0, 16] rfl (by rw [hE]; rfl) (by kernel_rfl))
      intro Q hQ
      simp only [go_sem, seval]
      iterate 6 ((refine vd2_q rfl ?_); intro r hr; simp only [hn, go_sem, seval]; subst hr)
      (refine vd2_x rfl ?_); intro r hr; simp only [hn, go_sem, seval]
      refine call_fn rfl rfl rfl rfl (enters_of Tryd.func40 (by kernel_rfl) rfl) (c1) rfl rfl rfl ?_
      simp only [go_sem, seval]
      subst hr
      (refine vd2_q rfl ?_); intro r hr; simp only [go_sem, seval]; subst hr
      exact hQ
      first | apply tr_md mixed [64] rfl (by rw [hE]; rfl) (by kernel_rfl) | (refine Tr.seq ?_; apply tr_md mixed [64] rfl (by rw [hE]; rfl) (by kernel_rfl))
      intro Q hQ
      simp only [go_sem, seval]
      iterate 5 ((refine vd2_q rfl ?_); intro r hr; simp only [hn, go_sem, seval]; subst hr)
      (refine vd2_x rfl ?_); intro r hr; simp only [hn, go_sem, seval]
      refine call_fn rfl rfl rfl rfl (enters_of Tryd.func43 (by kernel_rfl) rfl) (c2) rfl rfl rfl ?_
      simp only [go_sem, seval]
      subst hr
      (refine vd2_q rfl ?_); intro r hr; simp only [go_sem, seval]; subst hr
      exact hQ
      cases x1
      · rw [Bool.false_and, Bool.and_false, if_neg (by simp)] at hnx
        first | apply tr_md mixed [16] rfl (by rw [hE]; rfl) (by kernel_rfl) | (refine Tr.seq ?_; apply tr_md mixed [16] rfl (by rw [hE]; rfl) (by kernel_rfl))
        intro Q hQ
        simp only [go_sem, seval]
        iterate 2 ((refine vd2_q rfl ?_); intro r hr; simp only [hn, go_sem, seval]; subst hr)
        (first | refine vd2_goq rfl rfl ?_ | refine vd2_no rfl ?_ | refine vd2_skip rfl ?_); intro r hr; simp only [hn, go_sem, seval]; subst hr
        iterate 2 ((refine vd2_q rfl ?_); intro r hr; simp only [hn, go_sem, seval]; subst hr)
        iterate 8 ((first | refine vd2_goq rfl rfl ?_ | refine vd2_no rfl ?_ | refine vd2_skip rfl ?_); intro r hr; simp only [hn, go_sem, seval]; subst hr)
        (refine vd2_q rfl ?_); intro r hr; simp only [hn, go_sem, seval]; subst hr
        exact hQ
        first | refine Tr.cond (b := false) rfl (fun h => by cases h) (fun _ => ?_) | refine Tr.seq (Tr.cond (b := false) rfl (fun h => by cases h) (fun _ => ?_))
        refine Tr.skip ?_
        try simp only [blockK, thenK, ↓reduceIte]
        refine tr_region (by rw [hE]; rfl) ?_
        repeat (refine vc_op rfl ?_; simp only [go_sem, seval])
        refine vc_nil ?_
        rw [hw]
        try simp only [blockK, thenK, ↓reduceIte]
        refine ⟨i + 1, hlt, by omega, ?_⟩
        rw [hnx]
        refine wk_ren (fun n => n) ?_ ?_ rfl rfl rfl
        · repeat' (first | exact rfl | exact trivial | constructor)
        · repeat' (first | exact rfl | exact trivial | constructor)
      · cases x2
        · rw [Bool.and_false, Bool.and_false, if_neg (by simp)] at hnx
          first | apply tr_md mixed [16] rfl (by rw [hE]; rfl) (by kernel_rfl) | (refine Tr.seq ?_; apply tr_md mixed [16] rfl (by rw [hE]; rfl) (by kernel_rfl))
          intro Q hQ
          simp only [go_sem, seval]
          iterate 2 ((refine vd2_q rfl ?_); intro r hr; simp only [hn, go_sem, seval]; subst hr)
          (first | refine vd2_goq rfl rfl ?_ | refine vd2_no rfl ?_ | refine vd2_skip rfl ?_); intro r hr; simp only [hn, go_sem, seval]; subst hr
          iterate 2 ((refine vd2_q rfl ?_); intro r hr; simp only [hn, go_sem, seval]; subst hr)
          iterate 8 ((first | refine vd2_goq rfl rfl ?_ | refine vd2_no rfl ?_ | refine vd2_skip rfl ?_); intro r hr; simp only [hn, go_sem, seval]; subst hr)
          (refine vd2_q rfl ?_); intro r hr; simp only [hn, go_sem, seval]; subst hr
          exact hQ
          first | refine Tr.cond (b := false) rfl (fun h => by cases h) (fun _ => ?_) | refine Tr.seq (Tr.cond (b := false) rfl (fun h => by cases h) (fun _ => ?_))
          refine Tr.skip ?_
          try simp only [blockK, thenK, ↓reduceIte]
          refine tr_region (by rw [hE]; rfl) ?_
          repeat (refine vc_op rfl ?_; simp only [go_sem, seval])
          refine vc_nil ?_
          rw [hw]
          try simp only [blockK, thenK, ↓reduceIte]
          refine ⟨i + 1, hlt, by omega, ?_⟩
          rw [hnx]
          refine wk_ren (fun n => n) ?_ ?_ rfl rfl rfl
          · repeat' (first | exact rfl | exact trivial | constructor)
          · repeat' (first | exact rfl | exact trivial | constructor)
        · cases e3 : decide (fin.epoch < c.epoch)
          · rw [e3, Bool.false_and, if_neg (by simp)] at hnx
            first | apply tr_md mixed [16] rfl (by rw [hE]; rfl) (by kernel_rfl) | (refine Tr.seq ?_; apply tr_md mixed [16] rfl (by rw [hE]; rfl) (by kernel_rfl))
            intro Q hQ
            simp only [go_sem, seval]
            iterate 2 ((refine vd2_q rfl ?_); intro r hr; simp only [hn, e3, go_sem, seval]; subst hr)
            (first | refine vd2_goq rfl rfl ?_ | refine vd2_no rfl ?_ | refine vd2_skip rfl ?_); intro r hr; simp only [hn, e3, go_sem, seval]; subst hr
            iterate 2 ((refine vd2_q rfl ?_); intro r hr; simp only [hn, e3, go_sem, seval]; subst hr)
            iterate 8 ((first | refine vd2_goq rfl rfl ?_ | refine vd2_no rfl ?_ | refine vd2_skip rfl ?_); intro r hr; simp only [hn, e3, go_sem, seval]; subst hr)
            (refine vd2_q rfl ?_); intro r hr; simp only [hn, e3, go_sem, seval]; subst hr
            exact hQ
            first | refine Tr.cond (b := false) rfl (fun h => by cases h) (fun _ => ?_) | refine Tr.seq (Tr.cond (b := false) rfl (fun h => by cases h) (fun _ => ?_))
            refine Tr.skip ?_
            try simp only [blockK, thenK, ↓reduceIte]
            refine tr_region (by rw [hE]; rfl) ?_
            repeat (refine vc_op rfl ?_; simp only [go_sem, seval])
            refine vc_nil ?_
            rw [hw]
            try simp only [blockK, thenK, ↓reduceIte]
            refine ⟨i + 1, hlt, by omega, ?_⟩
            rw [hnx]
            refine wk_ren (fun n => n) ?_ ?_ rfl rfl rfl
            · repeat' (first | exact rfl | exact trivial | constructor)
            · repeat' (first | exact rfl | exact trivial | constructor)
          · rw [e3, Bool.true_and, Bool.true_and, if_pos rfl] at hnx
            first | apply tr_md mixed [16] rfl (by rw [hE]; rfl) (by kernel_rfl) | (refine Tr.seq ?_; apply tr_md mixed [16] rfl (by rw [hE]; rfl) (by kernel_rfl))
            intro Q hQ
            simp only [go_sem, seval]
            iterate 2 ((refine vd2_q rfl ?_); intro r hr; simp only [hn, e3, go_sem, seval]; subst hr)
            (first | refine vd2_goq rfl rfl ?_ | refine vd2_no rfl ?_ | refine vd2_skip rfl ?_); intro r hr; simp only [hn, e3, go_sem, seval]; subst hr
            iterate 2 ((refine vd2_q rfl ?_); intro r hr; simp only [hn, e3, go_sem, seval]; subst hr)
            iterate 8 ((first | refine vd2_goq rfl rfl ?_ | refine vd2_no rfl ?_ | refine vd2_skip rfl ?_); intro r hr; simp only [hn, e3, go_sem, seval]; subst hr)
            (refine vd2_q rfl ?_); intro r hr; simp only [hn, e3, go_sem, seval]; subst hr
            exact hQ
            first | refine Tr.cond (b := true) rfl (fun _ => ?_) (fun h => by cases h) | refine Tr.seq (Tr.cond (b := true) rfl (fun _ => ?_) (fun h => by cases h))
            apply tr_ml (by rw [hE]; rfl)
            intro Q hQ
            simp only [go_sem, seval]
            iterate 5 ((refine vm_op ?_); intro r hr; simp only [hn, go_sem, seval]; subst hr)
            exact hQ
            try simp only [blockK, thenK, ↓reduceIte]
            refine tr_region (by rw [hE]; rfl) ?_
            repeat (refine vc_op rfl ?_; simp only [go_sem, seval])
            refine vc_nil ?_
            rw [hw]
            try simp only [blockK, thenK, ↓reduceIte]
            refine ⟨i + 1, hlt, by omega, ?_⟩
            rw [hnx]
            refine wk_ren (fun n => n) ?_ ?_ rfl rfl rfl
            · repeat' (first | exact rfl | exact trivial | constructor)
            · repeat' (first | exact rfl | exact trivial | constructor)
    · have e1 : decide ((i : Int) < (f.length : Int)) = false := decide_eq_false (by omega)
      have hil : i = f.length := by omega
      rw [hil, List.take_length, ← er]
      have e1 : decide ((f.length : Int) < (f.length : Int)) = false := decide_eq_false (by omega)
      first | refine tr_seq_region (by rw [hE]; rfl) ?_ | (refine Tr.seq ?_; refine tr_seq_region (by rw [hE]; rfl) ?_)
      repeat (refine vc_op rfl ?_; simp only [e1, go_sem, seval])
      refine vc_nil ?_
      first | refine Tr.cond (b := false) rfl (fun h => by cases h) (fun _ => ?_) | refine Tr.seq (Tr.cond (b := false) rfl (fun h => by cases h) (fun _ => ?_))
      refine Tr.exit ?_
      try simp only [blockK, thenK, ↓reduceIte]
      first | refine tr_seq_region (by rw [hE]; rfl) ?_ | (refine Tr.seq ?_; refine tr_seq_region (by rw [hE]; rfl) ?_)
      repeat (refine vc_op rfl ?_; simp only [go_sem, seval])
      refine vc_nil ?_
      refine Tr.ret ?_
      simp only [Tryd.f18, go_sem, seval]

theorem refbest_pure (t : List Node) (f : List Check) (fin : Check) (ht : t.length ≤ 100) (hfl : f.length ≤ 100) : Pure Tryd.prog 20 [tav t, checks f, fin.av] (bestR t f fin).av := by
  have er : bestR t f fin = f.foldl (bestS t fin) fin := rfl
  unfold checks
  refine pure_of_tr Tryd.func20 rfl (Nat.le_of_ble_eq_true rfl) rfl fun E hE hP => ?_
  first | refine tr_seq_region (by rw [hE]; rfl) ?_ | (refine Tr.seq ?_; refine tr_seq_region (by rw [hE]; rfl) ?_)
  repeat (refine vc_op rfl ?_; simp only [go_sem, seval])
  refine vc_nil ?_
  first | refine tr_seq_region (by rw [hE]; rfl) ?_ | (refine Tr.seq ?_; refine tr_seq_region (by rw [hE]; rfl) ?_)
  repeat (refine vc_op rfl ?_; simp only [go_sem, seval])
  refine vc_nil ?_
  first | refine tr_seq_region (by rw [hE]; rfl) ?_ | (refine Tr.seq ?_; refine tr_seq_region (by rw [hE]; rfl) ?_)
  repeat (refine vc_op rfl ?_; simp only [go_sem, seval])
  refine vc_nil ?_
  first | refine Tr.block ?_ | (refine Tr.seq ?_; refine Tr.block ?_)
  refine Tr.loop (fun i : Nat => (⟨[(1, .sl (f.map Check.av) false), (3, .ptr 0 [] 0), (5, .ptr 16 [] 0), (6, .ptr 32 [] 0), (7, .ptr 64 [] 0), (8, .int .i64 i)], [(0, .var (tav t)), (16, .var fin.av), (32, .var zCheck.av), (64, .var ((f.take i).foldl (bestS t fin) fin).av)], 65, []⟩ : S)) (fun i => i ≤ f.length) (fun i => f.length - i) 0 (Nat.zero_le _) ?_ ?_
  · refine wk_ren (fun n => n) ?_ ?_ rfl rfl rfl
    · repeat' (first | exact rfl | exact trivial | constructor)
    · repeat' (first | exact rfl | exact trivial | constructor)
  · intro i hi
    by_cases hlt : i < f.length
    · have e1 : decide ((i : Int) < (f.length : Int)) = true := decide_eq_true (by omega)
      have hn := nth_map_lt Check.av f i hlt
      have hw := wrap_next (n := i) (by omega)
      have hnx := foldl_next (bestS t fin) fin hlt
      generalize (f.take i).foldl (bestS t fin) fin = o at hnx
      generalize f[i] = c at hn hnx
      have c1 := refbehind_pure t c fin ht
      have c2 := refbetter_pure o c
      have hS : bestS t fin o c = if behindB t c fin && betterB o c then c else o := rfl
      rw [hS] at hnx
      generalize behindB t c fin = x1 at c1 hnx
      generalize betterB o c = x2 at c2 hnx
      first | refine tr_seq_region (by rw [hE]; rfl) ?_ | (refine Tr.seq ?_; refine tr_seq_region (by rw [hE]; rfl) ?_)
      repeat (refine vc_op rfl ?_; simp only [e1, go_sem, seval])
      refine vc_nil ?_
      first | refine Tr.cond (b := true) rfl (fun _ => ?_) (fun h => by cases h) | refine Tr.seq (Tr.cond (b := true) rfl (fun _ => ?_) (fun h => by cases h))
      refine Tr.skip ?_
      try simp only [blockK, thenK, ↓reduceIte]
      first | refine Tr.block ?_ | (refine Tr.seq ?_; refine Tr.block ?_)
      first | apply tr_md mixed [0, 16] rfl (by rw [hE]; rfl) (by kernel_rfl) | (refine Tr.seq ?_; apply tr_md mixed [0, 16] rfl (by rw [hE]; rfl) (by kernel_rfl))
      intro Q hQ
      simp only [go_sem, seval]
      iterate 6 ((refine vd2_q rfl ?_); intro r hr; simp only [hn, go_sem, seval]; subst hr)
      (refine vd2_x rfl ?_); intro r hr; simp only [hn, go_sem, seval]
      refine call_fn rfl rfl rfl rfl (enters_of Tryd.func40 (by kernel_rfl) rfl) (c1) rfl rfl rfl ?_
      simp only [go_sem, seval]
      subst hr
      (refine vd2_q rfl ?_); intro r hr; simp only [go_sem, seval]; subst hr
      exact hQ
      first | apply tr_md mixed [64] rfl (by rw [hE]; rfl) (by kernel_rfl) | (refine Tr.seq ?_; apply tr_md mixed [64] rfl (by rw [hE]; rfl) (by kernel_rfl))
      intro Q hQ
      simp only [go_sem, seval]
      iterate 5 ((refine vd2_q rfl ?_); intro r hr; simp only [hn, go_sem, seval]; subst hr)
      (refine vd2_x rfl ?_); intro r hr; simp only [hn, go_sem, seval]
      refine call_fn rfl rfl rfl rfl (enters_of Tryd.func43 (by kernel_rfl) rfl) (c2) rfl rfl rfl ?_
      simp only [go_sem, seval]
      subst hr
      (refine vd2_q rfl ?_); intro r hr; simp only [go_sem, seval]; subst hr
      exact hQ
      cases x1
      · rw [Bool.false_and, if_neg (by simp)] at hnx
        first | apply tr_m (by rw [hE]; rfl) | (refine Tr.seq ?_; apply tr_m (by rw [hE]; rfl))
        intro Q hQ
        simp only [go_sem, seval]
        iterate 2 ((refine vm_op ?_); intro r hr; simp only [go_sem, seval]; subst hr)
        (first | refine vm_if rfl ?_ | refine vm_no rfl ?_ | refine vm_skip rfl ?_); intro r hr; simp only [go_sem, seval]; subst hr
        (refine vm_op ?_); intro r hr; simp only [go_sem, seval]; subst hr
        exact hQ
        first | refine Tr.cond (b := false) rfl (fun h => by cases h) (fun _ => ?_) | refine Tr.seq (Tr.cond (b := false) rfl (fun h => by cases h) (fun _ => ?_))
        refine Tr.skip ?_
        try simp only [blockK, thenK, ↓reduceIte]
        refine tr_region (by rw [hE]; rfl) ?_
        repeat (refine vc_op rfl ?_; simp only [go_sem, seval])
        refine vc_nil ?_
        rw [hw]
        try simp only [blockK, thenK, ↓reduceIte]
        refine ⟨i + 1, hlt, by omega, ?_⟩
        rw [hnx]
        refine wk_ren (fun n => n) ?_ ?_ rfl rfl rfl
        · repeat' (first | exact rfl | exact trivial | constructor)
        · repeat' (first | exact rfl | exact trivial | constructor)
      · cases x2
        · rw [Bool.and_false, if_neg (by simp)] at hnx
          first | apply tr_m (by rw [hE]; rfl) | (refine Tr.seq ?_; apply tr_m (by rw [hE]; rfl))
          intro Q hQ
          simp only [go_sem, seval]
          iterate 2 ((refine vm_op ?_); intro r hr; simp only [go_sem, seval]; subst hr)
          (first | refine vm_if rfl ?_ | refine vm_no rfl ?_ | refine vm_skip rfl ?_); intro r hr; simp only [go_sem, seval]; subst hr
          (refine vm_op ?_); intro r hr; simp only [go_sem, seval]; subst hr
          exact hQ
          first | refine Tr.cond (b := false) rfl (fun h => by cases h) (fun _ => ?_) | refine Tr.seq (Tr.cond (b := false) rfl (fun h => by cases h) (fun _ => ?_))
          refine Tr.skip ?_
          try simp only [blockK, thenK, ↓reduceIte]
          refine tr_region (by rw [hE]; rfl) ?_
          repeat (refine vc_op rfl ?_; simp only [go_sem, seval])
          refine vc_nil ?_
          rw [hw]
          try simp only [blockK, thenK, ↓reduceIte]
          refine ⟨i + 1, hlt, by omega, ?_⟩
          rw [hnx]
          refine wk_ren (fun n => n) ?_ ?_ rfl rfl rfl
          · repeat' (first | exact rfl | exact trivial | constructor)
          · repeat' (first | exact rfl | exact trivial | constructor)
        · rw [Bool.true_and, if_pos rfl] at hnx
          first | apply tr_m (by rw [hE]; rfl) | (refine Tr.seq ?_; apply tr_m (by rw [hE]; rfl))
          intro Q hQ
          simp only [go_sem, seval]
          iterate 2 ((refine vm_op ?_); intro r hr; simp only [go_sem, seval]; subst hr)
          (first | refine vm_if rfl ?_ | refine vm_no rfl ?_ | refine vm_skip rfl ?_); intro r hr; simp only [go_sem, seval]; subst hr
          (refine vm_op ?_); intro r hr; simp only [go_sem, seval]; subst hr
          exact hQ
          first | refine Tr.cond (b := true) rfl (fun _ => ?_) (fun h => by cases h) | refine Tr.seq (Tr.cond (b := true) rfl (fun _ => ?_) (fun h => by cases h))
          apply tr_ml (by rw [hE]; rfl)
          intro Q hQ
          simp only [go_sem, seval]
          iterate 5 ((refine vm_op ?_); intro r hr; simp only [hn, go_sem, seval]; subst hr)
          exact hQ
          try simp only [blockK, thenK, ↓reduceIte]
          refine tr_region (by rw [hE]; rfl) ?_
          repeat (refine vc_op rfl ?_; simp only [go_sem, seval])
          refine vc_nil ?_
          rw [hw]
          try simp only [blockK, thenK, ↓reduceIte]
          refine ⟨i + 1, hlt, by omega, ?_⟩
          rw [hnx]
          refine wk_ren (fun n => n) ?_ ?_ rfl rfl rfl
          · repeat' (first | exact rfl | exact trivial | constructor)
          · repeat' (first | exact rfl | exact trivial | constructor)
    · have hil : i = f.length := by omega
      rw [hil, List.take_length, ← er]
      have e1 : decide ((f.length : Int) < (f.length : Int)) = false := decide_eq_false (by omega)
      first | refine tr_seq_region (by rw [hE]; rfl) ?_ | (refine Tr.seq ?_; refine tr_seq_region (by rw [hE]; rfl) ?_)
      repeat (refine vc_op rfl ?_; simp only [e1, go_sem, seval])
      refine vc_nil ?_
      first | refine Tr.cond (b := false) rfl (fun h => by cases h) (fun _ => ?_) | refine Tr.seq (Tr.cond (b := false) rfl (fun h => by cases h) (fun _ => ?_))
      refine Tr.exit ?_
      try simp only [blockK, thenK, ↓reduceIte]
      first | refine tr_seq_region (by rw [hE]; rfl) ?_ | (refine Tr.seq ?_; refine tr_seq_region (by rw [hE]; rfl) ?_)
      repeat (refine vc_op rfl ?_; simp only [go_sem, seval])
      refine vc_nil ?_
      refine Tr.ret ?_
      simp only [Tryd.f20, go_sem, seval]

end Go.Proofs.YtdlejnafhmpobaaDoor

/- What is on one chain; the best one. -/
set_option linter.unusedSimpArgs false
set_option maxRecDepth 10000
namespace Go.Proofs.YtdlejnafhmpobaaDoor
open Go Go.Ab

def chTo (t : List Node) (l : List Check) (i : Nat) : Bool := (List.range i).all (rowB t l)
def inTo (t : List Node) (l : List Check) (a : Check) (k : Nat) : Bool := (l.take k).all (pairB t a)
theorem chTo_next (t : List Node) (l : List Check) (i : Nat) : chTo t l (i + 1) = (chTo t l i && rowB t l i) := by
  unfold chTo
  rw [List.range_succ, List.all_append]
  simp
theorem chTo_false {t : List Node} {l : List Check} {i : Nat} (h : chTo t l i = false) : ∀ n, i ≤ n → chTo t l n = false := fun n hn => by
  unfold chTo at h ⊢
  obtain ⟨x, hx, h2⟩ := List.all_eq_false.1 h
  exact List.all_eq_false.2 ⟨x, List.mem_range.2 (by have := List.mem_range.1 hx; omega), h2⟩
theorem inTo_next {t : List Node} {l : List Check} {a : Check} {k : Nat} (h : k < l.length) : inTo t l a (k + 1) = (inTo t l a k && pairB t a l[k]) := by
  unfold inTo
  rw [List.take_add_one, List.getElem?_eq_getElem h, List.all_append]
  simp only [Option.toList_some, List.all_cons, List.all_nil, Bool.and_true]
theorem inTo_false {t : List Node} {l : List Check} {a : Check} {k : Nat} (h : inTo t l a k = false) : ∀ n, k ≤ n → inTo t l a n = false := fun n hn => by
  unfold inTo at h ⊢
  obtain ⟨x, hx, h2⟩ := List.all_eq_false.1 h
  exact List.all_eq_false.2 ⟨x, (List.take_subset_take_left l hn) hx, h2⟩
theorem rowB_at {t : List Node} {l : List Check} {i : Nat} (h : i < l.length) : rowB t l i = inTo t l l[i] i := by
  have hd : l.getD i zCheck = l[i] := by simp [h]
  unfold rowB inTo
  rw [hd]
theorem chainR_eq (t : List Node) (l : List Check) : chainR t l = (mayB t && chTo t l l.length) := rfl

theorem refchain_pure (t : List Node) (l : List Check) (ht : t.length ≤ 100) (hl : l.length ≤ 100) : Pure Tryd.prog 16 [tav t, checks l] (.bool (chainR t l)) := by
  have h1 := refmay_pure t ht
  rw [refmay_eq] at h1
  unfold checks
  refine pure_of_tr Tryd.func16 rfl (Nat.le_of_ble_eq_true rfl) rfl fun E hE hP => ?_
  first | refine tr_seq_region (by rw [hE]; rfl) ?_ | (refine Tr.seq ?_; refine tr_seq_region (by rw [hE]; rfl) ?_)
  repeat (refine vc_op rfl ?_; simp only [go_sem, seval])
  refine vc_nil ?_
  first | apply tr_m (by rw [hE]; rfl) | (refine Tr.seq ?_; apply tr_m (by rw [hE]; rfl))
  intro Q hQ
  simp only [go_sem, seval]
  (refine vm_op ?_); intro r hr; simp only [go_sem, seval]; subst hr
  (refine vm_op ?_); intro r hr; simp only [go_sem, seval]
  refine call_fn rfl rfl rfl rfl (enters_of Tryd.func39 (by kernel_rfl) rfl) (h1) rfl rfl rfl ?_
  simp only [go_sem, seval]
  subst hr
  (refine vm_op ?_); intro r hr; simp only [go_sem, seval]; subst hr
  exact hQ
  first | refine tr_seq_region (by rw [hE]; rfl) ?_ | (refine Tr.seq ?_; refine tr_seq_region (by rw [hE]; rfl) ?_)
  repeat (refine vc_op rfl ?_; simp only [go_sem, seval])
  refine vc_nil ?_
  first | refine Tr.block ?_ | (refine Tr.seq ?_; refine Tr.block ?_)
  refine Tr.loop (fun i : Nat => (⟨[(1, .sl (l.map Check.av) false), (2, .ptr 0 [] 0), (5, .bool (mayB t && chTo t l i)), (6, .int .i64 i)], [(0, .var (tav t))], 1, []⟩ : S)) (fun i => i ≤ l.length) (fun i => l.length - i) 0 (Nat.zero_le _) ?_ ?_
  · have e0 : (mayB t && chTo t l 0) = mayB t := by unfold chTo; simp
    rw [e0]
    refine wk_ren (fun n => n) ?_ ?_ rfl rfl rfl
    · repeat' (first | exact rfl | exact trivial | constructor)
    · repeat' (first | exact rfl | exact trivial | constructor)
  · intro i hi
    by_cases hlt : i < l.length
    · have e1 : decide ((i : Int) < (l.length : Int)) = true := decide_eq_true (by omega)
      have hn := nth_map_lt Check.av l i hlt
      have hw := wrap_next (n := i) (by omega)
      have hnx := chTo_next t l i
      rw [rowB_at hlt] at hnx
      cases hb : mayB t && chTo t l i with
      | false =>
        have er : chainR t l = false := by
          rw [chainR_eq]
          cases hm : mayB t with
          | false => rfl
          | true => rw [hm, Bool.true_and] at hb; rw [chTo_false hb l.length hi]; rfl
        first | apply tr_m (by rw [hE]; rfl) | (refine Tr.seq ?_; apply tr_m (by rw [hE]; rfl))
        intro Q hQ
        simp only [go_sem, seval]
        iterate 5 ((refine vm_op ?_); intro r hr; simp only [e1, go_sem, seval]; subst hr)
        (first | refine vm_if rfl ?_ | refine vm_no rfl ?_ | refine vm_skip rfl ?_); intro r hr; simp only [e1, go_sem, seval]; subst hr
        (refine vm_op ?_); intro r hr; simp only [e1, go_sem, seval]; subst hr
        exact hQ
        first | refine Tr.cond (b := false) rfl (fun h => by cases h) (fun _ => ?_) | refine Tr.seq (Tr.cond (b := false) rfl (fun h => by cases h) (fun _ => ?_))
        refine Tr.exit ?_
        try simp only [blockK, thenK, ↓reduceIte]
        first | refine tr_seq_region (by rw [hE]; rfl) ?_ | (refine Tr.seq ?_; refine tr_seq_region (by rw [hE]; rfl) ?_)
        repeat (refine vc_op rfl ?_; simp only [go_sem, seval])
        refine vc_nil ?_
        refine Tr.ret ?_
        simp only [er, Tryd.f16, go_sem, seval]
      | true =>
        obtain ⟨hm, hch⟩ : mayB t = true ∧ chTo t l i = true := by simpa using hb
        rw [hch, Bool.true_and] at hnx
        generalize hla : l[i] = a at hn hnx
        first | apply tr_m (by rw [hE]; rfl) | (refine Tr.seq ?_; apply tr_m (by rw [hE]; rfl))
        intro Q hQ
        simp only [go_sem, seval]
        iterate 5 ((refine vm_op ?_); intro r hr; simp only [e1, go_sem, seval]; subst hr)
        (first | refine vm_if rfl ?_ | refine vm_no rfl ?_ | refine vm_skip rfl ?_); intro r hr; simp only [e1, go_sem, seval]; subst hr
        (refine vm_op ?_); intro r hr; simp only [e1, go_sem, seval]; subst hr
        exact hQ
        first | refine Tr.cond (b := true) rfl (fun _ => ?_) (fun h => by cases h) | refine Tr.seq (Tr.cond (b := true) rfl (fun _ => ?_) (fun h => by cases h))
        refine Tr.skip ?_
        try simp only [blockK, thenK, ↓reduceIte]
        first | refine Tr.block ?_ | (refine Tr.seq ?_; refine Tr.block ?_)
        first | refine tr_seq_region (by rw [hE]; rfl) ?_ | (refine Tr.seq ?_; refine tr_seq_region (by rw [hE]; rfl) ?_)
        repeat (refine vc_op rfl ?_; simp only [go_sem, seval])
        refine vc_nil ?_
        first | refine Tr.block ?_ | (refine Tr.seq ?_; refine Tr.block ?_)
        refine Tr.loop (fun k : Nat => (⟨[(1, .sl (l.map Check.av) false), (2, .ptr 0 [] 0), (5, .bool (inTo t l a k)), (6, .int .i64 i), (7, .int .i64 k)], [(0, .var (tav t))], 1, []⟩ : S)) (fun k => k ≤ i) (fun k => i - k) 0 (Nat.zero_le _) ?_ ?_
        · have e0 : inTo t l a 0 = true := rfl
          rw [e0]
          refine wk_ren (fun n => n) ?_ ?_ rfl rfl rfl
          · repeat' (first | exact rfl | exact trivial | constructor)
          · repeat' (first | exact rfl | exact trivial | constructor)
        · intro k hk
          by_cases hki : k < i
          · have e2 : decide ((k : Int) < (i : Int)) = true := decide_eq_true (by omega)
            have hw2 := wrap_next (n := k) (by omega)
            cases hq : inTo t l a k with
            | false =>
              have er : (mayB t && chTo t l (i + 1)) = false := by rw [hnx, inTo_false hq i hk, Bool.and_false]
              first | apply tr_m (by rw [hE]; rfl) | (refine Tr.seq ?_; apply tr_m (by rw [hE]; rfl))
              intro Q hQ
              simp only [go_sem, seval]
              iterate 4 ((refine vm_op ?_); intro r hr; simp only [e2, go_sem, seval]; subst hr)
              (first | refine vm_if rfl ?_ | refine vm_no rfl ?_ | refine vm_skip rfl ?_); intro r hr; simp only [e2, go_sem, seval]; subst hr
              (refine vm_op ?_); intro r hr; simp only [e2, go_sem, seval]; subst hr
              exact hQ
              first | refine Tr.cond (b := false) rfl (fun h => by cases h) (fun _ => ?_) | refine Tr.seq (Tr.cond (b := false) rfl (fun h => by cases h) (fun _ => ?_))
              refine Tr.exit ?_
              try simp only [blockK, thenK, ↓reduceIte]
              refine tr_region (by rw [hE]; rfl) ?_
              repeat (refine vc_op rfl ?_; simp only [go_sem, seval])
              refine vc_nil ?_
              rw [hw]
              try simp only [blockK, thenK, ↓reduceIte]
              refine ⟨i + 1, hlt, by omega, ?_⟩
              rw [er]
              refine wk_ren (fun n => n) ?_ ?_ rfl rfl rfl
              · repeat' (first | exact rfl | exact trivial | constructor)
              · repeat' (first | exact rfl | exact trivial | constructor)
            | true =>
              have hnk := nth_map_lt Check.av l k (by omega)
              have hin := inTo_next (t := t) (a := a) (k := k) (l := l) (by omega)
              rw [hq, Bool.true_and] at hin
              generalize l[k]'(by omega) = c at hnk hin
              have hS : pairB t a c = (behindB t a c || behindB t c a) := rfl
              rw [hS] at hin
              have c1 := refbehind_pure t a c ht
              have c2 := refbehind_pure t c a ht
              generalize behindB t a c = x1 at c1 hin
              generalize behindB t c a = x2 at c2 hin
              first | apply tr_m (by rw [hE]; rfl) | (refine Tr.seq ?_; apply tr_m (by rw [hE]; rfl))
              intro Q hQ
              simp only [go_sem, seval]
              iterate 4 ((refine vm_op ?_); intro r hr; simp only [e2, go_sem, seval]; subst hr)
              (first | refine vm_if rfl ?_ | refine vm_no rfl ?_ | refine vm_skip rfl ?_); intro r hr; simp only [e2, go_sem, seval]; subst hr
              (refine vm_op ?_); intro r hr; simp only [e2, go_sem, seval]; subst hr
              exact hQ
              first | refine Tr.cond (b := true) rfl (fun _ => ?_) (fun h => by cases h) | refine Tr.seq (Tr.cond (b := true) rfl (fun _ => ?_) (fun h => by cases h))
              refine Tr.skip ?_
              try simp only [blockK, thenK, ↓reduceIte]
              first | refine Tr.block ?_ | (refine Tr.seq ?_; refine Tr.block ?_)
              first | apply tr_md mixed [0] rfl (by rw [hE]; rfl) (by kernel_rfl) | (refine Tr.seq ?_; apply tr_md mixed [0] rfl (by rw [hE]; rfl) (by kernel_rfl))
              intro Q hQ
              simp only [go_sem, seval]
              iterate 9 ((refine vd2_q rfl ?_); intro r hr; simp only [hn, hnk, go_sem, seval]; subst hr)
              (refine vd2_x rfl ?_); intro r hr; simp only [hn, hnk, go_sem, seval]
              refine call_fn rfl rfl rfl rfl (enters_of Tryd.func40 (by kernel_rfl) rfl) (c1) rfl rfl rfl ?_
              simp only [go_sem, seval]
              subst hr
              (refine vd2_q rfl ?_); intro r hr; simp only [go_sem, seval]; subst hr
              exact hQ
              first | apply tr_md mixed [0] rfl (by rw [hE]; rfl) (by kernel_rfl) | (refine Tr.seq ?_; apply tr_md mixed [0] rfl (by rw [hE]; rfl) (by kernel_rfl))
              intro Q hQ
              simp only [go_sem, seval]
              iterate 9 ((refine vd2_q rfl ?_); intro r hr; simp only [hn, hnk, go_sem, seval]; subst hr)
              (refine vd2_x rfl ?_); intro r hr; simp only [hn, hnk, go_sem, seval]
              refine call_fn rfl rfl rfl rfl (enters_of Tryd.func40 (by kernel_rfl) rfl) (c2) rfl rfl rfl ?_
              simp only [go_sem, seval]
              subst hr
              (refine vd2_q rfl ?_); intro r hr; simp only [go_sem, seval]; subst hr
              exact hQ
              cases x1
              · rw [Bool.false_or] at hin
                apply tr_ml (by rw [hE]; rfl)
                intro Q hQ
                simp only [go_sem, seval]
                iterate 2 ((refine vm_op ?_); intro r hr; simp only [go_sem, seval]; subst hr)
                (first | refine vm_if rfl ?_ | refine vm_no rfl ?_ | refine vm_skip rfl ?_); intro r hr; simp only [go_sem, seval]; subst hr
                iterate 2 ((refine vm_op ?_); intro r hr; simp only [go_sem, seval]; subst hr)
                exact hQ
                try simp only [blockK, thenK, ↓reduceIte]
                refine tr_region (by rw [hE]; rfl) ?_
                repeat (refine vc_op rfl ?_; simp only [go_sem, seval])
                refine vc_nil ?_
                rw [hw2]
                try simp only [blockK, thenK, ↓reduceIte]
                refine ⟨k + 1, hki, by omega, ?_⟩
                rw [hin]
                refine wk_ren (fun n => n) ?_ ?_ rfl rfl rfl
                · repeat' (first | exact rfl | exact trivial | constructor)
                · repeat' (first | exact rfl | exact trivial | constructor)
              · rw [Bool.true_or] at hin
                apply tr_ml (by rw [hE]; rfl)
                intro Q hQ
                simp only [go_sem, seval]
                iterate 2 ((refine vm_op ?_); intro r hr; simp only [go_sem, seval]; subst hr)
                (first | refine vm_if rfl ?_ | refine vm_no rfl ?_ | refine vm_skip rfl ?_); intro r hr; simp only [go_sem, seval]; subst hr
                iterate 2 ((refine vm_op ?_); intro r hr; simp only [go_sem, seval]; subst hr)
                exact hQ
                try simp only [blockK, thenK, ↓reduceIte]
                refine tr_region (by rw [hE]; rfl) ?_
                repeat (refine vc_op rfl ?_; simp only [go_sem, seval])
                refine vc_nil ?_
                rw [hw2]
                try simp only [blockK, thenK, ↓reduceIte]
                refine ⟨k + 1, hki, by omega, ?_⟩
                rw [hin]
                refine wk_ren (fun n => n) ?_ ?_ rfl rfl rfl
                · repeat' (first | exact rfl | exact trivial | constructor)
                · repeat' (first | exact rfl | exact trivial | constructor)
          · have e2 : decide ((k : Int) < (i : Int)) = false := decide_eq_false (by omega)
            have hki : k = i := by omega
            subst hki
            have er : (mayB t && chTo t l (k + 1)) = inTo t l a k := by rw [hnx, hm, Bool.true_and]
            generalize inTo t l a k = y at er
            first | apply tr_m (by rw [hE]; rfl) | (refine Tr.seq ?_; apply tr_m (by rw [hE]; rfl))
            intro Q hQ
            simp only [go_sem, seval]
            iterate 4 ((refine vm_op ?_); intro r hr; simp only [e2, go_sem, seval]; subst hr)
            (first | refine vm_if rfl ?_ | refine vm_no rfl ?_ | refine vm_skip rfl ?_); intro r hr; simp only [e2, go_sem, seval]; subst hr
            (refine vm_op ?_); intro r hr; simp only [e2, go_sem, seval]; subst hr
            exact hQ
            first | refine Tr.cond (b := false) rfl (fun h => by cases h) (fun _ => ?_) | refine Tr.seq (Tr.cond (b := false) rfl (fun h => by cases h) (fun _ => ?_))
            refine Tr.exit ?_
            try simp only [blockK, thenK, ↓reduceIte]
            refine tr_region (by rw [hE]; rfl) ?_
            repeat (refine vc_op rfl ?_; simp only [go_sem, seval])
            refine vc_nil ?_
            rw [hw]
            try simp only [blockK, thenK, ↓reduceIte]
            refine ⟨k + 1, hlt, by omega, ?_⟩
            rw [er]
            refine wk_ren (fun n => n) ?_ ?_ rfl rfl rfl
            · repeat' (first | exact rfl | exact trivial | constructor)
            · repeat' (first | exact rfl | exact trivial | constructor)
    · have e1 : decide ((i : Int) < (l.length : Int)) = false := decide_eq_false (by omega)
      have hil : i = l.length := by omega
      subst hil
      rw [← chainR_eq]
      first | apply tr_m (by rw [hE]; rfl) | (refine Tr.seq ?_; apply tr_m (by rw [hE]; rfl))
      intro Q hQ
      simp only [go_sem, seval]
      iterate 5 ((refine vm_op ?_); intro r hr; simp only [e1, go_sem, seval]; subst hr)
      (first | refine vm_if rfl ?_ | refine vm_no rfl ?_ | refine vm_skip rfl ?_); intro r hr; simp only [e1, go_sem, seval]; subst hr
      (refine vm_op ?_); intro r hr; simp only [e1, go_sem, seval]; subst hr
      exact hQ
      first | refine Tr.cond (b := false) rfl (fun h => by cases h) (fun _ => ?_) | refine Tr.seq (Tr.cond (b := false) rfl (fun h => by cases h) (fun _ => ?_))
      refine Tr.exit ?_
      try simp only [blockK, thenK, ↓reduceIte]
      first | refine tr_seq_region (by rw [hE]; rfl) ?_ | (refine Tr.seq ?_; refine tr_seq_region (by rw [hE]; rfl) ?_)
      repeat (refine vc_op rfl ?_; simp only [go_sem, seval])
      refine vc_nil ?_
      refine Tr.ret ?_
      simp only [Tryd.f16, go_sem, seval]

end Go.Proofs.YtdlejnafhmpobaaDoor

/- The program: the best one, and what is on one chain. -/
set_option linter.unusedSimpArgs false
set_option maxRecDepth 10000
namespace Go.Proofs.YtdlejnafhmpobaaDoor
open Go Go.Ab

theorem best_pure (t : List Node) (f : List Check) (fin : Check) (hfl : f.length ≤ 100) : Pure Tryd.prog 19 [tav t, checks f, fin.av] (bestR t f fin).av := by
  have er : bestR t f fin = f.foldl (bestS t fin) fin := rfl
  unfold checks
  refine pure_of_tr Tryd.func19 rfl (Nat.le_of_ble_eq_true rfl) rfl fun E hE hP => ?_
  first | refine tr_seq_region (by rw [hE]; rfl) ?_ | (refine Tr.seq ?_; refine tr_seq_region (by rw [hE]; rfl) ?_)
  repeat (refine vc_op rfl ?_; simp only [go_sem, seval])
  refine vc_nil ?_
  first | refine tr_seq_region (by rw [hE]; rfl) ?_ | (refine Tr.seq ?_; refine tr_seq_region (by rw [hE]; rfl) ?_)
  repeat (refine vc_op rfl ?_; simp only [go_sem, seval])
  refine vc_nil ?_
  first | refine tr_seq_region (by rw [hE]; rfl) ?_ | (refine Tr.seq ?_; refine tr_seq_region (by rw [hE]; rfl) ?_)
  repeat (refine vc_op rfl ?_; simp only [go_sem, seval])
  refine vc_nil ?_
  first | refine Tr.block ?_ | (refine Tr.seq ?_; refine Tr.block ?_)
  refine Tr.loop (fun i : Nat => (⟨[(3, .ptr 0 [] 0), (5, .ptr 16 [] 0), (6, .ptr 32 [] 0), (7, .ptr 64 [] 0), (11, .sl (f.map Check.av) false), (12, .int .i64 f.length), (13, .int .i64 i)], [(0, .var (tav t)), (16, .var fin.av), (32, .var zCheck.av), (64, .var ((f.take i).foldl (bestS t fin) fin).av)], 65, []⟩ : S)) (fun i => i ≤ f.length) (fun i => f.length - i) 0 (Nat.zero_le _) ?_ ?_
  · refine wk_ren (fun n => n) ?_ ?_ rfl rfl rfl
    · repeat' (first | exact rfl | exact trivial | constructor)
    · repeat' (first | exact rfl | exact trivial | constructor)
  · intro i hi
    by_cases hlt : i < f.length
    · have e1 : decide ((i : Int) < (f.length : Int)) = true := decide_eq_true (by omega)
      have hn := nth_map_lt Check.av f i hlt
      have hw := wrap_next (n := i) (by omega)
      have hnx := foldl_next (bestS t fin) fin hlt
      generalize (f.take i).foldl (bestS t fin) fin = o at hnx
      generalize f[i] = c at hn hnx
      have c1 := behind_pure t c fin
      have c2 := better_pure o c
      have hS : bestS t fin o c = if behindB t c fin && betterB o c then c else o := rfl
      rw [hS] at hnx
      generalize behindB t c fin = x1 at c1 hnx
      first | refine tr_seq_region (by rw [hE]; rfl) ?_ | (refine Tr.seq ?_; refine tr_seq_region (by rw [hE]; rfl) ?_)
      repeat (refine vc_op rfl ?_; simp only [e1, go_sem, seval])
      refine vc_nil ?_
      first | refine Tr.cond (b := true) rfl (fun _ => ?_) (fun h => by cases h) | refine Tr.seq (Tr.cond (b := true) rfl (fun _ => ?_) (fun h => by cases h))
      refine Tr.skip ?_
      try simp only [blockK, thenK, ↓reduceIte]
      first | refine Tr.block ?_ | (refine Tr.seq ?_; refine Tr.block ?_)
      first | apply tr_m (by rw [hE]; rfl) | (refine Tr.seq ?_; apply tr_m (by rw [hE]; rfl))
      intro Q hQ
      simp only [go_sem, seval]
      iterate 4 ((refine vm_op ?_); intro r hr; simp only [hn, go_sem, seval]; subst hr)
      exact hQ
      first | apply tr_m (by rw [hE]; rfl) | (refine Tr.seq ?_; apply tr_m (by rw [hE]; rfl))
      intro Q hQ
      simp only [go_sem, seval]
      iterate 3 ((refine vm_op ?_); intro r hr; simp only [go_sem, seval]; subst hr)
      (refine vm_op ?_); intro r hr; simp only [go_sem, seval]
      refine call_fn rfl rfl rfl rfl (enters_of Tryd.func41 (by kernel_rfl) rfl) (c1) rfl rfl rfl ?_
      simp only [go_sem, seval]
      subst hr
      exact hQ
      cases x1
      · rw [Bool.false_and, if_neg (by simp)] at hnx
        first | refine Tr.cond (b := false) rfl (fun h => by cases h) (fun _ => ?_) | refine Tr.seq (Tr.cond (b := false) rfl (fun h => by cases h) (fun _ => ?_))
        refine Tr.skip ?_
        try simp only [blockK, thenK, ↓reduceIte]
        refine tr_region (by rw [hE]; rfl) ?_
        repeat (refine vc_op rfl ?_; simp only [go_sem, seval])
        refine vc_nil ?_
        rw [hw]
        try simp only [blockK, thenK, ↓reduceIte]
        refine ⟨i + 1, hlt, by omega, ?_⟩
        rw [hnx]
        refine wk_ren (fun n => n) ?_ ?_ rfl rfl rfl
        · repeat' (first | exact rfl | exact trivial | constructor)
        · repeat' (first | exact rfl | exact trivial | constructor)
      · rw [Bool.true_and] at hnx
        first | refine Tr.cond (b := true) rfl (fun _ => ?_) (fun h => by cases h) | refine Tr.seq (Tr.cond (b := true) rfl (fun _ => ?_) (fun h => by cases h))
        apply tr_ml (by rw [hE]; rfl)
        intro Q hQ
        simp only [go_sem, seval]
        iterate 2 ((refine vm_op ?_); intro r hr; simp only [go_sem, seval]; subst hr)
        (refine vm_op ?_); intro r hr; simp only [go_sem, seval]
        refine call_fn rfl rfl rfl rfl (enters_of Tryd.func42 (by kernel_rfl) rfl) (c2) rfl rfl rfl ?_
        simp only [go_sem, seval]
        subst hr
        (refine vm_op ?_); intro r hr; simp only [go_sem, seval]; subst hr
        exact hQ
        try simp only [blockK, thenK, ↓reduceIte]
        refine tr_region (by rw [hE]; rfl) ?_
        repeat (refine vc_op rfl ?_; simp only [go_sem, seval])
        refine vc_nil ?_
        rw [hw]
        try simp only [blockK, thenK, ↓reduceIte]
        refine ⟨i + 1, hlt, by omega, ?_⟩
        rw [hnx]
        refine wk_ren (fun n => n) ?_ ?_ rfl rfl rfl
        · repeat' (first | exact rfl | exact trivial | constructor)
        · repeat' (first | exact rfl | exact trivial | constructor)
    · have hil : i = f.length := by omega
      rw [hil, List.take_length, ← er]
      have e1 : decide ((f.length : Int) < (f.length : Int)) = false := decide_eq_false (by omega)
      first | refine tr_seq_region (by rw [hE]; rfl) ?_ | (refine Tr.seq ?_; refine tr_seq_region (by rw [hE]; rfl) ?_)
      repeat (refine vc_op rfl ?_; simp only [e1, go_sem, seval])
      refine vc_nil ?_
      first | refine Tr.cond (b := false) rfl (fun h => by cases h) (fun _ => ?_) | refine Tr.seq (Tr.cond (b := false) rfl (fun h => by cases h) (fun _ => ?_))
      refine Tr.exit ?_
      try simp only [blockK, thenK, ↓reduceIte]
      first | refine tr_seq_region (by rw [hE]; rfl) ?_ | (refine Tr.seq ?_; refine tr_seq_region (by rw [hE]; rfl) ?_)
      repeat (refine vc_op rfl ?_; simp only [go_sem, seval])
      refine vc_nil ?_
      refine Tr.ret ?_
      simp only [Tryd.f19, go_sem, seval]

theorem slice_hi27 {l : List Check} {k : Nat} {K : AV → Prop} (hk : k ≤ l.length) (h : K (.sl ((l.take k).map Check.av) false)) : sliceK Tryd.prog 27 (.sl (l.map Check.av) false) none (some (.int .i64 k)) none K :=
  sliceK_hi tElem27 (by kernel_rfl) (fun y hy => by
    obtain ⟨b, _, rfl⟩ := List.mem_map.1 hy
    exact tSize28) (by simpa using hk) (by rw [← List.map_take]; exact h)

theorem chain_pure (t : List Node) (l : List Check) (hl : l.length ≤ 100) : Pure Tryd.prog 21 [tav t, checks l] (.bool (chainR t l)) := by
  have h1 := may_pure t
  unfold checks
  refine pure_of_tr Tryd.func21 rfl (Nat.le_of_ble_eq_true rfl) rfl fun E hE hP => ?_
  first | refine tr_seq_region (by rw [hE]; rfl) ?_ | (refine Tr.seq ?_; refine tr_seq_region (by rw [hE]; rfl) ?_)
  repeat (refine vc_op rfl ?_; simp only [go_sem, seval])
  refine vc_nil ?_
  first | refine tr_seq_region (by rw [hE]; rfl) ?_ | (refine Tr.seq ?_; refine tr_seq_region (by rw [hE]; rfl) ?_)
  repeat (refine vc_op rfl ?_; simp only [go_sem, seval])
  refine vc_nil ?_
  first | refine Tr.block ?_ | (refine Tr.seq ?_; refine Tr.block ?_)
  refine Tr.loop (fun i : Nat => (⟨[(1, .sl (l.map Check.av) false), (2, .ptr 0 [] 0), (9, .sl (l.map Check.av) false), (10, .int .i64 l.length), (11, .int .i64 i)], [(0, .var (tav t))], 1, []⟩ : S)) (fun i => i ≤ l.length ∧ chTo t l i = true) (fun i => l.length - i) 0 ⟨Nat.zero_le _, rfl⟩ ?_ ?_
  · refine wk_ren (fun n => n) ?_ ?_ rfl rfl rfl
    · repeat' (first | exact rfl | exact trivial | constructor)
    · repeat' (first | exact rfl | exact trivial | constructor)
  · intro i ⟨hi, hch⟩
    by_cases hlt : i < l.length
    · have e1 : decide ((i : Int) < (l.length : Int)) = true := decide_eq_true (by omega)
      have hn := nth_map_lt Check.av l i hlt
      have hw := wrap_next (n := i) (by omega)
      have hnx := chTo_next t l i
      rw [rowB_at hlt, hch, Bool.true_and] at hnx
      generalize hla : l[i] = a at hn hnx
      first | refine tr_seq_region (by rw [hE]; rfl) ?_ | (refine Tr.seq ?_; refine tr_seq_region (by rw [hE]; rfl) ?_)
      repeat (refine vc_op rfl ?_; simp only [e1, go_sem, seval])
      refine vc_nil ?_
      first | refine Tr.cond (b := true) rfl (fun _ => ?_) (fun h => by cases h) | refine Tr.seq (Tr.cond (b := true) rfl (fun _ => ?_) (fun h => by cases h))
      refine Tr.skip ?_
      try simp only [blockK, thenK, ↓reduceIte]
      first | refine Tr.block ?_ | (refine Tr.seq ?_; refine Tr.block ?_)
      first | apply tr_m (by rw [hE]; rfl) | (refine Tr.seq ?_; apply tr_m (by rw [hE]; rfl))
      intro Q hQ
      simp only [go_sem, seval]
      iterate 6 ((refine vm_op ?_); intro r hr; simp only [hn, go_sem, seval]; subst hr)
      exact hQ
      first | apply tr_m (by rw [hE]; rfl) | (refine Tr.seq ?_; apply tr_m (by rw [hE]; rfl))
      intro Q hQ
      simp only [go_sem, seval]
      iterate 2 ((refine vm_op ?_); intro r hr; simp only [go_sem, seval]; subst hr)
      (refine vm_op ?_); intro r hr; simp only [go_sem, seval]
      refine slice_hi27 (by omega) ?_
      subst hr
      iterate 2 ((refine vm_op ?_); intro r hr; simp only [go_sem, seval]; subst hr)
      exact hQ
      have hlt2 : (l.take i).length = i := by rw [List.length_take]; omega
      rw [hlt2]
      first | refine Tr.block ?_ | (refine Tr.seq ?_; refine Tr.block ?_)
      refine Tr.loop (fun k : Nat => (⟨[(1, .sl (l.map Check.av) false), (2, .ptr 0 [] 0), (6, .ptr 1 [] 0), (9, .sl (l.map Check.av) false), (10, .int .i64 l.length), (11, .int .i64 i), (18, .sl ((l.take i).map Check.av) false), (19, .int .i64 i), (20, .int .i64 k)], [(0, .var (tav t)), (1, .var a.av)], 2, []⟩ : S)) (fun k => k ≤ i ∧ inTo t l a k = true) (fun k => i - k) 0 ⟨Nat.zero_le _, rfl⟩ ?_ ?_
      · refine wk_ren (fun | 1 => 65 | n => n) ?_ ?_ rfl rfl rfl
        · repeat' (first | exact rfl | exact trivial | constructor)
        · repeat' (first | exact rfl | exact trivial | constructor)
      · intro k ⟨hk, hin0⟩
        by_cases hki : k < i
        · have e2 : decide ((k : Int) < (i : Int)) = true := decide_eq_true (by omega)
          have hw2 := wrap_next (n := k) (by omega)
          have hnk := nth_map_lt Check.av (l.take i) k (by omega)
          have hin := inTo_next (t := t) (a := a) (k := k) (l := l) (by omega)
          rw [hin0, Bool.true_and] at hin
          have htk : (l.take i)[k]'(by omega) = l[k]'(by omega) := List.getElem_take
          rw [htk] at hnk
          generalize l[k]'(by omega) = c at hnk hin
          have hS : pairB t a c = (behindB t a c || behindB t c a) := rfl
          rw [hS] at hin
          have c1 := behind_pure t a c
          have c2 := behind_pure t c a
          generalize behindB t a c = x1 at c1 hin
          generalize behindB t c a = x2 at c2 hin
          first | refine tr_seq_region (by rw [hE]; rfl) ?_ | (refine Tr.seq ?_; refine tr_seq_region (by rw [hE]; rfl) ?_)
          repeat (refine vc_op rfl ?_; simp only [e2, go_sem, seval])
          refine vc_nil ?_
          first | refine Tr.cond (b := true) rfl (fun _ => ?_) (fun h => by cases h) | refine Tr.seq (Tr.cond (b := true) rfl (fun _ => ?_) (fun h => by cases h))
          refine Tr.skip ?_
          try simp only [blockK, thenK, ↓reduceIte]
          first | refine Tr.block ?_ | (refine Tr.seq ?_; refine Tr.block ?_)
          first | apply tr_m (by rw [hE]; rfl) | (refine Tr.seq ?_; apply tr_m (by rw [hE]; rfl))
          intro Q hQ
          simp only [go_sem, seval]
          iterate 4 ((refine vm_op ?_); intro r hr; simp only [hnk, go_sem, seval]; subst hr)
          exact hQ
          cases x1
          · rw [Bool.false_or] at hin
            cases x2
            · have er : chainR t l = false := by rw [chainR_eq, chTo_false (by rw [hnx]; exact inTo_false hin i hki) l.length hlt, Bool.and_false]
              first | apply tr_m (by rw [hE]; rfl) | (refine Tr.seq ?_; apply tr_m (by rw [hE]; rfl))
              intro Q hQ
              simp only [go_sem, seval]
              iterate 3 ((refine vm_op ?_); intro r hr; simp only [go_sem, seval]; subst hr)
              (refine vm_op ?_); intro r hr; simp only [go_sem, seval]
              refine call_fn rfl rfl rfl rfl (enters_of Tryd.func41 (by kernel_rfl) rfl) (c1) rfl rfl rfl ?_
              simp only [go_sem, seval]
              subst hr
              iterate 2 ((refine vm_op ?_); intro r hr; simp only [go_sem, seval]; subst hr)
              iterate 3 ((first | refine vm_if rfl ?_ | refine vm_no rfl ?_ | refine vm_skip rfl ?_); intro r hr; simp only [go_sem, seval]; subst hr)
              (first | refine vm_if rfl ?_ | refine vm_no rfl ?_ | refine vm_skip rfl ?_); intro r hr; simp only [go_sem, seval]
              refine call_fn rfl rfl rfl rfl (enters_of Tryd.func41 (by kernel_rfl) rfl) (c2) rfl rfl rfl ?_
              simp only [go_sem, seval]
              subst hr
              (first | refine vm_if rfl ?_ | refine vm_no rfl ?_ | refine vm_skip rfl ?_); intro r hr; simp only [go_sem, seval]; subst hr
              (refine vm_op ?_); intro r hr; simp only [go_sem, seval]; subst hr
              exact hQ
              first | refine Tr.cond (b := true) rfl (fun _ => ?_) (fun h => by cases h) | refine Tr.seq (Tr.cond (b := true) rfl (fun _ => ?_) (fun h => by cases h))
              first | refine tr_seq_region (by rw [hE]; rfl) ?_ | (refine Tr.seq ?_; refine tr_seq_region (by rw [hE]; rfl) ?_)
              repeat (refine vc_op rfl ?_; simp only [go_sem, seval])
              refine vc_nil ?_
              refine Tr.ret ?_
              simp only [er, Tryd.f21, go_sem, seval]
            · first | apply tr_m (by rw [hE]; rfl) | (refine Tr.seq ?_; apply tr_m (by rw [hE]; rfl))
              intro Q hQ
              simp only [go_sem, seval]
              iterate 3 ((refine vm_op ?_); intro r hr; simp only [go_sem, seval]; subst hr)
              (refine vm_op ?_); intro r hr; simp only [go_sem, seval]
              refine call_fn rfl rfl rfl rfl (enters_of Tryd.func41 (by kernel_rfl) rfl) (c1) rfl rfl rfl ?_
              simp only [go_sem, seval]
              subst hr
              iterate 2 ((refine vm_op ?_); intro r hr; simp only [go_sem, seval]; subst hr)
              iterate 3 ((first | refine vm_if rfl ?_ | refine vm_no rfl ?_ | refine vm_skip rfl ?_); intro r hr; simp only [go_sem, seval]; subst hr)
              (first | refine vm_if rfl ?_ | refine vm_no rfl ?_ | refine vm_skip rfl ?_); intro r hr; simp only [go_sem, seval]
              refine call_fn rfl rfl rfl rfl (enters_of Tryd.func41 (by kernel_rfl) rfl) (c2) rfl rfl rfl ?_
              simp only [go_sem, seval]
              subst hr
              (first | refine vm_if rfl ?_ | refine vm_no rfl ?_ | refine vm_skip rfl ?_); intro r hr; simp only [go_sem, seval]; subst hr
              (refine vm_op ?_); intro r hr; simp only [go_sem, seval]; subst hr
              exact hQ
              first | refine Tr.cond (b := false) rfl (fun h => by cases h) (fun _ => ?_) | refine Tr.seq (Tr.cond (b := false) rfl (fun h => by cases h) (fun _ => ?_))
              refine Tr.skip ?_
              try simp only [blockK, thenK, ↓reduceIte]
              refine tr_region (by rw [hE]; rfl) ?_
              repeat (refine vc_op rfl ?_; simp only [go_sem, seval])
              refine vc_nil ?_
              rw [hw2]
              try simp only [blockK, thenK, ↓reduceIte]
              refine ⟨k + 1, ⟨hki, hin⟩, by omega, ?_⟩
              refine wk_ren (fun n => n) ?_ ?_ rfl rfl rfl
              · repeat' (first | exact rfl | exact trivial | constructor)
              · repeat' (first | exact rfl | exact trivial | constructor)
          · rw [Bool.true_or] at hin
            first | apply tr_m (by rw [hE]; rfl) | (refine Tr.seq ?_; apply tr_m (by rw [hE]; rfl))
            intro Q hQ
            simp only [go_sem, seval]
            iterate 3 ((refine vm_op ?_); intro r hr; simp only [go_sem, seval]; subst hr)
            (refine vm_op ?_); intro r hr; simp only [go_sem, seval]
            refine call_fn rfl rfl rfl rfl (enters_of Tryd.func41 (by kernel_rfl) rfl) (c1) rfl rfl rfl ?_
            simp only [go_sem, seval]
            subst hr
            iterate 2 ((refine vm_op ?_); intro r hr; simp only [go_sem, seval]; subst hr)
            iterate 5 ((first | refine vm_if rfl ?_ | refine vm_no rfl ?_ | refine vm_skip rfl ?_); intro r hr; simp only [go_sem, seval]; subst hr)
            (refine vm_op ?_); intro r hr; simp only [go_sem, seval]; subst hr
            exact hQ
            first | refine Tr.cond (b := false) rfl (fun h => by cases h) (fun _ => ?_) | refine Tr.seq (Tr.cond (b := false) rfl (fun h => by cases h) (fun _ => ?_))
            refine Tr.skip ?_
            try simp only [blockK, thenK, ↓reduceIte]
            refine tr_region (by rw [hE]; rfl) ?_
            repeat (refine vc_op rfl ?_; simp only [go_sem, seval])
            refine vc_nil ?_
            rw [hw2]
            try simp only [blockK, thenK, ↓reduceIte]
            refine ⟨k + 1, ⟨hki, hin⟩, by omega, ?_⟩
            refine wk_ren (fun n => n) ?_ ?_ rfl rfl rfl
            · repeat' (first | exact rfl | exact trivial | constructor)
            · repeat' (first | exact rfl | exact trivial | constructor)
        · have e2 : decide ((k : Int) < (i : Int)) = false := decide_eq_false (by omega)
          have hki : k = i := by omega
          subst hki
          rw [hin0] at hnx
          first | refine tr_seq_region (by rw [hE]; rfl) ?_ | (refine Tr.seq ?_; refine tr_seq_region (by rw [hE]; rfl) ?_)
          repeat (refine vc_op rfl ?_; simp only [e2, go_sem, seval])
          refine vc_nil ?_
          first | refine Tr.cond (b := false) rfl (fun h => by cases h) (fun _ => ?_) | refine Tr.seq (Tr.cond (b := false) rfl (fun h => by cases h) (fun _ => ?_))
          refine Tr.exit ?_
          try simp only [blockK, thenK, ↓reduceIte]
          refine tr_region (by rw [hE]; rfl) ?_
          repeat (refine vc_op rfl ?_; simp only [go_sem, seval])
          refine vc_nil ?_
          rw [hw]
          try simp only [blockK, thenK, ↓reduceIte]
          refine ⟨k + 1, ⟨hlt, hnx⟩, by omega, ?_⟩
          refine wk_ren (fun n => n) ?_ ?_ rfl rfl rfl
          · repeat' (first | exact rfl | exact trivial | constructor)
          · repeat' (first | exact rfl | exact trivial | constructor)
    · have e1 : decide ((i : Int) < (l.length : Int)) = false := decide_eq_false (by omega)
      have hil : i = l.length := by omega
      subst hil
      have er : chainR t l = mayB t := by rw [chainR_eq, hch, Bool.and_true]
      rw [er]
      first | refine tr_seq_region (by rw [hE]; rfl) ?_ | (refine Tr.seq ?_; refine tr_seq_region (by rw [hE]; rfl) ?_)
      repeat (refine vc_op rfl ?_; simp only [e1, go_sem, seval])
      refine vc_nil ?_
      first | refine Tr.cond (b := false) rfl (fun h => by cases h) (fun _ => ?_) | refine Tr.seq (Tr.cond (b := false) rfl (fun h => by cases h) (fun _ => ?_))
      refine Tr.exit ?_
      try simp only [blockK, thenK, ↓reduceIte]
      first | apply tr_m (by rw [hE]; rfl) | (refine Tr.seq ?_; apply tr_m (by rw [hE]; rfl))
      intro Q hQ
      simp only [go_sem, seval]
      (refine vm_op ?_); intro r hr; simp only [go_sem, seval]; subst hr
      (refine vm_op ?_); intro r hr; simp only [go_sem, seval]
      refine call_fn rfl rfl rfl rfl (enters_of Tryd.func25 (by kernel_rfl) rfl) (h1) rfl rfl rfl ?_
      simp only [go_sem, seval]
      subst hr
      (refine vm_op ?_); intro r hr; simp only [go_sem, seval]; subst hr
      exact hQ
      refine Tr.ret ?_
      simp only [Tryd.f21, go_sem, seval]

end Go.Proofs.YtdlejnafhmpobaaDoor

/- The links that count. -/
set_option linter.unusedSimpArgs false
set_option maxRecDepth 10000
namespace Go.Proofs.YtdlejnafhmpobaaDoor
open Go Go.Ab

theorem counting_own (t : List Node) (l : List Link) (b : List Int) : Own Tryd.prog 34 [tav t, links l, u64s b] (.fn (.func 58) [] [.ptr 0 [] 0, .ptr 1 [] 0, .ptr 2 [] 0]) [(0, .var (tav t)), (1, .var (links l)), (2, .var (u64s b))] := by
  refine own_of_tr Tryd.func34 rfl (Nat.le_of_ble_eq_true rfl) rfl fun E hE hP => ?_
  first | refine tr_seq_region (by rw [hE]; rfl) ?_ | (refine Tr.seq ?_; refine tr_seq_region (by rw [hE]; rfl) ?_)
  repeat (refine vc_op rfl ?_; simp only [go_sem, seval])
  refine vc_nil ?_
  first | refine tr_seq_region (by rw [hE]; rfl) ?_ | (refine Tr.seq ?_; refine tr_seq_region (by rw [hE]; rfl) ?_)
  repeat (refine vc_op rfl ?_; simp only [go_sem, seval])
  refine vc_nil ?_
  refine Tr.ret ?_
  simp only [Tryd.f34, go_sem, seval]
  exact ⟨fun | 0 => 0 | 1 => 16 | 2 => 32 | n => n, rfl, ⟨⟨rfl, rfl, rfl⟩, ⟨rfl, rfl, rfl⟩, ⟨rfl, rfl, rfl⟩, trivial⟩, rfl⟩

def hpC (t : List Node) (l : List Link) (b : List Int) : HP := [(0, .tab 0 tabV), (1, .var (tav t)), (2, .var (links l)), (3, .var (u64s b))]
def stA (t : List Node) (l : List Link) (b : List Int) : S where
  fr := [(2, .ptr 4 [] 0), (6, .fn (.func 58) [] [.ptr 1 [] 0, .ptr 2 [] 0, .ptr 3 [] 0])]
  hp := [(0, .tab 0 tabV), (1, .var (tav t)), (2, .var (links l)), (3, .var (u64s b)), (4, .var (.ms 5 67 0)), (5, .row 67 [])]
  nx := 6
def stB (t : List Node) (l : List Link) (b : List Int) (L : Nat) (c : LB) (i : Nat) : S where
  fr := [(0, .fn (.yield L) [] []), (1, .ptr 1 [] 0), (2, .ptr 2 [] 0), (3, .ptr 3 [] 0), (12, .sl (l.map Link.av) false), (13, .int .i64 l.length), (14, .int .i64 i)]
  hp := [(7, .lp c .ready none), (6, .dfr), (0, .tab 0 tabV), (1, .var (tav t)), (2, .var (links l)), (3, .var (u64s b)), (4, .var (.ms 8 67 ((l.take i).filter (countB t b)).length)), (8, .row 67 (((l.take i).filter (countB t b)).map Link.av))]
  nx := 9

theorem appendseq_eff (t : List Node) (l : List Link) (b : List Int) (hl : l.length ≤ 100) (hb : okB b) (hk : okL l) : Eff Tryd.prog 57 [.sl [] true, .fn (.func 58) [] [.ptr 1 [] 0, .ptr 2 [] 0, .ptr 3 [] 0]] 4 (hpC t l b) (links (countL t l b)) (hpC t l b) := by
  have h1 := told_pure t l b
  refine eff_of_trM Tryd.func57 rfl (Nat.le_of_ble_eq_true rfl) rfl fun E hE hP => ?_
  unfold hpC
  first | refine tr_seq_region (by rw [hE]; rfl) ?_ | (refine Tr.seq ?_; refine tr_seq_region (by rw [hE]; rfl) ?_)
  repeat (refine vc_op rfl ?_; simp only [go_sem, seval])
  refine vc_nil ?_
  first | refine tr_seq_region (by rw [hE]; rfl) ?_ | (refine Tr.seq ?_; refine tr_seq_region (by rw [hE]; rfl) ?_)
  repeat (refine vc_op rfl ?_; simp only [go_sem, seval])
  refine vc_nil ?_
  refine Tr.wk (Wk.trans (Wk.nilVar 4 67 rfl) (s'' := stA t l b) ?_) ?_
  · refine wk_ren (fun | 5 => 52 | n => n) ?_ ?_ rfl rfl rfl
    · repeat' (first | exact rfl | exact trivial | constructor)
    · repeat' (first | exact rfl | exact trivial | constructor)
  · unfold stA
    first | refine Tr.block ?_ | (refine Tr.seq ?_; refine Tr.block ?_)
    refine Tr.range (fid := 58) (fn := Tryd.f58) rfl (enters_of Tryd.func58 (by kernel_rfl) rfl) Tryd.func58 rfl rfl (Nat.le_of_ble_eq_true rfl) ?_
    have hE0 := hE
    intro E' L c hE hP' sd
    have hP : E'.pn = 8 := hP'
    cases h : toldR t l b with
    | false =>
      rw [h] at h1
      have er : countL t l b = [] := by unfold countL; rw [if_neg (by simp [h])]
      first | apply tr_m (by rw [hE]; rfl) | (refine Tr.seq ?_; apply tr_m (by rw [hE]; rfl))
      intro Q hQ
      simp only [go_sem, seval]
      iterate 3 ((refine vm_op ?_); intro r hr; simp only [go_sem, seval]; subst hr)
      (refine vm_op ?_); intro r hr; simp only [go_sem, seval]
      refine call_fn rfl rfl rfl rfl (enters_of Tryd.func59 (by kernel_rfl) rfl) (h1) rfl rfl rfl ?_
      simp only [go_sem, seval]
      subst hr
      (refine vm_op ?_); intro r hr; simp only [go_sem, seval]; subst hr
      exact hQ
      first | refine Tr.cond (b := true) rfl (fun _ => ?_) (fun h => by cases h) | refine Tr.seq (Tr.cond (b := true) rfl (fun _ => ?_) (fun h => by cases h))
      refine Tr.ret ?_
      have hE := hE0
      refine ⟨rfl, _, _, rfl, by simp, rfl, ?_⟩
      simp only [goOn]
      simp only [HP.del, List.filter_cons, List.filter_nil, Bool.not_false, Bool.not_true, if_true, Bool.false_eq_true, if_false, go_sem, seval]
      rw [er]
      first | refine tr_seq_region (by rw [hE]; rfl) ?_ | (refine Tr.seq ?_; refine tr_seq_region (by rw [hE]; rfl) ?_)
      repeat (refine vc_op rfl ?_; simp only [go_sem, seval])
      refine vc_nil ?_
      refine Tr.ret ?_
      refine ⟨by simp, fun o ho => by rw [List.mem_singleton.1 ho]; rfl, ?_⟩
      simp only [HP.drop, List.contains_cons, List.contains_nil, Bool.or_false, Bool.false_or, Bool.or_true, List.filter_cons, List.filter_nil, Bool.not_false, Bool.not_true, if_true, Bool.false_eq_true, if_false,  Tryd.f57, go_sem, seval]
      exact ⟨fun n => n, rfl, ⟨⟨rfl, rfl, rfl⟩, ⟨rfl, rfl, rfl⟩, ⟨rfl, rfl, rfl⟩, ⟨rfl, rfl, rfl⟩, trivial⟩, rfl, fun _ _ => rfl⟩
    | true =>
      rw [h] at h1
      have er : countL t l b = l.filter (countB t b) := by unfold countL; rw [if_pos h]
      first | apply tr_m (by rw [hE]; rfl) | (refine Tr.seq ?_; apply tr_m (by rw [hE]; rfl))
      intro Q hQ
      simp only [go_sem, seval]
      iterate 3 ((refine vm_op ?_); intro r hr; simp only [go_sem, seval]; subst hr)
      (refine vm_op ?_); intro r hr; simp only [go_sem, seval]
      refine call_fn rfl rfl rfl rfl (enters_of Tryd.func59 (by kernel_rfl) rfl) (h1) rfl rfl rfl ?_
      simp only [go_sem, seval]
      subst hr
      (refine vm_op ?_); intro r hr; simp only [go_sem, seval]; subst hr
      exact hQ
      first | refine Tr.cond rfl (fun h => by cases h) (fun _ => ?_) | refine Tr.seq (Tr.cond rfl (fun h => by cases h) (fun _ => ?_))
      refine Tr.skip ?_
      try simp only [blockK, thenK, ↓reduceIte]
      first | refine tr_seq_region (by rw [hE]; rfl) ?_ | (refine Tr.seq ?_; refine tr_seq_region (by rw [hE]; rfl) ?_)
      repeat (refine vc_op rfl ?_; simp only [go_sem, seval])
      refine vc_nil ?_
      first | refine Tr.block ?_ | (refine Tr.seq ?_; refine Tr.block ?_)
      refine Tr.loop (stB t l b L c) (fun i => i ≤ l.length) (fun i => l.length - i) 0 (Nat.zero_le _) ?_ ?_
      · refine wk_ren (fun | 8 => 5 | n => n) ?_ ?_ rfl rfl rfl
        · repeat' (first | exact rfl | exact trivial | constructor)
        · repeat' (first | exact rfl | exact trivial | constructor)
      · intro i hi
        unfold stB
        by_cases hlt : i < l.length
        · have e1 : decide ((i : Int) < (l.length : Int)) = true := decide_eq_true (by omega)
          have hn := nth_map_lt Link.av l i hlt
          have hw := wrap_next (n := i) (by omega)
          have hnx : (l.take (i + 1)).filter (countB t b) = (l.take i).filter (countB t b) ++ if countB t b l[i] then [l[i]] else [] := by
            rw [List.take_add_one, List.getElem?_eq_getElem hlt, List.filter_append]
            congr 1
            simp only [Option.toList_some, List.filter_cons, List.filter_nil]
          have hm : ((l.take i).filter (countB t b)).length ≤ 100 := by
            have := List.length_filter_le (countB t b) (l.take i)
            rw [List.length_take] at this
            omega
          have hok := hk _ (List.getElem_mem hlt)
          generalize (l.take i).filter (countB t b) = m at hnx hm
          generalize l[i] = a at hn hnx hok
          have c1 := behind_pure t a.t a.s
          have c2 := most_T b a.mask.toNat hb (by omega)
          rw [Int.toNat_of_nonneg hok.1] at c2
          have hS : countB t b a = (behindB t a.t a.s && mostB b a.mask.toNat) := rfl
          rw [hS] at hnx
          generalize behindB t a.t a.s = x1 at c1 hnx
          generalize mostB b a.mask.toNat = x2 at c2 hnx
          first | refine tr_seq_region (by rw [hE]; rfl) ?_ | (refine Tr.seq ?_; refine tr_seq_region (by rw [hE]; rfl) ?_)
          repeat (refine vc_op rfl ?_; simp only [e1, go_sem, seval])
          refine vc_nil ?_
          first | refine Tr.cond (b := true) rfl (fun _ => ?_) (fun h => by cases h) | refine Tr.seq (Tr.cond (b := true) rfl (fun _ => ?_) (fun h => by cases h))
          refine Tr.skip ?_
          try simp only [blockK, thenK, ↓reduceIte]
          first | refine Tr.block ?_ | (refine Tr.seq ?_; refine Tr.block ?_)
          first | apply tr_m (by rw [hE]; rfl) | (refine Tr.seq ?_; apply tr_m (by rw [hE]; rfl))
          intro Q hQ
          simp only [go_sem, seval]
          iterate 4 ((refine vm_op ?_); intro r hr; simp only [hn, go_sem, seval]; subst hr)
          exact hQ
          cases x1
          · rw [Bool.false_and, if_neg (by simp), List.append_nil] at hnx
            first | refine tr_seq_y 15 sd (by rw [hE]; rfl) rfl rfl rfl ?_ | (refine Tr.seq ?_; refine tr_seq_y 15 sd (by rw [hE]; rfl) rfl rfl rfl ?_)
            simp only [List.toList_toArray, List.take_succ_cons, List.take_zero]
            repeat (first | (refine vc_op rfl ?_; simp only [go_sem, seval]) | (refine vc_go rfl rfl rfl ?_; simp only [go_sem, seval]) | (refine vc_no rfl rfl rfl ?_; simp only [go_sem, seval]) | (refine vc_skip rfl rfl rfl ?_; simp only [go_sem, seval]))
            refine call_fn rfl rfl rfl rfl (enters_of Tryd.func41 (by kernel_rfl) rfl) (c1) rfl rfl rfl ?_
            simp only [go_sem, seval]
            repeat (first | (refine vc_op rfl ?_; simp only [go_sem, seval]) | (refine vc_go rfl rfl rfl ?_; simp only [go_sem, seval]) | (refine vc_no rfl rfl rfl ?_; simp only [go_sem, seval]) | (refine vc_skip rfl rfl rfl ?_; simp only [go_sem, seval]))
            refine vc_nil ?_
            refine gy_no rfl rfl rfl ?_
            simp only [go_sem, seval]
            repeat (first | (refine vc_op rfl ?_; simp only [go_sem, seval]) | (refine vc_go rfl rfl rfl ?_; simp only [go_sem, seval]) | (refine vc_no rfl rfl rfl ?_; simp only [go_sem, seval]) | (refine vc_skip rfl rfl rfl ?_; simp only [go_sem, seval]))
            refine vc_nil ?_
            first | refine Tr.cond (b := false) rfl (fun h => by cases h) (fun _ => ?_) | refine Tr.seq (Tr.cond (b := false) rfl (fun h => by cases h) (fun _ => ?_))
            refine Tr.skip ?_
            try simp only [blockK, thenK, ↓reduceIte]
            refine tr_region (by rw [hE]; rfl) ?_
            repeat (refine vc_op rfl ?_; simp only [go_sem, seval])
            refine vc_nil ?_
            rw [hw]
            try simp only [blockK, thenK, ↓reduceIte]
            refine ⟨i + 1, hlt, by omega, ?_⟩
            simp only [stB, hnx]
            refine wk_ren (fun n => n) ?_ ?_ rfl rfl rfl
            · repeat' (first | exact rfl | exact trivial | constructor)
            · repeat' (first | exact rfl | exact trivial | constructor)
          · cases x2
            · rw [Bool.and_false, if_neg (by simp), List.append_nil] at hnx
              first | refine tr_seq_y 15 sd (by rw [hE]; rfl) rfl rfl rfl ?_ | (refine Tr.seq ?_; refine tr_seq_y 15 sd (by rw [hE]; rfl) rfl rfl rfl ?_)
              simp only [List.toList_toArray, List.take_succ_cons, List.take_zero]
              repeat (first | (refine vc_op rfl ?_; simp only [go_sem, seval]) | (refine vc_go rfl rfl rfl ?_; simp only [go_sem, seval]) | (refine vc_no rfl rfl rfl ?_; simp only [go_sem, seval]) | (refine vc_skip rfl rfl rfl ?_; simp only [go_sem, seval]))
              refine call_fn rfl rfl rfl rfl (enters_of Tryd.func41 (by kernel_rfl) rfl) (c1) rfl rfl rfl ?_
              simp only [go_sem, seval]
              repeat (first | (refine vc_op rfl ?_; simp only [go_sem, seval]) | (refine vc_go rfl rfl rfl ?_; simp only [go_sem, seval]) | (refine vc_no rfl rfl rfl ?_; simp only [go_sem, seval]) | (refine vc_skip rfl rfl rfl ?_; simp only [go_sem, seval]))
              refine call_eff (fun n => n) [] [] rfl rfl rfl rfl (enters_of Tryd.func60 (by kernel_rfl) rfl) (c2) rfl rfl (by repeat' (first | exact rfl | exact trivial | constructor)) rfl rfl rfl ?_
              simp only [renH_nil, renH_cons, effR, go_sem, seval]
              repeat (first | (refine vc_op rfl ?_; simp only [go_sem, seval]) | (refine vc_go rfl rfl rfl ?_; simp only [go_sem, seval]) | (refine vc_no rfl rfl rfl ?_; simp only [go_sem, seval]) | (refine vc_skip rfl rfl rfl ?_; simp only [go_sem, seval]))
              refine vc_nil ?_
              refine gy_no rfl rfl rfl ?_
              simp only [go_sem, seval]
              repeat (first | (refine vc_op rfl ?_; simp only [go_sem, seval]) | (refine vc_go rfl rfl rfl ?_; simp only [go_sem, seval]) | (refine vc_no rfl rfl rfl ?_; simp only [go_sem, seval]) | (refine vc_skip rfl rfl rfl ?_; simp only [go_sem, seval]))
              refine vc_nil ?_
              first | refine Tr.cond (b := false) rfl (fun h => by cases h) (fun _ => ?_) | refine Tr.seq (Tr.cond (b := false) rfl (fun h => by cases h) (fun _ => ?_))
              refine Tr.skip ?_
              try simp only [blockK, thenK, ↓reduceIte]
              refine tr_region (by rw [hE]; rfl) ?_
              repeat (refine vc_op rfl ?_; simp only [go_sem, seval])
              refine vc_nil ?_
              rw [hw]
              try simp only [blockK, thenK, ↓reduceIte]
              refine ⟨i + 1, hlt, by omega, ?_⟩
              simp only [stB, hnx]
              refine wk_ren (fun n => n) ?_ ?_ rfl rfl rfl
              · repeat' (first | exact rfl | exact trivial | constructor)
              · repeat' (first | exact rfl | exact trivial | constructor)
            · rw [Bool.and_true, if_pos rfl] at hnx
              first | refine tr_seq_y 15 sd (by rw [hE]; rfl) rfl rfl rfl ?_ | (refine Tr.seq ?_; refine tr_seq_y 15 sd (by rw [hE]; rfl) rfl rfl rfl ?_)
              simp only [List.toList_toArray, List.take_succ_cons, List.take_zero]
              repeat (first | (refine vc_op rfl ?_; simp only [go_sem, seval]) | (refine vc_go rfl rfl rfl ?_; simp only [go_sem, seval]) | (refine vc_no rfl rfl rfl ?_; simp only [go_sem, seval]) | (refine vc_skip rfl rfl rfl ?_; simp only [go_sem, seval]))
              refine call_fn rfl rfl rfl rfl (enters_of Tryd.func41 (by kernel_rfl) rfl) (c1) rfl rfl rfl ?_
              simp only [go_sem, seval]
              repeat (first | (refine vc_op rfl ?_; simp only [go_sem, seval]) | (refine vc_go rfl rfl rfl ?_; simp only [go_sem, seval]) | (refine vc_no rfl rfl rfl ?_; simp only [go_sem, seval]) | (refine vc_skip rfl rfl rfl ?_; simp only [go_sem, seval]))
              refine call_eff (fun n => n) [] [] rfl rfl rfl rfl (enters_of Tryd.func60 (by kernel_rfl) rfl) (c2) rfl rfl (by repeat' (first | exact rfl | exact trivial | constructor)) rfl rfl rfl ?_
              simp only [renH_nil, renH_cons, effR, go_sem, seval]
              repeat (first | (refine vc_op rfl ?_; simp only [go_sem, seval]) | (refine vc_go rfl rfl rfl ?_; simp only [go_sem, seval]) | (refine vc_no rfl rfl rfl ?_; simp only [go_sem, seval]) | (refine vc_skip rfl rfl rfl ?_; simp only [go_sem, seval]))
              refine vc_nil ?_
              have hE1 := hE
              have hP1 := hP
              refine gy_if rfl rfl rfl ?_
              refine ⟨_, rfl, rfl, rfl, rfl, by rw [hE0]; rfl, rfl, ?_⟩
              intro Er hE hP
              rw [hE0] at hE
              simp only [frPut, List.zip_cons_cons, List.zip_nil_left, List.zip_nil_right, List.foldl_cons, List.foldl_nil, List.toList_toArray, List.map_cons, List.map_nil, go_sem, seval]
              refine tr_region (by rw [hE]; rfl) ?_
              repeat (refine vc_op rfl ?_; simp only [go_sem, seval])
              refine vc_nil ?_
              refine ⟨rfl, ?_⟩
              simp only [go_sem, seval]
              first | refine Tr.block ?_ | (refine Tr.seq ?_; refine Tr.block ?_)
              apply tr_ml (by rw [hE]; rfl)
              intro Q hQ
              simp only [go_sem, seval]
              iterate 3 ((refine vm_op ?_); intro r hr; simp only [go_sem, seval]; subst hr)
              (refine vm_op ?_); intro r hr; simp only [go_sem, seval]
              refine ⟨by omega, by omega, ?_⟩
              simp only [List.filter_cons, List.filter_nil, Bool.not_false, Bool.not_true, if_true, Bool.false_eq_true, if_false, go_sem, seval]
              subst hr
              (refine vm_op ?_); intro r hr; simp only [go_sem, seval]; subst hr
              exact hQ
              try simp only [blockK, thenK, ↓reduceIte]
              refine ⟨rfl, ?_⟩
              simp only [go_sem, seval]
              repeat (first | (refine vc_op rfl ?_; simp only [go_sem, seval]) | (refine vc_go rfl rfl rfl ?_; simp only [go_sem, seval]) | (refine vc_no rfl rfl rfl ?_; simp only [go_sem, seval]) | (refine vc_skip rfl rfl rfl ?_; simp only [go_sem, seval]))
              refine vc_nil ?_
              have hE := hE1
              have hP := hP1
              first | refine Tr.cond (b := false) rfl (fun h => by cases h) (fun _ => ?_) | refine Tr.seq (Tr.cond (b := false) rfl (fun h => by cases h) (fun _ => ?_))
              refine Tr.skip ?_
              try simp only [blockK, thenK, ↓reduceIte]
              refine tr_region (by rw [hE]; rfl) ?_
              repeat (refine vc_op rfl ?_; simp only [go_sem, seval])
              refine vc_nil ?_
              rw [hw]
              try simp only [blockK, thenK, ↓reduceIte]
              refine ⟨i + 1, hlt, by omega, ?_⟩
              simp only [stB, hnx, List.map_append, List.length_append, List.length_singleton, List.map_cons, List.map_nil]
              refine wk_ren (fun | 8 => 409 | n => n) ?_ ?_ rfl rfl rfl
              · repeat' (first | exact rfl | exact trivial | constructor)
              · repeat' (first | exact rfl | exact trivial | constructor)
        · have e1 : decide ((i : Int) < (l.length : Int)) = false := decide_eq_false (by omega)
          have hil : i = l.length := by omega
          subst hil
          rw [List.take_length, ← er]
          first | refine tr_seq_region (by rw [hE]; rfl) ?_ | (refine Tr.seq ?_; refine tr_seq_region (by rw [hE]; rfl) ?_)
          repeat (refine vc_op rfl ?_; simp only [e1, go_sem, seval])
          refine vc_nil ?_
          first | refine Tr.cond (b := false) rfl (fun h => by cases h) (fun _ => ?_) | refine Tr.seq (Tr.cond (b := false) rfl (fun h => by cases h) (fun _ => ?_))
          refine Tr.exit ?_
          try simp only [blockK, thenK, ↓reduceIte]
          have hE := hE0
          refine ⟨rfl, _, _, rfl, by simp, rfl, ?_⟩
          simp only [goOn]
          simp only [HP.del, List.filter_cons, List.filter_nil, Bool.not_false, Bool.not_true, if_true, Bool.false_eq_true, if_false, go_sem, seval]
          have hlen : (countL t l b).length = ((countL t l b).map Link.av).length := by simp
          first | refine tr_seq_region (by rw [hE]; rfl) ?_ | (refine Tr.seq ?_; refine tr_seq_region (by rw [hE]; rfl) ?_)
          repeat (refine vc_op rfl ?_; simp only [go_sem, seval])
          refine vc_nil ?_
          refine Tr.ret ?_
          refine ⟨by simp, fun o ho => by rw [List.mem_singleton.1 ho]; rfl, ?_⟩
          simp only [HP.drop, List.contains_cons, List.contains_nil, Bool.or_false, Bool.false_or, Bool.or_true, List.filter_cons, List.filter_nil, Bool.not_false, Bool.not_true, if_true, Bool.false_eq_true, if_false,  Tryd.f57, go_sem, seval]
          refine ⟨fun n => n, ?_, ⟨⟨rfl, rfl, rfl⟩, ⟨rfl, rfl, rfl⟩, ⟨rfl, rfl, rfl⟩, ⟨rfl, rfl, rfl⟩, trivial⟩, rfl, fun _ _ => rfl⟩
          simp only [Bool.or_false, Bool.false_or, Bool.or_true, Bool.or_self, links, List.filter_cons, List.filter_nil, Bool.not_false, Bool.not_true, if_true, Bool.false_eq_true, if_false, ← hlen, go_sem, seval]

end Go.Proofs.YtdlejnafhmpobaaDoor

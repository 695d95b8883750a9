/- What some weigh: the plain words, and the reference. -/
import Derived.Test.YtdlejnafhmpobaaDoorP2
set_option linter.unusedSimpArgs false
set_option maxRecDepth 10000
namespace Go.Proofs.YtdlejnafhmpobaaDoor
open Go Go.Ab

def sumTo (bal : List Int) (m : Nat) : Nat → Int
  | 0 => 0
  | n + 1 => sumTo bal m n + if m.testBit n then bal.getD n 0 else 0
def ofB (bal : List Int) (m : Nat) : Int := if mayS bal then sumTo bal m bal.length else 0
def maskAll : Nat := 18446744073709551615
def mostB (bal : List Int) (m : Nat) : Bool := mayS bal && decide (2 * (ofB bal maskAll).toNat ≤ 3 * (ofB bal m).toNat)
def someB (bal : List Int) (m : Nat) : Bool := mayS bal && decide ((ofB bal maskAll).toNat ≤ 3 * (ofB bal m).toNat)
def okB (bal : List Int) : Prop := ∀ x ∈ bal, 0 ≤ x

theorem mayS_spec {bal : List Int} (h : mayS bal = true) : 0 < bal.length ∧ bal.length ≤ 8 ∧ ∀ x ∈ bal, x ≤ 1099511627776 := by
  simp only [mayS, Bool.and_eq_true, decide_eq_true_eq, Bool.not_eq_true', List.any_eq_false] at h
  refine ⟨h.1, h.2.1, fun x hx => ?_⟩
  have := h.2.2 x hx
  simp only [over, decide_eq_true_eq] at this
  omega
theorem bal_range {bal : List Int} (h : mayS bal = true) (hb : okB bal) {n : Nat} (hn : n < bal.length) : 0 ≤ bal.getD n 0 ∧ bal.getD n 0 ≤ 1099511627776 := by
  have e : bal.getD n 0 = bal[n] := by simp [hn]
  rw [e]
  exact ⟨hb _ (List.getElem_mem hn), (mayS_spec h).2.2 _ (List.getElem_mem hn)⟩
theorem sumTo_range {bal : List Int} (h : mayS bal = true) (hb : okB bal) (m : Nat) : ∀ n, n ≤ bal.length → 0 ≤ sumTo bal m n ∧ sumTo bal m n ≤ n * 1099511627776
  | 0, _ => by simp [sumTo]
  | n + 1, hn => by
    have ih := sumTo_range h hb m n (by omega)
    have hr := bal_range h hb (n := n) (by omega)
    rw [sumTo]
    split <;> omega
theorem ofB_range {bal : List Int} (hb : okB bal) (m : Nat) : 0 ≤ ofB bal m ∧ ofB bal m ≤ 8796093022208 := by
  unfold ofB
  split
  · rename_i h
    have := sumTo_range h hb m bal.length (Nat.le_refl _)
    have := (mayS_spec h).2.1
    omega
  · omega
theorem sumTo_congr {bal : List Int} {m k : Nat} : ∀ n, (∀ j, j < n → m.testBit j = k.testBit j) → sumTo bal m n = sumTo bal k n
  | 0, _ => rfl
  | n + 1, h => by rw [sumTo, sumTo, sumTo_congr n fun j hj => h j (by omega), h n (by omega)]
theorem sumTo_zero (bal : List Int) : ∀ n, sumTo bal 0 n = 0
  | 0 => rfl
  | n + 1 => by rw [sumTo, sumTo_zero]; simp
theorem sumTo_less {bal : List Int} {m k v : Nat} (hv : m.testBit v = true) : ∀ n, (∀ j, j < n → k.testBit j = (m.testBit j && decide (j ≠ v))) → sumTo bal m n = sumTo bal k n + if v < n then bal.getD v 0 else 0
  | 0, _ => by simp [sumTo]
  | n + 1, h => by
    have ih := sumTo_less (bal := bal) hv n fun j hj => h j (by omega)
    have hn := h n (by omega)
    rw [sumTo, sumTo, ih, hn]
    by_cases hnv : n = v
    · subst hnv
      rw [hv]
      simp
    · have e : decide (n ≠ v) = true := decide_eq_true hnv
      rw [e, Bool.and_true]
      have : (v < n + 1) ↔ v < n := by omega
      simp only [this]
      omega

theorem refsmay_pure (l : List Int) (hl : l.length ≤ 9223372036854775807) : Pure Tryd.prog 62 [u64s l] (.bool (mayS l)) := by
  unfold u64s
  refine pure_of_tr Tryd.func62 rfl (Nat.le_of_ble_eq_true rfl) rfl fun E hE hP => ?_
  first | refine tr_seq_region (by rw [hE]; rfl) ?_ | (refine Tr.seq ?_; refine tr_seq_region (by rw [hE]; rfl) ?_)
  repeat (refine vc_op rfl ?_; simp only [go_sem, seval])
  refine vc_nil ?_
  first | refine tr_seq_region (by rw [hE]; rfl) ?_ | (refine Tr.seq ?_; refine tr_seq_region (by rw [hE]; rfl) ?_)
  repeat (refine vc_op rfl ?_; simp only [go_sem, seval])
  refine vc_nil ?_
  first | refine Tr.block ?_ | (refine Tr.seq ?_; refine Tr.block ?_)
  refine Tr.loop (fun i : Nat => (⟨[(0, .sl (l.map uav) false), (3, .int .i64 i)], [], 0, []⟩ : S)) (fun i => i ≤ l.length ∧ ∀ j (hj : j < l.length), j < i → over l[j] = false) (fun i => l.length - i) 0 ⟨Nat.zero_le _, fun _ _ h => by omega⟩ ?_ ?_
  · refine wk_ren (fun n => n) ?_ ?_ rfl rfl rfl
    · repeat' (first | exact rfl | exact trivial | constructor)
    · repeat' (first | exact rfl | exact trivial | constructor)
  · intro i ⟨hi, hall⟩
    first | refine tr_seq_region (by rw [hE]; rfl) ?_ | (refine Tr.seq ?_; refine tr_seq_region (by rw [hE]; rfl) ?_)
    repeat (refine vc_op rfl ?_; simp only [go_sem, seval])
    refine vc_nil ?_
    first | refine Tr.cond rfl (fun h1 => ?_) (fun h1 => ?_) | refine Tr.seq (Tr.cond rfl (fun h1 => ?_) (fun h1 => ?_))
    · refine Tr.skip ?_
      try simp only [blockK, thenK, ↓reduceIte]
      have hlt : i < l.length := by have := of_decide_eq_true h1; omega
      have ha := nth_map_lt uav l i hlt
      have hw := wrap_next' (n := i) (by omega)
      first | refine Tr.block ?_ | (refine Tr.seq ?_; refine Tr.block ?_)
      cases hb : over l[i] with
      | true =>
        have er : mayS l = false := by
          have : l.any over = true := List.any_eq_true.2 ⟨_, List.getElem_mem hlt, hb⟩
          simp [mayS, this]
        have hb' : decide (1099511627776 < l[i]) = true := hb
        first | apply tr_m (by rw [hE]; rfl) | (refine Tr.seq ?_; apply tr_m (by rw [hE]; rfl))
        intro Q hQ
        simp only [go_sem, seval]
        iterate 5 ((refine vm_op ?_); intro r hr; simp only [uav, ha, hb', go_sem, seval]; subst hr)
        exact hQ
        first | refine Tr.cond (b := true) rfl (fun _ => ?_) (fun h => by cases h) | refine Tr.seq (Tr.cond (b := true) rfl (fun _ => ?_) (fun h => by cases h))
        first | refine tr_seq_region (by rw [hE]; rfl) ?_ | (refine Tr.seq ?_; refine tr_seq_region (by rw [hE]; rfl) ?_)
        repeat (refine vc_op rfl ?_; simp only [go_sem, seval])
        refine vc_nil ?_
        refine Tr.ret ?_
        simp only [er, Tryd.f62, go_sem, seval]
      | false =>
        have hb' : decide (1099511627776 < l[i]) = false := hb
        first | apply tr_m (by rw [hE]; rfl) | (refine Tr.seq ?_; apply tr_m (by rw [hE]; rfl))
        intro Q hQ
        simp only [go_sem, seval]
        iterate 5 ((refine vm_op ?_); intro r hr; simp only [uav, ha, hb', go_sem, seval]; subst hr)
        exact hQ
        first | refine Tr.cond (b := false) rfl (fun h => by cases h) (fun _ => ?_) | refine Tr.seq (Tr.cond (b := false) rfl (fun h => by cases h) (fun _ => ?_))
        refine Tr.skip ?_
        try simp only [blockK, thenK, ↓reduceIte]
        refine tr_region (by rw [hE]; rfl) ?_
        repeat (refine vc_op rfl ?_; simp only [go_sem, seval])
        refine vc_nil ?_
        rw [hw]
        try simp only [blockK, thenK, ↓reduceIte]
        refine ⟨i + 1, ⟨hlt, fun j hj hjl => ?_⟩, by omega, ?_⟩
        · rcases Nat.lt_or_ge j i with h | h
          · exact hall j hj h
          · have : j = i := by omega
            subst this; exact hb
        refine wk_ren (fun n => n) ?_ ?_ rfl rfl rfl
        · repeat' (first | exact rfl | exact trivial | constructor)
        · repeat' (first | exact rfl | exact trivial | constructor)
    · refine Tr.exit ?_
      try simp only [blockK, thenK, ↓reduceIte]
      have hil : i = l.length := by have := of_decide_eq_false h1; omega
      have hno : l.any over = false := by
        rw [List.any_eq_false]
        intro x hx
        obtain ⟨j, hj, rfl⟩ := List.mem_iff_getElem.1 hx
        rw [hall j hj (by omega)]; simp
      by_cases h0 : 0 < l.length
      · have e0 : decide ((1 : Int) ≤ (l.length : Int)) = true := decide_eq_true (by omega)
        have er : mayS l = decide ((l.length : Int) ≤ 8) := by
          simp only [mayS, hno, decide_eq_true h0, Bool.not_false, Bool.and_true, Bool.true_and]
          exact decide_eq_decide.2 (by omega)
        first | apply tr_m (by rw [hE]; rfl) | (refine Tr.seq ?_; apply tr_m (by rw [hE]; rfl))
        intro Q hQ
        simp only [go_sem, seval]
        iterate 4 ((refine vm_op ?_); intro r hr; simp only [e0, go_sem, seval]; subst hr)
        iterate 3 ((first | refine vm_if rfl ?_ | refine vm_no rfl ?_ | refine vm_skip rfl ?_); intro r hr; simp only [e0, go_sem, seval]; subst hr)
        iterate 2 ((refine vm_op ?_); intro r hr; simp only [e0, go_sem, seval]; subst hr)
        exact hQ
        refine Tr.ret ?_
        simp only [er, Tryd.f62, go_sem, seval]
      · have e0 : decide ((1 : Int) ≤ (l.length : Int)) = false := decide_eq_false (by omega)
        have er : mayS l = false := by simp only [mayS, decide_eq_false h0, Bool.false_and]
        first | apply tr_m (by rw [hE]; rfl) | (refine Tr.seq ?_; apply tr_m (by rw [hE]; rfl))
        intro Q hQ
        simp only [go_sem, seval]
        iterate 4 ((refine vm_op ?_); intro r hr; simp only [e0, go_sem, seval]; subst hr)
        iterate 3 ((first | refine vm_if rfl ?_ | refine vm_no rfl ?_ | refine vm_skip rfl ?_); intro r hr; simp only [e0, go_sem, seval]; subst hr)
        iterate 2 ((refine vm_op ?_); intro r hr; simp only [e0, go_sem, seval]; subst hr)
        exact hQ
        refine Tr.ret ?_
        simp only [er, Tryd.f62, go_sem, seval]

theorem refhas_pure (m v : Nat) (hm : m < 18446744073709551616) (hv : v < 8) : Pure Tryd.prog 97 [.int .u64 m, .int .i64 v] (.bool (m.testBit v)) := by
  have hb := bit_pow v (by omega)
  have h1 := RBit_pure v (by omega)
  rw [hb] at h1
  have er : m.testBit v = decide (((m / 2 ^ v % 2 : Nat) : Int) = 1) := by
    rw [Nat.testBit_eq_decide_div_mod_eq]
    exact decide_eq_decide.2 (by omega)
  have hp : 0 < 2 ^ v := Nat.pow_pos (by omega)
  generalize 2 ^ v = p at h1 er hp
  have e0 : decide ((0 : Int) < (p : Int)) = true := decide_eq_true (by omega)
  have n0 : (¬ (p : Int) = 0) = True := by simp; omega
  have n2 : (¬ (2 : Int) = 0) = True := by simp
  have q1 : IntKind.u64.wrap ((m : Int).tdiv p) = ((m / p : Nat) : Int) := by
    have e : (m : Int).tdiv p = ((m / p : Nat) : Int) := rfl
    rw [e]; exact wrapU (Nat.lt_of_le_of_lt (Nat.div_le_self _ _) hm)
  have q2 : ((m / p : Nat) : Int).tmod 2 = ((m / p % 2 : Nat) : Int) := rfl
  rw [er]
  generalize ((m / p % 2 : Nat) : Int) = y at q2 ⊢
  generalize ((m / p : Nat) : Int) = x at q1 q2
  clear hm er hb
  refine pure_of_tr Tryd.func97 rfl (Nat.le_of_ble_eq_true rfl) rfl fun E hE hP => ?_
  first | refine tr_seq_region (by rw [hE]; rfl) ?_ | (refine Tr.seq ?_; refine tr_seq_region (by rw [hE]; rfl) ?_)
  repeat (refine vc_op rfl ?_; simp only [go_sem, seval])
  refine vc_nil ?_
  first | apply tr_m (by rw [hE]; rfl) | (refine Tr.seq ?_; apply tr_m (by rw [hE]; rfl))
  intro Q hQ
  simp only [go_sem, seval]
  (refine vm_op ?_); intro r hr; simp only [go_sem, seval]; subst hr
  (refine vm_op ?_); intro r hr; simp only [go_sem, seval]
  refine call_fn rfl rfl rfl rfl (enters_of Tryd.func99 (by kernel_rfl) rfl) (h1) rfl rfl rfl ?_
  simp only [go_sem, seval]
  subst hr
  (refine vm_op ?_); intro r hr; simp only [go_sem, seval]; subst hr
  exact hQ
  first | apply tr_m (by rw [hE]; rfl) | (refine Tr.seq ?_; apply tr_m (by rw [hE]; rfl))
  intro Q hQ
  simp only [go_sem, seval]
  iterate 3 ((refine vm_op ?_); intro r hr; simp only [e0, n0, n2, q1, q2, int_beq, go_sem, seval]; subst hr)
  iterate 5 ((first | refine vm_if rfl ?_ | refine vm_no rfl ?_ | refine vm_skip rfl ?_); intro r hr; simp only [e0, n0, n2, q1, q2, int_beq, go_sem, seval]; subst hr)
  iterate 2 ((refine vm_op ?_); intro r hr; simp only [e0, n0, n2, q1, q2, int_beq, go_sem, seval]; subst hr)
  exact hQ
  refine Tr.ret ?_
  simp only [Tryd.f97, go_sem, seval]

theorem refof_pure (l : List Int) (m : Nat) (hl : l.length ≤ 9223372036854775807) (hb : okB l) (hm : m < 18446744073709551616) : Pure Tryd.prog 85 [u64s l, .int .u64 m] (.int .u64 (ofB l m)) := by
  have hmc := refsmay_pure l hl
  unfold u64s at hmc ⊢
  by_cases h : mayS l = true
  · have er : ofB l m = sumTo l m l.length := by unfold ofB; rw [if_pos h]
    have h8 := (mayS_spec h).2.1
    rw [h] at hmc
    refine pure_of_tr Tryd.func85 rfl (Nat.le_of_ble_eq_true rfl) rfl fun E hE hP => ?_
    first | refine tr_seq_region (by rw [hE]; rfl) ?_ | (refine Tr.seq ?_; refine tr_seq_region (by rw [hE]; rfl) ?_)
    repeat (refine vc_op rfl ?_; simp only [go_sem, seval])
    refine vc_nil ?_
    first | refine tr_seq_region (by rw [hE]; rfl) ?_ | (refine Tr.seq ?_; refine tr_seq_region (by rw [hE]; rfl) ?_)
    repeat (refine vc_op rfl ?_; simp only [go_sem, seval])
    refine vc_nil ?_
    first | apply tr_m (by rw [hE]; rfl) | (refine Tr.seq ?_; apply tr_m (by rw [hE]; rfl))
    intro Q hQ
    simp only [go_sem, seval]
    (refine vm_op ?_); intro r hr; simp only [go_sem, seval]; subst hr
    (refine vm_op ?_); intro r hr; simp only [go_sem, seval]
    refine call_fn rfl rfl rfl rfl (enters_of Tryd.func62 (by kernel_rfl) rfl) (hmc) rfl rfl rfl ?_
    simp only [go_sem, seval]
    subst hr
    (refine vm_op ?_); intro r hr; simp only [go_sem, seval]; subst hr
    exact hQ
    first | refine tr_seq_region (by rw [hE]; rfl) ?_ | (refine Tr.seq ?_; refine tr_seq_region (by rw [hE]; rfl) ?_)
    repeat (refine vc_op rfl ?_; simp only [go_sem, seval])
    refine vc_nil ?_
    first | refine Tr.block ?_ | (refine Tr.seq ?_; refine Tr.block ?_)
    refine Tr.loop (fun i : Nat => (⟨[(0, .sl (l.map uav) false), (1, .int .u64 m), (5, .int .u64 (sumTo l m i)), (6, .bool true), (7, .int .i64 i)], [], 0, []⟩ : S)) (fun i => i ≤ l.length) (fun i => l.length - i) 0 (Nat.zero_le _) ?_ ?_
    · refine wk_ren (fun n => n) ?_ ?_ rfl rfl rfl
      · repeat' (first | exact rfl | exact trivial | constructor)
      · repeat' (first | exact rfl | exact trivial | constructor)
    · intro i hi
      have hrange := sumTo_range h hb m i hi
      by_cases hlt : i < l.length
      · have e1 : decide ((i : Int) < (l.length : Int)) = true := decide_eq_true (by omega)
        have ha := nth_map_lt uav l i hlt
        have hw := wrap_next' (n := i) (by omega)
        have hd : l.getD i 0 = l[i] := by simp [hlt]
        have hr1 := bal_range h hb (n := i) hlt
        have hc := refhas_pure m i hm (by omega)
        have hs : sumTo l m (i + 1) = sumTo l m i + if m.testBit i then l.getD i 0 else 0 := rfl
        cases hbit : m.testBit i with
        | true =>
          rw [hbit] at hc hs
          rw [if_pos rfl, hd] at hs
          rw [hd] at hr1
          have hw2 : IntKind.u64.wrap (sumTo l m i + l[i]) = sumTo l m (i + 1) := by rw [hs]; exact wrapU_lt (by omega) (by omega)
          first | apply tr_m (by rw [hE]; rfl) | (refine Tr.seq ?_; apply tr_m (by rw [hE]; rfl))
          intro Q hQ
          simp only [go_sem, seval]
          iterate 5 ((refine vm_op ?_); intro r hr; simp only [e1, go_sem, seval]; subst hr)
          (first | refine vm_if rfl ?_ | refine vm_no rfl ?_ | refine vm_skip rfl ?_); intro r hr; simp only [e1, go_sem, seval]; subst hr
          (refine vm_op ?_); intro r hr; simp only [e1, go_sem, seval]; subst hr
          exact hQ
          first | refine Tr.cond (b := true) rfl (fun _ => ?_) (fun h => by cases h) | refine Tr.seq (Tr.cond (b := true) rfl (fun _ => ?_) (fun h => by cases h))
          refine Tr.skip ?_
          try simp only [blockK, thenK, ↓reduceIte]
          first | refine Tr.block ?_ | (refine Tr.seq ?_; refine Tr.block ?_)
          first | apply tr_m (by rw [hE]; rfl) | (refine Tr.seq ?_; apply tr_m (by rw [hE]; rfl))
          intro Q hQ
          simp only [go_sem, seval]
          iterate 2 ((refine vm_op ?_); intro r hr; simp only [go_sem, seval]; subst hr)
          (refine vm_op ?_); intro r hr; simp only [go_sem, seval]
          refine call_fn rfl rfl rfl rfl (enters_of Tryd.func97 (by kernel_rfl) rfl) (hc) rfl rfl rfl ?_
          simp only [go_sem, seval]
          subst hr
          (refine vm_op ?_); intro r hr; simp only [go_sem, seval]; subst hr
          exact hQ
          first | refine tr_seq_region (by rw [hE]; rfl) ?_ | (refine Tr.seq ?_; refine tr_seq_region (by rw [hE]; rfl) ?_)
          repeat (refine vc_op rfl ?_; simp only [go_sem, seval])
          refine vc_nil ?_
          first | refine Tr.cond (b := true) rfl (fun _ => ?_) (fun h => by cases h) | refine Tr.seq (Tr.cond (b := true) rfl (fun _ => ?_) (fun h => by cases h))
          apply tr_ml (by rw [hE]; rfl)
          intro Q hQ
          simp only [go_sem, seval]
          iterate 7 ((refine vm_op ?_); intro r hr; simp only [uav, ha, hw2, go_sem, seval]; subst hr)
          exact hQ
          try simp only [blockK, thenK, ↓reduceIte]
          refine tr_region (by rw [hE]; rfl) ?_
          repeat (refine vc_op rfl ?_; simp only [go_sem, seval])
          refine vc_nil ?_
          rw [hw]
          try simp only [blockK, thenK, ↓reduceIte]
          refine ⟨i + 1, hlt, by omega, ?_⟩
          refine wk_ren (fun n => n) ?_ ?_ rfl rfl rfl
          · repeat' (first | exact rfl | exact trivial | constructor)
          · repeat' (first | exact rfl | exact trivial | constructor)
        | false =>
          rw [hbit] at hc hs
          rw [if_neg (by simp), Int.add_zero] at hs
          first | apply tr_m (by rw [hE]; rfl) | (refine Tr.seq ?_; apply tr_m (by rw [hE]; rfl))
          intro Q hQ
          simp only [go_sem, seval]
          iterate 5 ((refine vm_op ?_); intro r hr; simp only [e1, go_sem, seval]; subst hr)
          (first | refine vm_if rfl ?_ | refine vm_no rfl ?_ | refine vm_skip rfl ?_); intro r hr; simp only [e1, go_sem, seval]; subst hr
          (refine vm_op ?_); intro r hr; simp only [e1, go_sem, seval]; subst hr
          exact hQ
          first | refine Tr.cond (b := true) rfl (fun _ => ?_) (fun h => by cases h) | refine Tr.seq (Tr.cond (b := true) rfl (fun _ => ?_) (fun h => by cases h))
          refine Tr.skip ?_
          try simp only [blockK, thenK, ↓reduceIte]
          first | refine Tr.block ?_ | (refine Tr.seq ?_; refine Tr.block ?_)
          first | apply tr_m (by rw [hE]; rfl) | (refine Tr.seq ?_; apply tr_m (by rw [hE]; rfl))
          intro Q hQ
          simp only [go_sem, seval]
          iterate 2 ((refine vm_op ?_); intro r hr; simp only [go_sem, seval]; subst hr)
          (refine vm_op ?_); intro r hr; simp only [go_sem, seval]
          refine call_fn rfl rfl rfl rfl (enters_of Tryd.func97 (by kernel_rfl) rfl) (hc) rfl rfl rfl ?_
          simp only [go_sem, seval]
          subst hr
          (refine vm_op ?_); intro r hr; simp only [go_sem, seval]; subst hr
          exact hQ
          first | refine tr_seq_region (by rw [hE]; rfl) ?_ | (refine Tr.seq ?_; refine tr_seq_region (by rw [hE]; rfl) ?_)
          repeat (refine vc_op rfl ?_; simp only [go_sem, seval])
          refine vc_nil ?_
          first | refine Tr.cond (b := false) rfl (fun h => by cases h) (fun _ => ?_) | refine Tr.seq (Tr.cond (b := false) rfl (fun h => by cases h) (fun _ => ?_))
          refine Tr.skip ?_
          try simp only [blockK, thenK, ↓reduceIte]
          refine tr_region (by rw [hE]; rfl) ?_
          repeat (refine vc_op rfl ?_; simp only [go_sem, seval])
          refine vc_nil ?_
          rw [hw]
          try simp only [blockK, thenK, ↓reduceIte]
          refine ⟨i + 1, hlt, by omega, ?_⟩
          rw [hs]
          refine wk_ren (fun n => n) ?_ ?_ rfl rfl rfl
          · repeat' (first | exact rfl | exact trivial | constructor)
          · repeat' (first | exact rfl | exact trivial | constructor)
      · have e1 : decide ((i : Int) < (l.length : Int)) = false := decide_eq_false (by omega)
        have hil : i = l.length := by omega
        first | apply tr_m (by rw [hE]; rfl) | (refine Tr.seq ?_; apply tr_m (by rw [hE]; rfl))
        intro Q hQ
        simp only [go_sem, seval]
        iterate 5 ((refine vm_op ?_); intro r hr; simp only [e1, go_sem, seval]; subst hr)
        (first | refine vm_if rfl ?_ | refine vm_no rfl ?_ | refine vm_skip rfl ?_); intro r hr; simp only [e1, go_sem, seval]; subst hr
        (refine vm_op ?_); intro r hr; simp only [e1, go_sem, seval]; subst hr
        exact hQ
        first | refine Tr.cond (b := false) rfl (fun h => by cases h) (fun _ => ?_) | refine Tr.seq (Tr.cond (b := false) rfl (fun h => by cases h) (fun _ => ?_))
        refine Tr.exit ?_
        try simp only [blockK, thenK, ↓reduceIte]
        rw [hil]
        first | refine tr_seq_region (by rw [hE]; rfl) ?_ | (refine Tr.seq ?_; refine tr_seq_region (by rw [hE]; rfl) ?_)
        repeat (refine vc_op rfl ?_; simp only [go_sem, seval])
        refine vc_nil ?_
        refine Tr.ret ?_
        simp only [er, Tryd.f85, go_sem, seval]
  · have h : mayS l = false := by simpa using h
    have er : ofB l m = 0 := by unfold ofB; rw [if_neg (by simp [h])]
    rw [h] at hmc
    refine pure_of_tr Tryd.func85 rfl (Nat.le_of_ble_eq_true rfl) rfl fun E hE hP => ?_
    first | refine tr_seq_region (by rw [hE]; rfl) ?_ | (refine Tr.seq ?_; refine tr_seq_region (by rw [hE]; rfl) ?_)
    repeat (refine vc_op rfl ?_; simp only [go_sem, seval])
    refine vc_nil ?_
    first | refine tr_seq_region (by rw [hE]; rfl) ?_ | (refine Tr.seq ?_; refine tr_seq_region (by rw [hE]; rfl) ?_)
    repeat (refine vc_op rfl ?_; simp only [go_sem, seval])
    refine vc_nil ?_
    first | apply tr_m (by rw [hE]; rfl) | (refine Tr.seq ?_; apply tr_m (by rw [hE]; rfl))
    intro Q hQ
    simp only [go_sem, seval]
    (refine vm_op ?_); intro r hr; simp only [go_sem, seval]; subst hr
    (refine vm_op ?_); intro r hr; simp only [go_sem, seval]
    refine call_fn rfl rfl rfl rfl (enters_of Tryd.func62 (by kernel_rfl) rfl) (hmc) rfl rfl rfl ?_
    simp only [go_sem, seval]
    subst hr
    (refine vm_op ?_); intro r hr; simp only [go_sem, seval]; subst hr
    exact hQ
    first | refine tr_seq_region (by rw [hE]; rfl) ?_ | (refine Tr.seq ?_; refine tr_seq_region (by rw [hE]; rfl) ?_)
    repeat (refine vc_op rfl ?_; simp only [go_sem, seval])
    refine vc_nil ?_
    first | refine Tr.block ?_ | (refine Tr.seq ?_; refine Tr.block ?_)
    refine Tr.loop (fun _ : Unit => (⟨[(0, .sl (l.map uav) false), (1, .int .u64 m), (5, .int .u64 0), (6, .bool false), (7, .int .i64 0)], [], 0, []⟩ : S)) (fun _ => True) (fun _ => 0) () trivial ?_ ?_
    · refine wk_ren (fun n => n) ?_ ?_ rfl rfl rfl
      · repeat' (first | exact rfl | exact trivial | constructor)
      · repeat' (first | exact rfl | exact trivial | constructor)
    · intro _ _
      cases hb0 : decide ((0 : Int) < (l.length : Int))
      · first | apply tr_m (by rw [hE]; rfl) | (refine Tr.seq ?_; apply tr_m (by rw [hE]; rfl))
        intro Q hQ
        simp only [go_sem, seval]
        iterate 5 ((refine vm_op ?_); intro r hr; simp only [hb0, go_sem, seval]; subst hr)
        (first | refine vm_if rfl ?_ | refine vm_no rfl ?_ | refine vm_skip rfl ?_); intro r hr; simp only [hb0, go_sem, seval]; subst hr
        (refine vm_op ?_); intro r hr; simp only [hb0, go_sem, seval]; subst hr
        exact hQ
        first | refine Tr.cond (b := false) rfl (fun h => by cases h) (fun _ => ?_) | refine Tr.seq (Tr.cond (b := false) rfl (fun h => by cases h) (fun _ => ?_))
        refine Tr.exit ?_
        try simp only [blockK, thenK, ↓reduceIte]
        first | refine tr_seq_region (by rw [hE]; rfl) ?_ | (refine Tr.seq ?_; refine tr_seq_region (by rw [hE]; rfl) ?_)
        repeat (refine vc_op rfl ?_; simp only [go_sem, seval])
        refine vc_nil ?_
        refine Tr.ret ?_
        simp only [er, Tryd.f85, go_sem, seval]
      · first | apply tr_m (by rw [hE]; rfl) | (refine Tr.seq ?_; apply tr_m (by rw [hE]; rfl))
        intro Q hQ
        simp only [go_sem, seval]
        iterate 5 ((refine vm_op ?_); intro r hr; simp only [hb0, go_sem, seval]; subst hr)
        (first | refine vm_if rfl ?_ | refine vm_no rfl ?_ | refine vm_skip rfl ?_); intro r hr; simp only [hb0, go_sem, seval]; subst hr
        (refine vm_op ?_); intro r hr; simp only [hb0, go_sem, seval]; subst hr
        exact hQ
        first | refine Tr.cond (b := false) rfl (fun h => by cases h) (fun _ => ?_) | refine Tr.seq (Tr.cond (b := false) rfl (fun h => by cases h) (fun _ => ?_))
        refine Tr.exit ?_
        try simp only [blockK, thenK, ↓reduceIte]
        first | refine tr_seq_region (by rw [hE]; rfl) ?_ | (refine Tr.seq ?_; refine tr_seq_region (by rw [hE]; rfl) ?_)
        repeat (refine vc_op rfl ?_; simp only [go_sem, seval])
        refine vc_nil ?_
        refine Tr.ret ?_
        simp only [er, Tryd.f85, go_sem, seval]
theorem reftotal_pure (l : List Int) (hl : l.length ≤ 9223372036854775807) (hb : okB l) : Pure Tryd.prog 86 [u64s l] (.int .u64 (ofB l maskAll)) := by
  have hc := refof_pure l maskAll hl hb (by decide)
  have ec : ((maskAll : Nat) : Int) = 18446744073709551615 := rfl
  rw [ec] at hc
  refine pure_of_tr Tryd.func86 rfl (Nat.le_of_ble_eq_true rfl) rfl fun E hE hP => ?_
  first | refine tr_seq_region (by rw [hE]; rfl) ?_ | (refine Tr.seq ?_; refine tr_seq_region (by rw [hE]; rfl) ?_)
  repeat (refine vc_op rfl ?_; simp only [go_sem, seval])
  refine vc_nil ?_
  first | apply tr_m (by rw [hE]; rfl) | (refine Tr.seq ?_; apply tr_m (by rw [hE]; rfl))
  intro Q hQ
  simp only [go_sem, seval]
  (refine vm_op ?_); intro r hr; simp only [go_sem, seval]; subst hr
  (refine vm_op ?_); intro r hr; simp only [go_sem, seval]
  refine call_fn rfl rfl rfl rfl (enters_of Tryd.func85 (by kernel_rfl) rfl) (hc) rfl rfl rfl ?_
  simp only [go_sem, seval]
  subst hr
  (refine vm_op ?_); intro r hr; simp only [go_sem, seval]; subst hr
  exact hQ
  refine Tr.ret ?_
  simp only [Tryd.f86, go_sem, seval]
theorem refmost_pure (l : List Int) (m : Nat) (hl : l.length ≤ 9223372036854775807) (hb : okB l) (hm : m < 18446744073709551616) : Pure Tryd.prog 64 [u64s l, .int .u64 m] (.bool (mostB l m)) := by
  have h1 := refof_pure l m hl hb hm
  have h2 := reftotal_pure l hl hb
  have r1 := ofB_range hb m
  have r2 := ofB_range hb maskAll
  have h0 := refsmay_pure l hl
  have h3 := refnmost_pure (ofB l m).toNat (ofB l maskAll).toNat (by omega)
  rw [Int.toNat_of_nonneg r1.1, Int.toNat_of_nonneg r2.1] at h3
  unfold mostB
  generalize decide (2 * (ofB l maskAll).toNat ≤ 3 * (ofB l m).toNat) = b at h3 ⊢
  generalize mayS l = c at h0 ⊢
  refine pure_of_tr Tryd.func64 rfl (Nat.le_of_ble_eq_true rfl) rfl fun E hE hP => ?_
  first | refine tr_seq_region (by rw [hE]; rfl) ?_ | (refine Tr.seq ?_; refine tr_seq_region (by rw [hE]; rfl) ?_)
  repeat (refine vc_op rfl ?_; simp only [go_sem, seval])
  refine vc_nil ?_
  first | apply tr_m (by rw [hE]; rfl) | (refine Tr.seq ?_; apply tr_m (by rw [hE]; rfl))
  intro Q hQ
  simp only [go_sem, seval]
  (refine vm_op ?_); intro r hr; simp only [go_sem, seval]; subst hr
  (refine vm_op ?_); intro r hr; simp only [go_sem, seval]
  refine call_fn rfl rfl rfl rfl (enters_of Tryd.func62 (by kernel_rfl) rfl) (h0) rfl rfl rfl ?_
  simp only [go_sem, seval]
  subst hr
  (refine vm_op ?_); intro r hr; simp only [go_sem, seval]; subst hr
  exact hQ
  first | apply tr_m (by rw [hE]; rfl) | (refine Tr.seq ?_; apply tr_m (by rw [hE]; rfl))
  intro Q hQ
  simp only [go_sem, seval]
  iterate 2 ((refine vm_op ?_); intro r hr; simp only [go_sem, seval]; subst hr)
  (refine vm_op ?_); intro r hr; simp only [go_sem, seval]
  refine call_fn rfl rfl rfl rfl (enters_of Tryd.func85 (by kernel_rfl) rfl) (h1) rfl rfl rfl ?_
  simp only [go_sem, seval]
  subst hr
  (refine vm_op ?_); intro r hr; simp only [go_sem, seval]; subst hr
  (refine vm_op ?_); intro r hr; simp only [go_sem, seval]
  refine call_fn rfl rfl rfl rfl (enters_of Tryd.func86 (by kernel_rfl) rfl) (h2) rfl rfl rfl ?_
  simp only [go_sem, seval]
  subst hr
  (refine vm_op ?_); intro r hr; simp only [go_sem, seval]
  refine call_fn rfl rfl rfl rfl (enters_of Tryd.func84 (by kernel_rfl) rfl) (h3) rfl rfl rfl ?_
  simp only [go_sem, seval]
  subst hr
  (refine vm_op ?_); intro r hr; simp only [go_sem, seval]; subst hr
  exact hQ
  cases c
  · first | apply tr_m (by rw [hE]; rfl) | (refine Tr.seq ?_; apply tr_m (by rw [hE]; rfl))
    intro Q hQ
    simp only [go_sem, seval]
    iterate 2 ((refine vm_op ?_); intro r hr; simp only [go_sem, seval]; subst hr)
    (first | refine vm_if rfl ?_ | refine vm_no rfl ?_ | refine vm_skip rfl ?_); intro r hr; simp only [go_sem, seval]; subst hr
    iterate 2 ((refine vm_op ?_); intro r hr; simp only [go_sem, seval]; subst hr)
    exact hQ
    refine Tr.ret ?_
    simp only [Bool.false_and, Tryd.f64, go_sem, seval]
  · first | apply tr_m (by rw [hE]; rfl) | (refine Tr.seq ?_; apply tr_m (by rw [hE]; rfl))
    intro Q hQ
    simp only [go_sem, seval]
    iterate 2 ((refine vm_op ?_); intro r hr; simp only [go_sem, seval]; subst hr)
    (first | refine vm_if rfl ?_ | refine vm_no rfl ?_ | refine vm_skip rfl ?_); intro r hr; simp only [go_sem, seval]; subst hr
    iterate 2 ((refine vm_op ?_); intro r hr; simp only [go_sem, seval]; subst hr)
    exact hQ
    refine Tr.ret ?_
    simp only [Bool.true_and, Tryd.f64, go_sem, seval]

end Go.Proofs.YtdlejnafhmpobaaDoor

/- What some weigh: the program. -/
set_option linter.unusedSimpArgs false
set_option maxRecDepth 10000
namespace Go.Proofs.YtdlejnafhmpobaaDoor
open Go Go.Ab

@[go_sem] theorem tSize26 : tSize Tryd.prog 26 = some 1 := by kernel_rfl
@[go_sem] theorem tAgg26 : tAgg Tryd.prog 26 = some false := by kernel_rfl
@[go_sem] theorem u64s_agg (l : List Int) : (u64s l).agg = false := rfl
@[go_sem] theorem u64s_len (l : List Int) : (u64s l).len = 1 := rfl
@[go_sem] theorem u64s_ren (ρ : Nat → Nat) (l : List Int) : (u64s l).ren ρ = u64s l := rfl
theorem each_own (m : Int) : Own Tryd.prog 78 [.int .u64 m] (.fn (.func 91) [] [.ptr 0 [] 0]) [(0, .var (.int .u64 m))] := by
  refine own_of_tr Tryd.func78 rfl (Nat.le_of_ble_eq_true rfl) rfl fun E hE hP => ?_
  first | refine tr_seq_region (by rw [hE]; rfl) ?_ | (refine Tr.seq ?_; refine tr_seq_region (by rw [hE]; rfl) ?_)
  repeat (refine vc_op rfl ?_; simp only [go_sem, seval])
  refine vc_nil ?_
  first | refine tr_seq_region (by rw [hE]; rfl) ?_ | (refine Tr.seq ?_; refine tr_seq_region (by rw [hE]; rfl) ?_)
  repeat (refine vc_op rfl ?_; simp only [go_sem, seval])
  refine vc_nil ?_
  refine Tr.ret ?_
  simp only [Tryd.f78, go_sem, seval]
  exact ⟨fun n => n, rfl, ⟨⟨rfl, rfl, rfl⟩, trivial⟩, rfl⟩

theorem less_all : (List.range 256).all (fun m => decide (m = 0) || (decide (bitsI BinOp.and IntKind.u64 (m : Int) (IntKind.u64.wrap ((m : Int) - 1)) = ((m &&& (m - 1) : Nat) : Int)) && decide (m &&& (m - 1) < m) && m.testBit (tz m) && (List.range 8).all (fun j => decide ((m &&& (m - 1)).testBit j = (m.testBit j && decide (j ≠ tz m)))))) = true := by decide +kernel
theorem less_at {m : Nat} (h0 : 0 < m) (h1 : m < 256) : bitsI BinOp.and IntKind.u64 (m : Int) (IntKind.u64.wrap ((m : Int) - 1)) = ((m &&& (m - 1) : Nat) : Int) ∧ m &&& (m - 1) < m ∧ m.testBit (tz m) = true ∧ ∀ j, j < 8 → (m &&& (m - 1)).testBit j = (m.testBit j && decide (j ≠ tz m)) := by
  have h := List.all_eq_true.1 less_all m (List.mem_range.2 h1)
  have hm : decide (m = 0) = false := decide_eq_false (by omega)
  simp only [hm, Bool.false_or, Bool.and_eq_true, decide_eq_true_eq] at h
  obtain ⟨⟨⟨h2, h3⟩, h4⟩, h5⟩ := h
  refine ⟨h2, h3, h4, fun j hj => ?_⟩
  have := List.all_eq_true.1 h5 j (List.mem_range.2 hj)
  exact of_decide_eq_true this

theorem low_bits (m n : Nat) (hm : m < 18446744073709551616) (hn : n ≤ 8) : bitsI BinOp.and IntKind.u64 (m : Int) (IntKind.u64.wrap (bit n - 1)) = ((m % 2 ^ n : Nat) : Int) := by
  have h256 : ∀ k : Nat, k ≤ 8 → bit k = ((2 ^ k : Nat) : Int) ∧ 2 ^ k ≤ 256 := by
    intro k hk
    rcases Nat.lt_or_ge k 8 with h | h
    · refine ⟨bit_pow k (by omega), ?_⟩
      exact Nat.pow_le_pow_right (n := 2) (by omega) hk
    · have : k = 8 := by omega
      subst this
      exact ⟨by decide +kernel, by decide⟩
  obtain ⟨e1, e2⟩ := h256 n hn
  have e3 : 0 < 2 ^ n := Nat.pow_pos (by omega)
  have e4 : IntKind.u64.wrap (bit n - 1) = ((2 ^ n - 1 : Nat) : Int) := by
    have : bit n - 1 = ((2 ^ n - 1 : Nat) : Int) := by omega
    rw [this]; exact wrapU (by omega)
  rw [e4]
  show andU m _ = _
  rw [andU_eq, BitVec.toNat_and]
  have f1 : (bv (m : Int)).toNat = m := by have := bv_back (n := m) ⟨by omega, by omega⟩; omega
  have f2 : (bv ((2 ^ n - 1 : Nat) : Int)).toNat = 2 ^ n - 1 := by have := bv_back (n := ((2 ^ n - 1 : Nat) : Int)) ⟨by omega, by omega⟩; omega
  rw [f1, f2, Nat.and_two_pow_sub_one_eq_mod]

def stO (l : List Int) (k : Nat) : S where
  fr := [(2, .ptr 1 [] 0), (5, .ptr 2 [] 0), (16, .fn (.func 91) [] [.ptr 3 [] 0])]
  hp := [(0, .tab 0 tabV), (1, .var (u64s l)), (2, .var (.int .u64 0)), (3, .var (.int .u64 k))]
  nx := 4
def stE (l : List Int) (L : Nat) (b : LB) (p : Nat × Int) : S where
  fr := [(0, .fn (.yield L) [] []), (1, .ptr 3 [] 0)]
  hp := [(5, .lp b .ready none), (4, .dfr), (0, .tab 0 tabV), (1, .var (u64s l)), (2, .var (.int .u64 p.2)), (3, .var (.int .u64 p.1))]
  nx := 6

theorem of_T (l : List Int) (m : Nat) (hb : okB l) (hm : m < 18446744073709551616) : PureT Tryd.prog 0 tabV 54 [u64s l, .int .u64 m] (.int .u64 (ofB l m)) := by
  have hmc := smay_pure l
  refine eff_of_trM Tryd.func54 rfl (Nat.le_of_ble_eq_true rfl) rfl fun E hE hP => ?_
  first | refine tr_seq_region (by rw [hE]; rfl) ?_ | (refine Tr.seq ?_; refine tr_seq_region (by rw [hE]; rfl) ?_)
  repeat (refine vc_op rfl ?_; simp only [go_sem, seval])
  refine vc_nil ?_
  by_cases h : mayS l = true
  · have er : ofB l m = sumTo l m l.length := by unfold ofB; rw [if_pos h]
    have h8 := (mayS_spec h).2.1
    have hk := low_bits m l.length hm h8
    have hk2 : m % 2 ^ l.length < 2 ^ l.length := Nat.mod_lt _ (Nat.pow_pos (by omega))
    have hk3 : 2 ^ l.length ≤ 256 := Nat.pow_le_pow_right (n := 2) (by omega) h8
    have hk4 : ∀ j, j < l.length → (m % 2 ^ l.length).testBit j = m.testBit j := fun j hj => by rw [Nat.testBit_mod_two_pow]; simp [hj]
    have hk5 := sumTo_congr (bal := l) (m := m % 2 ^ l.length) (k := m) l.length hk4
    rw [← hk5] at er
    generalize m % 2 ^ l.length = m0 at hk hk2 er
    rw [h] at hmc
    first | apply tr_m (by rw [hE]; rfl) | (refine Tr.seq ?_; apply tr_m (by rw [hE]; rfl))
    intro Q hQ
    simp only [go_sem, seval]
    (refine vm_op ?_); intro r hr; simp only [go_sem, seval]; subst hr
    (refine vm_op ?_); intro r hr; simp only [go_sem, seval]
    refine call_fn rfl rfl rfl rfl (enters_of Tryd.func27 (by kernel_rfl) rfl) (hmc) rfl rfl rfl ?_
    simp only [go_sem, seval]
    subst hr
    (refine vm_op ?_); intro r hr; simp only [go_sem, seval]; subst hr
    exact hQ
    first | refine Tr.cond rfl (fun h => by cases h) (fun _ => ?_) | refine Tr.seq (Tr.cond rfl (fun h => by cases h) (fun _ => ?_))
    refine Tr.skip ?_
    try simp only [blockK, thenK, ↓reduceIte]
    first | refine tr_seq_region (by rw [hE]; rfl) ?_ | (refine Tr.seq ?_; refine tr_seq_region (by rw [hE]; rfl) ?_)
    repeat (refine vc_op rfl ?_; simp only [go_sem, seval])
    refine vc_nil ?_
    first | apply tr_m (by rw [hE]; rfl) | (refine Tr.seq ?_; apply tr_m (by rw [hE]; rfl))
    intro Q hQ
    simp only [go_sem, seval]
    iterate 3 ((refine vm_op ?_); intro r hr; simp only [u64s, List.length_map, go_sem, seval]; subst hr)
    (refine vm_op ?_); intro r hr; simp only [u64s, List.length_map, go_sem, seval]
    refine call_fn rfl rfl rfl rfl (enters_of Tryd.func73 (by kernel_rfl) rfl) (bit_pure (l.length : Int)) rfl rfl rfl ?_
    simp only [go_sem, seval]
    subst hr
    iterate 2 ((refine vm_op ?_); intro r hr; simp only [hk, go_sem, seval]; subst hr)
    (refine vm_op ?_); intro r hr; simp only [hk, go_sem, seval]
    refine call_own rfl rfl rfl rfl (enters_of Tryd.func78 (by kernel_rfl) rfl) (each_own (m0 : Int)) rfl rfl ?_
    simp only [go_sem, seval]
    subst hr
    exact hQ
    refine Tr.wk (s' := stO l m0) ?_ ?_
    · refine wk_ren (fun | 2 => 81 | 3 => 193 | n => n) ?_ ?_ rfl rfl rfl
      · repeat' (first | exact rfl | exact trivial | constructor)
      · repeat' (first | exact rfl | exact trivial | constructor)
    · unfold stO
      first | refine Tr.block ?_ | (refine Tr.seq ?_; refine Tr.block ?_)
      refine Tr.range (fid := 91) (fn := Tryd.f91) rfl (enters_of Tryd.func91 (by kernel_rfl) rfl) Tryd.func91 rfl rfl (Nat.le_of_ble_eq_true rfl) ?_
      have hE0 := hE
      intro E' L b hE hP' sd
      have hP : E'.pn = 6 := hP'
      rw [er]
      first | refine Tr.block ?_ | (refine Tr.seq ?_; refine Tr.block ?_)
      refine Tr.loop (stE l L b) (fun p => p.1 < 2 ^ l.length ∧ p.2 + sumTo l p.1 l.length = sumTo l m0 l.length ∧ 0 ≤ p.2 ∧ p.2 ≤ 8796093022208) (fun p => p.1) (m0, 0) ⟨hk2, by simp, by simp, by simp⟩ ?_ ?_
      · refine wk_ren (fun n => n) ?_ ?_ rfl rfl rfl
        · repeat' (first | exact rfl | exact trivial | constructor)
        · repeat' (first | exact rfl | exact trivial | constructor)
      · rintro ⟨k, s⟩ ⟨hk1, hsum, hs0, hs1⟩
        simp only at hk1 hsum hs0 hs1
        unfold stE
        rcases Nat.eq_zero_or_pos k with h0 | h0
        · subst h0
          have er2 : s = sumTo l m0 l.length := by rw [sumTo_zero] at hsum; omega
          have ek : (((0 : Nat) : Int) != 0) = false := rfl
          first | refine tr_seq_y 6 sd (by rw [hE]; rfl) rfl rfl rfl ?_ | (refine Tr.seq ?_; refine tr_seq_y 6 sd (by rw [hE]; rfl) rfl rfl rfl ?_)
          simp only [List.toList_toArray, List.take_succ_cons, List.take_zero]
          repeat (first | (refine vc_op rfl ?_; simp only [ek, go_sem, seval]) | (refine vc_go rfl rfl rfl ?_; simp only [ek, go_sem, seval]) | (refine vc_no rfl rfl rfl ?_; simp only [ek, go_sem, seval]) | (refine vc_skip rfl rfl rfl ?_; simp only [ek, go_sem, seval]))
          refine vc_nil ?_
          refine gy_no rfl rfl rfl ?_
          simp only [go_sem, seval]
          repeat (refine vc_op rfl ?_; simp only [go_sem, seval])
          refine vc_nil ?_
          first | refine Tr.cond (b := false) rfl (fun h => by cases h) (fun _ => ?_) | refine Tr.seq (Tr.cond (b := false) rfl (fun h => by cases h) (fun _ => ?_))
          refine Tr.exit ?_
          try simp only [blockK, thenK, ↓reduceIte]
          have hE := hE0
          refine ⟨rfl, _, _, rfl, by simp, rfl, ?_⟩
          simp only [goOn]
          simp only [HP.del, List.filter_cons, List.filter_nil, Bool.not_false, Bool.not_true, if_true, Bool.false_eq_true, if_false, go_sem, seval]
          rw [← er2]
          first | refine tr_seq_region (by rw [hE]; rfl) ?_ | (refine Tr.seq ?_; refine tr_seq_region (by rw [hE]; rfl) ?_)
          repeat (refine vc_op rfl ?_; simp only [go_sem, seval])
          refine vc_nil ?_
          refine Tr.ret ?_
          refine ⟨by simp, fun o ho => by rw [List.mem_singleton.1 ho]; rfl, ?_⟩
          simp only [HP.drop, List.contains_cons, List.contains_nil, Bool.or_false, Bool.false_or, Bool.or_true, List.filter_cons, List.filter_nil, Bool.not_false, Bool.not_true, if_true, Bool.false_eq_true, if_false,  Tryd.f54, go_sem, seval]
          exact ⟨fun n => n, ⟨⟨rfl, rfl, rfl⟩, trivial⟩, rfl, fun _ _ => rfl⟩
        · have h256 : k < 256 := by omega
          obtain ⟨l1, l2, l3, l4⟩ := less_at h0 h256
          have hz := tz_T k h0 h256
          have hv : tz k < l.length := by
            rcases Nat.lt_or_ge (tz k) l.length with h | h
            · exact h
            · rw [Nat.testBit_lt_two_pow (Nat.lt_of_lt_of_le hk1 (Nat.pow_le_pow_right (by omega) h))] at l3
              cases l3
          have hless := sumTo_less (bal := l) (m := k) (k := k &&& (k - 1)) l3 l.length fun j hj => l4 j (by omega)
          rw [if_pos hv] at hless
          have hd : l.getD (tz k) 0 = l[tz k] := by simp [hv]
          rw [hd] at hless
          have hr1 := bal_range h hb hv
          rw [hd] at hr1
          have hr2 := sumTo_range h hb (k &&& (k - 1)) l.length (Nat.le_refl _)
          have hr3 := sumTo_range h hb m0 l.length (Nat.le_refl _)
          have hw : IntKind.u64.wrap (s + l[tz k]) = s + l[tz k] := wrapU_lt (by omega) (by omega)
          have ha := nth_map_lt uav l (tz k) hv
          have ek : ((k : Int) != 0) = true := by rw [int_bne, decide_eq_false (by omega)]; rfl
          generalize l[tz k] = x at hless hr1 hw ha
          generalize hk' : k &&& (k - 1) = k' at l1 l2 hless hr2
          clear hk4 hk5 hk3 l3 l4
          first | refine tr_seq_y 6 sd (by rw [hE]; rfl) rfl rfl rfl ?_ | (refine Tr.seq ?_; refine tr_seq_y 6 sd (by rw [hE]; rfl) rfl rfl rfl ?_)
          simp only [List.toList_toArray, List.take_succ_cons, List.take_zero]
          repeat (first | (refine vc_op rfl ?_; simp only [ek, go_sem, seval]) | (refine vc_go rfl rfl rfl ?_; simp only [ek, go_sem, seval]) | (refine vc_no rfl rfl rfl ?_; simp only [ek, go_sem, seval]) | (refine vc_skip rfl rfl rfl ?_; simp only [ek, go_sem, seval]))
          refine call_eff (fun n => n) [] [] rfl rfl rfl rfl (enters_of Tryd.func92 (by kernel_rfl) rfl) (hz) rfl rfl (by repeat' (first | exact rfl | exact trivial | constructor)) rfl rfl rfl ?_
          simp only [renH_nil, renH_cons, effR, go_sem, seval]
          repeat (first | (refine vc_op rfl ?_; simp only [go_sem, seval]) | (refine vc_go rfl rfl rfl ?_; simp only [go_sem, seval]) | (refine vc_no rfl rfl rfl ?_; simp only [go_sem, seval]) | (refine vc_skip rfl rfl rfl ?_; simp only [go_sem, seval]))
          refine vc_nil ?_
          have hE1 := hE
          have hP1 := hP
          refine gy_if rfl rfl rfl ?_
          refine ⟨_, rfl, rfl, rfl, rfl, by rw [hE0]; rfl, rfl, ?_⟩
          intro Er hE hP
          rw [hE0] at hE
          simp only [frPut, List.zip_cons_cons, List.zip_nil_left, List.zip_nil_right, List.foldl_cons, List.foldl_nil, List.toList_toArray, List.map_cons, List.map_nil, go_sem, seval]
          refine tr_region (by rw [hE]; rfl) ?_
          repeat (refine vc_op rfl ?_; simp only [go_sem, seval])
          refine vc_nil ?_
          refine ⟨rfl, ?_⟩
          simp only [go_sem, seval]
          first | refine Tr.block ?_ | (refine Tr.seq ?_; refine Tr.block ?_)
          refine tr_drawn mixed [1, 2] rfl (by rw [hE]; rfl) (by kernel_rfl) ?_
          refine vd_q rfl rfl ?_; simp only [go_sem, seval]
          refine vd_q rfl rfl ?_; simp only [u64s, go_sem, seval]
          refine vd_q rfl rfl ?_; simp only [go_sem, seval]
          refine vd_q rfl rfl ?_; simp only [uav, ha, go_sem, seval]
          refine vd_q rfl rfl ?_; simp only [go_sem, seval]
          refine vd_q rfl rfl ?_; simp only [hw, go_sem, seval]
          refine vd_w rfl rfl (by kernel_rfl) ?_; simp only [go_sem, seval]
          refine vd_nil ?_
          try simp only [blockK, thenK, ↓reduceIte]
          refine ⟨rfl, ?_⟩
          simp only [go_sem, seval]
          repeat (refine vc_op rfl ?_; simp only [go_sem, seval])
          refine vc_nil ?_
          have hE := hE1
          have hP := hP1
          first | refine Tr.cond (b := true) rfl (fun _ => ?_) (fun h => by cases h) | refine Tr.seq (Tr.cond (b := true) rfl (fun _ => ?_) (fun h => by cases h))
          refine Tr.skip ?_
          try simp only [blockK, thenK, ↓reduceIte]
          first | refine Tr.block ?_ | (refine Tr.seq ?_; refine Tr.block ?_)
          apply tr_ml (by rw [hE]; rfl)
          intro Q hQ
          simp only [go_sem, seval]
          iterate 5 ((refine vm_op ?_); intro r hr; simp only [l1, go_sem, seval]; subst hr)
          exact hQ
          try simp only [blockK, thenK, ↓reduceIte]
          refine ⟨(k', s + x), ⟨by omega, by show s + x + sumTo l k' l.length = _; omega, by show 0 ≤ s + x; omega, by show s + x ≤ _; omega⟩, l2, ?_⟩
          refine wk_ren (fun n => n) ?_ ?_ rfl rfl rfl
          · repeat' (first | exact rfl | exact trivial | constructor)
          · repeat' (first | exact rfl | exact trivial | constructor)
  · have h : mayS l = false := by simpa using h
    have er : ofB l m = 0 := by unfold ofB; rw [if_neg (by simp [h])]
    rw [h] at hmc
    first | apply tr_m (by rw [hE]; rfl) | (refine Tr.seq ?_; apply tr_m (by rw [hE]; rfl))
    intro Q hQ
    simp only [go_sem, seval]
    (refine vm_op ?_); intro r hr; simp only [go_sem, seval]; subst hr
    (refine vm_op ?_); intro r hr; simp only [go_sem, seval]
    refine call_fn rfl rfl rfl rfl (enters_of Tryd.func27 (by kernel_rfl) rfl) (hmc) rfl rfl rfl ?_
    simp only [go_sem, seval]
    subst hr
    (refine vm_op ?_); intro r hr; simp only [go_sem, seval]; subst hr
    exact hQ
    first | refine Tr.cond (b := true) rfl (fun _ => ?_) (fun h => by cases h) | refine Tr.seq (Tr.cond (b := true) rfl (fun _ => ?_) (fun h => by cases h))
    first | refine tr_seq_region (by rw [hE]; rfl) ?_ | (refine Tr.seq ?_; refine tr_seq_region (by rw [hE]; rfl) ?_)
    repeat (refine vc_op rfl ?_; simp only [go_sem, seval])
    refine vc_nil ?_
    refine Tr.ret ?_
    rw [er]
    refine ⟨List.nodup_nil, fun o ho => (by cases ho), ?_⟩
    simp only [drop_none,  Tryd.f54, go_sem, seval]
    exact ⟨fun n => n, ⟨⟨rfl, rfl, rfl⟩, trivial⟩, rfl, fun _ _ => rfl⟩

end Go.Proofs.YtdlejnafhmpobaaDoor

/- Most, and some. -/
set_option linter.unusedSimpArgs false
set_option maxRecDepth 10000
namespace Go.Proofs.YtdlejnafhmpobaaDoor
open Go Go.Ab

theorem total_T (l : List Int) (hb : okB l) : PureT Tryd.prog 0 tabV 55 [u64s l] (.int .u64 (ofB l maskAll)) := by
  have hc := of_T l maskAll hb (by decide)
  have ec : ((maskAll : Nat) : Int) = 18446744073709551615 := rfl
  rw [ec] at hc
  refine eff_of_tr Tryd.func55 rfl (Nat.le_of_ble_eq_true rfl) (by first | rfl | (simp only [AV.idsB, AV.idsBL, Bool.and_true, Bool.true_and] <;> rfl)) fun E hE hP => ?_
  first | refine tr_seq_region (by rw [hE]; rfl) ?_ | (refine Tr.seq ?_; refine tr_seq_region (by rw [hE]; rfl) ?_)
  repeat (refine vc_op rfl ?_; simp only [go_sem, seval])
  refine vc_nil ?_
  first | apply tr_m (by rw [hE]; rfl) | (refine Tr.seq ?_; apply tr_m (by rw [hE]; rfl))
  intro Q hQ
  simp only [go_sem, seval]
  (refine vm_op ?_); intro r hr; simp only [go_sem, seval]; subst hr
  (refine vm_op ?_); intro r hr; simp only [go_sem, seval]
  refine call_eff (fun n => n) [] [] rfl rfl rfl rfl (enters_of Tryd.func54 (by kernel_rfl) rfl) (hc) rfl rfl (by repeat' (first | exact rfl | exact trivial | constructor)) rfl rfl rfl ?_
  simp only [renH_nil, renH_cons, effR, go_sem, seval]
  subst hr
  (refine vm_op ?_); intro r hr; simp only [go_sem, seval]; subst hr
  exact hQ
  refine Tr.ret ?_
  simp only [Tryd.f55, go_sem, seval]
  exact ⟨fun n => n, ⟨⟨rfl, rfl, rfl⟩, trivial⟩, rfl, fun _ _ => rfl⟩

theorem most_T (l : List Int) (m : Nat) (hb : okB l) (hm : m < 18446744073709551616) : PureT Tryd.prog 0 tabV 60 [u64s l, .int .u64 m] (.bool (mostB l m)) := by
  have h1 := of_T l m hb hm
  have h2 := total_T l hb
  have r1 := ofB_range hb m
  have r2 := ofB_range hb maskAll
  have h0 := smay_pure l
  have h3 := nmost_pure (ofB l m).toNat (ofB l maskAll).toNat (by omega) (by omega)
  rw [Int.toNat_of_nonneg r1.1, Int.toNat_of_nonneg r2.1] at h3
  unfold mostB
  generalize decide (2 * (ofB l maskAll).toNat ≤ 3 * (ofB l m).toNat) = b at h3 ⊢
  generalize mayS l = c at h0 ⊢
  cases c
  · refine eff_of_tr Tryd.func60 rfl (Nat.le_of_ble_eq_true rfl) (by first | rfl | (simp only [AV.idsB, AV.idsBL, Bool.and_true, Bool.true_and] <;> rfl)) fun E hE hP => ?_
    first | refine tr_seq_region (by rw [hE]; rfl) ?_ | (refine Tr.seq ?_; refine tr_seq_region (by rw [hE]; rfl) ?_)
    repeat (refine vc_op rfl ?_; simp only [go_sem, seval])
    refine vc_nil ?_
    first | apply tr_m (by rw [hE]; rfl) | (refine Tr.seq ?_; apply tr_m (by rw [hE]; rfl))
    intro Q hQ
    simp only [go_sem, seval]
    (refine vm_op ?_); intro r hr; simp only [go_sem, seval]; subst hr
    (refine vm_op ?_); intro r hr; simp only [go_sem, seval]
    refine call_fn rfl rfl rfl rfl (enters_of Tryd.func27 (by kernel_rfl) rfl) (h0) rfl rfl rfl ?_
    simp only [go_sem, seval]
    subst hr
    (refine vm_op ?_); intro r hr; simp only [go_sem, seval]; subst hr
    iterate 6 ((first | refine vm_if rfl ?_ | refine vm_no rfl ?_ | refine vm_skip rfl ?_); intro r hr; simp only [go_sem, seval]; subst hr)
    iterate 2 ((refine vm_op ?_); intro r hr; simp only [go_sem, seval]; subst hr)
    exact hQ
    refine Tr.ret ?_
    simp only [Bool.false_and, Tryd.f60, go_sem, seval]
    exact ⟨fun n => n, ⟨⟨rfl, rfl, rfl⟩, trivial⟩, rfl, fun _ _ => rfl⟩
  · refine eff_of_tr Tryd.func60 rfl (Nat.le_of_ble_eq_true rfl) (by first | rfl | (simp only [AV.idsB, AV.idsBL, Bool.and_true, Bool.true_and] <;> rfl)) fun E hE hP => ?_
    first | refine tr_seq_region (by rw [hE]; rfl) ?_ | (refine Tr.seq ?_; refine tr_seq_region (by rw [hE]; rfl) ?_)
    repeat (refine vc_op rfl ?_; simp only [go_sem, seval])
    refine vc_nil ?_
    first | apply tr_m (by rw [hE]; rfl) | (refine Tr.seq ?_; apply tr_m (by rw [hE]; rfl))
    intro Q hQ
    simp only [go_sem, seval]
    (refine vm_op ?_); intro r hr; simp only [go_sem, seval]; subst hr
    (refine vm_op ?_); intro r hr; simp only [go_sem, seval]
    refine call_fn rfl rfl rfl rfl (enters_of Tryd.func27 (by kernel_rfl) rfl) (h0) rfl rfl rfl ?_
    simp only [go_sem, seval]
    subst hr
    (refine vm_op ?_); intro r hr; simp only [go_sem, seval]; subst hr
    iterate 2 ((first | refine vm_if rfl ?_ | refine vm_no rfl ?_ | refine vm_skip rfl ?_); intro r hr; simp only [go_sem, seval]; subst hr)
    (first | refine vm_if rfl ?_ | refine vm_no rfl ?_ | refine vm_skip rfl ?_); intro r hr; simp only [go_sem, seval]
    refine call_eff (fun n => n) [] [] rfl rfl rfl rfl (enters_of Tryd.func54 (by kernel_rfl) rfl) (h1) rfl rfl (by repeat' (first | exact rfl | exact trivial | constructor)) rfl rfl rfl ?_
    simp only [renH_nil, renH_cons, effR, go_sem, seval]
    subst hr
    (first | refine vm_if rfl ?_ | refine vm_no rfl ?_ | refine vm_skip rfl ?_); intro r hr; simp only [go_sem, seval]; subst hr
    (first | refine vm_if rfl ?_ | refine vm_no rfl ?_ | refine vm_skip rfl ?_); intro r hr; simp only [go_sem, seval]
    refine call_eff (fun n => n) [] [] rfl rfl rfl rfl (enters_of Tryd.func55 (by kernel_rfl) rfl) (h2) rfl rfl (by repeat' (first | exact rfl | exact trivial | constructor)) rfl rfl rfl ?_
    simp only [renH_nil, renH_cons, effR, go_sem, seval]
    subst hr
    (first | refine vm_if rfl ?_ | refine vm_no rfl ?_ | refine vm_skip rfl ?_); intro r hr; simp only [go_sem, seval]
    refine call_fn rfl rfl rfl rfl (enters_of Tryd.func82 (by kernel_rfl) rfl) (h3) rfl rfl rfl ?_
    simp only [go_sem, seval]
    subst hr
    iterate 2 ((refine vm_op ?_); intro r hr; simp only [go_sem, seval]; subst hr)
    exact hQ
    refine Tr.ret ?_
    simp only [Bool.true_and, Tryd.f60, go_sem, seval]
    exact ⟨fun n => n, ⟨⟨rfl, rfl, rfl⟩, trivial⟩, rfl, fun _ _ => rfl⟩
theorem some_T (l : List Int) (m : Nat) (hb : okB l) (hm : m < 18446744073709551616) : PureT Tryd.prog 0 tabV 28 [u64s l, .int .u64 m] (.bool (someB l m)) := by
  have h1 := of_T l m hb hm
  have h2 := total_T l hb
  have r1 := ofB_range hb m
  have r2 := ofB_range hb maskAll
  have h0 := smay_pure l
  have h3 := nsome_pure (ofB l m).toNat (ofB l maskAll).toNat (by omega)
  rw [Int.toNat_of_nonneg r1.1, Int.toNat_of_nonneg r2.1] at h3
  unfold someB
  generalize decide ((ofB l maskAll).toNat ≤ 3 * (ofB l m).toNat) = b at h3 ⊢
  generalize mayS l = c at h0 ⊢
  cases c
  · refine eff_of_tr Tryd.func28 rfl (Nat.le_of_ble_eq_true rfl) (by first | rfl | (simp only [AV.idsB, AV.idsBL, Bool.and_true, Bool.true_and] <;> rfl)) fun E hE hP => ?_
    first | refine tr_seq_region (by rw [hE]; rfl) ?_ | (refine Tr.seq ?_; refine tr_seq_region (by rw [hE]; rfl) ?_)
    repeat (refine vc_op rfl ?_; simp only [go_sem, seval])
    refine vc_nil ?_
    first | apply tr_m (by rw [hE]; rfl) | (refine Tr.seq ?_; apply tr_m (by rw [hE]; rfl))
    intro Q hQ
    simp only [go_sem, seval]
    (refine vm_op ?_); intro r hr; simp only [go_sem, seval]; subst hr
    (refine vm_op ?_); intro r hr; simp only [go_sem, seval]
    refine call_fn rfl rfl rfl rfl (enters_of Tryd.func27 (by kernel_rfl) rfl) (h0) rfl rfl rfl ?_
    simp only [go_sem, seval]
    subst hr
    (refine vm_op ?_); intro r hr; simp only [go_sem, seval]; subst hr
    iterate 6 ((first | refine vm_if rfl ?_ | refine vm_no rfl ?_ | refine vm_skip rfl ?_); intro r hr; simp only [go_sem, seval]; subst hr)
    iterate 2 ((refine vm_op ?_); intro r hr; simp only [go_sem, seval]; subst hr)
    exact hQ
    refine Tr.ret ?_
    simp only [Bool.false_and, Tryd.f28, go_sem, seval]
    exact ⟨fun n => n, ⟨⟨rfl, rfl, rfl⟩, trivial⟩, rfl, fun _ _ => rfl⟩
  · refine eff_of_tr Tryd.func28 rfl (Nat.le_of_ble_eq_true rfl) (by first | rfl | (simp only [AV.idsB, AV.idsBL, Bool.and_true, Bool.true_and] <;> rfl)) fun E hE hP => ?_
    first | refine tr_seq_region (by rw [hE]; rfl) ?_ | (refine Tr.seq ?_; refine tr_seq_region (by rw [hE]; rfl) ?_)
    repeat (refine vc_op rfl ?_; simp only [go_sem, seval])
    refine vc_nil ?_
    first | apply tr_m (by rw [hE]; rfl) | (refine Tr.seq ?_; apply tr_m (by rw [hE]; rfl))
    intro Q hQ
    simp only [go_sem, seval]
    (refine vm_op ?_); intro r hr; simp only [go_sem, seval]; subst hr
    (refine vm_op ?_); intro r hr; simp only [go_sem, seval]
    refine call_fn rfl rfl rfl rfl (enters_of Tryd.func27 (by kernel_rfl) rfl) (h0) rfl rfl rfl ?_
    simp only [go_sem, seval]
    subst hr
    (refine vm_op ?_); intro r hr; simp only [go_sem, seval]; subst hr
    iterate 2 ((first | refine vm_if rfl ?_ | refine vm_no rfl ?_ | refine vm_skip rfl ?_); intro r hr; simp only [go_sem, seval]; subst hr)
    (first | refine vm_if rfl ?_ | refine vm_no rfl ?_ | refine vm_skip rfl ?_); intro r hr; simp only [go_sem, seval]
    refine call_eff (fun n => n) [] [] rfl rfl rfl rfl (enters_of Tryd.func54 (by kernel_rfl) rfl) (h1) rfl rfl (by repeat' (first | exact rfl | exact trivial | constructor)) rfl rfl rfl ?_
    simp only [renH_nil, renH_cons, effR, go_sem, seval]
    subst hr
    (first | refine vm_if rfl ?_ | refine vm_no rfl ?_ | refine vm_skip rfl ?_); intro r hr; simp only [go_sem, seval]; subst hr
    (first | refine vm_if rfl ?_ | refine vm_no rfl ?_ | refine vm_skip rfl ?_); intro r hr; simp only [go_sem, seval]
    refine call_eff (fun n => n) [] [] rfl rfl rfl rfl (enters_of Tryd.func55 (by kernel_rfl) rfl) (h2) rfl rfl (by repeat' (first | exact rfl | exact trivial | constructor)) rfl rfl rfl ?_
    simp only [renH_nil, renH_cons, effR, go_sem, seval]
    subst hr
    (first | refine vm_if rfl ?_ | refine vm_no rfl ?_ | refine vm_skip rfl ?_); intro r hr; simp only [go_sem, seval]
    refine call_fn rfl rfl rfl rfl (enters_of Tryd.func53 (by kernel_rfl) rfl) (h3) rfl rfl rfl ?_
    simp only [go_sem, seval]
    subst hr
    iterate 2 ((refine vm_op ?_); intro r hr; simp only [go_sem, seval]; subst hr)
    exact hQ
    refine Tr.ret ?_
    simp only [Bool.true_and, Tryd.f28, go_sem, seval]
    exact ⟨fun n => n, ⟨⟨rfl, rfl, rfl⟩, trivial⟩, rfl, fun _ _ => rfl⟩

end Go.Proofs.YtdlejnafhmpobaaDoor

/- Where a root is. -/
set_option linter.unusedSimpArgs false
set_option maxRecDepth 10000
namespace Go.Proofs.YtdlejnafhmpobaaDoor
open Go Go.Ab

def isR (r : Root) (n : Node) : Bool := decide (n.root = r)
def findI (t : List Node) (r : Root) : Int := match t.findIdx? (isR r) with | some i => (i : Int) | none => -1
def findR (t : List Node) (r : Root) : Int := if mayB t then findI t r else -1
theorem findI_at {t : List Node} {r : Root} {i : Nat} (h : i < t.length) (hb : ∀ j (hj : j < i), isR r (t[j]'(by omega)) = false) (hi : isR r t[i] = true) : findI t r = i := by
  have : t.findIdx? (isR r) = some i := by
    rw [List.findIdx?_eq_some_iff_getElem]
    exact ⟨h, hi, fun j hj => by rw [hb j hj]; simp⟩
  rw [findI, this]
theorem findI_none {t : List Node} {r : Root} (hb : ∀ j (hj : j < t.length), isR r t[j] = false) : findI t r = -1 := by
  have : t.findIdx? (isR r) = none := by
    rw [List.findIdx?_eq_none_iff]
    intro x hx
    obtain ⟨j, hj, rfl⟩ := List.mem_iff_getElem.1 hx
    exact hb j hj
  rw [findI, this]
theorem findI_range (t : List Node) (r : Root) : findI t r = -1 ∨ (0 ≤ findI t r ∧ findI t r < t.length) := by
  unfold findI
  cases h : t.findIdx? (isR r) with
  | none => exact .inl rfl
  | some i =>
    obtain ⟨h1, _, _⟩ := List.findIdx?_eq_some_iff_getElem.1 h
    right
    simp only
    omega

def rlook (es : List (Root × Nat)) (r : Root) : Option Nat := (es.find? fun e => decide (r = e.1)).map (·.2)
theorem foundR (es : List (Root × Nat)) (r : Root) : foundE (.root r) (es.map entE) = (rlook es r).map fun n => .int .i64 n := by
  unfold foundE rlook
  induction es with
  | nil => rfl
  | cons e es ih =>
    have hb : (AV.root r).eqb (entE e).1 = decide (r = e.1) := rfl
    simp only [List.map_cons, List.find?_cons, hb]
    cases decide (r = e.1)
    · exact ih
    · rfl
theorem lookR {hp : HP} {o : Nat} {es : List (Root × Nat)} {r : Root} {K : AV → Prop} (hg : HP.get hp o = some (.amap (es.map entE))) (h : K (.tup [.int .i64 ((rlook es r).getD 0), .bool (rlook es r).isSome])) :
    lookupK Tryd.prog 73 hp (.mp o) (.root r) true K := by
  simp only [lookupK, tMap88, hg, ltZero3, if_true]
  refine ⟨fits23 r, depth23 r, keys88 es, ?_⟩
  rw [foundR]
  cases hl : rlook es r with
  | none => rw [hl] at h; exact h
  | some n => rw [hl] at h; exact h
theorem idxTo_once {t : List Node} (hn : (t.map Node.root).Nodup) : ∀ n, n ≤ t.length → idxTo t n = (List.range n).map fun i => ((t.getD i zNode).root, i)
  | 0, _ => rfl
  | n + 1, h => by
    have ih := idxTo_once hn n (by omega)
    have hg : t[n]? = some t[n] := List.getElem?_eq_getElem (by omega)
    have hd : t.getD n zNode = t[n] := by simp [show n < t.length by omega]
    have e : idxTo t (n + 1) = setR (idxTo t n) t[n].root n := by rw [idxTo, hg]
    rw [e, ih, List.range_succ, List.map_append, List.map_cons, List.map_nil, hd]
    unfold setR
    have hno : ((List.range n).map fun i => ((t.getD i zNode).root, i)).findIdx? (fun e => decide (t[n].root = e.1)) = none := by
      rw [List.findIdx?_eq_none_iff]
      intro x hx
      obtain ⟨i, hi, rfl⟩ := List.mem_map.1 hx
      have hin := List.mem_range.1 hi
      have hdi : t.getD i zNode = t[i] := by simp [show i < t.length by omega]
      simp only [hdi]
      refine decide_eq_false fun he => ?_
      have := List.pairwise_iff_getElem.1 hn i n (by simp; omega) (by simp; omega) hin
      simp only [List.getElem_map] at this
      exact this he.symm
    rw [hno]
theorem rlook_once {t : List Node} (hn : (t.map Node.root).Nodup) (r : Root) : rlook (idxTo t t.length) r = t.findIdx? (isR r) := by
  rw [idxTo_once hn _ (Nat.le_refl _), rlook, List.find?_map, Option.map_map]
  have e : (Prod.snd ∘ fun i => ((t.getD i zNode).root, i)) = (id : Nat → Nat) := rfl
  rw [e, Option.map_id, id]
  cases h : t.findIdx? (isR r) with
  | none =>
    rw [List.find?_eq_none]
    intro i hi
    have hil := List.mem_range.1 hi
    have hd : t.getD i zNode = t[i] := by simp [hil]
    have := List.findIdx?_eq_none_iff.1 h t[i] (List.getElem_mem hil)
    simp only [isR, decide_eq_false_iff_not] at this
    simp only [Function.comp, hd, decide_eq_true_eq]
    exact fun he => this he.symm
  | some i =>
    obtain ⟨h1, h2, h3⟩ := List.findIdx?_eq_some_iff_getElem.1 h
    rw [List.find?_range_eq_some]
    have hd : t.getD i zNode = t[i] := by simp [h1]
    refine ⟨?_, List.mem_range.2 h1, fun j hj => ?_⟩
    · simp only [Function.comp, hd, decide_eq_true_eq]
      exact (of_decide_eq_true h2).symm
    · have hdj : t.getD j zNode = t[j]'(by omega) := by simp [show j < t.length by omega]
      have := h3 j hj
      simp only [isR, decide_eq_true_eq] at this
      simp only [Function.comp, hdj, Bool.not_eq_true', decide_eq_false_iff_not]
      exact fun he => this he.symm
theorem may_once {t : List Node} (h : mayB t = true) : (t.map Node.root).Nodup := by
  simp only [mayB, Bool.and_eq_true] at h
  exact of_decide_eq_true h.2

theorem find_pure (t : List Node) (r : Root) : Pure Tryd.prog 24 [tav t, .root r] (.int .i64 (findR t r)) := by
  have hc := may_pure t
  refine pure_of_tr Tryd.func24 rfl (Nat.le_of_ble_eq_true rfl) rfl fun E hE hP => ?_
  first | refine tr_seq_region (by rw [hE]; rfl) ?_ | (refine Tr.seq ?_; refine tr_seq_region (by rw [hE]; rfl) ?_)
  repeat (refine vc_op rfl ?_; simp only [go_sem, seval])
  refine vc_nil ?_
  by_cases h : mayB t = true
  · have er : findR t r = findI t r := by unfold findR; rw [if_pos h]
    have hl := (may_len h).2
    have hk := rlook_once (may_once h) r
    rw [h] at hc
    first | apply tr_m (by rw [hE]; rfl) | (refine Tr.seq ?_; apply tr_m (by rw [hE]; rfl))
    intro Q hQ
    simp only [go_sem, seval]
    (refine vm_op ?_); intro r hr; simp only [go_sem, seval]; subst hr
    (refine vm_op ?_); intro r hr; simp only [go_sem, seval]
    refine call_fn rfl rfl rfl rfl (enters_of Tryd.func25 (by kernel_rfl) rfl) (hc) rfl rfl rfl ?_
    simp only [go_sem, seval]
    subst hr
    (refine vm_op ?_); intro r hr; simp only [go_sem, seval]; subst hr
    exact hQ
    first | refine Tr.cond rfl (fun h => by cases h) (fun _ => ?_) | refine Tr.seq (Tr.cond rfl (fun h => by cases h) (fun _ => ?_))
    refine Tr.skip ?_
    try simp only [blockK, thenK, ↓reduceIte]
    first | apply tr_m (by rw [hE]; rfl) | (refine Tr.seq ?_; apply tr_m (by rw [hE]; rfl))
    intro Q hQ
    simp only [go_sem, seval]
    iterate 2 ((refine vm_op ?_); intro r hr; simp only [go_sem, seval]; subst hr)
    (refine vm_op ?_); intro r hr; simp only [go_sem, seval]
    refine call_own rfl rfl rfl rfl (enters_of Tryd.func46 (by kernel_rfl) rfl) (index_own t (by omega)) rfl rfl ?_
    simp only [go_sem, seval]
    subst hr
    iterate 5 ((refine vm_op ?_); intro r hr; simp only [go_sem, seval]; subst hr)
    exact hQ
    first | refine tr_seq_region (by rw [hE]; rfl) ?_ | (refine Tr.seq ?_; refine tr_seq_region (by rw [hE]; rfl) ?_)
    iterate 2 (refine vc_op rfl ?_; simp only [go_sem, seval])
    refine vc_op rfl ?_; simp only [go_sem, seval]
    refine lookR rfl ?_
    simp only [hk, go_sem, seval]
    cases hf : t.findIdx? (isR r) with
    | some i =>
      have ef : findR t r = i := by rw [er, findI, hf]
      simp only [Option.getD_some, Option.isSome_some, go_sem, seval]
      iterate 5 (refine vc_op rfl ?_; simp only [go_sem, seval])
      refine vc_nil ?_
      first | refine tr_seq_region (by rw [hE]; rfl) ?_ | (refine Tr.seq ?_; refine tr_seq_region (by rw [hE]; rfl) ?_)
      repeat (refine vc_op rfl ?_; simp only [go_sem, seval])
      refine vc_nil ?_
      first | refine Tr.cond (b := true) rfl (fun _ => ?_) (fun h => by cases h) | refine Tr.seq (Tr.cond (b := true) rfl (fun _ => ?_) (fun h => by cases h))
      first | refine tr_seq_region (by rw [hE]; rfl) ?_ | (refine Tr.seq ?_; refine tr_seq_region (by rw [hE]; rfl) ?_)
      repeat (refine vc_op rfl ?_; simp only [go_sem, seval])
      refine vc_nil ?_
      refine Tr.ret ?_
      simp only [ef, Tryd.f24, go_sem, seval]
    | none =>
      have ef : findR t r = -1 := by rw [er, findI, hf]
      simp only [Option.getD_none, Option.isSome_none, go_sem, seval]
      iterate 5 (refine vc_op rfl ?_; simp only [go_sem, seval])
      refine vc_nil ?_
      first | refine tr_seq_region (by rw [hE]; rfl) ?_ | (refine Tr.seq ?_; refine tr_seq_region (by rw [hE]; rfl) ?_)
      repeat (refine vc_op rfl ?_; simp only [go_sem, seval])
      refine vc_nil ?_
      first | refine Tr.cond rfl (fun h => by cases h) (fun _ => ?_) | refine Tr.seq (Tr.cond rfl (fun h => by cases h) (fun _ => ?_))
      refine Tr.skip ?_
      try simp only [blockK, thenK, ↓reduceIte]
      first | refine tr_seq_region (by rw [hE]; rfl) ?_ | (refine Tr.seq ?_; refine tr_seq_region (by rw [hE]; rfl) ?_)
      repeat (refine vc_op rfl ?_; simp only [go_sem, seval])
      refine vc_nil ?_
      refine Tr.ret ?_
      simp only [ef, Tryd.f24, go_sem, seval]
  · have h : mayB t = false := by simpa using h
    have er : findR t r = -1 := by unfold findR; rw [if_neg (by simp [h])]
    rw [h] at hc
    first | apply tr_m (by rw [hE]; rfl) | (refine Tr.seq ?_; apply tr_m (by rw [hE]; rfl))
    intro Q hQ
    simp only [go_sem, seval]
    (refine vm_op ?_); intro r hr; simp only [go_sem, seval]; subst hr
    (refine vm_op ?_); intro r hr; simp only [go_sem, seval]
    refine call_fn rfl rfl rfl rfl (enters_of Tryd.func25 (by kernel_rfl) rfl) (hc) rfl rfl rfl ?_
    simp only [go_sem, seval]
    subst hr
    (refine vm_op ?_); intro r hr; simp only [go_sem, seval]; subst hr
    exact hQ
    first | refine Tr.cond (b := true) rfl (fun _ => ?_) (fun h => by cases h) | refine Tr.seq (Tr.cond (b := true) rfl (fun _ => ?_) (fun h => by cases h))
    first | refine tr_seq_region (by rw [hE]; rfl) ?_ | (refine Tr.seq ?_; refine tr_seq_region (by rw [hE]; rfl) ?_)
    repeat (refine vc_op rfl ?_; simp only [go_sem, seval])
    refine vc_nil ?_
    refine Tr.ret ?_
    simp only [er, Tryd.f24, go_sem, seval]

theorem reffind_pure (t : List Node) (r : Root) (hl : t.length ≤ 100) : Pure Tryd.prog 66 [tav t, .root r] (.int .i64 (findR t r)) := by
  have hc := refmay_pure t hl
  rw [refmay_eq] at hc
  refine pure_of_tr Tryd.func66 rfl (Nat.le_of_ble_eq_true rfl) rfl fun E hE hP => ?_
  first | refine tr_seq_region (by rw [hE]; rfl) ?_ | (refine Tr.seq ?_; refine tr_seq_region (by rw [hE]; rfl) ?_)
  repeat (refine vc_op rfl ?_; simp only [go_sem, seval])
  refine vc_nil ?_
  by_cases h : mayB t = true
  · have er : findR t r = findI t r := by unfold findR; rw [if_pos h]
    rw [h] at hc
    first | apply tr_m (by rw [hE]; rfl) | (refine Tr.seq ?_; apply tr_m (by rw [hE]; rfl))
    intro Q hQ
    simp only [go_sem, seval]
    (refine vm_op ?_); intro r hr; simp only [go_sem, seval]; subst hr
    (refine vm_op ?_); intro r hr; simp only [go_sem, seval]
    refine call_fn rfl rfl rfl rfl (enters_of Tryd.func39 (by kernel_rfl) rfl) (hc) rfl rfl rfl ?_
    simp only [go_sem, seval]
    subst hr
    (refine vm_op ?_); intro r hr; simp only [go_sem, seval]; subst hr
    exact hQ
    first | refine tr_seq_region (by rw [hE]; rfl) ?_ | (refine Tr.seq ?_; refine tr_seq_region (by rw [hE]; rfl) ?_)
    repeat (refine vc_op rfl ?_; simp only [go_sem, seval])
    refine vc_nil ?_
    first | refine Tr.block ?_ | (refine Tr.seq ?_; refine Tr.block ?_)
    refine Tr.loop (fun i : Nat => (⟨[(2, .ptr 0 [] 0), (3, .ptr 16 [] 0), (5, .bool true), (6, .int .i64 i)], [(0, .var (tav t)), (16, .var (.root r))], 17, []⟩ : S)) (fun i => i ≤ t.length ∧ ∀ j (hj : j < t.length), j < i → isR r t[j] = false) (fun i => t.length - i) 0 ⟨Nat.zero_le _, fun _ _ h => by omega⟩ ?_ ?_
    · refine wk_ren (fun n => n) ?_ ?_ rfl rfl rfl
      · repeat' (first | exact rfl | exact trivial | constructor)
      · repeat' (first | exact rfl | exact trivial | constructor)
    · intro i ⟨hi, hall⟩
      by_cases hlt : i < t.length
      · have e1 : decide ((i : Int) < (t.length : Int)) = true := decide_eq_true (by omega)
        have hn := nth_node (t := t) hlt
        have hd : t.getD i zNode = t[i] := by simp [hlt]
        have hw := wrap_next (n := i) (by omega)
        rw [hd] at hn
        first | apply tr_m (by rw [hE]; rfl) | (refine Tr.seq ?_; apply tr_m (by rw [hE]; rfl))
        intro Q hQ
        simp only [go_sem, seval]
        iterate 6 ((refine vm_op ?_); intro r hr; simp only [e1, go_sem, seval]; subst hr)
        (first | refine vm_if rfl ?_ | refine vm_no rfl ?_ | refine vm_skip rfl ?_); intro r hr; simp only [e1, go_sem, seval]; subst hr
        (refine vm_op ?_); intro r hr; simp only [e1, go_sem, seval]; subst hr
        exact hQ
        first | refine Tr.cond (b := true) rfl (fun _ => ?_) (fun h => by cases h) | refine Tr.seq (Tr.cond (b := true) rfl (fun _ => ?_) (fun h => by cases h))
        refine Tr.skip ?_
        try simp only [blockK, thenK, ↓reduceIte]
        first | refine Tr.block ?_ | (refine Tr.seq ?_; refine Tr.block ?_)
        cases hb : isR r t[i] with
        | true =>
          have hb' : decide (t[i].root = r) = true := hb
          have ef : findI t r = i := findI_at hlt (fun j hj => hall j (by omega) hj) hb
          first | apply tr_md mixed [0, 16] rfl (by rw [hE]; rfl) (by kernel_rfl) | (refine Tr.seq ?_; apply tr_md mixed [0, 16] rfl (by rw [hE]; rfl) (by kernel_rfl))
          intro Q hQ
          simp only [go_sem, seval]
          iterate 8 ((refine vd2_q rfl ?_); intro r hr; simp only [hn, hb', go_sem, seval]; subst hr)
          exact hQ
          first | refine Tr.cond (b := true) rfl (fun _ => ?_) (fun h => by cases h) | refine Tr.seq (Tr.cond (b := true) rfl (fun _ => ?_) (fun h => by cases h))
          first | refine tr_seq_region (by rw [hE]; rfl) ?_ | (refine Tr.seq ?_; refine tr_seq_region (by rw [hE]; rfl) ?_)
          repeat (refine vc_op rfl ?_; simp only [go_sem, seval])
          refine vc_nil ?_
          refine Tr.ret ?_
          simp only [er, ef, Tryd.f66, go_sem, seval]
        | false =>
          have hb' : decide (t[i].root = r) = false := hb
          first | apply tr_md mixed [0, 16] rfl (by rw [hE]; rfl) (by kernel_rfl) | (refine Tr.seq ?_; apply tr_md mixed [0, 16] rfl (by rw [hE]; rfl) (by kernel_rfl))
          intro Q hQ
          simp only [go_sem, seval]
          iterate 8 ((refine vd2_q rfl ?_); intro r hr; simp only [hn, hb', go_sem, seval]; subst hr)
          exact hQ
          first | refine Tr.cond (b := false) rfl (fun h => by cases h) (fun _ => ?_) | refine Tr.seq (Tr.cond (b := false) rfl (fun h => by cases h) (fun _ => ?_))
          refine Tr.skip ?_
          try simp only [blockK, thenK, ↓reduceIte]
          refine tr_region (by rw [hE]; rfl) ?_
          repeat (refine vc_op rfl ?_; simp only [go_sem, seval])
          refine vc_nil ?_
          rw [hw]
          try simp only [blockK, thenK, ↓reduceIte]
          refine ⟨i + 1, ⟨hlt, fun j hj hjl => ?_⟩, by omega, ?_⟩
          · rcases Nat.lt_or_ge j i with h | h
            · exact hall j hj h
            · have : j = i := by omega
              subst this; exact hb
          refine wk_ren (fun n => n) ?_ ?_ rfl rfl rfl
          · repeat' (first | exact rfl | exact trivial | constructor)
          · repeat' (first | exact rfl | exact trivial | constructor)
      · have e1 : decide ((i : Int) < (t.length : Int)) = false := decide_eq_false (by omega)
        have ef : findI t r = -1 := findI_none fun j hj => hall j hj (by omega)
        first | apply tr_m (by rw [hE]; rfl) | (refine Tr.seq ?_; apply tr_m (by rw [hE]; rfl))
        intro Q hQ
        simp only [go_sem, seval]
        iterate 6 ((refine vm_op ?_); intro r hr; simp only [e1, go_sem, seval]; subst hr)
        (first | refine vm_if rfl ?_ | refine vm_no rfl ?_ | refine vm_skip rfl ?_); intro r hr; simp only [e1, go_sem, seval]; subst hr
        (refine vm_op ?_); intro r hr; simp only [e1, go_sem, seval]; subst hr
        exact hQ
        first | refine Tr.cond (b := false) rfl (fun h => by cases h) (fun _ => ?_) | refine Tr.seq (Tr.cond (b := false) rfl (fun h => by cases h) (fun _ => ?_))
        refine Tr.exit ?_
        try simp only [blockK, thenK, ↓reduceIte]
        first | refine tr_seq_region (by rw [hE]; rfl) ?_ | (refine Tr.seq ?_; refine tr_seq_region (by rw [hE]; rfl) ?_)
        repeat (refine vc_op rfl ?_; simp only [go_sem, seval])
        refine vc_nil ?_
        refine Tr.ret ?_
        simp only [er, ef, Tryd.f66, go_sem, seval]
  · have h : mayB t = false := by simpa using h
    have er : findR t r = -1 := by unfold findR; rw [if_neg (by simp [h])]
    rw [h] at hc
    first | apply tr_m (by rw [hE]; rfl) | (refine Tr.seq ?_; apply tr_m (by rw [hE]; rfl))
    intro Q hQ
    simp only [go_sem, seval]
    (refine vm_op ?_); intro r hr; simp only [go_sem, seval]; subst hr
    (refine vm_op ?_); intro r hr; simp only [go_sem, seval]
    refine call_fn rfl rfl rfl rfl (enters_of Tryd.func39 (by kernel_rfl) rfl) (hc) rfl rfl rfl ?_
    simp only [go_sem, seval]
    subst hr
    (refine vm_op ?_); intro r hr; simp only [go_sem, seval]; subst hr
    exact hQ
    first | refine tr_seq_region (by rw [hE]; rfl) ?_ | (refine Tr.seq ?_; refine tr_seq_region (by rw [hE]; rfl) ?_)
    repeat (refine vc_op rfl ?_; simp only [go_sem, seval])
    refine vc_nil ?_
    first | refine Tr.block ?_ | (refine Tr.seq ?_; refine Tr.block ?_)
    refine Tr.loop (fun _ : Unit => (⟨[(2, .ptr 0 [] 0), (5, .bool false), (6, .int .i64 0)], [(0, .var (tav t))], 17, []⟩ : S)) (fun _ => True) (fun _ => 0) () trivial ?_ ?_
    · refine wk_ren (fun n => n) ?_ ?_ rfl rfl rfl
      · repeat' (first | exact rfl | exact trivial | constructor)
      · repeat' (first | exact rfl | exact trivial | constructor)
    · intro _ _
      cases hb0 : decide ((0 : Int) < (t.length : Int))
      · first | apply tr_m (by rw [hE]; rfl) | (refine Tr.seq ?_; apply tr_m (by rw [hE]; rfl))
        intro Q hQ
        simp only [go_sem, seval]
        iterate 6 ((refine vm_op ?_); intro r hr; simp only [hb0, go_sem, seval]; subst hr)
        (first | refine vm_if rfl ?_ | refine vm_no rfl ?_ | refine vm_skip rfl ?_); intro r hr; simp only [hb0, go_sem, seval]; subst hr
        (refine vm_op ?_); intro r hr; simp only [hb0, go_sem, seval]; subst hr
        exact hQ
        first | refine Tr.cond (b := false) rfl (fun h => by cases h) (fun _ => ?_) | refine Tr.seq (Tr.cond (b := false) rfl (fun h => by cases h) (fun _ => ?_))
        refine Tr.exit ?_
        try simp only [blockK, thenK, ↓reduceIte]
        first | refine tr_seq_region (by rw [hE]; rfl) ?_ | (refine Tr.seq ?_; refine tr_seq_region (by rw [hE]; rfl) ?_)
        repeat (refine vc_op rfl ?_; simp only [go_sem, seval])
        refine vc_nil ?_
        refine Tr.ret ?_
        simp only [er, Tryd.f66, go_sem, seval]
      · first | apply tr_m (by rw [hE]; rfl) | (refine Tr.seq ?_; apply tr_m (by rw [hE]; rfl))
        intro Q hQ
        simp only [go_sem, seval]
        iterate 6 ((refine vm_op ?_); intro r hr; simp only [hb0, go_sem, seval]; subst hr)
        (first | refine vm_if rfl ?_ | refine vm_no rfl ?_ | refine vm_skip rfl ?_); intro r hr; simp only [hb0, go_sem, seval]; subst hr
        (refine vm_op ?_); intro r hr; simp only [hb0, go_sem, seval]; subst hr
        exact hQ
        first | refine Tr.cond (b := false) rfl (fun h => by cases h) (fun _ => ?_) | refine Tr.seq (Tr.cond (b := false) rfl (fun h => by cases h) (fun _ => ?_))
        refine Tr.exit ?_
        try simp only [blockK, thenK, ↓reduceIte]
        first | refine tr_seq_region (by rw [hE]; rfl) ?_ | (refine Tr.seq ?_; refine tr_seq_region (by rw [hE]; rfl) ?_)
        repeat (refine vc_op rfl ?_; simp only [go_sem, seval])
        refine vc_nil ?_
        refine Tr.ret ?_
        simp only [er, Tryd.f66, go_sem, seval]

end Go.Proofs.YtdlejnafhmpobaaDoor

/- Who is behind whom; what is told. -/
set_option linter.unusedSimpArgs false
set_option maxRecDepth 10000
namespace Go.Proofs.YtdlejnafhmpobaaDoor
open Go Go.Ab

def behindB (t : List Node) (c f : Check) : Bool := aboveR t (findR t f.root) (findR t c.root)

theorem behind_pure (t : List Node) (c f : Check) : Pure Tryd.prog 41 [tav t, c.av, f.av] (.bool (behindB t c f)) := by
  have h1 := find_pure t f.root
  have h2 := find_pure t c.root
  have h3 := above_pure t (findR t f.root) (findR t c.root)
  have er : behindB t c f = aboveR t (findR t f.root) (findR t c.root) := rfl
  refine pure_of_tr Tryd.func41 rfl (Nat.le_of_ble_eq_true rfl) rfl fun E hE hP => ?_
  first | refine tr_seq_region (by rw [hE]; rfl) ?_ | (refine Tr.seq ?_; refine tr_seq_region (by rw [hE]; rfl) ?_)
  repeat (refine vc_op rfl ?_; simp only [go_sem, seval])
  refine vc_nil ?_
  first | apply tr_md mixed [0, 16, 32] rfl (by rw [hE]; rfl) (by kernel_rfl) | (refine Tr.seq ?_; apply tr_md mixed [0, 16, 32] rfl (by rw [hE]; rfl) (by kernel_rfl))
  intro Q hQ
  simp only [go_sem, seval]
  iterate 4 ((refine vd2_q rfl ?_); intro r hr; simp only [go_sem, seval]; subst hr)
  (refine vd2_x rfl ?_); intro r hr; simp only [go_sem, seval]
  refine call_fn rfl rfl rfl rfl (enters_of Tryd.func24 (by kernel_rfl) rfl) (h1) rfl rfl rfl ?_
  simp only [go_sem, seval]
  subst hr
  iterate 3 ((refine vd2_q rfl ?_); intro r hr; simp only [go_sem, seval]; subst hr)
  (refine vd2_x rfl ?_); intro r hr; simp only [go_sem, seval]
  refine call_fn rfl rfl rfl rfl (enters_of Tryd.func24 (by kernel_rfl) rfl) (h2) rfl rfl rfl ?_
  simp only [go_sem, seval]
  subst hr
  (refine vd2_x rfl ?_); intro r hr; simp only [go_sem, seval]
  refine call_fn rfl rfl rfl rfl (enters_of Tryd.func23 (by kernel_rfl) rfl) (h3) rfl rfl rfl ?_
  simp only [go_sem, seval]
  subst hr
  (refine vd2_q rfl ?_); intro r hr; simp only [go_sem, seval]; subst hr
  exact hQ
  refine Tr.ret ?_
  simp only [er, Tryd.f41, go_sem, seval]

theorem refis_pure (t : List Node) (i : Int) (hl : t.length ≤ 100) : Pure Tryd.prog 87 [tav t, .int .i64 i] (.bool (isB t [i])) := by
  have hc := refmay_pure t hl
  rw [refmay_eq] at hc
  cases hm : mayB t with
  | false =>
    have er : isB t [i] = false := by simp [isB, hm]
    rw [hm] at hc
    refine pure_of_tr Tryd.func87 rfl (Nat.le_of_ble_eq_true rfl) rfl fun E hE hP => ?_
    first | refine tr_seq_region (by rw [hE]; rfl) ?_ | (refine Tr.seq ?_; refine tr_seq_region (by rw [hE]; rfl) ?_)
    repeat (refine vc_op rfl ?_; simp only [go_sem, seval])
    refine vc_nil ?_
    first | apply tr_m (by rw [hE]; rfl) | (refine Tr.seq ?_; apply tr_m (by rw [hE]; rfl))
    intro Q hQ
    simp only [go_sem, seval]
    (refine vm_op ?_); intro r hr; simp only [go_sem, seval]; subst hr
    (refine vm_op ?_); intro r hr; simp only [go_sem, seval]
    refine call_fn rfl rfl rfl rfl (enters_of Tryd.func39 (by kernel_rfl) rfl) (hc) rfl rfl rfl ?_
    simp only [go_sem, seval]
    subst hr
    (refine vm_op ?_); intro r hr; simp only [go_sem, seval]; subst hr
    exact hQ
    first | apply tr_m (by rw [hE]; rfl) | (refine Tr.seq ?_; apply tr_m (by rw [hE]; rfl))
    intro Q hQ
    simp only [go_sem, seval]
    iterate 2 ((refine vm_op ?_); intro r hr; simp only [go_sem, seval]; subst hr)
    iterate 2 ((first | refine vm_if rfl ?_ | refine vm_no rfl ?_ | refine vm_skip rfl ?_); intro r hr; simp only [go_sem, seval]; subst hr)
    iterate 2 ((refine vm_op ?_); intro r hr; simp only [go_sem, seval]; subst hr)
    iterate 5 ((first | refine vm_if rfl ?_ | refine vm_no rfl ?_ | refine vm_skip rfl ?_); intro r hr; simp only [go_sem, seval]; subst hr)
    iterate 2 ((refine vm_op ?_); intro r hr; simp only [go_sem, seval]; subst hr)
    exact hQ
    refine Tr.ret ?_
    simp only [er, Tryd.f87, go_sem, seval]
  | true =>
    rw [hm] at hc
    by_cases h0 : 0 ≤ i
    · have e0 : decide (0 ≤ i) = true := decide_eq_true h0
      have er : isB t [i] = decide (i < (t.length : Int)) := by
        have : decide (i < 0) = false := decide_eq_false (by omega)
        simp only [isB, badI, hm, List.any_cons, List.any_nil, this, Bool.false_or, Bool.or_false, Bool.true_and]
        rw [← decide_not]
        exact decide_eq_decide.2 (by omega)
      refine pure_of_tr Tryd.func87 rfl (Nat.le_of_ble_eq_true rfl) rfl fun E hE hP => ?_
      first | refine tr_seq_region (by rw [hE]; rfl) ?_ | (refine Tr.seq ?_; refine tr_seq_region (by rw [hE]; rfl) ?_)
      repeat (refine vc_op rfl ?_; simp only [go_sem, seval])
      refine vc_nil ?_
      first | apply tr_m (by rw [hE]; rfl) | (refine Tr.seq ?_; apply tr_m (by rw [hE]; rfl))
      intro Q hQ
      simp only [go_sem, seval]
      (refine vm_op ?_); intro r hr; simp only [go_sem, seval]; subst hr
      (refine vm_op ?_); intro r hr; simp only [go_sem, seval]
      refine call_fn rfl rfl rfl rfl (enters_of Tryd.func39 (by kernel_rfl) rfl) (hc) rfl rfl rfl ?_
      simp only [go_sem, seval]
      subst hr
      (refine vm_op ?_); intro r hr; simp only [go_sem, seval]; subst hr
      exact hQ
      first | apply tr_m (by rw [hE]; rfl) | (refine Tr.seq ?_; apply tr_m (by rw [hE]; rfl))
      intro Q hQ
      simp only [go_sem, seval]
      iterate 2 ((refine vm_op ?_); intro r hr; simp only [e0, go_sem, seval]; subst hr)
      iterate 2 ((first | refine vm_if rfl ?_ | refine vm_no rfl ?_ | refine vm_skip rfl ?_); intro r hr; simp only [e0, go_sem, seval]; subst hr)
      iterate 2 ((refine vm_op ?_); intro r hr; simp only [go_sem, seval]; subst hr)
      iterate 5 ((first | refine vm_if rfl ?_ | refine vm_no rfl ?_ | refine vm_skip rfl ?_); intro r hr; simp only [go_sem, seval]; subst hr)
      iterate 2 ((refine vm_op ?_); intro r hr; simp only [go_sem, seval]; subst hr)
      exact hQ
      refine Tr.ret ?_
      simp only [er, Tryd.f87, go_sem, seval]
    · have e0 : decide (0 ≤ i) = false := decide_eq_false h0
      have er : isB t [i] = false := by
        have : decide (i < 0) = true := decide_eq_true (by omega)
        simp [isB, badI, this]
      refine pure_of_tr Tryd.func87 rfl (Nat.le_of_ble_eq_true rfl) rfl fun E hE hP => ?_
      first | refine tr_seq_region (by rw [hE]; rfl) ?_ | (refine Tr.seq ?_; refine tr_seq_region (by rw [hE]; rfl) ?_)
      repeat (refine vc_op rfl ?_; simp only [go_sem, seval])
      refine vc_nil ?_
      first | apply tr_m (by rw [hE]; rfl) | (refine Tr.seq ?_; apply tr_m (by rw [hE]; rfl))
      intro Q hQ
      simp only [go_sem, seval]
      (refine vm_op ?_); intro r hr; simp only [go_sem, seval]; subst hr
      (refine vm_op ?_); intro r hr; simp only [go_sem, seval]
      refine call_fn rfl rfl rfl rfl (enters_of Tryd.func39 (by kernel_rfl) rfl) (hc) rfl rfl rfl ?_
      simp only [go_sem, seval]
      subst hr
      (refine vm_op ?_); intro r hr; simp only [go_sem, seval]; subst hr
      exact hQ
      first | apply tr_m (by rw [hE]; rfl) | (refine Tr.seq ?_; apply tr_m (by rw [hE]; rfl))
      intro Q hQ
      simp only [go_sem, seval]
      iterate 2 ((refine vm_op ?_); intro r hr; simp only [e0, go_sem, seval]; subst hr)
      iterate 2 ((first | refine vm_if rfl ?_ | refine vm_no rfl ?_ | refine vm_skip rfl ?_); intro r hr; simp only [e0, go_sem, seval]; subst hr)
      iterate 2 ((refine vm_op ?_); intro r hr; simp only [e0, go_sem, seval]; subst hr)
      iterate 5 ((first | refine vm_if rfl ?_ | refine vm_no rfl ?_ | refine vm_skip rfl ?_); intro r hr; simp only [e0, go_sem, seval]; subst hr)
      iterate 2 ((refine vm_op ?_); intro r hr; simp only [e0, go_sem, seval]; subst hr)
      exact hQ
      refine Tr.ret ?_
      simp only [er, Tryd.f87, go_sem, seval]

theorem isB_two (t : List Node) (i k : Int) : isB t [i, k] = (isB t [i] && isB t [k]) := by
  simp only [isB, List.any_cons, List.any_nil, Bool.or_false]
  cases mayB t <;> cases badI t i <;> cases badI t k <;> rfl
theorem isB_spec {t : List Node} {i : Int} (h : isB t [i] = true) : mayB t = true ∧ 0 ≤ i ∧ i < t.length := by
  simp only [isB, badI, List.any_cons, List.any_nil, Bool.or_false, Bool.and_eq_true, Bool.not_eq_true', Bool.or_eq_false_iff, decide_eq_false_iff_not] at h
  exact ⟨h.1, by omega, by omega⟩

theorem refabove_pure (t : List Node) (i k : Int) (hl : t.length ≤ 100) : Pure Tryd.prog 65 [tav t, .int .i64 i, .int .i64 k] (.bool (aboveR t i k)) := by
  have h1 := refis_pure t i hl
  have h2 := refis_pure t k hl
  cases hi : isB t [i] with
  | false =>
    have er : aboveR t i k = false := by unfold aboveR; rw [isB_two, hi]; rfl
    rw [hi] at h1
    generalize isB t [k] = c at h2
    refine pure_of_tr Tryd.func65 rfl (Nat.le_of_ble_eq_true rfl) rfl fun E hE hP => ?_
    first | refine tr_seq_region (by rw [hE]; rfl) ?_ | (refine Tr.seq ?_; refine tr_seq_region (by rw [hE]; rfl) ?_)
    repeat (refine vc_op rfl ?_; simp only [go_sem, seval])
    refine vc_nil ?_
    first | apply tr_m (by rw [hE]; rfl) | (refine Tr.seq ?_; apply tr_m (by rw [hE]; rfl))
    intro Q hQ
    simp only [go_sem, seval]
    iterate 2 ((refine vm_op ?_); intro r hr; simp only [go_sem, seval]; subst hr)
    (refine vm_op ?_); intro r hr; simp only [go_sem, seval]
    refine call_fn rfl rfl rfl rfl (enters_of Tryd.func87 (by kernel_rfl) rfl) (h1) rfl rfl rfl ?_
    simp only [go_sem, seval]
    subst hr
    (refine vm_op ?_); intro r hr; simp only [go_sem, seval]; subst hr
    exact hQ
    first | apply tr_m (by rw [hE]; rfl) | (refine Tr.seq ?_; apply tr_m (by rw [hE]; rfl))
    intro Q hQ
    simp only [go_sem, seval]
    iterate 2 ((refine vm_op ?_); intro r hr; simp only [go_sem, seval]; subst hr)
    (refine vm_op ?_); intro r hr; simp only [go_sem, seval]
    refine call_fn rfl rfl rfl rfl (enters_of Tryd.func87 (by kernel_rfl) rfl) (h2) rfl rfl rfl ?_
    simp only [go_sem, seval]
    subst hr
    (refine vm_op ?_); intro r hr; simp only [go_sem, seval]; subst hr
    exact hQ
    first | apply tr_m (by rw [hE]; rfl) | (refine Tr.seq ?_; apply tr_m (by rw [hE]; rfl))
    intro Q hQ
    simp only [go_sem, seval]
    iterate 3 ((refine vm_op ?_); intro r hr; simp only [go_sem, seval]; subst hr)
    iterate 2 ((first | refine vm_if rfl ?_ | refine vm_no rfl ?_ | refine vm_skip rfl ?_); intro r hr; simp only [go_sem, seval]; subst hr)
    (refine vm_op ?_); intro r hr; simp only [go_sem, seval]; subst hr
    exact hQ
    first | refine Tr.cond (b := true) rfl (fun _ => ?_) (fun h => by cases h) | refine Tr.seq (Tr.cond (b := true) rfl (fun _ => ?_) (fun h => by cases h))
    first | refine tr_seq_region (by rw [hE]; rfl) ?_ | (refine Tr.seq ?_; refine tr_seq_region (by rw [hE]; rfl) ?_)
    repeat (refine vc_op rfl ?_; simp only [go_sem, seval])
    refine vc_nil ?_
    refine Tr.ret ?_
    simp only [er, Tryd.f65, go_sem, seval]
  | true =>
    rw [hi] at h1
    cases hk : isB t [k] with
    | false =>
      have er : aboveR t i k = false := by unfold aboveR; rw [isB_two, hi, hk]; rfl
      rw [hk] at h2
      refine pure_of_tr Tryd.func65 rfl (Nat.le_of_ble_eq_true rfl) rfl fun E hE hP => ?_
      first | refine tr_seq_region (by rw [hE]; rfl) ?_ | (refine Tr.seq ?_; refine tr_seq_region (by rw [hE]; rfl) ?_)
      repeat (refine vc_op rfl ?_; simp only [go_sem, seval])
      refine vc_nil ?_
      first | apply tr_m (by rw [hE]; rfl) | (refine Tr.seq ?_; apply tr_m (by rw [hE]; rfl))
      intro Q hQ
      simp only [go_sem, seval]
      iterate 2 ((refine vm_op ?_); intro r hr; simp only [go_sem, seval]; subst hr)
      (refine vm_op ?_); intro r hr; simp only [go_sem, seval]
      refine call_fn rfl rfl rfl rfl (enters_of Tryd.func87 (by kernel_rfl) rfl) (h1) rfl rfl rfl ?_
      simp only [go_sem, seval]
      subst hr
      (refine vm_op ?_); intro r hr; simp only [go_sem, seval]; subst hr
      exact hQ
      first | apply tr_m (by rw [hE]; rfl) | (refine Tr.seq ?_; apply tr_m (by rw [hE]; rfl))
      intro Q hQ
      simp only [go_sem, seval]
      iterate 2 ((refine vm_op ?_); intro r hr; simp only [go_sem, seval]; subst hr)
      (refine vm_op ?_); intro r hr; simp only [go_sem, seval]
      refine call_fn rfl rfl rfl rfl (enters_of Tryd.func87 (by kernel_rfl) rfl) (h2) rfl rfl rfl ?_
      simp only [go_sem, seval]
      subst hr
      (refine vm_op ?_); intro r hr; simp only [go_sem, seval]; subst hr
      exact hQ
      first | apply tr_m (by rw [hE]; rfl) | (refine Tr.seq ?_; apply tr_m (by rw [hE]; rfl))
      intro Q hQ
      simp only [go_sem, seval]
      iterate 3 ((refine vm_op ?_); intro r hr; simp only [go_sem, seval]; subst hr)
      iterate 2 ((first | refine vm_if rfl ?_ | refine vm_no rfl ?_ | refine vm_skip rfl ?_); intro r hr; simp only [go_sem, seval]; subst hr)
      (refine vm_op ?_); intro r hr; simp only [go_sem, seval]; subst hr
      exact hQ
      first | refine Tr.cond (b := true) rfl (fun _ => ?_) (fun h => by cases h) | refine Tr.seq (Tr.cond (b := true) rfl (fun _ => ?_) (fun h => by cases h))
      first | refine tr_seq_region (by rw [hE]; rfl) ?_ | (refine Tr.seq ?_; refine tr_seq_region (by rw [hE]; rfl) ?_)
      repeat (refine vc_op rfl ?_; simp only [go_sem, seval])
      refine vc_nil ?_
      refine Tr.ret ?_
      simp only [er, Tryd.f65, go_sem, seval]
    | true =>
      have er : aboveR t i k = aboveF t i k := by unfold aboveR; rw [isB_two, hi, hk]; rfl
      obtain ⟨hm, hi0, _⟩ := isB_spec hi
      obtain ⟨_, hk0, hk1⟩ := isB_spec hk
      rw [hk] at h2
      refine pure_of_tr Tryd.func65 rfl (Nat.le_of_ble_eq_true rfl) rfl fun E hE hP => ?_
      first | refine tr_seq_region (by rw [hE]; rfl) ?_ | (refine Tr.seq ?_; refine tr_seq_region (by rw [hE]; rfl) ?_)
      repeat (refine vc_op rfl ?_; simp only [go_sem, seval])
      refine vc_nil ?_
      first | apply tr_m (by rw [hE]; rfl) | (refine Tr.seq ?_; apply tr_m (by rw [hE]; rfl))
      intro Q hQ
      simp only [go_sem, seval]
      iterate 2 ((refine vm_op ?_); intro r hr; simp only [go_sem, seval]; subst hr)
      (refine vm_op ?_); intro r hr; simp only [go_sem, seval]
      refine call_fn rfl rfl rfl rfl (enters_of Tryd.func87 (by kernel_rfl) rfl) (h1) rfl rfl rfl ?_
      simp only [go_sem, seval]
      subst hr
      (refine vm_op ?_); intro r hr; simp only [go_sem, seval]; subst hr
      exact hQ
      first | apply tr_m (by rw [hE]; rfl) | (refine Tr.seq ?_; apply tr_m (by rw [hE]; rfl))
      intro Q hQ
      simp only [go_sem, seval]
      iterate 2 ((refine vm_op ?_); intro r hr; simp only [go_sem, seval]; subst hr)
      (refine vm_op ?_); intro r hr; simp only [go_sem, seval]
      refine call_fn rfl rfl rfl rfl (enters_of Tryd.func87 (by kernel_rfl) rfl) (h2) rfl rfl rfl ?_
      simp only [go_sem, seval]
      subst hr
      (refine vm_op ?_); intro r hr; simp only [go_sem, seval]; subst hr
      exact hQ
      first | apply tr_m (by rw [hE]; rfl) | (refine Tr.seq ?_; apply tr_m (by rw [hE]; rfl))
      intro Q hQ
      simp only [go_sem, seval]
      iterate 3 ((refine vm_op ?_); intro r hr; simp only [go_sem, seval]; subst hr)
      iterate 2 ((first | refine vm_if rfl ?_ | refine vm_no rfl ?_ | refine vm_skip rfl ?_); intro r hr; simp only [go_sem, seval]; subst hr)
      (refine vm_op ?_); intro r hr; simp only [go_sem, seval]; subst hr
      exact hQ
      first | refine Tr.cond rfl (fun h => by cases h) (fun _ => ?_) | refine Tr.seq (Tr.cond rfl (fun h => by cases h) (fun _ => ?_))
      refine Tr.skip ?_
      try simp only [blockK, thenK, ↓reduceIte]
      first | refine Tr.block ?_ | (refine Tr.seq ?_; refine Tr.block ?_)
      refine Tr.loop (fun a : Int => (⟨[(1, .int .i64 i), (2, .int .i64 a), (3, .ptr 0 [] 0)], [(0, .var (tav t))], 1, []⟩ : S)) (fun a => (a = -1 ∨ (0 ≤ a ∧ a < t.length)) ∧ aboveF t i a = aboveF t i k) (fun a => (a + 1).toNat) k ⟨.inr ⟨hk0, hk1⟩, rfl⟩ ?_ ?_
      · refine wk_ren (fun n => n) ?_ ?_ rfl rfl rfl
        · repeat' (first | exact rfl | exact trivial | constructor)
        · repeat' (first | exact rfl | exact trivial | constructor)
      · rintro a ⟨ha, habove⟩
        by_cases hai : i < a
        · have e1 : decide (i < a) = true := decide_eq_true hai
          have ha' : 0 ≤ a ∧ a < t.length := by omega
          have hstep := aboveF_step hm (i := i) ha'.1 ha'.2
          rw [if_neg (by omega), if_neg (by omega)] at hstep
          have hpr := par_range hm ha'.1 ha'.2
          obtain ⟨j, rfl⟩ : ∃ j : Nat, a = j := ⟨a.toNat, by omega⟩
          have hn := nth_node (t := t) (k := j) (by omega)
          have hpar : (t.getD j zNode).parent = parI t j := by unfold parI; rw [Int.toNat_natCast]
          first | refine tr_seq_region (by rw [hE]; rfl) ?_ | (refine Tr.seq ?_; refine tr_seq_region (by rw [hE]; rfl) ?_)
          repeat (refine vc_op rfl ?_; simp only [e1, go_sem, seval])
          refine vc_nil ?_
          first | refine Tr.cond (b := true) rfl (fun _ => ?_) (fun h => by cases h) | refine Tr.seq (Tr.cond (b := true) rfl (fun _ => ?_) (fun h => by cases h))
          refine Tr.skip ?_
          try simp only [blockK, thenK, ↓reduceIte]
          first | refine Tr.block ?_ | (refine Tr.seq ?_; refine Tr.block ?_)
          apply tr_ml (by rw [hE]; rfl)
          intro Q hQ
          simp only [go_sem, seval]
          iterate 7 ((refine vm_op ?_); intro r hr; simp only [hn, hpar, go_sem, seval]; subst hr)
          exact hQ
          try simp only [blockK, thenK, ↓reduceIte]
          refine ⟨parI t j, ⟨by omega, by rw [← hstep]; exact habove⟩, by omega, ?_⟩
          refine wk_ren (fun n => n) ?_ ?_ rfl rfl rfl
          · repeat' (first | exact rfl | exact trivial | constructor)
          · repeat' (first | exact rfl | exact trivial | constructor)
        · have e1 : decide (i < a) = false := decide_eq_false hai
          have er2 : aboveF t i k = decide (a = i) := by
            rw [← habove]
            rcases ha with ha | ha
            · subst ha
              rw [decide_eq_false (by omega)]; rfl
            · rw [aboveF_step hm (i := i) ha.1 ha.2]
              by_cases h : a = i
              · rw [if_pos h, decide_eq_true h]
              · rw [if_neg h, if_pos (by omega), decide_eq_false h]
          first | refine tr_seq_region (by rw [hE]; rfl) ?_ | (refine Tr.seq ?_; refine tr_seq_region (by rw [hE]; rfl) ?_)
          repeat (refine vc_op rfl ?_; simp only [e1, go_sem, seval])
          refine vc_nil ?_
          first | refine Tr.cond (b := false) rfl (fun h => by cases h) (fun _ => ?_) | refine Tr.seq (Tr.cond (b := false) rfl (fun h => by cases h) (fun _ => ?_))
          refine Tr.exit ?_
          try simp only [blockK, thenK, ↓reduceIte]
          first | refine tr_seq_region (by rw [hE]; rfl) ?_ | (refine Tr.seq ?_; refine tr_seq_region (by rw [hE]; rfl) ?_)
          repeat (refine vc_op rfl ?_; simp only [int_beq, go_sem, seval])
          refine vc_nil ?_
          refine Tr.ret ?_
          simp only [er, er2, Tryd.f65, go_sem, seval]

theorem refbehind_pure (t : List Node) (c f : Check) (hl : t.length ≤ 100) : Pure Tryd.prog 40 [tav t, c.av, f.av] (.bool (behindB t c f)) := by
  have h1 := reffind_pure t f.root hl
  have h2 := reffind_pure t c.root hl
  have h3 := refabove_pure t (findR t f.root) (findR t c.root) hl
  have er : behindB t c f = aboveR t (findR t f.root) (findR t c.root) := rfl
  refine pure_of_tr Tryd.func40 rfl (Nat.le_of_ble_eq_true rfl) rfl fun E hE hP => ?_
  first | refine tr_seq_region (by rw [hE]; rfl) ?_ | (refine Tr.seq ?_; refine tr_seq_region (by rw [hE]; rfl) ?_)
  repeat (refine vc_op rfl ?_; simp only [go_sem, seval])
  refine vc_nil ?_
  first | apply tr_md mixed [0, 16, 32] rfl (by rw [hE]; rfl) (by kernel_rfl) | (refine Tr.seq ?_; apply tr_md mixed [0, 16, 32] rfl (by rw [hE]; rfl) (by kernel_rfl))
  intro Q hQ
  simp only [go_sem, seval]
  iterate 4 ((refine vd2_q rfl ?_); intro r hr; simp only [go_sem, seval]; subst hr)
  (refine vd2_x rfl ?_); intro r hr; simp only [go_sem, seval]
  refine call_fn rfl rfl rfl rfl (enters_of Tryd.func66 (by kernel_rfl) rfl) (h1) rfl rfl rfl ?_
  simp only [go_sem, seval]
  subst hr
  iterate 3 ((refine vd2_q rfl ?_); intro r hr; simp only [go_sem, seval]; subst hr)
  (refine vd2_x rfl ?_); intro r hr; simp only [go_sem, seval]
  refine call_fn rfl rfl rfl rfl (enters_of Tryd.func66 (by kernel_rfl) rfl) (h2) rfl rfl rfl ?_
  simp only [go_sem, seval]
  subst hr
  (refine vd2_x rfl ?_); intro r hr; simp only [go_sem, seval]
  refine call_fn rfl rfl rfl rfl (enters_of Tryd.func65 (by kernel_rfl) rfl) (h3) rfl rfl rfl ?_
  simp only [go_sem, seval]
  subst hr
  (refine vd2_q rfl ?_); intro r hr; simp only [go_sem, seval]; subst hr
  exact hQ
  refine Tr.ret ?_
  simp only [er, Tryd.f40, go_sem, seval]

end Go.Proofs.YtdlejnafhmpobaaDoor

/- What is told; which one is better; which one is there. -/
set_option linter.unusedSimpArgs false
set_option maxRecDepth 10000
namespace Go.Proofs.YtdlejnafhmpobaaDoor
open Go Go.Ab

def toldR (t : List Node) (l : List Link) (b : List Int) : Bool := mayB t && (lmayB l && mayS b)
def okL (l : List Link) : Prop := ∀ a ∈ l, 0 ≤ a.mask ∧ a.mask < 18446744073709551616
def countB (t : List Node) (b : List Int) (a : Link) : Bool := behindB t a.t a.s && mostB b a.mask.toNat
def betterB (a b : Check) : Bool := decide (a.epoch < b.epoch) || (decide (b.epoch = a.epoch) && lessR a.root b.root)
def checks (l : List Check) : AV := .sl (l.map Check.av) false
@[go_sem] theorem checks_idL (l : List Check) : (checks l).idL = [] := rfl
@[go_sem] theorem checks_frz (hp : HP) (l : List Check) : (checks l).frz hp = checks l := rfl
@[go_sem] theorem checks_flat (l : List Check) : (checks l).flat = false := rfl
@[go_sem] theorem checks_ok (l : List Check) : (checks l).ok = true := rfl
@[go_sem] theorem checks_idf (l : List Check) : (checks l).idf = true := rfl
@[go_sem] theorem checks_agg (l : List Check) : (checks l).agg = false := rfl
@[go_sem] theorem checks_len (l : List Check) : (checks l).len = 1 := rfl
@[go_sem] theorem checks_ren (ρ : Nat → Nat) (l : List Check) : (checks l).ren ρ = checks l := rfl
@[go_sem] theorem links_agg (l : List Link) : (links l).agg = false := rfl
@[go_sem] theorem links_len (l : List Link) : (links l).len = 1 := rfl
@[go_sem] theorem links_ren (ρ : Nat → Nat) (l : List Link) : (links l).ren ρ = links l := rfl
@[go_sem] theorem tElem27 : tElem Tryd.prog 27 = some 32 := by kernel_rfl
@[go_sem] theorem tSize27 : tSize Tryd.prog 27 = some 1 := by kernel_rfl
@[go_sem] theorem tAgg27 : tAgg Tryd.prog 27 = some false := by kernel_rfl
@[go_sem] theorem tSize25 : tSize Tryd.prog 25 = some 1 := by kernel_rfl
@[go_sem] theorem tAgg25 : tAgg Tryd.prog 25 = some false := by kernel_rfl
@[go_sem] theorem tBytes32 : tBytes Tryd.prog 32 = some 40 := by kernel_rfl
@[go_sem] theorem cund27 : Tryd.prog.underlying 27 = some (.slice 32) := Tryd.underlying27

theorem told_pure (t : List Node) (l : List Link) (b : List Int) : Pure Tryd.prog 59 [tav t, links l, u64s b] (.bool (toldR t l b)) := by
  have h1 := may_pure t
  have h2 := LMay_pure l
  have h3 := smay_pure b
  unfold toldR
  generalize mayB t = x at h1 ⊢
  generalize lmayB l = y at h2 ⊢
  generalize mayS b = z at h3 ⊢
  cases x
  · refine pure_of_tr Tryd.func59 rfl (Nat.le_of_ble_eq_true rfl) rfl fun E hE hP => ?_
    first | refine tr_seq_region (by rw [hE]; rfl) ?_ | (refine Tr.seq ?_; refine tr_seq_region (by rw [hE]; rfl) ?_)
    repeat (refine vc_op rfl ?_; simp only [go_sem, seval])
    refine vc_nil ?_
    first | apply tr_m (by rw [hE]; rfl) | (refine Tr.seq ?_; apply tr_m (by rw [hE]; rfl))
    intro Q hQ
    simp only [go_sem, seval]
    (refine vm_op ?_); intro r hr; simp only [go_sem, seval]; subst hr
    (refine vm_op ?_); intro r hr; simp only [go_sem, seval]
    refine call_fn rfl rfl rfl rfl (enters_of Tryd.func25 (by kernel_rfl) rfl) (h1) rfl rfl rfl ?_
    simp only [go_sem, seval]
    subst hr
    (refine vm_op ?_); intro r hr; simp only [go_sem, seval]; subst hr
    iterate 2 ((first | refine vm_if rfl ?_ | refine vm_no rfl ?_ | refine vm_skip rfl ?_); intro r hr; simp only [go_sem, seval]; subst hr)
    iterate 2 ((refine vm_op ?_); intro r hr; simp only [go_sem, seval]; subst hr)
    iterate 2 ((first | refine vm_if rfl ?_ | refine vm_no rfl ?_ | refine vm_skip rfl ?_); intro r hr; simp only [go_sem, seval]; subst hr)
    iterate 2 ((refine vm_op ?_); intro r hr; simp only [go_sem, seval]; subst hr)
    exact hQ
    refine Tr.ret ?_
    simp only [Bool.false_and, Tryd.f59, go_sem, seval]
  · cases y
    · refine pure_of_tr Tryd.func59 rfl (Nat.le_of_ble_eq_true rfl) rfl fun E hE hP => ?_
      first | refine tr_seq_region (by rw [hE]; rfl) ?_ | (refine Tr.seq ?_; refine tr_seq_region (by rw [hE]; rfl) ?_)
      repeat (refine vc_op rfl ?_; simp only [go_sem, seval])
      refine vc_nil ?_
      first | apply tr_m (by rw [hE]; rfl) | (refine Tr.seq ?_; apply tr_m (by rw [hE]; rfl))
      intro Q hQ
      simp only [go_sem, seval]
      (refine vm_op ?_); intro r hr; simp only [go_sem, seval]; subst hr
      (refine vm_op ?_); intro r hr; simp only [go_sem, seval]
      refine call_fn rfl rfl rfl rfl (enters_of Tryd.func25 (by kernel_rfl) rfl) (h1) rfl rfl rfl ?_
      simp only [go_sem, seval]
      subst hr
      (refine vm_op ?_); intro r hr; simp only [go_sem, seval]; subst hr
      (first | refine vm_if rfl ?_ | refine vm_no rfl ?_ | refine vm_skip rfl ?_); intro r hr; simp only [go_sem, seval]; subst hr
      (first | refine vm_if rfl ?_ | refine vm_no rfl ?_ | refine vm_skip rfl ?_); intro r hr; simp only [go_sem, seval]
      refine call_fn rfl rfl rfl rfl (enters_of Tryd.func26 (by kernel_rfl) rfl) (h2) rfl rfl rfl ?_
      simp only [go_sem, seval]
      subst hr
      iterate 2 ((refine vm_op ?_); intro r hr; simp only [go_sem, seval]; subst hr)
      iterate 2 ((first | refine vm_if rfl ?_ | refine vm_no rfl ?_ | refine vm_skip rfl ?_); intro r hr; simp only [go_sem, seval]; subst hr)
      iterate 2 ((refine vm_op ?_); intro r hr; simp only [go_sem, seval]; subst hr)
      exact hQ
      refine Tr.ret ?_
      simp only [Bool.false_and, Bool.true_and, Tryd.f59, go_sem, seval]
    · refine pure_of_tr Tryd.func59 rfl (Nat.le_of_ble_eq_true rfl) rfl fun E hE hP => ?_
      first | refine tr_seq_region (by rw [hE]; rfl) ?_ | (refine Tr.seq ?_; refine tr_seq_region (by rw [hE]; rfl) ?_)
      repeat (refine vc_op rfl ?_; simp only [go_sem, seval])
      refine vc_nil ?_
      first | apply tr_m (by rw [hE]; rfl) | (refine Tr.seq ?_; apply tr_m (by rw [hE]; rfl))
      intro Q hQ
      simp only [go_sem, seval]
      (refine vm_op ?_); intro r hr; simp only [go_sem, seval]; subst hr
      (refine vm_op ?_); intro r hr; simp only [go_sem, seval]
      refine call_fn rfl rfl rfl rfl (enters_of Tryd.func25 (by kernel_rfl) rfl) (h1) rfl rfl rfl ?_
      simp only [go_sem, seval]
      subst hr
      (refine vm_op ?_); intro r hr; simp only [go_sem, seval]; subst hr
      (first | refine vm_if rfl ?_ | refine vm_no rfl ?_ | refine vm_skip rfl ?_); intro r hr; simp only [go_sem, seval]; subst hr
      (first | refine vm_if rfl ?_ | refine vm_no rfl ?_ | refine vm_skip rfl ?_); intro r hr; simp only [go_sem, seval]
      refine call_fn rfl rfl rfl rfl (enters_of Tryd.func26 (by kernel_rfl) rfl) (h2) rfl rfl rfl ?_
      simp only [go_sem, seval]
      subst hr
      iterate 2 ((refine vm_op ?_); intro r hr; simp only [go_sem, seval]; subst hr)
      (first | refine vm_if rfl ?_ | refine vm_no rfl ?_ | refine vm_skip rfl ?_); intro r hr; simp only [go_sem, seval]; subst hr
      (first | refine vm_if rfl ?_ | refine vm_no rfl ?_ | refine vm_skip rfl ?_); intro r hr; simp only [go_sem, seval]
      refine call_fn rfl rfl rfl rfl (enters_of Tryd.func27 (by kernel_rfl) rfl) (h3) rfl rfl rfl ?_
      simp only [go_sem, seval]
      subst hr
      iterate 2 ((refine vm_op ?_); intro r hr; simp only [go_sem, seval]; subst hr)
      exact hQ
      refine Tr.ret ?_
      simp only [Bool.true_and, Tryd.f59, go_sem, seval]
theorem reftold_pure (t : List Node) (l : List Link) (b : List Int) (ht : t.length ≤ 100) (hl : l.length ≤ 100) (hb : b.length ≤ 9223372036854775807) (hmask : okL l) : Pure Tryd.prog 35 [tav t, links l, u64s b] (.bool (toldR t l b)) := by
  have h1 := refmay_pure t ht
  rw [refmay_eq] at h1
  have h2 := RLMay_pure l hl fun a ha => (hmask a ha).1
  have h3 := refsmay_pure b hb
  unfold toldR
  generalize mayB t = x at h1 ⊢
  generalize lmayB l = y at h2 ⊢
  generalize mayS b = z at h3 ⊢
  refine pure_of_tr Tryd.func35 rfl (Nat.le_of_ble_eq_true rfl) rfl fun E hE hP => ?_
  first | refine tr_seq_region (by rw [hE]; rfl) ?_ | (refine Tr.seq ?_; refine tr_seq_region (by rw [hE]; rfl) ?_)
  repeat (refine vc_op rfl ?_; simp only [go_sem, seval])
  refine vc_nil ?_
  first | apply tr_m (by rw [hE]; rfl) | (refine Tr.seq ?_; apply tr_m (by rw [hE]; rfl))
  intro Q hQ
  simp only [go_sem, seval]
  (refine vm_op ?_); intro r hr; simp only [go_sem, seval]; subst hr
  (refine vm_op ?_); intro r hr; simp only [go_sem, seval]
  refine call_fn rfl rfl rfl rfl (enters_of Tryd.func39 (by kernel_rfl) rfl) (h1) rfl rfl rfl ?_
  simp only [go_sem, seval]
  subst hr
  (refine vm_op ?_); intro r hr; simp only [go_sem, seval]; subst hr
  exact hQ
  first | apply tr_m (by rw [hE]; rfl) | (refine Tr.seq ?_; apply tr_m (by rw [hE]; rfl))
  intro Q hQ
  simp only [go_sem, seval]
  (refine vm_op ?_); intro r hr; simp only [go_sem, seval]; subst hr
  (refine vm_op ?_); intro r hr; simp only [go_sem, seval]
  refine call_fn rfl rfl rfl rfl (enters_of Tryd.func61 (by kernel_rfl) rfl) (h2) rfl rfl rfl ?_
  simp only [go_sem, seval]
  subst hr
  (refine vm_op ?_); intro r hr; simp only [go_sem, seval]; subst hr
  exact hQ
  first | apply tr_m (by rw [hE]; rfl) | (refine Tr.seq ?_; apply tr_m (by rw [hE]; rfl))
  intro Q hQ
  simp only [go_sem, seval]
  (refine vm_op ?_); intro r hr; simp only [go_sem, seval]; subst hr
  (refine vm_op ?_); intro r hr; simp only [go_sem, seval]
  refine call_fn rfl rfl rfl rfl (enters_of Tryd.func62 (by kernel_rfl) rfl) (h3) rfl rfl rfl ?_
  simp only [go_sem, seval]
  subst hr
  (refine vm_op ?_); intro r hr; simp only [go_sem, seval]; subst hr
  exact hQ
  cases x
  · first | apply tr_m (by rw [hE]; rfl) | (refine Tr.seq ?_; apply tr_m (by rw [hE]; rfl))
    intro Q hQ
    simp only [go_sem, seval]
    iterate 2 ((refine vm_op ?_); intro r hr; simp only [go_sem, seval]; subst hr)
    (first | refine vm_if rfl ?_ | refine vm_no rfl ?_ | refine vm_skip rfl ?_); intro r hr; simp only [go_sem, seval]; subst hr
    iterate 2 ((refine vm_op ?_); intro r hr; simp only [go_sem, seval]; subst hr)
    (first | refine vm_if rfl ?_ | refine vm_no rfl ?_ | refine vm_skip rfl ?_); intro r hr; simp only [go_sem, seval]; subst hr
    iterate 2 ((refine vm_op ?_); intro r hr; simp only [go_sem, seval]; subst hr)
    exact hQ
    refine Tr.ret ?_
    simp only [Bool.false_and, Tryd.f35, go_sem, seval]
  · cases y
    · first | apply tr_m (by rw [hE]; rfl) | (refine Tr.seq ?_; apply tr_m (by rw [hE]; rfl))
      intro Q hQ
      simp only [go_sem, seval]
      iterate 2 ((refine vm_op ?_); intro r hr; simp only [go_sem, seval]; subst hr)
      (first | refine vm_if rfl ?_ | refine vm_no rfl ?_ | refine vm_skip rfl ?_); intro r hr; simp only [go_sem, seval]; subst hr
      iterate 2 ((refine vm_op ?_); intro r hr; simp only [go_sem, seval]; subst hr)
      (first | refine vm_if rfl ?_ | refine vm_no rfl ?_ | refine vm_skip rfl ?_); intro r hr; simp only [go_sem, seval]; subst hr
      iterate 2 ((refine vm_op ?_); intro r hr; simp only [go_sem, seval]; subst hr)
      exact hQ
      refine Tr.ret ?_
      simp only [Bool.false_and, Bool.true_and, Tryd.f35, go_sem, seval]
    · first | apply tr_m (by rw [hE]; rfl) | (refine Tr.seq ?_; apply tr_m (by rw [hE]; rfl))
      intro Q hQ
      simp only [go_sem, seval]
      iterate 2 ((refine vm_op ?_); intro r hr; simp only [go_sem, seval]; subst hr)
      (first | refine vm_if rfl ?_ | refine vm_no rfl ?_ | refine vm_skip rfl ?_); intro r hr; simp only [go_sem, seval]; subst hr
      iterate 2 ((refine vm_op ?_); intro r hr; simp only [go_sem, seval]; subst hr)
      (first | refine vm_if rfl ?_ | refine vm_no rfl ?_ | refine vm_skip rfl ?_); intro r hr; simp only [go_sem, seval]; subst hr
      iterate 2 ((refine vm_op ?_); intro r hr; simp only [go_sem, seval]; subst hr)
      exact hQ
      refine Tr.ret ?_
      simp only [Bool.true_and, Tryd.f35, go_sem, seval]

theorem refcounts_pure (t : List Node) (a : Link) (b : List Int) (ht : t.length ≤ 100) (hl : b.length ≤ 9223372036854775807) (hb : okB b) (hm : 0 ≤ a.mask ∧ a.mask < 18446744073709551616) : Pure Tryd.prog 38 [tav t, a.av, u64s b] (.bool (countB t b a)) := by
  have h1 := refbehind_pure t a.t a.s ht
  have h2 := refmost_pure b a.mask.toNat hl hb (by omega)
  rw [Int.toNat_of_nonneg hm.1] at h2
  unfold countB
  generalize behindB t a.t a.s = x at h1 ⊢
  generalize mostB b a.mask.toNat = y at h2 ⊢
  refine pure_of_tr Tryd.func38 rfl (Nat.le_of_ble_eq_true rfl) rfl fun E hE hP => ?_
  first | refine tr_seq_region (by rw [hE]; rfl) ?_ | (refine Tr.seq ?_; refine tr_seq_region (by rw [hE]; rfl) ?_)
  repeat (refine vc_op rfl ?_; simp only [go_sem, seval])
  refine vc_nil ?_
  first | apply tr_m (by rw [hE]; rfl) | (refine Tr.seq ?_; apply tr_m (by rw [hE]; rfl))
  intro Q hQ
  simp only [go_sem, seval]
  iterate 5 ((refine vm_op ?_); intro r hr; simp only [go_sem, seval]; subst hr)
  (refine vm_op ?_); intro r hr; simp only [go_sem, seval]
  refine call_fn rfl rfl rfl rfl (enters_of Tryd.func40 (by kernel_rfl) rfl) (h1) rfl rfl rfl ?_
  simp only [go_sem, seval]
  subst hr
  (refine vm_op ?_); intro r hr; simp only [go_sem, seval]; subst hr
  exact hQ
  first | apply tr_m (by rw [hE]; rfl) | (refine Tr.seq ?_; apply tr_m (by rw [hE]; rfl))
  intro Q hQ
  simp only [go_sem, seval]
  iterate 3 ((refine vm_op ?_); intro r hr; simp only [go_sem, seval]; subst hr)
  (refine vm_op ?_); intro r hr; simp only [go_sem, seval]
  refine call_fn rfl rfl rfl rfl (enters_of Tryd.func64 (by kernel_rfl) rfl) (h2) rfl rfl rfl ?_
  simp only [go_sem, seval]
  subst hr
  (refine vm_op ?_); intro r hr; simp only [go_sem, seval]; subst hr
  exact hQ
  cases x
  · first | apply tr_m (by rw [hE]; rfl) | (refine Tr.seq ?_; apply tr_m (by rw [hE]; rfl))
    intro Q hQ
    simp only [go_sem, seval]
    iterate 2 ((refine vm_op ?_); intro r hr; simp only [go_sem, seval]; subst hr)
    (first | refine vm_if rfl ?_ | refine vm_no rfl ?_ | refine vm_skip rfl ?_); intro r hr; simp only [go_sem, seval]; subst hr
    iterate 2 ((refine vm_op ?_); intro r hr; simp only [go_sem, seval]; subst hr)
    exact hQ
    refine Tr.ret ?_
    simp only [Bool.false_and, Tryd.f38, go_sem, seval]
  · first | apply tr_m (by rw [hE]; rfl) | (refine Tr.seq ?_; apply tr_m (by rw [hE]; rfl))
    intro Q hQ
    simp only [go_sem, seval]
    iterate 2 ((refine vm_op ?_); intro r hr; simp only [go_sem, seval]; subst hr)
    (first | refine vm_if rfl ?_ | refine vm_no rfl ?_ | refine vm_skip rfl ?_); intro r hr; simp only [go_sem, seval]; subst hr
    iterate 2 ((refine vm_op ?_); intro r hr; simp only [go_sem, seval]; subst hr)
    exact hQ
    refine Tr.ret ?_
    simp only [Bool.true_and, Tryd.f38, go_sem, seval]

theorem better_pure (a b : Check) : Pure Tryd.prog 42 [a.av, b.av] (if betterB a b then b else a).av := by
  have h1 := less_pure a.root b.root
  unfold betterB
  generalize lessR a.root b.root = z at h1 ⊢
  cases e1 : decide (a.epoch < b.epoch) with
  | true =>
    refine pure_of_tr Tryd.func42 rfl (Nat.le_of_ble_eq_true rfl) rfl fun E hE hP => ?_
    first | refine tr_seq_region (by rw [hE]; rfl) ?_ | (refine Tr.seq ?_; refine tr_seq_region (by rw [hE]; rfl) ?_)
    repeat (refine vc_op rfl ?_; simp only [go_sem, seval])
    refine vc_nil ?_
    first | apply tr_m (by rw [hE]; rfl) | (refine Tr.seq ?_; apply tr_m (by rw [hE]; rfl))
    intro Q hQ
    simp only [go_sem, seval]
    iterate 6 ((refine vm_op ?_); intro r hr; simp only [e1, go_sem, seval]; subst hr)
    iterate 12 ((first | refine vm_if rfl ?_ | refine vm_no rfl ?_ | refine vm_skip rfl ?_); intro r hr; simp only [e1, go_sem, seval]; subst hr)
    (refine vm_op ?_); intro r hr; simp only [e1, go_sem, seval]; subst hr
    exact hQ
    first | refine Tr.cond (b := true) rfl (fun _ => ?_) (fun h => by cases h) | refine Tr.seq (Tr.cond (b := true) rfl (fun _ => ?_) (fun h => by cases h))
    first | refine tr_seq_region (by rw [hE]; rfl) ?_ | (refine Tr.seq ?_; refine tr_seq_region (by rw [hE]; rfl) ?_)
    repeat (refine vc_op rfl ?_; simp only [go_sem, seval])
    refine vc_nil ?_
    refine Tr.ret ?_
    simp only [Bool.true_or, Tryd.f42, go_sem, seval]
  | false =>
    cases e2 : decide (b.epoch = a.epoch) with
    | true =>
      cases z with
      | true =>
        refine pure_of_tr Tryd.func42 rfl (Nat.le_of_ble_eq_true rfl) rfl fun E hE hP => ?_
        first | refine tr_seq_region (by rw [hE]; rfl) ?_ | (refine Tr.seq ?_; refine tr_seq_region (by rw [hE]; rfl) ?_)
        repeat (refine vc_op rfl ?_; simp only [go_sem, seval])
        refine vc_nil ?_
        first | apply tr_m (by rw [hE]; rfl) | (refine Tr.seq ?_; apply tr_m (by rw [hE]; rfl))
        intro Q hQ
        simp only [go_sem, seval]
        iterate 6 ((refine vm_op ?_); intro r hr; simp only [e1, e2, int_beq, go_sem, seval]; subst hr)
        iterate 10 ((first | refine vm_if rfl ?_ | refine vm_no rfl ?_ | refine vm_skip rfl ?_); intro r hr; simp only [e1, e2, int_beq, go_sem, seval]; subst hr)
        (first | refine vm_if rfl ?_ | refine vm_no rfl ?_ | refine vm_skip rfl ?_); intro r hr; simp only [e1, e2, int_beq, go_sem, seval]
        refine call_fn rfl rfl rfl rfl (enters_of Tryd.func67 (by kernel_rfl) rfl) (h1) rfl rfl rfl ?_
        simp only [go_sem, seval]
        subst hr
        (first | refine vm_if rfl ?_ | refine vm_no rfl ?_ | refine vm_skip rfl ?_); intro r hr; simp only [go_sem, seval]; subst hr
        (refine vm_op ?_); intro r hr; simp only [go_sem, seval]; subst hr
        exact hQ
        first | refine Tr.cond (b := true) rfl (fun _ => ?_) (fun h => by cases h) | refine Tr.seq (Tr.cond (b := true) rfl (fun _ => ?_) (fun h => by cases h))
        first | refine tr_seq_region (by rw [hE]; rfl) ?_ | (refine Tr.seq ?_; refine tr_seq_region (by rw [hE]; rfl) ?_)
        repeat (refine vc_op rfl ?_; simp only [go_sem, seval])
        refine vc_nil ?_
        refine Tr.ret ?_
        simp only [Bool.false_or, Bool.true_and, Tryd.f42, go_sem, seval]
      | false =>
        refine pure_of_tr Tryd.func42 rfl (Nat.le_of_ble_eq_true rfl) rfl fun E hE hP => ?_
        first | refine tr_seq_region (by rw [hE]; rfl) ?_ | (refine Tr.seq ?_; refine tr_seq_region (by rw [hE]; rfl) ?_)
        repeat (refine vc_op rfl ?_; simp only [go_sem, seval])
        refine vc_nil ?_
        first | apply tr_m (by rw [hE]; rfl) | (refine Tr.seq ?_; apply tr_m (by rw [hE]; rfl))
        intro Q hQ
        simp only [go_sem, seval]
        iterate 6 ((refine vm_op ?_); intro r hr; simp only [e1, e2, int_beq, go_sem, seval]; subst hr)
        iterate 10 ((first | refine vm_if rfl ?_ | refine vm_no rfl ?_ | refine vm_skip rfl ?_); intro r hr; simp only [e1, e2, int_beq, go_sem, seval]; subst hr)
        (first | refine vm_if rfl ?_ | refine vm_no rfl ?_ | refine vm_skip rfl ?_); intro r hr; simp only [e1, e2, int_beq, go_sem, seval]
        refine call_fn rfl rfl rfl rfl (enters_of Tryd.func67 (by kernel_rfl) rfl) (h1) rfl rfl rfl ?_
        simp only [go_sem, seval]
        subst hr
        (first | refine vm_if rfl ?_ | refine vm_no rfl ?_ | refine vm_skip rfl ?_); intro r hr; simp only [go_sem, seval]; subst hr
        (refine vm_op ?_); intro r hr; simp only [go_sem, seval]; subst hr
        exact hQ
        first | refine Tr.cond rfl (fun h => by cases h) (fun _ => ?_) | refine Tr.seq (Tr.cond rfl (fun h => by cases h) (fun _ => ?_))
        refine Tr.skip ?_
        try simp only [blockK, thenK, ↓reduceIte]
        first | refine tr_seq_region (by rw [hE]; rfl) ?_ | (refine Tr.seq ?_; refine tr_seq_region (by rw [hE]; rfl) ?_)
        repeat (refine vc_op rfl ?_; simp only [go_sem, seval])
        refine vc_nil ?_
        refine Tr.ret ?_
        simp only [Bool.false_or, Bool.true_and, Bool.false_eq_true, Tryd.f42, go_sem, seval]
    | false =>
      refine pure_of_tr Tryd.func42 rfl (Nat.le_of_ble_eq_true rfl) rfl fun E hE hP => ?_
      first | refine tr_seq_region (by rw [hE]; rfl) ?_ | (refine Tr.seq ?_; refine tr_seq_region (by rw [hE]; rfl) ?_)
      repeat (refine vc_op rfl ?_; simp only [go_sem, seval])
      refine vc_nil ?_
      first | apply tr_m (by rw [hE]; rfl) | (refine Tr.seq ?_; apply tr_m (by rw [hE]; rfl))
      intro Q hQ
      simp only [go_sem, seval]
      iterate 6 ((refine vm_op ?_); intro r hr; simp only [e1, e2, int_beq, go_sem, seval]; subst hr)
      iterate 12 ((first | refine vm_if rfl ?_ | refine vm_no rfl ?_ | refine vm_skip rfl ?_); intro r hr; simp only [e1, e2, int_beq, go_sem, seval]; subst hr)
      (refine vm_op ?_); intro r hr; simp only [e1, e2, int_beq, go_sem, seval]; subst hr
      exact hQ
      first | refine Tr.cond rfl (fun h => by cases h) (fun _ => ?_) | refine Tr.seq (Tr.cond rfl (fun h => by cases h) (fun _ => ?_))
      refine Tr.skip ?_
      try simp only [blockK, thenK, ↓reduceIte]
      first | refine tr_seq_region (by rw [hE]; rfl) ?_ | (refine Tr.seq ?_; refine tr_seq_region (by rw [hE]; rfl) ?_)
      repeat (refine vc_op rfl ?_; simp only [go_sem, seval])
      refine vc_nil ?_
      refine Tr.ret ?_
      simp only [Bool.false_or, Bool.false_and, Bool.false_eq_true, Tryd.f42, go_sem, seval]
theorem refbetter_pure (a b : Check) : Pure Tryd.prog 43 [a.av, b.av] (.bool (betterB a b)) := by
  have h1 := refless_pure a.root b.root
  unfold betterB
  generalize lessR a.root b.root = z at h1 ⊢
  refine pure_of_tr Tryd.func43 rfl (Nat.le_of_ble_eq_true rfl) rfl fun E hE hP => ?_
  first | refine tr_seq_region (by rw [hE]; rfl) ?_ | (refine Tr.seq ?_; refine tr_seq_region (by rw [hE]; rfl) ?_)
  repeat (refine vc_op rfl ?_; simp only [go_sem, seval])
  refine vc_nil ?_
  first | apply tr_m (by rw [hE]; rfl) | (refine Tr.seq ?_; apply tr_m (by rw [hE]; rfl))
  intro Q hQ
  simp only [go_sem, seval]
  iterate 4 ((refine vm_op ?_); intro r hr; simp only [go_sem, seval]; subst hr)
  (refine vm_op ?_); intro r hr; simp only [go_sem, seval]
  refine call_fn rfl rfl rfl rfl (enters_of Tryd.func68 (by kernel_rfl) rfl) (h1) rfl rfl rfl ?_
  simp only [go_sem, seval]
  subst hr
  (refine vm_op ?_); intro r hr; simp only [go_sem, seval]; subst hr
  exact hQ
  cases e1 : decide (a.epoch < b.epoch) with
  | true =>
    first | apply tr_m (by rw [hE]; rfl) | (refine Tr.seq ?_; apply tr_m (by rw [hE]; rfl))
    intro Q hQ
    simp only [go_sem, seval]
    iterate 6 ((refine vm_op ?_); intro r hr; simp only [e1, go_sem, seval]; subst hr)
    iterate 8 ((first | refine vm_if rfl ?_ | refine vm_no rfl ?_ | refine vm_skip rfl ?_); intro r hr; simp only [e1, go_sem, seval]; subst hr)
    iterate 2 ((refine vm_op ?_); intro r hr; simp only [e1, go_sem, seval]; subst hr)
    exact hQ
    refine Tr.ret ?_
    simp only [Bool.true_or, Tryd.f43, go_sem, seval]
  | false =>
    cases e2 : decide (b.epoch = a.epoch) with
    | true =>
      first | apply tr_m (by rw [hE]; rfl) | (refine Tr.seq ?_; apply tr_m (by rw [hE]; rfl))
      intro Q hQ
      simp only [go_sem, seval]
      iterate 6 ((refine vm_op ?_); intro r hr; simp only [e1, e2, int_beq, go_sem, seval]; subst hr)
      iterate 8 ((first | refine vm_if rfl ?_ | refine vm_no rfl ?_ | refine vm_skip rfl ?_); intro r hr; simp only [e1, e2, int_beq, go_sem, seval]; subst hr)
      iterate 2 ((refine vm_op ?_); intro r hr; simp only [e1, e2, int_beq, go_sem, seval]; subst hr)
      exact hQ
      refine Tr.ret ?_
      simp only [Bool.false_or, Bool.true_and, Tryd.f43, go_sem, seval]
    | false =>
      first | apply tr_m (by rw [hE]; rfl) | (refine Tr.seq ?_; apply tr_m (by rw [hE]; rfl))
      intro Q hQ
      simp only [go_sem, seval]
      iterate 6 ((refine vm_op ?_); intro r hr; simp only [e1, e2, int_beq, go_sem, seval]; subst hr)
      iterate 8 ((first | refine vm_if rfl ?_ | refine vm_no rfl ?_ | refine vm_skip rfl ?_); intro r hr; simp only [e1, e2, int_beq, go_sem, seval]; subst hr)
      iterate 2 ((refine vm_op ?_); intro r hr; simp only [e1, e2, int_beq, go_sem, seval]; subst hr)
      exact hQ
      refine Tr.ret ?_
      simp only [Bool.false_or, Bool.false_and, Tryd.f43, go_sem, seval]

end Go.Proofs.YtdlejnafhmpobaaDoor

/- Lists of checkpoints. -/
set_option linter.unusedSimpArgs false
set_option maxRecDepth 10000
namespace Go.Proofs.YtdlejnafhmpobaaDoor
open Go Go.Ab

theorem mem_at {l : List Check} {c : Check} {i : Nat} (h : i < l.length) (he : l[i] = c) : decide (c ∈ l) = true := decide_eq_true (he ▸ List.getElem_mem h)
theorem mem_no {l : List Check} {c : Check} (h : ∀ j (hj : j < l.length), l[j] ≠ c) : decide (c ∈ l) = false := decide_eq_false fun hm => by
  obtain ⟨j, hj, he⟩ := List.mem_iff_getElem.1 hm
  exact h j hj he

theorem has_pure (l : List Check) (c : Check) (hl : l.length ≤ 100) : Pure Tryd.prog 22 [checks l, c.av] (.bool (decide (c ∈ l))) := by
  unfold checks
  refine pure_of_tr Tryd.func22 rfl (Nat.le_of_ble_eq_true rfl) rfl fun E hE hP => ?_
  first | refine tr_seq_region (by rw [hE]; rfl) ?_ | (refine Tr.seq ?_; refine tr_seq_region (by rw [hE]; rfl) ?_)
  repeat (refine vc_op rfl ?_; simp only [go_sem, seval])
  refine vc_nil ?_
  first | refine tr_seq_region (by rw [hE]; rfl) ?_ | (refine Tr.seq ?_; refine tr_seq_region (by rw [hE]; rfl) ?_)
  repeat (refine vc_op rfl ?_; simp only [go_sem, seval])
  refine vc_nil ?_
  first | refine Tr.block ?_ | (refine Tr.seq ?_; refine Tr.block ?_)
  refine Tr.loop (fun i : Nat => (⟨[(0, .sl (l.map Check.av) false), (3, .ptr 0 [] 0), (5, .int .i64 i)], [(0, .var c.av)], 1, []⟩ : S)) (fun i => i ≤ l.length ∧ ∀ j (hj : j < l.length), j < i → l[j] ≠ c) (fun i => l.length - i) 0 ⟨Nat.zero_le _, fun _ _ h => by omega⟩ ?_ ?_
  · refine wk_ren (fun n => n) ?_ ?_ rfl rfl rfl
    · repeat' (first | exact rfl | exact trivial | constructor)
    · repeat' (first | exact rfl | exact trivial | constructor)
  · intro i ⟨hi, hall⟩
    by_cases hlt : i < l.length
    · have e1 : decide ((i : Int) < (l.length : Int)) = true := decide_eq_true (by omega)
      have ha := nth_map_lt Check.av l i hlt
      have hw := wrap_next (n := i) (by omega)
      first | refine tr_seq_region (by rw [hE]; rfl) ?_ | (refine Tr.seq ?_; refine tr_seq_region (by rw [hE]; rfl) ?_)
      repeat (refine vc_op rfl ?_; simp only [e1, go_sem, seval])
      refine vc_nil ?_
      first | refine Tr.cond (b := true) rfl (fun _ => ?_) (fun h => by cases h) | refine Tr.seq (Tr.cond (b := true) rfl (fun _ => ?_) (fun h => by cases h))
      refine Tr.skip ?_
      try simp only [blockK, thenK, ↓reduceIte]
      first | refine Tr.block ?_ | (refine Tr.seq ?_; refine Tr.block ?_)
      cases hb : decide (l[i] = c) with
      | true =>
        have er := mem_at hlt (of_decide_eq_true hb)
        first | apply tr_md mixed [0] rfl (by rw [hE]; rfl) (by kernel_rfl) | (refine Tr.seq ?_; apply tr_md mixed [0] rfl (by rw [hE]; rfl) (by kernel_rfl))
        intro Q hQ
        simp only [go_sem, seval]
        iterate 6 ((refine vd2_q rfl ?_); intro r hr; simp only [ha, hb, go_sem, seval]; subst hr)
        exact hQ
        first | refine Tr.cond (b := true) rfl (fun _ => ?_) (fun h => by cases h) | refine Tr.seq (Tr.cond (b := true) rfl (fun _ => ?_) (fun h => by cases h))
        first | refine tr_seq_region (by rw [hE]; rfl) ?_ | (refine Tr.seq ?_; refine tr_seq_region (by rw [hE]; rfl) ?_)
        repeat (refine vc_op rfl ?_; simp only [go_sem, seval])
        refine vc_nil ?_
        refine Tr.ret ?_
        simp only [er, Tryd.f22, go_sem, seval]
      | false =>
        first | apply tr_md mixed [0] rfl (by rw [hE]; rfl) (by kernel_rfl) | (refine Tr.seq ?_; apply tr_md mixed [0] rfl (by rw [hE]; rfl) (by kernel_rfl))
        intro Q hQ
        simp only [go_sem, seval]
        iterate 6 ((refine vd2_q rfl ?_); intro r hr; simp only [ha, hb, go_sem, seval]; subst hr)
        exact hQ
        first | refine Tr.cond (b := false) rfl (fun h => by cases h) (fun _ => ?_) | refine Tr.seq (Tr.cond (b := false) rfl (fun h => by cases h) (fun _ => ?_))
        refine Tr.skip ?_
        try simp only [blockK, thenK, ↓reduceIte]
        refine tr_region (by rw [hE]; rfl) ?_
        repeat (refine vc_op rfl ?_; simp only [go_sem, seval])
        refine vc_nil ?_
        rw [hw]
        try simp only [blockK, thenK, ↓reduceIte]
        refine ⟨i + 1, ⟨hlt, fun j hj hjl => ?_⟩, by omega, ?_⟩
        · rcases Nat.lt_or_ge j i with h | h
          · exact hall j hj h
          · have : j = i := by omega
            subst this; exact of_decide_eq_false hb
        refine wk_ren (fun n => n) ?_ ?_ rfl rfl rfl
        · repeat' (first | exact rfl | exact trivial | constructor)
        · repeat' (first | exact rfl | exact trivial | constructor)
    · have e1 : decide ((i : Int) < (l.length : Int)) = false := decide_eq_false (by omega)
      have er := mem_no (l := l) (c := c) fun j hj => hall j hj (by omega)
      first | refine tr_seq_region (by rw [hE]; rfl) ?_ | (refine Tr.seq ?_; refine tr_seq_region (by rw [hE]; rfl) ?_)
      repeat (refine vc_op rfl ?_; simp only [e1, go_sem, seval])
      refine vc_nil ?_
      first | refine Tr.cond (b := false) rfl (fun h => by cases h) (fun _ => ?_) | refine Tr.seq (Tr.cond (b := false) rfl (fun h => by cases h) (fun _ => ?_))
      refine Tr.exit ?_
      try simp only [blockK, thenK, ↓reduceIte]
      first | refine tr_seq_region (by rw [hE]; rfl) ?_ | (refine Tr.seq ?_; refine tr_seq_region (by rw [hE]; rfl) ?_)
      repeat (refine vc_op rfl ?_; simp only [go_sem, seval])
      refine vc_nil ?_
      refine Tr.ret ?_
      simp only [er, Tryd.f22, go_sem, seval]

def cidx (l : List Check) (c : Check) : Int := match l.findIdx? (fun x => decide (c = x)) with | some i => (i : Int) | none => -1
theorem cidx_at {l : List Check} {c : Check} {i : Nat} (h : i < l.length) (hb : ∀ j (hj : j < l.length), j < i → c ≠ l[j]) (hi : c = l[i]) : cidx l c = i := by
  have : l.findIdx? (fun x => decide (c = x)) = some i := by
    rw [List.findIdx?_eq_some_iff_getElem]
    exact ⟨h, decide_eq_true hi, fun j hj => by simpa using hb j (by omega) hj⟩
  rw [cidx, this]
theorem cidx_none {l : List Check} {c : Check} (hb : ∀ j (hj : j < l.length), c ≠ l[j]) : cidx l c = -1 := by
  have : l.findIdx? (fun x => decide (c = x)) = none := by
    rw [List.findIdx?_eq_none_iff]
    intro x hx
    obtain ⟨j, hj, rfl⟩ := List.mem_iff_getElem.1 hx
    exact decide_eq_false (hb j hj)
  rw [cidx, this]
theorem cidx_mem (l : List Check) (c : Check) : decide (0 ≤ cidx l c) = decide (c ∈ l) := by
  unfold cidx
  cases h : l.findIdx? (fun x => decide (c = x)) with
  | none =>
    have := List.findIdx?_eq_none_iff.1 h
    rw [decide_eq_false (p := c ∈ l) (fun hm => by simpa using this c hm)]
    rfl
  | some i =>
    obtain ⟨h1, h2, _⟩ := List.findIdx?_eq_some_iff_getElem.1 h
    rw [mem_at h1 (of_decide_eq_true h2).symm]
    simp

theorem cindex_pure (l : List Check) (c : Check) (hl : l.length ≤ 100) : Pure Tryd.prog 63 [checks l, c.av] (.int .i64 (cidx l c)) := by
  unfold checks
  refine pure_of_tr Tryd.func63 rfl (Nat.le_of_ble_eq_true rfl) rfl fun E hE hP => ?_
  first | refine tr_seq_region (by rw [hE]; rfl) ?_ | (refine Tr.seq ?_; refine tr_seq_region (by rw [hE]; rfl) ?_)
  repeat (refine vc_op rfl ?_; simp only [go_sem, seval])
  refine vc_nil ?_
  first | refine tr_seq_region (by rw [hE]; rfl) ?_ | (refine Tr.seq ?_; refine tr_seq_region (by rw [hE]; rfl) ?_)
  repeat (refine vc_op rfl ?_; simp only [go_sem, seval])
  refine vc_nil ?_
  first | refine Tr.block ?_ | (refine Tr.seq ?_; refine Tr.block ?_)
  refine Tr.loop (fun i : Nat => (⟨[(0, .sl (l.map Check.av) false), (3, .ptr 0 [] 0), (7, .int .i64 l.length), (8, .int .i64 i)], [(0, .var c.av)], 1, []⟩ : S)) (fun i => i ≤ l.length ∧ ∀ j (hj : j < l.length), j < i → c ≠ l[j]) (fun i => l.length - i) 0 ⟨Nat.zero_le _, fun _ _ h => by omega⟩ ?_ ?_
  · refine wk_ren (fun n => n) ?_ ?_ rfl rfl rfl
    · repeat' (first | exact rfl | exact trivial | constructor)
    · repeat' (first | exact rfl | exact trivial | constructor)
  · intro i ⟨hi, hall⟩
    by_cases hlt : i < l.length
    · have e1 : decide ((i : Int) < (l.length : Int)) = true := decide_eq_true (by omega)
      have ha := nth_map_lt Check.av l i hlt
      have hw := wrap_next (n := i) (by omega)
      first | refine tr_seq_region (by rw [hE]; rfl) ?_ | (refine Tr.seq ?_; refine tr_seq_region (by rw [hE]; rfl) ?_)
      repeat (refine vc_op rfl ?_; simp only [e1, go_sem, seval])
      refine vc_nil ?_
      first | refine Tr.cond (b := true) rfl (fun _ => ?_) (fun h => by cases h) | refine Tr.seq (Tr.cond (b := true) rfl (fun _ => ?_) (fun h => by cases h))
      refine Tr.skip ?_
      try simp only [blockK, thenK, ↓reduceIte]
      first | refine Tr.block ?_ | (refine Tr.seq ?_; refine Tr.block ?_)
      first | refine tr_seq_region (by rw [hE]; rfl) ?_ | (refine Tr.seq ?_; refine tr_seq_region (by rw [hE]; rfl) ?_)
      repeat (refine vc_op rfl ?_; simp only [go_sem, seval])
      refine vc_nil ?_
      cases hb : decide (c = l[i]) with
      | true =>
        have er := cidx_at hlt hall (of_decide_eq_true hb)
        first | apply tr_md mixed [0] rfl (by rw [hE]; rfl) (by kernel_rfl) | (refine Tr.seq ?_; apply tr_md mixed [0] rfl (by rw [hE]; rfl) (by kernel_rfl))
        intro Q hQ
        simp only [go_sem, seval]
        iterate 6 ((refine vd2_q rfl ?_); intro r hr; simp only [ha, hb, go_sem, seval]; subst hr)
        exact hQ
        first | refine Tr.cond (b := true) rfl (fun _ => ?_) (fun h => by cases h) | refine Tr.seq (Tr.cond (b := true) rfl (fun _ => ?_) (fun h => by cases h))
        first | refine tr_seq_region (by rw [hE]; rfl) ?_ | (refine Tr.seq ?_; refine tr_seq_region (by rw [hE]; rfl) ?_)
        repeat (refine vc_op rfl ?_; simp only [go_sem, seval])
        refine vc_nil ?_
        refine Tr.ret ?_
        simp only [er, Tryd.f63, go_sem, seval]
      | false =>
        first | apply tr_md mixed [0] rfl (by rw [hE]; rfl) (by kernel_rfl) | (refine Tr.seq ?_; apply tr_md mixed [0] rfl (by rw [hE]; rfl) (by kernel_rfl))
        intro Q hQ
        simp only [go_sem, seval]
        iterate 6 ((refine vd2_q rfl ?_); intro r hr; simp only [ha, hb, go_sem, seval]; subst hr)
        exact hQ
        first | refine Tr.cond (b := false) rfl (fun h => by cases h) (fun _ => ?_) | refine Tr.seq (Tr.cond (b := false) rfl (fun h => by cases h) (fun _ => ?_))
        refine Tr.skip ?_
        try simp only [blockK, thenK, ↓reduceIte]
        refine tr_region (by rw [hE]; rfl) ?_
        repeat (refine vc_op rfl ?_; simp only [go_sem, seval])
        refine vc_nil ?_
        rw [hw]
        try simp only [blockK, thenK, ↓reduceIte]
        refine ⟨i + 1, ⟨hlt, fun j hj hjl => ?_⟩, by omega, ?_⟩
        · rcases Nat.lt_or_ge j i with h | h
          · exact hall j hj h
          · have : j = i := by omega
            subst this; exact of_decide_eq_false hb
        refine wk_ren (fun n => n) ?_ ?_ rfl rfl rfl
        · repeat' (first | exact rfl | exact trivial | constructor)
        · repeat' (first | exact rfl | exact trivial | constructor)
    · have e1 : decide ((i : Int) < (l.length : Int)) = false := decide_eq_false (by omega)
      have er := cidx_none (l := l) (c := c) fun j hj => hall j hj (by omega)
      first | refine tr_seq_region (by rw [hE]; rfl) ?_ | (refine Tr.seq ?_; refine tr_seq_region (by rw [hE]; rfl) ?_)
      repeat (refine vc_op rfl ?_; simp only [e1, go_sem, seval])
      refine vc_nil ?_
      first | refine Tr.cond (b := false) rfl (fun h => by cases h) (fun _ => ?_) | refine Tr.seq (Tr.cond (b := false) rfl (fun h => by cases h) (fun _ => ?_))
      refine Tr.exit ?_
      try simp only [blockK, thenK, ↓reduceIte]
      first | refine tr_seq_region (by rw [hE]; rfl) ?_ | (refine Tr.seq ?_; refine tr_seq_region (by rw [hE]; rfl) ?_)
      repeat (refine vc_op rfl ?_; simp only [go_sem, seval])
      refine vc_nil ?_
      refine Tr.ret ?_
      simp only [er, Tryd.f63, go_sem, seval]
theorem ccontains_pure (l : List Check) (c : Check) (hl : l.length ≤ 100) : Pure Tryd.prog 37 [checks l, c.av] (.bool (decide (c ∈ l))) := by
  have er := cidx_mem l c
  refine pure_of_tr Tryd.func37 rfl (Nat.le_of_ble_eq_true rfl) rfl fun E hE hP => ?_
  first | refine tr_seq_region (by rw [hE]; rfl) ?_ | (refine Tr.seq ?_; refine tr_seq_region (by rw [hE]; rfl) ?_)
  repeat (refine vc_op rfl ?_; simp only [go_sem, seval])
  refine vc_nil ?_
  first | apply tr_m (by rw [hE]; rfl) | (refine Tr.seq ?_; apply tr_m (by rw [hE]; rfl))
  intro Q hQ
  simp only [go_sem, seval]
  iterate 2 ((refine vm_op ?_); intro r hr; simp only [go_sem, seval]; subst hr)
  (refine vm_op ?_); intro r hr; simp only [go_sem, seval]
  refine call_fn rfl rfl rfl rfl (enters_of Tryd.func63 (by kernel_rfl) rfl) (cindex_pure l c hl) rfl rfl rfl ?_
  simp only [go_sem, seval]
  subst hr
  iterate 2 ((refine vm_op ?_); intro r hr; simp only [go_sem, seval]; subst hr)
  exact hQ
  refine Tr.ret ?_
  simp only [er, Tryd.f37, go_sem, seval]

theorem csame_pure (l k : List Check) (hl : l.length ≤ 100) : Pure Tryd.prog 11 [checks l, checks k] (.bool (decide (l = k))) := by
  unfold checks
  refine pure_of_tr Tryd.func11 rfl (Nat.le_of_ble_eq_true rfl) rfl fun E hE hP => ?_
  first | refine tr_seq_region (by rw [hE]; rfl) ?_ | (refine Tr.seq ?_; refine tr_seq_region (by rw [hE]; rfl) ?_)
  repeat (refine vc_op rfl ?_; simp only [go_sem, seval])
  refine vc_nil ?_
  by_cases hne : l.length = k.length
  · have e0 : ((l.length : Int) != (k.length : Int)) = false := by rw [int_bne, decide_eq_true (by omega)]; rfl
    first | apply tr_m (by rw [hE]; rfl) | (refine Tr.seq ?_; apply tr_m (by rw [hE]; rfl))
    intro Q hQ
    simp only [go_sem, seval]
    iterate 5 ((refine vm_op ?_); intro r hr; simp only [List.length_map, e0, go_sem, seval]; subst hr)
    exact hQ
    first | refine Tr.cond rfl (fun h => by cases h) (fun _ => ?_) | refine Tr.seq (Tr.cond rfl (fun h => by cases h) (fun _ => ?_))
    refine Tr.skip ?_
    try simp only [blockK, thenK, ↓reduceIte]
    first | refine tr_seq_region (by rw [hE]; rfl) ?_ | (refine Tr.seq ?_; refine tr_seq_region (by rw [hE]; rfl) ?_)
    repeat (refine vc_op rfl ?_; simp only [go_sem, seval])
    refine vc_nil ?_
    first | refine Tr.block ?_ | (refine Tr.seq ?_; refine Tr.block ?_)
    refine Tr.loop (fun i : Nat => (⟨[(0, .sl (l.map Check.av) false), (1, .sl (k.map Check.av) false), (5, .int .i64 i)], [], 0, []⟩ : S)) (fun i => i ≤ l.length ∧ ∀ j (h1 : j < l.length) (h2 : j < k.length), j < i → l[j] = k[j]) (fun i => l.length - i) 0 ⟨Nat.zero_le _, fun _ _ _ h => by omega⟩ ?_ ?_
    · refine wk_ren (fun n => n) ?_ ?_ rfl rfl rfl
      · repeat' (first | exact rfl | exact trivial | constructor)
      · repeat' (first | exact rfl | exact trivial | constructor)
    · intro i ⟨hi, hall⟩
      by_cases hlt : i < l.length
      · have e1 : decide ((i : Int) < (l.length : Int)) = true := decide_eq_true (by omega)
        have ha := nth_map_lt Check.av l i hlt
        have hc := nth_map_lt Check.av k i (by omega)
        have hw := wrap_next (n := i) (by omega)
        first | refine tr_seq_region (by rw [hE]; rfl) ?_ | (refine Tr.seq ?_; refine tr_seq_region (by rw [hE]; rfl) ?_)
        repeat (refine vc_op rfl ?_; simp only [e1, go_sem, seval])
        refine vc_nil ?_
        first | refine Tr.cond (b := true) rfl (fun _ => ?_) (fun h => by cases h) | refine Tr.seq (Tr.cond (b := true) rfl (fun _ => ?_) (fun h => by cases h))
        refine Tr.skip ?_
        try simp only [blockK, thenK, ↓reduceIte]
        first | refine Tr.block ?_ | (refine Tr.seq ?_; refine Tr.block ?_)
        cases hb : decide (l[i] = k[i]'(by omega)) with
        | false =>
          have er : decide (l = k) = false := decide_eq_false fun h => by
            subst h
            exact of_decide_eq_false hb rfl
          first | apply tr_md mixed [] rfl (by rw [hE]; rfl) (by kernel_rfl) | (refine Tr.seq ?_; apply tr_md mixed [] rfl (by rw [hE]; rfl) (by kernel_rfl))
          intro Q hQ
          simp only [go_sem, seval]
          iterate 9 ((refine vd2_q rfl ?_); intro r hr; simp only [ha, hc, hb, go_sem, seval]; subst hr)
          exact hQ
          first | refine Tr.cond (b := true) rfl (fun _ => ?_) (fun h => by cases h) | refine Tr.seq (Tr.cond (b := true) rfl (fun _ => ?_) (fun h => by cases h))
          first | refine tr_seq_region (by rw [hE]; rfl) ?_ | (refine Tr.seq ?_; refine tr_seq_region (by rw [hE]; rfl) ?_)
          repeat (refine vc_op rfl ?_; simp only [go_sem, seval])
          refine vc_nil ?_
          refine Tr.ret ?_
          simp only [er, Tryd.f11, go_sem, seval]
        | true =>
          first | apply tr_md mixed [] rfl (by rw [hE]; rfl) (by kernel_rfl) | (refine Tr.seq ?_; apply tr_md mixed [] rfl (by rw [hE]; rfl) (by kernel_rfl))
          intro Q hQ
          simp only [go_sem, seval]
          iterate 9 ((refine vd2_q rfl ?_); intro r hr; simp only [ha, hc, hb, go_sem, seval]; subst hr)
          exact hQ
          first | refine Tr.cond (b := false) rfl (fun h => by cases h) (fun _ => ?_) | refine Tr.seq (Tr.cond (b := false) rfl (fun h => by cases h) (fun _ => ?_))
          refine Tr.skip ?_
          try simp only [blockK, thenK, ↓reduceIte]
          refine tr_region (by rw [hE]; rfl) ?_
          repeat (refine vc_op rfl ?_; simp only [go_sem, seval])
          refine vc_nil ?_
          rw [hw]
          try simp only [blockK, thenK, ↓reduceIte]
          refine ⟨i + 1, ⟨hlt, fun j h1 h2 hjl => ?_⟩, by omega, ?_⟩
          · rcases Nat.lt_or_ge j i with h | h
            · exact hall j h1 h2 h
            · have : j = i := by omega
              subst this; exact of_decide_eq_true hb
          refine wk_ren (fun n => n) ?_ ?_ rfl rfl rfl
          · repeat' (first | exact rfl | exact trivial | constructor)
          · repeat' (first | exact rfl | exact trivial | constructor)
      · have e1 : decide ((i : Int) < (l.length : Int)) = false := decide_eq_false (by omega)
        have er : decide (l = k) = true := decide_eq_true (List.ext_getElem hne fun j h1 h2 => hall j h1 h2 (by omega))
        first | refine tr_seq_region (by rw [hE]; rfl) ?_ | (refine Tr.seq ?_; refine tr_seq_region (by rw [hE]; rfl) ?_)
        repeat (refine vc_op rfl ?_; simp only [e1, go_sem, seval])
        refine vc_nil ?_
        first | refine Tr.cond (b := false) rfl (fun h => by cases h) (fun _ => ?_) | refine Tr.seq (Tr.cond (b := false) rfl (fun h => by cases h) (fun _ => ?_))
        refine Tr.exit ?_
        try simp only [blockK, thenK, ↓reduceIte]
        first | refine tr_seq_region (by rw [hE]; rfl) ?_ | (refine Tr.seq ?_; refine tr_seq_region (by rw [hE]; rfl) ?_)
        repeat (refine vc_op rfl ?_; simp only [go_sem, seval])
        refine vc_nil ?_
        refine Tr.ret ?_
        simp only [er, Tryd.f11, go_sem, seval]
  · have e0 : ((l.length : Int) != (k.length : Int)) = true := by rw [int_bne, decide_eq_false (by omega)]; rfl
    have er : decide (l = k) = false := decide_eq_false fun h => hne (by rw [h])
    first | apply tr_m (by rw [hE]; rfl) | (refine Tr.seq ?_; apply tr_m (by rw [hE]; rfl))
    intro Q hQ
    simp only [go_sem, seval]
    iterate 5 ((refine vm_op ?_); intro r hr; simp only [List.length_map, e0, go_sem, seval]; subst hr)
    exact hQ
    first | refine Tr.cond (b := true) rfl (fun _ => ?_) (fun h => by cases h) | refine Tr.seq (Tr.cond (b := true) rfl (fun _ => ?_) (fun h => by cases h))
    first | refine tr_seq_region (by rw [hE]; rfl) ?_ | (refine Tr.seq ?_; refine tr_seq_region (by rw [hE]; rfl) ?_)
    repeat (refine vc_op rfl ?_; simp only [go_sem, seval])
    refine vc_nil ?_
    refine Tr.ret ?_
    simp only [er, Tryd.f11, go_sem, seval]

theorem lens_checks (l : List Check) : ∀ z ∈ l.map Check.av, z.len = 33 := fun z hz => by
  obtain ⟨a, _, rfl⟩ := List.mem_map.1 hz
  rfl
theorem cclone_own (l : List Check) (hl : l.length ≤ 100) : Own Tryd.prog 32 [checks l] (.ms 0 33 l.length) [(0, .row 33 (l.map Check.av))] := by
  unfold checks
  refine own_of_tr Tryd.func32 rfl (Nat.le_of_ble_eq_true rfl) rfl fun E hE hP => ?_
  first | refine tr_seq_region (by rw [hE]; rfl) ?_ | (refine Tr.seq ?_; refine tr_seq_region (by rw [hE]; rfl) ?_)
  repeat (refine vc_op rfl ?_; simp only [go_sem, seval])
  refine vc_nil ?_
  first | refine tr_seq_region (by rw [hE]; rfl) ?_ | (refine Tr.seq ?_; refine tr_seq_region (by rw [hE]; rfl) ?_)
  repeat (refine vc_op rfl ?_; simp only [go_sem, seval])
  refine ⟨fun hz c => ?_, fun hz => ?_⟩
  · have hz' : l = [] := List.eq_nil_of_length_eq_zero hz
    subst hz'
    refine vc_nil ?_
    refine Tr.cond rfl (fun hc => ?_) (fun hc => ?_)
    · first | refine tr_seq_region (by rw [hE]; rfl) ?_ | (refine Tr.seq ?_; refine tr_seq_region (by rw [hE]; rfl) ?_)
      repeat (refine vc_op rfl ?_; simp only [go_sem, seval])
      refine vc_nil ?_
      refine Tr.wk (Wk.nil 2 33 rfl) ?_
      refine Tr.ret ?_
      simp only [Tryd.f32, go_sem, seval]
      exact ⟨fun n => 64 + n, rfl, ⟨⟨rfl, rfl, rfl⟩, trivial⟩, rfl⟩
    · refine Tr.skip ?_
      simp only [thenK]
      first | refine tr_seq_region (by rw [hE]; rfl) ?_ | (refine Tr.seq ?_; refine tr_seq_region (by rw [hE]; rfl) ?_)
      repeat (refine vc_op rfl ?_; simp only [go_sem, seval])
      refine vc_nil ?_
      refine Tr.ret ?_
      simp only [Tryd.f32, go_sem, seval]
      exact ⟨fun n => 80 + n, rfl, ⟨⟨rfl, rfl, rfl⟩, trivial⟩, rfl⟩
  · refine vc_nil ?_
    refine Tr.cond rfl (fun hc => by cases hc) (fun hc => ?_)
    refine Tr.skip ?_
    simp only [thenK]
    first | refine tr_seq_region (by rw [hE]; rfl) ?_ | (refine Tr.seq ?_; refine tr_seq_region (by rw [hE]; rfl) ?_)
    repeat (refine vc_op rfl ?_; simp only [go_sem, seval])
    refine ⟨lens_checks l, by omega, by omega, .inl trivial, ?_⟩
    repeat (refine vc_op rfl ?_; simp only [go_sem, seval])
    refine vc_nil ?_
    refine Tr.ret ?_
    simp only [Tryd.f32, go_sem, seval]
    exact ⟨fun n => 80 + n, rfl, ⟨⟨rfl, rfl, rfl⟩, trivial⟩, rfl⟩

end Go.Proofs.YtdlejnafhmpobaaDoor

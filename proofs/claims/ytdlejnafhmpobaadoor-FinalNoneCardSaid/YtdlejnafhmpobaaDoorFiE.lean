/- Two thirds, and one third, of numbers. -/
import Derived.Test.YtdlejnafhmpobaaDoorFiD
set_option linter.unusedSimpArgs false
set_option maxRecDepth 10000
namespace Go.Proofs.YtdlejnafhmpobaaDoor
open Go Go.Ab

theorem nmost_pure (a b : Nat) (ha : a < 1152921504606846976) (hb : b < 1152921504606846976) : Pure Tryd.prog 82 [.int .u64 a, .int .u64 b] (.bool (decide (2 * b ≤ 3 * a))) := by
  have h1 := times_pure a 3 ha (by omega)
  have h2 := times_pure b 2 hb (by omega)
  have h3 := least_pure ((a * 3 : Nat) : Int) ((b * 2 : Nat) : Int)
  have er : decide (2 * b ≤ 3 * a) = decide (((b * 2 : Nat) : Int) ≤ ((a * 3 : Nat) : Int)) := decide_eq_decide.2 (by omega)
  rw [er]
  generalize ((a * 3 : Nat) : Int) = p at h1 h3 ⊢
  generalize ((b * 2 : Nat) : Int) = q at h2 h3 ⊢
  refine pure_of_tr Tryd.func82 rfl (Nat.le_of_ble_eq_true rfl) rfl fun E hE hP => ?_
  first | refine tr_seq_region (by rw [hE]; rfl) ?_ | (refine Tr.seq ?_; refine tr_seq_region (by rw [hE]; rfl) ?_)
  repeat (refine vc_op rfl ?_; simp only [go_sem, seval])
  refine vc_nil ?_
  first | apply tr_m (by rw [hE]; rfl) | (refine Tr.seq ?_; apply tr_m (by rw [hE]; rfl))
  intro Q hQ
  simp only [List.toList_toArray, List.map_cons, List.map_nil, mo, guardSlot, Option.map_some, Option.map_none, List.getElem?_toArray, List.getElem?_cons_succ, List.getElem?_cons_zero, Option.bind_some]
  (refine vm_op ?_); intro r hr; simp only [go_sem, seval]; subst hr
  (refine vm_op ?_); intro r hr; simp only [go_sem, seval]
  refine call_fn rfl rfl rfl rfl (enters_of Tryd.func76 (by kernel_rfl) rfl) (h1) rfl rfl rfl ?_
  simp only [go_sem, seval]
  subst hr
  (refine vm_op ?_); intro r hr; simp only [go_sem, seval]; subst hr
  (refine vm_op ?_); intro r hr; simp only [go_sem, seval]
  refine call_fn rfl rfl rfl rfl (enters_of Tryd.func76 (by kernel_rfl) rfl) (h2) rfl rfl rfl ?_
  simp only [go_sem, seval]
  subst hr
  (refine vm_op ?_); intro r hr; simp only [go_sem, seval]
  refine call_fn rfl rfl rfl rfl (enters_of Tryd.func77 (by kernel_rfl) rfl) (h3) rfl rfl rfl ?_
  simp only [go_sem, seval]
  subst hr
  (refine vm_op ?_); intro r hr; simp only [go_sem, seval]; subst hr
  exact hQ
  refine Tr.ret ?_
  simp only [Tryd.f82, go_sem, seval]
theorem nsome_pure (a b : Nat) (ha : a < 1152921504606846976) : Pure Tryd.prog 53 [.int .u64 a, .int .u64 b] (.bool (decide (b ≤ 3 * a))) := by
  have h1 := times_pure a 3 ha (by omega)
  have h3 := least_pure ((a * 3 : Nat) : Int) (b : Int)
  have er : decide (b ≤ 3 * a) = decide ((b : Int) ≤ ((a * 3 : Nat) : Int)) := decide_eq_decide.2 (by omega)
  rw [er]
  generalize ((a * 3 : Nat) : Int) = p at h1 h3 ⊢
  generalize (b : Int) = q at h3 ⊢
  refine pure_of_tr Tryd.func53 rfl (Nat.le_of_ble_eq_true rfl) rfl fun E hE hP => ?_
  first | refine tr_seq_region (by rw [hE]; rfl) ?_ | (refine Tr.seq ?_; refine tr_seq_region (by rw [hE]; rfl) ?_)
  repeat (refine vc_op rfl ?_; simp only [go_sem, seval])
  refine vc_nil ?_
  first | apply tr_m (by rw [hE]; rfl) | (refine Tr.seq ?_; apply tr_m (by rw [hE]; rfl))
  intro Q hQ
  simp only [List.toList_toArray, List.map_cons, List.map_nil, mo, guardSlot, Option.map_some, Option.map_none, List.getElem?_toArray, List.getElem?_cons_succ, List.getElem?_cons_zero, Option.bind_some]
  (refine vm_op ?_); intro r hr; simp only [go_sem, seval]; subst hr
  (refine vm_op ?_); intro r hr; simp only [go_sem, seval]
  refine call_fn rfl rfl rfl rfl (enters_of Tryd.func76 (by kernel_rfl) rfl) (h1) rfl rfl rfl ?_
  simp only [go_sem, seval]
  subst hr
  iterate 2 ((refine vm_op ?_); intro r hr; simp only [go_sem, seval]; subst hr)
  (refine vm_op ?_); intro r hr; simp only [go_sem, seval]
  refine call_fn rfl rfl rfl rfl (enters_of Tryd.func77 (by kernel_rfl) rfl) (h3) rfl rfl rfl ?_
  simp only [go_sem, seval]
  subst hr
  (refine vm_op ?_); intro r hr; simp only [go_sem, seval]; subst hr
  exact hQ
  refine Tr.ret ?_
  simp only [Tryd.f53, go_sem, seval]

theorem n3 : (¬ (3 : Int) = 0) = True := by simp
theorem need_pure (w : Nat) (hw : w < 1152921504606846976) : Pure Tryd.prog 96 [.int .u64 w] (.int .u64 ((2 * w + 2) / 3 : Nat)) := by
  have q1 : IntKind.u64.wrap ((w : Int).tdiv 3) = ((w / 3 : Nat) : Int) := by
    have e : (w : Int).tdiv 3 = ((w / 3 : Nat) : Int) := rfl
    rw [e]; exact wrapU (by omega)
  have q2 : IntKind.u64.wrap (2 * ((w / 3 : Nat) : Int)) = ((2 * (w / 3) : Nat) : Int) := by
    have e : 2 * ((w / 3 : Nat) : Int) = ((2 * (w / 3) : Nat) : Int) := by omega
    rw [e]; exact wrapU (by omega)
  have q3 : (w : Int).tmod 3 = ((w % 3 : Nat) : Int) := rfl
  obtain ⟨p, hp⟩ : ∃ p : Nat, 2 * (w / 3) = p := ⟨_, rfl⟩
  obtain ⟨d, hd⟩ : ∃ d : Nat, w / 3 = d := ⟨_, rfl⟩
  obtain ⟨m, hm⟩ : ∃ m : Nat, w % 3 = m := ⟨_, rfl⟩
  have hm3 : m < 3 := by omega
  by_cases h1 : m = 1
  · have er : (2 * w + 2) / 3 = p + 1 := by omega
    have e1 : ((m : Int) == 1) = true := by rw [int_beq]; exact decide_eq_true (by omega)
    have q4 : IntKind.u64.wrap ((p : Int) + 1) = ((p + 1 : Nat) : Int) := wrapU (n := p + 1) (by omega)
    rw [hp, hd] at q2
    rw [hd] at q1
    rw [hm] at q3
    rw [er]
    clear hw hp hd hm er
    refine pure_of_tr Tryd.func96 rfl (Nat.le_of_ble_eq_true rfl) rfl fun E hE hP => ?_
    first | refine tr_seq_region (by rw [hE]; rfl) ?_ | (refine Tr.seq ?_; refine tr_seq_region (by rw [hE]; rfl) ?_)
    repeat (refine vc_op rfl ?_; simp only [go_sem, seval])
    refine vc_nil ?_
    first | refine tr_seq_region (by rw [hE]; rfl) ?_ | (refine Tr.seq ?_; refine tr_seq_region (by rw [hE]; rfl) ?_)
    repeat (refine vc_op rfl ?_; simp only [n3, q1, q2, go_sem, seval])
    refine vc_nil ?_
    first | refine tr_seq_region (by rw [hE]; rfl) ?_ | (refine Tr.seq ?_; refine tr_seq_region (by rw [hE]; rfl) ?_)
    repeat (refine vc_op rfl ?_; simp only [n3, q3, e1, go_sem, seval])
    refine vc_nil ?_
    first | refine Tr.cond (b := true) rfl (fun _ => ?_) (fun h => by cases h) | refine Tr.seq (Tr.cond (b := true) rfl (fun _ => ?_) (fun h => by cases h))
    first | refine tr_seq_region (by rw [hE]; rfl) ?_ | (refine Tr.seq ?_; refine tr_seq_region (by rw [hE]; rfl) ?_)
    repeat (refine vc_op rfl ?_; simp only [q4, go_sem, seval])
    refine vc_nil ?_
    refine Tr.ret ?_
    simp only [Tryd.f96, go_sem, seval]
  · have e1 : ((m : Int) == 1) = false := by rw [int_beq]; exact decide_eq_false (by omega)
    by_cases h2 : m = 2
    · have er : (2 * w + 2) / 3 = p + 2 := by omega
      have e2 : ((m : Int) == 2) = true := by rw [int_beq]; exact decide_eq_true (by omega)
      have q4 : IntKind.u64.wrap ((p : Int) + 2) = ((p + 2 : Nat) : Int) := wrapU (n := p + 2) (by omega)
      rw [hp, hd] at q2
      rw [hd] at q1
      rw [hm] at q3
      rw [er]
      clear hw hp hd hm er
      refine pure_of_tr Tryd.func96 rfl (Nat.le_of_ble_eq_true rfl) rfl fun E hE hP => ?_
      first | refine tr_seq_region (by rw [hE]; rfl) ?_ | (refine Tr.seq ?_; refine tr_seq_region (by rw [hE]; rfl) ?_)
      repeat (refine vc_op rfl ?_; simp only [go_sem, seval])
      refine vc_nil ?_
      first | refine tr_seq_region (by rw [hE]; rfl) ?_ | (refine Tr.seq ?_; refine tr_seq_region (by rw [hE]; rfl) ?_)
      repeat (refine vc_op rfl ?_; simp only [n3, q1, q2, go_sem, seval])
      refine vc_nil ?_
      first | refine tr_seq_region (by rw [hE]; rfl) ?_ | (refine Tr.seq ?_; refine tr_seq_region (by rw [hE]; rfl) ?_)
      repeat (refine vc_op rfl ?_; simp only [n3, q3, e1, go_sem, seval])
      refine vc_nil ?_
      first | refine Tr.cond rfl (fun h => by cases h) (fun _ => ?_) | refine Tr.seq (Tr.cond rfl (fun h => by cases h) (fun _ => ?_))
      refine Tr.skip ?_
      try simp only [blockK, thenK, ↓reduceIte]
      first | refine tr_seq_region (by rw [hE]; rfl) ?_ | (refine Tr.seq ?_; refine tr_seq_region (by rw [hE]; rfl) ?_)
      repeat (refine vc_op rfl ?_; simp only [n3, q3, e2, go_sem, seval])
      refine vc_nil ?_
      first | refine Tr.cond (b := true) rfl (fun _ => ?_) (fun h => by cases h) | refine Tr.seq (Tr.cond (b := true) rfl (fun _ => ?_) (fun h => by cases h))
      first | refine tr_seq_region (by rw [hE]; rfl) ?_ | (refine Tr.seq ?_; refine tr_seq_region (by rw [hE]; rfl) ?_)
      repeat (refine vc_op rfl ?_; simp only [q4, go_sem, seval])
      refine vc_nil ?_
      refine Tr.ret ?_
      simp only [Tryd.f96, go_sem, seval]
    · have er : (2 * w + 2) / 3 = p := by omega
      have e2 : ((m : Int) == 2) = false := by rw [int_beq]; exact decide_eq_false (by omega)
      rw [hp, hd] at q2
      rw [hd] at q1
      rw [hm] at q3
      rw [er]
      clear hw hp hd hm er
      refine pure_of_tr Tryd.func96 rfl (Nat.le_of_ble_eq_true rfl) rfl fun E hE hP => ?_
      first | refine tr_seq_region (by rw [hE]; rfl) ?_ | (refine Tr.seq ?_; refine tr_seq_region (by rw [hE]; rfl) ?_)
      repeat (refine vc_op rfl ?_; simp only [go_sem, seval])
      refine vc_nil ?_
      first | refine tr_seq_region (by rw [hE]; rfl) ?_ | (refine Tr.seq ?_; refine tr_seq_region (by rw [hE]; rfl) ?_)
      repeat (refine vc_op rfl ?_; simp only [n3, q1, q2, go_sem, seval])
      refine vc_nil ?_
      first | refine tr_seq_region (by rw [hE]; rfl) ?_ | (refine Tr.seq ?_; refine tr_seq_region (by rw [hE]; rfl) ?_)
      repeat (refine vc_op rfl ?_; simp only [n3, q3, e1, go_sem, seval])
      refine vc_nil ?_
      first | refine Tr.cond rfl (fun h => by cases h) (fun _ => ?_) | refine Tr.seq (Tr.cond rfl (fun h => by cases h) (fun _ => ?_))
      refine Tr.skip ?_
      try simp only [blockK, thenK, ↓reduceIte]
      first | refine tr_seq_region (by rw [hE]; rfl) ?_ | (refine Tr.seq ?_; refine tr_seq_region (by rw [hE]; rfl) ?_)
      repeat (refine vc_op rfl ?_; simp only [n3, q3, e2, go_sem, seval])
      refine vc_nil ?_
      first | refine Tr.cond rfl (fun h => by cases h) (fun _ => ?_) | refine Tr.seq (Tr.cond rfl (fun h => by cases h) (fun _ => ?_))
      refine Tr.skip ?_
      try simp only [blockK, thenK, ↓reduceIte]
      first | refine tr_seq_region (by rw [hE]; rfl) ?_ | (refine Tr.seq ?_; refine tr_seq_region (by rw [hE]; rfl) ?_)
      repeat (refine vc_op rfl ?_; simp only [go_sem, seval])
      refine vc_nil ?_
      refine Tr.ret ?_
      simp only [Tryd.f96, go_sem, seval]
theorem refnmost_pure (a b : Nat) (hb : b < 1152921504606846976) : Pure Tryd.prog 84 [.int .u64 a, .int .u64 b] (.bool (decide (2 * b ≤ 3 * a))) := by
  have h1 := need_pure b hb
  have er : decide (2 * b ≤ 3 * a) = decide ((((2 * b + 2) / 3 : Nat) : Int) ≤ (a : Int)) := decide_eq_decide.2 (by omega)
  rw [er]
  generalize (((2 * b + 2) / 3 : Nat) : Int) = p at h1 ⊢
  refine pure_of_tr Tryd.func84 rfl (Nat.le_of_ble_eq_true rfl) rfl fun E hE hP => ?_
  first | refine tr_seq_region (by rw [hE]; rfl) ?_ | (refine Tr.seq ?_; refine tr_seq_region (by rw [hE]; rfl) ?_)
  repeat (refine vc_op rfl ?_; simp only [go_sem, seval])
  refine vc_nil ?_
  first | apply tr_m (by rw [hE]; rfl) | (refine Tr.seq ?_; apply tr_m (by rw [hE]; rfl))
  intro Q hQ
  simp only [List.toList_toArray, List.map_cons, List.map_nil, mo, guardSlot, Option.map_some, Option.map_none, List.getElem?_toArray, List.getElem?_cons_succ, List.getElem?_cons_zero, Option.bind_some]
  iterate 2 ((refine vm_op ?_); intro r hr; simp only [go_sem, seval]; subst hr)
  (refine vm_op ?_); intro r hr; simp only [go_sem, seval]
  refine call_fn rfl rfl rfl rfl (enters_of Tryd.func96 (by kernel_rfl) rfl) (h1) rfl rfl rfl ?_
  simp only [go_sem, seval]
  subst hr
  iterate 2 ((refine vm_op ?_); intro r hr; simp only [go_sem, seval]; subst hr)
  exact hQ
  refine Tr.ret ?_
  simp only [Tryd.f84, go_sem, seval]

/- The reference of layer 15: may links be, and one more attests. -/
import Derived.Test.YtdlejnafhmpobaaDoorFkQ
set_option linter.unusedSimpArgs false
set_option maxRecDepth 10000
namespace Go.Proofs.YtdlejnafhmpobaaDoor
open Go Go.Ab

def st18o (l : List Link) (i : Nat) : S where
  fr := [(3, .int .i64 i), (0, .sl (l.map Link.av) false)]
  hp := []
  nx := 0
def st18i (l : List Link) (i j : Nat) : S where
  fr := [(4, .int .i64 j), (3, .int .i64 i), (0, .sl (l.map Link.av) false)]
  hp := []
  nx := 0

theorem may_odd {l : List Link} {i : Nat} (h : i < l.length) (ho : odd l[i] = true) : lmayB l = false := by
  rw [Bool.eq_false_iff]
  intro hm
  rw [(may_spec hm).2.1 _ (List.getElem_mem h)] at ho
  cases ho
theorem may_twice {l : List Link} {i j : Nat} (hi : i < l.length) (hj : j < i) (hk : keyOf l[i] = keyOf (l[j]'(by omega))) : lmayB l = false := by
  rw [Bool.eq_false_iff]
  intro hm
  exact keys_apart l.length (Nat.le_refl _) (may_spec hm).2.2 j i (l[j]'(by omega)) l[i] hj hi (by simp) (by simp) hk.symm

theorem RLMay_pure (l : List Link) (hl : l.length ≤ 100) (hmask : ∀ a ∈ l, 0 ≤ a.mask) : Pure Tryd.prog 61 [links l] (.bool (lmayB l)) := by
  unfold links
  refine pure_of_tr Tryd.func61 rfl (Nat.le_of_ble_eq_true rfl) rfl fun E hE hP => ?_
  first | refine tr_seq_region (by rw [hE]; rfl) ?_ | (refine Tr.seq ?_; refine tr_seq_region (by rw [hE]; rfl) ?_)
  repeat (refine vc_op rfl ?_; simp only [go_sem, seval])
  refine vc_nil ?_
  refine Tr.seq ?_
  first | refine tr_seq_region (by rw [hE]; rfl) ?_ | (refine Tr.seq ?_; refine tr_seq_region (by rw [hE]; rfl) ?_)
  repeat (refine vc_op rfl ?_; simp only [go_sem, seval])
  refine vc_nil ?_
  refine Tr.block ?_
  refine Tr.loop (st18o l) (fun i => i ≤ l.length ∧ (∀ (j : Nat) (hj : j < l.length), j < i → odd l[j] = false) ∧ ∀ (j m : Nat) (hj : j < l.length) (hm : m < j), j < i → keyOf l[j] ≠ keyOf (l[m]'(by omega))) (fun i => l.length - i) 0 ⟨Nat.zero_le _, fun _ _ h => by omega, fun _ _ _ _ h => by omega⟩ ?_ ?_
  · refine wk_ren (fun n => n) ?_ ?_ rfl rfl rfl
    · repeat' (first | exact rfl | exact trivial | constructor)
    · repeat' (first | exact rfl | exact trivial | constructor)
  · intro i ⟨hi, hbo, hbk⟩
    unfold st18o
    refine Tr.seq ?_
    first | refine tr_seq_region (by rw [hE]; rfl) ?_ | (refine Tr.seq ?_; refine tr_seq_region (by rw [hE]; rfl) ?_)
    repeat (refine vc_op rfl ?_; simp only [go_sem, seval])
    refine vc_nil ?_
    refine Tr.cond rfl (fun h1 => ?_) (fun h1 => ?_)
    · refine Tr.skip ?_
      try simp only [blockK, thenK, ↓reduceIte]
      have hlt : i < l.length := by have := of_decide_eq_true h1; omega
      have ha := nth_map_lt Link.av l i hlt
      have hbad' := may_odd hlt
      have htw := fun j => may_twice (j := j) hlt
      have hm0 := hmask l[i] (List.getElem_mem hlt)
      generalize hla : l[i] = a at ha hbad' hm0 htw
      have hw := wrap_next (n := i) (by omega)
      refine Tr.seq ?_
      refine Tr.block ?_
      refine Tr.seq ?_
      by_cases c1 : a.t.epoch ≤ a.s.epoch
      · have e1 : decide (a.t.epoch ≤ a.s.epoch) = true := decide_eq_true c1
        have e2 : True := trivial
        have e3 : True := trivial
        have hbad := hbad' (by simp [odd, c1])
        first | apply tr_md mixed [] rfl (by rw [hE]; rfl) (by kernel_rfl) | (refine Tr.seq ?_; apply tr_md mixed [] rfl (by rw [hE]; rfl) (by kernel_rfl))
        intro Q hQ
        simp only [List.toList_toArray, List.map_cons, List.map_nil, mo, guardSlot, Option.map_some, Option.map_none, List.getElem?_toArray, List.getElem?_cons_succ, List.getElem?_cons_zero, Option.bind_some]
        iterate 14 ((refine vd2_q rfl ?_); intro r hr; simp only [ha, e1, go_sem, seval]; subst hr)
        iterate 6 ((first | refine vd2_goq rfl rfl ?_ | refine vd2_no rfl ?_ | refine vd2_skip rfl ?_); intro r hr; simp only [ha, e1, go_sem, seval]; subst hr)
        iterate 2 ((refine vd2_q rfl ?_); intro r hr; simp only [ha, e1, go_sem, seval]; subst hr)
        iterate 6 ((first | refine vd2_goq rfl rfl ?_ | refine vd2_no rfl ?_ | refine vd2_skip rfl ?_); intro r hr; simp only [ha, e1, go_sem, seval]; subst hr)
        (refine vd2_q rfl ?_); intro r hr; simp only [ha, e1, go_sem, seval]; subst hr
        exact hQ
        refine Tr.cond rfl (fun h => ?_) (fun h => by cases h)
        first | refine tr_seq_region (by rw [hE]; rfl) ?_ | (refine Tr.seq ?_; refine tr_seq_region (by rw [hE]; rfl) ?_)
        repeat (refine vc_op rfl ?_; simp only [go_sem, seval])
        refine vc_nil ?_
        refine Tr.ret ?_
        simp only [hbad, Tryd.f61, go_sem, seval]
      · have e1 : decide (a.t.epoch ≤ a.s.epoch) = false := decide_eq_false c1
        by_cases c2 : a.mask < 1
        · have e2 : decide (a.mask < 1) = true := decide_eq_true c2
          have hbad := hbad' (by simp [odd]; omega)
          first | apply tr_md mixed [] rfl (by rw [hE]; rfl) (by kernel_rfl) | (refine Tr.seq ?_; apply tr_md mixed [] rfl (by rw [hE]; rfl) (by kernel_rfl))
          intro Q hQ
          simp only [List.toList_toArray, List.map_cons, List.map_nil, mo, guardSlot, Option.map_some, Option.map_none, List.getElem?_toArray, List.getElem?_cons_succ, List.getElem?_cons_zero, Option.bind_some]
          iterate 14 ((refine vd2_q rfl ?_); intro r hr; simp only [ha, e1, e2, go_sem, seval]; subst hr)
          iterate 6 ((first | refine vd2_goq rfl rfl ?_ | refine vd2_no rfl ?_ | refine vd2_skip rfl ?_); intro r hr; simp only [ha, e1, e2, go_sem, seval]; subst hr)
          iterate 2 ((refine vd2_q rfl ?_); intro r hr; simp only [ha, e1, e2, go_sem, seval]; subst hr)
          iterate 6 ((first | refine vd2_goq rfl rfl ?_ | refine vd2_no rfl ?_ | refine vd2_skip rfl ?_); intro r hr; simp only [ha, e1, e2, go_sem, seval]; subst hr)
          (refine vd2_q rfl ?_); intro r hr; simp only [ha, e1, e2, go_sem, seval]; subst hr
          exact hQ
          refine Tr.cond rfl (fun h => ?_) (fun h => by cases h)
          first | refine tr_seq_region (by rw [hE]; rfl) ?_ | (refine Tr.seq ?_; refine tr_seq_region (by rw [hE]; rfl) ?_)
          repeat (refine vc_op rfl ?_; simp only [go_sem, seval])
          refine vc_nil ?_
          refine Tr.ret ?_
          simp only [hbad, Tryd.f61, go_sem, seval]
        · have e2 : decide (a.mask < 1) = false := decide_eq_false c2
          by_cases c3 : 255 < a.mask
          · have e3 : decide (255 < a.mask) = true := decide_eq_true c3
            have hbad := hbad' (by simp [odd]; omega)
            first | apply tr_md mixed [] rfl (by rw [hE]; rfl) (by kernel_rfl) | (refine Tr.seq ?_; apply tr_md mixed [] rfl (by rw [hE]; rfl) (by kernel_rfl))
            intro Q hQ
            simp only [List.toList_toArray, List.map_cons, List.map_nil, mo, guardSlot, Option.map_some, Option.map_none, List.getElem?_toArray, List.getElem?_cons_succ, List.getElem?_cons_zero, Option.bind_some]
            iterate 14 ((refine vd2_q rfl ?_); intro r hr; simp only [ha, e1, e2, e3, go_sem, seval]; subst hr)
            iterate 6 ((first | refine vd2_goq rfl rfl ?_ | refine vd2_no rfl ?_ | refine vd2_skip rfl ?_); intro r hr; simp only [ha, e1, e2, e3, go_sem, seval]; subst hr)
            iterate 2 ((refine vd2_q rfl ?_); intro r hr; simp only [ha, e1, e2, e3, go_sem, seval]; subst hr)
            iterate 6 ((first | refine vd2_goq rfl rfl ?_ | refine vd2_no rfl ?_ | refine vd2_skip rfl ?_); intro r hr; simp only [ha, e1, e2, e3, go_sem, seval]; subst hr)
            (refine vd2_q rfl ?_); intro r hr; simp only [ha, e1, e2, e3, go_sem, seval]; subst hr
            exact hQ
            refine Tr.cond rfl (fun h => ?_) (fun h => by cases h)
            first | refine tr_seq_region (by rw [hE]; rfl) ?_ | (refine Tr.seq ?_; refine tr_seq_region (by rw [hE]; rfl) ?_)
            repeat (refine vc_op rfl ?_; simp only [go_sem, seval])
            refine vc_nil ?_
            refine Tr.ret ?_
            simp only [hbad, Tryd.f61, go_sem, seval]
          · have e3 : decide (255 < a.mask) = false := decide_eq_false c3
            have hgood : odd a = false := by rw [odd_false]; omega
            first | apply tr_md mixed [] rfl (by rw [hE]; rfl) (by kernel_rfl) | (refine Tr.seq ?_; apply tr_md mixed [] rfl (by rw [hE]; rfl) (by kernel_rfl))
            intro Q hQ
            simp only [List.toList_toArray, List.map_cons, List.map_nil, mo, guardSlot, Option.map_some, Option.map_none, List.getElem?_toArray, List.getElem?_cons_succ, List.getElem?_cons_zero, Option.bind_some]
            iterate 14 ((refine vd2_q rfl ?_); intro r hr; simp only [ha, e1, e2, e3, go_sem, seval]; subst hr)
            iterate 6 ((first | refine vd2_goq rfl rfl ?_ | refine vd2_no rfl ?_ | refine vd2_skip rfl ?_); intro r hr; simp only [ha, e1, e2, e3, go_sem, seval]; subst hr)
            iterate 2 ((refine vd2_q rfl ?_); intro r hr; simp only [ha, e1, e2, e3, go_sem, seval]; subst hr)
            iterate 6 ((first | refine vd2_goq rfl rfl ?_ | refine vd2_no rfl ?_ | refine vd2_skip rfl ?_); intro r hr; simp only [ha, e1, e2, e3, go_sem, seval]; subst hr)
            (refine vd2_q rfl ?_); intro r hr; simp only [ha, e1, e2, e3, go_sem, seval]; subst hr
            exact hQ
            refine Tr.cond rfl (fun h => by cases h) (fun h => ?_)
            refine Tr.skip ?_
            try simp only [blockK, thenK, ↓reduceIte]
            first | refine tr_seq_region (by rw [hE]; rfl) ?_ | (refine Tr.seq ?_; refine tr_seq_region (by rw [hE]; rfl) ?_)
            repeat (refine vc_op rfl ?_; simp only [go_sem, seval])
            refine vc_nil ?_
            refine Tr.block ?_
            refine Tr.loop (st18i l i) (fun j => j ≤ i ∧ ∀ (m : Nat) (hm : m < l.length), m < j → keyOf a ≠ keyOf l[m]) (fun j => i - j) 0 ⟨Nat.zero_le _, fun _ _ h => by omega⟩ ?_ ?_
            · refine wk_ren (fun n => n) ?_ ?_ rfl rfl rfl
              · repeat' (first | exact rfl | exact trivial | constructor)
              · repeat' (first | exact rfl | exact trivial | constructor)
            · intro j ⟨hj, hbj⟩
              unfold st18i
              refine Tr.seq ?_
              first | refine tr_seq_region (by rw [hE]; rfl) ?_ | (refine Tr.seq ?_; refine tr_seq_region (by rw [hE]; rfl) ?_)
              repeat (refine vc_op rfl ?_; simp only [go_sem, seval])
              refine vc_nil ?_
              refine Tr.cond rfl (fun h2 => ?_) (fun h2 => ?_)
              · refine Tr.skip ?_
                try simp only [blockK, thenK, ↓reduceIte]
                have hji : j < i := by have := of_decide_eq_true h2; omega
                have hjt : j < l.length := by omega
                have hb := nth_map_lt Link.av l j hjt
                have htwj := htw j hji
                generalize hlb : l[j] = b at hb htwj
                have hw2 := wrap_next (n := j) (by omega)
                refine Tr.seq ?_
                refine Tr.block ?_
                first | refine tr_seq_drawn mixed [] rfl (by rw [hE]; rfl) (by kernel_rfl) ?_ | (refine Tr.seq ?_; refine tr_seq_drawn mixed [] rfl (by rw [hE]; rfl) (by kernel_rfl) ?_)
                repeat (first | (refine vd_q rfl rfl ?_; simp only [ha, hb, go_sem, seval]) | (refine vd_x rfl rfl ?_; simp only [ha, hb, go_sem, seval]) | (refine vd_goq rfl rfl rfl rfl ?_; simp only [ha, hb, go_sem, seval]) | (refine vd_gox rfl rfl rfl rfl ?_; simp only [ha, hb, go_sem, seval]) | (refine vd_no rfl rfl rfl ?_; simp only [ha, hb, go_sem, seval]) | (refine vd_skip rfl rfl rfl ?_; simp only [ha, hb, go_sem, seval]))
                refine call_fn rfl rfl rfl rfl (enters_of Tryd.func83 (by kernel_rfl) rfl) (ROne_pure a b) rfl rfl rfl ?_
                simp only [go_sem, seval]
                repeat (first | (refine vd_q rfl rfl ?_; simp only [go_sem, seval]) | (refine vd_x rfl rfl ?_; simp only [go_sem, seval]) | (refine vd_goq rfl rfl rfl rfl ?_; simp only [go_sem, seval]) | (refine vd_gox rfl rfl rfl rfl ?_; simp only [go_sem, seval]) | (refine vd_no rfl rfl rfl ?_; simp only [go_sem, seval]) | (refine vd_skip rfl rfl rfl ?_; simp only [go_sem, seval]))
                refine vd_nil ?_
                first | refine tr_seq_region (by rw [hE]; rfl) ?_ | (refine Tr.seq ?_; refine tr_seq_region (by rw [hE]; rfl) ?_)
                repeat (refine vc_op rfl ?_; simp only [go_sem, seval])
                refine vc_nil ?_
                refine Tr.cond rfl (fun h3 => ?_) (fun h3 => ?_)
                · have hbad := htwj (of_decide_eq_true h3)
                  first | refine tr_seq_region (by rw [hE]; rfl) ?_ | (refine Tr.seq ?_; refine tr_seq_region (by rw [hE]; rfl) ?_)
                  repeat (refine vc_op rfl ?_; simp only [go_sem, seval])
                  refine vc_nil ?_
                  refine Tr.ret ?_
                  simp only [hbad, Tryd.f61, go_sem, seval]
                · have hne := of_decide_eq_false h3
                  refine Tr.skip ?_
                  try simp only [blockK, thenK, ↓reduceIte]
                  refine tr_region (by rw [hE]; rfl) ?_
                  repeat (refine vc_op rfl ?_; simp only [hw2, go_sem, seval])
                  refine vc_nil ?_
                  try simp only [blockK, thenK, ↓reduceIte]
                  refine ⟨j + 1, ⟨hji, fun m hm hmj => ?_⟩, by omega, ?_⟩
                  · by_cases h : m = j
                    · subst h; rw [hlb]; exact hne
                    · exact hbj m hm (by omega)
                  · refine wk_ren (fun n => n) ?_ ?_ rfl rfl rfl
                    · repeat' (first | exact rfl | exact trivial | constructor)
                    · repeat' (first | exact rfl | exact trivial | constructor)
              · refine Tr.exit ?_
                try simp only [blockK, thenK, ↓reduceIte]
                have hjl : j = i := by
                  have := of_decide_eq_false h2
                  omega
                subst hjl
                refine tr_region (by rw [hE]; rfl) ?_
                repeat (refine vc_op rfl ?_; simp only [hw, go_sem, seval])
                refine vc_nil ?_
                try simp only [blockK, thenK, ↓reduceIte]
                refine ⟨j + 1, ⟨hlt, fun m hm hmj => ?_, fun m m' hm hm' hmj => ?_⟩, by omega, ?_⟩
                · by_cases h : m = j
                  · subst h; rw [hla]; exact hgood
                  · exact hbo m hm (by omega)
                · by_cases h : m = j
                  · subst h; rw [hla]; exact hbj m' (by omega) hm'
                  · exact hbk m m' hm hm' (by omega)
                · refine wk_ren (fun n => n) ?_ ?_ rfl rfl rfl
                  · repeat' (first | exact rfl | exact trivial | constructor)
                  · repeat' (first | exact rfl | exact trivial | constructor)
    · refine Tr.exit ?_
      try simp only [blockK, thenK, ↓reduceIte]
      have hil : i = l.length := by
        have := of_decide_eq_false h1
        omega
      subst hil
      have hpl : (places l).length = l.length := places_len fun x y a b hxy hx hy => by
        have hyl := (List.getElem?_eq_some_iff.1 hy).1
        have e1 : l[x]'(by omega) = a := (List.getElem?_eq_some_iff.1 hx).2
        have e2 : l[y] = b := (List.getElem?_eq_some_iff.1 hy).2
        have := hbk y x hyl hxy hyl
        rw [e1, e2] at this
        exact fun h => this h.symm
      have hodd : l.any odd = false := by
        rw [List.any_eq_false]
        intro a ha
        obtain ⟨j, hj, rfl⟩ := List.mem_iff_getElem.1 ha
        simp [hbo j hj hj]
      have hfin : lmayB l = decide ((l.length : Int) ≤ 16) := by
        simp only [lmayB, hodd, hpl]
        simp
        omega
      first | refine tr_seq_region (by rw [hE]; rfl) ?_ | (refine Tr.seq ?_; refine tr_seq_region (by rw [hE]; rfl) ?_)
      repeat (refine vc_op rfl ?_; simp only [go_sem, seval])
      refine vc_nil ?_
      refine Tr.ret ?_
      simp only [hfin, Tryd.f61, go_sem, seval]


/- FinalChain. -/
import Derived.Test.YtdlejnafhmpobaaDoorP5
set_option linter.unusedSimpArgs false
set_option maxRecDepth 10000
namespace Go.Proofs.YtdlejnafhmpobaaDoor
open Go Go.Ab

@[go_sem] theorem beql4 (a b : Bool) (K : AV → Prop) : binK Tryd.prog .eql 4 (.bool a) (.bool b) K = K (.bool (decide (a = b))) :=
  bin_eql_of (fun _ _ h => by cases h) (fun _ h => by cases h) (by kernel_rfl) (by kernel_rfl) (Nat.le_of_ble_eq_true rfl) (by kernel_rfl) (by cases a <;> cases b <;> rfl) K
theorem chain_app (t : List Node) (l : List Check) (c : Check) : chainR t (l ++ [c]) = (chainR t l && l.all (pairB t c)) := by
  have hr : ∀ i, i < l.length → rowB t (l ++ [c]) i = rowB t l i := fun i hi => by
    unfold rowB
    rw [List.take_append_of_le_length (by omega)]
    simp [List.getD_eq_getElem?_getD, List.getElem?_append_left hi]
  have hl : rowB t (l ++ [c]) l.length = l.all (pairB t c) := by
    unfold rowB
    simp [List.getD_eq_getElem?_getD]
  unfold chainR
  rw [List.length_append, List.length_singleton, List.range_succ, List.all_append, List.all_cons, List.all_nil, Bool.and_true, hl, Bool.and_assoc]
  congr 1
  congr 1
  rw [Bool.eq_iff_iff, List.all_eq_true, List.all_eq_true]
  constructor
  · intro h i hi
    rw [← hr i (List.mem_range.1 hi)]; exact h i hi
  · intro h i hi
    rw [hr i (List.mem_range.1 hi)]; exact h i hi
theorem chain_take {t : List Node} {l : List Check} (h : chainR t l = true) (k : Nat) (hk : k ≤ l.length) : chainR t (l.take k) = true := by
  unfold chainR at h ⊢
  rw [Bool.and_eq_true] at h ⊢
  refine ⟨h.1, List.all_eq_true.2 fun i hi => ?_⟩
  have hi := List.mem_range.1 hi
  rw [List.length_take] at hi
  have := List.all_eq_true.1 h.2 i (List.mem_range.2 (by omega))
  unfold rowB at this ⊢
  rw [List.take_take, Nat.min_eq_left (by omega)]
  have e : (l.take k).getD i zCheck = l.getD i zCheck := by
    simp [List.getD_eq_getElem?_getD, List.getElem?_take, show i < k by omega]
  rw [e]
  exact this
theorem chain_one {t : List Node} (h : mayB t = true) (c : Check) : chainR t [c] = true := by
  unfold chainR
  rw [h]
  rfl
def allTo (t : List Node) (l : List Check) (c : Check) (i : Nat) : Bool := chainR t l && (l.take i).all (pairB t c)
theorem allTo_next {t : List Node} {l : List Check} {c : Check} {i : Nat} (h : i < l.length) : allTo t l c (i + 1) = (allTo t l c i && pairB t c l[i]) := by
  unfold allTo
  rw [List.take_add_one, List.getElem?_eq_getElem h, Option.toList_some, List.all_append, Bool.and_assoc]
  simp

def stCh (t : List Node) (l : List Check) (c : Check) (k : Nat) (i : Nat) : S where
  fr := [(4, .ptr 1 [] 0), (7, .ptr 17 [] 0), (11, .bool (chainR t l)), (12, .bool (allTo t l c i)), (13, .int .i64 (findR t c.root)), (14, .int .i64 i), (1, .sl (l.map Check.av) false), (2, .int .i64 k)]
  hp := [(0, .tab 0 tabV), (1, .var (tav t)), (17, .var c.av)]
  nx := 33
theorem FinalChain_T (t : List Node) (l : List Check) (n : Int) (c : Check) : PureT Tryd.prog 0 tabV 7 [tav t, checks l, .int .i64 n, c.av] (.bool true) := by
  have hf := few_pure t [] l
  have hm := may_pure t
  by_cases hs : t.length ≤ 20 ∧ l.length ≤ 20
  · have ef : (decide (t.length ≤ 20) && (decide (([] : List Link).length ≤ 20) && decide (l.length ≤ 20))) = true := by simp [hs.1, hs.2]
    rw [ef] at hf
    cases hmay : mayB t
    · rw [hmay] at hm
      refine eff_of_tr Tryd.func7 rfl (Nat.le_of_ble_eq_true rfl) (by first | rfl | (simp only [AV.idsB, AV.idsBL, Bool.and_true, Bool.true_and] <;> rfl)) fun E hE hP => ?_
      first | apply tr_m (by rw [hE]; rfl) | (refine Tr.seq ?_; apply tr_m (by rw [hE]; rfl))
      intro Q hQ
      simp only [go_sem, seval]
      iterate 3 ((refine vm_op ?_); intro r hr; simp only [go_sem, seval]; subst hr)
      exact hQ
      first | apply tr_m (by rw [hE]; rfl) | (refine Tr.seq ?_; apply tr_m (by rw [hE]; rfl))
      intro Q hQ
      simp only [go_sem, seval]
      (refine vm_op ?_); intro r hr; simp only [go_sem, seval]
      refine call_eff (fun n => n) [] [] rfl rfl rfl rfl (enters_of Tryd.func9 (by kernel_rfl) rfl) (awake_T) rfl rfl (by repeat' (first | exact rfl | exact trivial | constructor)) rfl rfl rfl ?_
      simp only [renH_nil, renH_cons, effR, go_sem, seval]
      subst hr
      (refine vm_op ?_); intro r hr; simp only [go_sem, seval]; subst hr
      exact hQ
      first | apply tr_m (by rw [hE]; rfl) | (refine Tr.seq ?_; apply tr_m (by rw [hE]; rfl))
      intro Q hQ
      simp only [go_sem, seval]
      iterate 2 ((refine vm_op ?_); intro r hr; simp only [go_sem, seval]; subst hr)
      (refine vm_op ?_); intro r hr; simp only [go_sem, seval]
      refine call_fn rfl rfl rfl rfl (enters_of Tryd.func10 (by kernel_rfl) rfl) (hf) rfl rfl rfl ?_
      simp only [go_sem, seval]
      subst hr
      (refine vm_op ?_); intro r hr; simp only [go_sem, seval]; subst hr
      exact hQ
      first | apply tr_m (by rw [hE]; rfl) | (refine Tr.seq ?_; apply tr_m (by rw [hE]; rfl))
      intro Q hQ
      simp only [go_sem, seval]
      iterate 8 ((first | refine vm_op ?_ | refine vm_if rfl ?_ | refine vm_no rfl ?_ | refine vm_skip rfl ?_); intro r hr; simp only [go_sem, seval]; subst hr)
      (refine vm_if rfl ?_); intro r hr; simp only [go_sem, seval]
      refine call_fn rfl rfl rfl rfl (enters_of Tryd.func25 (by kernel_rfl) rfl) (hm) rfl rfl rfl ?_
      simp only [go_sem, seval]
      subst hr
      iterate 12 ((first | refine vm_op ?_ | refine vm_if rfl ?_ | refine vm_no rfl ?_ | refine vm_skip rfl ?_); intro r hr; simp only [go_sem, seval]; subst hr)
      exact hQ
      first | refine Tr.cond (b := true) rfl (fun _ => ?_) (fun h => by cases h) | refine Tr.seq (Tr.cond (b := true) rfl (fun _ => ?_) (fun h => by cases h))
      first | apply tr_m (by rw [hE]; rfl) | (refine Tr.seq ?_; apply tr_m (by rw [hE]; rfl))
      intro Q hQ
      simp only [go_sem, seval]
      iterate 2 ((refine vm_op ?_); intro r hr; simp only [go_sem, seval]; subst hr)
      exact hQ
      refine Tr.ret ?_
      simp only [Tryd.f7, go_sem, seval]
      exact ⟨fun n => n, ⟨⟨rfl, rfl, rfl⟩, trivial⟩, rfl, fun _ _ => rfl⟩
    · rw [hmay] at hm
      by_cases h0 : n < 0
      · have e0 : decide (n < 0) = true := decide_eq_true h0
        refine eff_of_tr Tryd.func7 rfl (Nat.le_of_ble_eq_true rfl) (by first | rfl | (simp only [AV.idsB, AV.idsBL, Bool.and_true, Bool.true_and] <;> rfl)) fun E hE hP => ?_
        first | apply tr_m (by rw [hE]; rfl) | (refine Tr.seq ?_; apply tr_m (by rw [hE]; rfl))
        intro Q hQ
        simp only [go_sem, seval]
        iterate 3 ((refine vm_op ?_); intro r hr; simp only [go_sem, seval]; subst hr)
        exact hQ
        first | apply tr_m (by rw [hE]; rfl) | (refine Tr.seq ?_; apply tr_m (by rw [hE]; rfl))
        intro Q hQ
        simp only [go_sem, seval]
        (refine vm_op ?_); intro r hr; simp only [go_sem, seval]
        refine call_eff (fun n => n) [] [] rfl rfl rfl rfl (enters_of Tryd.func9 (by kernel_rfl) rfl) (awake_T) rfl rfl (by repeat' (first | exact rfl | exact trivial | constructor)) rfl rfl rfl ?_
        simp only [renH_nil, renH_cons, effR, go_sem, seval]
        subst hr
        (refine vm_op ?_); intro r hr; simp only [go_sem, seval]; subst hr
        exact hQ
        first | apply tr_m (by rw [hE]; rfl) | (refine Tr.seq ?_; apply tr_m (by rw [hE]; rfl))
        intro Q hQ
        simp only [go_sem, seval]
        iterate 2 ((refine vm_op ?_); intro r hr; simp only [go_sem, seval]; subst hr)
        (refine vm_op ?_); intro r hr; simp only [go_sem, seval]
        refine call_fn rfl rfl rfl rfl (enters_of Tryd.func10 (by kernel_rfl) rfl) (hf) rfl rfl rfl ?_
        simp only [go_sem, seval]
        subst hr
        (refine vm_op ?_); intro r hr; simp only [go_sem, seval]; subst hr
        exact hQ
        first | apply tr_m (by rw [hE]; rfl) | (refine Tr.seq ?_; apply tr_m (by rw [hE]; rfl))
        intro Q hQ
        simp only [go_sem, seval]
        iterate 8 ((first | refine vm_op ?_ | refine vm_if rfl ?_ | refine vm_no rfl ?_ | refine vm_skip rfl ?_); intro r hr; simp only [e0, go_sem, seval]; subst hr)
        (refine vm_if rfl ?_); intro r hr; simp only [e0, go_sem, seval]
        refine call_fn rfl rfl rfl rfl (enters_of Tryd.func25 (by kernel_rfl) rfl) (hm) rfl rfl rfl ?_
        simp only [go_sem, seval]
        try simp only [e0, go_sem, seval]
        subst hr
        iterate 12 ((first | refine vm_op ?_ | refine vm_if rfl ?_ | refine vm_no rfl ?_ | refine vm_skip rfl ?_); intro r hr; simp only [e0, go_sem, seval]; subst hr)
        exact hQ
        first | refine Tr.cond (b := true) rfl (fun _ => ?_) (fun h => by cases h) | refine Tr.seq (Tr.cond (b := true) rfl (fun _ => ?_) (fun h => by cases h))
        first | apply tr_m (by rw [hE]; rfl) | (refine Tr.seq ?_; apply tr_m (by rw [hE]; rfl))
        intro Q hQ
        simp only [go_sem, seval]
        iterate 2 ((refine vm_op ?_); intro r hr; simp only [go_sem, seval]; subst hr)
        exact hQ
        refine Tr.ret ?_
        simp only [Tryd.f7, go_sem, seval]
        exact ⟨fun n => n, ⟨⟨rfl, rfl, rfl⟩, trivial⟩, rfl, fun _ _ => rfl⟩
      · have e0 : decide (n < 0) = false := decide_eq_false h0
        by_cases h1 : (l.length : Int) < n
        · have e1 : decide ((l.length : Int) < n) = true := decide_eq_true h1
          refine eff_of_tr Tryd.func7 rfl (Nat.le_of_ble_eq_true rfl) (by first | rfl | (simp only [AV.idsB, AV.idsBL, Bool.and_true, Bool.true_and] <;> rfl)) fun E hE hP => ?_
          first | apply tr_m (by rw [hE]; rfl) | (refine Tr.seq ?_; apply tr_m (by rw [hE]; rfl))
          intro Q hQ
          simp only [go_sem, seval]
          iterate 3 ((refine vm_op ?_); intro r hr; simp only [go_sem, seval]; subst hr)
          exact hQ
          first | apply tr_m (by rw [hE]; rfl) | (refine Tr.seq ?_; apply tr_m (by rw [hE]; rfl))
          intro Q hQ
          simp only [go_sem, seval]
          (refine vm_op ?_); intro r hr; simp only [go_sem, seval]
          refine call_eff (fun n => n) [] [] rfl rfl rfl rfl (enters_of Tryd.func9 (by kernel_rfl) rfl) (awake_T) rfl rfl (by repeat' (first | exact rfl | exact trivial | constructor)) rfl rfl rfl ?_
          simp only [renH_nil, renH_cons, effR, go_sem, seval]
          subst hr
          (refine vm_op ?_); intro r hr; simp only [go_sem, seval]; subst hr
          exact hQ
          first | apply tr_m (by rw [hE]; rfl) | (refine Tr.seq ?_; apply tr_m (by rw [hE]; rfl))
          intro Q hQ
          simp only [go_sem, seval]
          iterate 2 ((refine vm_op ?_); intro r hr; simp only [go_sem, seval]; subst hr)
          (refine vm_op ?_); intro r hr; simp only [go_sem, seval]
          refine call_fn rfl rfl rfl rfl (enters_of Tryd.func10 (by kernel_rfl) rfl) (hf) rfl rfl rfl ?_
          simp only [go_sem, seval]
          subst hr
          (refine vm_op ?_); intro r hr; simp only [go_sem, seval]; subst hr
          exact hQ
          first | apply tr_m (by rw [hE]; rfl) | (refine Tr.seq ?_; apply tr_m (by rw [hE]; rfl))
          intro Q hQ
          simp only [go_sem, seval]
          iterate 8 ((first | refine vm_op ?_ | refine vm_if rfl ?_ | refine vm_no rfl ?_ | refine vm_skip rfl ?_); intro r hr; simp only [checks, e0, e1, go_sem, seval]; subst hr)
          (refine vm_if rfl ?_); intro r hr; simp only [checks, e0, e1, go_sem, seval]
          refine call_fn rfl rfl rfl rfl (enters_of Tryd.func25 (by kernel_rfl) rfl) (hm) rfl rfl rfl ?_
          simp only [go_sem, seval]
          try simp only [checks, e0, e1, go_sem, seval]
          subst hr
          iterate 12 ((first | refine vm_op ?_ | refine vm_if rfl ?_ | refine vm_no rfl ?_ | refine vm_skip rfl ?_); intro r hr; simp only [checks, e0, e1, go_sem, seval]; subst hr)
          exact hQ
          first | refine Tr.cond (b := true) rfl (fun _ => ?_) (fun h => by cases h) | refine Tr.seq (Tr.cond (b := true) rfl (fun _ => ?_) (fun h => by cases h))
          first | apply tr_m (by rw [hE]; rfl) | (refine Tr.seq ?_; apply tr_m (by rw [hE]; rfl))
          intro Q hQ
          simp only [go_sem, seval]
          iterate 2 ((refine vm_op ?_); intro r hr; simp only [go_sem, seval]; subst hr)
          exact hQ
          refine Tr.ret ?_
          simp only [Tryd.f7, go_sem, seval]
          exact ⟨fun n => n, ⟨⟨rfl, rfl, rfl⟩, trivial⟩, rfl, fun _ _ => rfl⟩
        · have e1 : decide ((l.length : Int) < n) = false := decide_eq_false h1
          obtain ⟨k, rfl⟩ : ∃ k : Nat, n = k := ⟨n.toNat, by omega⟩
          have hc := chain_pure t l (by omega)
          have hk := find_pure t c.root
          have hc2 := chain_pure t (l.take k) (by rw [List.length_take]; omega)
          have hc3 := chain_pure t (l ++ [c]) (by rw [List.length_append, List.length_singleton]; omega)
          have hc4 := chain_pure t [c] (by simp)
          rw [chain_one hmay] at hc4
          have hal : allTo t l c l.length = chainR t (l ++ [c]) := by rw [chain_app, allTo, List.take_length]
          have hall0 : allTo t l c 0 = chainR t l := by simp [allTo]
          refine eff_of_tr Tryd.func7 rfl (Nat.le_of_ble_eq_true rfl) (by first | rfl | (simp only [AV.idsB, AV.idsBL, Bool.and_true, Bool.true_and] <;> rfl)) fun E hE hP => ?_
          first | apply tr_m (by rw [hE]; rfl) | (refine Tr.seq ?_; apply tr_m (by rw [hE]; rfl))
          intro Q hQ
          simp only [go_sem, seval]
          iterate 3 ((refine vm_op ?_); intro r hr; simp only [go_sem, seval]; subst hr)
          exact hQ
          first | apply tr_m (by rw [hE]; rfl) | (refine Tr.seq ?_; apply tr_m (by rw [hE]; rfl))
          intro Q hQ
          simp only [go_sem, seval]
          (refine vm_op ?_); intro r hr; simp only [go_sem, seval]
          refine call_eff (fun n => n) [] [] rfl rfl rfl rfl (enters_of Tryd.func9 (by kernel_rfl) rfl) (awake_T) rfl rfl (by repeat' (first | exact rfl | exact trivial | constructor)) rfl rfl rfl ?_
          simp only [renH_nil, renH_cons, effR, go_sem, seval]
          subst hr
          (refine vm_op ?_); intro r hr; simp only [go_sem, seval]; subst hr
          exact hQ
          first | apply tr_m (by rw [hE]; rfl) | (refine Tr.seq ?_; apply tr_m (by rw [hE]; rfl))
          intro Q hQ
          simp only [go_sem, seval]
          iterate 2 ((refine vm_op ?_); intro r hr; simp only [go_sem, seval]; subst hr)
          (refine vm_op ?_); intro r hr; simp only [go_sem, seval]
          refine call_fn rfl rfl rfl rfl (enters_of Tryd.func10 (by kernel_rfl) rfl) (hf) rfl rfl rfl ?_
          simp only [go_sem, seval]
          subst hr
          (refine vm_op ?_); intro r hr; simp only [go_sem, seval]; subst hr
          exact hQ
          first | apply tr_m (by rw [hE]; rfl) | (refine Tr.seq ?_; apply tr_m (by rw [hE]; rfl))
          intro Q hQ
          simp only [go_sem, seval]
          iterate 8 ((first | refine vm_op ?_ | refine vm_if rfl ?_ | refine vm_no rfl ?_ | refine vm_skip rfl ?_); intro r hr; simp only [checks, e0, e1, go_sem, seval]; subst hr)
          (refine vm_if rfl ?_); intro r hr; simp only [checks, e0, e1, go_sem, seval]
          refine call_fn rfl rfl rfl rfl (enters_of Tryd.func25 (by kernel_rfl) rfl) (hm) rfl rfl rfl ?_
          simp only [go_sem, seval]
          try simp only [checks, e0, e1, go_sem, seval]
          subst hr
          iterate 12 ((first | refine vm_op ?_ | refine vm_if rfl ?_ | refine vm_no rfl ?_ | refine vm_skip rfl ?_); intro r hr; simp only [checks, e0, e1, go_sem, seval]; subst hr)
          exact hQ
          first | refine Tr.cond rfl (fun h => by cases h) (fun _ => ?_) | refine Tr.seq (Tr.cond rfl (fun h => by cases h) (fun _ => ?_))
          refine Tr.skip ?_
          try simp only [blockK, thenK, ↓reduceIte]
          first | apply tr_m (by rw [hE]; rfl) | (refine Tr.seq ?_; apply tr_m (by rw [hE]; rfl))
          intro Q hQ
          simp only [go_sem, seval]
          iterate 2 ((refine vm_op ?_); intro r hr; simp only [go_sem, seval]; subst hr)
          (refine vm_op ?_); intro r hr; simp only [go_sem, seval]
          refine call_fn rfl rfl rfl rfl (enters_of Tryd.func21 (by kernel_rfl) rfl) (hc) rfl rfl rfl ?_
          simp only [go_sem, seval]
          subst hr
          (refine vm_op ?_); intro r hr; simp only [go_sem, seval]; subst hr
          exact hQ
          first | apply tr_m (by rw [hE]; rfl) | (refine Tr.seq ?_; apply tr_m (by rw [hE]; rfl))
          intro Q hQ
          simp only [go_sem, seval]
          iterate 2 ((refine vm_op ?_); intro r hr; simp only [go_sem, seval]; subst hr)
          exact hQ
          first | apply tr_m (by rw [hE]; rfl) | (refine Tr.seq ?_; apply tr_m (by rw [hE]; rfl))
          intro Q hQ
          simp only [go_sem, seval]
          iterate 3 ((refine vm_op ?_); intro r hr; simp only [go_sem, seval]; subst hr)
          (refine vm_op ?_); intro r hr; simp only [go_sem, seval]
          refine call_fn rfl rfl rfl rfl (enters_of Tryd.func24 (by kernel_rfl) rfl) (hk) rfl rfl rfl ?_
          simp only [go_sem, seval]
          subst hr
          (refine vm_op ?_); intro r hr; simp only [go_sem, seval]; subst hr
          exact hQ
          first | apply tr_m (by rw [hE]; rfl) | (refine Tr.seq ?_; apply tr_m (by rw [hE]; rfl))
          intro Q hQ
          simp only [go_sem, seval]
          (refine vm_op ?_); intro r hr; simp only [go_sem, seval]; subst hr
          exact hQ
          first | refine Tr.block ?_ | (refine Tr.seq ?_; refine Tr.block ?_)
          refine Tr.loop (stCh t l c k) (fun i => i ≤ l.length) (fun i => l.length - i) 0 (Nat.zero_le _) ?_ ?_
          · unfold stCh
            rw [hall0]
            refine wk_ren (fun n => n) ?_ ?_ rfl rfl rfl
            · repeat' (first | exact rfl | exact trivial | constructor)
            · repeat' (first | exact rfl | exact trivial | constructor)
          · intro i hi
            unfold stCh
            by_cases hlt : i < l.length
            · have e2 : decide ((i : Int) < (l.length : Int)) = true := decide_eq_true (by omega)
              have hn := nth_map_lt Check.av l i hlt
              have hw := wrap_next (n := i) (by omega)
              have hnx := allTo_next (t := t) (c := c) hlt
              generalize l[i] = a at hn hnx
              have c1 := find_pure t a.root
              have c2 := above_pure t (findR t a.root) (findR t c.root)
              have c3 := above_pure t (findR t c.root) (findR t a.root)
              have hS : pairB t c a = (aboveR t (findR t a.root) (findR t c.root) || aboveR t (findR t c.root) (findR t a.root)) := rfl
              rw [hS] at hnx
              generalize aboveR t (findR t a.root) (findR t c.root) = x1 at c2 hnx
              generalize aboveR t (findR t c.root) (findR t a.root) = x2 at c3 hnx
              generalize allTo t l c i = o at hnx
              first | apply tr_m (by rw [hE]; rfl) | (refine Tr.seq ?_; apply tr_m (by rw [hE]; rfl))
              intro Q hQ
              simp only [go_sem, seval]
              iterate 4 ((refine vm_op ?_); intro r hr; simp only [e2, go_sem, seval]; subst hr)
              exact hQ
              first | refine Tr.cond (b := true) rfl (fun _ => ?_) (fun h => by cases h) | refine Tr.seq (Tr.cond (b := true) rfl (fun _ => ?_) (fun h => by cases h))
              refine Tr.skip ?_
              try simp only [blockK, thenK, ↓reduceIte]
              first | refine Tr.block ?_ | (refine Tr.seq ?_; refine Tr.block ?_)
              first | apply tr_md mixed _ (keepAll _) (by rw [hE]; rfl) (by kernel_rfl) | (refine Tr.seq ?_; apply tr_md mixed _ (keepAll _) (by rw [hE]; rfl) (by kernel_rfl))
              intro Q hQ
              simp only [go_sem, seval]
              iterate 6 ((refine vd2_q rfl ?_); intro r hr; simp only [hn, go_sem, seval]; subst hr)
              (refine vd2_x rfl ?_); intro r hr; simp only [hn, go_sem, seval]
              refine call_fn rfl rfl rfl rfl (enters_of Tryd.func24 (by kernel_rfl) rfl) (c1) rfl rfl rfl ?_
              simp only [go_sem, seval]
              try simp only [hn, go_sem, seval]
              subst hr
              (refine vd2_q rfl ?_); intro r hr; simp only [hn, go_sem, seval]; subst hr
              exact hQ
              cases o
              · rw [Bool.false_and] at hnx
                apply tr_ml (by rw [hE]; rfl)
                intro Q hQ
                simp only [go_sem, seval]
                iterate 2 ((refine vm_op ?_); intro r hr; simp only [go_sem, seval]; subst hr)
                iterate 3 ((first | refine vm_if rfl ?_ | refine vm_no rfl ?_ | refine vm_skip rfl ?_); intro r hr; simp only [go_sem, seval]; subst hr)
                (first | refine vm_no rfl ?_ | refine vm_skip rfl ?_); intro r hr; simp only [go_sem, seval]; subst hr
                iterate 4 ((first | refine vm_if rfl ?_ | refine vm_no rfl ?_ | refine vm_skip rfl ?_); intro r hr; simp only [go_sem, seval]; subst hr)
                (first | refine vm_no rfl ?_ | refine vm_skip rfl ?_); intro r hr; simp only [go_sem, seval]; subst hr
                (first | refine vm_if rfl ?_ | refine vm_no rfl ?_ | refine vm_skip rfl ?_); intro r hr; simp only [go_sem, seval]; subst hr
                iterate 2 ((refine vm_op ?_); intro r hr; simp only [go_sem, seval]; subst hr)
                exact hQ
                try simp only [blockK, thenK, ↓reduceIte]
                refine tr_region (by rw [hE]; rfl) ?_
                repeat (refine vc_op rfl ?_; simp only [go_sem, seval])
                refine vc_nil ?_
                rw [hw]
                try simp only [blockK, thenK, ↓reduceIte]
                refine ⟨i + 1, hlt, by omega, ?_⟩
                simp only [stCh, hnx]
                refine wk_ren (fun n => n) ?_ ?_ rfl rfl rfl
                · repeat' (first | exact rfl | exact trivial | constructor)
                · repeat' (first | exact rfl | exact trivial | constructor)
              · rw [Bool.true_and] at hnx
                cases x1
                · rw [Bool.false_or] at hnx
                  apply tr_ml (by rw [hE]; rfl)
                  intro Q hQ
                  simp only [go_sem, seval]
                  iterate 2 ((refine vm_op ?_); intro r hr; simp only [go_sem, seval]; subst hr)
                  iterate 3 ((first | refine vm_if rfl ?_ | refine vm_no rfl ?_ | refine vm_skip rfl ?_); intro r hr; simp only [go_sem, seval]; subst hr)
                  (refine vm_if rfl ?_); intro r hr; simp only [go_sem, seval]
                  refine call_fn rfl rfl rfl rfl (enters_of Tryd.func23 (by kernel_rfl) rfl) (c2) rfl rfl rfl ?_
                  simp only [go_sem, seval]
                  subst hr
                  iterate 4 ((first | refine vm_if rfl ?_ | refine vm_no rfl ?_ | refine vm_skip rfl ?_); intro r hr; simp only [go_sem, seval]; subst hr)
                  (refine vm_if rfl ?_); intro r hr; simp only [go_sem, seval]
                  refine call_fn rfl rfl rfl rfl (enters_of Tryd.func23 (by kernel_rfl) rfl) (c3) rfl rfl rfl ?_
                  simp only [go_sem, seval]
                  subst hr
                  (first | refine vm_if rfl ?_ | refine vm_no rfl ?_ | refine vm_skip rfl ?_); intro r hr; simp only [go_sem, seval]; subst hr
                  iterate 2 ((refine vm_op ?_); intro r hr; simp only [go_sem, seval]; subst hr)
                  exact hQ
                  try simp only [blockK, thenK, ↓reduceIte]
                  refine tr_region (by rw [hE]; rfl) ?_
                  repeat (refine vc_op rfl ?_; simp only [go_sem, seval])
                  refine vc_nil ?_
                  rw [hw]
                  try simp only [blockK, thenK, ↓reduceIte]
                  refine ⟨i + 1, hlt, by omega, ?_⟩
                  simp only [stCh, hnx]
                  refine wk_ren (fun n => n) ?_ ?_ rfl rfl rfl
                  · repeat' (first | exact rfl | exact trivial | constructor)
                  · repeat' (first | exact rfl | exact trivial | constructor)
                · rw [Bool.true_or] at hnx
                  apply tr_ml (by rw [hE]; rfl)
                  intro Q hQ
                  simp only [go_sem, seval]
                  iterate 2 ((refine vm_op ?_); intro r hr; simp only [go_sem, seval]; subst hr)
                  iterate 3 ((first | refine vm_if rfl ?_ | refine vm_no rfl ?_ | refine vm_skip rfl ?_); intro r hr; simp only [go_sem, seval]; subst hr)
                  (refine vm_if rfl ?_); intro r hr; simp only [go_sem, seval]
                  refine call_fn rfl rfl rfl rfl (enters_of Tryd.func23 (by kernel_rfl) rfl) (c2) rfl rfl rfl ?_
                  simp only [go_sem, seval]
                  subst hr
                  iterate 4 ((first | refine vm_if rfl ?_ | refine vm_no rfl ?_ | refine vm_skip rfl ?_); intro r hr; simp only [go_sem, seval]; subst hr)
                  (first | refine vm_no rfl ?_ | refine vm_skip rfl ?_); intro r hr; simp only [go_sem, seval]; subst hr
                  (first | refine vm_if rfl ?_ | refine vm_no rfl ?_ | refine vm_skip rfl ?_); intro r hr; simp only [go_sem, seval]; subst hr
                  iterate 2 ((refine vm_op ?_); intro r hr; simp only [go_sem, seval]; subst hr)
                  exact hQ
                  try simp only [blockK, thenK, ↓reduceIte]
                  refine tr_region (by rw [hE]; rfl) ?_
                  repeat (refine vc_op rfl ?_; simp only [go_sem, seval])
                  refine vc_nil ?_
                  rw [hw]
                  try simp only [blockK, thenK, ↓reduceIte]
                  refine ⟨i + 1, hlt, by omega, ?_⟩
                  simp only [stCh, hnx]
                  refine wk_ren (fun n => n) ?_ ?_ rfl rfl rfl
                  · repeat' (first | exact rfl | exact trivial | constructor)
                  · repeat' (first | exact rfl | exact trivial | constructor)
            · have hil : i = l.length := by omega
              subst hil
              have e2 : decide ((l.length : Int) < (l.length : Int)) = false := decide_eq_false (by omega)
              rw [hal]
              first | apply tr_m (by rw [hE]; rfl) | (refine Tr.seq ?_; apply tr_m (by rw [hE]; rfl))
              intro Q hQ
              simp only [go_sem, seval]
              iterate 4 ((refine vm_op ?_); intro r hr; simp only [e2, go_sem, seval]; subst hr)
              exact hQ
              have e4 : decide (chainR t (l ++ [c]) = chainR t (l ++ [c])) = true := decide_eq_true rfl
              cases hch : chainR t l
              · first | refine Tr.cond (b := false) rfl (fun h => by cases h) (fun _ => ?_) | refine Tr.seq (Tr.cond (b := false) rfl (fun h => by cases h) (fun _ => ?_))
                refine Tr.exit ?_
                try simp only [blockK, thenK, ↓reduceIte]
                first | apply tr_md mixed _ (keepAll _) (by rw [hE]; rfl) (by kernel_rfl) | (refine Tr.seq ?_; apply tr_md mixed _ (keepAll _) (by rw [hE]; rfl) (by kernel_rfl))
                intro Q hQ
                simp only [go_sem, seval]
                (refine vd2_q rfl ?_); intro r hr; simp only [checks, List.map_append, HP.del, List.filter_cons, List.filter_nil, Bool.not_false, Bool.not_true, if_true, Bool.false_eq_true, if_false, go_sem, seval]; subst hr
                (refine vd2_x rfl ?_); intro r hr; simp only [checks, List.map_append, HP.del, List.filter_cons, List.filter_nil, Bool.not_false, Bool.not_true, if_true, Bool.false_eq_true, if_false, go_sem, seval]
                refine ⟨lens_checks l, by omega, by omega, .inl trivial, ?_⟩
                try simp only [checks, List.map_append, HP.del, List.filter_cons, List.filter_nil, Bool.not_false, Bool.not_true, if_true, Bool.false_eq_true, if_false, go_sem, seval]
                subst hr
                iterate 2 ((refine vd2_q rfl ?_); intro r hr; simp only [checks, List.map_append, HP.del, List.filter_cons, List.filter_nil, Bool.not_false, Bool.not_true, if_true, Bool.false_eq_true, if_false, go_sem, seval]; subst hr)
                (refine vd2_x rfl ?_); intro r hr; simp only [checks, List.map_append, HP.del, List.filter_cons, List.filter_nil, Bool.not_false, Bool.not_true, if_true, Bool.false_eq_true, if_false, go_sem, seval]
                refine ⟨by omega, by omega, ?_⟩
                try simp only [checks, List.map_append, HP.del, List.filter_cons, List.filter_nil, Bool.not_false, Bool.not_true, if_true, Bool.false_eq_true, if_false, go_sem, seval]
                subst hr
                (refine vd2_q rfl ?_); intro r hr; simp only [checks, List.map_append, HP.del, List.filter_cons, List.filter_nil, Bool.not_false, Bool.not_true, if_true, Bool.false_eq_true, if_false, go_sem, seval]; subst hr
                exact hQ
                first | apply tr_m (by rw [hE]; rfl) | (refine Tr.seq ?_; apply tr_m (by rw [hE]; rfl))
                intro Q hQ
                simp only [go_sem, seval]
                iterate 3 ((refine vm_op ?_); intro r hr; simp only [go_sem, seval]; subst hr)
                exact hQ
                first | apply tr_md mixed _ (keepAll _) (by rw [hE]; rfl) (by kernel_rfl) | (refine Tr.seq ?_; apply tr_md mixed _ (keepAll _) (by rw [hE]; rfl) (by kernel_rfl))
                intro Q hQ
                simp only [go_sem, seval]
                iterate 3 ((refine vd2_q rfl ?_); intro r hr; simp only [List.map_append, e4, go_sem, seval]; subst hr)
                iterate 4 ((first | refine vd2_goq rfl rfl ?_ | refine vd2_no rfl ?_ | refine vd2_skip rfl ?_); intro r hr; simp only [List.map_append, e4, go_sem, seval]; subst hr)
                (first | refine vd2_no rfl ?_ | refine vd2_skip rfl ?_); intro r hr; simp only [List.map_append, e4, go_sem, seval]; subst hr
                iterate 2 ((refine vd2_q rfl ?_); intro r hr; simp only [List.map_append, e4, go_sem, seval]; subst hr)
                iterate 2 ((first | refine vd2_goq rfl rfl ?_ | refine vd2_no rfl ?_ | refine vd2_skip rfl ?_); intro r hr; simp only [List.map_append, e4, go_sem, seval]; subst hr)
                (refine vd2_gox rfl rfl ?_); intro r hr; simp only [List.map_append, e4, go_sem, seval]
                refine call_fn rfl rfl rfl rfl (enters_of Tryd.func21 (by kernel_rfl) rfl) (hc3) (by (simp only [checks, List.map_append, List.length_map, go_sem, seval]) <;> rfl) rfl rfl ?_
                simp only [go_sem, seval]
                try simp only [List.map_append, e4, go_sem, seval]
                subst hr
                iterate 6 ((first | refine vd2_q rfl ?_ | refine vd2_goq rfl rfl ?_ | refine vd2_no rfl ?_ | refine vd2_skip rfl ?_); intro r hr; simp only [List.map_append, e4, go_sem, seval]; subst hr)
                (refine vd2_gox rfl rfl ?_); intro r hr; simp only [List.map_append, e4, go_sem, seval]
                refine call_fn rfl rfl rfl rfl (enters_of Tryd.func21 (by kernel_rfl) rfl) (hc4) rfl rfl rfl ?_
                simp only [go_sem, seval]
                try simp only [List.map_append, e4, go_sem, seval]
                subst hr
                iterate 2 ((refine vd2_q rfl ?_); intro r hr; simp only [List.map_append, e4, go_sem, seval]; subst hr)
                exact hQ
                refine Tr.ret ?_
                simp only [Tryd.f7, go_sem, seval]
                exact ⟨fun n => n, ⟨⟨rfl, rfl, rfl⟩, trivial⟩, rfl, fun _ _ => rfl⟩
              · rw [chain_take hch k (by omega)] at hc2
                first | refine Tr.cond (b := false) rfl (fun h => by cases h) (fun _ => ?_) | refine Tr.seq (Tr.cond (b := false) rfl (fun h => by cases h) (fun _ => ?_))
                refine Tr.exit ?_
                try simp only [blockK, thenK, ↓reduceIte]
                first | apply tr_md mixed _ (keepAll _) (by rw [hE]; rfl) (by kernel_rfl) | (refine Tr.seq ?_; apply tr_md mixed _ (keepAll _) (by rw [hE]; rfl) (by kernel_rfl))
                intro Q hQ
                simp only [go_sem, seval]
                (refine vd2_q rfl ?_); intro r hr; simp only [checks, List.map_append, HP.del, List.filter_cons, List.filter_nil, Bool.not_false, Bool.not_true, if_true, Bool.false_eq_true, if_false, go_sem, seval]; subst hr
                (refine vd2_x rfl ?_); intro r hr; simp only [checks, List.map_append, HP.del, List.filter_cons, List.filter_nil, Bool.not_false, Bool.not_true, if_true, Bool.false_eq_true, if_false, go_sem, seval]
                refine ⟨lens_checks l, by omega, by omega, .inl trivial, ?_⟩
                try simp only [checks, List.map_append, HP.del, List.filter_cons, List.filter_nil, Bool.not_false, Bool.not_true, if_true, Bool.false_eq_true, if_false, go_sem, seval]
                subst hr
                iterate 2 ((refine vd2_q rfl ?_); intro r hr; simp only [checks, List.map_append, HP.del, List.filter_cons, List.filter_nil, Bool.not_false, Bool.not_true, if_true, Bool.false_eq_true, if_false, go_sem, seval]; subst hr)
                (refine vd2_x rfl ?_); intro r hr; simp only [checks, List.map_append, HP.del, List.filter_cons, List.filter_nil, Bool.not_false, Bool.not_true, if_true, Bool.false_eq_true, if_false, go_sem, seval]
                refine ⟨by omega, by omega, ?_⟩
                try simp only [checks, List.map_append, HP.del, List.filter_cons, List.filter_nil, Bool.not_false, Bool.not_true, if_true, Bool.false_eq_true, if_false, go_sem, seval]
                subst hr
                (refine vd2_q rfl ?_); intro r hr; simp only [checks, List.map_append, HP.del, List.filter_cons, List.filter_nil, Bool.not_false, Bool.not_true, if_true, Bool.false_eq_true, if_false, go_sem, seval]; subst hr
                exact hQ
                first | apply tr_m (by rw [hE]; rfl) | (refine Tr.seq ?_; apply tr_m (by rw [hE]; rfl))
                intro Q hQ
                simp only [go_sem, seval]
                iterate 3 ((refine vm_op ?_); intro r hr; simp only [go_sem, seval]; subst hr)
                exact hQ
                first | apply tr_md mixed _ (keepAll _) (by rw [hE]; rfl) (by kernel_rfl) | (refine Tr.seq ?_; apply tr_md mixed _ (keepAll _) (by rw [hE]; rfl) (by kernel_rfl))
                intro Q hQ
                simp only [go_sem, seval]
                iterate 3 ((refine vd2_q rfl ?_); intro r hr; simp only [List.map_append, e4, go_sem, seval]; subst hr)
                iterate 3 ((first | refine vd2_goq rfl rfl ?_ | refine vd2_no rfl ?_ | refine vd2_skip rfl ?_); intro r hr; simp only [List.map_append, e4, go_sem, seval]; subst hr)
                (refine vd2_goq rfl rfl ?_); intro r hr; simp only [List.map_append, e4, go_sem, seval]
                refine slice_hi27 (by omega) ?_
                try simp only [List.map_append, e4, go_sem, seval]
                subst hr
                (refine vd2_gox rfl rfl ?_); intro r hr; simp only [List.map_append, e4, go_sem, seval]
                refine call_fn rfl rfl rfl rfl (enters_of Tryd.func21 (by kernel_rfl) rfl) (hc2) rfl rfl rfl ?_
                simp only [go_sem, seval]
                try simp only [List.map_append, e4, go_sem, seval]
                subst hr
                iterate 2 ((refine vd2_q rfl ?_); intro r hr; simp only [List.map_append, e4, go_sem, seval]; subst hr)
                iterate 2 ((first | refine vd2_goq rfl rfl ?_ | refine vd2_no rfl ?_ | refine vd2_skip rfl ?_); intro r hr; simp only [List.map_append, e4, go_sem, seval]; subst hr)
                (refine vd2_gox rfl rfl ?_); intro r hr; simp only [List.map_append, e4, go_sem, seval]
                refine call_fn rfl rfl rfl rfl (enters_of Tryd.func21 (by kernel_rfl) rfl) (hc3) (by (simp only [checks, List.map_append, List.length_map, go_sem, seval]) <;> rfl) rfl rfl ?_
                simp only [go_sem, seval]
                try simp only [List.map_append, e4, go_sem, seval]
                subst hr
                iterate 6 ((first | refine vd2_q rfl ?_ | refine vd2_goq rfl rfl ?_ | refine vd2_no rfl ?_ | refine vd2_skip rfl ?_); intro r hr; simp only [List.map_append, e4, go_sem, seval]; subst hr)
                (refine vd2_gox rfl rfl ?_); intro r hr; simp only [List.map_append, e4, go_sem, seval]
                refine call_fn rfl rfl rfl rfl (enters_of Tryd.func21 (by kernel_rfl) rfl) (hc4) rfl rfl rfl ?_
                simp only [go_sem, seval]
                try simp only [List.map_append, e4, go_sem, seval]
                subst hr
                iterate 2 ((refine vd2_q rfl ?_); intro r hr; simp only [List.map_append, e4, go_sem, seval]; subst hr)
                exact hQ
                refine Tr.ret ?_
                simp only [Tryd.f7, go_sem, seval]
                exact ⟨fun n => n, ⟨⟨rfl, rfl, rfl⟩, trivial⟩, rfl, fun _ _ => rfl⟩
  · have ef : (decide (t.length ≤ 20) && (decide (([] : List Link).length ≤ 20) && decide (l.length ≤ 20))) = false := by
      by_cases h1 : t.length ≤ 20
      · have : ¬ l.length ≤ 20 := fun h => hs ⟨h1, h⟩
        simp [this]
      · simp [h1]
    rw [ef] at hf
    refine eff_of_tr Tryd.func7 rfl (Nat.le_of_ble_eq_true rfl) (by first | rfl | (simp only [AV.idsB, AV.idsBL, Bool.and_true, Bool.true_and] <;> rfl)) fun E hE hP => ?_
    first | apply tr_m (by rw [hE]; rfl) | (refine Tr.seq ?_; apply tr_m (by rw [hE]; rfl))
    intro Q hQ
    simp only [go_sem, seval]
    iterate 3 ((refine vm_op ?_); intro r hr; simp only [go_sem, seval]; subst hr)
    exact hQ
    first | apply tr_m (by rw [hE]; rfl) | (refine Tr.seq ?_; apply tr_m (by rw [hE]; rfl))
    intro Q hQ
    simp only [go_sem, seval]
    (refine vm_op ?_); intro r hr; simp only [go_sem, seval]
    refine call_eff (fun n => n) [] [] rfl rfl rfl rfl (enters_of Tryd.func9 (by kernel_rfl) rfl) (awake_T) rfl rfl (by repeat' (first | exact rfl | exact trivial | constructor)) rfl rfl rfl ?_
    simp only [renH_nil, renH_cons, effR, go_sem, seval]
    subst hr
    (refine vm_op ?_); intro r hr; simp only [go_sem, seval]; subst hr
    exact hQ
    first | apply tr_m (by rw [hE]; rfl) | (refine Tr.seq ?_; apply tr_m (by rw [hE]; rfl))
    intro Q hQ
    simp only [go_sem, seval]
    iterate 2 ((refine vm_op ?_); intro r hr; simp only [go_sem, seval]; subst hr)
    (refine vm_op ?_); intro r hr; simp only [go_sem, seval]
    refine call_fn rfl rfl rfl rfl (enters_of Tryd.func10 (by kernel_rfl) rfl) (hf) rfl rfl rfl ?_
    simp only [go_sem, seval]
    subst hr
    (refine vm_op ?_); intro r hr; simp only [go_sem, seval]; subst hr
    exact hQ
    first | apply tr_m (by rw [hE]; rfl) | (refine Tr.seq ?_; apply tr_m (by rw [hE]; rfl))
    intro Q hQ
    simp only [go_sem, seval]
    iterate 8 ((first | refine vm_op ?_ | refine vm_if rfl ?_ | refine vm_no rfl ?_ | refine vm_skip rfl ?_); intro r hr; simp only [go_sem, seval]; subst hr)
    (first | refine vm_no rfl ?_ | refine vm_skip rfl ?_); intro r hr; simp only [go_sem, seval]; subst hr
    iterate 12 ((first | refine vm_op ?_ | refine vm_if rfl ?_ | refine vm_no rfl ?_ | refine vm_skip rfl ?_); intro r hr; simp only [go_sem, seval]; subst hr)
    exact hQ
    first | refine Tr.cond (b := true) rfl (fun _ => ?_) (fun h => by cases h) | refine Tr.seq (Tr.cond (b := true) rfl (fun _ => ?_) (fun h => by cases h))
    first | apply tr_m (by rw [hE]; rfl) | (refine Tr.seq ?_; apply tr_m (by rw [hE]; rfl))
    intro Q hQ
    simp only [go_sem, seval]
    iterate 2 ((refine vm_op ?_); intro r hr; simp only [go_sem, seval]; subst hr)
    exact hQ
    refine Tr.ret ?_
    simp only [Tryd.f7, go_sem, seval]
    exact ⟨fun n => n, ⟨⟨rfl, rfl, rfl⟩, trivial⟩, rfl, fun _ _ => rfl⟩

end Go.Proofs.YtdlejnafhmpobaaDoor

/- FinalNext. -/
set_option linter.unusedSimpArgs false
set_option maxRecDepth 10000
namespace Go.Proofs.YtdlejnafhmpobaaDoor
open Go Go.Ab

theorem next_law (t : List Node) (fin : Check) : ∀ (js : List Check) (o : Check), js.foldl (nextS t fin) o = o ∨ (js.foldl (nextS t fin) o ∈ js ∧ behindB t (js.foldl (nextS t fin) o) fin = true ∧ fin.epoch < (js.foldl (nextS t fin) o).epoch)
  | [], o => Or.inl rfl
  | x :: js, o => by
    rw [List.foldl_cons]
    have hS : nextS t fin o x = if decide (fin.epoch < x.epoch) && (behindB t x fin && betterB o x) then x else o := rfl
    by_cases hg : (decide (fin.epoch < x.epoch) && (behindB t x fin && betterB o x)) = true
    · rw [if_pos hg] at hS
      simp only [Bool.and_eq_true, decide_eq_true_eq] at hg
      rw [hS]
      rcases next_law t fin js x with h | h
      · rw [h]; exact Or.inr ⟨List.mem_cons_self, hg.2.1, hg.1⟩
      · exact Or.inr ⟨List.mem_cons_of_mem _ h.1, h.2⟩
    · rw [if_neg hg] at hS
      rw [hS]
      rcases next_law t fin js o with h | h
      · exact Or.inl h
      · exact Or.inr ⟨List.mem_cons_of_mem _ h.1, h.2⟩
theorem behind_may {t : List Node} {c f : Check} (h : behindB t c f = true) : mayB t = true := by
  unfold behindB aboveR at h
  rw [Bool.and_eq_true] at h
  rw [isB_two, Bool.and_eq_true] at h
  exact (isB_spec h.1.1).1
theorem chain_two {t : List Node} {a c : Check} (h : behindB t c a = true) : chainR t [a, c] = true := by
  have := chain_app t [a] c
  rw [show [a] ++ [c] = [a, c] from rfl, chain_one (behind_may h), Bool.true_and] at this
  rw [this]
  simp [pairB, h]

theorem FinalNext_T (t : List Node) (l : List Link) (b : List Int) (js : List Check) (fin : Check) (hb : okB b) (hk : okL l) (hc : okC l) : PureT Tryd.prog 0 tabV 4 [tav t, links l, u64s b, checks js, fin.av] (.bool true) := by
  have hf := few_pure t l js
  by_cases hs : t.length ≤ 20 ∧ l.length ≤ 20 ∧ js.length ≤ 20
  · have ef : (decide (t.length ≤ 20) && (decide (l.length ≤ 20) && decide (js.length ≤ 20))) = true := by simp [hs.1, hs.2.1, hs.2.2]
    rw [ef] at hf
    have h1 := next_T t l b js fin (by omega) (by omega) hb hk hc
    have h2 := finals_T t l b js (by omega) (by omega) hb hk hc
    have hfl := finals_len t l b js
    have law := next_law t fin (finalsR t l b js) fin
    have en : nextR t l b js fin = (finalsR t l b js).foldl (nextS t fin) fin := rfl
    rw [← en] at law
    generalize nextR t l b js fin = n at h1 law
    generalize finalsR t l b js = f at h2 hfl law
    have h3 := has_pure f n (by omega)
    have h4 := find_pure t fin.root
    have h5 := find_pure t n.root
    have h6 := above_pure t (findR t fin.root) (findR t n.root)
    have h7 := chain_pure t [fin, n] (by simp)
    have hbn : behindB t n fin = aboveR t (findR t fin.root) (findR t n.root) := rfl
    refine eff_of_tr Tryd.func4 rfl (Nat.le_of_ble_eq_true rfl) (by first | rfl | (simp only [AV.idsB, AV.idsBL, Bool.and_true, Bool.true_and] <;> rfl)) fun E hE hP => ?_
    first | apply tr_m (by rw [hE]; rfl) | (refine Tr.seq ?_; apply tr_m (by rw [hE]; rfl))
    intro Q hQ
    simp only [go_sem, seval]
    iterate 3 ((refine vm_op ?_); intro r hr; simp only [go_sem, seval]; subst hr)
    exact hQ
    first | apply tr_m (by rw [hE]; rfl) | (refine Tr.seq ?_; apply tr_m (by rw [hE]; rfl))
    intro Q hQ
    simp only [go_sem, seval]
    (refine vm_op ?_); intro r hr; simp only [go_sem, seval]
    refine call_eff (fun n => n) [] [] rfl rfl rfl rfl (enters_of Tryd.func9 (by kernel_rfl) rfl) (awake_T) rfl rfl (by repeat' (first | exact rfl | exact trivial | constructor)) rfl rfl rfl ?_
    simp only [renH_nil, renH_cons, effR, go_sem, seval]
    subst hr
    (refine vm_op ?_); intro r hr; simp only [go_sem, seval]; subst hr
    exact hQ
    first | apply tr_m (by rw [hE]; rfl) | (refine Tr.seq ?_; apply tr_m (by rw [hE]; rfl))
    intro Q hQ
    simp only [go_sem, seval]
    iterate 3 ((refine vm_op ?_); intro r hr; simp only [go_sem, seval]; subst hr)
    (refine vm_op ?_); intro r hr; simp only [go_sem, seval]
    refine call_fn rfl rfl rfl rfl (enters_of Tryd.func10 (by kernel_rfl) rfl) (hf) rfl rfl rfl ?_
    simp only [go_sem, seval]
    subst hr
    (refine vm_op ?_); intro r hr; simp only [go_sem, seval]; subst hr
    exact hQ
    first | apply tr_m (by rw [hE]; rfl) | (refine Tr.seq ?_; apply tr_m (by rw [hE]; rfl))
    intro Q hQ
    simp only [go_sem, seval]
    iterate 6 ((first | refine vm_op ?_ | refine vm_if rfl ?_ | refine vm_no rfl ?_ | refine vm_skip rfl ?_); intro r hr; simp only [go_sem, seval]; subst hr)
    exact hQ
    first | refine Tr.cond rfl (fun h => by cases h) (fun _ => ?_) | refine Tr.seq (Tr.cond rfl (fun h => by cases h) (fun _ => ?_))
    refine Tr.skip ?_
    try simp only [blockK, thenK, ↓reduceIte]
    first | apply tr_m (by rw [hE]; rfl) | (refine Tr.seq ?_; apply tr_m (by rw [hE]; rfl))
    intro Q hQ
    simp only [go_sem, seval]
    iterate 5 ((refine vm_op ?_); intro r hr; simp only [go_sem, seval]; subst hr)
    (refine vm_op ?_); intro r hr; simp only [go_sem, seval]
    refine call_eff (fun n => n) [true, true, true, true, true] [] rfl rfl rfl rfl (enters_of Tryd.func17 (by kernel_rfl) rfl) (h1) rfl rfl (by repeat' (first | exact rfl | exact trivial | constructor)) rfl rfl rfl ?_
    simp only [renH_nil, renH_cons, effR, go_sem, seval]
    subst hr
    iterate 2 ((refine vm_op ?_); intro r hr; simp only [go_sem, seval]; subst hr)
    exact hQ
    cases e1 : decide (n = fin)
    · have hl := law.resolve_left (of_decide_eq_false e1)
      have e2 : decide (n ∈ f) = true := decide_eq_true hl.1
      have e3 : decide (fin.epoch < n.epoch) = true := decide_eq_true hl.2.2
      rw [e2] at h3
      rw [← hbn, hl.2.1] at h6
      rw [chain_two hl.2.1] at h7
      first | apply tr_m (by rw [hE]; rfl) | (refine Tr.seq ?_; apply tr_m (by rw [hE]; rfl))
      intro Q hQ
      simp only [go_sem, seval]
      iterate 3 ((refine vm_op ?_); intro r hr; simp only [e1, go_sem, seval]; subst hr)
      exact hQ
      first | refine Tr.cond rfl (fun h => by cases h) (fun _ => ?_) | refine Tr.seq (Tr.cond rfl (fun h => by cases h) (fun _ => ?_))
      refine Tr.skip ?_
      try simp only [blockK, thenK, ↓reduceIte]
      first | apply tr_m (by rw [hE]; rfl) | (refine Tr.seq ?_; apply tr_m (by rw [hE]; rfl))
      intro Q hQ
      simp only [go_sem, seval]
      iterate 4 ((refine vm_op ?_); intro r hr; simp only [go_sem, seval]; subst hr)
      exact hQ
      first | apply tr_m (by rw [hE]; rfl) | (refine Tr.seq ?_; apply tr_m (by rw [hE]; rfl))
      intro Q hQ
      simp only [go_sem, seval]
      iterate 4 ((refine vm_op ?_); intro r hr; simp only [go_sem, seval]; subst hr)
      (refine vm_op ?_); intro r hr; simp only [go_sem, seval]
      refine call_eff (fun n => n) [true, true, true, true] [] rfl rfl rfl rfl (enters_of Tryd.func14 (by kernel_rfl) rfl) (h2) rfl rfl (by repeat' (first | exact rfl | exact trivial | constructor)) rfl rfl rfl ?_
      simp only [renH_nil, renH_cons, effR, go_sem, seval]
      subst hr
      (refine vm_op ?_); intro r hr; simp only [go_sem, seval]; subst hr
      exact hQ
      first | apply tr_m (by rw [hE]; rfl) | (refine Tr.seq ?_; apply tr_m (by rw [hE]; rfl))
      intro Q hQ
      simp only [go_sem, seval]
      iterate 2 ((refine vm_op ?_); intro r hr; simp only [go_sem, seval]; subst hr)
      (refine vm_op ?_); intro r hr; simp only [go_sem, seval]
      refine call_fn rfl rfl rfl rfl (enters_of Tryd.func22 (by kernel_rfl) rfl) (h3) rfl rfl rfl ?_
      simp only [go_sem, seval]
      subst hr
      (refine vm_op ?_); intro r hr; simp only [go_sem, seval]; subst hr
      exact hQ
      first | apply tr_md mixed _ (keepAll _) (by rw [hE]; rfl) (by kernel_rfl) | (refine Tr.seq ?_; apply tr_md mixed _ (keepAll _) (by rw [hE]; rfl) (by kernel_rfl))
      intro Q hQ
      simp only [go_sem, seval]
      iterate 4 ((refine vd2_q rfl ?_); intro r hr; simp only [go_sem, seval]; subst hr)
      (refine vd2_x rfl ?_); intro r hr; simp only [go_sem, seval]
      refine call_fn rfl rfl rfl rfl (enters_of Tryd.func24 (by kernel_rfl) rfl) (h4) rfl rfl rfl ?_
      simp only [go_sem, seval]
      subst hr
      iterate 3 ((refine vd2_q rfl ?_); intro r hr; simp only [go_sem, seval]; subst hr)
      (refine vd2_x rfl ?_); intro r hr; simp only [go_sem, seval]
      refine call_fn rfl rfl rfl rfl (enters_of Tryd.func24 (by kernel_rfl) rfl) (h5) rfl rfl rfl ?_
      simp only [go_sem, seval]
      subst hr
      (refine vd2_x rfl ?_); intro r hr; simp only [go_sem, seval]
      refine call_fn rfl rfl rfl rfl (enters_of Tryd.func23 (by kernel_rfl) rfl) (h6) rfl rfl rfl ?_
      simp only [go_sem, seval]
      subst hr
      (refine vd2_q rfl ?_); intro r hr; simp only [go_sem, seval]; subst hr
      exact hQ
      first | apply tr_m (by rw [hE]; rfl) | (refine Tr.seq ?_; apply tr_m (by rw [hE]; rfl))
      intro Q hQ
      simp only [go_sem, seval]
      iterate 14 ((first | refine vm_op ?_ | refine vm_if rfl ?_ | refine vm_no rfl ?_ | refine vm_skip rfl ?_); intro r hr; simp only [e3, go_sem, seval]; subst hr)
      (refine vm_if rfl ?_); intro r hr; simp only [e3, go_sem, seval]
      refine call_fn rfl rfl rfl rfl (enters_of Tryd.func21 (by kernel_rfl) rfl) (h7) rfl rfl rfl ?_
      simp only [go_sem, seval]
      try simp only [e3, go_sem, seval]
      subst hr
      iterate 2 ((refine vm_op ?_); intro r hr; simp only [e3, go_sem, seval]; subst hr)
      exact hQ
      refine Tr.ret ?_
      simp only [Tryd.f4, go_sem, seval]
      exact ⟨fun n => n, ⟨⟨rfl, rfl, rfl⟩, trivial⟩, rfl, fun _ _ => rfl⟩
    · first | apply tr_m (by rw [hE]; rfl) | (refine Tr.seq ?_; apply tr_m (by rw [hE]; rfl))
      intro Q hQ
      simp only [go_sem, seval]
      iterate 3 ((refine vm_op ?_); intro r hr; simp only [e1, go_sem, seval]; subst hr)
      exact hQ
      first | refine Tr.cond (b := true) rfl (fun _ => ?_) (fun h => by cases h) | refine Tr.seq (Tr.cond (b := true) rfl (fun _ => ?_) (fun h => by cases h))
      first | apply tr_m (by rw [hE]; rfl) | (refine Tr.seq ?_; apply tr_m (by rw [hE]; rfl))
      intro Q hQ
      simp only [go_sem, seval]
      (refine vm_op ?_); intro r hr; simp only [go_sem, seval]; subst hr
      exact hQ
      refine Tr.ret ?_
      simp only [Tryd.f4, go_sem, seval]
      exact ⟨fun n => n, ⟨⟨rfl, rfl, rfl⟩, trivial⟩, rfl, fun _ _ => rfl⟩
  · have ef : (decide (t.length ≤ 20) && (decide (l.length ≤ 20) && decide (js.length ≤ 20))) = false := by
      by_cases h1 : t.length ≤ 20
      · by_cases h2 : l.length ≤ 20
        · have : ¬ js.length ≤ 20 := fun h => hs ⟨h1, h2, h⟩
          simp [this]
        · simp [h2]
      · simp [h1]
    rw [ef] at hf
    refine eff_of_tr Tryd.func4 rfl (Nat.le_of_ble_eq_true rfl) (by first | rfl | (simp only [AV.idsB, AV.idsBL, Bool.and_true, Bool.true_and] <;> rfl)) fun E hE hP => ?_
    first | apply tr_m (by rw [hE]; rfl) | (refine Tr.seq ?_; apply tr_m (by rw [hE]; rfl))
    intro Q hQ
    simp only [go_sem, seval]
    iterate 3 ((refine vm_op ?_); intro r hr; simp only [go_sem, seval]; subst hr)
    exact hQ
    first | apply tr_m (by rw [hE]; rfl) | (refine Tr.seq ?_; apply tr_m (by rw [hE]; rfl))
    intro Q hQ
    simp only [go_sem, seval]
    (refine vm_op ?_); intro r hr; simp only [go_sem, seval]
    refine call_eff (fun n => n) [] [] rfl rfl rfl rfl (enters_of Tryd.func9 (by kernel_rfl) rfl) (awake_T) rfl rfl (by repeat' (first | exact rfl | exact trivial | constructor)) rfl rfl rfl ?_
    simp only [renH_nil, renH_cons, effR, go_sem, seval]
    subst hr
    (refine vm_op ?_); intro r hr; simp only [go_sem, seval]; subst hr
    exact hQ
    first | apply tr_m (by rw [hE]; rfl) | (refine Tr.seq ?_; apply tr_m (by rw [hE]; rfl))
    intro Q hQ
    simp only [go_sem, seval]
    iterate 3 ((refine vm_op ?_); intro r hr; simp only [go_sem, seval]; subst hr)
    (refine vm_op ?_); intro r hr; simp only [go_sem, seval]
    refine call_fn rfl rfl rfl rfl (enters_of Tryd.func10 (by kernel_rfl) rfl) (hf) rfl rfl rfl ?_
    simp only [go_sem, seval]
    subst hr
    (refine vm_op ?_); intro r hr; simp only [go_sem, seval]; subst hr
    exact hQ
    first | apply tr_m (by rw [hE]; rfl) | (refine Tr.seq ?_; apply tr_m (by rw [hE]; rfl))
    intro Q hQ
    simp only [go_sem, seval]
    iterate 6 ((first | refine vm_op ?_ | refine vm_if rfl ?_ | refine vm_no rfl ?_ | refine vm_skip rfl ?_); intro r hr; simp only [go_sem, seval]; subst hr)
    exact hQ
    first | refine Tr.cond (b := true) rfl (fun _ => ?_) (fun h => by cases h) | refine Tr.seq (Tr.cond (b := true) rfl (fun _ => ?_) (fun h => by cases h))
    first | apply tr_m (by rw [hE]; rfl) | (refine Tr.seq ?_; apply tr_m (by rw [hE]; rfl))
    intro Q hQ
    simp only [go_sem, seval]
    iterate 2 ((refine vm_op ?_); intro r hr; simp only [go_sem, seval]; subst hr)
    exact hQ
    refine Tr.ret ?_
    simp only [Tryd.f4, go_sem, seval]
    exact ⟨fun n => n, ⟨⟨rfl, rfl, rfl⟩, trivial⟩, rfl, fun _ _ => rfl⟩

end Go.Proofs.YtdlejnafhmpobaaDoor

/- FinalTells. -/
set_option linter.unusedSimpArgs false
set_option maxRecDepth 10000
namespace Go.Proofs.YtdlejnafhmpobaaDoor
open Go Go.Ab

theorem moreN_len (ls : List Link) : ∀ (n : Nat) (out : List Check), (moreN ls n out).length ≤ out.length + n
  | 0, out => Nat.le_refl _
  | n + 1, out => by
    unfold moreN
    cases ls.find? (goB out) with
    | some a =>
      have := moreN_len ls n (out ++ [a.t])
      rw [List.length_append, List.length_singleton] at this
      show (moreN ls n (out ++ [a.t])).length ≤ _
      omega
    | none => exact Nat.le_add_right _ _
theorem more_len (t : List Node) (l : List Link) (b : List Int) (js : List Check) : (moreR t l b js).length ≤ js.length + l.length := by
  have h1 := moreN_len (countL t l b) (leftN (countL t l b) js) js
  have h2 := leftN_len (countL t l b) js
  have h3 : (countL t l b).length ≤ l.length := by
    unfold countL
    split
    · exact List.length_filter_le _ _
    · exact Nat.zero_le _
  have h4 : moreR t l b js = moreN (countL t l b) (leftN (countL t l b) js) js := rfl
  rw [h4]
  omega

theorem FinalTells_T (t : List Node) (l : List Link) (b : List Int) (js : List Check) (fin : Check) (hbl : b.length ≤ 9223372036854775807) (hb : okB b) (hk : okL l) (hc : okC l) : PureT Tryd.prog 0 tabV 3 [tav t, links l, u64s b, checks js, fin.av] (.bool true) := by
  have hf := few_pure t l js
  by_cases hs : t.length ≤ 20 ∧ l.length ≤ 20 ∧ js.length ≤ 20
  · have ef : (decide (t.length ≤ 20) && (decide (l.length ≤ 20) && decide (js.length ≤ 20))) = true := by simp [hs.1, hs.2.1, hs.2.2]
    rw [ef] at hf
    have h1 := more_T t l b js (by omega) (by omega) hb hk
    have h2 := refmore_pure t l b js (by omega) (by omega) hbl (by omega) hb hk
    have hml := more_len t l b js
    generalize moreR t l b js = m at h1 h2 hml
    have h3 := csame_pure m m (by omega)
    have e3 : decide (m = m) = true := decide_eq_true rfl
    rw [e3] at h3
    have h4 := finals_T t l b js (by omega) (by omega) hb hk hc
    have h5 := reffinals_pure t l b js (by omega) (by omega) hbl (by omega) hb hk hc
    have hfl := finals_len t l b js
    generalize finalsR t l b js = f at h4 h5 hfl
    have h6 := csame_pure f f (by omega)
    have e6 : decide (f = f) = true := decide_eq_true rfl
    rw [e6] at h6
    have h7 := refchain_pure t js (by omega) (by omega)
    have h8 := next_T t l b js fin (by omega) (by omega) hb hk hc
    have h9 := refnext_pure t l b js fin (by omega) (by omega) hbl (by omega) hb hk hc
    generalize nextR t l b js fin = n at h8 h9
    have h10 := best_pure t js fin (by omega)
    have h11 := refbest_pure t js fin (by omega) (by omega)
    generalize bestR t js fin = o at h10 h11
    have h12 := chain_pure t js (by omega)
    generalize chainR t js = x at h7 h12
    have e7 : decide (n = n) = true := decide_eq_true rfl
    have e8 : decide (o = o) = true := decide_eq_true rfl
    have e9 : decide (x = x) = true := decide_eq_true rfl
    refine eff_of_tr Tryd.func3 rfl (Nat.le_of_ble_eq_true rfl) (by first | rfl | (simp only [AV.idsB, AV.idsBL, Bool.and_true, Bool.true_and] <;> rfl)) fun E hE hP => ?_
    first | apply tr_m (by rw [hE]; rfl) | (refine Tr.seq ?_; apply tr_m (by rw [hE]; rfl))
    intro Q hQ
    simp only [go_sem, seval]
    iterate 3 ((refine vm_op ?_); intro r hr; simp only [go_sem, seval]; subst hr)
    exact hQ
    first | apply tr_m (by rw [hE]; rfl) | (refine Tr.seq ?_; apply tr_m (by rw [hE]; rfl))
    intro Q hQ
    simp only [go_sem, seval]
    (refine vm_op ?_); intro r hr; simp only [go_sem, seval]
    refine call_eff (fun n => n) [] [] rfl rfl rfl rfl (enters_of Tryd.func9 (by kernel_rfl) rfl) (awake_T) rfl rfl (by repeat' (first | exact rfl | exact trivial | constructor)) rfl rfl rfl ?_
    simp only [renH_nil, renH_cons, effR, go_sem, seval]
    subst hr
    (refine vm_op ?_); intro r hr; simp only [go_sem, seval]; subst hr
    exact hQ
    first | apply tr_m (by rw [hE]; rfl) | (refine Tr.seq ?_; apply tr_m (by rw [hE]; rfl))
    intro Q hQ
    simp only [go_sem, seval]
    iterate 3 ((refine vm_op ?_); intro r hr; simp only [go_sem, seval]; subst hr)
    (refine vm_op ?_); intro r hr; simp only [go_sem, seval]
    refine call_fn rfl rfl rfl rfl (enters_of Tryd.func10 (by kernel_rfl) rfl) (hf) rfl rfl rfl ?_
    simp only [go_sem, seval]
    subst hr
    (refine vm_op ?_); intro r hr; simp only [go_sem, seval]; subst hr
    exact hQ
    first | apply tr_m (by rw [hE]; rfl) | (refine Tr.seq ?_; apply tr_m (by rw [hE]; rfl))
    intro Q hQ
    simp only [go_sem, seval]
    iterate 6 ((first | refine vm_op ?_ | refine vm_if rfl ?_ | refine vm_no rfl ?_ | refine vm_skip rfl ?_); intro r hr; simp only [go_sem, seval]; subst hr)
    exact hQ
    first | refine Tr.cond rfl (fun h => by cases h) (fun _ => ?_) | refine Tr.seq (Tr.cond rfl (fun h => by cases h) (fun _ => ?_))
    refine Tr.skip ?_
    try simp only [blockK, thenK, ↓reduceIte]
    first | apply tr_md mixed _ (keepAll _) (by rw [hE]; rfl) (by kernel_rfl) | (refine Tr.seq ?_; apply tr_md mixed _ (keepAll _) (by rw [hE]; rfl) (by kernel_rfl))
    intro Q hQ
    simp only [go_sem, seval]
    iterate 4 ((refine vd2_q rfl ?_); intro r hr; simp only [go_sem, seval]; subst hr)
    (refine vd2_x rfl ?_); intro r hr; simp only [go_sem, seval]
    refine call_eff (fun n => n) [true, true, true, true] [] rfl rfl rfl rfl (enters_of Tryd.func12 (by kernel_rfl) rfl) (h1) rfl rfl (by repeat' (first | exact rfl | exact trivial | constructor)) rfl rfl rfl ?_
    simp only [renH_nil, renH_cons, effR, go_sem, seval]
    subst hr
    iterate 4 ((refine vd2_q rfl ?_); intro r hr; simp only [go_sem, seval]; subst hr)
    (refine vd2_x rfl ?_); intro r hr; simp only [go_sem, seval]
    refine call_fn rfl rfl rfl rfl (enters_of Tryd.func13 (by kernel_rfl) rfl) (h2) rfl rfl rfl ?_
    simp only [go_sem, seval]
    subst hr
    (refine vd2_x rfl ?_); intro r hr; simp only [go_sem, seval]
    refine call_fn rfl rfl rfl rfl (enters_of Tryd.func11 (by kernel_rfl) rfl) (h3) rfl rfl rfl ?_
    simp only [go_sem, seval]
    subst hr
    (refine vd2_q rfl ?_); intro r hr; simp only [go_sem, seval]; subst hr
    exact hQ
    first | apply tr_md mixed _ (keepAll _) (by rw [hE]; rfl) (by kernel_rfl) | (refine Tr.seq ?_; apply tr_md mixed _ (keepAll _) (by rw [hE]; rfl) (by kernel_rfl))
    intro Q hQ
    simp only [go_sem, seval]
    iterate 4 ((refine vd2_q rfl ?_); intro r hr; simp only [go_sem, seval]; subst hr)
    (refine vd2_x rfl ?_); intro r hr; simp only [go_sem, seval]
    refine call_eff (fun n => n) [true, true, true, true] [] rfl rfl rfl rfl (enters_of Tryd.func14 (by kernel_rfl) rfl) (h4) rfl rfl (by repeat' (first | exact rfl | exact trivial | constructor)) rfl rfl rfl ?_
    simp only [renH_nil, renH_cons, effR, go_sem, seval]
    subst hr
    iterate 4 ((refine vd2_q rfl ?_); intro r hr; simp only [go_sem, seval]; subst hr)
    (refine vd2_x rfl ?_); intro r hr; simp only [go_sem, seval]
    refine call_fn rfl rfl rfl rfl (enters_of Tryd.func15 (by kernel_rfl) rfl) (h5) rfl rfl rfl ?_
    simp only [go_sem, seval]
    subst hr
    (refine vd2_x rfl ?_); intro r hr; simp only [go_sem, seval]
    refine call_fn rfl rfl rfl rfl (enters_of Tryd.func11 (by kernel_rfl) rfl) (h6) rfl rfl rfl ?_
    simp only [go_sem, seval]
    subst hr
    (refine vd2_q rfl ?_); intro r hr; simp only [go_sem, seval]; subst hr
    exact hQ
    first | apply tr_m (by rw [hE]; rfl) | (refine Tr.seq ?_; apply tr_m (by rw [hE]; rfl))
    intro Q hQ
    simp only [go_sem, seval]
    iterate 2 ((refine vm_op ?_); intro r hr; simp only [go_sem, seval]; subst hr)
    (refine vm_op ?_); intro r hr; simp only [go_sem, seval]
    refine call_fn rfl rfl rfl rfl (enters_of Tryd.func16 (by kernel_rfl) rfl) (h7) rfl rfl rfl ?_
    simp only [go_sem, seval]
    subst hr
    (refine vm_op ?_); intro r hr; simp only [go_sem, seval]; subst hr
    exact hQ
    first | apply tr_md mixed _ (keepAll _) (by rw [hE]; rfl) (by kernel_rfl) | (refine Tr.seq ?_; apply tr_md mixed _ (keepAll _) (by rw [hE]; rfl) (by kernel_rfl))
    intro Q hQ
    simp only [go_sem, seval]
    iterate 10 ((first | refine vd2_q rfl ?_ | refine vd2_goq rfl rfl ?_ | refine vd2_no rfl ?_ | refine vd2_skip rfl ?_); intro r hr; simp only [e7, e8, e9, go_sem, seval]; subst hr)
    (refine vd2_gox rfl rfl ?_); intro r hr; simp only [e7, e8, e9, go_sem, seval]
    refine call_eff (fun n => n) [true, true, true, true, true] [] rfl rfl rfl rfl (enters_of Tryd.func17 (by kernel_rfl) rfl) (h8) rfl rfl (by repeat' (first | exact rfl | exact trivial | constructor)) rfl rfl rfl ?_
    simp only [renH_nil, renH_cons, effR, go_sem, seval]
    try simp only [e7, e8, e9, go_sem, seval]
    subst hr
    iterate 5 ((first | refine vd2_goq rfl rfl ?_ | refine vd2_no rfl ?_ | refine vd2_skip rfl ?_); intro r hr; simp only [e7, e8, e9, go_sem, seval]; subst hr)
    (refine vd2_gox rfl rfl ?_); intro r hr; simp only [e7, e8, e9, go_sem, seval]
    refine call_fn rfl rfl rfl rfl (enters_of Tryd.func18 (by kernel_rfl) rfl) (h9) rfl rfl rfl ?_
    simp only [go_sem, seval]
    try simp only [e7, e8, e9, go_sem, seval]
    subst hr
    iterate 6 ((first | refine vd2_q rfl ?_ | refine vd2_goq rfl rfl ?_ | refine vd2_no rfl ?_ | refine vd2_skip rfl ?_); intro r hr; simp only [e7, e8, e9, go_sem, seval]; subst hr)
    (refine vd2_gox rfl rfl ?_); intro r hr; simp only [e7, e8, e9, go_sem, seval]
    refine call_fn rfl rfl rfl rfl (enters_of Tryd.func19 (by kernel_rfl) rfl) (h10) rfl rfl rfl ?_
    simp only [go_sem, seval]
    try simp only [e7, e8, e9, go_sem, seval]
    subst hr
    iterate 3 ((first | refine vd2_goq rfl rfl ?_ | refine vd2_no rfl ?_ | refine vd2_skip rfl ?_); intro r hr; simp only [e7, e8, e9, go_sem, seval]; subst hr)
    (refine vd2_gox rfl rfl ?_); intro r hr; simp only [e7, e8, e9, go_sem, seval]
    refine call_fn rfl rfl rfl rfl (enters_of Tryd.func20 (by kernel_rfl) rfl) (h11) rfl rfl rfl ?_
    simp only [go_sem, seval]
    try simp only [e7, e8, e9, go_sem, seval]
    subst hr
    iterate 5 ((first | refine vd2_q rfl ?_ | refine vd2_goq rfl rfl ?_ | refine vd2_no rfl ?_ | refine vd2_skip rfl ?_); intro r hr; simp only [e7, e8, e9, go_sem, seval]; subst hr)
    (refine vd2_gox rfl rfl ?_); intro r hr; simp only [e7, e8, e9, go_sem, seval]
    refine call_fn rfl rfl rfl rfl (enters_of Tryd.func21 (by kernel_rfl) rfl) (h12) rfl rfl rfl ?_
    simp only [go_sem, seval]
    try simp only [e7, e8, e9, go_sem, seval]
    subst hr
    iterate 2 ((first | refine vd2_goq rfl rfl ?_ | refine vd2_no rfl ?_ | refine vd2_skip rfl ?_); intro r hr; simp only [e7, e8, e9, go_sem, seval]; subst hr)
    iterate 2 ((refine vd2_q rfl ?_); intro r hr; simp only [e7, e8, e9, go_sem, seval]; subst hr)
    exact hQ
    refine Tr.ret ?_
    simp only [Tryd.f3, go_sem, seval]
    exact ⟨fun n => n, ⟨⟨rfl, rfl, rfl⟩, trivial⟩, rfl, fun _ _ => rfl⟩
  · have ef : (decide (t.length ≤ 20) && (decide (l.length ≤ 20) && decide (js.length ≤ 20))) = false := by
      by_cases h1 : t.length ≤ 20
      · by_cases h2 : l.length ≤ 20
        · have : ¬ js.length ≤ 20 := fun h => hs ⟨h1, h2, h⟩
          simp [this]
        · simp [h2]
      · simp [h1]
    rw [ef] at hf
    refine eff_of_tr Tryd.func3 rfl (Nat.le_of_ble_eq_true rfl) (by first | rfl | (simp only [AV.idsB, AV.idsBL, Bool.and_true, Bool.true_and] <;> rfl)) fun E hE hP => ?_
    first | apply tr_m (by rw [hE]; rfl) | (refine Tr.seq ?_; apply tr_m (by rw [hE]; rfl))
    intro Q hQ
    simp only [go_sem, seval]
    iterate 3 ((refine vm_op ?_); intro r hr; simp only [go_sem, seval]; subst hr)
    exact hQ
    first | apply tr_m (by rw [hE]; rfl) | (refine Tr.seq ?_; apply tr_m (by rw [hE]; rfl))
    intro Q hQ
    simp only [go_sem, seval]
    (refine vm_op ?_); intro r hr; simp only [go_sem, seval]
    refine call_eff (fun n => n) [] [] rfl rfl rfl rfl (enters_of Tryd.func9 (by kernel_rfl) rfl) (awake_T) rfl rfl (by repeat' (first | exact rfl | exact trivial | constructor)) rfl rfl rfl ?_
    simp only [renH_nil, renH_cons, effR, go_sem, seval]
    subst hr
    (refine vm_op ?_); intro r hr; simp only [go_sem, seval]; subst hr
    exact hQ
    first | apply tr_m (by rw [hE]; rfl) | (refine Tr.seq ?_; apply tr_m (by rw [hE]; rfl))
    intro Q hQ
    simp only [go_sem, seval]
    iterate 3 ((refine vm_op ?_); intro r hr; simp only [go_sem, seval]; subst hr)
    (refine vm_op ?_); intro r hr; simp only [go_sem, seval]
    refine call_fn rfl rfl rfl rfl (enters_of Tryd.func10 (by kernel_rfl) rfl) (hf) rfl rfl rfl ?_
    simp only [go_sem, seval]
    subst hr
    (refine vm_op ?_); intro r hr; simp only [go_sem, seval]; subst hr
    exact hQ
    first | apply tr_m (by rw [hE]; rfl) | (refine Tr.seq ?_; apply tr_m (by rw [hE]; rfl))
    intro Q hQ
    simp only [go_sem, seval]
    iterate 6 ((first | refine vm_op ?_ | refine vm_if rfl ?_ | refine vm_no rfl ?_ | refine vm_skip rfl ?_); intro r hr; simp only [go_sem, seval]; subst hr)
    exact hQ
    first | refine Tr.cond (b := true) rfl (fun _ => ?_) (fun h => by cases h) | refine Tr.seq (Tr.cond (b := true) rfl (fun _ => ?_) (fun h => by cases h))
    first | apply tr_m (by rw [hE]; rfl) | (refine Tr.seq ?_; apply tr_m (by rw [hE]; rfl))
    intro Q hQ
    simp only [go_sem, seval]
    iterate 2 ((refine vm_op ?_); intro r hr; simp only [go_sem, seval]; subst hr)
    exact hQ
    refine Tr.ret ?_
    simp only [Tryd.f3, go_sem, seval]
    exact ⟨fun n => n, ⟨⟨rfl, rfl, rfl⟩, trivial⟩, rfl, fun _ _ => rfl⟩

end Go.Proofs.YtdlejnafhmpobaaDoor

/- Who is above whom. -/
import Derived.Test.YtdlejnafhmpobaaDoorFbP
set_option linter.unusedSimpArgs false
namespace Go.Proofs.YtdlejnafhmpobaaDoor
open Go Go.Ab

def parI (t : List Node) (a : Int) : Int := (t.getD a.toNat zNode).parent
def aboveN (t : List Node) (i : Int) : Nat → Int → Bool
  | 0, _ => false
  | n + 1, a => if a = -1 then false else if a = i then true else if a < i then false else aboveN t i n (parI t a)
def aboveF (t : List Node) (i a : Int) : Bool := aboveN t i (a + 1).toNat a
def aboveR (t : List Node) (i k : Int) : Bool := isB t [i, k] && aboveF t i k

theorem par_range {t : List Node} (hm : mayB t = true) {a : Int} (h0 : 0 ≤ a) (h1 : a < t.length) : parI t a = -1 ∨ (0 ≤ parI t a ∧ parI t a < a) := by
  have := may_parent hm (k := a.toNat) (by omega)
  unfold parI
  omega
theorem aboveN_none (t : List Node) (i : Int) (m : Nat) : aboveN t i m (-1) = false := by cases m <;> simp [aboveN]
theorem aboveN_fuel {t : List Node} (hm : mayB t = true) (i : Int) : ∀ (m m' : Nat) (a : Int), 0 ≤ a → a < t.length → a < m → a < m' → aboveN t i m a = aboveN t i m' a
  | 0, _, a, h0, _, h1, _ => by omega
  | _, 0, a, h0, _, _, h1 => by omega
  | m + 1, m' + 1, a, h0, h1, h2, h3 => by
    simp only [aboveN]
    split
    · rfl
    · split
      · rfl
      · split
        · rfl
        · rcases par_range hm h0 h1 with h | ⟨h4, h5⟩
          · rw [h, aboveN_none, aboveN_none]
          · exact aboveN_fuel hm i m m' _ h4 (by omega) (by omega) (by omega)
theorem aboveF_step {t : List Node} (hm : mayB t = true) {i a : Int} (h0 : 0 ≤ a) (h1 : a < t.length) : aboveF t i a = if a = i then true else if a < i then false else aboveF t i (parI t a) := by
  obtain ⟨m, hmm⟩ : ∃ m, (a + 1).toNat = m + 1 := ⟨a.toNat, by omega⟩
  unfold aboveF
  rw [hmm, aboveN, if_neg (by omega)]
  split
  · rfl
  · split
    · rfl
    · rcases par_range hm h0 h1 with h | ⟨h4, h5⟩
      · rw [h, aboveN_none, aboveN_none]
      · exact aboveN_fuel hm i _ _ _ h4 (by omega) (by omega) (by omega)

theorem tline_own (t : List Node) (k : Int) : Own Tryd.prog 45 [tav t, .int .i64 k] (.fn (.func 71) [] [.ptr 0 [] 0, .ptr 1 [] 0]) [(0, .var (.int .i64 k)), (1, .var (tav t))] := by
  refine own_of_tr Tryd.func45 rfl (Nat.le_of_ble_eq_true rfl) rfl fun E hE hP => ?_
  first | refine tr_seq_region (by rw [hE]; rfl) ?_ | (refine Tr.seq ?_; refine tr_seq_region (by rw [hE]; rfl) ?_)
  repeat (refine vc_op rfl ?_; simp only [go_sem, seval])
  refine vc_nil ?_
  first | refine tr_seq_region (by rw [hE]; rfl) ?_ | (refine Tr.seq ?_; refine tr_seq_region (by rw [hE]; rfl) ?_)
  repeat (refine vc_op rfl ?_; simp only [go_sem, seval])
  refine vc_nil ?_
  refine Tr.ret ?_
  simp only [Tryd.f45, go_sem, seval]
  exact ⟨fun | 0 => 16 | 1 => 0 | n => n, rfl, ⟨⟨rfl, rfl, rfl⟩, ⟨rfl, rfl, rfl⟩, trivial⟩, rfl⟩

def st37 (t : List Node) (i k : Int) : S where
  fr := [(4, .ptr 1 [] 0), (6, .ptr 2 [] 0), (16, .fn (.func 71) [] [.ptr 3 [] 0, .ptr 4 [] 0])]
  hp := [(1, .var (.int .i64 i)), (2, .var (.bool false)), (3, .var (.int .i64 k)), (4, .var (tav t))]
  nx := 5
def st66 (t : List Node) (i : Int) (l : Nat) (b : LB) (a : Int) : S where
  fr := [(0, .fn (.yield l) [] []), (1, .ptr 3 [] 0), (2, .ptr 4 [] 0)]
  hp := [(6, .lp b .ready none), (5, .dfr), (1, .var (.int .i64 i)), (2, .var (.bool false)), (3, .var (.int .i64 a)), (4, .var (tav t))]
  nx := 7

set_option maxRecDepth 10000 in
theorem above_pure (t : List Node) (i k : Int) : Pure Tryd.prog 23 [tav t, .int .i64 i, .int .i64 k] (.bool (aboveR t i k)) := by
  have hic : Pure Tryd.prog 44 [tav t, .sl [.int .i64 i, .int .i64 k] false] (.bool (isB t [i, k])) := is_pure t [i, k] (by simp)
  refine pure_of_trM Tryd.func23 rfl (Nat.le_of_ble_eq_true rfl) rfl fun E hE hP => ?_
  first | refine tr_seq_region (by rw [hE]; rfl) ?_ | (refine Tr.seq ?_; refine tr_seq_region (by rw [hE]; rfl) ?_)
  repeat (refine vc_op rfl ?_; simp only [go_sem, seval])
  refine vc_nil ?_
  refine Tr.scope ?_
  by_cases hb : isB t [i, k] = true
  · have hm : mayB t = true := by
      cases h : mayB t with
      | true => rfl
      | false => simp [isB, h] at hb
    have hk : 0 ≤ k ∧ k < t.length := by
      simp [isB, badI, hm] at hb; omega
    have er : aboveR t i k = aboveF t i k := by unfold aboveR; rw [hb, Bool.true_and]
    rw [hb] at hic
    first | apply tr_m (by rw [hE]; rfl) | (refine Tr.seq ?_; apply tr_m (by rw [hE]; rfl))
    intro Q hQ
    simp only [List.toList_toArray, List.map_cons, List.map_nil, mo, guardSlot, Option.map_some, Option.map_none, List.getElem?_toArray, List.getElem?_cons_succ, List.getElem?_cons_zero, Option.bind_some]
    iterate 4 ((refine vm_op ?_); intro r hr; simp only [go_sem, seval]; subst hr)
    (refine vm_op ?_); intro r hr; simp only [go_sem, seval]
    refine call_fn rfl rfl rfl rfl (enters_of Tryd.func44 (by kernel_rfl) rfl) (hic) rfl rfl rfl ?_
    simp only [go_sem, seval]
    subst hr
    (refine vm_op ?_); intro r hr; simp only [go_sem, seval]; subst hr
    exact hQ
    first | refine Tr.cond rfl (fun h => by cases h) (fun _ => ?_) | refine Tr.seq (Tr.cond rfl (fun h => by cases h) (fun _ => ?_))
    refine Tr.skip ?_
    try simp only [blockK, thenK, ↓reduceIte]
    refine Tr.seq (Tr.label ?_)
    simp only [thenK]
    first | apply tr_m (by rw [hE]; rfl) | (refine Tr.seq ?_; apply tr_m (by rw [hE]; rfl))
    intro Q hQ
    simp only [List.toList_toArray, List.map_cons, List.map_nil, mo, guardSlot, Option.map_some, Option.map_none, List.getElem?_toArray, List.getElem?_cons_succ, List.getElem?_cons_zero, Option.bind_some]
    iterate 2 ((refine vm_op ?_); intro r hr; simp only [go_sem, seval]; subst hr)
    (refine vm_op ?_); intro r hr; simp only [go_sem, seval]
    refine call_own rfl rfl rfl rfl (enters_of Tryd.func45 (by kernel_rfl) rfl) (tline_own t k) rfl rfl ?_
    simp only [go_sem, seval]
    subst hr
    exact hQ
    refine Tr.wk (s' := st37 t i k) ?_ ?_
    · refine wk_ren (fun | 1 => 16 | 2 => 32 | 3 => 176 | 4 => 177 | n => n) ?_ ?_ rfl rfl rfl
      · repeat' (first | exact rfl | exact trivial | constructor)
      · repeat' (first | exact rfl | exact trivial | constructor)
    · unfold st37
      first | refine Tr.block ?_ | (refine Tr.seq ?_; refine Tr.block ?_)
      refine Tr.range (fid := 71) (fn := Tryd.f71) rfl (enters_of Tryd.func71 (by kernel_rfl) rfl) Tryd.func71 rfl rfl (Nat.le_of_ble_eq_true rfl) ?_
      have hE0 := hE
      intro E' l b hE hP' sd
      have hP : E'.pn = 7 := hP'
      rw [er]
      first | refine Tr.block ?_ | (refine Tr.seq ?_; refine Tr.block ?_)
      refine Tr.loop (st66 t i l b) (fun a => (a = -1 ∨ (0 ≤ a ∧ a < t.length)) ∧ aboveF t i a = aboveF t i k) (fun a => (a + 1).toNat) k ⟨.inr hk, rfl⟩ ?_ ?_
      · refine wk_ren (fun n => n) ?_ ?_ rfl rfl rfl
        · repeat' (first | exact rfl | exact trivial | constructor)
        · repeat' (first | exact rfl | exact trivial | constructor)
      · rintro a ⟨ha, habove⟩
        unfold st66
        rcases ha with ha | ⟨ha0, ha1⟩
        · subst ha
          have er2 : aboveF t i k = false := by rw [← habove]; rfl
          first | refine tr_seq_y 5 sd (by rw [hE]; rfl) rfl rfl rfl ?_ | (refine Tr.seq ?_; refine tr_seq_y 5 sd (by rw [hE]; rfl) rfl rfl rfl ?_)
          simp only [List.toList_toArray, List.take_succ_cons, List.take_zero]
          repeat (first | (refine vc_op rfl ?_; simp only [go_sem, seval]) | (refine vc_go rfl rfl rfl ?_; simp only [go_sem, seval]) | (refine vc_no rfl rfl rfl ?_; simp only [go_sem, seval]) | (refine vc_skip rfl rfl rfl ?_; simp only [go_sem, seval]))
          refine vc_nil ?_
          refine gy_no rfl rfl rfl ?_
          simp only [go_sem, seval]
          repeat (refine vc_op rfl ?_; simp only [go_sem, seval])
          refine vc_nil ?_
          first | refine Tr.cond (b := false) rfl (fun h => by cases h) (fun _ => ?_) | refine Tr.seq (Tr.cond (b := false) rfl (fun h => by cases h) (fun _ => ?_))
          refine Tr.exit ?_
          try simp only [blockK, thenK, ↓reduceIte]
          have hE := hE0
          refine ⟨rfl, _, _, rfl, by simp, rfl, ?_⟩
          simp only [goOn]
          simp only [HP.del, List.filter_cons, List.filter_nil, Bool.not_false, Bool.not_true, if_true, Bool.false_eq_true, if_false, go_sem, seval]
          rw [er2]
          first | apply tr_m (by rw [hE]; rfl) | (refine Tr.seq ?_; apply tr_m (by rw [hE]; rfl))
          intro Q hQ
          simp only [List.toList_toArray, List.map_cons, List.map_nil, mo, guardSlot, Option.map_some, Option.map_none, List.getElem?_toArray, List.getElem?_cons_succ, List.getElem?_cons_zero, Option.bind_some]
          (refine vm_op ?_); intro r hr; simp only [go_sem, seval]; subst hr
          exact hQ
          refine Tr.ret ?_
          simp only [noGoto]
          refine ⟨by simp, fun o ho => by rw [List.mem_singleton.1 ho]; rfl, ?_⟩
          simp only [HP.drop, List.contains_cons, List.contains_nil, Bool.or_false, Bool.false_or, Bool.or_true, List.filter_cons, List.filter_nil, Bool.not_false, Bool.not_true, if_true, Bool.false_eq_true, if_false,  Tryd.f23, go_sem, seval]
        · have hstep := aboveF_step hm (i := i) ha0 ha1
          have hpr := par_range hm ha0 ha1
          obtain ⟨j, rfl⟩ : ∃ j : Nat, a = j := ⟨a.toNat, by omega⟩
          have ej : ((j : Int) != -1) = true := by rw [int_bne, decide_eq_false (by omega)]; rfl
          first | refine tr_seq_y 5 sd (by rw [hE]; rfl) rfl rfl rfl ?_ | (refine Tr.seq ?_; refine tr_seq_y 5 sd (by rw [hE]; rfl) rfl rfl rfl ?_)
          simp only [List.toList_toArray, List.take_succ_cons, List.take_zero]
          repeat (first | (refine vc_op rfl ?_; simp only [ej, go_sem, seval]) | (refine vc_go rfl rfl rfl ?_; simp only [ej, go_sem, seval]) | (refine vc_no rfl rfl rfl ?_; simp only [ej, go_sem, seval]) | (refine vc_skip rfl rfl rfl ?_; simp only [ej, go_sem, seval]))
          refine vc_nil ?_
          have hE1 := hE
          have hP1 := hP
          refine gy_if rfl rfl rfl ?_
          refine ⟨_, rfl, rfl, rfl, rfl, by rw [hE0]; rfl, rfl, ?_⟩
          intro Er hE hP
          rw [hE0] at hE
          simp only [frPut, List.zip_cons_cons, List.zip_nil_left, List.zip_nil_right, List.foldl_cons, List.foldl_nil, List.toList_toArray, List.map_cons, List.map_nil, go_sem, seval]
          refine tr_region (by rw [hE]; rfl) ?_
          repeat (refine vc_op rfl ?_; simp only [go_sem, seval])
          refine vc_nil ?_
          refine ⟨rfl, ?_⟩
          simp only [go_sem, seval]
          first | refine Tr.block ?_ | (refine Tr.seq ?_; refine Tr.block ?_)
          first | refine Tr.block ?_ | (refine Tr.seq ?_; refine Tr.block ?_)
          by_cases h1 : (j : Int) = i
          · have e1 : decide ((j : Int) = i) = true := decide_eq_true h1
            have er2 : aboveF t i k = true := by rw [← habove, hstep, if_pos h1]
            first | apply tr_m (by rw [hE]; rfl) | (refine Tr.seq ?_; apply tr_m (by rw [hE]; rfl))
            intro Q hQ
            simp only [List.toList_toArray, List.map_cons, List.map_nil, mo, guardSlot, Option.map_some, Option.map_none, List.getElem?_toArray, List.getElem?_cons_succ, List.getElem?_cons_zero, Option.bind_some]
            iterate 4 ((refine vm_op ?_); intro r hr; simp only [int_beq, e1, go_sem, seval]; subst hr)
            exact hQ
            first | refine Tr.cond (b := true) rfl (fun _ => ?_) (fun h => by cases h) | refine Tr.seq (Tr.cond (b := true) rfl (fun _ => ?_) (fun h => by cases h))
            first | apply tr_m (by rw [hE]; rfl) | (refine Tr.seq ?_; apply tr_m (by rw [hE]; rfl))
            intro Q hQ
            simp only [List.toList_toArray, List.map_cons, List.map_nil, mo, guardSlot, Option.map_some, Option.map_none, List.getElem?_toArray, List.getElem?_cons_succ, List.getElem?_cons_zero, Option.bind_some]
            (refine vm_op ?_); intro r hr; simp only [go_sem, seval]; subst hr
            exact hQ
            refine Tr.ret ?_
            try simp only [blockK, thenK, ↓reduceIte]
            refine ⟨rfl, ?_⟩
            simp only [go_sem, seval]
            repeat (refine vc_op rfl ?_; simp only [go_sem, seval])
            refine vc_nil ?_
            have hE := hE1
            have hP := hP1
            first | refine Tr.cond (b := false) rfl (fun h => by cases h) (fun _ => ?_) | refine Tr.seq (Tr.cond (b := false) rfl (fun h => by cases h) (fun _ => ?_))
            refine Tr.exit ?_
            try simp only [blockK, thenK, ↓reduceIte]
            have hE := hE0
            refine ⟨rfl, _, _, rfl, by simp, rfl, ?_⟩
            simp only [goOn]
            simp only [HP.del, List.filter_cons, List.filter_nil, Bool.not_false, Bool.not_true, if_true, Bool.false_eq_true, if_false, go_sem, seval]
            rw [er2]
            simp only [noGoto]
            refine ⟨by simp, fun o ho => by rw [List.mem_singleton.1 ho]; rfl, ?_⟩
            simp only [HP.drop, List.contains_cons, List.contains_nil, Bool.or_false, Bool.false_or, Bool.or_true, List.filter_cons, List.filter_nil, Bool.not_false, Bool.not_true, if_true, Bool.false_eq_true, if_false,  Tryd.f23, go_sem, seval]
          · have e1 : decide ((j : Int) = i) = false := decide_eq_false h1
            by_cases h2 : (j : Int) < i
            · have e2 : decide ((j : Int) < i) = true := decide_eq_true h2
              have er2 : aboveF t i k = false := by rw [← habove, hstep, if_neg h1, if_pos h2]
              first | apply tr_m (by rw [hE]; rfl) | (refine Tr.seq ?_; apply tr_m (by rw [hE]; rfl))
              intro Q hQ
              simp only [List.toList_toArray, List.map_cons, List.map_nil, mo, guardSlot, Option.map_some, Option.map_none, List.getElem?_toArray, List.getElem?_cons_succ, List.getElem?_cons_zero, Option.bind_some]
              iterate 4 ((refine vm_op ?_); intro r hr; simp only [int_beq, e1, go_sem, seval]; subst hr)
              exact hQ
              first | refine Tr.cond (b := false) rfl (fun h => by cases h) (fun _ => ?_) | refine Tr.seq (Tr.cond (b := false) rfl (fun h => by cases h) (fun _ => ?_))
              first | apply tr_m (by rw [hE]; rfl) | (refine Tr.seq ?_; apply tr_m (by rw [hE]; rfl))
              intro Q hQ
              simp only [List.toList_toArray, List.map_cons, List.map_nil, mo, guardSlot, Option.map_some, Option.map_none, List.getElem?_toArray, List.getElem?_cons_succ, List.getElem?_cons_zero, Option.bind_some]
              iterate 4 ((refine vm_op ?_); intro r hr; simp only [e2, go_sem, seval]; subst hr)
              exact hQ
              first | refine Tr.cond (b := true) rfl (fun _ => ?_) (fun h => by cases h) | refine Tr.seq (Tr.cond (b := true) rfl (fun _ => ?_) (fun h => by cases h))
              refine Tr.exit ?_
              try simp only [blockK, thenK, ↓reduceIte]
              refine ⟨rfl, ?_⟩
              simp only [go_sem, seval]
              repeat (refine vc_op rfl ?_; simp only [go_sem, seval])
              refine vc_nil ?_
              have hE := hE1
              have hP := hP1
              first | refine Tr.cond (b := false) rfl (fun h => by cases h) (fun _ => ?_) | refine Tr.seq (Tr.cond (b := false) rfl (fun h => by cases h) (fun _ => ?_))
              refine Tr.exit ?_
              try simp only [blockK, thenK, ↓reduceIte]
              have hE := hE0
              refine ⟨rfl, _, _, rfl, by simp, rfl, ?_⟩
              simp only [goOn]
              simp only [HP.del, List.filter_cons, List.filter_nil, Bool.not_false, Bool.not_true, if_true, Bool.false_eq_true, if_false, go_sem, seval]
              rw [er2]
              first | apply tr_m (by rw [hE]; rfl) | (refine Tr.seq ?_; apply tr_m (by rw [hE]; rfl))
              intro Q hQ
              simp only [List.toList_toArray, List.map_cons, List.map_nil, mo, guardSlot, Option.map_some, Option.map_none, List.getElem?_toArray, List.getElem?_cons_succ, List.getElem?_cons_zero, Option.bind_some]
              (refine vm_op ?_); intro r hr; simp only [go_sem, seval]; subst hr
              exact hQ
              refine Tr.ret ?_
              simp only [noGoto]
              refine ⟨by simp, fun o ho => by rw [List.mem_singleton.1 ho]; rfl, ?_⟩
              simp only [HP.drop, List.contains_cons, List.contains_nil, Bool.or_false, Bool.false_or, Bool.or_true, List.filter_cons, List.filter_nil, Bool.not_false, Bool.not_true, if_true, Bool.false_eq_true, if_false,  Tryd.f23, go_sem, seval]
            · have e2 : decide ((j : Int) < i) = false := decide_eq_false h2
              rw [if_neg h1, if_neg h2] at hstep
              have hn := nth_node (t := t) (k := j) (by omega)
              have hpar : (t.getD j zNode).parent = parI t j := by unfold parI; rw [Int.toNat_natCast]
              first | apply tr_m (by rw [hE]; rfl) | (refine Tr.seq ?_; apply tr_m (by rw [hE]; rfl))
              intro Q hQ
              simp only [List.toList_toArray, List.map_cons, List.map_nil, mo, guardSlot, Option.map_some, Option.map_none, List.getElem?_toArray, List.getElem?_cons_succ, List.getElem?_cons_zero, Option.bind_some]
              iterate 4 ((refine vm_op ?_); intro r hr; simp only [int_beq, e1, go_sem, seval]; subst hr)
              exact hQ
              first | refine Tr.cond (b := false) rfl (fun h => by cases h) (fun _ => ?_) | refine Tr.seq (Tr.cond (b := false) rfl (fun h => by cases h) (fun _ => ?_))
              first | apply tr_m (by rw [hE]; rfl) | (refine Tr.seq ?_; apply tr_m (by rw [hE]; rfl))
              intro Q hQ
              simp only [List.toList_toArray, List.map_cons, List.map_nil, mo, guardSlot, Option.map_some, Option.map_none, List.getElem?_toArray, List.getElem?_cons_succ, List.getElem?_cons_zero, Option.bind_some]
              iterate 4 ((refine vm_op ?_); intro r hr; simp only [e2, go_sem, seval]; subst hr)
              exact hQ
              first | refine Tr.cond (b := false) rfl (fun h => by cases h) (fun _ => ?_) | refine Tr.seq (Tr.cond (b := false) rfl (fun h => by cases h) (fun _ => ?_))
              refine Tr.skip ?_
              try simp only [blockK, thenK, ↓reduceIte]
              refine ⟨rfl, ?_⟩
              simp only [go_sem, seval]
              repeat (refine vc_op rfl ?_; simp only [go_sem, seval])
              refine vc_nil ?_
              have hE := hE1
              have hP := hP1
              first | refine Tr.cond (b := true) rfl (fun _ => ?_) (fun h => by cases h) | refine Tr.seq (Tr.cond (b := true) rfl (fun _ => ?_) (fun h => by cases h))
              refine Tr.skip ?_
              try simp only [blockK, thenK, ↓reduceIte]
              first | refine Tr.block ?_ | (refine Tr.seq ?_; refine Tr.block ?_)
              refine Tr.skip ?_
              try simp only [blockK, thenK, ↓reduceIte]
              apply tr_ml (by rw [hE]; rfl)
              intro Q hQ
              simp only [List.toList_toArray, List.map_cons, List.map_nil, mo, guardSlot, Option.map_some, Option.map_none, List.getElem?_toArray, List.getElem?_cons_succ, List.getElem?_cons_zero, Option.bind_some]
              iterate 7 ((refine vm_op ?_); intro r hr; simp only [hn, hpar, go_sem, seval]; subst hr)
              exact hQ
              try simp only [blockK, thenK, ↓reduceIte]
              refine ⟨parI t j, ⟨by omega, by rw [← hstep]; exact habove⟩, by omega, ?_⟩
              refine wk_ren (fun n => n) ?_ ?_ rfl rfl rfl
              · repeat' (first | exact rfl | exact trivial | constructor)
              · repeat' (first | exact rfl | exact trivial | constructor)
  · have hb : isB t [i, k] = false := by simpa using hb
    have er : aboveR t i k = false := by unfold aboveR; rw [hb, Bool.false_and]
    rw [hb] at hic
    first | apply tr_m (by rw [hE]; rfl) | (refine Tr.seq ?_; apply tr_m (by rw [hE]; rfl))
    intro Q hQ
    simp only [List.toList_toArray, List.map_cons, List.map_nil, mo, guardSlot, Option.map_some, Option.map_none, List.getElem?_toArray, List.getElem?_cons_succ, List.getElem?_cons_zero, Option.bind_some]
    iterate 4 ((refine vm_op ?_); intro r hr; simp only [go_sem, seval]; subst hr)
    (refine vm_op ?_); intro r hr; simp only [go_sem, seval]
    refine call_fn rfl rfl rfl rfl (enters_of Tryd.func44 (by kernel_rfl) rfl) (hic) rfl rfl rfl ?_
    simp only [go_sem, seval]
    subst hr
    (refine vm_op ?_); intro r hr; simp only [go_sem, seval]; subst hr
    exact hQ
    first | refine Tr.cond (b := true) rfl (fun _ => ?_) (fun h => by cases h) | refine Tr.seq (Tr.cond (b := true) rfl (fun _ => ?_) (fun h => by cases h))
    first | apply tr_m (by rw [hE]; rfl) | (refine Tr.seq ?_; apply tr_m (by rw [hE]; rfl))
    intro Q hQ
    simp only [List.toList_toArray, List.map_cons, List.map_nil, mo, guardSlot, Option.map_some, Option.map_none, List.getElem?_toArray, List.getElem?_cons_succ, List.getElem?_cons_zero, Option.bind_some]
    (refine vm_op ?_); intro r hr; simp only [go_sem, seval]; subst hr
    exact hQ
    refine Tr.ret ?_
    simp only [thenK, noGoto]
    rw [er]
    refine ⟨List.nodup_nil, fun o ho => (by cases ho), ?_⟩
    simp only [drop_none,  Tryd.f23, go_sem, seval]

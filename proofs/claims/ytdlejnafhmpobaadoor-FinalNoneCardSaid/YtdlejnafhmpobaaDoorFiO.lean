/- The reference: what may be final. -/
import Derived.Test.YtdlejnafhmpobaaDoorFiN
set_option linter.unusedSimpArgs false
set_option maxRecDepth 10000
namespace Go.Proofs.YtdlejnafhmpobaaDoor
open Go Go.Ab

def okC (l : List Link) : Prop := ∀ a ∈ l, 0 ≤ a.s.epoch ∧ 0 ≤ a.t.epoch ∧ a.s.epoch < 18446744073709551616 ∧ a.t.epoch < 18446744073709551616
def linkF (js : List Check) (c : Check) (a : Link) : Bool := decide (a.t ∈ js) && (decide (a.s = c) && decide (a.t.epoch = a.s.epoch + 1))
def finB (t : List Node) (l : List Link) (b : List Int) (js : List Check) (c : Check) : Bool := (countL t l b).any (linkF js c)
def finalsR (t : List Node) (l : List Link) (b : List Int) (js : List Check) : List Check := js.filter (finB t l b js)

def linkW (js : List Check) (c : Check) (a : Link) : Bool := decide (a.t ∈ js) && (decide (a.s = c) && decide (IntKind.u64.wrap (a.t.epoch - 1) = c.epoch))
def anyW (t : List Node) (l : List Link) (b : List Int) (js : List Check) (c : Check) (k : Nat) : Bool := (l.take k).any fun a => countB t b a && linkW js c a

theorem told_links {t : List Node} {l : List Link} {b : List Int} (h : toldR t l b = true) : mayB t = true ∧ lmayB l = true ∧ mayS b = true := by
  simpa [toldR] using h
theorem may_epoch {l : List Link} (h : lmayB l = true) {a : Link} (ha : a ∈ l) : a.s.epoch < a.t.epoch := (odd_false.1 ((may_spec h).2.1 a ha)).1
theorem finals_not {t : List Node} {l : List Link} {b : List Int} {js : List Check} (h : toldR t l b = false) : finalsR t l b js = [] := by
  unfold finalsR finB countL
  rw [if_neg (by simp [h])]
  simp
theorem anyW_all {t : List Node} {l : List Link} {b : List Int} {js : List Check} {c : Check} (h : toldR t l b = true) (hk : okC l) : anyW t l b js c l.length = finB t l b js c := by
  unfold anyW finB countL
  rw [if_pos h, List.take_length, List.any_filter, Bool.eq_iff_iff, List.any_eq_true, List.any_eq_true]
  have hl := (told_links h).2.1
  have e : ∀ a ∈ l, linkW js c a = linkF js c a := fun a ha => by
    have h1 := may_epoch hl ha
    have h2 := hk a ha
    have hw : IntKind.u64.wrap (a.t.epoch - 1) = a.t.epoch - 1 := wrapU_lt (by omega) (by omega)
    unfold linkW linkF
    rw [hw]
    by_cases hs : a.s = c
    · have : decide (a.t.epoch - 1 = c.epoch) = decide (a.t.epoch = a.s.epoch + 1) := decide_eq_decide.2 (by rw [hs]; omega)
      rw [this]
    · rw [decide_eq_false hs]; simp
  constructor
  · rintro ⟨a, ha, hb⟩
    exact ⟨a, ha, by rw [← e a ha]; exact hb⟩
  · rintro ⟨a, ha, hb⟩
    exact ⟨a, ha, by rw [e a ha]; exact hb⟩
theorem anyW_next {t : List Node} {l : List Link} {b : List Int} {js : List Check} {c : Check} {k : Nat} (h : k < l.length) : anyW t l b js c (k + 1) = (anyW t l b js c k || (countB t b l[k] && linkW js c l[k])) := by
  unfold anyW
  rw [List.take_add_one, List.getElem?_eq_getElem h, List.any_append]
  simp only [Option.toList_some, List.any_cons, List.any_nil, Bool.or_false]

def stF (t : List Node) (l : List Link) (b : List Int) (js : List Check) (i : Nat) : S where
  fr := [(1, .sl (l.map Link.av) false), (2, u64s b), (3, .sl (js.map Check.av) false), (4, .ptr 0 [] 0), (9, .ms 1 33 ((js.take i).filter (finB t l b js)).length), (10, .bool true), (11, .int .i64 i)]
  hp := [(0, .var (tav t)), (1, .row 33 (((js.take i).filter (finB t l b js)).map Check.av))]
  nx := 2
def stFi (t : List Node) (l : List Link) (b : List Int) (js : List Check) (i : Nat) (c : Check) (m : List Check) (k : Nat) : S where
  fr := [(1, .sl (l.map Link.av) false), (2, u64s b), (3, .sl (js.map Check.av) false), (4, .ptr 0 [] 0), (9, .ms 1 33 m.length), (10, .bool true), (11, .int .i64 i), (12, .bool (anyW t l b js c k)), (13, .int .i64 k)]
  hp := [(0, .var (tav t)), (1, .row 33 (m.map Check.av))]
  nx := 2

theorem reffinals_pure (t : List Node) (l : List Link) (b : List Int) (js : List Check) (ht : t.length ≤ 100) (hl : l.length ≤ 100) (hbl : b.length ≤ 100) (hj : js.length ≤ 100) (hb : okB b) (hk : okL l) (hc : okC l) : Pure Tryd.prog 15 [tav t, links l, u64s b, checks js] (checks (finalsR t l b js)) := by
  have h1 := reftold_pure t l b ht hl hbl hk
  unfold checks
  cases h : toldR t l b with
  | false =>
    have er := finals_not (js := js) h
    rw [h] at h1
    unfold links at h1 ⊢
    refine pure_of_tr Tryd.func15 rfl (Nat.le_of_ble_eq_true rfl) rfl fun E hE hP => ?_
    first | refine tr_seq_region (by rw [hE]; rfl) ?_ | (refine Tr.seq ?_; refine tr_seq_region (by rw [hE]; rfl) ?_)
    repeat (refine vc_op rfl ?_; simp only [go_sem, seval])
    refine vc_nil ?_
    first | refine tr_seq_region (by rw [hE]; rfl) ?_ | (refine Tr.seq ?_; refine tr_seq_region (by rw [hE]; rfl) ?_)
    repeat (refine vc_op rfl ?_; simp only [go_sem, seval])
    refine vc_nil ?_
    first | apply tr_m (by rw [hE]; rfl) | (refine Tr.seq ?_; apply tr_m (by rw [hE]; rfl))
    intro Q hQ
    simp only [List.toList_toArray, List.map_cons, List.map_nil, mo, guardSlot, Option.map_some, Option.map_none, List.getElem?_toArray, List.getElem?_cons_succ, List.getElem?_cons_zero, Option.bind_some]
    iterate 3 ((refine vm_op ?_); intro r hr; simp only [go_sem, seval]; subst hr)
    (refine vm_op ?_); intro r hr; simp only [go_sem, seval]
    refine call_fn rfl rfl rfl rfl (enters_of Tryd.func35 (by kernel_rfl) rfl) (h1) rfl rfl rfl ?_
    simp only [go_sem, seval]
    subst hr
    (refine vm_op ?_); intro r hr; simp only [go_sem, seval]; subst hr
    exact hQ
    first | refine tr_seq_region (by rw [hE]; rfl) ?_ | (refine Tr.seq ?_; refine tr_seq_region (by rw [hE]; rfl) ?_)
    repeat (refine vc_op rfl ?_; simp only [go_sem, seval])
    refine vc_nil ?_
    first | refine Tr.block ?_ | (refine Tr.seq ?_; refine Tr.block ?_)
    refine Tr.loop (fun _ : Unit => (⟨[(3, .sl (js.map Check.av) false), (9, .sl [] true), (10, .bool false), (11, .int .i64 0)], [], 1, []⟩ : S)) (fun _ => True) (fun _ => 0) () trivial ?_ ?_
    · refine wk_ren (fun n => n) ?_ ?_ rfl rfl rfl
      · repeat' (first | exact rfl | exact trivial | constructor)
      · repeat' (first | exact rfl | exact trivial | constructor)
    · intro _ _
      cases hb0 : decide ((0 : Int) < (js.length : Int))
      · first | apply tr_m (by rw [hE]; rfl) | (refine Tr.seq ?_; apply tr_m (by rw [hE]; rfl))
        intro Q hQ
        simp only [List.toList_toArray, List.map_cons, List.map_nil, mo, guardSlot, Option.map_some, Option.map_none, List.getElem?_toArray, List.getElem?_cons_succ, List.getElem?_cons_zero, Option.bind_some]
        iterate 5 ((refine vm_op ?_); intro r hr; simp only [hb0, go_sem, seval]; subst hr)
        (first | refine vm_if rfl ?_ | refine vm_no rfl ?_ | refine vm_skip rfl ?_); intro r hr; simp only [hb0, go_sem, seval]; subst hr
        (refine vm_op ?_); intro r hr; simp only [hb0, go_sem, seval]; subst hr
        exact hQ
        first | refine Tr.cond (b := false) rfl (fun h => by cases h) (fun _ => ?_) | refine Tr.seq (Tr.cond (b := false) rfl (fun h => by cases h) (fun _ => ?_))
        refine Tr.exit ?_
        try simp only [blockK, thenK, ↓reduceIte]
        first | refine tr_seq_region (by rw [hE]; rfl) ?_ | (refine Tr.seq ?_; refine tr_seq_region (by rw [hE]; rfl) ?_)
        repeat (refine vc_op rfl ?_; simp only [go_sem, seval])
        refine vc_nil ?_
        refine Tr.ret ?_
        simp only [er, Tryd.f15, go_sem, seval]
      · first | apply tr_m (by rw [hE]; rfl) | (refine Tr.seq ?_; apply tr_m (by rw [hE]; rfl))
        intro Q hQ
        simp only [List.toList_toArray, List.map_cons, List.map_nil, mo, guardSlot, Option.map_some, Option.map_none, List.getElem?_toArray, List.getElem?_cons_succ, List.getElem?_cons_zero, Option.bind_some]
        iterate 5 ((refine vm_op ?_); intro r hr; simp only [hb0, go_sem, seval]; subst hr)
        (first | refine vm_if rfl ?_ | refine vm_no rfl ?_ | refine vm_skip rfl ?_); intro r hr; simp only [hb0, go_sem, seval]; subst hr
        (refine vm_op ?_); intro r hr; simp only [hb0, go_sem, seval]; subst hr
        exact hQ
        first | refine Tr.cond (b := false) rfl (fun h => by cases h) (fun _ => ?_) | refine Tr.seq (Tr.cond (b := false) rfl (fun h => by cases h) (fun _ => ?_))
        refine Tr.exit ?_
        try simp only [blockK, thenK, ↓reduceIte]
        first | refine tr_seq_region (by rw [hE]; rfl) ?_ | (refine Tr.seq ?_; refine tr_seq_region (by rw [hE]; rfl) ?_)
        repeat (refine vc_op rfl ?_; simp only [go_sem, seval])
        refine vc_nil ?_
        refine Tr.ret ?_
        simp only [er, Tryd.f15, go_sem, seval]
  | true =>
    rw [h] at h1
    unfold links at h1 ⊢
    refine pure_of_tr Tryd.func15 rfl (Nat.le_of_ble_eq_true rfl) rfl fun E hE hP => ?_
    first | refine tr_seq_region (by rw [hE]; rfl) ?_ | (refine Tr.seq ?_; refine tr_seq_region (by rw [hE]; rfl) ?_)
    repeat (refine vc_op rfl ?_; simp only [go_sem, seval])
    refine vc_nil ?_
    first | refine tr_seq_region (by rw [hE]; rfl) ?_ | (refine Tr.seq ?_; refine tr_seq_region (by rw [hE]; rfl) ?_)
    repeat (refine vc_op rfl ?_; simp only [go_sem, seval])
    refine vc_nil ?_
    first | apply tr_m (by rw [hE]; rfl) | (refine Tr.seq ?_; apply tr_m (by rw [hE]; rfl))
    intro Q hQ
    simp only [List.toList_toArray, List.map_cons, List.map_nil, mo, guardSlot, Option.map_some, Option.map_none, List.getElem?_toArray, List.getElem?_cons_succ, List.getElem?_cons_zero, Option.bind_some]
    iterate 3 ((refine vm_op ?_); intro r hr; simp only [go_sem, seval]; subst hr)
    (refine vm_op ?_); intro r hr; simp only [go_sem, seval]
    refine call_fn rfl rfl rfl rfl (enters_of Tryd.func35 (by kernel_rfl) rfl) (h1) rfl rfl rfl ?_
    simp only [go_sem, seval]
    subst hr
    (refine vm_op ?_); intro r hr; simp only [go_sem, seval]; subst hr
    exact hQ
    first | refine tr_seq_region (by rw [hE]; rfl) ?_ | (refine Tr.seq ?_; refine tr_seq_region (by rw [hE]; rfl) ?_)
    repeat (refine vc_op rfl ?_; simp only [go_sem, seval])
    refine vc_nil ?_
    first | refine Tr.block ?_ | (refine Tr.seq ?_; refine Tr.block ?_)
    refine Tr.loop (stF t l b js) (fun i => i ≤ js.length) (fun i => js.length - i) 0 (Nat.zero_le _) ?_ ?_
    · refine (Wk.nil 9 33 rfl).trans ?_
      refine wk_ren (fun | 1 => 144 | n => n) ?_ ?_ rfl rfl rfl
      · repeat' (first | exact rfl | exact trivial | constructor)
      · repeat' (first | exact rfl | exact trivial | constructor)
    · intro i hi
      unfold stF
      by_cases hlt : i < js.length
      · have e1 : decide ((i : Int) < (js.length : Int)) = true := decide_eq_true (by omega)
        have hn := nth_map_lt Check.av js i hlt
        have hw := wrap_next (n := i) (by omega)
        have hnx : (js.take (i + 1)).filter (finB t l b js) = (js.take i).filter (finB t l b js) ++ if finB t l b js js[i] then [js[i]] else [] := by
          rw [List.take_add_one, List.getElem?_eq_getElem hlt, List.filter_append]
          congr 1
          simp only [Option.toList_some, List.filter_cons, List.filter_nil]
        have hm : ((js.take i).filter (finB t l b js)).length ≤ 100 := by
          have := List.length_filter_le (finB t l b js) (js.take i)
          rw [List.length_take] at this
          omega
        have hall := anyW_all (js := js) (c := js[i]) h hc
        generalize (js.take i).filter (finB t l b js) = m at hnx hm
        generalize js[i] = c at hn hnx hall
        first | apply tr_m (by rw [hE]; rfl) | (refine Tr.seq ?_; apply tr_m (by rw [hE]; rfl))
        intro Q hQ
        simp only [List.toList_toArray, List.map_cons, List.map_nil, mo, guardSlot, Option.map_some, Option.map_none, List.getElem?_toArray, List.getElem?_cons_succ, List.getElem?_cons_zero, Option.bind_some]
        iterate 5 ((refine vm_op ?_); intro r hr; simp only [e1, go_sem, seval]; subst hr)
        (first | refine vm_if rfl ?_ | refine vm_no rfl ?_ | refine vm_skip rfl ?_); intro r hr; simp only [e1, go_sem, seval]; subst hr
        (refine vm_op ?_); intro r hr; simp only [e1, go_sem, seval]; subst hr
        exact hQ
        first | refine Tr.cond (b := true) rfl (fun _ => ?_) (fun h => by cases h) | refine Tr.seq (Tr.cond (b := true) rfl (fun _ => ?_) (fun h => by cases h))
        refine Tr.skip ?_
        try simp only [blockK, thenK, ↓reduceIte]
        first | refine Tr.block ?_ | (refine Tr.seq ?_; refine Tr.block ?_)
        first | refine tr_seq_region (by rw [hE]; rfl) ?_ | (refine Tr.seq ?_; refine tr_seq_region (by rw [hE]; rfl) ?_)
        repeat (refine vc_op rfl ?_; simp only [go_sem, seval])
        refine vc_nil ?_
        first | refine tr_seq_region (by rw [hE]; rfl) ?_ | (refine Tr.seq ?_; refine tr_seq_region (by rw [hE]; rfl) ?_)
        repeat (refine vc_op rfl ?_; simp only [go_sem, seval])
        refine vc_nil ?_
        first | refine Tr.block ?_ | (refine Tr.seq ?_; refine Tr.block ?_)
        refine Tr.loop (stFi t l b js i c m) (fun k => k ≤ l.length) (fun k => l.length - k) 0 (Nat.zero_le _) ?_ ?_
        · refine wk_ren (fun n => n) ?_ ?_ rfl rfl rfl
          · repeat' (first | exact rfl | exact trivial | constructor)
          · repeat' (first | exact rfl | exact trivial | constructor)
        · intro k hk1
          unfold stFi
          by_cases hkl : k < l.length
          · have e2 : decide ((k : Int) < (l.length : Int)) = true := decide_eq_true (by omega)
            have ha := nth_map_lt Link.av l k hkl
            have hw2 := wrap_next (n := k) (by omega)
            have c1 := refcounts_pure t l[k] b ht hbl hb (hk _ (List.getElem_mem hkl))
            have c2 := has_pure js l[k].t hj
            have hnk := anyW_next (t := t) (b := b) (js := js) (c := c) hkl
            generalize l[k] = a at ha c1 c2 hnk
            unfold linkW at hnk
            unfold checks at c2
            generalize countB t b a = x1 at c1 hnk
            generalize decide (a.t ∈ js) = x2 at c2 hnk
            generalize anyW t l b js c k = x0 at hnk
            first | apply tr_m (by rw [hE]; rfl) | (refine Tr.seq ?_; apply tr_m (by rw [hE]; rfl))
            intro Q hQ
            simp only [List.toList_toArray, List.map_cons, List.map_nil, mo, guardSlot, Option.map_some, Option.map_none, List.getElem?_toArray, List.getElem?_cons_succ, List.getElem?_cons_zero, Option.bind_some]
            iterate 4 ((refine vm_op ?_); intro r hr; simp only [e2, go_sem, seval]; subst hr)
            exact hQ
            first | refine Tr.cond (b := true) rfl (fun _ => ?_) (fun h => by cases h) | refine Tr.seq (Tr.cond (b := true) rfl (fun _ => ?_) (fun h => by cases h))
            refine Tr.skip ?_
            try simp only [blockK, thenK, ↓reduceIte]
            first | refine Tr.block ?_ | (refine Tr.seq ?_; refine Tr.block ?_)
            first | apply tr_md mixed [0] rfl (by rw [hE]; rfl) (by kernel_rfl) | (refine Tr.seq ?_; apply tr_md mixed [0] rfl (by rw [hE]; rfl) (by kernel_rfl))
            intro Q hQ
            simp only [List.toList_toArray, List.map_cons, List.map_nil, mo, guardSlot, Option.map_some, Option.map_none, List.getElem?_toArray, List.getElem?_cons_succ, List.getElem?_cons_zero, Option.bind_some]
            iterate 6 ((refine vd2_q rfl ?_); intro r hr; simp only [ha, go_sem, seval]; subst hr)
            (refine vd2_x rfl ?_); intro r hr; simp only [ha, go_sem, seval]
            refine call_fn rfl rfl rfl rfl (enters_of Tryd.func38 (by kernel_rfl) rfl) (c1) rfl rfl rfl ?_
            simp only [go_sem, seval]
            subst hr
            (refine vd2_q rfl ?_); intro r hr; simp only [go_sem, seval]; subst hr
            exact hQ
            first | apply tr_m (by rw [hE]; rfl) | (refine Tr.seq ?_; apply tr_m (by rw [hE]; rfl))
            intro Q hQ
            simp only [List.toList_toArray, List.map_cons, List.map_nil, mo, guardSlot, Option.map_some, Option.map_none, List.getElem?_toArray, List.getElem?_cons_succ, List.getElem?_cons_zero, Option.bind_some]
            iterate 6 ((refine vm_op ?_); intro r hr; simp only [ha, go_sem, seval]; subst hr)
            (refine vm_op ?_); intro r hr; simp only [ha, go_sem, seval]
            refine call_fn rfl rfl rfl rfl (enters_of Tryd.func22 (by kernel_rfl) rfl) (c2) rfl rfl rfl ?_
            simp only [go_sem, seval]
            subst hr
            (refine vm_op ?_); intro r hr; simp only [go_sem, seval]; subst hr
            exact hQ
            cases x0
            · cases x1
              · have hnk : anyW t l b js c (k + 1) = false := hnk
                have e3 : True := trivial
                apply tr_mdl mixed [] rfl (by rw [hE]; rfl) (by kernel_rfl)
                intro Q hQ
                simp only [List.toList_toArray, List.map_cons, List.map_nil, mo, guardSlot, Option.map_some, Option.map_none, List.getElem?_toArray, List.getElem?_cons_succ, List.getElem?_cons_zero, Option.bind_some]
                iterate 2 ((refine vd2_q rfl ?_); intro r hr; simp only [ha, hn, e3, int_beq, go_sem, seval]; subst hr)
                iterate 31 ((first | refine vd2_goq rfl rfl ?_ | refine vd2_no rfl ?_ | refine vd2_skip rfl ?_); intro r hr; simp only [ha, hn, e3, int_beq, go_sem, seval]; subst hr)
                iterate 2 ((refine vd2_q rfl ?_); intro r hr; simp only [ha, hn, e3, int_beq, go_sem, seval]; subst hr)
                exact hQ
                try simp only [blockK, thenK, ↓reduceIte]
                refine tr_region (by rw [hE]; rfl) ?_
                repeat (refine vc_op rfl ?_; simp only [go_sem, seval])
                refine vc_nil ?_
                rw [hw2]
                try simp only [blockK, thenK, ↓reduceIte]
                refine ⟨k + 1, hkl, by omega, ?_⟩
                simp only [stFi, hnk]
                refine wk_ren (fun n => n) ?_ ?_ rfl rfl rfl
                · repeat' (first | exact rfl | exact trivial | constructor)
                · repeat' (first | exact rfl | exact trivial | constructor)
              · cases x2
                · have hnk : anyW t l b js c (k + 1) = false := hnk
                  have e3 : True := trivial
                  apply tr_mdl mixed [] rfl (by rw [hE]; rfl) (by kernel_rfl)
                  intro Q hQ
                  simp only [List.toList_toArray, List.map_cons, List.map_nil, mo, guardSlot, Option.map_some, Option.map_none, List.getElem?_toArray, List.getElem?_cons_succ, List.getElem?_cons_zero, Option.bind_some]
                  iterate 2 ((refine vd2_q rfl ?_); intro r hr; simp only [ha, hn, e3, int_beq, go_sem, seval]; subst hr)
                  iterate 31 ((first | refine vd2_goq rfl rfl ?_ | refine vd2_no rfl ?_ | refine vd2_skip rfl ?_); intro r hr; simp only [ha, hn, e3, int_beq, go_sem, seval]; subst hr)
                  iterate 2 ((refine vd2_q rfl ?_); intro r hr; simp only [ha, hn, e3, int_beq, go_sem, seval]; subst hr)
                  exact hQ
                  try simp only [blockK, thenK, ↓reduceIte]
                  refine tr_region (by rw [hE]; rfl) ?_
                  repeat (refine vc_op rfl ?_; simp only [go_sem, seval])
                  refine vc_nil ?_
                  rw [hw2]
                  try simp only [blockK, thenK, ↓reduceIte]
                  refine ⟨k + 1, hkl, by omega, ?_⟩
                  simp only [stFi, hnk]
                  refine wk_ren (fun n => n) ?_ ?_ rfl rfl rfl
                  · repeat' (first | exact rfl | exact trivial | constructor)
                  · repeat' (first | exact rfl | exact trivial | constructor)
                · cases e3 : decide (a.s = c)
                  · have hnk : anyW t l b js c (k + 1) = false := by rw [hnk, e3]; rfl
                    apply tr_mdl mixed [] rfl (by rw [hE]; rfl) (by kernel_rfl)
                    intro Q hQ
                    simp only [List.toList_toArray, List.map_cons, List.map_nil, mo, guardSlot, Option.map_some, Option.map_none, List.getElem?_toArray, List.getElem?_cons_succ, List.getElem?_cons_zero, Option.bind_some]
                    iterate 2 ((refine vd2_q rfl ?_); intro r hr; simp only [ha, hn, e3, int_beq, go_sem, seval]; subst hr)
                    iterate 31 ((first | refine vd2_goq rfl rfl ?_ | refine vd2_no rfl ?_ | refine vd2_skip rfl ?_); intro r hr; simp only [ha, hn, e3, int_beq, go_sem, seval]; subst hr)
                    iterate 2 ((refine vd2_q rfl ?_); intro r hr; simp only [ha, hn, e3, int_beq, go_sem, seval]; subst hr)
                    exact hQ
                    try simp only [blockK, thenK, ↓reduceIte]
                    refine tr_region (by rw [hE]; rfl) ?_
                    repeat (refine vc_op rfl ?_; simp only [go_sem, seval])
                    refine vc_nil ?_
                    rw [hw2]
                    try simp only [blockK, thenK, ↓reduceIte]
                    refine ⟨k + 1, hkl, by omega, ?_⟩
                    simp only [stFi, hnk]
                    refine wk_ren (fun n => n) ?_ ?_ rfl rfl rfl
                    · repeat' (first | exact rfl | exact trivial | constructor)
                    · repeat' (first | exact rfl | exact trivial | constructor)
                  · have hnk : anyW t l b js c (k + 1) = decide (IntKind.u64.wrap (a.t.epoch - 1) = c.epoch) := by rw [hnk, e3]; rfl
                    apply tr_mdl mixed [] rfl (by rw [hE]; rfl) (by kernel_rfl)
                    intro Q hQ
                    simp only [List.toList_toArray, List.map_cons, List.map_nil, mo, guardSlot, Option.map_some, Option.map_none, List.getElem?_toArray, List.getElem?_cons_succ, List.getElem?_cons_zero, Option.bind_some]
                    iterate 2 ((refine vd2_q rfl ?_); intro r hr; simp only [ha, hn, e3, int_beq, go_sem, seval]; subst hr)
                    iterate 31 ((first | refine vd2_goq rfl rfl ?_ | refine vd2_no rfl ?_ | refine vd2_skip rfl ?_); intro r hr; simp only [ha, hn, e3, int_beq, go_sem, seval]; subst hr)
                    iterate 2 ((refine vd2_q rfl ?_); intro r hr; simp only [ha, hn, e3, int_beq, go_sem, seval]; subst hr)
                    exact hQ
                    try simp only [blockK, thenK, ↓reduceIte]
                    refine tr_region (by rw [hE]; rfl) ?_
                    repeat (refine vc_op rfl ?_; simp only [go_sem, seval])
                    refine vc_nil ?_
                    rw [hw2]
                    try simp only [blockK, thenK, ↓reduceIte]
                    refine ⟨k + 1, hkl, by omega, ?_⟩
                    simp only [stFi, hnk]
                    refine wk_ren (fun n => n) ?_ ?_ rfl rfl rfl
                    · repeat' (first | exact rfl | exact trivial | constructor)
                    · repeat' (first | exact rfl | exact trivial | constructor)
            · have hnk : anyW t l b js c (k + 1) = true := by rw [hnk]; rfl
              have e3 : True := trivial
              apply tr_mdl mixed [] rfl (by rw [hE]; rfl) (by kernel_rfl)
              intro Q hQ
              simp only [List.toList_toArray, List.map_cons, List.map_nil, mo, guardSlot, Option.map_some, Option.map_none, List.getElem?_toArray, List.getElem?_cons_succ, List.getElem?_cons_zero, Option.bind_some]
              iterate 2 ((refine vd2_q rfl ?_); intro r hr; simp only [ha, hn, e3, int_beq, go_sem, seval]; subst hr)
              iterate 31 ((first | refine vd2_goq rfl rfl ?_ | refine vd2_no rfl ?_ | refine vd2_skip rfl ?_); intro r hr; simp only [ha, hn, e3, int_beq, go_sem, seval]; subst hr)
              iterate 2 ((refine vd2_q rfl ?_); intro r hr; simp only [ha, hn, e3, int_beq, go_sem, seval]; subst hr)
              exact hQ
              try simp only [blockK, thenK, ↓reduceIte]
              refine tr_region (by rw [hE]; rfl) ?_
              repeat (refine vc_op rfl ?_; simp only [go_sem, seval])
              refine vc_nil ?_
              rw [hw2]
              try simp only [blockK, thenK, ↓reduceIte]
              refine ⟨k + 1, hkl, by omega, ?_⟩
              simp only [stFi, hnk]
              refine wk_ren (fun n => n) ?_ ?_ rfl rfl rfl
              · repeat' (first | exact rfl | exact trivial | constructor)
              · repeat' (first | exact rfl | exact trivial | constructor)
          · have e2 : decide ((k : Int) < (l.length : Int)) = false := decide_eq_false (by omega)
            have hkl : k = l.length := by omega
            subst hkl
            rw [hall]
            first | apply tr_m (by rw [hE]; rfl) | (refine Tr.seq ?_; apply tr_m (by rw [hE]; rfl))
            intro Q hQ
            simp only [List.toList_toArray, List.map_cons, List.map_nil, mo, guardSlot, Option.map_some, Option.map_none, List.getElem?_toArray, List.getElem?_cons_succ, List.getElem?_cons_zero, Option.bind_some]
            iterate 4 ((refine vm_op ?_); intro r hr; simp only [e2, go_sem, seval]; subst hr)
            exact hQ
            first | refine Tr.cond (b := false) rfl (fun h => by cases h) (fun _ => ?_) | refine Tr.seq (Tr.cond (b := false) rfl (fun h => by cases h) (fun _ => ?_))
            refine Tr.exit ?_
            try simp only [blockK, thenK, ↓reduceIte]
            cases hf : finB t l b js c with
            | true =>
              rw [hf, if_pos rfl] at hnx
              first | refine tr_seq_region (by rw [hE]; rfl) ?_ | (refine Tr.seq ?_; refine tr_seq_region (by rw [hE]; rfl) ?_)
              repeat (refine vc_op rfl ?_; simp only [go_sem, seval])
              refine vc_nil ?_
              first | refine Tr.cond (b := true) rfl (fun _ => ?_) (fun h => by cases h) | refine Tr.seq (Tr.cond (b := true) rfl (fun _ => ?_) (fun h => by cases h))
              apply tr_ml (by rw [hE]; rfl)
              intro Q hQ
              simp only [List.toList_toArray, List.map_cons, List.map_nil, mo, guardSlot, Option.map_some, Option.map_none, List.getElem?_toArray, List.getElem?_cons_succ, List.getElem?_cons_zero, Option.bind_some]
              iterate 6 ((refine vm_op ?_); intro r hr; simp only [hn, go_sem, seval]; subst hr)
              (refine vm_op ?_); intro r hr; simp only [hn, go_sem, seval]
              refine ⟨by omega, by omega, ?_⟩
              simp only [List.filter_cons, List.filter_nil, Bool.not_false, Bool.not_true, if_true, Bool.false_eq_true, if_false, go_sem, seval]
              subst hr
              (refine vm_op ?_); intro r hr; simp only [go_sem, seval]; subst hr
              exact hQ
              try simp only [blockK, thenK, ↓reduceIte]
              refine tr_region (by rw [hE]; rfl) ?_
              repeat (refine vc_op rfl ?_; simp only [go_sem, seval])
              refine vc_nil ?_
              rw [hw]
              try simp only [blockK, thenK, ↓reduceIte]
              refine ⟨i + 1, hlt, by omega, ?_⟩
              simp only [stF, hnx, List.map_append, List.length_append, List.length_singleton, List.map_cons, List.map_nil]
              refine wk_ren (fun | 1 => 178 | n => n) ?_ ?_ rfl rfl rfl
              · repeat' (first | exact rfl | exact trivial | constructor)
              · repeat' (first | exact rfl | exact trivial | constructor)
            | false =>
              rw [hf, if_neg (by simp), List.append_nil] at hnx
              first | refine tr_seq_region (by rw [hE]; rfl) ?_ | (refine Tr.seq ?_; refine tr_seq_region (by rw [hE]; rfl) ?_)
              repeat (refine vc_op rfl ?_; simp only [go_sem, seval])
              refine vc_nil ?_
              first | refine Tr.cond (b := false) rfl (fun h => by cases h) (fun _ => ?_) | refine Tr.seq (Tr.cond (b := false) rfl (fun h => by cases h) (fun _ => ?_))
              refine Tr.skip ?_
              try simp only [blockK, thenK, ↓reduceIte]
              refine tr_region (by rw [hE]; rfl) ?_
              repeat (refine vc_op rfl ?_; simp only [go_sem, seval])
              refine vc_nil ?_
              rw [hw]
              try simp only [blockK, thenK, ↓reduceIte]
              refine ⟨i + 1, hlt, by omega, ?_⟩
              simp only [stF, hnx]
              refine wk_ren (fun n => n) ?_ ?_ rfl rfl rfl
              · repeat' (first | exact rfl | exact trivial | constructor)
              · repeat' (first | exact rfl | exact trivial | constructor)
      · have e1 : decide ((i : Int) < (js.length : Int)) = false := decide_eq_false (by omega)
        have hil : i = js.length := by omega
        have er : (js.take i).filter (finB t l b js) = finalsR t l b js := by rw [hil, List.take_length]; rfl
        rw [er]
        have hlen : (finalsR t l b js).length = ((finalsR t l b js).map Check.av).length := by simp
        first | apply tr_m (by rw [hE]; rfl) | (refine Tr.seq ?_; apply tr_m (by rw [hE]; rfl))
        intro Q hQ
        simp only [List.toList_toArray, List.map_cons, List.map_nil, mo, guardSlot, Option.map_some, Option.map_none, List.getElem?_toArray, List.getElem?_cons_succ, List.getElem?_cons_zero, Option.bind_some]
        iterate 5 ((refine vm_op ?_); intro r hr; simp only [e1, go_sem, seval]; subst hr)
        (first | refine vm_if rfl ?_ | refine vm_no rfl ?_ | refine vm_skip rfl ?_); intro r hr; simp only [e1, go_sem, seval]; subst hr
        (refine vm_op ?_); intro r hr; simp only [e1, go_sem, seval]; subst hr
        exact hQ
        first | refine Tr.cond (b := false) rfl (fun h => by cases h) (fun _ => ?_) | refine Tr.seq (Tr.cond (b := false) rfl (fun h => by cases h) (fun _ => ?_))
        refine Tr.exit ?_
        try simp only [blockK, thenK, ↓reduceIte]
        first | refine tr_seq_region (by rw [hE]; rfl) ?_ | (refine Tr.seq ?_; refine tr_seq_region (by rw [hE]; rfl) ?_)
        repeat (refine vc_op rfl ?_; simp only [go_sem, seval])
        refine vc_nil ?_
        refine Tr.ret ?_
        simp only [← hlen, Tryd.f15, go_sem, seval]

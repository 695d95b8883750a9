/- The reference: what is justified. -/
import Derived.Test.YtdlejnafhmpobaaDoorFiM
set_option linter.unusedSimpArgs false
set_option maxRecDepth 10000
namespace Go.Proofs.YtdlejnafhmpobaaDoor
open Go Go.Ab

theorem moreR_not {t : List Node} {l : List Link} {b : List Int} {js : List Check} (h : toldR t l b = false) : moreR t l b js = js := by
  unfold moreR countL
  rw [if_neg (by simp [h])]
  exact moreF_none rfl
theorem moreR_told {t : List Node} {l : List Link} {b : List Int} {js : List Check} (h : toldR t l b = true) : moreR t l b js = moreF (l.filter (countB t b)) js := by
  unfold moreR countL
  rw [if_pos h]
theorem leftN_len (ls : List Link) (out : List Check) : leftN ls out ≤ ls.length := List.countP_le_length

def stM (t : List Node) (l : List Link) (b : List Int) (out : List Check) : S where
  fr := [(1, .sl (l.map Link.av) false), (2, u64s b), (4, .ptr 0 [] 0), (9, .ms 16 33 out.length), (11, .int .i64 (firstI t l b out))]
  hp := [(0, .var (tav t)), (16, .row 33 (out.map Check.av))]
  nx := 17

theorem refmore_pure (t : List Node) (l : List Link) (b : List Int) (js : List Check) (ht : t.length ≤ 100) (hl : l.length ≤ 40) (hbl : b.length ≤ 100) (hj : js.length ≤ 40) (hb : okB b) (hk : okL l) : Pure Tryd.prog 13 [tav t, links l, u64s b, checks js] (checks (moreR t l b js)) := by
  have h1 := reftold_pure t l b ht (by omega) hbl hk
  unfold checks
  refine pure_of_tr Tryd.func13 rfl (Nat.le_of_ble_eq_true rfl) rfl fun E hE hP => ?_
  first | refine tr_seq_region (by rw [hE]; rfl) ?_ | (refine Tr.seq ?_; refine tr_seq_region (by rw [hE]; rfl) ?_)
  repeat (refine vc_op rfl ?_; simp only [go_sem, seval])
  refine vc_nil ?_
  first | refine tr_seq_region (by rw [hE]; rfl) ?_ | (refine Tr.seq ?_; refine tr_seq_region (by rw [hE]; rfl) ?_)
  repeat (refine vc_op rfl ?_; simp only [go_sem, seval])
  refine ⟨lens_checks js, by omega, by omega, .inl trivial, ?_⟩
  repeat (refine vc_op rfl ?_; simp only [go_sem, seval])
  refine vc_nil ?_
  cases h : toldR t l b with
  | false =>
    have er := moreR_not (js := js) h
    rw [h] at h1
    first | apply tr_m (by rw [hE]; rfl) | (refine Tr.seq ?_; apply tr_m (by rw [hE]; rfl))
    intro Q hQ
    simp only [List.toList_toArray, List.map_cons, List.map_nil, mo, guardSlot, Option.map_some, Option.map_none, List.getElem?_toArray, List.getElem?_cons_succ, List.getElem?_cons_zero, Option.bind_some]
    iterate 3 ((refine vm_op ?_); intro r hr; simp only [go_sem, seval]; subst hr)
    (refine vm_op ?_); intro r hr; simp only [go_sem, seval]
    refine call_fn rfl rfl rfl rfl (enters_of Tryd.func35 (by kernel_rfl) rfl) (h1) rfl rfl rfl ?_
    simp only [go_sem, seval]
    subst hr
    (refine vm_op ?_); intro r hr; simp only [go_sem, seval]; subst hr
    exact hQ
    first | refine tr_seq_region (by rw [hE]; rfl) ?_ | (refine Tr.seq ?_; refine tr_seq_region (by rw [hE]; rfl) ?_)
    repeat (refine vc_op rfl ?_; simp only [go_sem, seval])
    refine vc_nil ?_
    first | refine Tr.cond (b := true) rfl (fun _ => ?_) (fun h => by cases h) | refine Tr.seq (Tr.cond (b := true) rfl (fun _ => ?_) (fun h => by cases h))
    first | refine tr_seq_region (by rw [hE]; rfl) ?_ | (refine Tr.seq ?_; refine tr_seq_region (by rw [hE]; rfl) ?_)
    repeat (refine vc_op rfl ?_; simp only [go_sem, seval])
    refine vc_nil ?_
    have hlen : js.length = (js.map Check.av).length := by simp
    refine Tr.ret ?_
    simp only [er, ← hlen, Tryd.f13, go_sem, seval]
  | true =>
    have er := moreR_told (js := js) h
    rw [h] at h1
    have hf := first_pure t l b js ht (by omega) hbl (by omega) hb hk
    first | apply tr_m (by rw [hE]; rfl) | (refine Tr.seq ?_; apply tr_m (by rw [hE]; rfl))
    intro Q hQ
    simp only [List.toList_toArray, List.map_cons, List.map_nil, mo, guardSlot, Option.map_some, Option.map_none, List.getElem?_toArray, List.getElem?_cons_succ, List.getElem?_cons_zero, Option.bind_some]
    iterate 3 ((refine vm_op ?_); intro r hr; simp only [go_sem, seval]; subst hr)
    (refine vm_op ?_); intro r hr; simp only [go_sem, seval]
    refine call_fn rfl rfl rfl rfl (enters_of Tryd.func35 (by kernel_rfl) rfl) (h1) rfl rfl rfl ?_
    simp only [go_sem, seval]
    subst hr
    (refine vm_op ?_); intro r hr; simp only [go_sem, seval]; subst hr
    exact hQ
    first | refine tr_seq_region (by rw [hE]; rfl) ?_ | (refine Tr.seq ?_; refine tr_seq_region (by rw [hE]; rfl) ?_)
    repeat (refine vc_op rfl ?_; simp only [go_sem, seval])
    refine vc_nil ?_
    first | refine Tr.cond rfl (fun h => by cases h) (fun _ => ?_) | refine Tr.seq (Tr.cond rfl (fun h => by cases h) (fun _ => ?_))
    refine Tr.skip ?_
    try simp only [blockK, thenK, ↓reduceIte]
    first | apply tr_m (by rw [hE]; rfl) | (refine Tr.seq ?_; apply tr_m (by rw [hE]; rfl))
    intro Q hQ
    simp only [List.toList_toArray, List.map_cons, List.map_nil, mo, guardSlot, Option.map_some, Option.map_none, List.getElem?_toArray, List.getElem?_cons_succ, List.getElem?_cons_zero, Option.bind_some]
    iterate 4 ((refine vm_op ?_); intro r hr; simp only [go_sem, seval]; subst hr)
    (refine vm_op ?_); intro r hr; simp only [go_sem, seval]
    refine call_fn rfl rfl rfl rfl (enters_of Tryd.func36 (by kernel_rfl) rfl) (hf) (by (simp only [checks, List.length_map, go_sem, seval]) <;> rfl) rfl rfl ?_
    simp only [go_sem, seval]
    subst hr
    (refine vm_op ?_); intro r hr; simp only [go_sem, seval]; subst hr
    exact hQ
    first | refine Tr.block ?_ | (refine Tr.seq ?_; refine Tr.block ?_)
    refine Tr.loop (stM t l b) (fun out => moreF (l.filter (countB t b)) out = moreF (l.filter (countB t b)) js ∧ out.length + leftN (l.filter (countB t b)) out ≤ 80) (fun out => leftN (l.filter (countB t b)) out) js ⟨rfl, ?_⟩ ?_ ?_
    · have h1 := leftN_len (l.filter (countB t b)) js
      have h2 : (l.filter (countB t b)).length ≤ l.length := List.length_filter_le _ _
      omega
    · refine wk_ren (fun | 16 => 48 | n => n) ?_ ?_ rfl rfl rfl
      · repeat' (first | exact rfl | exact trivial | constructor)
      · repeat' (first | exact rfl | exact trivial | constructor)
    · intro out ⟨hsame, hlen⟩
      unfold stM
      rcases firstI_law t l b out with ⟨hi, hn⟩ | ⟨i, hil, hi, hn⟩
      · have er2 := moreF_none hn
        rw [hi]
        have e1 : decide ((0 : Int) ≤ -1) = false := rfl
        first | refine tr_seq_region (by rw [hE]; rfl) ?_ | (refine Tr.seq ?_; refine tr_seq_region (by rw [hE]; rfl) ?_)
        repeat (refine vc_op rfl ?_; simp only [e1, go_sem, seval])
        refine vc_nil ?_
        first | refine Tr.cond (b := false) rfl (fun h => by cases h) (fun _ => ?_) | refine Tr.seq (Tr.cond (b := false) rfl (fun h => by cases h) (fun _ => ?_))
        refine Tr.exit ?_
        try simp only [blockK, thenK, ↓reduceIte]
        rw [er, ← hsame, er2]
        first | refine tr_seq_region (by rw [hE]; rfl) ?_ | (refine Tr.seq ?_; refine tr_seq_region (by rw [hE]; rfl) ?_)
        repeat (refine vc_op rfl ?_; simp only [go_sem, seval])
        refine vc_nil ?_
        have hlen : out.length = (out.map Check.av).length := by simp
        refine Tr.ret ?_
        simp only [← hlen, Tryd.f13, go_sem, seval]
      · obtain ⟨hs, hlt⟩ := moreF_some hn
        rw [hi]
        have e1 : decide ((0 : Int) ≤ (i : Int)) = true := decide_eq_true (by omega)
        have ha := nth_map_lt Link.av l i hil
        generalize l[i] = a at ha hs hlt
        have hf := first_pure t l b (out ++ [a.t]) ht (by omega) hbl (by simp; omega) hb hk
        first | refine tr_seq_region (by rw [hE]; rfl) ?_ | (refine Tr.seq ?_; refine tr_seq_region (by rw [hE]; rfl) ?_)
        repeat (refine vc_op rfl ?_; simp only [e1, go_sem, seval])
        refine vc_nil ?_
        first | refine Tr.cond (b := true) rfl (fun _ => ?_) (fun h => by cases h) | refine Tr.seq (Tr.cond (b := true) rfl (fun _ => ?_) (fun h => by cases h))
        refine Tr.skip ?_
        try simp only [blockK, thenK, ↓reduceIte]
        first | refine Tr.block ?_ | (refine Tr.seq ?_; refine Tr.block ?_)
        first | apply tr_m (by rw [hE]; rfl) | (refine Tr.seq ?_; apply tr_m (by rw [hE]; rfl))
        intro Q hQ
        simp only [List.toList_toArray, List.map_cons, List.map_nil, mo, guardSlot, Option.map_some, Option.map_none, List.getElem?_toArray, List.getElem?_cons_succ, List.getElem?_cons_zero, Option.bind_some]
        iterate 7 ((refine vm_op ?_); intro r hr; simp only [ha, go_sem, seval]; subst hr)
        (refine vm_op ?_); intro r hr; simp only [ha, go_sem, seval]
        refine ⟨by omega, by omega, ?_⟩
        simp only [List.filter_cons, List.filter_nil, Bool.not_false, Bool.not_true, if_true, Bool.false_eq_true, if_false, go_sem, seval]
        subst hr
        (refine vm_op ?_); intro r hr; simp only [go_sem, seval]; subst hr
        exact hQ
        apply tr_ml (by rw [hE]; rfl)
        intro Q hQ
        simp only [List.toList_toArray, List.map_cons, List.map_nil, mo, guardSlot, Option.map_some, Option.map_none, List.getElem?_toArray, List.getElem?_cons_succ, List.getElem?_cons_zero, Option.bind_some]
        iterate 4 ((refine vm_op ?_); intro r hr; simp only [go_sem, seval]; subst hr)
        (refine vm_op ?_); intro r hr; simp only [go_sem, seval]
        refine call_fn rfl rfl rfl rfl (enters_of Tryd.func36 (by kernel_rfl) rfl) (hf) (by (simp only [checks, List.map_append, List.map_cons, List.map_nil, List.length_append, List.length_singleton, List.length_map, eq_self, go_sem, seval]) <;> rfl) rfl rfl ?_
        simp only [go_sem, seval]
        subst hr
        (refine vm_op ?_); intro r hr; simp only [go_sem, seval]; subst hr
        exact hQ
        try simp only [blockK, thenK, ↓reduceIte]
        refine ⟨out ++ [a.t], ⟨hs.symm.trans hsame, by simp only [List.length_append, List.length_singleton]; omega⟩, hlt, ?_⟩
        simp only [stM, List.map_append, List.length_append, List.length_singleton, List.map_cons, List.map_nil]
        refine wk_ren (fun | 16 => 161 | n => n) ?_ ?_ rfl rfl rfl
        · repeat' (first | exact rfl | exact trivial | constructor)
        · repeat' (first | exact rfl | exact trivial | constructor)

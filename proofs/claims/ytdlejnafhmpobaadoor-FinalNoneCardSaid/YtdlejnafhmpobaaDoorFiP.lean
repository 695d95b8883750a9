/- The reference: what is final then, what is best, and what is on one chain. -/
import Derived.Test.YtdlejnafhmpobaaDoorFiO
set_option linter.unusedSimpArgs false
set_option maxRecDepth 10000
namespace Go.Proofs.YtdlejnafhmpobaaDoor
open Go Go.Ab

def nextS (t : List Node) (fin out c : Check) : Check := if decide (fin.epoch < c.epoch) && (behindB t c fin && betterB out c) then c else out
def nextR (t : List Node) (l : List Link) (b : List Int) (js : List Check) (fin : Check) : Check := (finalsR t l b js).foldl (nextS t fin) fin
def bestS (t : List Node) (fin out c : Check) : Check := if behindB t c fin && betterB out c then c else out
def bestR (t : List Node) (js : List Check) (fin : Check) : Check := js.foldl (bestS t fin) fin
def pairB (t : List Node) (a c : Check) : Bool := behindB t a c || behindB t c a
def rowB (t : List Node) (l : List Check) (i : Nat) : Bool := (l.take i).all fun c => pairB t (l.getD i zCheck) c
def chainR (t : List Node) (l : List Check) : Bool := mayB t && (List.range l.length).all (rowB t l)

theorem foldl_next {α β : Type} (f : β → α → β) (z : β) {l : List α} {i : Nat} (h : i < l.length) : (l.take (i + 1)).foldl f z = f ((l.take i).foldl f z) l[i] := by
  rw [List.take_add_one, List.getElem?_eq_getElem h, List.foldl_append]
  rfl

theorem finals_len (t : List Node) (l : List Link) (b : List Int) (js : List Check) : (finalsR t l b js).length ≤ js.length := List.length_filter_le _ _

theorem refnext_pure (t : List Node) (l : List Link) (b : List Int) (js : List Check) (fin : Check) (ht : t.length ≤ 100) (hl : l.length ≤ 100) (hbl : b.length ≤ 100) (hj : js.length ≤ 100) (hb : okB b) (hk : okL l) (hc : okC l) : Pure Tryd.prog 18 [tav t, links l, u64s b, checks js, fin.av] (nextR t l b js fin).av := by
  have h1 := reffinals_pure t l b js ht hl hbl hj hb hk hc
  have hfl := finals_len t l b js
  have er : nextR t l b js fin = (finalsR t l b js).foldl (nextS t fin) fin := rfl
  generalize finalsR t l b js = f at h1 hfl er
  unfold checks at h1 ⊢
  refine pure_of_tr Tryd.func18 rfl (Nat.le_of_ble_eq_true rfl) rfl fun E hE hP => ?_
  first | refine tr_seq_region (by rw [hE]; rfl) ?_ | (refine Tr.seq ?_; refine tr_seq_region (by rw [hE]; rfl) ?_)
  repeat (refine vc_op rfl ?_; simp only [go_sem, seval])
  refine vc_nil ?_
  first | refine tr_seq_region (by rw [hE]; rfl) ?_ | (refine Tr.seq ?_; refine tr_seq_region (by rw [hE]; rfl) ?_)
  repeat (refine vc_op rfl ?_; simp only [go_sem, seval])
  refine vc_nil ?_
  first | apply tr_m (by rw [hE]; rfl) | (refine Tr.seq ?_; apply tr_m (by rw [hE]; rfl))
  intro Q hQ
  simp only [List.toList_toArray, List.map_cons, List.map_nil, mo, guardSlot, Option.map_some, Option.map_none, List.getElem?_toArray, List.getElem?_cons_succ, List.getElem?_cons_zero, Option.bind_some]
  iterate 4 ((refine vm_op ?_); intro r hr; simp only [go_sem, seval]; subst hr)
  (refine vm_op ?_); intro r hr; simp only [go_sem, seval]
  refine call_fn rfl rfl rfl rfl (enters_of Tryd.func15 (by kernel_rfl) rfl) (h1) rfl rfl rfl ?_
  simp only [go_sem, seval]
  subst hr
  (refine vm_op ?_); intro r hr; simp only [go_sem, seval]; subst hr
  exact hQ
  first | refine tr_seq_region (by rw [hE]; rfl) ?_ | (refine Tr.seq ?_; refine tr_seq_region (by rw [hE]; rfl) ?_)
  repeat (refine vc_op rfl ?_; simp only [go_sem, seval])
  refine vc_nil ?_
  first | refine Tr.block ?_ | (refine Tr.seq ?_; refine Tr.block ?_)
  refine Tr.loop (fun i : Nat => (⟨[(5, .ptr 0 [] 0), (9, .ptr 16 [] 0), (10, .ptr 32 [] 0), (11, .ptr 64 [] 0), (12, .sl (f.map Check.av) false), (13, .int .i64 i)], [(0, .var (tav t)), (16, .var fin.av), (32, .var zCheck.av), (64, .var ((f.take i).foldl (nextS t fin) fin).av)], 65, []⟩ : S)) (fun i => i ≤ f.length) (fun i => f.length - i) 0 (Nat.zero_le _) ?_ ?_
  · refine wk_ren (fun n => n) ?_ ?_ rfl rfl rfl
    · repeat' (first | exact rfl | exact trivial | constructor)
    · repeat' (first | exact rfl | exact trivial | constructor)
  · intro i hi
    by_cases hlt : i < f.length
    · have e1 : decide ((i : Int) < (f.length : Int)) = true := decide_eq_true (by omega)
      have hn := nth_map_lt Check.av f i hlt
      have hw := wrap_next (n := i) (by omega)
      have hnx := foldl_next (nextS t fin) fin hlt
      generalize (f.take i).foldl (nextS t fin) fin = o at hnx
      generalize f[i] = c at hn hnx
      have c1 := refbehind_pure t c fin ht
      have c2 := refbetter_pure o c
      have hS : nextS t fin o c = if decide (fin.epoch < c.epoch) && (behindB t c fin && betterB o c) then c else o := rfl
      rw [hS] at hnx
      generalize behindB t c fin = x1 at c1 hnx
      generalize betterB o c = x2 at c2 hnx
      first | refine tr_seq_region (by rw [hE]; rfl) ?_ | (refine Tr.seq ?_; refine tr_seq_region (by rw [hE]; rfl) ?_)
      repeat (refine vc_op rfl ?_; simp only [e1, go_sem, seval])
      refine vc_nil ?_
      first | refine Tr.cond (b := true) rfl (fun _ => ?_) (fun h => by cases h) | refine Tr.seq (Tr.cond (b := true) rfl (fun _ => ?_) (fun h => by cases h))
      refine Tr.skip ?_
      try simp only [blockK, thenK, ↓reduceIte]
      first | refine Tr.block ?_ | (refine Tr.seq ?_; refine Tr.block ?_)
      first | apply tr_md mixed [0, 16] rfl (by rw [hE]; rfl) (by kernel_rfl) | (refine Tr.seq ?_; apply tr_md mixed [0, 16] rfl (by rw [hE]; rfl) (by kernel_rfl))
      intro Q hQ
      simp only [List.toList_toArray, List.map_cons, List.map_nil, mo, guardSlot, Option.map_some, Option.map_none, List.getElem?_toArray, List.getElem?_cons_succ, List.getElem?_cons_zero, Option.bind_some]
      iterate 6 ((refine vd2_q rfl ?_); intro r hr; simp only [hn, go_sem, seval]; subst hr)
      (refine vd2_x rfl ?_); intro r hr; simp only [hn, go_sem, seval]
      refine call_fn rfl rfl rfl rfl (enters_of Tryd.func40 (by kernel_rfl) rfl) (c1) rfl rfl rfl ?_
      simp only [go_sem, seval]
      subst hr
      (refine vd2_q rfl ?_); intro r hr; simp only [go_sem, seval]; subst hr
      exact hQ
      first | apply tr_md mixed [64] rfl (by rw [hE]; rfl) (by kernel_rfl) | (refine Tr.seq ?_; apply tr_md mixed [64] rfl (by rw [hE]; rfl) (by kernel_rfl))
      intro Q hQ
      simp only [List.toList_toArray, List.map_cons, List.map_nil, mo, guardSlot, Option.map_some, Option.map_none, List.getElem?_toArray, List.getElem?_cons_succ, List.getElem?_cons_zero, Option.bind_some]
      iterate 5 ((refine vd2_q rfl ?_); intro r hr; simp only [hn, go_sem, seval]; subst hr)
      (refine vd2_x rfl ?_); intro r hr; simp only [hn, go_sem, seval]
      refine call_fn rfl rfl rfl rfl (enters_of Tryd.func43 (by kernel_rfl) rfl) (c2) rfl rfl rfl ?_
      simp only [go_sem, seval]
      subst hr
      (refine vd2_q rfl ?_); intro r hr; simp only [go_sem, seval]; subst hr
      exact hQ
      cases x1
      · rw [Bool.false_and, Bool.and_false, if_neg (by simp)] at hnx
        first | apply tr_md mixed [16] rfl (by rw [hE]; rfl) (by kernel_rfl) | (refine Tr.seq ?_; apply tr_md mixed [16] rfl (by rw [hE]; rfl) (by kernel_rfl))
        intro Q hQ
        simp only [List.toList_toArray, List.map_cons, List.map_nil, mo, guardSlot, Option.map_some, Option.map_none, List.getElem?_toArray, List.getElem?_cons_succ, List.getElem?_cons_zero, Option.bind_some]
        iterate 2 ((refine vd2_q rfl ?_); intro r hr; simp only [hn, go_sem, seval]; subst hr)
        (first | refine vd2_goq rfl rfl ?_ | refine vd2_no rfl ?_ | refine vd2_skip rfl ?_); intro r hr; simp only [hn, go_sem, seval]; subst hr
        iterate 2 ((refine vd2_q rfl ?_); intro r hr; simp only [hn, go_sem, seval]; subst hr)
        iterate 8 ((first | refine vd2_goq rfl rfl ?_ | refine vd2_no rfl ?_ | refine vd2_skip rfl ?_); intro r hr; simp only [hn, go_sem, seval]; subst hr)
        (refine vd2_q rfl ?_); intro r hr; simp only [hn, go_sem, seval]; subst hr
        exact hQ
        first | refine Tr.cond (b := false) rfl (fun h => by cases h) (fun _ => ?_) | refine Tr.seq (Tr.cond (b := false) rfl (fun h => by cases h) (fun _ => ?_))
        refine Tr.skip ?_
        try simp only [blockK, thenK, ↓reduceIte]
        refine tr_region (by rw [hE]; rfl) ?_
        repeat (refine vc_op rfl ?_; simp only [go_sem, seval])
        refine vc_nil ?_
        rw [hw]
        try simp only [blockK, thenK, ↓reduceIte]
        refine ⟨i + 1, hlt, by omega, ?_⟩
        rw [hnx]
        refine wk_ren (fun n => n) ?_ ?_ rfl rfl rfl
        · repeat' (first | exact rfl | exact trivial | constructor)
        · repeat' (first | exact rfl | exact trivial | constructor)
      · cases x2
        · rw [Bool.and_false, Bool.and_false, if_neg (by simp)] at hnx
          first | apply tr_md mixed [16] rfl (by rw [hE]; rfl) (by kernel_rfl) | (refine Tr.seq ?_; apply tr_md mixed [16] rfl (by rw [hE]; rfl) (by kernel_rfl))
          intro Q hQ
          simp only [List.toList_toArray, List.map_cons, List.map_nil, mo, guardSlot, Option.map_some, Option.map_none, List.getElem?_toArray, List.getElem?_cons_succ, List.getElem?_cons_zero, Option.bind_some]
          iterate 2 ((refine vd2_q rfl ?_); intro r hr; simp only [hn, go_sem, seval]; subst hr)
          (first | refine vd2_goq rfl rfl ?_ | refine vd2_no rfl ?_ | refine vd2_skip rfl ?_); intro r hr; simp only [hn, go_sem, seval]; subst hr
          iterate 2 ((refine vd2_q rfl ?_); intro r hr; simp only [hn, go_sem, seval]; subst hr)
          iterate 8 ((first | refine vd2_goq rfl rfl ?_ | refine vd2_no rfl ?_ | refine vd2_skip rfl ?_); intro r hr; simp only [hn, go_sem, seval]; subst hr)
          (refine vd2_q rfl ?_); intro r hr; simp only [hn, go_sem, seval]; subst hr
          exact hQ
          first | refine Tr.cond (b := false) rfl (fun h => by cases h) (fun _ => ?_) | refine Tr.seq (Tr.cond (b := false) rfl (fun h => by cases h) (fun _ => ?_))
          refine Tr.skip ?_
          try simp only [blockK, thenK, ↓reduceIte]
          refine tr_region (by rw [hE]; rfl) ?_
          repeat (refine vc_op rfl ?_; simp only [go_sem, seval])
          refine vc_nil ?_
          rw [hw]
          try simp only [blockK, thenK, ↓reduceIte]
          refine ⟨i + 1, hlt, by omega, ?_⟩
          rw [hnx]
          refine wk_ren (fun n => n) ?_ ?_ rfl rfl rfl
          · repeat' (first | exact rfl | exact trivial | constructor)
          · repeat' (first | exact rfl | exact trivial | constructor)
        · cases e3 : decide (fin.epoch < c.epoch)
          · rw [e3, Bool.false_and, if_neg (by simp)] at hnx
            first | apply tr_md mixed [16] rfl (by rw [hE]; rfl) (by kernel_rfl) | (refine Tr.seq ?_; apply tr_md mixed [16] rfl (by rw [hE]; rfl) (by kernel_rfl))
            intro Q hQ
            simp only [List.toList_toArray, List.map_cons, List.map_nil, mo, guardSlot, Option.map_some, Option.map_none, List.getElem?_toArray, List.getElem?_cons_succ, List.getElem?_cons_zero, Option.bind_some]
            iterate 2 ((refine vd2_q rfl ?_); intro r hr; simp only [hn, e3, go_sem, seval]; subst hr)
            (first | refine vd2_goq rfl rfl ?_ | refine vd2_no rfl ?_ | refine vd2_skip rfl ?_); intro r hr; simp only [hn, e3, go_sem, seval]; subst hr
            iterate 2 ((refine vd2_q rfl ?_); intro r hr; simp only [hn, e3, go_sem, seval]; subst hr)
            iterate 8 ((first | refine vd2_goq rfl rfl ?_ | refine vd2_no rfl ?_ | refine vd2_skip rfl ?_); intro r hr; simp only [hn, e3, go_sem, seval]; subst hr)
            (refine vd2_q rfl ?_); intro r hr; simp only [hn, e3, go_sem, seval]; subst hr
            exact hQ
            first | refine Tr.cond (b := false) rfl (fun h => by cases h) (fun _ => ?_) | refine Tr.seq (Tr.cond (b := false) rfl (fun h => by cases h) (fun _ => ?_))
            refine Tr.skip ?_
            try simp only [blockK, thenK, ↓reduceIte]
            refine tr_region (by rw [hE]; rfl) ?_
            repeat (refine vc_op rfl ?_; simp only [go_sem, seval])
            refine vc_nil ?_
            rw [hw]
            try simp only [blockK, thenK, ↓reduceIte]
            refine ⟨i + 1, hlt, by omega, ?_⟩
            rw [hnx]
            refine wk_ren (fun n => n) ?_ ?_ rfl rfl rfl
            · repeat' (first | exact rfl | exact trivial | constructor)
            · repeat' (first | exact rfl | exact trivial | constructor)
          · rw [e3, Bool.true_and, Bool.true_and, if_pos rfl] at hnx
            first | apply tr_md mixed [16] rfl (by rw [hE]; rfl) (by kernel_rfl) | (refine Tr.seq ?_; apply tr_md mixed [16] rfl (by rw [hE]; rfl) (by kernel_rfl))
            intro Q hQ
            simp only [List.toList_toArray, List.map_cons, List.map_nil, mo, guardSlot, Option.map_some, Option.map_none, List.getElem?_toArray, List.getElem?_cons_succ, List.getElem?_cons_zero, Option.bind_some]
            iterate 2 ((refine vd2_q rfl ?_); intro r hr; simp only [hn, e3, go_sem, seval]; subst hr)
            (first | refine vd2_goq rfl rfl ?_ | refine vd2_no rfl ?_ | refine vd2_skip rfl ?_); intro r hr; simp only [hn, e3, go_sem, seval]; subst hr
            iterate 2 ((refine vd2_q rfl ?_); intro r hr; simp only [hn, e3, go_sem, seval]; subst hr)
            iterate 8 ((first | refine vd2_goq rfl rfl ?_ | refine vd2_no rfl ?_ | refine vd2_skip rfl ?_); intro r hr; simp only [hn, e3, go_sem, seval]; subst hr)
            (refine vd2_q rfl ?_); intro r hr; simp only [hn, e3, go_sem, seval]; subst hr
            exact hQ
            first | refine Tr.cond (b := true) rfl (fun _ => ?_) (fun h => by cases h) | refine Tr.seq (Tr.cond (b := true) rfl (fun _ => ?_) (fun h => by cases h))
            apply tr_ml (by rw [hE]; rfl)
            intro Q hQ
            simp only [List.toList_toArray, List.map_cons, List.map_nil, mo, guardSlot, Option.map_some, Option.map_none, List.getElem?_toArray, List.getElem?_cons_succ, List.getElem?_cons_zero, Option.bind_some]
            iterate 5 ((refine vm_op ?_); intro r hr; simp only [hn, go_sem, seval]; subst hr)
            exact hQ
            try simp only [blockK, thenK, ↓reduceIte]
            refine tr_region (by rw [hE]; rfl) ?_
            repeat (refine vc_op rfl ?_; simp only [go_sem, seval])
            refine vc_nil ?_
            rw [hw]
            try simp only [blockK, thenK, ↓reduceIte]
            refine ⟨i + 1, hlt, by omega, ?_⟩
            rw [hnx]
            refine wk_ren (fun n => n) ?_ ?_ rfl rfl rfl
            · repeat' (first | exact rfl | exact trivial | constructor)
            · repeat' (first | exact rfl | exact trivial | constructor)
    · have e1 : decide ((i : Int) < (f.length : Int)) = false := decide_eq_false (by omega)
      have hil : i = f.length := by omega
      rw [hil, List.take_length, ← er]
      have e1 : decide ((f.length : Int) < (f.length : Int)) = false := decide_eq_false (by omega)
      first | refine tr_seq_region (by rw [hE]; rfl) ?_ | (refine Tr.seq ?_; refine tr_seq_region (by rw [hE]; rfl) ?_)
      repeat (refine vc_op rfl ?_; simp only [e1, go_sem, seval])
      refine vc_nil ?_
      first | refine Tr.cond (b := false) rfl (fun h => by cases h) (fun _ => ?_) | refine Tr.seq (Tr.cond (b := false) rfl (fun h => by cases h) (fun _ => ?_))
      refine Tr.exit ?_
      try simp only [blockK, thenK, ↓reduceIte]
      first | refine tr_seq_region (by rw [hE]; rfl) ?_ | (refine Tr.seq ?_; refine tr_seq_region (by rw [hE]; rfl) ?_)
      repeat (refine vc_op rfl ?_; simp only [go_sem, seval])
      refine vc_nil ?_
      refine Tr.ret ?_
      simp only [Tryd.f18, go_sem, seval]

theorem refbest_pure (t : List Node) (f : List Check) (fin : Check) (ht : t.length ≤ 100) (hfl : f.length ≤ 100) : Pure Tryd.prog 20 [tav t, checks f, fin.av] (bestR t f fin).av := by
  have er : bestR t f fin = f.foldl (bestS t fin) fin := rfl
  unfold checks
  refine pure_of_tr Tryd.func20 rfl (Nat.le_of_ble_eq_true rfl) rfl fun E hE hP => ?_
  first | refine tr_seq_region (by rw [hE]; rfl) ?_ | (refine Tr.seq ?_; refine tr_seq_region (by rw [hE]; rfl) ?_)
  repeat (refine vc_op rfl ?_; simp only [go_sem, seval])
  refine vc_nil ?_
  first | refine tr_seq_region (by rw [hE]; rfl) ?_ | (refine Tr.seq ?_; refine tr_seq_region (by rw [hE]; rfl) ?_)
  repeat (refine vc_op rfl ?_; simp only [go_sem, seval])
  refine vc_nil ?_
  first | refine tr_seq_region (by rw [hE]; rfl) ?_ | (refine Tr.seq ?_; refine tr_seq_region (by rw [hE]; rfl) ?_)
  repeat (refine vc_op rfl ?_; simp only [go_sem, seval])
  refine vc_nil ?_
  first | refine Tr.block ?_ | (refine Tr.seq ?_; refine Tr.block ?_)
  refine Tr.loop (fun i : Nat => (⟨[(1, .sl (f.map Check.av) false), (3, .ptr 0 [] 0), (5, .ptr 16 [] 0), (6, .ptr 32 [] 0), (7, .ptr 64 [] 0), (8, .int .i64 i)], [(0, .var (tav t)), (16, .var fin.av), (32, .var zCheck.av), (64, .var ((f.take i).foldl (bestS t fin) fin).av)], 65, []⟩ : S)) (fun i => i ≤ f.length) (fun i => f.length - i) 0 (Nat.zero_le _) ?_ ?_
  · refine wk_ren (fun n => n) ?_ ?_ rfl rfl rfl
    · repeat' (first | exact rfl | exact trivial | constructor)
    · repeat' (first | exact rfl | exact trivial | constructor)
  · intro i hi
    by_cases hlt : i < f.length
    · have e1 : decide ((i : Int) < (f.length : Int)) = true := decide_eq_true (by omega)
      have hn := nth_map_lt Check.av f i hlt
      have hw := wrap_next (n := i) (by omega)
      have hnx := foldl_next (bestS t fin) fin hlt
      generalize (f.take i).foldl (bestS t fin) fin = o at hnx
      generalize f[i] = c at hn hnx
      have c1 := refbehind_pure t c fin ht
      have c2 := refbetter_pure o c
      have hS : bestS t fin o c = if behindB t c fin && betterB o c then c else o := rfl
      rw [hS] at hnx
      generalize behindB t c fin = x1 at c1 hnx
      generalize betterB o c = x2 at c2 hnx
      first | refine tr_seq_region (by rw [hE]; rfl) ?_ | (refine Tr.seq ?_; refine tr_seq_region (by rw [hE]; rfl) ?_)
      repeat (refine vc_op rfl ?_; simp only [e1, go_sem, seval])
      refine vc_nil ?_
      first | refine Tr.cond (b := true) rfl (fun _ => ?_) (fun h => by cases h) | refine Tr.seq (Tr.cond (b := true) rfl (fun _ => ?_) (fun h => by cases h))
      refine Tr.skip ?_
      try simp only [blockK, thenK, ↓reduceIte]
      first | refine Tr.block ?_ | (refine Tr.seq ?_; refine Tr.block ?_)
      first | apply tr_md mixed [0, 16] rfl (by rw [hE]; rfl) (by kernel_rfl) | (refine Tr.seq ?_; apply tr_md mixed [0, 16] rfl (by rw [hE]; rfl) (by kernel_rfl))
      intro Q hQ
      simp only [List.toList_toArray, List.map_cons, List.map_nil, mo, guardSlot, Option.map_some, Option.map_none, List.getElem?_toArray, List.getElem?_cons_succ, List.getElem?_cons_zero, Option.bind_some]
      iterate 6 ((refine vd2_q rfl ?_); intro r hr; simp only [hn, go_sem, seval]; subst hr)
      (refine vd2_x rfl ?_); intro r hr; simp only [hn, go_sem, seval]
      refine call_fn rfl rfl rfl rfl (enters_of Tryd.func40 (by kernel_rfl) rfl) (c1) rfl rfl rfl ?_
      simp only [go_sem, seval]
      subst hr
      (refine vd2_q rfl ?_); intro r hr; simp only [go_sem, seval]; subst hr
      exact hQ
      first | apply tr_md mixed [64] rfl (by rw [hE]; rfl) (by kernel_rfl) | (refine Tr.seq ?_; apply tr_md mixed [64] rfl (by rw [hE]; rfl) (by kernel_rfl))
      intro Q hQ
      simp only [List.toList_toArray, List.map_cons, List.map_nil, mo, guardSlot, Option.map_some, Option.map_none, List.getElem?_toArray, List.getElem?_cons_succ, List.getElem?_cons_zero, Option.bind_some]
      iterate 5 ((refine vd2_q rfl ?_); intro r hr; simp only [hn, go_sem, seval]; subst hr)
      (refine vd2_x rfl ?_); intro r hr; simp only [hn, go_sem, seval]
      refine call_fn rfl rfl rfl rfl (enters_of Tryd.func43 (by kernel_rfl) rfl) (c2) rfl rfl rfl ?_
      simp only [go_sem, seval]
      subst hr
      (refine vd2_q rfl ?_); intro r hr; simp only [go_sem, seval]; subst hr
      exact hQ
      cases x1
      · rw [Bool.false_and, if_neg (by simp)] at hnx
        first | apply tr_m (by rw [hE]; rfl) | (refine Tr.seq ?_; apply tr_m (by rw [hE]; rfl))
        intro Q hQ
        simp only [List.toList_toArray, List.map_cons, List.map_nil, mo, guardSlot, Option.map_some, Option.map_none, List.getElem?_toArray, List.getElem?_cons_succ, List.getElem?_cons_zero, Option.bind_some]
        iterate 2 ((refine vm_op ?_); intro r hr; simp only [go_sem, seval]; subst hr)
        (first | refine vm_if rfl ?_ | refine vm_no rfl ?_ | refine vm_skip rfl ?_); intro r hr; simp only [go_sem, seval]; subst hr
        (refine vm_op ?_); intro r hr; simp only [go_sem, seval]; subst hr
        exact hQ
        first | refine Tr.cond (b := false) rfl (fun h => by cases h) (fun _ => ?_) | refine Tr.seq (Tr.cond (b := false) rfl (fun h => by cases h) (fun _ => ?_))
        refine Tr.skip ?_
        try simp only [blockK, thenK, ↓reduceIte]
        refine tr_region (by rw [hE]; rfl) ?_
        repeat (refine vc_op rfl ?_; simp only [go_sem, seval])
        refine vc_nil ?_
        rw [hw]
        try simp only [blockK, thenK, ↓reduceIte]
        refine ⟨i + 1, hlt, by omega, ?_⟩
        rw [hnx]
        refine wk_ren (fun n => n) ?_ ?_ rfl rfl rfl
        · repeat' (first | exact rfl | exact trivial | constructor)
        · repeat' (first | exact rfl | exact trivial | constructor)
      · cases x2
        · rw [Bool.and_false, if_neg (by simp)] at hnx
          first | apply tr_m (by rw [hE]; rfl) | (refine Tr.seq ?_; apply tr_m (by rw [hE]; rfl))
          intro Q hQ
          simp only [List.toList_toArray, List.map_cons, List.map_nil, mo, guardSlot, Option.map_some, Option.map_none, List.getElem?_toArray, List.getElem?_cons_succ, List.getElem?_cons_zero, Option.bind_some]
          iterate 2 ((refine vm_op ?_); intro r hr; simp only [go_sem, seval]; subst hr)
          (first | refine vm_if rfl ?_ | refine vm_no rfl ?_ | refine vm_skip rfl ?_); intro r hr; simp only [go_sem, seval]; subst hr
          (refine vm_op ?_); intro r hr; simp only [go_sem, seval]; subst hr
          exact hQ
          first | refine Tr.cond (b := false) rfl (fun h => by cases h) (fun _ => ?_) | refine Tr.seq (Tr.cond (b := false) rfl (fun h => by cases h) (fun _ => ?_))
          refine Tr.skip ?_
          try simp only [blockK, thenK, ↓reduceIte]
          refine tr_region (by rw [hE]; rfl) ?_
          repeat (refine vc_op rfl ?_; simp only [go_sem, seval])
          refine vc_nil ?_
          rw [hw]
          try simp only [blockK, thenK, ↓reduceIte]
          refine ⟨i + 1, hlt, by omega, ?_⟩
          rw [hnx]
          refine wk_ren (fun n => n) ?_ ?_ rfl rfl rfl
          · repeat' (first | exact rfl | exact trivial | constructor)
          · repeat' (first | exact rfl | exact trivial | constructor)
        · rw [Bool.true_and, if_pos rfl] at hnx
          first | apply tr_m (by rw [hE]; rfl) | (refine Tr.seq ?_; apply tr_m (by rw [hE]; rfl))
          intro Q hQ
          simp only [List.toList_toArray, List.map_cons, List.map_nil, mo, guardSlot, Option.map_some, Option.map_none, List.getElem?_toArray, List.getElem?_cons_succ, List.getElem?_cons_zero, Option.bind_some]
          iterate 2 ((refine vm_op ?_); intro r hr; simp only [go_sem, seval]; subst hr)
          (first | refine vm_if rfl ?_ | refine vm_no rfl ?_ | refine vm_skip rfl ?_); intro r hr; simp only [go_sem, seval]; subst hr
          (refine vm_op ?_); intro r hr; simp only [go_sem, seval]; subst hr
          exact hQ
          first | refine Tr.cond (b := true) rfl (fun _ => ?_) (fun h => by cases h) | refine Tr.seq (Tr.cond (b := true) rfl (fun _ => ?_) (fun h => by cases h))
          apply tr_ml (by rw [hE]; rfl)
          intro Q hQ
          simp only [List.toList_toArray, List.map_cons, List.map_nil, mo, guardSlot, Option.map_some, Option.map_none, List.getElem?_toArray, List.getElem?_cons_succ, List.getElem?_cons_zero, Option.bind_some]
          iterate 5 ((refine vm_op ?_); intro r hr; simp only [hn, go_sem, seval]; subst hr)
          exact hQ
          try simp only [blockK, thenK, ↓reduceIte]
          refine tr_region (by rw [hE]; rfl) ?_
          repeat (refine vc_op rfl ?_; simp only [go_sem, seval])
          refine vc_nil ?_
          rw [hw]
          try simp only [blockK, thenK, ↓reduceIte]
          refine ⟨i + 1, hlt, by omega, ?_⟩
          rw [hnx]
          refine wk_ren (fun n => n) ?_ ?_ rfl rfl rfl
          · repeat' (first | exact rfl | exact trivial | constructor)
          · repeat' (first | exact rfl | exact trivial | constructor)
    · have hil : i = f.length := by omega
      rw [hil, List.take_length, ← er]
      have e1 : decide ((f.length : Int) < (f.length : Int)) = false := decide_eq_false (by omega)
      first | refine tr_seq_region (by rw [hE]; rfl) ?_ | (refine Tr.seq ?_; refine tr_seq_region (by rw [hE]; rfl) ?_)
      repeat (refine vc_op rfl ?_; simp only [e1, go_sem, seval])
      refine vc_nil ?_
      first | refine Tr.cond (b := false) rfl (fun h => by cases h) (fun _ => ?_) | refine Tr.seq (Tr.cond (b := false) rfl (fun h => by cases h) (fun _ => ?_))
      refine Tr.exit ?_
      try simp only [blockK, thenK, ↓reduceIte]
      first | refine tr_seq_region (by rw [hE]; rfl) ?_ | (refine Tr.seq ?_; refine tr_seq_region (by rw [hE]; rfl) ?_)
      repeat (refine vc_op rfl ?_; simp only [go_sem, seval])
      refine vc_nil ?_
      refine Tr.ret ?_
      simp only [Tryd.f20, go_sem, seval]

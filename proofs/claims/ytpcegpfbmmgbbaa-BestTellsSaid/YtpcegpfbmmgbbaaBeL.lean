/- The best children, and heads, of all. -/
import Derived.Test.YtpcegpfbmmgbbaaBeK
set_option linter.unusedSimpArgs false
namespace Go.Proofs.Ytpcegpfbmmgbbaa
open Go Go.Ab

def pav (p : Int × Int) : AV := .arr [.int .i64 p.1, .int .i64 p.2]
@[go_sem] theorem pav_len (p : Int × Int) : (pav p).len = 2 := rfl
@[go_sem] theorem pav_agg (p : Int × Int) : (pav p).agg = true := rfl
@[go_sem] theorem pav_idf (p : Int × Int) : (pav p).idf = true := rfl
@[go_sem] theorem pav_ok (p : Int × Int) : (pav p).ok = true := rfl
@[go_sem] theorem pav_flat (p : Int × Int) : (pav p).flat = true := rfl
@[go_sem] theorem pav_frz (hp : HP) (p : Int × Int) : (pav p).frz hp = pav p := rfl
@[go_sem] theorem pav_idL (p : Int × Int) : (pav p).idL = [] := rfl
@[go_sem] theorem pav_ren (ρ : Nat → Nat) (p : Int × Int) : (pav p).ren ρ = pav p := rfl
@[go_sem] theorem und58 : Try.prog.underlying 58 = some (.array 2 3) := Try.underlying58
@[go_sem] theorem tArr58 : tArr Try.prog 58 = some (2, 3) := by kernel_rfl
@[go_sem] theorem tSize58 : tSize Try.prog 58 = some 2 := by kernel_rfl
@[go_sem] theorem tAgg58 : tAgg Try.prog 58 = some true := by kernel_rfl
@[go_sem] theorem tBytes58 : tBytes Try.prog 58 = some 16 := by kernel_rfl
@[go_sem] theorem tZero58 : tZero Try.prog 58 = some (pav (0, 0)) := by kernel_rfl
@[go_sem] theorem tElem54 : tElem Try.prog 54 = some 58 := by kernel_rfl
@[go_sem] theorem tSize54 : tSize Try.prog 54 = some 1 := by kernel_rfl
@[go_sem] theorem tAgg54 : tAgg Try.prog 54 = some false := by kernel_rfl
@[go_sem] theorem und54 : Try.prog.underlying 54 = some (.slice 58) := Try.underlying54
@[go_sem] theorem build58 (a b : Int) (K : AV → Prop) : buildK Try.prog 58 [(0, .int .i64 a), (1, .int .i64 b)] K = K (pav (a, b)) := by
  simp only [buildK, und58, tZero58, pav]
  apply propext
  constructor
  · rintro ⟨sz, _, _, _, h⟩; exact h
  · intro h; exact ⟨1, tSize3, by simp [AV.len], rfl, h⟩
@[go_sem] theorem pav_sub0 (p : Int × Int) : (pav p).sub [0] = some (.int .i64 p.1) := rfl
@[go_sem] theorem pav_sub1 (p : Int × Int) : (pav p).sub [1] = some (.int .i64 p.2) := rfl
@[go_sem] theorem pav_offs0 (p : Int × Int) : (pav p).offs [0] = some 0 := rfl
@[go_sem] theorem pav_offs1 (p : Int × Int) : (pav p).offs [1] = some 1 := rfl
@[go_sem] theorem pav_upd1 (p : Int × Int) (v : Int) : (pav p).upd [1] (.int .i64 v) = some (pav (p.1, v)) := rfl

def rowP (f : Nat → Int × Int) (n : Nat) : List AV := (List.range n).map fun i => pav (f i)
theorem rowP_len (f : Nat → Int × Int) (n : Nat) : (rowP f n).length = n := by simp [rowP]
theorem rowP_get (f : Nat → Int × Int) {n i : Nat} (h : i < n) : (rowP f n)[i]? = some (pav (f i)) := by simp [rowP, h]
theorem rowP_congr {f g : Nat → Int × Int} {n : Nat} (h : ∀ i, i < n → f i = g i) : rowP f n = rowP g n := by
  apply List.ext_getElem?
  intro i
  by_cases hi : i < n
  · rw [rowP_get f hi, rowP_get g hi, h i hi]
  · rw [List.getElem?_eq_none (by rw [rowP_len]; omega), List.getElem?_eq_none (by rw [rowP_len]; omega)]
theorem rowP_set (f : Nat → Int × Int) (n p : Nat) (v : Int × Int) (g : Nat → Int × Int) (h : ∀ i, i < n → g i = if i = p then v else f i) : (rowP f n).set p (pav v) = rowP g n := by
  apply List.ext_getElem?
  intro i
  by_cases hi : i < n
  · rw [rowP_get g hi, List.getElem?_set, h i hi]
    by_cases hp : p = i
    · subst hp; simp [rowP_len, hi]
    · rw [if_neg hp, if_neg (fun e => hp e.symm), rowP_get f hi]
  · rw [List.getElem?_eq_none (by rw [List.length_set, rowP_len]; omega), List.getElem?_eq_none (by rw [rowP_len]; omega)]
theorem rowP_repl (n : Nat) : List.replicate n (pav (0, 0)) = rowP (fun _ => (0, 0)) n := by
  apply List.ext_getElem?
  intro i
  by_cases hi : i < n
  · rw [rowP_get _ hi]; simp [hi]
  · rw [List.getElem?_eq_none (by simp; omega), List.getElem?_eq_none (by rw [rowP_len]; omega)]

def headF (t : List Node) (w : List Int) (ld : List Bool) (i : Int) : Int := (lineF t w ld i).getLastD (-1)
theorem headF_next {t : List Node} {w : List Int} {ld : List Bool} (hm : mayB t = true) {i : Int} (h0 : 0 ≤ i) (h1 : i < t.length) : headF t w ld i = if kidF t w ld i = -1 then i else headF t w ld (kidF t w ld i) := by
  have hk := kidF_range (w := w) (ld := ld) hm i h0
  unfold headF
  rw [lineF_next hm h0 h1]
  split
  · rename_i h
    rw [h, lineF_none]; rfl
  · rename_i h
    rw [lineF_next (i := kidF t w ld i) hm (by omega) (by omega)]
    rfl
def allP (t : List Node) (w : List Int) (ld : List Bool) (i : Nat) : Int × Int := (kidF t w ld i, headF t w ld i)
def allR (t : List Node) (w : List Int) (ld : List Bool) : List AV := if toldB t w ld = true then rowP (allP t w ld) t.length else []

def st28 (t : List Node) (w : List Int) (ld : List Bool) (m : Nat) : S where
  fr := [(7, .sl (rowI (fun j => kidF t w ld j) t.length) false), (8, .ms 0 2 t.length), (9, .int .i64 ((t.length : Int) - 1 - m))]
  hp := [(0, .row 2 (rowP (fun j => if t.length ≤ j + m then allP t w ld j else (0, 0)) t.length))]
  nx := 1

set_option maxRecDepth 10000 in
theorem all_pure (t : List Node) (w : List Int) (ld : List Bool) : Pure Try.prog 28 [tav t, .sl (w.map uav) false, .sl (ld.map .bool) false] (.sl (allR t w ld) false) := by
  refine pure_of_tr Try.func28 rfl (Nat.le_of_ble_eq_true rfl) rfl fun E hE hP => ?_
  first | refine tr_seq_region (by rw [hE]; rfl) ?_ | (refine Tr.seq ?_; refine tr_seq_region (by rw [hE]; rfl) ?_)
  repeat (refine vc_op rfl ?_; simp only [go_sem, ↓Nat.reduceBEq, ↓Nat.reduceAdd, ↓Nat.reduceSub, ↓Nat.reduceMul, ↓Nat.reduceEqDiff, ↓Nat.reducePow, ↓Nat.reduceLeDiff, ↓Nat.reduceLT, ↓Int.reduceLE, ↓Int.reduceLT, ↓reduceIte, ↓reduceCtorEq])
  refine vc_nil ?_
  by_cases ht : toldB t w ld = true
  · obtain ⟨hm, hwl, hdl⟩ := told_facts ht
    obtain ⟨hl1, hl2⟩ := may_len hm
    have er : allR t w ld = rowP (allP t w ld) t.length := by unfold allR; rw [if_pos ht]
    rw [er]
    first | apply tr_m (by rw [hE]; rfl) | (refine Tr.seq ?_; apply tr_m (by rw [hE]; rfl))
    intro Q hQ
    simp only [List.toList_toArray, List.map_cons, List.map_nil, mo, guardSlot, Option.map_some, Option.map_none, List.getElem?_toArray, List.getElem?_cons_succ, List.getElem?_cons_zero, Option.bind_some]
    iterate 3 ((refine vm_op ?_); intro r hr; simp only [go_sem, ↓Nat.reduceBEq, ↓Nat.reduceAdd, ↓Nat.reduceSub, ↓Nat.reduceMul, ↓Nat.reduceEqDiff, ↓Nat.reducePow, ↓Nat.reduceLeDiff, ↓Nat.reduceLT, ↓Int.reduceLE, ↓Int.reduceLT, ↓reduceIte, ↓reduceCtorEq]; subst hr)
    (refine vm_op ?_); intro r hr; simp only [go_sem, ↓Nat.reduceBEq, ↓Nat.reduceAdd, ↓Nat.reduceSub, ↓Nat.reduceMul, ↓Nat.reduceEqDiff, ↓Nat.reducePow, ↓Nat.reduceLeDiff, ↓Nat.reduceLT, ↓Int.reduceLE, ↓Int.reduceLT, ↓reduceIte, ↓reduceCtorEq]
    refine call_fn rfl rfl rfl rfl (enters_of Try.func50 (by kernel_rfl) rfl) (told_pure t w ld) rfl rfl rfl ?_
    simp only [go_sem, ↓Nat.reduceBEq, ↓Nat.reduceAdd, ↓Nat.reduceSub, ↓Nat.reduceMul, ↓Nat.reduceEqDiff, ↓Nat.reducePow, ↓Nat.reduceLeDiff, ↓Nat.reduceLT, ↓Int.reduceLE, ↓Int.reduceLT, ↓reduceIte, ↓reduceCtorEq]
    subst hr
    (refine vm_op ?_); intro r hr; simp only [ht, go_sem, ↓Nat.reduceBEq, ↓Nat.reduceAdd, ↓Nat.reduceSub, ↓Nat.reduceMul, ↓Nat.reduceEqDiff, ↓Nat.reducePow, ↓Nat.reduceLeDiff, ↓Nat.reduceLT, ↓Int.reduceLE, ↓Int.reduceLT, ↓reduceIte, ↓reduceCtorEq]; subst hr
    exact hQ
    first | refine Tr.cond rfl (fun h => by cases h) (fun _ => ?_) | refine Tr.seq (Tr.cond rfl (fun h => by cases h) (fun _ => ?_))
    refine Tr.skip ?_
    try simp only [blockK, thenK, ↓reduceIte]
    first | apply tr_m (by rw [hE]; rfl) | (refine Tr.seq ?_; apply tr_m (by rw [hE]; rfl))
    intro Q hQ
    simp only [List.toList_toArray, List.map_cons, List.map_nil, mo, guardSlot, Option.map_some, Option.map_none, List.getElem?_toArray, List.getElem?_cons_succ, List.getElem?_cons_zero, Option.bind_some]
    iterate 3 ((refine vm_op ?_); intro r hr; simp only [go_sem, ↓Nat.reduceBEq, ↓Nat.reduceAdd, ↓Nat.reduceSub, ↓Nat.reduceMul, ↓Nat.reduceEqDiff, ↓Nat.reducePow, ↓Nat.reduceLeDiff, ↓Nat.reduceLT, ↓Int.reduceLE, ↓Int.reduceLT, ↓reduceIte, ↓reduceCtorEq]; subst hr)
    (refine vm_op ?_); intro r hr; simp only [go_sem, ↓Nat.reduceBEq, ↓Nat.reduceAdd, ↓Nat.reduceSub, ↓Nat.reduceMul, ↓Nat.reduceEqDiff, ↓Nat.reducePow, ↓Nat.reduceLeDiff, ↓Nat.reduceLT, ↓Int.reduceLE, ↓Int.reduceLT, ↓reduceIte, ↓reduceCtorEq]
    refine call_fn rfl rfl rfl rfl (enters_of Try.func52 (by kernel_rfl) rfl) (kids_pure t w ld ht) rfl rfl rfl ?_
    simp only [go_sem, ↓Nat.reduceBEq, ↓Nat.reduceAdd, ↓Nat.reduceSub, ↓Nat.reduceMul, ↓Nat.reduceEqDiff, ↓Nat.reducePow, ↓Nat.reduceLeDiff, ↓Nat.reduceLT, ↓Int.reduceLE, ↓Int.reduceLT, ↓reduceIte, ↓reduceCtorEq]
    subst hr
    (refine vm_op ?_); intro r hr; simp only [go_sem, ↓Nat.reduceBEq, ↓Nat.reduceAdd, ↓Nat.reduceSub, ↓Nat.reduceMul, ↓Nat.reduceEqDiff, ↓Nat.reducePow, ↓Nat.reduceLeDiff, ↓Nat.reduceLT, ↓Int.reduceLE, ↓Int.reduceLT, ↓reduceIte, ↓reduceCtorEq]; subst hr
    exact hQ
    first | apply tr_m (by rw [hE]; rfl) | (refine Tr.seq ?_; apply tr_m (by rw [hE]; rfl))
    intro Q hQ
    simp only [List.toList_toArray, List.map_cons, List.map_nil, mo, guardSlot, Option.map_some, Option.map_none, List.getElem?_toArray, List.getElem?_cons_succ, List.getElem?_cons_zero, Option.bind_some]
    iterate 2 ((refine vm_op ?_); intro r hr; simp only [rowI_len, go_sem, ↓Nat.reduceBEq, ↓Nat.reduceAdd, ↓Nat.reduceSub, ↓Nat.reduceMul, ↓Nat.reduceEqDiff, ↓Nat.reducePow, ↓Nat.reduceLeDiff, ↓Nat.reduceLT, ↓Int.reduceLE, ↓Int.reduceLT, ↓reduceIte, ↓reduceCtorEq]; subst hr)
    (refine vm_op ?_); intro r hr; simp only [rowI_len, go_sem, ↓Nat.reduceBEq, ↓Nat.reduceAdd, ↓Nat.reduceSub, ↓Nat.reduceMul, ↓Nat.reduceEqDiff, ↓Nat.reducePow, ↓Nat.reduceLeDiff, ↓Nat.reduceLT, ↓Int.reduceLE, ↓Int.reduceLT, ↓reduceIte, ↓reduceCtorEq]
    refine ⟨by omega, by omega, by omega, ?_⟩
    simp only [Int.toNat_natCast, rowP_repl, go_sem, ↓Nat.reduceBEq, ↓Nat.reduceAdd, ↓Nat.reduceSub, ↓Nat.reduceMul, ↓Nat.reduceEqDiff, ↓Nat.reducePow, ↓Nat.reduceLeDiff, ↓Nat.reduceLT, ↓Int.reduceLE, ↓Int.reduceLT, ↓reduceIte, ↓reduceCtorEq]
    subst hr
    (refine vm_op ?_); intro r hr; simp only [go_sem, ↓Nat.reduceBEq, ↓Nat.reduceAdd, ↓Nat.reduceSub, ↓Nat.reduceMul, ↓Nat.reduceEqDiff, ↓Nat.reducePow, ↓Nat.reduceLeDiff, ↓Nat.reduceLT, ↓Int.reduceLE, ↓Int.reduceLT, ↓reduceIte, ↓reduceCtorEq]; subst hr
    exact hQ
    first | apply tr_m (by rw [hE]; rfl) | (refine Tr.seq ?_; apply tr_m (by rw [hE]; rfl))
    intro Q hQ
    simp only [List.toList_toArray, List.map_cons, List.map_nil, mo, guardSlot, Option.map_some, Option.map_none, List.getElem?_toArray, List.getElem?_cons_succ, List.getElem?_cons_zero, Option.bind_some]
    iterate 4 ((refine vm_op ?_); intro r hr; simp only [rowI_len, go_sem, ↓Nat.reduceBEq, ↓Nat.reduceAdd, ↓Nat.reduceSub, ↓Nat.reduceMul, ↓Nat.reduceEqDiff, ↓Nat.reducePow, ↓Nat.reduceLeDiff, ↓Nat.reduceLT, ↓Int.reduceLE, ↓Int.reduceLT, ↓reduceIte, ↓reduceCtorEq]; subst hr)
    exact hQ
    first | refine Tr.block ?_ | (refine Tr.seq ?_; refine Tr.block ?_)
    have hw0 : IntKind.i64.wrap ((t.length : Int) - 1) = (t.length : Int) - 1 - (0 : Nat) := by rw [wrap64_id (by omega) (by omega)]; omega
    rw [hw0]
    refine Tr.loop (st28 t w ld) (fun m => m ≤ t.length) (fun m => t.length - m) 0 (Nat.zero_le _) ?_ ?_
    · have e : rowP (fun _ => (0, 0)) t.length = rowP (fun j => if t.length ≤ j + 0 then allP t w ld j else (0, 0)) t.length := rowP_congr fun j hj => by rw [if_neg (by omega)]
      rw [e]
      refine wk_ren (fun | 0 => 224 | n => n) ?_ ?_ rfl rfl rfl
      · repeat' (first | exact rfl | exact trivial | constructor)
      · repeat' (first | exact rfl | exact trivial | constructor)
    · intro m hmn
      unfold st28
      by_cases hlt : m < t.length
      · obtain ⟨i, hi⟩ : ∃ i : Nat, (t.length : Int) - 1 - m = i := ⟨((t.length : Int) - 1 - m).toNat, by omega⟩
        have hil : i < t.length := by omega
        have e0 : decide (0 ≤ (i : Int)) = true := decide_eq_true (by omega)
        have hw1 : IntKind.i64.wrap ((i : Int) - 1) = (i : Int) - 1 := by
          rcases Nat.eq_zero_or_pos i with h | h
          · rw [h]; rfl
          · exact wrap64_id (by omega) (by omega)
        have hj : (i : Int) - 1 = (t.length : Int) - 1 - ((m + 1 : Nat) : Int) := by omega
        have hn := nth_row (fun j => kidF t w ld j) hil
        have hgi := rowP_get (fun j => if t.length ≤ j + m then allP t w ld j else (0, 0)) hil
        have hset := rowP_set (fun j => if t.length ≤ j + m then allP t w ld j else (0, 0)) t.length i (kidF t w ld i, (i : Int)) (fun j => if j = i then (kidF t w ld i, (i : Int)) else if t.length ≤ j + m then allP t w ld j else (0, 0)) (fun j _ => rfl)
        rw [hi]
        first | refine tr_seq_region (by rw [hE]; rfl) ?_ | (refine Tr.seq ?_; refine tr_seq_region (by rw [hE]; rfl) ?_)
        repeat (refine vc_op rfl ?_; simp only [e0, go_sem, ↓Nat.reduceBEq, ↓Nat.reduceAdd, ↓Nat.reduceSub, ↓Nat.reduceMul, ↓Nat.reduceEqDiff, ↓Nat.reducePow, ↓Nat.reduceLeDiff, ↓Nat.reduceLT, ↓Int.reduceLE, ↓Int.reduceLT, ↓reduceIte, ↓reduceCtorEq])
        refine vc_nil ?_
        first | refine Tr.cond (b := true) rfl (fun _ => ?_) (fun h => by cases h) | refine Tr.seq (Tr.cond (b := true) rfl (fun _ => ?_) (fun h => by cases h))
        refine Tr.skip ?_
        try simp only [blockK, thenK, ↓reduceIte]
        first | refine Tr.block ?_ | (refine Tr.seq ?_; refine Tr.block ?_)
        first | apply tr_m (by rw [hE]; rfl) | (refine Tr.seq ?_; apply tr_m (by rw [hE]; rfl))
        intro Q hQ
        simp only [List.toList_toArray, List.map_cons, List.map_nil, mo, guardSlot, Option.map_some, Option.map_none, List.getElem?_toArray, List.getElem?_cons_succ, List.getElem?_cons_zero, Option.bind_some]
        iterate 8 ((refine vm_op ?_); intro r hr; simp only [hn, go_sem, ↓Nat.reduceBEq, ↓Nat.reduceAdd, ↓Nat.reduceSub, ↓Nat.reduceMul, ↓Nat.reduceEqDiff, ↓Nat.reducePow, ↓Nat.reduceLeDiff, ↓Nat.reduceLT, ↓Int.reduceLE, ↓Int.reduceLT, ↓reduceIte, ↓reduceCtorEq]; subst hr)
        (refine vm_op ?_); intro r hr; simp only [go_sem, ↓Nat.reduceBEq, ↓Nat.reduceAdd, ↓Nat.reduceSub, ↓Nat.reduceMul, ↓Nat.reduceEqDiff, ↓Nat.reducePow, ↓Nat.reduceLeDiff, ↓Nat.reduceLT, ↓Int.reduceLE, ↓Int.reduceLT, ↓reduceIte, ↓reduceCtorEq]
        refine ⟨by omega, by omega, ?_⟩
        simp only [Int.toNat_natCast, go_sem, ↓Nat.reduceBEq, ↓Nat.reduceAdd, ↓Nat.reduceSub, ↓Nat.reduceMul, ↓Nat.reduceEqDiff, ↓Nat.reducePow, ↓Nat.reduceLeDiff, ↓Nat.reduceLT, ↓Int.reduceLE, ↓Int.reduceLT, ↓reduceIte, ↓reduceCtorEq]
        subst hr
        (refine vm_op ?_); intro r hr; simp only [hgi, hset, go_sem, ↓Nat.reduceBEq, ↓Nat.reduceAdd, ↓Nat.reduceSub, ↓Nat.reduceMul, ↓Nat.reduceEqDiff, ↓Nat.reducePow, ↓Nat.reduceLeDiff, ↓Nat.reduceLT, ↓Int.reduceLE, ↓Int.reduceLT, ↓reduceIte, ↓reduceCtorEq]; subst hr
        exact hQ
        have hnx := headF_next (w := w) (ld := ld) hm (i := i) (by omega) (by omega)
        have hkr := kidF_range (w := w) (ld := ld) hm i (by omega)
        by_cases hk : kidF t w ld i = -1
        · have ek : (kidF t w ld i != -1) = false := by rw [int_bne, decide_eq_true hk]; rfl
          rw [if_pos hk] at hnx
          have hrow : rowP (fun j => if j = i then (kidF t w ld i, (i : Int)) else if t.length ≤ j + m then allP t w ld j else (0, 0)) t.length = rowP (fun j => if t.length ≤ j + (m + 1) then allP t w ld j else (0, 0)) t.length := rowP_congr fun j hj' => by
            by_cases h1 : j = i
            · rw [if_pos h1, if_pos (by omega), h1]; unfold allP; rw [hnx]
            · rw [if_neg h1]
              by_cases h2 : t.length ≤ j + m
              · rw [if_pos h2, if_pos (by omega)]
              · rw [if_neg h2, if_neg (by omega)]
          first | apply tr_m (by rw [hE]; rfl) | (refine Tr.seq ?_; apply tr_m (by rw [hE]; rfl))
          intro Q hQ
          simp only [List.toList_toArray, List.map_cons, List.map_nil, mo, guardSlot, Option.map_some, Option.map_none, List.getElem?_toArray, List.getElem?_cons_succ, List.getElem?_cons_zero, Option.bind_some]
          iterate 5 ((refine vm_op ?_); intro r hr; simp only [hn, ek, go_sem, ↓Nat.reduceBEq, ↓Nat.reduceAdd, ↓Nat.reduceSub, ↓Nat.reduceMul, ↓Nat.reduceEqDiff, ↓Nat.reducePow, ↓Nat.reduceLeDiff, ↓Nat.reduceLT, ↓Int.reduceLE, ↓Int.reduceLT, ↓reduceIte, ↓reduceCtorEq]; subst hr)
          exact hQ
          first | refine Tr.cond rfl (fun h => by cases h) (fun _ => ?_) | refine Tr.seq (Tr.cond rfl (fun h => by cases h) (fun _ => ?_))
          refine Tr.skip ?_
          try simp only [blockK, thenK, ↓reduceIte]
          refine tr_region (by rw [hE]; rfl) ?_
          repeat (refine vc_op rfl ?_; simp only [go_sem, ↓Nat.reduceBEq, ↓Nat.reduceAdd, ↓Nat.reduceSub, ↓Nat.reduceMul, ↓Nat.reduceEqDiff, ↓Nat.reducePow, ↓Nat.reduceLeDiff, ↓Nat.reduceLT, ↓Int.reduceLE, ↓Int.reduceLT, ↓reduceIte, ↓reduceCtorEq])
          refine vc_nil ?_
          rw [hw1, hj]
          try simp only [blockK, thenK, ↓reduceIte]
          refine ⟨m + 1, hlt, by omega, ?_⟩
          rw [hrow]
          refine wk_ren (fun n => n) ?_ ?_ rfl rfl rfl
          · repeat' (first | exact rfl | exact trivial | constructor)
          · repeat' (first | exact rfl | exact trivial | constructor)
        · obtain ⟨k, hkk⟩ : ∃ k : Nat, kidF t w ld i = k := ⟨(kidF t w ld i).toNat, by omega⟩
          have ek : ((k : Int) != -1) = true := by rw [int_bne, decide_eq_false (by omega)]; rfl
          rw [if_neg hk, hkk] at hnx
          have hkl : k < t.length := by omega
          have hik : i < k := by omega
          have hgk := rowP_get (fun j => if j = i then (kidF t w ld i, (i : Int)) else if t.length ≤ j + m then allP t w ld j else (0, 0)) hkl
          have hgi2 := rowP_get (fun j => if j = i then (kidF t w ld i, (i : Int)) else if t.length ≤ j + m then allP t w ld j else (0, 0)) hil
          rw [if_neg (by omega), if_pos (by omega)] at hgk
          rw [if_pos rfl] at hgi2
          have hset2 := rowP_set (fun j => if j = i then (kidF t w ld i, (i : Int)) else if t.length ≤ j + m then allP t w ld j else (0, 0)) t.length i (kidF t w ld i, headF t w ld k) (fun j => if t.length ≤ j + (m + 1) then allP t w ld j else (0, 0)) fun j hj' => by
            by_cases h1 : j = i
            · rw [if_pos h1, if_pos (by omega), h1]; unfold allP; rw [hnx]
            · rw [if_neg h1, if_neg h1]
              by_cases h2 : t.length ≤ j + m
              · rw [if_pos h2, if_pos (by omega)]
              · rw [if_neg h2, if_neg (by omega)]
          simp only [hkk] at hgk hgi2 hset2
          first | apply tr_m (by rw [hE]; rfl) | (refine Tr.seq ?_; apply tr_m (by rw [hE]; rfl))
          intro Q hQ
          simp only [List.toList_toArray, List.map_cons, List.map_nil, mo, guardSlot, Option.map_some, Option.map_none, List.getElem?_toArray, List.getElem?_cons_succ, List.getElem?_cons_zero, Option.bind_some]
          iterate 5 ((refine vm_op ?_); intro r hr; simp only [hn, hkk, ek, go_sem, ↓Nat.reduceBEq, ↓Nat.reduceAdd, ↓Nat.reduceSub, ↓Nat.reduceMul, ↓Nat.reduceEqDiff, ↓Nat.reducePow, ↓Nat.reduceLeDiff, ↓Nat.reduceLT, ↓Int.reduceLE, ↓Int.reduceLT, ↓reduceIte, ↓reduceCtorEq]; subst hr)
          exact hQ
          first | refine Tr.cond (b := true) rfl (fun _ => ?_) (fun h => by cases h) | refine Tr.seq (Tr.cond (b := true) rfl (fun _ => ?_) (fun h => by cases h))
          refine tr_drawn mixed [0] rfl (by rw [hE]; rfl) (by kernel_rfl) ?_
          refine vd_q rfl rfl ?_; simp only [go_sem, ↓Nat.reduceBEq, ↓Nat.reduceAdd, ↓Nat.reduceSub, ↓Nat.reduceMul, ↓Nat.reduceEqDiff, ↓Nat.reducePow, ↓Nat.reduceLeDiff, ↓Nat.reduceLT, ↓Int.reduceLE, ↓Int.reduceLT, ↓reduceIte, ↓reduceCtorEq]
          refine vd_q rfl rfl ?_; simp only [go_sem, ↓Nat.reduceBEq, ↓Nat.reduceAdd, ↓Nat.reduceSub, ↓Nat.reduceMul, ↓Nat.reduceEqDiff, ↓Nat.reducePow, ↓Nat.reduceLeDiff, ↓Nat.reduceLT, ↓Int.reduceLE, ↓Int.reduceLT, ↓reduceIte, ↓reduceCtorEq]
          refine vd_q rfl rfl ?_; simp only [go_sem, ↓Nat.reduceBEq, ↓Nat.reduceAdd, ↓Nat.reduceSub, ↓Nat.reduceMul, ↓Nat.reduceEqDiff, ↓Nat.reducePow, ↓Nat.reduceLeDiff, ↓Nat.reduceLT, ↓Int.reduceLE, ↓Int.reduceLT, ↓reduceIte, ↓reduceCtorEq]
          refine vd_q rfl rfl ?_; simp only [go_sem, ↓Nat.reduceBEq, ↓Nat.reduceAdd, ↓Nat.reduceSub, ↓Nat.reduceMul, ↓Nat.reduceEqDiff, ↓Nat.reducePow, ↓Nat.reduceLeDiff, ↓Nat.reduceLT, ↓Int.reduceLE, ↓Int.reduceLT, ↓reduceIte, ↓reduceCtorEq]
          refine vd_q rfl rfl ?_; simp only [go_sem, ↓Nat.reduceBEq, ↓Nat.reduceAdd, ↓Nat.reduceSub, ↓Nat.reduceMul, ↓Nat.reduceEqDiff, ↓Nat.reducePow, ↓Nat.reduceLeDiff, ↓Nat.reduceLT, ↓Int.reduceLE, ↓Int.reduceLT, ↓reduceIte, ↓reduceCtorEq]
          refine vd_q rfl rfl ?_; simp only [hn, hkk, go_sem, ↓Nat.reduceBEq, ↓Nat.reduceAdd, ↓Nat.reduceSub, ↓Nat.reduceMul, ↓Nat.reduceEqDiff, ↓Nat.reducePow, ↓Nat.reduceLeDiff, ↓Nat.reduceLT, ↓Int.reduceLE, ↓Int.reduceLT, ↓reduceIte, ↓reduceCtorEq]
          refine vd_q rfl rfl ?_; simp only [go_sem, ↓Nat.reduceBEq, ↓Nat.reduceAdd, ↓Nat.reduceSub, ↓Nat.reduceMul, ↓Nat.reduceEqDiff, ↓Nat.reducePow, ↓Nat.reduceLeDiff, ↓Nat.reduceLT, ↓Int.reduceLE, ↓Int.reduceLT, ↓reduceIte, ↓reduceCtorEq]
          refine vd_q rfl rfl ?_; simp only [go_sem, ↓Nat.reduceBEq, ↓Nat.reduceAdd, ↓Nat.reduceSub, ↓Nat.reduceMul, ↓Nat.reduceEqDiff, ↓Nat.reducePow, ↓Nat.reduceLeDiff, ↓Nat.reduceLT, ↓Int.reduceLE, ↓Int.reduceLT, ↓reduceIte, ↓reduceCtorEq]
          refine ⟨by omega, by omega, ?_⟩
          simp only [Int.toNat_natCast, go_sem, ↓Nat.reduceBEq, ↓Nat.reduceAdd, ↓Nat.reduceSub, ↓Nat.reduceMul, ↓Nat.reduceEqDiff, ↓Nat.reducePow, ↓Nat.reduceLeDiff, ↓Nat.reduceLT, ↓Int.reduceLE, ↓Int.reduceLT, ↓reduceIte, ↓reduceCtorEq]
          refine vd_q rfl rfl ?_; simp only [go_sem, ↓Nat.reduceBEq, ↓Nat.reduceAdd, ↓Nat.reduceSub, ↓Nat.reduceMul, ↓Nat.reduceEqDiff, ↓Nat.reducePow, ↓Nat.reduceLeDiff, ↓Nat.reduceLT, ↓Int.reduceLE, ↓Int.reduceLT, ↓reduceIte, ↓reduceCtorEq]
          refine ⟨by decide, ?_⟩
          have t1 : Int.toNat 1 = 1 := rfl
          have ha2 : (allP t w ld k).2 = headF t w ld k := rfl
          refine vd_q rfl rfl ?_; simp only [hgk, t1, Nat.mul_one, ha2, go_sem, ↓Nat.reduceBEq, ↓Nat.reduceAdd, ↓Nat.reduceSub, ↓Nat.reduceMul, ↓Nat.reduceEqDiff, ↓Nat.reducePow, ↓Nat.reduceLeDiff, ↓Nat.reduceLT, ↓Int.reduceLE, ↓Int.reduceLT, ↓reduceIte, ↓reduceCtorEq]
          refine vd_q rfl rfl ?_; simp only [go_sem, ↓Nat.reduceBEq, ↓Nat.reduceAdd, ↓Nat.reduceSub, ↓Nat.reduceMul, ↓Nat.reduceEqDiff, ↓Nat.reducePow, ↓Nat.reduceLeDiff, ↓Nat.reduceLT, ↓Int.reduceLE, ↓Int.reduceLT, ↓reduceIte, ↓reduceCtorEq]
          refine ⟨by omega, by omega, ?_⟩
          simp only [Int.toNat_natCast, go_sem, ↓Nat.reduceBEq, ↓Nat.reduceAdd, ↓Nat.reduceSub, ↓Nat.reduceMul, ↓Nat.reduceEqDiff, ↓Nat.reducePow, ↓Nat.reduceLeDiff, ↓Nat.reduceLT, ↓Int.reduceLE, ↓Int.reduceLT, ↓reduceIte, ↓reduceCtorEq]
          refine vd_q rfl rfl ?_; simp only [go_sem, ↓Nat.reduceBEq, ↓Nat.reduceAdd, ↓Nat.reduceSub, ↓Nat.reduceMul, ↓Nat.reduceEqDiff, ↓Nat.reducePow, ↓Nat.reduceLeDiff, ↓Nat.reduceLT, ↓Int.reduceLE, ↓Int.reduceLT, ↓reduceIte, ↓reduceCtorEq]
          refine ⟨by decide, ?_⟩
          refine vd_w rfl rfl (by kernel_rfl) ?_; simp only [hgi2, t1, Nat.mul_one, hset2, go_sem, ↓Nat.reduceBEq, ↓Nat.reduceAdd, ↓Nat.reduceSub, ↓Nat.reduceMul, ↓Nat.reduceEqDiff, ↓Nat.reducePow, ↓Nat.reduceLeDiff, ↓Nat.reduceLT, ↓Int.reduceLE, ↓Int.reduceLT, ↓reduceIte, ↓reduceCtorEq]
          refine vd_nil ?_
          try simp only [blockK, thenK, ↓reduceIte]
          refine tr_region (by rw [hE]; rfl) ?_
          repeat (refine vc_op rfl ?_; simp only [go_sem, ↓Nat.reduceBEq, ↓Nat.reduceAdd, ↓Nat.reduceSub, ↓Nat.reduceMul, ↓Nat.reduceEqDiff, ↓Nat.reducePow, ↓Nat.reduceLeDiff, ↓Nat.reduceLT, ↓Int.reduceLE, ↓Int.reduceLT, ↓reduceIte, ↓reduceCtorEq])
          refine vc_nil ?_
          rw [hw1, hj]
          try simp only [blockK, thenK, ↓reduceIte]
          refine ⟨m + 1, hlt, by omega, ?_⟩
          refine wk_ren (fun n => n) ?_ ?_ rfl rfl rfl
          · repeat' (first | exact rfl | exact trivial | constructor)
          · repeat' (first | exact rfl | exact trivial | constructor)
      · have hml : m = t.length := by omega
        have e0 : decide (0 ≤ (t.length : Int) - 1 - (m : Int)) = false := decide_eq_false (by omega)
        have hrow : rowP (fun j => if t.length ≤ j + m then allP t w ld j else (0, 0)) t.length = rowP (allP t w ld) t.length := rowP_congr fun j _ => by rw [if_pos (by omega)]
        rw [hrow]
        first | refine tr_seq_region (by rw [hE]; rfl) ?_ | (refine Tr.seq ?_; refine tr_seq_region (by rw [hE]; rfl) ?_)
        repeat (refine vc_op rfl ?_; simp only [e0, go_sem, ↓Nat.reduceBEq, ↓Nat.reduceAdd, ↓Nat.reduceSub, ↓Nat.reduceMul, ↓Nat.reduceEqDiff, ↓Nat.reducePow, ↓Nat.reduceLeDiff, ↓Nat.reduceLT, ↓Int.reduceLE, ↓Int.reduceLT, ↓reduceIte, ↓reduceCtorEq])
        refine vc_nil ?_
        first | refine Tr.cond (b := false) rfl (fun h => by cases h) (fun _ => ?_) | refine Tr.seq (Tr.cond (b := false) rfl (fun h => by cases h) (fun _ => ?_))
        refine Tr.exit ?_
        try simp only [blockK, thenK, ↓reduceIte]
        first | refine tr_seq_region (by rw [hE]; rfl) ?_ | (refine Tr.seq ?_; refine tr_seq_region (by rw [hE]; rfl) ?_)
        repeat (refine vc_op rfl ?_; simp only [go_sem, ↓Nat.reduceBEq, ↓Nat.reduceAdd, ↓Nat.reduceSub, ↓Nat.reduceMul, ↓Nat.reduceEqDiff, ↓Nat.reducePow, ↓Nat.reduceLeDiff, ↓Nat.reduceLT, ↓Int.reduceLE, ↓Int.reduceLT, ↓reduceIte, ↓reduceCtorEq])
        refine vc_nil ?_
        refine Tr.ret ?_
        simp only [rowP_len, Try.f28, go_sem, ↓Nat.reduceBEq, ↓Nat.reduceAdd, ↓Nat.reduceSub, ↓Nat.reduceMul, ↓Nat.reduceEqDiff, ↓Nat.reducePow, ↓Nat.reduceLeDiff, ↓Nat.reduceLT, ↓Int.reduceLE, ↓Int.reduceLT, ↓reduceIte, ↓reduceCtorEq]
  · have ht : toldB t w ld = false := by simpa using ht
    have er : allR t w ld = [] := by unfold allR; rw [if_neg (by simp [ht])]
    rw [er]
    first | apply tr_m (by rw [hE]; rfl) | (refine Tr.seq ?_; apply tr_m (by rw [hE]; rfl))
    intro Q hQ
    simp only [List.toList_toArray, List.map_cons, List.map_nil, mo, guardSlot, Option.map_some, Option.map_none, List.getElem?_toArray, List.getElem?_cons_succ, List.getElem?_cons_zero, Option.bind_some]
    iterate 3 ((refine vm_op ?_); intro r hr; simp only [go_sem, ↓Nat.reduceBEq, ↓Nat.reduceAdd, ↓Nat.reduceSub, ↓Nat.reduceMul, ↓Nat.reduceEqDiff, ↓Nat.reducePow, ↓Nat.reduceLeDiff, ↓Nat.reduceLT, ↓Int.reduceLE, ↓Int.reduceLT, ↓reduceIte, ↓reduceCtorEq]; subst hr)
    (refine vm_op ?_); intro r hr; simp only [go_sem, ↓Nat.reduceBEq, ↓Nat.reduceAdd, ↓Nat.reduceSub, ↓Nat.reduceMul, ↓Nat.reduceEqDiff, ↓Nat.reducePow, ↓Nat.reduceLeDiff, ↓Nat.reduceLT, ↓Int.reduceLE, ↓Int.reduceLT, ↓reduceIte, ↓reduceCtorEq]
    refine call_fn rfl rfl rfl rfl (enters_of Try.func50 (by kernel_rfl) rfl) (told_pure t w ld) rfl rfl rfl ?_
    simp only [go_sem, ↓Nat.reduceBEq, ↓Nat.reduceAdd, ↓Nat.reduceSub, ↓Nat.reduceMul, ↓Nat.reduceEqDiff, ↓Nat.reducePow, ↓Nat.reduceLeDiff, ↓Nat.reduceLT, ↓Int.reduceLE, ↓Int.reduceLT, ↓reduceIte, ↓reduceCtorEq]
    subst hr
    (refine vm_op ?_); intro r hr; simp only [ht, go_sem, ↓Nat.reduceBEq, ↓Nat.reduceAdd, ↓Nat.reduceSub, ↓Nat.reduceMul, ↓Nat.reduceEqDiff, ↓Nat.reducePow, ↓Nat.reduceLeDiff, ↓Nat.reduceLT, ↓Int.reduceLE, ↓Int.reduceLT, ↓reduceIte, ↓reduceCtorEq]; subst hr
    exact hQ
    first | refine Tr.cond (b := true) rfl (fun _ => ?_) (fun h => by cases h) | refine Tr.seq (Tr.cond (b := true) rfl (fun _ => ?_) (fun h => by cases h))
    first | refine tr_seq_region (by rw [hE]; rfl) ?_ | (refine Tr.seq ?_; refine tr_seq_region (by rw [hE]; rfl) ?_)
    repeat (refine vc_op rfl ?_; simp only [go_sem, ↓Nat.reduceBEq, ↓Nat.reduceAdd, ↓Nat.reduceSub, ↓Nat.reduceMul, ↓Nat.reduceEqDiff, ↓Nat.reducePow, ↓Nat.reduceLeDiff, ↓Nat.reduceLT, ↓Int.reduceLE, ↓Int.reduceLT, ↓reduceIte, ↓reduceCtorEq])
    refine vc_nil ?_
    refine Tr.ret ?_
    simp only [Try.f28, go_sem, ↓Nat.reduceBEq, ↓Nat.reduceAdd, ↓Nat.reduceSub, ↓Nat.reduceMul, ↓Nat.reduceEqDiff, ↓Nat.reducePow, ↓Nat.reduceLeDiff, ↓Nat.reduceLT, ↓Int.reduceLE, ↓Int.reduceLT, ↓reduceIte, ↓reduceCtorEq]

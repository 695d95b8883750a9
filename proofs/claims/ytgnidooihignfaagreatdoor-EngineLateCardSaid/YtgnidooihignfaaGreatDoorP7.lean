/- Trees: a block that is put. -/
import Derived.Test.YtgnidooihignfaaGreatDoorP6
set_option linter.unusedSimpArgs false
set_option maxRecDepth 10000
namespace Go.Proofs.YtgnidooihignfaaGreatDoor
open Go Go.Ab

def nodeOf (t : List Node) (b : Block) : Node := ⟨b.root, findR t b.parent, b.slot, b.just⟩
def insR (t : List Node) (b : Block) : List Node × Int :=
  if mayB t = false then (t, 1)
  else if 0 ≤ findR t b.root then (t, 4)
  else if findR t b.parent < 0 then (t, 5)
  else if b.slot ≤ (t.getD (findR t b.parent).toNat zNode).slot ∨ 1099511627776 < b.slot then (t, 6)
  else if t.length = 12 then (t, 3)
  else (t ++ [nodeOf t b], 0)
theorem ins_1 (t : List Node) (b : Block) (ht : t.length ≤ 1000) (hm : mayB t = false) : Cal Tryz.prog 137 [tav t, b.av] (.tup [tav t, .int .i64 1]) := by
  have o1 := tclone_c t ht
  have c1 := And.intro (enters_of Tryz.func71 (by kernel_rfl) rfl) (may_pure t)
  rw [hm] at c1
  have hR : Tryz.f137.results.toList = [.cell 4 24, .tmp 5] := rfl
  refine cal_tr Tryz.func137 rfl fun E hE hP => ?_
  refine mr ?_
  refine mr ?_
  refine Tr.wk (Wk.frzH [80]) ?_
  simp only [frzHP, frzA, AV.frz, AV.frzL, List.map_cons, List.map_nil, go_sem, seval]
  exact mX
theorem rlook_find {t : List Node} (hm : mayB t = true) (r : Root) : (findR t r = -1 ∧ rlook (idxTo t t.length) r = none) ∨ ∃ i : Nat, i < t.length ∧ findR t r = i ∧ rlook (idxTo t t.length) r = some i := by
  rw [rlook_once (may_once hm) r, findR, if_pos hm, findI]
  cases h : t.findIdx? (isR r) with
  | none => exact .inl ⟨rfl, rfl⟩
  | some i => exact .inr ⟨i, (List.findIdx?_eq_some_iff_getElem.1 h).1, rfl, rfl⟩
theorem ins_4 (t : List Node) (b : Block) (ht : t.length ≤ 1000) (hm : mayB t = true) (i : Nat) (hk : rlook (idxTo t t.length) b.root = some i) : Cal Tryz.prog 137 [tav t, b.av] (.tup [tav t, .int .i64 4]) := by
  have o1 := tclone_c t ht
  have c1 := And.intro (enters_of Tryz.func71 (by kernel_rfl) rfl) (may_pure t)
  have o2 : CalO Tryz.prog 72 [.sl (t.map Node.av) false] (.tup [.mp 0, .bool (onceB t)]) [(0, .amap ((idxTo t t.length).map entE))] := And.intro (enters_of Tryz.func72 (by kernel_rfl) rfl) (index_own t (by have := may_len hm; omega))
  have hml := may_len hm
  rw [hm] at c1
  have hR : Tryz.f137.results.toList = [.cell 4 24, .tmp 5] := rfl
  refine cal_tr Tryz.func137 rfl fun E hE hP => ?_
  refine mr ?_
  refine mr ?_
  refine Tr.wk (Wk.frzH [80]) ?_
  simp only [frzHP, frzA, AV.frz, AV.frzL, List.map_cons, List.map_nil, go_sem, seval]
  refine mW ?_
  first | apply tr_m (by rw [hE]; rfl) | (refine Tr.seq ?_; apply tr_m (by rw [hE]; rfl))
  intro Q hQ
  simp only [go_sem, seval]
  iterate 3 ((refine vm_op ?_); intro r hr; simp only [Option.getD_some, Option.isSome_some, go_sem, seval]; subst hr)
  (refine vm_op ?_); intro r hr; simp only [Option.getD_some, Option.isSome_some, go_sem, seval]
  refine lookR rfl ?_; rw [hk]
  try simp only [Option.getD_some, Option.isSome_some, go_sem, seval]
  subst hr
  iterate 5 ((refine vm_op ?_); intro r hr; simp only [Option.getD_some, Option.isSome_some, go_sem, seval]; subst hr)
  exact hQ
  exact mX
theorem ins_5 (t : List Node) (b : Block) (ht : t.length ≤ 1000) (hm : mayB t = true) (hk : rlook (idxTo t t.length) b.root = none) (hp : rlook (idxTo t t.length) b.parent = none) : Cal Tryz.prog 137 [tav t, b.av] (.tup [tav t, .int .i64 5]) := by
  have o1 := tclone_c t ht
  have c1 := And.intro (enters_of Tryz.func71 (by kernel_rfl) rfl) (may_pure t)
  have o2 : CalO Tryz.prog 72 [.sl (t.map Node.av) false] (.tup [.mp 0, .bool (onceB t)]) [(0, .amap ((idxTo t t.length).map entE))] := And.intro (enters_of Tryz.func72 (by kernel_rfl) rfl) (index_own t (by have := may_len hm; omega))
  have hml := may_len hm
  rw [hm] at c1
  have hR : Tryz.f137.results.toList = [.cell 4 24, .tmp 5] := rfl
  refine cal_tr Tryz.func137 rfl fun E hE hP => ?_
  refine mr ?_
  refine mr ?_
  refine Tr.wk (Wk.frzH [80]) ?_
  simp only [frzHP, frzA, AV.frz, AV.frzL, List.map_cons, List.map_nil, go_sem, seval]
  refine mW ?_
  first | apply tr_m (by rw [hE]; rfl) | (refine Tr.seq ?_; apply tr_m (by rw [hE]; rfl))
  intro Q hQ
  simp only [go_sem, seval]
  iterate 3 ((refine vm_op ?_); intro r hr; simp only [Option.getD_none, Option.isSome_none, go_sem, seval]; subst hr)
  (refine vm_op ?_); intro r hr; simp only [Option.getD_none, Option.isSome_none, go_sem, seval]
  refine lookR rfl ?_; rw [hk]
  try simp only [Option.getD_none, Option.isSome_none, go_sem, seval]
  subst hr
  iterate 5 ((refine vm_op ?_); intro r hr; simp only [Option.getD_none, Option.isSome_none, go_sem, seval]; subst hr)
  exact hQ
  refine mW ?_
  first | apply tr_m (by rw [hE]; rfl) | (refine Tr.seq ?_; apply tr_m (by rw [hE]; rfl))
  intro Q hQ
  simp only [go_sem, seval]
  iterate 3 ((refine vm_op ?_); intro r hr; simp only [Option.getD_none, Option.isSome_none, go_sem, seval]; subst hr)
  (refine vm_op ?_); intro r hr; simp only [Option.getD_none, Option.isSome_none, go_sem, seval]
  refine lookR rfl ?_; rw [hp]
  try simp only [Option.getD_none, Option.isSome_none, go_sem, seval]
  subst hr
  iterate 5 ((refine vm_op ?_); intro r hr; simp only [Option.getD_none, Option.isSome_none, go_sem, seval]; subst hr)
  exact hQ
  exact mX
theorem ins_6 (t : List Node) (b : Block) (ht : t.length ≤ 1000) (hm : mayB t = true) (i : Nat) (hi : i < t.length) (hk : rlook (idxTo t t.length) b.root = none) (hp : rlook (idxTo t t.length) b.parent = some i) (hs : b.slot ≤ (t.getD i zNode).slot ∨ 1099511627776 < b.slot) : Cal Tryz.prog 137 [tav t, b.av] (.tup [tav t, .int .i64 6]) := by
  have hn := nth_node hi
  generalize t.getD i zNode = n at hn hs
  rcases Bool.eq_false_or_eq_true (decide (b.slot ≤ n.slot)) with g | g
  · have o1 := tclone_c t ht
    have c1 := And.intro (enters_of Tryz.func71 (by kernel_rfl) rfl) (may_pure t)
    have o2 : CalO Tryz.prog 72 [.sl (t.map Node.av) false] (.tup [.mp 0, .bool (onceB t)]) [(0, .amap ((idxTo t t.length).map entE))] := And.intro (enters_of Tryz.func72 (by kernel_rfl) rfl) (index_own t (by have := may_len hm; omega))
    have hml := may_len hm
    rw [hm] at c1
    have hR : Tryz.f137.results.toList = [.cell 4 24, .tmp 5] := rfl
    refine cal_tr Tryz.func137 rfl fun E hE hP => ?_
    refine mr ?_
    refine mr ?_
    refine Tr.wk (Wk.frzH [80]) ?_
    simp only [frzHP, frzA, AV.frz, AV.frzL, List.map_cons, List.map_nil, go_sem, seval]
    refine mW ?_
    first | apply tr_m (by rw [hE]; rfl) | (refine Tr.seq ?_; apply tr_m (by rw [hE]; rfl))
    intro Q hQ
    simp only [go_sem, seval]
    iterate 3 ((refine vm_op ?_); intro r hr; simp only [Option.getD_none, Option.isSome_none, go_sem, seval]; subst hr)
    (refine vm_op ?_); intro r hr; simp only [Option.getD_none, Option.isSome_none, go_sem, seval]
    refine lookR rfl ?_; rw [hk]
    try simp only [Option.getD_none, Option.isSome_none, go_sem, seval]
    subst hr
    iterate 5 ((refine vm_op ?_); intro r hr; simp only [Option.getD_none, Option.isSome_none, go_sem, seval]; subst hr)
    exact hQ
    refine mW ?_
    first | apply tr_m (by rw [hE]; rfl) | (refine Tr.seq ?_; apply tr_m (by rw [hE]; rfl))
    intro Q hQ
    simp only [go_sem, seval]
    iterate 3 ((refine vm_op ?_); intro r hr; simp only [Option.getD_some, Option.isSome_some, go_sem, seval]; subst hr)
    (refine vm_op ?_); intro r hr; simp only [Option.getD_some, Option.isSome_some, go_sem, seval]
    refine lookR rfl ?_; rw [hp]
    try simp only [Option.getD_some, Option.isSome_some, go_sem, seval]
    subst hr
    iterate 5 ((refine vm_op ?_); intro r hr; simp only [Option.getD_some, Option.isSome_some, go_sem, seval]; subst hr)
    exact hQ
    have ff := And.intro hn g
    exact mX
  · have g2 : decide (1099511627776 < b.slot) = true := decide_eq_true (hs.resolve_left (of_decide_eq_false g))
    have o1 := tclone_c t ht
    have c1 := And.intro (enters_of Tryz.func71 (by kernel_rfl) rfl) (may_pure t)
    have o2 : CalO Tryz.prog 72 [.sl (t.map Node.av) false] (.tup [.mp 0, .bool (onceB t)]) [(0, .amap ((idxTo t t.length).map entE))] := And.intro (enters_of Tryz.func72 (by kernel_rfl) rfl) (index_own t (by have := may_len hm; omega))
    have hml := may_len hm
    rw [hm] at c1
    have hR : Tryz.f137.results.toList = [.cell 4 24, .tmp 5] := rfl
    refine cal_tr Tryz.func137 rfl fun E hE hP => ?_
    refine mr ?_
    refine mr ?_
    refine Tr.wk (Wk.frzH [80]) ?_
    simp only [frzHP, frzA, AV.frz, AV.frzL, List.map_cons, List.map_nil, go_sem, seval]
    refine mW ?_
    first | apply tr_m (by rw [hE]; rfl) | (refine Tr.seq ?_; apply tr_m (by rw [hE]; rfl))
    intro Q hQ
    simp only [go_sem, seval]
    iterate 3 ((refine vm_op ?_); intro r hr; simp only [Option.getD_none, Option.isSome_none, go_sem, seval]; subst hr)
    (refine vm_op ?_); intro r hr; simp only [Option.getD_none, Option.isSome_none, go_sem, seval]
    refine lookR rfl ?_; rw [hk]
    try simp only [Option.getD_none, Option.isSome_none, go_sem, seval]
    subst hr
    iterate 5 ((refine vm_op ?_); intro r hr; simp only [Option.getD_none, Option.isSome_none, go_sem, seval]; subst hr)
    exact hQ
    refine mW ?_
    first | apply tr_m (by rw [hE]; rfl) | (refine Tr.seq ?_; apply tr_m (by rw [hE]; rfl))
    intro Q hQ
    simp only [go_sem, seval]
    iterate 3 ((refine vm_op ?_); intro r hr; simp only [Option.getD_some, Option.isSome_some, go_sem, seval]; subst hr)
    (refine vm_op ?_); intro r hr; simp only [Option.getD_some, Option.isSome_some, go_sem, seval]
    refine lookR rfl ?_; rw [hp]
    try simp only [Option.getD_some, Option.isSome_some, go_sem, seval]
    subst hr
    iterate 5 ((refine vm_op ?_); intro r hr; simp only [Option.getD_some, Option.isSome_some, go_sem, seval]; subst hr)
    exact hQ
    have ff := And.intro hn (And.intro g g2)
    exact mX
theorem ins_3 (t : List Node) (b : Block) (ht : t.length ≤ 1000) (hm : mayB t = true) (i : Nat) (hi : i < t.length) (hk : rlook (idxTo t t.length) b.root = none) (hp : rlook (idxTo t t.length) b.parent = some i) (g : decide (b.slot ≤ (t.getD i zNode).slot) = false) (g2 : decide (1099511627776 < b.slot) = false)
    (g3 : decide ((t.length : Int) = 12) = true) : Cal Tryz.prog 137 [tav t, b.av] (.tup [tav t, .int .i64 3]) := by
  have hn := nth_node hi
  generalize t.getD i zNode = n at hn g
  have o1 := tclone_c t ht
  have c1 := And.intro (enters_of Tryz.func71 (by kernel_rfl) rfl) (may_pure t)
  have o2 : CalO Tryz.prog 72 [.sl (t.map Node.av) false] (.tup [.mp 0, .bool (onceB t)]) [(0, .amap ((idxTo t t.length).map entE))] := And.intro (enters_of Tryz.func72 (by kernel_rfl) rfl) (index_own t (by have := may_len hm; omega))
  have hml := may_len hm
  rw [hm] at c1
  have hR : Tryz.f137.results.toList = [.cell 4 24, .tmp 5] := rfl
  refine cal_tr Tryz.func137 rfl fun E hE hP => ?_
  refine mr ?_
  refine mr ?_
  refine Tr.wk (Wk.frzH [80]) ?_
  simp only [frzHP, frzA, AV.frz, AV.frzL, List.map_cons, List.map_nil, go_sem, seval]
  refine mW ?_
  first | apply tr_m (by rw [hE]; rfl) | (refine Tr.seq ?_; apply tr_m (by rw [hE]; rfl))
  intro Q hQ
  simp only [go_sem, seval]
  iterate 3 ((refine vm_op ?_); intro r hr; simp only [Option.getD_none, Option.isSome_none, go_sem, seval]; subst hr)
  (refine vm_op ?_); intro r hr; simp only [Option.getD_none, Option.isSome_none, go_sem, seval]
  refine lookR rfl ?_; rw [hk]
  try simp only [Option.getD_none, Option.isSome_none, go_sem, seval]
  subst hr
  iterate 5 ((refine vm_op ?_); intro r hr; simp only [Option.getD_none, Option.isSome_none, go_sem, seval]; subst hr)
  exact hQ
  refine mW ?_
  first | apply tr_m (by rw [hE]; rfl) | (refine Tr.seq ?_; apply tr_m (by rw [hE]; rfl))
  intro Q hQ
  simp only [go_sem, seval]
  iterate 3 ((refine vm_op ?_); intro r hr; simp only [Option.getD_some, Option.isSome_some, go_sem, seval]; subst hr)
  (refine vm_op ?_); intro r hr; simp only [Option.getD_some, Option.isSome_some, go_sem, seval]
  refine lookR rfl ?_; rw [hp]
  try simp only [Option.getD_some, Option.isSome_some, go_sem, seval]
  subst hr
  iterate 5 ((refine vm_op ?_); intro r hr; simp only [Option.getD_some, Option.isSome_some, go_sem, seval]; subst hr)
  exact hQ
  have ff := And.intro hn (And.intro g (And.intro g2 g3))
  exact mX
theorem ins_0 (t : List Node) (b : Block) (ht : t.length ≤ 1000) (hm : mayB t = true) (i : Nat) (hi : i < t.length) (hk : rlook (idxTo t t.length) b.root = none) (hp : rlook (idxTo t t.length) b.parent = some i) (g : decide (b.slot ≤ (t.getD i zNode).slot) = false) (g2 : decide (1099511627776 < b.slot) = false)
    (g3 : decide ((t.length : Int) = 12) = false) : Cal Tryz.prog 137 [tav t, b.av] (.tup [tav (t ++ [⟨b.root, i, b.slot, b.just⟩]), .int .i64 0]) := by
  have hn := nth_node hi
  generalize t.getD i zNode = n at hn g
  have o1 := tclone_c t ht
  have c1 := And.intro (enters_of Tryz.func71 (by kernel_rfl) rfl) (may_pure t)
  have o2 : CalO Tryz.prog 72 [.sl (t.map Node.av) false] (.tup [.mp 0, .bool (onceB t)]) [(0, .amap ((idxTo t t.length).map entE))] := And.intro (enters_of Tryz.func72 (by kernel_rfl) rfl) (index_own t (by have := may_len hm; omega))
  have hml := may_len hm
  rw [hm] at c1
  have hR : Tryz.f137.results.toList = [.cell 4 24, .tmp 5] := rfl
  refine cal_tr Tryz.func137 rfl fun E hE hP => ?_
  refine mr ?_
  refine mr ?_
  refine mW ?_
  first | apply tr_m (by rw [hE]; rfl) | (refine Tr.seq ?_; apply tr_m (by rw [hE]; rfl))
  intro Q hQ
  simp only [go_sem, seval]
  iterate 3 ((refine vm_op ?_); intro r hr; simp only [Option.getD_none, Option.isSome_none, go_sem, seval]; subst hr)
  (refine vm_op ?_); intro r hr; simp only [Option.getD_none, Option.isSome_none, go_sem, seval]
  refine lookR rfl ?_; rw [hk]
  try simp only [Option.getD_none, Option.isSome_none, go_sem, seval]
  subst hr
  iterate 5 ((refine vm_op ?_); intro r hr; simp only [Option.getD_none, Option.isSome_none, go_sem, seval]; subst hr)
  exact hQ
  refine mW ?_
  first | apply tr_m (by rw [hE]; rfl) | (refine Tr.seq ?_; apply tr_m (by rw [hE]; rfl))
  intro Q hQ
  simp only [go_sem, seval]
  iterate 3 ((refine vm_op ?_); intro r hr; simp only [Option.getD_some, Option.isSome_some, go_sem, seval]; subst hr)
  (refine vm_op ?_); intro r hr; simp only [Option.getD_some, Option.isSome_some, go_sem, seval]
  refine lookR rfl ?_; rw [hp]
  try simp only [Option.getD_some, Option.isSome_some, go_sem, seval]
  subst hr
  iterate 5 ((refine vm_op ?_); intro r hr; simp only [Option.getD_some, Option.isSome_some, go_sem, seval]; subst hr)
  exact hQ
  have ff := And.intro hn (And.intro g (And.intro g2 g3))
  refine mW ?_
  first | apply tr_m (by rw [hE]; rfl) | (refine Tr.seq ?_; apply tr_m (by rw [hE]; rfl))
  intro Q hQ
  simp only [go_sem, seval]
  iterate 11 ((refine vm_op ?_); intro r hr; simp only [List.filter_cons, List.filter_nil, Bool.not_false, Bool.not_true, if_true, Bool.false_eq_true, if_false, go_sem, seval]; subst hr)
  (refine vm_op ?_); intro r hr; simp only [List.filter_cons, List.filter_nil, Bool.not_false, Bool.not_true, if_true, Bool.false_eq_true, if_false, go_sem, seval]
  refine ⟨by omega, by omega, ?_⟩
  try simp only [List.filter_cons, List.filter_nil, Bool.not_false, Bool.not_true, if_true, Bool.false_eq_true, if_false, go_sem, seval]
  subst hr
  iterate 2 ((refine vm_op ?_); intro r hr; simp only [List.filter_cons, List.filter_nil, Bool.not_false, Bool.not_true, if_true, Bool.false_eq_true, if_false, go_sem, seval]; subst hr)
  exact hQ
  refine mr ?_
  refine Tr.wk (Wk.frzH [1136]) ?_
  have hma : List.map Node.av t ++ [(Node.mk b.root i b.slot b.just).av] = List.map Node.av (t ++ [⟨b.root, i, b.slot, b.just⟩]) := by rw [List.map_append]; rfl
  have hlen : (List.map Node.av (t ++ [⟨b.root, i, b.slot, b.just⟩])).length = t.length + 1 := by rw [List.length_map, List.length_append]; rfl
  simp only [frzHP, frzA, AV.frz, AV.frzL, List.map_cons, List.map_nil, hma, hlen, go_sem, seval]
  exact mX
theorem ins_c (t : List Node) (b : Block) (ht : t.length ≤ 1000) : Cal Tryz.prog 137 [tav t, b.av] (.tup [tav (insR t b).1, .int .i64 (insR t b).2]) := by
  cases hm : mayB t
  · have er : insR t b = (t, 1) := by rw [insR, if_pos hm]
    rw [er]
    exact ins_1 t b ht hm
  · have h0 : ¬ mayB t = false := by rw [hm]; decide
    rcases rlook_find hm b.root with ⟨k1, k2⟩ | ⟨i, k0, k1, k2⟩
    · rcases rlook_find hm b.parent with ⟨p1, p2⟩ | ⟨j, p0, p1, p2⟩
      · have er : insR t b = (t, 5) := by rw [insR, if_neg h0, if_neg (by omega), if_pos (by omega)]
        rw [er]
        exact ins_5 t b ht hm k2 p2
      · have er : insR t b = if b.slot ≤ (t.getD j zNode).slot ∨ 1099511627776 < b.slot then (t, 6) else if t.length = 12 then (t, 3) else (t ++ [nodeOf t b], 0) := by
          rw [insR, if_neg h0, if_neg (by omega), if_neg (by omega), p1, Int.toNat_natCast]
        rw [er]
        by_cases hs : b.slot ≤ (t.getD j zNode).slot ∨ 1099511627776 < b.slot
        · rw [if_pos hs]
          exact ins_6 t b ht hm j p0 k2 p2 hs
        · rw [if_neg hs]
          rw [not_or] at hs
          by_cases hl : t.length = 12
          · rw [if_pos hl]
            exact ins_3 t b ht hm j p0 k2 p2 (decide_eq_false hs.1) (decide_eq_false hs.2) (decide_eq_true (by omega))
          · rw [if_neg hl]
            unfold nodeOf
            rw [p1]
            exact ins_0 t b ht hm j p0 k2 p2 (decide_eq_false hs.1) (decide_eq_false hs.2) (decide_eq_false (by omega))
    · have er : insR t b = (t, 4) := by rw [insR, if_neg h0, if_pos (by omega)]
      rw [er]
      exact ins_4 t b ht hm i k2

/-- An engine at work, whose weights lie in memory of its own. -/
def workV (e : Eng) (W : AV) (b : Block) (a : Att) (c : Ask) : AV := .st [engX e (.sl (e.t.map Node.av) false) (u64s e.b) (.sl (e.vl.map Latest.av) false) W (atts e.late) (links e.k) (checks e.j), b.av, a.av, c.av]
attribute [go_sem] workV
def workH (e : Eng) (b : Block) (a : Att) (c : Ask) : HP := [(0, .var (workV e (.ms 1 1 e.w.length) b a c)), (1, .row 1 (e.w.map uav))]
theorem place_e (e : Eng) (b : Block) (a : Att) (c : Ask) (r : Root) : CalE Tryz.prog 138 [.ptr 0 [] 0, .root r] 2 (workH e b a c) (.int .i64 (findR e.t r)) (workH e b a c) := by
  have c1 := And.intro (enters_of Tryz.func27 (by kernel_rfl) rfl) (find_pure e.t r)
  unfold workH
  have hR : Tryz.f138.results.toList = [.tmp 4] := rfl
  refine calE_tr Tryz.func138 rfl fun E hE hP => ?_
  exact mX
def workO (e : Eng) (t : List Node) (b : Block) (a : Att) (c : Ask) : HP := [(0, .var (workV ⟨t, e.b, e.vl, e.o, e.w ++ [0], e.late, e.k, e.j, e.fin, e.now⟩ (.ms 2 1 (e.w.length + 1)) b a c)), (2, .row 1 ((e.w ++ [0]).map uav))]
theorem blk_0 (e : Eng) (b : Block) (a : Att) (c : Ask) (he : e.few) (h : decide (e.now < b.slot) = false) (t : List Node) (ht : insR e.t b = (t, 0)) (hl : 1 ≤ t.length ∧ t.length ≤ 1000) (hw1 : e.w.length ≤ 1000) (ha : aboveR t (findR e.t e.fin.root) ((t.length - 1 : Nat) : Int) = true) : CalE Tryz.prog 69 [.ptr 0 [] 0] 2 (workH e b a c) (.int .i64 0) (workO e t b a c) := by
  have c1 := ins_c e.t b (by have := he.t; omega)
  rw [ht] at c1
  have y1 := place_e e b a c e.fin.root
  have c2 := And.intro (enters_of Tryz.func39 (by kernel_rfl) rfl) (above_pure t (findR e.t e.fin.root) ((t.length - 1 : Nat) : Int))
  rw [ha] at c2
  have hw : IntKind.i64.wrap ((t.length : Int) - 1) = ((t.length - 1 : Nat) : Int) := by rw [wrap64_id (by omega) (by omega)]; omega
  have ff := And.intro h hw
  unfold workH at y1 ⊢
  unfold workO
  have hR : Tryz.f69.results.toList = [.tmp 2] := rfl
  refine calE_tr Tryz.func69 rfl fun E hE hP => ?_
  refine mr ?_
  refine mr ?_
  refine mC ?_
  refine mC ?_
  refine tr_seq_plan mixed _ (.one 0 (.one 1 (.one 2 (.one 3 (.one 4 (.one 5 (.one 6 (.one 7 (.one 8 (.two 9 (.one 10 (.one 11 (.one 12 (.one 13 (.one 14 (.one 15 .done)))))) 13 (.one 9 (.one 10 (.one 11 (.one 12 (.one 14 (.one 15 .done)))))))))))))))) (⟨[(0, .ptr 0 [] 0), (3, .ptr 2 [] 0), (4, .int .i64 0)], [(0, .var (workV e (.ms 1 1 e.w.length) b a c)), (1, .row 1 (e.w.map uav)), (2, .var (tav t))], 3, []⟩) (keepAll _) (by rw [hE]; rfl) (by kernel_rfl) ?_ ?_
  · simp only [List.map_cons, List.map_nil]
    iterate 9 refine pQ ?_
    apply pl_two; exact rfl; exact rfl
    · refine st_x rfl rfl ?_; simp only [List.getElem_toArray, List.getElem_cons_zero, List.getElem_cons_succ, go_sem, seval]
      refine call_fn rfl rfl rfl rfl (enters_of Tryz.func137 (by kernel_rfl) rfl) (c1.2) rfl rfl rfl ?_
      simp only [go_sem, seval]
      iterate 3 refine pQ ?_
      refine pX ?_
      refine pX ?_
      refine pQ ?_
      refine pl_done (st := _) ?_ rfl
      refine wk_ren (fun | 2 => 402 | n => n) mB mB rfl rfl rfl
    · refine st_x rfl rfl ?_; simp only [List.getElem_toArray, List.getElem_cons_zero, List.getElem_cons_succ, go_sem, seval]
      refine pX ?_
      refine call_fn rfl rfl rfl rfl (enters_of Tryz.func137 (by kernel_rfl) rfl) (c1.2) rfl rfl rfl ?_
      simp only [go_sem, seval]
      iterate 3 refine pQ ?_
      refine pX ?_
      refine pQ ?_
      refine pl_done (st := _) ?_ rfl
      refine wk_ren (fun | 2 => 402 | n => n) mB mB rfl rfl rfl
  refine mW ?_
  first | refine tr_seq_drawn mixed [0, 2] rfl (by rw [hE]; rfl) (by kernel_rfl) ?_ | (refine Tr.seq ?_; refine tr_seq_drawn mixed [0, 2] rfl (by rw [hE]; rfl) (by kernel_rfl) ?_)
  iterate 9 refine vQ ?_
  refine vd_x rfl rfl ?_; simp only [List.filter_cons, List.filter_nil, Bool.not_false, Bool.not_true, if_true, Bool.false_eq_true, if_false, go_sem, seval]
  refine ⟨by omega, by omega, ?_⟩
  try simp only [List.filter_cons, List.filter_nil, Bool.not_false, Bool.not_true, if_true, Bool.false_eq_true, if_false, go_sem, seval]
  iterate 3 refine vQ ?_
  refine vd_w rfl rfl (by kernel_rfl) ?_; simp only [List.filter_cons, List.filter_nil, Bool.not_false, Bool.not_true, if_true, Bool.false_eq_true, if_false, go_sem, seval]
  iterate 3 refine vQ ?_
  refine vd_w rfl rfl (by kernel_rfl) ?_; simp only [List.filter_cons, List.filter_nil, Bool.not_false, Bool.not_true, if_true, Bool.false_eq_true, if_false, go_sem, seval]
  refine vd_nil ?_
  refine mr ?_
  have hma : List.map uav e.w ++ [AV.int .u64 0] = List.map uav (e.w ++ [0]) := by rw [List.map_append]; rfl
  refine Tr.ret ?_
  simp only [hR, hma, go_sem, seval]
  exact ⟨fun | 2 => 451 | n => n, (by repeat' (first | exact rfl | exact trivial | constructor)), rfl, fun o ho => by rcases o with _ | _ | _ <;> first | rfl | omega⟩

def cz0 : Ask := ⟨0, [], zroot, zroot, 0⟩
def workA (e : Eng) (b : Block) (a : Att) (c : Ask) : AV := .st [e.av, b.av, a.av, c.av]
attribute [go_sem] workA
theorem do_no (e : Eng) (b : Block) (a : Att) (c : Ask) (F : Nat) (he : e.few) (ho : e.ok) (hm : mayE e = false) : CalT Tryz.prog 0 tabV 68 [workA e b a c, .fn (.func F) [] []] (.tup [e.av, .int .i64 1]) := by
  have x1 := may_t e he ho
  rw [hm] at x1
  have d1 := own_p e he
  have c1 := d1
  have hR : Tryz.f68.results.toList = [.cell 4 38, .tmp 5] := rfl
  refine calE_tr Tryz.func68 rfl fun E hE hP => ?_
  exact mX
theorem part0_c (n : Int) : Cal Tryz.prog 207 [.sl [] false, .fn (.func 208) [] [.ref (.int .u64 n)]] (.tup [.sl [] false, .sl [] false]) := by
  have hR : Tryz.f207.results.toList = [.tmp 4, .tmp 5] := rfl
  refine cal_tr Tryz.func207 rfl fun E hE hP => ?_
  refine mW ?_
  refine Tr.loop (fun _ : Nat => (⟨[(6, .sl [] true), (7, .sl [] true), (11, .int .i64 0), (12, .int .i64 0)], [], 0, []⟩ : S)) (fun _ => True) (fun k => k) 0 trivial ?_ ?_
  · refine wk_ren (fun n => n) mB mB rfl rfl rfl
  · intro k _
    exact mX
theorem due0_c (n : Int) : Cal Tryz.prog 154 [.sl [] false, .int .u64 n] (.tup [.sl [] false, .sl [] false]) := by
  have c1 := part0_c n
  have hR : Tryz.f154.results.toList = [.tmp 4, .tmp 5] := rfl
  refine cal_tr Tryz.func154 rfl fun E hE hP => ?_
  exact mX
def tickE (e : Eng) : Eng := ⟨e.t, e.b, e.vl, e.o, e.w, [], e.k, e.j, e.fin, e.now + 1⟩
theorem tick_e (e : Eng) (b : Block) (a : Att) (c : Ask) (hl : e.late = []) (hn : decide (e.now = 1099511627776) = false) (hw : IntKind.u64.wrap (e.now + 1) = e.now + 1) : CalE Tryz.prog 88 [.ptr 0 [] 0] 1 [(0, .var (workA e b a c))] (.int .i64 0) [(0, .var (workA (tickE e) b a c))] := by
  have c1 := due0_c (e.now + 1)
  obtain ⟨t, bl, vl, o, w, late, k, j, fin, now⟩ := e
  simp only at hl hn hw c1
  subst hl
  have ff := And.intro hn hw
  unfold tickE
  have hR : Tryz.f88.results.toList = [.tmp 2] := rfl
  refine calE_tr Tryz.func88 rfl fun E hE hP => ?_
  refine mW ?_
  refine Tr.loop (fun _ : Nat => (⟨[(0, .ptr 0 [] 0), (41, .sl [] false), (42, .int .i64 0), (43, .int .i64 0)], [(0, .var (workA ⟨t, bl, vl, o, w, [], k, j, fin, now + 1⟩ b a c))], 1, []⟩ : S)) (fun _ => True) (fun k => k) 0 trivial ?_ ?_
  · refine wk_ren (fun n => n) mB mB rfl rfl rfl
  · intro k _
    exact mX
theorem do_tick (e : Eng) (b : Block) (a : Att) (c : Ask) (he : e.few) (ho : e.ok) (hm : mayE e = true) (hl : e.late = []) (hn : decide (e.now = 1099511627776) = false) (hw : IntKind.u64.wrap (e.now + 1) = e.now + 1) : CalT Tryz.prog 0 tabV 68 [workA e b a c, .fn (.func 88) [] []] (.tup [(tickE e).av, .int .i64 0]) := by
  have x1 := may_t e he ho
  rw [hm] at x1
  have c1 := own_p e he
  have y := tick_e e b a c hl hn hw
  have hR : Tryz.f68.results.toList = [.cell 4 38, .tmp 5] := rfl
  refine calE_tr Tryz.func68 rfl fun E hE hP => ?_
  refine mr ?_
  refine mr ?_
  refine mr ?_
  refine mr ?_
  refine mC ?_
  refine mC ?_
  first | apply tr_m (by rw [hE]; rfl) | (refine Tr.seq ?_; apply tr_m (by rw [hE]; rfl))
  intro Q hQ
  simp only [go_sem, seval]
  refine mV ?_
  (refine vm_op ?_); intro r hr; simp only [go_sem, seval]
  refine call_eff (fun | 0 => 1 | n => n) [false] [] rfl rfl rfl rfl (enters_of Tryz.func88 (by kernel_rfl) rfl) (y.2) rfl rfl (by repeat' (first | exact rfl | exact trivial | constructor)) rfl rfl rfl ?_
  simp only [renH_nil, renH_cons, effR, go_sem, seval]
  subst hr
  refine mV ?_
  exact hQ
  exact mX
theorem tick_t (e : Eng) (he : e.few) (ho : e.ok) (hm : mayE e = true) (hl : e.late = []) (hn : decide (e.now = 1099511627776) = false) (hw : IntKind.u64.wrap (e.now + 1) = e.now + 1) : CalT Tryz.prog 0 tabV 37 [e.av] (.tup [(tickE e).av, .int .i64 0]) := by
  have x1 := do_tick e zBlock zAtt cz0 he ho hm hl hn hw
  generalize tickE e = f at x1
  have hR : Tryz.f37.results.toList = [.cell 2 38, .tmp 3] := rfl
  refine calE_tr Tryz.func37 rfl fun E hE hP => ?_
  exact mX

theorem lequal_c (l k : List Latest) (hl : l.length ≤ 1000) : Cal Tryz.prog 160 [.sl (l.map Latest.av) false, .sl (k.map Latest.av) false] (.bool (decide (l = k))) := by
  by_cases hlen : l.length = k.length
  · have e0 : ((l.length : Int) != (k.length : Int)) = false := by simp [hlen]
    have ff := e0
    have hR : Tryz.f160.results.toList = [.tmp 4] := rfl
    refine cal_tr Tryz.func160 rfl fun E hE hP => ?_
    refine mW ?_
    refine Tr.loop (fun i : Nat => (⟨[(0, .sl (l.map Latest.av) false), (1, .sl (k.map Latest.av) false), (12, .int .i64 l.length), (13, .int .i64 i)], [], 0, []⟩ : S)) (fun i => i ≤ l.length ∧ ∀ j (h1 : j < l.length) (h2 : j < k.length), j < i → l[j] = k[j]) (fun i => l.length - i) 0 ⟨Nat.zero_le _, fun _ _ _ h => by omega⟩ ?_ ?_
    · exact mK
    · intro i ⟨hi, hall⟩
      by_cases hlt : i < l.length
      · have e1 : decide ((i : Int) < (l.length : Int)) = true := decide_eq_true (by omega)
        have hkt : i < k.length := by omega
        have hn := nth_map_lt Latest.av l i hlt
        have hn2 := nth_map_lt Latest.av k i hkt
        have hw := wrap_next (n := i) (by omega)
        by_cases he : l[i] = k[i]
        · have e2 : decide (l[i] = k[i]) = true := decide_eq_true he
          have ff := And.intro e1 (And.intro hn (And.intro hn2 (And.intro hw e2)))
          refine mW ?_
          refine ⟨i + 1, ⟨hlt, fun j h1 h2 hji => ?_⟩, by omega, ?_⟩
          · rcases Nat.lt_or_ge j i with h | h
            · exact hall j h1 h2 h
            · have : j = i := by omega
              subst this; exact he
          · exact mK
        · have e2 : decide (l[i] = k[i]) = false := decide_eq_false he
          have er : decide (l = k) = false := decide_eq_false fun h => he (by subst h; rfl)
          have ff := And.intro e1 (And.intro hn (And.intro hn2 (And.intro hw (And.intro e2 er))))
          exact mWE
      · have e1 : decide ((i : Int) < (l.length : Int)) = false := decide_eq_false (by omega)
        have er : decide (l = k) = true := decide_eq_true (List.ext_getElem hlen fun j h1 h2 => hall j h1 h2 (by omega))
        have ff := And.intro e1 er
        exact mWE
  · have e0 : ((l.length : Int) != (k.length : Int)) = true := by simp; omega
    have er : decide (l = k) = false := decide_eq_false fun h => hlen (by rw [h])
    have ff := And.intro e0 er
    have hR : Tryz.f160.results.toList = [.tmp 4] := rfl
    refine cal_tr Tryz.func160 rfl fun E hE hP => ?_
    exact mWE
theorem jequal_c (l k : List Check) (hl : l.length ≤ 1000) : Cal Tryz.prog 94 [.sl (l.map Check.av) false, .sl (k.map Check.av) false] (.bool (decide (l = k))) := by
  by_cases hlen : l.length = k.length
  · have e0 : ((l.length : Int) != (k.length : Int)) = false := by simp [hlen]
    have ff := e0
    have hR : Tryz.f94.results.toList = [.tmp 4] := rfl
    refine cal_tr Tryz.func94 rfl fun E hE hP => ?_
    refine mW ?_
    refine Tr.loop (fun i : Nat => (⟨[(0, .sl (l.map Check.av) false), (1, .sl (k.map Check.av) false), (12, .int .i64 l.length), (13, .int .i64 i)], [], 0, []⟩ : S)) (fun i => i ≤ l.length ∧ ∀ j (h1 : j < l.length) (h2 : j < k.length), j < i → l[j] = k[j]) (fun i => l.length - i) 0 ⟨Nat.zero_le _, fun _ _ _ h => by omega⟩ ?_ ?_
    · exact mK
    · intro i ⟨hi, hall⟩
      by_cases hlt : i < l.length
      · have e1 : decide ((i : Int) < (l.length : Int)) = true := decide_eq_true (by omega)
        have hkt : i < k.length := by omega
        have hn := nth_map_lt Check.av l i hlt
        have hn2 := nth_map_lt Check.av k i hkt
        have hw := wrap_next (n := i) (by omega)
        by_cases he : l[i] = k[i]
        · have e2 : decide (l[i] = k[i]) = true := decide_eq_true he
          have ff := And.intro e1 (And.intro hn (And.intro hn2 (And.intro hw e2)))
          refine mW ?_
          refine ⟨i + 1, ⟨hlt, fun j h1 h2 hji => ?_⟩, by omega, ?_⟩
          · rcases Nat.lt_or_ge j i with h | h
            · exact hall j h1 h2 h
            · have : j = i := by omega
              subst this; exact he
          · exact mK
        · have e2 : decide (l[i] = k[i]) = false := decide_eq_false he
          have er : decide (l = k) = false := decide_eq_false fun h => he (by subst h; rfl)
          have ff := And.intro e1 (And.intro hn (And.intro hn2 (And.intro hw (And.intro e2 er))))
          exact mWE
      · have e1 : decide ((i : Int) < (l.length : Int)) = false := decide_eq_false (by omega)
        have er : decide (l = k) = true := decide_eq_true (List.ext_getElem hlen fun j h1 h2 => hall j h1 h2 (by omega))
        have ff := And.intro e1 er
        exact mWE
  · have e0 : ((l.length : Int) != (k.length : Int)) = true := by simp; omega
    have er : decide (l = k) = false := decide_eq_false fun h => hlen (by rw [h])
    have ff := And.intro e0 er
    have hR : Tryz.f94.results.toList = [.tmp 4] := rfl
    refine cal_tr Tryz.func94 rfl fun E hE hP => ?_
    exact mWE
theorem asame1_c (a : Att) : Cal Tryz.prog 162 [a.av, a.av] (.bool true) := by
  have h : decide (a = a) = true := decide_eq_true rfl
  have ff := h
  have hR : Tryz.f162.results.toList = [.tmp 4] := rfl
  refine cal_tr Tryz.func162 rfl fun E hE hP => ?_
  exact mX
theorem ksame1_c (a : Link) : Cal Tryz.prog 164 [a.av, a.av] (.bool true) := by
  have h : decide (a = a) = true := decide_eq_true rfl
  have h2 : decide (a.s = a.s) = true := decide_eq_true rfl
  have h3 : decide (a.t = a.t) = true := decide_eq_true rfl
  have h4 : decide (a.mask = a.mask) = true := decide_eq_true rfl
  have ff := And.intro h (And.intro h2 (And.intro h3 h4))
  have hR : Tryz.f164.results.toList = [.tmp 4] := rfl
  refine cal_tr Tryz.func164 rfl fun E hE hP => ?_
  exact mX

theorem asame_c (l : List Att) (hl : l.length ≤ 1000) : Cal Tryz.prog 161 [.sl (l.map Att.av) false, .sl (l.map Att.av) false, .fn (.func 162) [] []] (.bool true) := by
  have e0 : decide ((l.length : Int) = (l.length : Int)) = true := decide_eq_true rfl
  have ff := e0
  have hR : Tryz.f161.results.toList = [.tmp 6] := rfl
  refine cal_tr Tryz.func161 rfl fun E hE hP => ?_
  refine mW ?_
  refine Tr.loop (fun i : Nat => (⟨[(1, .sl (l.map Att.av) false), (2, .fn (.func 162) [] []), (15, .sl (l.map Att.av) false), (16, .int .i64 l.length), (17, .int .i64 i)], [], 0, []⟩ : S)) (fun i => i ≤ l.length) (fun i => l.length - i) 0 (Nat.zero_le _) ?_ ?_
  · refine wk_ren (fun n => n) mB mB rfl rfl rfl
  · intro i hi
    by_cases hlt : i < l.length
    · have e1 : decide ((i : Int) < (l.length : Int)) = true := decide_eq_true (by omega)
      have hn := nth_map_lt Att.av l i hlt
      have hw := wrap_next (n := i) (by omega)
      have c1 := asame1_c l[i]
      generalize l[i] = x at hn c1
      have ff := And.intro e1 (And.intro hn hw)
      refine mW ?_
      refine ⟨i + 1, hlt, by omega, ?_⟩
      exact mK
    · have e1 : decide ((i : Int) < (l.length : Int)) = false := decide_eq_false (by omega)
      have ff := e1
      exact mX
theorem ksame_c (l : List Link) (hl : l.length ≤ 1000) : Cal Tryz.prog 163 [.sl (l.map Link.av) false, .sl (l.map Link.av) false, .fn (.func 164) [] []] (.bool true) := by
  have e0 : decide ((l.length : Int) = (l.length : Int)) = true := decide_eq_true rfl
  have ff := e0
  have hR : Tryz.f163.results.toList = [.tmp 6] := rfl
  refine cal_tr Tryz.func163 rfl fun E hE hP => ?_
  refine mW ?_
  refine Tr.loop (fun i : Nat => (⟨[(1, .sl (l.map Link.av) false), (2, .fn (.func 164) [] []), (15, .sl (l.map Link.av) false), (16, .int .i64 l.length), (17, .int .i64 i)], [], 0, []⟩ : S)) (fun i => i ≤ l.length) (fun i => l.length - i) 0 (Nat.zero_le _) ?_ ?_
  · refine wk_ren (fun n => n) mB mB rfl rfl rfl
  · intro i hi
    by_cases hlt : i < l.length
    · have e1 : decide ((i : Int) < (l.length : Int)) = true := decide_eq_true (by omega)
      have hn := nth_map_lt Link.av l i hlt
      have hw := wrap_next (n := i) (by omega)
      have c1 := ksame1_c l[i]
      generalize l[i] = x at hn c1
      have ff := And.intro e1 (And.intro hn hw)
      refine mW ?_
      refine ⟨i + 1, hlt, by omega, ?_⟩
      exact mK
    · have e1 : decide ((i : Int) < (l.length : Int)) = false := decide_eq_false (by omega)
      have ff := e1
      exact mX
theorem esame_c (e : Eng) (he : e.few) : Cal Tryz.prog 33 [e.av, e.av] (.bool true) := by
  have c1 := tsame_c e.t e.t (by have := he.t; omega)
  have c2 := uequal_c e.b e.b (by have := he.b; omega)
  have d3 := lequal_c e.vl e.vl (by have := he.vl; omega)
  have c4 := wsame_c e.w e.w (by have := he.w; omega)
  have d5 := asame_c e.late (by have := he.late; omega)
  have d6 := ksame_c e.k (by have := he.k; omega)
  have c7 := jequal_c e.j e.j (by have := he.j; omega)
  have t1 : decide (e.t = e.t) = true := decide_eq_true rfl
  have t2 : decide (e.b = e.b) = true := decide_eq_true rfl
  have t3 : decide (e.vl = e.vl) = true := decide_eq_true rfl
  have t4 : decide (e.w = e.w) = true := decide_eq_true rfl
  have t7 : decide (e.j = e.j) = true := decide_eq_true rfl
  rw [t1] at c1
  rw [t2] at c2
  rw [t3] at d3
  rw [t4] at c4
  rw [t7] at c7
  have c3 : Cal Tryz.prog 91 [vav e.vl e.o, vav e.vl e.o] (.bool true) := by
    have c1 := d3
    have h : decide (e.o = e.o) = true := decide_eq_true rfl
    have ff := h
    have hR : Tryz.f91.results.toList = [.tmp 4] := rfl
    refine cal_tr Tryz.func91 rfl fun E hE hP => ?_
    exact mX
  have c5 : Cal Tryz.prog 92 [atts e.late, atts e.late] (.bool true) := by
    have c1 := d5
    have hR : Tryz.f92.results.toList = [.tmp 4] := rfl
    refine cal_tr Tryz.func92 rfl fun E hE hP => ?_
    exact mX
  have c6 : Cal Tryz.prog 93 [links e.k, links e.k] (.bool true) := by
    have c1 := d6
    have hR : Tryz.f93.results.toList = [.tmp 4] := rfl
    refine cal_tr Tryz.func93 rfl fun E hE hP => ?_
    exact mX
  have h1 : decide (e.fin = e.fin) = true := decide_eq_true rfl
  have h2 : decide (e.now = e.now) = true := decide_eq_true rfl
  have ff := And.intro h1 h2
  have hR : Tryz.f33.results.toList = [.tmp 4] := rfl
  refine cal_tr Tryz.func33 rfl fun E hE hP => ?_
  exact mX

@[go_sem] theorem und94 : Tryz.prog.underlying 104 = some (.slice 34) := Tryz.underlying104
@[go_sem] theorem und9 : Tryz.prog.underlying 9 = some .string := Tryz.underlying9
@[go_sem] theorem tElem94 : tElem Tryz.prog 104 = some 34 := by kernel_rfl
theorem tField68_0 : tFieldI Tryz.prog 233 0 = some (0, 1, false) := by kernel_rfl
@[go_sem] theorem fap68_0 (o : Nat) (p : List Nat) (off : Nat) (K : AV → Prop) : fieldAddrK Tryz.prog 233 (.ptr o p off) 0 K = K (.ptr o (p ++ [0]) (off + 0)) := fieldAddr_ptr tField68_0 (by decide) o p off K
theorem tField75_0 : tFieldI Tryz.prog 181 0 = some (0, 1, false) := by kernel_rfl
@[go_sem] theorem fap75_0 (o : Nat) (p : List Nat) (off : Nat) (K : AV → Prop) : fieldAddrK Tryz.prog 181 (.ptr o p off) 0 K = K (.ptr o (p ++ [0]) (off + 0)) := fieldAddr_ptr tField75_0 (by decide) o p off K
@[go_sem] theorem tZero68 : tZero Tryz.prog 233 = some (.st [.sl [] true]) := by kernel_rfl
@[go_sem] theorem tZero75 : tZero Tryz.prog 181 = some (.st [.sl [] true]) := by kernel_rfl
@[go_sem] theorem build68_sl (xs : List AV) (c : Bool) (K : AV → Prop) : buildK Tryz.prog 233 [(0, .sl xs c)] K = K (.st [.sl xs c]) := build_struct Tryz.underlying233 tZero68 rfl (by kernel_rfl) rfl K
@[go_sem] theorem build75_sl (xs : List AV) (c : Bool) (K : AV → Prop) : buildK Tryz.prog 181 [(0, .sl xs c)] K = K (.st [.sl xs c]) := build_struct Tryz.underlying181 tZero75 rfl (by kernel_rfl) rfl K
theorem slice_hi31 {l : List UInt8} {k : Nat} {n : Int} {K : AV → Prop} (hn : n = (k : Int)) (hk : k ≤ l.length) (h : K (.sl ((l.take k).map bav) false)) : sliceK Tryz.prog 41 (.sl (l.map bav) false) none (some (.int .i64 n)) none K := by
  subst hn
  refine sliceK_hi tElem31 (by rw [tSize5]; rfl) (size_bav l) (by simpa using hk) ?_
  rw [Bool.false_and, ← List.map_take]; exact h
theorem slice_lo31 {l : List UInt8} {k : Nat} {n : Int} {K : AV → Prop} (hn : n = (k : Int)) (hk : k ≤ l.length) (h : K (.sl ((l.drop k).map bav) false)) : sliceK Tryz.prog 41 (.sl (l.map bav) false) (some (.int .i64 n)) none none K := by
  subst hn
  refine sliceK_lo tElem31 (by rw [tSize5]; rfl) (size_bav l) (by simpa using hk) ?_
  rw [← List.map_drop]; exact h

def rd (l : List UInt8) : AV := .st [.sl (l.map bav) false]
@[go_sem] theorem rd_ren (ρ : Nat → Nat) (l : List UInt8) : (rd l).ren ρ = rd l := rfl
@[go_sem] theorem rd_sub (l : List UInt8) : (rd l).sub [0] = some (.sl (l.map bav) false) := rfl
@[go_sem] theorem rd_offs (l : List UInt8) : (rd l).offs [0] = some 0 := rfl
@[go_sem] theorem rd_upd (l m : List UInt8) : (rd l).upd [0] (.sl (m.map bav) false) = some (rd m) := rfl
@[go_sem] theorem rd_ok (l : List UInt8) : (rd l).ok = true := rfl
def ostep (n : Int) (b : UInt8) : Int := bitsI .or .u64 (IntKind.u64.wrap (n * 2 ^ min (8 : Int).toNat IntKind.u64.bits)) (IntKind.u64.wrap b.toNat)
def numOf (bs : List UInt8) : Int := bs.foldl ostep 0
theorem numOf_next {bs : List UInt8} {i : Nat} {b : UInt8} (h : i < bs.length) (hb : bs[i] = b) : numOf (bs.take (i + 1)) = ostep (numOf (bs.take i)) b := by
  rw [take_next h hb, numOf, List.foldl_append]; rfl

def st45 (l bs : List UInt8) (i : Nat) : S where
  fr := [(12, .int .i64 i), (3, .int .u64 (numOf (bs.take i))), (0, .ptr 0 [] 0), (10, .sl (bs.map bav) false), (11, .int .i64 8)]
  hp := [(0, .var (rd l))]
  nx := 1

set_option maxRecDepth 4000 in
theorem number_eff (l : List UInt8) (h8 : 8 ≤ l.length) : Eff Tryz.prog 205 [.ptr 0 [] 0] 1 [(0, .var (rd l))] (.int .u64 (numOf (l.take 8))) [(0, .var (rd (l.drop 8)))] := by
  have hbl : (l.take 8).length = 8 := by simp; omega
  refine eff_of_tr Tryz.func205 rfl (Nat.le_of_ble_eq_true rfl) (by first | rfl | (simp only [AV.idsB, AV.idsBL, Bool.and_true, Bool.true_and] <;> rfl)) fun E hE hP => ?_
  first | refine tr_seq_region (by rw [hE]; rfl) ?_ | (refine Tr.seq ?_; refine tr_seq_region (by rw [hE]; rfl) ?_)
  refine mO ?_
  refine vc_nil ?_
  first | refine tr_seq_region (by rw [hE]; rfl) ?_ | (refine Tr.seq ?_; refine tr_seq_region (by rw [hE]; rfl) ?_)
  refine mO ?_
  refine vc_nil ?_
  refine Tr.seq ?_
  first | apply tr_m (by rw [hE]; rfl) | (refine Tr.seq ?_; apply tr_m (by rw [hE]; rfl))
  intro Q hQ
  simp only [go_sem, seval]
  iterate 4 refine mV ?_
  (refine vm_op ?_); intro r hr; simp only [go_sem, seval]
  refine slice_hi31 (k := 8) rfl h8 ?_
  subst hr
  iterate 2 refine mV ?_
  rw [hbl]
  exact hQ
  refine Tr.block ?_
  refine Tr.loop (st45 l (l.take 8)) (fun i => i ≤ 8) (fun i => 8 - i) 0 (Nat.zero_le _) ?_ ?_
  · refine wk_ren (fun n => n) mB mB rfl rfl rfl
  · intro i hi
    unfold st45
    first | refine tr_seq_region (by rw [hE]; rfl) ?_ | (refine Tr.seq ?_; refine tr_seq_region (by rw [hE]; rfl) ?_)
    refine mO ?_
    refine vc_nil ?_
    refine Tr.seq (Tr.cond rfl (fun h1 => ?_) (fun h1 => ?_))
    · refine Tr.skip ?_
      try simp only [blockK, thenK, ↓reduceIte]
      have hlt : i < 8 := by have := of_decide_eq_true h1; omega
      have hlt' : i < (l.take 8).length := by omega
      have ha := nth_map_lt bav (l.take 8) i hlt'
      have hnx := numOf_next hlt' rfl
      generalize (l.take 8)[i] = b at ha hnx
      have hw := wrap_next (n := i) (by omega)
      refine Tr.seq ?_
      refine Tr.block ?_
      first | refine tr_seq_region (by rw [hE]; rfl) ?_ | (refine Tr.seq ?_; refine tr_seq_region (by rw [hE]; rfl) ?_)
      repeat (refine vc_op rfl ?_; simp only [ha, bav, go_sem, seval])
      refine vc_nil ?_
      refine tr_region (by rw [hE]; rfl) ?_
      refine mO ?_
      refine vc_nil ?_
      try simp only [blockK, thenK, ↓reduceIte]
      refine tr_region (by rw [hE]; rfl) ?_
      repeat (refine vc_op rfl ?_; simp only [hw, go_sem, seval])
      refine vc_nil ?_
      try simp only [blockK, thenK, ↓reduceIte]
      refine ⟨i + 1, by omega, by omega, ?_⟩
      rw [hnx]
      refine wk_ren (fun n => n) mB mB rfl rfl rfl
    · refine Tr.exit ?_
      try simp only [blockK, thenK, ↓reduceIte]
      have hil : i = 8 := by
        have := of_decide_eq_false h1
        omega
      subst hil
      have htt : (l.take 8).take 8 = l.take 8 := by rw [List.take_take]; rfl
      rw [htt]
      first | apply tr_m (by rw [hE]; rfl) | (refine Tr.seq ?_; apply tr_m (by rw [hE]; rfl))
      intro Q hQ
      simp only [go_sem, seval]
      iterate 5 refine mV ?_
      (refine vm_op ?_); intro r hr; simp only [go_sem, seval]
      refine slice_lo31 (k := 8) rfl h8 ?_
      subst hr
      iterate 3 refine mV ?_
      exact hQ
      first | refine tr_seq_region (by rw [hE]; rfl) ?_ | (refine Tr.seq ?_; refine tr_seq_region (by rw [hE]; rfl) ?_)
      refine mO ?_
      refine vc_nil ?_
      refine Tr.ret ?_
      simp only [Tryz.f205, go_sem, seval]
      exact ⟨fun n => n, ⟨⟨rfl, rfl, rfl⟩, trivial⟩, rfl, fun _ _ => rfl⟩

def rootOf (l : List UInt8) : Root := if h : 32 ≤ l.length then ⟨l.take 32, by simp; omega⟩ else zroot
theorem rootOf_map {l : List UInt8} (h : 32 ≤ l.length) : (l.map bav).take 32 = (rootOf l).1.map fun b => .int .u8 b.toNat := by
  rw [← List.map_take, rootOf, dif_pos h]
  rfl

set_option maxRecDepth 4000 in
theorem root_eff (l : List UInt8) (h32 : 32 ≤ l.length) : Eff Tryz.prog 204 [.ptr 0 [] 0] 1 [(0, .var (rd l))] (.root (rootOf l)) [(0, .var (rd (l.drop 32)))] := by
  refine eff_of_tr Tryz.func204 rfl (Nat.le_of_ble_eq_true rfl) (by first | rfl | (simp only [AV.idsB, AV.idsBL, Bool.and_true, Bool.true_and] <;> rfl)) fun E hE hP => ?_
  first | refine tr_seq_region (by rw [hE]; rfl) ?_ | (refine Tr.seq ?_; refine tr_seq_region (by rw [hE]; rfl) ?_)
  refine mO ?_
  refine vc_nil ?_
  first | refine tr_seq_region (by rw [hE]; rfl) ?_ | (refine Tr.seq ?_; refine tr_seq_region (by rw [hE]; rfl) ?_)
  refine mO ?_
  refine vc_nil ?_
  refine tr_seq_drawn mixed [0, 17] rfl (by rw [hE]; rfl) (by kernel_rfl) ?_
  iterate 5 refine vP ?_
  refine vd_w rfl rfl (by kernel_rfl) ?_; simp only [copyK, go_sem, seval]
  refine ⟨by simpa using h32, rootOf l, rootOf_map h32, ?_⟩
  refine vP ?_
  refine vd_nil ?_
  first | apply tr_m (by rw [hE]; rfl) | (refine Tr.seq ?_; apply tr_m (by rw [hE]; rfl))
  intro Q hQ
  simp only [go_sem, seval]
  iterate 6 refine mV ?_
  (refine vm_op ?_); intro r hr; simp only [go_sem, seval]
  refine slice_lo31 (k := 32) rfl h32 ?_
  subst hr
  iterate 3 refine mV ?_
  exact hQ
  first | refine tr_seq_region (by rw [hE]; rfl) ?_ | (refine Tr.seq ?_; refine tr_seq_region (by rw [hE]; rfl) ?_)
  refine mO ?_
  refine vc_nil ?_
  refine Tr.ret ?_
  simp only [Tryz.f204, go_sem, seval]
  exact ⟨fun n => n, ⟨⟨rfl, rfl, rfl⟩, trivial⟩, rfl, fun _ _ => rfl⟩

def isOf (l : List UInt8) (n : Nat) (t : UInt8) : Bool := decide (l.length = n) && decide (l.head? = some t)
theorem u8_eq {a b : UInt8} : ((a.toNat : Int) = (b.toNat : Int)) ↔ a = b := by
  constructor
  · intro h; exact UInt8.toNat_inj.1 (by omega)
  · rintro rfl; rfl

theorem wis_c (l : List UInt8) (n : Nat) (hn : 0 < n) (t : UInt8) : Cal Tryz.prog 203 [.sl (l.map bav) false, .int .i64 n, .int .u8 t.toNat] (.bool (isOf l n t)) := by
  cases l with
  | nil =>
    have hf : decide ((0 : Int) = (n : Int)) = false := decide_eq_false (by omega)
    have er : isOf [] n t = false := by simp [isOf]
    have ff := And.intro hf er
    have hR : Tryz.f203.results.toList = [.tmp 6] := rfl
    refine cal_tr Tryz.func203 rfl fun E hE hP => ?_
    exact mX
  | cons b bs =>
    cases hf : decide (((bs.length + 1 : Nat) : Int) = (n : Int)) with
    | false =>
      have er : isOf (b :: bs) n t = false := by
        have := of_decide_eq_false hf
        have h2 : decide ((b :: bs).length = n) = false := decide_eq_false (by simp only [List.length_cons]; omega)
        rw [isOf, h2, Bool.false_and]
      have ff := And.intro hf er
      have hR : Tryz.f203.results.toList = [.tmp 6] := rfl
      refine cal_tr Tryz.func203 rfl fun E hE hP => ?_
      exact mX
    | true =>
      have er : isOf (b :: bs) n t = decide ((b.toNat : Int) = (t.toNat : Int)) := by
        have := of_decide_eq_true hf
        have h2 : decide ((b :: bs).length = n) = true := decide_eq_true (by simp only [List.length_cons]; omega)
        rw [isOf, h2, Bool.true_and]
        simp [u8_eq]
      have h0 : nth (AV.int .u8 b.toNat :: bs.map bav) 0 = some (AV.int .u8 b.toNat) := rfl
      rw [er]
      have ff := And.intro hf h0
      have hR : Tryz.f203.results.toList = [.tmp 6] := rfl
      refine cal_tr Tryz.func203 rfl fun E hE hP => ?_
      exact mX
theorem wis_pure (l : List UInt8) (n : Nat) (hn : 0 < n) (t : UInt8) : Pure Tryz.prog 203 [.sl (l.map bav) false, .int .i64 n, .int .u8 t.toNat] (.bool (isOf l n t)) := (wis_c l n hn t).2

def blockOf (l : List UInt8) : Block := ⟨rootOf (l.drop 1), rootOf (l.drop 33), numOf ((l.drop 65).take 8), numOf ((l.drop 73).take 8)⟩
def blkR (l : List UInt8) : AV := .tup [(if isOf l 81 1 then blockOf l else zBlock).av, .bool (isOf l 81 1)]

@[go_sem] theorem build26_nil (K : AV → Prop) : buildK Tryz.prog 58 [] K = K zBlock.av := build_struct Tryz.underlying58 stZero68 rfl (by kernel_rfl) rfl K
@[go_sem] theorem build30_nil (K : AV → Prop) : buildK Tryz.prog 76 [] K = K zAtt.av := build_struct Tryz.underlying76 stZero127 rfl (by kernel_rfl) rfl K
@[go_sem] theorem build30_0 (v : Int) (K : AV → Prop) : buildK Tryz.prog 76 [(0, .int .i64 v)] K = K ({ zAtt with val := v } : Att).av := build_struct Tryz.underlying76 stZero127 rfl (by kernel_rfl) rfl K

set_option maxRecDepth 4000 in
theorem block_pure (l : List UInt8) : Pure Tryz.prog 152 [.sl (l.map bav) false] (blkR l) := by
  cases hi : isOf l 81 1 with
  | false =>
    refine pure_of_tr Tryz.func152 rfl (Nat.le_of_ble_eq_true rfl) rfl fun E hE hP => ?_
    first | refine tr_seq_region (by rw [hE]; rfl) ?_ | (refine Tr.seq ?_; refine tr_seq_region (by rw [hE]; rfl) ?_)
    refine mO ?_
    refine vc_nil ?_
    first | apply tr_m (by rw [hE]; rfl) | (refine Tr.seq ?_; apply tr_m (by rw [hE]; rfl))
    intro Q hQ
    simp only [go_sem, seval]
    refine mV ?_
    (refine vm_op ?_); intro r hr; simp only [go_sem, seval]
    refine call_fn rfl rfl rfl rfl (enters_of Tryz.func203 (by kernel_rfl) rfl) (wis_pure l 81 (by decide) 1) rfl rfl rfl ?_
    simp only [go_sem, seval]
    subst hr
    (refine vm_op ?_); intro r hr; simp only [hi, go_sem, seval]; subst hr
    exact hQ
    refine mYes ?_
    first | refine tr_seq_region (by rw [hE]; rfl) ?_ | (refine Tr.seq ?_; refine tr_seq_region (by rw [hE]; rfl) ?_)
    refine mO ?_
    refine vc_nil ?_
    refine Tr.ret ?_
    simp only [blkR, hi, Tryz.f152, go_sem, seval]
  | true =>
    have hl : l.length = 81 := by
      have h := hi
      rw [isOf, Bool.and_eq_true] at h
      exact of_decide_eq_true h.1
    refine pure_of_tr Tryz.func152 rfl (Nat.le_of_ble_eq_true rfl) rfl fun E hE hP => ?_
    first | refine tr_seq_region (by rw [hE]; rfl) ?_ | (refine Tr.seq ?_; refine tr_seq_region (by rw [hE]; rfl) ?_)
    refine mO ?_
    refine vc_nil ?_
    first | apply tr_m (by rw [hE]; rfl) | (refine Tr.seq ?_; apply tr_m (by rw [hE]; rfl))
    intro Q hQ
    simp only [go_sem, seval]
    refine mV ?_
    (refine vm_op ?_); intro r hr; simp only [go_sem, seval]
    refine call_fn rfl rfl rfl rfl (enters_of Tryz.func203 (by kernel_rfl) rfl) (wis_pure l 81 (by decide) 1) rfl rfl rfl ?_
    simp only [go_sem, seval]
    subst hr
    (refine vm_op ?_); intro r hr; simp only [hi, go_sem, seval]; subst hr
    exact hQ
    refine mNot ?_
    refine Tr.skip ?_
    try simp only [blockK, thenK, ↓reduceIte]
    first | apply tr_m (by rw [hE]; rfl) | (refine Tr.seq ?_; apply tr_m (by rw [hE]; rfl))
    intro Q hQ
    simp only [go_sem, seval]
    refine mV ?_
    (refine vm_op ?_); intro r hr; simp only [go_sem, seval]
    refine slice_lo31 (k := 1) rfl (by omega) ?_
    subst hr
    iterate 3 refine mV ?_
    exact hQ
    first | refine tr_seq_region (by rw [hE]; rfl) ?_ | (refine Tr.seq ?_; refine tr_seq_region (by rw [hE]; rfl) ?_)
    refine mO ?_
    refine vc_nil ?_
    first | apply tr_m (by rw [hE]; rfl) | (refine Tr.seq ?_; apply tr_m (by rw [hE]; rfl))
    intro Q hQ
    simp only [go_sem, seval]
    refine mV ?_
    (refine vm_op ?_); intro r hr; simp only [go_sem, seval]
    refine call_eff (fun _ => 128) [false] [] rfl rfl rfl rfl (enters_of Tryz.func204 (by kernel_rfl) rfl) (root_eff (l.drop 1) (by simp; omega)) rfl rfl (by repeat' (first | exact rfl | exact trivial | constructor)) rfl rfl rfl ?_
    simp only [renH_nil, renH_cons, effR, go_sem, seval]
    subst hr
    refine mV ?_
    (refine vm_op ?_); intro r hr; simp only [go_sem, seval]
    refine call_eff (fun _ => 128) [false] [] rfl rfl rfl rfl (enters_of Tryz.func204 (by kernel_rfl) rfl) (root_eff ((l.drop 1).drop 32) (by simp; omega)) rfl rfl (by repeat' (first | exact rfl | exact trivial | constructor)) rfl rfl rfl ?_
    simp only [renH_nil, renH_cons, effR, go_sem, seval]
    subst hr
    iterate 4 refine mV ?_
    exact hQ
    first | apply tr_m (by rw [hE]; rfl) | (refine Tr.seq ?_; apply tr_m (by rw [hE]; rfl))
    intro Q hQ
    simp only [go_sem, seval]
    refine mV ?_
    (refine vm_op ?_); intro r hr; simp only [go_sem, seval]
    refine call_eff (fun _ => 128) [false] [] rfl rfl rfl rfl (enters_of Tryz.func205 (by kernel_rfl) rfl) (number_eff (((l.drop 1).drop 32).drop 32) (by simp; omega)) rfl rfl (by repeat' (first | exact rfl | exact trivial | constructor)) rfl rfl rfl ?_
    simp only [renH_nil, renH_cons, effR, go_sem, seval]
    subst hr
    refine mV ?_
    (refine vm_op ?_); intro r hr; simp only [go_sem, seval]
    refine call_eff (fun _ => 128) [false] [] rfl rfl rfl rfl (enters_of Tryz.func205 (by kernel_rfl) rfl) (number_eff ((((l.drop 1).drop 32).drop 32).drop 8) (by simp; omega)) rfl rfl (by repeat' (first | exact rfl | exact trivial | constructor)) rfl rfl rfl ?_
    simp only [renH_nil, renH_cons, effR, go_sem, seval]
    subst hr
    iterate 4 refine mV ?_
    exact hQ
    first | refine tr_seq_region (by rw [hE]; rfl) ?_ | (refine Tr.seq ?_; refine tr_seq_region (by rw [hE]; rfl) ?_)
    refine mO ?_
    refine vc_nil ?_
    refine Tr.ret ?_
    simp only [blkR, hi, List.drop_drop, blockOf, Tryz.f152, go_sem, seval]

@[go_sem] theorem undG94 : Tryz.prog.underlying 104 = some (.slice 34) := Tryz.underlying104
@[go_sem] theorem fapG75_0 (o : Nat) (p : List Nat) (off : Nat) (K : AV → Prop) : fieldAddrK Tryz.prog 181 (.ptr o p off) 0 K = K (.ptr o (p ++ [0]) (off + 0)) := fieldAddr_ptr (show tFieldI Tryz.prog 181 0 = some (0, 1, false) by kernel_rfl) (by decide) o p off K
def rb (r : Root) : List AV := r.1.map fun b => .int .u8 b.toNat
theorem rb_len (r : Root) : (rb r).length = 32 := by unfold rb; rw [List.length_map, r.2]
theorem ne_rb (r : Root) : ¬ List.map (fun b => AV.int .u8 b.toNat) r.1 = [] := fun h => by
  have := congrArg List.length h
  rw [List.length_map, r.2] at this
  exact absurd this (by decide)
def W1 (r : Root) : List AV := .int .u8 1 :: rb r
def W2 (r q : Root) : List AV := W1 r ++ rb q
def wS : Nat → Root → Root → S
  | 0, r, q => ⟨[(0, .ptr 0 [] 0), (6, .sl [.root r, .root q] true), (7, .int .i64 2), (8, .int .i64 0)], [(0, .var (.st [.sl [.int .u8 1] true]))], 1, []⟩
  | 1, r, q => ⟨[(0, .ptr 0 [] 0), (6, .sl [.root r, .root q] true), (7, .int .i64 2), (8, .int .i64 1)], [(0, .var (.st [.ms 2 1 33])), (2, .row 1 (W1 r))], 3, []⟩
  | _, r, q => ⟨[(0, .ptr 0 [] 0), (6, .sl [.root r, .root q] true), (7, .int .i64 2), (8, .int .i64 2)], [(0, .var (.st [.ms 2 1 65])), (2, .row 1 (W2 r q))], 3, []⟩
theorem nth2_0 (a b : AV) : nth [a, b] 0 = some a := rfl
theorem nth2_1 (a b : AV) : nth [a, b] 1 = some b := rfl
theorem wroots_e (r q : Root) : CalE Tryz.prog 148 [.ptr 0 [] 0, .sl [.root r, .root q] true] 1 [(0, .var (.st [.sl [.int .u8 1] true]))] (.tup []) [(0, .var (.st [.ms 1 1 65])), (1, .row 1 (W2 r q))] := by
  have hR : Tryz.f148.results.toList = [] := rfl
  refine calE_tr Tryz.func148 rfl fun E hE hP => ?_
  refine mW ?_
  refine Tr.loop (fun k : Nat => wS k r q) (fun k => k ≤ 2) (fun k => 2 - k) 0 (Nat.zero_le _) ?_ ?_
  · refine wk_ren (fun n => n) mB mB rfl rfl rfl
  · intro k hk
    have w1 : IntKind.i64.wrap 1 = 1 := by decide
    have w2 : IntKind.i64.wrap 2 = 2 := by decide
    obtain rfl | rfl | rfl : k = 0 ∨ k = 1 ∨ k = 2 := by omega
    · simp only [wS]
      have ff := And.intro (nth2_0 (.root r) (.root q)) w1
      have hr2 := r.2
      refine mr ?_
      refine mC ?_
      refine mC ?_
      refine mC ?_
      refine mr ?_
      refine tr_drawn mixed [0, 49] rfl (by rw [hE]; rfl) (by kernel_rfl) ?_
      iterate 6 refine vP ?_
      refine vd_x rfl rfl ?_; simp only [go_sem, seval]
      refine ⟨by omega, by omega, .inl ⟨ne_rb r, ?_⟩⟩
      try simp only [go_sem, seval]
      iterate 2 refine vP ?_
      refine vd_w rfl rfl (by kernel_rfl) ?_; simp only [go_sem, seval]
      refine vd_nil ?_
      refine mW ?_
      refine ⟨1, by omega, by omega, ?_⟩
      simp only [hr2]
      refine wk_ren (fun | 2 => 177 | n => n) mB mB rfl rfl rfl
    · simp only [wS]
      have hlw : (W1 r).length = 33 := by unfold W1; rw [List.length_cons, rb_len]
      have hq2 := q.2
      have ff := And.intro (nth2_1 (.root r) (.root q)) w2
      refine mr ?_
      refine mC ?_
      refine mC ?_
      refine mC ?_
      refine mr ?_
      refine tr_drawn mixed [0, 51] rfl (by rw [hE]; rfl) (by kernel_rfl) ?_
      iterate 6 refine vQ ?_
      refine vd_x rfl rfl ?_; simp only [List.filter_cons, List.filter_nil, Bool.not_false, Bool.not_true, if_true, Bool.false_eq_true, if_false, go_sem, seval]
      refine ⟨hlw.symm, by omega, by omega, ?_⟩
      try simp only [List.filter_cons, List.filter_nil, Bool.not_false, Bool.not_true, if_true, Bool.false_eq_true, if_false, go_sem, seval]
      iterate 2 refine vQ ?_
      refine vd_w rfl rfl (by kernel_rfl) ?_; simp only [List.filter_cons, List.filter_nil, Bool.not_false, Bool.not_true, if_true, Bool.false_eq_true, if_false, go_sem, seval]
      refine vd_nil ?_
      refine mW ?_
      refine ⟨2, by omega, by omega, ?_⟩
      simp only [hlw, hq2]
      refine wk_ren (fun | 2 => 179 | n => n) mB mB rfl rfl rfl
    · simp only [wS]
      have hl2 : (W2 r q).length = 65 := by unfold W2 W1; rw [List.length_append, List.length_cons, rb_len, rb_len]
      refine mW ?_
      simp only [hR, go_sem, seval]
      exact ⟨fun | 1 => 2 | n => n, (by repeat' (first | exact rfl | exact trivial | constructor)), rfl, fun o ho => by rcases o with _ | _ <;> first | rfl | omega⟩

def byteV (n j : Int) : AV := .int .u8 (IntKind.u8.wrap (n.fdiv (2 ^ min (IntKind.i64.wrap (8 * j)).toNat 64)))
def nB (X : List AV) (n : Int) (k : Nat) : List AV := X ++ (List.range k).map fun i : Nat => byteV n (7 - (i : Int))
theorem nB_0 (X : List AV) (n : Int) : nB X n 0 = X := by simp [nB]
theorem nB_next (X : List AV) (n : Int) (k : Nat) : nB X n (k + 1) = nB X n k ++ [byteV n (7 - (k : Int))] := by
  unfold nB
  rw [List.range_succ, List.map_append, List.append_assoc]
  rfl
theorem nB_len (X : List AV) (n : Int) (k : Nat) : (nB X n k).length = X.length + k := by simp [nB]
theorem downH_next (k : Nat) (h : k < 8) : IntKind.i64.wrap (7 - (k : Int) - 1) = 7 - ((k + 1 : Nat) : Int) := by
  have : ∀ k : Fin 8, IntKind.i64.wrap (7 - ((k : Nat) : Int) - 1) = 7 - (((k : Nat) + 1 : Nat) : Int) := by decide
  exact this ⟨k, h⟩
theorem shiftH_pos (k : Nat) (h : k < 8) : 0 ≤ IntKind.i64.wrap (8 * (7 - (k : Int))) := by
  have : ∀ k : Fin 8, 0 ≤ IntKind.i64.wrap (8 * (7 - ((k : Nat) : Int))) := by decide
  exact this ⟨k, h⟩
def nX (X : List AV) (n q : Int) : Nat → List AV
  | 0 => X
  | 1 => nB X n 8
  | _ => nB (nB X n 8) q 8
def nL : Nat → Nat
  | 0 => 65
  | 1 => 73
  | _ => 81
def nI : Nat → Int
  | 0 => 0
  | 1 => 1
  | _ => 2
theorem wnums_e (X : List AV) (hX : X.length = 65) (n q : Int) : CalE Tryz.prog 149 [.ptr 0 [] 0, .sl [.int .u64 n, .int .u64 q] true] 2 [(0, .var (.st [.ms 1 1 65])), (1, .row 1 X)] (.tup []) [(0, .var (.st [.ms 2 1 81])), (2, .row 1 (nX X n q 2))] := by
  have hR : Tryz.f149.results.toList = [] := rfl
  refine calE_tr Tryz.func149 rfl fun E hE hP => ?_
  refine mW ?_
  refine Tr.loop (fun k : Nat => (⟨[(0, .ptr 0 [] 0), (7, .sl [.int .u64 n, .int .u64 q] true), (8, .int .i64 2), (9, .int .i64 (nI k))], [(0, .var (.st [.ms 2 1 (nL k)])), (2, .row 1 (nX X n q k))], 3, []⟩ : S)) (fun k => k ≤ 2) (fun k => 2 - k) 0 (Nat.zero_le _) ?_ ?_
  · refine wk_ren (fun | 2 => 1 | n => n) mB mB rfl rfl rfl
  · intro k hk
    have w1 : IntKind.i64.wrap 1 = 1 := by decide
    have w2 : IntKind.i64.wrap 2 = 2 := by decide
    obtain rfl | rfl | rfl : k = 0 ∨ k = 1 ∨ k = 2 := by omega
    · simp only [nX, nL, nI]
      have hY : X.length = 65 := hX
      generalize X = Y at hY
      have ff := And.intro (nth2_0 (.int .u64 n) (.int .u64 q)) (And.intro w1 w2)
      refine mW ?_
      refine Tr.loop (fun k : Nat => (⟨[(0, .ptr 0 [] 0), (5, .int .u64 n), (6, .int .i64 (7 - (k : Int))), (7, .sl [.int .u64 n, .int .u64 q] true), (8, .int .i64 2), (9, .int .i64 0)], [(0, .var (.st [.ms 2 1 (65 + k)])), (2, .row 1 (nB Y n k))], 3, []⟩ : S)) (fun k => k ≤ 8) (fun k => 8 - k) 0 (Nat.zero_le _) ?_ ?_
      · simp only [nB_0]
        refine wk_ren (fun n => n) mB mB rfl rfl rfl
      · intro k hk
        by_cases hlt : k < 8
        · have e1 : decide ((0 : Int) ≤ 7 - (k : Int)) = true := decide_eq_true (by omega)
          have hdn := downH_next k hlt
          have hsh := shiftH_pos k hlt
          have hlen : (nB Y n k).length = 65 + k := by rw [nB_len, hY]
          have ff := And.intro e1 hdn
          refine mr ?_
          refine mC ?_
          refine mC ?_
          refine mC ?_
          refine tr_drawn mixed [0] rfl (by rw [hE]; rfl) (by kernel_rfl) ?_
          iterate 9 refine vQ ?_
          refine ⟨hsh, ?_⟩
          try simp only [List.filter_cons, List.filter_nil, Bool.not_false, Bool.not_true, if_true, Bool.false_eq_true, if_false, go_sem, seval]
          iterate 2 refine vQ ?_
          refine vd_x rfl rfl ?_; simp only [List.filter_cons, List.filter_nil, Bool.not_false, Bool.not_true, if_true, Bool.false_eq_true, if_false, go_sem, seval]
          refine ⟨hlen.symm, by omega, by omega, ?_⟩
          try simp only [List.filter_cons, List.filter_nil, Bool.not_false, Bool.not_true, if_true, Bool.false_eq_true, if_false, go_sem, seval]
          iterate 2 refine vQ ?_
          refine vd_w rfl rfl (by kernel_rfl) ?_; simp only [List.filter_cons, List.filter_nil, Bool.not_false, Bool.not_true, if_true, Bool.false_eq_true, if_false, go_sem, seval]
          refine vd_nil ?_
          refine mW ?_
          refine ⟨k + 1, hlt, by omega, ?_⟩
          rw [nB_next, hlen]
          refine wk_ren (fun | 2 => 211 | n => n) mB mB rfl rfl rfl
        · have hk8 : k = 8 := by omega
          subst hk8
          have ff := w1
          refine mW ?_
          refine ⟨1, by omega, by omega, ?_⟩
          exact mK
    · simp only [nX, nL, nI]
      have hY : (nB X n 8).length = 73 := by rw [nB_len, hX]
      generalize nB X n 8 = Y at hY
      have ff := And.intro (nth2_1 (.int .u64 n) (.int .u64 q)) (And.intro w1 w2)
      refine mW ?_
      refine Tr.loop (fun k : Nat => (⟨[(0, .ptr 0 [] 0), (5, .int .u64 q), (6, .int .i64 (7 - (k : Int))), (7, .sl [.int .u64 n, .int .u64 q] true), (8, .int .i64 2), (9, .int .i64 1)], [(0, .var (.st [.ms 2 1 (73 + k)])), (2, .row 1 (nB Y q k))], 3, []⟩ : S)) (fun k => k ≤ 8) (fun k => 8 - k) 0 (Nat.zero_le _) ?_ ?_
      · simp only [nB_0]
        refine wk_ren (fun n => n) mB mB rfl rfl rfl
      · intro k hk
        by_cases hlt : k < 8
        · have e1 : decide ((0 : Int) ≤ 7 - (k : Int)) = true := decide_eq_true (by omega)
          have hdn := downH_next k hlt
          have hsh := shiftH_pos k hlt
          have hlen : (nB Y q k).length = 73 + k := by rw [nB_len, hY]
          have ff := And.intro e1 hdn
          refine mr ?_
          refine mC ?_
          refine mC ?_
          refine mC ?_
          refine tr_drawn mixed [0] rfl (by rw [hE]; rfl) (by kernel_rfl) ?_
          iterate 9 refine vQ ?_
          refine ⟨hsh, ?_⟩
          try simp only [List.filter_cons, List.filter_nil, Bool.not_false, Bool.not_true, if_true, Bool.false_eq_true, if_false, go_sem, seval]
          iterate 2 refine vQ ?_
          refine vd_x rfl rfl ?_; simp only [List.filter_cons, List.filter_nil, Bool.not_false, Bool.not_true, if_true, Bool.false_eq_true, if_false, go_sem, seval]
          refine ⟨hlen.symm, by omega, by omega, ?_⟩
          try simp only [List.filter_cons, List.filter_nil, Bool.not_false, Bool.not_true, if_true, Bool.false_eq_true, if_false, go_sem, seval]
          iterate 2 refine vQ ?_
          refine vd_w rfl rfl (by kernel_rfl) ?_; simp only [List.filter_cons, List.filter_nil, Bool.not_false, Bool.not_true, if_true, Bool.false_eq_true, if_false, go_sem, seval]
          refine vd_nil ?_
          refine mW ?_
          refine ⟨k + 1, hlt, by omega, ?_⟩
          rw [nB_next, hlen]
          refine wk_ren (fun | 2 => 211 | n => n) mB mB rfl rfl rfl
        · have hk8 : k = 8 := by omega
          subst hk8
          have ff := w1
          refine mW ?_
          refine ⟨2, by omega, by omega, ?_⟩
          exact mK
    · simp only [nX, nL, nI]
      refine mW ?_
      simp only [hR, go_sem, seval]
      exact ⟨fun n => n, (by repeat' (first | exact rfl | exact trivial | constructor)), rfl, fun _ _ => rfl⟩

theorem tZeroI75 : tZero Tryz.prog 181 = some (.st [.sl [] true]) := by kernel_rfl
@[go_sem] theorem buildI75_sl (xs : List AV) (c : Bool) (K : AV → Prop) : buildK Tryz.prog 181 [(0, .sl xs c)] K = K (.st [.sl xs c]) := build_struct Tryz.underlying181 tZeroI75 rfl (by kernel_rfl) rfl K
def rawB (b : Block) : List AV := nX (W2 b.root b.parent) b.slot b.just 2
theorem W2_len (r q : Root) : (W2 r q).length = 65 := by unfold W2 W1; rw [List.length_append, List.length_cons, rb_len, rb_len]
theorem rawB_len (b : Block) : (rawB b).length = 81 := by
  show (nB (nB (W2 b.root b.parent) b.slot 8) b.just 8).length = 81
  rw [nB_len, nB_len, W2_len]
theorem putblk_c (b : Block) : Cal Tryz.prog 73 [b.av] (.sl (rawB b) false) := by
  have H1 := wroots_e b.root b.parent
  have H2 := wnums_e (W2 b.root b.parent) (W2_len _ _) b.slot b.just
  have hl := rawB_len b
  have hr : nX (W2 b.root b.parent) b.slot b.just 2 = rawB b := rfl
  rw [hr] at H2
  generalize W2 b.root b.parent = X at H1 H2
  generalize rawB b = Y at H2 hl
  have hR : Tryz.f73.results.toList = [.tmp 2] := rfl
  refine cal_tr Tryz.func73 rfl fun E hE hP => ?_
  refine mr ?_
  refine mr ?_
  first | apply tr_m (by rw [hE]; rfl) | (refine Tr.seq ?_; apply tr_m (by rw [hE]; rfl))
  intro Q hQ
  simp only [go_sem, seval]
  iterate 6 refine mV ?_
  (refine vm_op ?_); intro r hr; simp only [go_sem, seval]
  refine call_eff (fun | 0 => 64 | n => n) [false, false] [] rfl rfl rfl rfl (enters_of Tryz.func148 (by kernel_rfl) rfl) (H1.2) rfl rfl (by repeat' (first | exact rfl | exact trivial | constructor)) rfl rfl rfl ?_
  simp only [renH_nil, renH_cons, effR, go_sem, seval]
  subst hr
  exact hQ
  first | apply tr_m (by rw [hE]; rfl) | (refine Tr.seq ?_; apply tr_m (by rw [hE]; rfl))
  intro Q hQ
  simp only [go_sem, seval]
  iterate 6 refine mV ?_
  (refine vm_op ?_); intro r hr; simp only [go_sem, seval]
  refine call_eff (fun | 0 => 64 | 1 => 192 | n => n) [false, false] [] rfl rfl rfl rfl (enters_of Tryz.func149 (by kernel_rfl) rfl) (H2.2) rfl rfl (by repeat' (first | exact rfl | exact trivial | constructor)) rfl rfl rfl ?_
  simp only [renH_nil, renH_cons, effR, go_sem, seval]
  subst hr
  exact hQ
  refine mr ?_
  refine Tr.wk (Wk.frzH [304]) ?_
  simp only [frzHP, frzA, AV.frz, AV.frzL, List.map_cons, List.map_nil, hl, go_sem, seval]
  exact mX

@[go_sem] theorem build34_0 (K : AV → Prop) : buildK Tryz.prog 34 [] K = K (.root zroot) := by
  simp [buildK, Tryz.underlying34, tZero23, tSize5]
theorem bool_eqb (a b : Bool) : (AV.bool a).eqb (.bool b) = decide (a = b) := by cases a <;> cases b <;> rfl
theorem fits4 (a : Bool) : fits Tryz.prog (.bool a) 4 = true := by kernel_rfl
@[go_sem] theorem bneq4 (a b : Bool) (K : AV → Prop) : binK Tryz.prog .neq 4 (.bool a) (.bool b) K = K (.bool !(decide (a = b))) :=
  bin_neq_of (fun _ _ h => by cases h) (fun _ h => by cases h) (fits4 a) (fits4 b) (Nat.le_of_ble_eq_true rfl) (by kernel_rfl) (bool_eqb a b) K

theorem raw_ok (e : Eng) (b b2 : Block) (a : Att) (c : Ask) (t : List Node) (hr : blkR c.vals = .tup [b2.av, .bool true]) (y1 : CalE Tryz.prog 69 [.ptr 0 [] 0] 2 (workH e b2 a c) (.int .i64 0) (workO e t b2 a c)) : CalE Tryz.prog 86 [.ptr 0 [] 0] 2 (workH e b a c) (.int .i64 0) (workO e t b2 a c) := by
  have c1 : Cal Tryz.prog 152 [.sl (c.vals.map bav) false] (.tup [b2.av, .bool true]) := by
    rw [← hr]
    exact And.intro (enters_of Tryz.func152 (by kernel_rfl) rfl) (block_pure c.vals)
  unfold workH workO at y1 ⊢
  have hR : Tryz.f86.results.toList = [.tmp 2] := rfl
  refine calE_tr Tryz.func86 rfl fun E hE hP => ?_
  refine mW ?_
  refine Tr.ret ?_
  simp only [hR, go_sem, seval]
  exact ⟨fun | 2 => 338 | n => n, (by repeat' (first | exact rfl | exact trivial | constructor)), rfl, fun o ho => by rcases o with _ | _ | _ <;> first | rfl | omega⟩
def u8of (x : Int) : UInt8 := UInt8.ofNat (IntKind.u8.wrap x).toNat
theorem u8D_wrap_lt (x : Int) : 0 ≤ IntKind.u8.wrap x ∧ IntKind.u8.wrap x < 256 := by
  have h : IntKind.u8.wrap x = x % 256 := by simp [IntKind.wrap, IntKind.bits, IntKind.signed]
  omega
theorem bav_u8of (x : Int) : AV.int .u8 (IntKind.u8.wrap x) = bav (u8of x) := by
  have h := u8D_wrap_lt x
  have e : (u8of x).toNat = (IntKind.u8.wrap x).toNat := by
    rw [u8of, UInt8.toNat_ofNat']
    exact Nat.mod_eq_of_lt (by omega)
  rw [bav, e, Int.toNat_of_nonneg h.1]
def beB (n : Int) : List UInt8 := (List.range 8).map fun i : Nat => u8of (n.fdiv (2 ^ min (IntKind.i64.wrap (8 * (7 - (i : Int)))).toNat 64))
def bytesB (b : Block) : List UInt8 := [1] ++ b.root.1 ++ b.parent.1 ++ beB b.slot ++ beB b.just
theorem beB_av (X : List AV) (n : Int) : nB X n 8 = X ++ (beB n).map bav := by
  unfold nB beB
  rw [List.map_map]
  congr 1
  refine List.map_congr_left fun i _ => ?_
  exact bav_u8of _
theorem rawB_eq (b : Block) : rawB b = (bytesB b).map bav := by
  show nB (nB (W2 b.root b.parent) b.slot 8) b.just 8 = _
  rw [beB_av, beB_av]
  unfold bytesB
  rw [List.map_append, List.map_append, List.map_append, List.map_append]
  rfl
def bE : Block := ⟨rootN 2, rootN 1, 1, 0⟩
theorem bE_is : isOf (bytesB bE) 81 1 = true := by decide +kernel
theorem bE_of : blockOf (bytesB bE) = bE := by decide +kernel
theorem bE_raw : blkR (bytesB bE) = .tup [bE.av, .bool true] := by
  rw [blkR, bE_is, if_pos rfl, bE_of]
def eE : Eng := newE (rootN 1) [1, 1, 1]
theorem eE_may : mayE eE = true := by decide +kernel
theorem eE_may1 : mayE (tickE eE) = true := by decide +kernel
def gE : Eng := ⟨one (rootN 1) ++ [⟨rootN 2, 0, 1, 0⟩], [1, 1, 1], List.replicate 3 zLatest, 0, [0, 0], [], [], [⟨0, rootN 1⟩], ⟨0, rootN 1⟩, 1⟩
theorem eE_blk : insR (tickE eE).t bE = (gE.t, 0) := by decide +kernel
theorem eE_abv : aboveR gE.t (findR (tickE eE).t (tickE eE).fin.root) ((gE.t.length - 1 : Nat) : Int) = true := by decide +kernel
theorem do_raw (e : Eng) (b b2 : Block) (a : Att) (c : Ask) (t : List Node) (he : e.few) (ho : e.ok) (hm : mayE e = true)
    (y : CalE Tryz.prog 86 [.ptr 0 [] 0] 2 (workH e b a c) (.int .i64 0) (workO e t b2 a c)) : CalT Tryz.prog 0 tabV 68 [workA e b a c, .fn (.func 86) [] []] (.tup [(Eng.mk t e.b e.vl e.o (e.w ++ [0]) e.late e.k e.j e.fin e.now).av, .int .i64 0]) := by
  have x1 := may_t e he ho
  rw [hm] at x1
  have o1 := own_o e he
  unfold workH workO at y
  unfold ownV ownH at o1
  have hR : Tryz.f68.results.toList = [.cell 4 38, .tmp 5] := rfl
  refine calE_tr Tryz.func68 rfl fun E hE hP => ?_
  refine mr ?_
  refine mr ?_
  refine mr ?_
  refine Tr.wk (Wk.frzH [145, 146, 147, 149, 150, 151]) ?_
  simp only [frzHP, frzA, AV.frz, AV.frzL, List.map_cons, List.map_nil, go_sem, seval]
  refine mr ?_
  refine mC ?_
  refine mC ?_
  first | apply tr_m (by rw [hE]; rfl) | (refine Tr.seq ?_; apply tr_m (by rw [hE]; rfl))
  intro Q hQ
  simp only [go_sem, seval]
  refine mV ?_
  (refine vm_op ?_); intro r hr; simp only [go_sem, seval]
  refine call_eff (fun | 0 => 1 | 1 => 148 | n => n) [false] [] rfl rfl rfl rfl (enters_of Tryz.func86 (by kernel_rfl) rfl) (y.2) rfl rfl (by repeat' (first | exact rfl | exact trivial | constructor)) rfl rfl rfl ?_
  simp only [renH_nil, renH_cons, effR, go_sem, seval]
  subst hr
  refine mV ?_
  exact hQ
  refine mW ?_
  have hlen : (List.map uav (e.w ++ [0])).length = e.w.length + 1 := by rw [List.length_map, List.length_append]; rfl
  refine Tr.wk (Wk.frzH [257]) ?_
  simp only [frzHP, frzA, AV.frz, AV.frzL, List.map_cons, List.map_nil, hlen, go_sem, seval]
  exact mX
@[go_sem] theorem tZero132 : tZero Tryz.prog 132 = some (.arr [.nilf, .nilf, .nilf, .nilf]) := by kernel_rfl
@[go_sem] theorem tArr132 : tArr Tryz.prog 132 = some (4, 113) := by kernel_rfl
theorem tSize113 : tSize Tryz.prog 113 = some 1 := by kernel_rfl
@[go_sem] theorem build132 (a b c d : Nat) (K : AV → Prop) : buildK Tryz.prog 132 [(0, .fn (.func a) [] []), (1, .fn (.func b) [] []), (2, .fn (.func c) [] []), (3, .fn (.func d) [] [])] K = K (.arr [.fn (.func a) [] [], .fn (.func b) [] [], .fn (.func c) [] [], .fn (.func d) [] []]) := by
  unfold buildK
  rw [Tryz.underlying132, tZero132]
  simp [setParts, tSize113, AV.len, AV.agg, AV.ok]
theorem Do_0 (e f : Eng) (i : Int) (c : Ask) (hk : c.kind = 0) (x1 : CalT Tryz.prog 0 tabV 68 [workA e zBlock zAtt c, .fn (.func 86) [] []] (.tup [f.av, .int .i64 i])) : CalT Tryz.prog 0 tabV 32 [e.av, c.av] (.tup [f.av, .int .i64 i]) := by
  obtain ⟨k, v, a, b, s⟩ := c
  simp only at hk
  subst hk
  have hR : Tryz.f32.results.toList = [.cell 4 38, .tmp 5] := rfl
  refine calE_tr Tryz.func32 rfl fun E hE hP => ?_
  refine mW ?_
  first | apply tr_md mixed [81, 17, 1] rfl (by rw [hE]; rfl) (by kernel_rfl) | (refine Tr.seq ?_; apply tr_md mixed [81, 17, 1] rfl (by rw [hE]; rfl) (by kernel_rfl))
  intro Q hQ
  simp only [go_sem, seval]
  iterate 7 ((refine vd2_q rfl ?_); intro r hr; simp only [go_sem, seval]; subst hr)
  (refine vd2_x rfl ?_); intro r hr; simp only [go_sem, seval]
  refine call_eff (fun n => n) [true, true] [] rfl rfl rfl rfl (enters_of Tryz.func68 (by kernel_rfl) rfl) (x1.2) rfl rfl (by repeat' (first | exact rfl | exact trivial | constructor)) rfl rfl rfl ?_
  simp only [renH_nil, renH_cons, effR, go_sem, seval]
  subst hr
  iterate 2 ((refine vd2_q rfl ?_); intro r hr; simp only [go_sem, seval]; subst hr)
  (refine vd2_x rfl ?_); intro r hr; simp only [go_sem, seval]; subst hr
  (refine vd2_q rfl ?_); intro r hr; simp only [go_sem, seval]; subst hr
  exact hQ
  exact mX

@[go_sem] theorem build34_2 (K : AV → Prop) : buildK Tryz.prog 34 [(0, .int .u8 2)] K = K (.root (rootN 2)) := build34 2 (by decide) (by decide) K
@[go_sem] theorem build58_012 (r q : Root) (s : Int) (K : AV → Prop) : buildK Tryz.prog 58 [(0, .root r), (1, .root q), (2, .int .u64 s)] K = K (Block.mk r q s 0).av := build_struct Tryz.underlying58 stZero68 rfl (by kernel_rfl) rfl K
def cE : Ask := ⟨0, bytesB bE, zroot, zroot, 0⟩
theorem eE_few : eE.few := ⟨by decide, by decide, by decide, by decide, by decide, by decide, by decide⟩
theorem eE_ok : eE.ok := by
  refine ⟨fun x hx => ?_, fun a ha => ?_, fun a ha => ?_⟩
  · simp only [eE, newE, List.mem_cons, List.not_mem_nil, or_false] at hx
    omega
  · cases ha
  · cases ha
theorem fE_few : (tickE eE).few := ⟨by decide, by decide, by decide, by decide, by decide, by decide, by decide⟩
theorem fE_ok : (tickE eE).ok := ⟨eE_ok.b, fun a ha => (by cases ha), fun a ha => (by cases ha)⟩
theorem gE_few : gE.few := ⟨by decide, by decide, by decide, by decide, by decide, by decide, by decide⟩
theorem example_do : CalT Tryz.prog 0 tabV 32 [(tickE eE).av, cE.av] (.tup [gE.av, .int .i64 0]) := by
  have y := blk_0 (tickE eE) bE zAtt cE fE_few (decide_eq_false (by decide)) gE.t eE_blk (by decide) (by decide) eE_abv
  have y2 := raw_ok (tickE eE) zBlock bE zAtt cE gE.t bE_raw y
  exact Do_0 (tickE eE) gE 0 cE rfl (do_raw (tickE eE) zBlock bE zAtt cE gE.t fE_few fE_ok eE_may1 y2)
theorem awake17_t : CalT Tryz.prog 0 tabV 28 [] (.bool true) := by
  have c1 : Cal Tryz.prog 29 [.root (rootN 1), u64s [1, 1, 1]] (.tup [eE.av, .bool true]) := enew_c (rootN 1) [1, 1, 1] (by decide)
  have x1 := tick_t eE eE_few eE_ok eE_may rfl rfl (by decide)
  have x2 := may_t eE eE_few eE_ok
  rw [eE_may] at x2
  have c2 := esame_c gE gE_few
  have d1 := putblk_c bE
  rw [rawB_eq] at d1
  have d2 := example_do
  have h1 : decide (gE.now = 1) = true := rfl
  have h2 : decide ((gE.t.length : Int) = 2) = true := rfl
  unfold cE at d2
  generalize bytesB bE = L at d1 d2
  generalize tickE eE = f at x1 d2
  generalize gE = g at d2 c2 h1 h2
  generalize eE = e at c1 x1 x2
  have ff := And.intro h1 h2
  have hR : Tryz.f28.results.toList = [.tmp 0] := rfl
  refine calE_tr Tryz.func28 rfl fun E hE hP => ?_
  refine mr ?_
  refine mr ?_
  refine mr ?_
  refine tr_seq_plan mixed [241] (.one 0 (.one 1 (.one 2 (.one 3 (.two 4 (.one 5 (.two 6 (.one 7 (.one 8 (.one 9 (.one 10 (.one 11 (.one 12 .done)))))) 10 (.one 6 (.one 7 (.one 8 (.one 9 (.one 11 (.one 12 .done)))))))) 10 (.one 4 (.one 5 (.one 6 (.one 7 (.one 8 (.one 9 (.one 11 (.one 12 .done))))))))))))) (⟨[(1, .ptr 2 [] 0), (2, .bool true), (4, .int .i64 0), (5, .ptr 4 [] 0), (6, .int .i64 0)], [(0, .tab 0 tabV), (2, .var e.av), (4, .var g.av)], 5, []⟩) rfl (by rw [hE]; rfl) (by kernel_rfl) ?_ ?_
  · simp only [List.map_cons, List.map_nil]
    iterate 4 refine pQ ?_
    apply pl_two; exact rfl; exact rfl
    · refine st_x rfl rfl ?_; simp only [List.getElem_toArray, List.getElem_cons_zero, List.getElem_cons_succ, go_sem, seval]
      refine call_fn rfl rfl rfl rfl (enters_of Tryz.func73 (by kernel_rfl) rfl) (d1.2) rfl rfl rfl ?_
      simp only [go_sem, seval]
      refine pQ ?_
      apply pl_two; exact rfl; exact rfl
      · refine st_x rfl rfl ?_; simp only [List.getElem_toArray, List.getElem_cons_zero, List.getElem_cons_succ, go_sem, seval]
        refine call_eff (fun n => n) [true, true] [] rfl rfl rfl rfl (enters_of Tryz.func32 (by kernel_rfl) rfl) (d2.2) rfl rfl (by repeat' (first | exact rfl | exact trivial | constructor)) rfl rfl rfl ?_
        simp only [renH_nil, renH_cons, effR, go_sem, seval]
        iterate 3 refine pQ ?_
        refine pX ?_
        refine pX ?_
        refine pQ ?_
        refine pl_done (st := _) ?_ rfl
        refine wk_ren (fun | 2 => 113 | 4 => 449 | n => n) mB mB rfl rfl rfl
      · refine st_x rfl rfl ?_; simp only [List.getElem_toArray, List.getElem_cons_zero, List.getElem_cons_succ, go_sem, seval]
        refine pX ?_
        refine call_eff (fun n => n) [true, true] [] rfl rfl rfl rfl (enters_of Tryz.func32 (by kernel_rfl) rfl) (d2.2) rfl rfl (by repeat' (first | exact rfl | exact trivial | constructor)) rfl rfl rfl ?_
        simp only [renH_nil, renH_cons, effR, go_sem, seval]
        iterate 3 refine pQ ?_
        refine pX ?_
        refine pQ ?_
        refine pl_done (st := _) ?_ rfl
        refine wk_ren (fun | 2 => 113 | 4 => 449 | n => n) mB mB rfl rfl rfl
    · refine st_x rfl rfl ?_; simp only [List.getElem_toArray, List.getElem_cons_zero, List.getElem_cons_succ, go_sem, seval]
      refine pX ?_
      refine call_fn rfl rfl rfl rfl (enters_of Tryz.func73 (by kernel_rfl) rfl) (d1.2) rfl rfl rfl ?_
      simp only [go_sem, seval]
      refine pQ ?_
      refine pX ?_
      refine call_eff (fun n => n) [true, true] [] rfl rfl rfl rfl (enters_of Tryz.func32 (by kernel_rfl) rfl) (d2.2) rfl rfl (by repeat' (first | exact rfl | exact trivial | constructor)) rfl rfl rfl ?_
      simp only [renH_nil, renH_cons, effR, go_sem, seval]
      iterate 3 refine pQ ?_
      refine pX ?_
      refine pQ ?_
      refine pl_done (st := _) ?_ rfl
      refine wk_ren (fun | 2 => 113 | 4 => 449 | n => n) mB mB rfl rfl rfl
  exact mX

def fewE (e : Eng) : Bool := decide (e.t.length ≤ 16) && (decide (e.b.length ≤ 12) && (decide (e.vl.length ≤ 12) && (decide (e.w.length ≤ 16) && (decide (e.late.length ≤ 10) && (decide (e.k.length ≤ 20) && (decide (e.j.length ≤ 24)))))))
theorem fewE_few {e : Eng} (h : fewE e = true) : e.few := by
  simp only [fewE, Bool.and_eq_true, decide_eq_true_eq] at h
  exact ⟨by omega, by omega, by omega, by omega, by omega, by omega, by omega⟩
theorem few_c (e : Eng) : Cal Tryz.prog 14 [e.av] (.bool (fewE e)) := by
  by_cases h0 : e.t.length ≤ 16
  · have e0 : decide ((e.t.length : Int) ≤ 16) = true := decide_eq_true (by omega)
    by_cases h1 : e.b.length ≤ 12
    · have e1 : decide ((e.b.length : Int) ≤ 12) = true := decide_eq_true (by omega)
      by_cases h2 : e.vl.length ≤ 12
      · have e2 : decide ((e.vl.length : Int) ≤ 12) = true := decide_eq_true (by omega)
        by_cases h3 : e.w.length ≤ 16
        · have e3 : decide ((e.w.length : Int) ≤ 16) = true := decide_eq_true (by omega)
          by_cases h4 : e.late.length ≤ 10
          · have e4 : decide ((e.late.length : Int) ≤ 10) = true := decide_eq_true (by omega)
            by_cases h5 : e.k.length ≤ 20
            · have e5 : decide ((e.k.length : Int) ≤ 20) = true := decide_eq_true (by omega)
              by_cases h6 : e.j.length ≤ 24
              · have e6 : decide ((e.j.length : Int) ≤ 24) = true := decide_eq_true (by omega)
                have er : fewE e = true := by simp [fewE, h0, h1, h2, h3, h4, h5, h6]
                have ff := And.intro e0 (And.intro e1 (And.intro e2 (And.intro e3 (And.intro e4 (And.intro e5 (And.intro e6 er))))))
                have hR : Tryz.f14.results.toList = [.tmp 2] := rfl
                refine cal_tr Tryz.func14 rfl fun E hE hP => ?_
                exact mX
              · have e6 : decide ((e.j.length : Int) ≤ 24) = false := decide_eq_false (by omega)
                have er : fewE e = false := by simp [fewE, h0, h1, h2, h3, h4, h5, h6]
                have ff := And.intro e0 (And.intro e1 (And.intro e2 (And.intro e3 (And.intro e4 (And.intro e5 (And.intro e6 er))))))
                have hR : Tryz.f14.results.toList = [.tmp 2] := rfl
                refine cal_tr Tryz.func14 rfl fun E hE hP => ?_
                exact mX
            · have e5 : decide ((e.k.length : Int) ≤ 20) = false := decide_eq_false (by omega)
              have er : fewE e = false := by simp [fewE, h0, h1, h2, h3, h4, h5]
              have ff := And.intro e0 (And.intro e1 (And.intro e2 (And.intro e3 (And.intro e4 (And.intro e5 er)))))
              have hR : Tryz.f14.results.toList = [.tmp 2] := rfl
              refine cal_tr Tryz.func14 rfl fun E hE hP => ?_
              exact mX
          · have e4 : decide ((e.late.length : Int) ≤ 10) = false := decide_eq_false (by omega)
            have er : fewE e = false := by simp [fewE, h0, h1, h2, h3, h4]
            have ff := And.intro e0 (And.intro e1 (And.intro e2 (And.intro e3 (And.intro e4 er))))
            have hR : Tryz.f14.results.toList = [.tmp 2] := rfl
            refine cal_tr Tryz.func14 rfl fun E hE hP => ?_
            exact mX
        · have e3 : decide ((e.w.length : Int) ≤ 16) = false := decide_eq_false (by omega)
          have er : fewE e = false := by simp [fewE, h0, h1, h2, h3]
          have ff := And.intro e0 (And.intro e1 (And.intro e2 (And.intro e3 er)))
          have hR : Tryz.f14.results.toList = [.tmp 2] := rfl
          refine cal_tr Tryz.func14 rfl fun E hE hP => ?_
          exact mX
      · have e2 : decide ((e.vl.length : Int) ≤ 12) = false := decide_eq_false (by omega)
        have er : fewE e = false := by simp [fewE, h0, h1, h2]
        have ff := And.intro e0 (And.intro e1 (And.intro e2 er))
        have hR : Tryz.f14.results.toList = [.tmp 2] := rfl
        refine cal_tr Tryz.func14 rfl fun E hE hP => ?_
        exact mX
    · have e1 : decide ((e.b.length : Int) ≤ 12) = false := decide_eq_false (by omega)
      have er : fewE e = false := by simp [fewE, h0, h1]
      have ff := And.intro e0 (And.intro e1 er)
      have hR : Tryz.f14.results.toList = [.tmp 2] := rfl
      refine cal_tr Tryz.func14 rfl fun E hE hP => ?_
      exact mX
  · have e0 : decide ((e.t.length : Int) ≤ 16) = false := decide_eq_false (by omega)
    have er : fewE e = false := by simp [fewE, h0]
    have ff := And.intro e0 er
    have hR : Tryz.f14.results.toList = [.tmp 2] := rfl
    refine cal_tr Tryz.func14 rfl fun E hE hP => ?_
    exact mX

end Go.Proofs.YtgnidooihignfaaGreatDoor

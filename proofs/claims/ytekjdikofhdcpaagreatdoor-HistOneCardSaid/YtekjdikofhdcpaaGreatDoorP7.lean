/- Trees: a block that is put. -/
import Derived.Test.YtekjdikofhdcpaaGreatDoorP6
set_option linter.unusedSimpArgs false
set_option maxRecDepth 10000
namespace Go.Proofs.YtekjdikofhdcpaaGreatDoor
open Go Go.Ab
def nodeOf (t : List Node) (b : Block) : Node := ⟨b.root, findR t b.parent, b.slot, b.just⟩
def insR (t : List Node) (b : Block) : List Node × Int :=
 if mayB t = false then (t, 1)
 else if 0 ≤ findR t b.root then (t, 4)
 else if findR t b.parent < 0 then (t, 5)
 else if b.slot ≤ (t.getD (findR t b.parent).toNat zNode).slot ∨ 1099511627776 < b.slot then (t, 6)
 else if t.length = 12 then (t, 3)
 else (t ++ [nodeOf t b], 0)
theorem ins_1 (t : List Node) (b : Block) (ht : t.length ≤ 100000) (hm : mayB t = false) : Cal Tryz.prog 184 [tav t, b.av] (.tup [tav t, .int .i64 1]) := by
 have o1 := tclone_c t ht
 have c1 := And.intro (en Tryz.func90) (may_pure t)
 rw [hm] at c1
 have hR : Tryz.f184.results.toList = [.cell 4 24, .tmp 5] := rfl
 refine cal_tr Tryz.func184 rfl fun E hE hP => ?_
 refine mr ?_
 refine mr ?_
 refine Tr.wk (Wk.frzH [80]) ?_
 refine mFz ?_
 exact mX
theorem rlook_find {t : List Node} (hm : mayB t = true) (r : Root) : (findR t r = -1 ∧ rlook (idxTo t t.length) r = none) ∨ ∃ i : Nat, i < t.length ∧ findR t r = i ∧ rlook (idxTo t t.length) r = some i := by
 rw [rlook_once (may_once hm) r, findR, if_pos hm, findI]
 cases h : t.findIdx? (isR r) with
 | none => exact .inl ⟨rfl, rfl⟩
 | some i => exact .inr ⟨i, (List.findIdx?_eq_some_iff_getElem.1 h).1, rfl, rfl⟩
theorem ins_4 (t : List Node) (b : Block) (ht : t.length ≤ 100000) (hm : mayB t = true) (i : Nat) (hk : rlook (idxTo t t.length) b.root = some i) : Cal Tryz.prog 184 [tav t, b.av] (.tup [tav t, .int .i64 4]) := by
 have o1 := tclone_c t ht
 have c1 := And.intro (en Tryz.func90) (may_pure t)
 have o2 : CalO Tryz.prog 111 [.sl (t.map Node.av) false] (.tup [.mp 0, .bool (onceB t)]) [(0, .amap ((idxTo t t.length).map entE))] := And.intro (en Tryz.func111) (index_own t (by have := may_len hm; omega))
 have hml := may_len hm
 rw [hm] at c1
 have hR : Tryz.f184.results.toList = [.cell 4 24, .tmp 5] := rfl
 refine cal_tr Tryz.func184 rfl fun E hE hP => ?_
 refine mr ?_
 refine mr ?_
 refine Tr.wk (Wk.frzH [80]) ?_
 refine mFz ?_
 refine mW ?_
 first | apply tr_m xE | (refine Tr.seq ?_; apply tr_m xE)
 intro Q hQ
 refine mS ?_
 iterate 3 (refine vm_op ?_; intro r hr; simp only [Option.getD_some, Option.isSome_some, go_sem, seval]; subst hr)
 refine vm_op ?_; intro r hr; simp only [Option.getD_some, Option.isSome_some, go_sem, seval]
 refine lookR rfl ?_; rw [hk]
 try simp only [Option.getD_some, Option.isSome_some, go_sem, seval]
 subst hr
 iterate 5 (refine vm_op ?_; intro r hr; simp only [Option.getD_some, Option.isSome_some, go_sem, seval]; subst hr)
 exact hQ
 exact mX
theorem ins_5 (t : List Node) (b : Block) (ht : t.length ≤ 100000) (hm : mayB t = true) (hk : rlook (idxTo t t.length) b.root = none) (hp : rlook (idxTo t t.length) b.parent = none) : Cal Tryz.prog 184 [tav t, b.av] (.tup [tav t, .int .i64 5]) := by
 have o1 := tclone_c t ht
 have c1 := And.intro (en Tryz.func90) (may_pure t)
 have o2 : CalO Tryz.prog 111 [.sl (t.map Node.av) false] (.tup [.mp 0, .bool (onceB t)]) [(0, .amap ((idxTo t t.length).map entE))] := And.intro (en Tryz.func111) (index_own t (by have := may_len hm; omega))
 have hml := may_len hm
 rw [hm] at c1
 have hR : Tryz.f184.results.toList = [.cell 4 24, .tmp 5] := rfl
 refine cal_tr Tryz.func184 rfl fun E hE hP => ?_
 refine mr ?_
 refine mr ?_
 refine Tr.wk (Wk.frzH [80]) ?_
 refine mFz ?_
 refine mW ?_
 first | apply tr_m xE | (refine Tr.seq ?_; apply tr_m xE)
 intro Q hQ
 refine mS ?_
 iterate 3 (refine vm_op ?_; intro r hr; simp only [Option.getD_none, Option.isSome_none, go_sem, seval]; subst hr)
 refine vm_op ?_; intro r hr; simp only [Option.getD_none, Option.isSome_none, go_sem, seval]
 refine lookR rfl ?_; rw [hk]
 try simp only [Option.getD_none, Option.isSome_none, go_sem, seval]
 subst hr
 iterate 5 (refine vm_op ?_; intro r hr; simp only [Option.getD_none, Option.isSome_none, go_sem, seval]; subst hr)
 exact hQ
 refine mW ?_
 first | apply tr_m xE | (refine Tr.seq ?_; apply tr_m xE)
 intro Q hQ
 refine mS ?_
 iterate 3 (refine vm_op ?_; intro r hr; simp only [Option.getD_none, Option.isSome_none, go_sem, seval]; subst hr)
 refine vm_op ?_; intro r hr; simp only [Option.getD_none, Option.isSome_none, go_sem, seval]
 refine lookR rfl ?_; rw [hp]
 try simp only [Option.getD_none, Option.isSome_none, go_sem, seval]
 subst hr
 iterate 5 (refine vm_op ?_; intro r hr; simp only [Option.getD_none, Option.isSome_none, go_sem, seval]; subst hr)
 exact hQ
 exact mX
theorem ins_6 (t : List Node) (b : Block) (ht : t.length ≤ 100000) (hm : mayB t = true) (i : Nat) (hi : i < t.length) (hk : rlook (idxTo t t.length) b.root = none) (hp : rlook (idxTo t t.length) b.parent = some i) (hs : b.slot ≤ (t.getD i zNode).slot ∨ 1099511627776 < b.slot) : Cal Tryz.prog 184 [tav t, b.av] (.tup [tav t, .int .i64 6]) := by
 have hn := nth_node hi
 generalize t.getD i zNode = n at hn hs
 rcases Bool.eq_false_or_eq_true (decide (b.slot ≤ n.slot)) with g | g
 · have o1 := tclone_c t ht
   have c1 := And.intro (en Tryz.func90) (may_pure t)
   have o2 : CalO Tryz.prog 111 [.sl (t.map Node.av) false] (.tup [.mp 0, .bool (onceB t)]) [(0, .amap ((idxTo t t.length).map entE))] := And.intro (en Tryz.func111) (index_own t (by have := may_len hm; omega))
   have hml := may_len hm
   rw [hm] at c1
   have hR : Tryz.f184.results.toList = [.cell 4 24, .tmp 5] := rfl
   refine cal_tr Tryz.func184 rfl fun E hE hP => ?_
   refine mr ?_
   refine mr ?_
   refine Tr.wk (Wk.frzH [80]) ?_
   refine mFz ?_
   refine mW ?_
   first | apply tr_m xE | (refine Tr.seq ?_; apply tr_m xE)
   intro Q hQ
   refine mS ?_
   iterate 3 (refine vm_op ?_; intro r hr; simp only [Option.getD_none, Option.isSome_none, go_sem, seval]; subst hr)
   refine vm_op ?_; intro r hr; simp only [Option.getD_none, Option.isSome_none, go_sem, seval]
   refine lookR rfl ?_; rw [hk]
   try simp only [Option.getD_none, Option.isSome_none, go_sem, seval]
   subst hr
   iterate 5 (refine vm_op ?_; intro r hr; simp only [Option.getD_none, Option.isSome_none, go_sem, seval]; subst hr)
   exact hQ
   refine mW ?_
   first | apply tr_m xE | (refine Tr.seq ?_; apply tr_m xE)
   intro Q hQ
   refine mS ?_
   iterate 3 (refine vm_op ?_; intro r hr; simp only [Option.getD_some, Option.isSome_some, go_sem, seval]; subst hr)
   refine vm_op ?_; intro r hr; simp only [Option.getD_some, Option.isSome_some, go_sem, seval]
   refine lookR rfl ?_; rw [hp]
   try simp only [Option.getD_some, Option.isSome_some, go_sem, seval]
   subst hr
   iterate 5 (refine vm_op ?_; intro r hr; simp only [Option.getD_some, Option.isSome_some, go_sem, seval]; subst hr)
   exact hQ
   have ff := And.intro hn g
   exact mX
 · have g2 : decide (1099511627776 < b.slot) = true := decide_eq_true (hs.resolve_left (of_decide_eq_false g))
   have o1 := tclone_c t ht
   have c1 := And.intro (en Tryz.func90) (may_pure t)
   have o2 : CalO Tryz.prog 111 [.sl (t.map Node.av) false] (.tup [.mp 0, .bool (onceB t)]) [(0, .amap ((idxTo t t.length).map entE))] := And.intro (en Tryz.func111) (index_own t (by have := may_len hm; omega))
   have hml := may_len hm
   rw [hm] at c1
   have hR : Tryz.f184.results.toList = [.cell 4 24, .tmp 5] := rfl
   refine cal_tr Tryz.func184 rfl fun E hE hP => ?_
   refine mr ?_
   refine mr ?_
   refine Tr.wk (Wk.frzH [80]) ?_
   refine mFz ?_
   refine mW ?_
   first | apply tr_m xE | (refine Tr.seq ?_; apply tr_m xE)
   intro Q hQ
   refine mS ?_
   iterate 3 (refine vm_op ?_; intro r hr; simp only [Option.getD_none, Option.isSome_none, go_sem, seval]; subst hr)
   refine vm_op ?_; intro r hr; simp only [Option.getD_none, Option.isSome_none, go_sem, seval]
   refine lookR rfl ?_; rw [hk]
   try simp only [Option.getD_none, Option.isSome_none, go_sem, seval]
   subst hr
   iterate 5 (refine vm_op ?_; intro r hr; simp only [Option.getD_none, Option.isSome_none, go_sem, seval]; subst hr)
   exact hQ
   refine mW ?_
   first | apply tr_m xE | (refine Tr.seq ?_; apply tr_m xE)
   intro Q hQ
   refine mS ?_
   iterate 3 (refine vm_op ?_; intro r hr; simp only [Option.getD_some, Option.isSome_some, go_sem, seval]; subst hr)
   refine vm_op ?_; intro r hr; simp only [Option.getD_some, Option.isSome_some, go_sem, seval]
   refine lookR rfl ?_; rw [hp]
   try simp only [Option.getD_some, Option.isSome_some, go_sem, seval]
   subst hr
   iterate 5 (refine vm_op ?_; intro r hr; simp only [Option.getD_some, Option.isSome_some, go_sem, seval]; subst hr)
   exact hQ
   have ff := And.intro hn (And.intro g g2)
   exact mX
theorem ins_3 (t : List Node) (b : Block) (ht : t.length ≤ 100000) (hm : mayB t = true) (i : Nat) (hi : i < t.length) (hk : rlook (idxTo t t.length) b.root = none) (hp : rlook (idxTo t t.length) b.parent = some i) (g : decide (b.slot ≤ (t.getD i zNode).slot) = false) (g2 : decide (1099511627776 < b.slot) = false)
 (g3 : decide ((t.length : Int) = 12) = true) : Cal Tryz.prog 184 [tav t, b.av] (.tup [tav t, .int .i64 3]) := by
 have hn := nth_node hi
 generalize t.getD i zNode = n at hn g
 have o1 := tclone_c t ht
 have c1 := And.intro (en Tryz.func90) (may_pure t)
 have o2 : CalO Tryz.prog 111 [.sl (t.map Node.av) false] (.tup [.mp 0, .bool (onceB t)]) [(0, .amap ((idxTo t t.length).map entE))] := And.intro (en Tryz.func111) (index_own t (by have := may_len hm; omega))
 have hml := may_len hm
 rw [hm] at c1
 have hR : Tryz.f184.results.toList = [.cell 4 24, .tmp 5] := rfl
 refine cal_tr Tryz.func184 rfl fun E hE hP => ?_
 refine mr ?_
 refine mr ?_
 refine Tr.wk (Wk.frzH [80]) ?_
 refine mFz ?_
 refine mW ?_
 first | apply tr_m xE | (refine Tr.seq ?_; apply tr_m xE)
 intro Q hQ
 refine mS ?_
 iterate 3 (refine vm_op ?_; intro r hr; simp only [Option.getD_none, Option.isSome_none, go_sem, seval]; subst hr)
 refine vm_op ?_; intro r hr; simp only [Option.getD_none, Option.isSome_none, go_sem, seval]
 refine lookR rfl ?_; rw [hk]
 try simp only [Option.getD_none, Option.isSome_none, go_sem, seval]
 subst hr
 iterate 5 (refine vm_op ?_; intro r hr; simp only [Option.getD_none, Option.isSome_none, go_sem, seval]; subst hr)
 exact hQ
 refine mW ?_
 first | apply tr_m xE | (refine Tr.seq ?_; apply tr_m xE)
 intro Q hQ
 refine mS ?_
 iterate 3 (refine vm_op ?_; intro r hr; simp only [Option.getD_some, Option.isSome_some, go_sem, seval]; subst hr)
 refine vm_op ?_; intro r hr; simp only [Option.getD_some, Option.isSome_some, go_sem, seval]
 refine lookR rfl ?_; rw [hp]
 try simp only [Option.getD_some, Option.isSome_some, go_sem, seval]
 subst hr
 iterate 5 (refine vm_op ?_; intro r hr; simp only [Option.getD_some, Option.isSome_some, go_sem, seval]; subst hr)
 exact hQ
 have ff := And.intro hn (And.intro g (And.intro g2 g3))
 exact mX
theorem ins_0 (t : List Node) (b : Block) (ht : t.length ≤ 100000) (hm : mayB t = true) (i : Nat) (hi : i < t.length) (hk : rlook (idxTo t t.length) b.root = none) (hp : rlook (idxTo t t.length) b.parent = some i) (g : decide (b.slot ≤ (t.getD i zNode).slot) = false) (g2 : decide (1099511627776 < b.slot) = false)
 (g3 : decide ((t.length : Int) = 12) = false) : Cal Tryz.prog 184 [tav t, b.av] (.tup [tav (t ++ [⟨b.root, i, b.slot, b.just⟩]), .int .i64 0]) := by
 have hn := nth_node hi
 generalize t.getD i zNode = n at hn g
 have o1 := tclone_c t ht
 have c1 := And.intro (en Tryz.func90) (may_pure t)
 have o2 : CalO Tryz.prog 111 [.sl (t.map Node.av) false] (.tup [.mp 0, .bool (onceB t)]) [(0, .amap ((idxTo t t.length).map entE))] := And.intro (en Tryz.func111) (index_own t (by have := may_len hm; omega))
 have hml := may_len hm
 rw [hm] at c1
 have hR : Tryz.f184.results.toList = [.cell 4 24, .tmp 5] := rfl
 refine cal_tr Tryz.func184 rfl fun E hE hP => ?_
 refine mr ?_
 refine mr ?_
 refine mW ?_
 first | apply tr_m xE | (refine Tr.seq ?_; apply tr_m xE)
 intro Q hQ
 refine mS ?_
 iterate 3 (refine vm_op ?_; intro r hr; simp only [Option.getD_none, Option.isSome_none, go_sem, seval]; subst hr)
 refine vm_op ?_; intro r hr; simp only [Option.getD_none, Option.isSome_none, go_sem, seval]
 refine lookR rfl ?_; rw [hk]
 try simp only [Option.getD_none, Option.isSome_none, go_sem, seval]
 subst hr
 iterate 5 (refine vm_op ?_; intro r hr; simp only [Option.getD_none, Option.isSome_none, go_sem, seval]; subst hr)
 exact hQ
 refine mW ?_
 first | apply tr_m xE | (refine Tr.seq ?_; apply tr_m xE)
 intro Q hQ
 refine mS ?_
 iterate 3 (refine vm_op ?_; intro r hr; simp only [Option.getD_some, Option.isSome_some, go_sem, seval]; subst hr)
 refine vm_op ?_; intro r hr; simp only [Option.getD_some, Option.isSome_some, go_sem, seval]
 refine lookR rfl ?_; rw [hp]
 try simp only [Option.getD_some, Option.isSome_some, go_sem, seval]
 subst hr
 iterate 5 (refine vm_op ?_; intro r hr; simp only [Option.getD_some, Option.isSome_some, go_sem, seval]; subst hr)
 exact hQ
 have ff := And.intro hn (And.intro g (And.intro g2 g3))
 refine mW ?_
 first | apply tr_m xE | (refine Tr.seq ?_; apply tr_m xE)
 intro Q hQ
 refine mS ?_
 iterate 11 (refine vm_op ?_; intro r hr; simp only [fB, go_sem, seval]; subst hr)
 refine vm_op ?_; intro r hr; simp only [fB, go_sem, seval]
 refine ⟨by omega, by omega, ?_⟩
 try simp only [fB, go_sem, seval]
 subst hr
 iterate 2 (refine vm_op ?_; intro r hr; simp only [fB, go_sem, seval]; subst hr)
 exact hQ
 refine mr ?_
 refine Tr.wk (Wk.frzH [1136]) ?_
 have hma : List.map Node.av t ++ [(Node.mk b.root i b.slot b.just).av] = List.map Node.av (t ++ [⟨b.root, i, b.slot, b.just⟩]) := by rw [List.map_append]; rfl
 have hlen : (List.map Node.av (t ++ [⟨b.root, i, b.slot, b.just⟩])).length = t.length + 1 := by rw [List.length_map, List.length_append]; rfl
 simp only [frzHP, frzA, AV.frz, AV.frzL, List.map_cons, List.map_nil, hma, hlen, go_sem, seval]
 exact mX
theorem ins_c (t : List Node) (b : Block) (ht : t.length ≤ 100000) : Cal Tryz.prog 184 [tav t, b.av] (.tup [tav (insR t b).1, .int .i64 (insR t b).2]) := by
 cases hm : mayB t
 · have er : insR t b = (t, 1) := by rw [insR, if_pos hm]
   rw [er]
   exact ins_1 t b ht hm
 · have h0 : ¬ mayB t = false := by rw [hm]; decide
   rcases rlook_find hm b.root with ⟨k1, k2⟩ | ⟨i, k0, k1, k2⟩
   · rcases rlook_find hm b.parent with ⟨p1, p2⟩ | ⟨j, p0, p1, p2⟩
     · have er : insR t b = (t, 5) := by rw [insR, if_neg h0, if_neg (by omega), if_pos (by omega)]
       rw [er]
       exact ins_5 t b ht hm k2 p2
     · have er : insR t b = if b.slot ≤ (t.getD j zNode).slot ∨ 1099511627776 < b.slot then (t, 6) else if t.length = 12 then (t, 3) else (t ++ [nodeOf t b], 0) := by
        rw [insR, if_neg h0, if_neg (by omega), if_neg (by omega), p1, Int.toNat_natCast]
       rw [er]
       by_cases hs : b.slot ≤ (t.getD j zNode).slot ∨ 1099511627776 < b.slot
       · rw [if_pos hs]
         exact ins_6 t b ht hm j p0 k2 p2 hs
       · rw [if_neg hs]
         rw [not_or] at hs
         by_cases hl : t.length = 12
         · rw [if_pos hl]
           exact ins_3 t b ht hm j p0 k2 p2 (decide_eq_false hs.1) (decide_eq_false hs.2) (dtO)
         · rw [if_neg hl]
           unfold nodeOf
           rw [p1]
           exact ins_0 t b ht hm j p0 k2 p2 (decide_eq_false hs.1) (decide_eq_false hs.2) (dfO)
   · have er : insR t b = (t, 4) := by rw [insR, if_neg h0, if_pos (by omega)]
     rw [er]
     exact ins_4 t b ht hm i k2
def workV (e : Eng) (W : AV) (b : Block) (a : Att) (c : Ask) : AV := .st [engX e (.sl (e.t.map Node.av) false) (u64s e.b) (.sl (e.vl.map Latest.av) false) W (atts e.late) (links e.k) (checks e.j), b.av, a.av, c.av]
attribute [go_sem] workV
def workH (e : Eng) (b : Block) (a : Att) (c : Ask) : HP := [(0, .var (workV e (.ms 1 1 e.w.length) b a c)), (1, .row 1 (e.w.map uav))]
theorem place_e (e : Eng) (b : Block) (a : Att) (c : Ask) (r : Root) : CalE Tryz.prog 124 [.ptr 0 [] 0, .root r] 2 (workH e b a c) (.int .i64 (findR e.t r)) (workH e b a c) := by
 have c1 := And.intro (en Tryz.func57) (find_pure e.t r)
 unfold workH
 have hR : Tryz.f124.results.toList = [.tmp 4] := rfl
 refine calE_tr Tryz.func124 rfl fun E hE hP => ?_
 exact mX
theorem blk_7 (e : Eng) (b : Block) (a : Att) (c : Ask) (h : decide (e.now < b.slot) = true) : CalE Tryz.prog 117 [.ptr 0 [] 0] 2 (workH e b a c) (.int .i64 7) (workH e b a c) := by
 have ff := h
 unfold workH
 have hR : Tryz.f117.results.toList = [.tmp 2] := rfl
 refine calE_tr Tryz.func117 rfl fun E hE hP => ?_
 exact mX
theorem blk_e (e : Eng) (b : Block) (a : Att) (c : Ask) (he : e.few) (h : decide (e.now < b.slot) = false) (h2 : decide ((insR e.t b).2 = 0) = false) : CalE Tryz.prog 117 [.ptr 0 [] 0] 2 (workH e b a c) (.int .i64 (insR e.t b).2) (workH e b a c) := by
 have c1 := ins_c e.t b (by have := he.t; omega)
 generalize insR e.t b = X at c1 h2
 have ff := And.intro h h2
 unfold workH
 have hR : Tryz.f117.results.toList = [.tmp 2] := rfl
 refine calE_tr Tryz.func117 rfl fun E hE hP => ?_
 refine mr ?_
 refine mr ?_
 refine mC ?_
 refine mC ?_
 refine tr_seq_plan mixed _ (.one 0 (.one 1 (.one 2 (.one 3 (.one 4 (.one 5 (.one 6 (.one 7 (.one 8 (.two 9 (.one 10 (.one 11 (.one 12 (.one 13 (.one 14 (.one 15 .done)))))) 13 (.one 9 (.one 10 (.one 11 (.one 12 (.one 14 (.one 15 .done)))))))))))))))) (⟨[(0, .ptr 0 [] 0), (3, .ptr 2 [] 0), (4, .int .i64 X.2)], [(0, .var (workV e (.ms 1 1 e.w.length) b a c)), (1, .row 1 (e.w.map uav)), (2, .var (tav X.1))], 3, []⟩) (keepAll _) xE kR ?_ ?_
 · simp only [List.map_cons, List.map_nil]
   iterate 9 refine pQ ?_
   apply pl_two; exact rfl; exact rfl
   · refine sX ?_
     refine call_fn rfl rfl rfl rfl (en Tryz.func184) (c1.2) rfl rfl rfl ?_
     refine mS ?_
     iterate 3 refine pQ ?_
     refine pX ?_
     refine pX ?_
     refine pQ ?_
     refine pl_done (st := _) ?_ rfl
     refine wk_ren (fun | 2 => 402 | n => n) mB mB rfl rfl rfl
   · refine sX ?_
     refine pX ?_
     refine call_fn rfl rfl rfl rfl (en Tryz.func184) (c1.2) rfl rfl rfl ?_
     refine mS ?_
     iterate 3 refine pQ ?_
     refine pX ?_
     refine pQ ?_
     refine pl_done (st := _) ?_ rfl
     refine wk_ren (fun | 2 => 402 | n => n) mB mB rfl rfl rfl
 exact mX
def workO (e : Eng) (t : List Node) (b : Block) (a : Att) (c : Ask) : HP := [(0, .var (workV ⟨t, e.b, e.vl, e.o, e.w ++ [0], e.late, e.k, e.j, e.fin, e.now⟩ (.ms 2 1 (e.w.length + 1)) b a c)), (2, .row 1 ((e.w ++ [0]).map uav))]
theorem blk_8 (e : Eng) (b : Block) (a : Att) (c : Ask) (he : e.few) (h : decide (e.now < b.slot) = false) (t : List Node) (ht : insR e.t b = (t, 0)) (hl : 1 ≤ t.length ∧ t.length ≤ 100000) (ha : aboveR t (findR e.t e.fin.root) ((t.length - 1 : Nat) : Int) = false) : CalE Tryz.prog 117 [.ptr 0 [] 0] 2 (workH e b a c) (.int .i64 8) (workH e b a c) := by
 have c1 := ins_c e.t b (by have := he.t; omega)
 rw [ht] at c1
 have y1 := place_e e b a c e.fin.root
 have c2 := And.intro (en Tryz.func98) (above_pure t (findR e.t e.fin.root) ((t.length - 1 : Nat) : Int))
 rw [ha] at c2
 have hw : IntKind.i64.wrap ((t.length : Int) - 1) = ((t.length - 1 : Nat) : Int) := by rw [wrap64_id (by omega) (by omega)]; omega
 have ff := And.intro h hw
 unfold workH at y1 ⊢
 have hR : Tryz.f117.results.toList = [.tmp 2] := rfl
 refine calE_tr Tryz.func117 rfl fun E hE hP => ?_
 refine mr ?_
 refine mr ?_
 refine mC ?_
 refine mC ?_
 refine tr_seq_plan mixed _ (.one 0 (.one 1 (.one 2 (.one 3 (.one 4 (.one 5 (.one 6 (.one 7 (.one 8 (.two 9 (.one 10 (.one 11 (.one 12 (.one 13 (.one 14 (.one 15 .done)))))) 13 (.one 9 (.one 10 (.one 11 (.one 12 (.one 14 (.one 15 .done)))))))))))))))) (⟨[(0, .ptr 0 [] 0), (3, .ptr 2 [] 0), (4, .int .i64 0)], [(0, .var (workV e (.ms 1 1 e.w.length) b a c)), (1, .row 1 (e.w.map uav)), (2, .var (tav t))], 3, []⟩) (keepAll _) xE kR ?_ ?_
 · simp only [List.map_cons, List.map_nil]
   iterate 9 refine pQ ?_
   apply pl_two; exact rfl; exact rfl
   · refine sX ?_
     refine call_fn rfl rfl rfl rfl (en Tryz.func184) (c1.2) rfl rfl rfl ?_
     refine mS ?_
     iterate 3 refine pQ ?_
     refine pX ?_
     refine pX ?_
     refine pQ ?_
     refine pl_done (st := _) ?_ rfl
     refine wk_ren (fun | 2 => 402 | n => n) mB mB rfl rfl rfl
   · refine sX ?_
     refine pX ?_
     refine call_fn rfl rfl rfl rfl (en Tryz.func184) (c1.2) rfl rfl rfl ?_
     refine mS ?_
     iterate 3 refine pQ ?_
     refine pX ?_
     refine pQ ?_
     refine pl_done (st := _) ?_ rfl
     refine wk_ren (fun | 2 => 402 | n => n) mB mB rfl rfl rfl
 exact mX
theorem blk_0 (e : Eng) (b : Block) (a : Att) (c : Ask) (he : e.few) (h : decide (e.now < b.slot) = false) (t : List Node) (ht : insR e.t b = (t, 0)) (hl : 1 ≤ t.length ∧ t.length ≤ 100000) (hw1 : e.w.length ≤ 100000) (ha : aboveR t (findR e.t e.fin.root) ((t.length - 1 : Nat) : Int) = true) : CalE Tryz.prog 117 [.ptr 0 [] 0] 2 (workH e b a c) (.int .i64 0) (workO e t b a c) := by
 have c1 := ins_c e.t b (by have := he.t; omega)
 rw [ht] at c1
 have y1 := place_e e b a c e.fin.root
 have c2 := And.intro (en Tryz.func98) (above_pure t (findR e.t e.fin.root) ((t.length - 1 : Nat) : Int))
 rw [ha] at c2
 have hw : IntKind.i64.wrap ((t.length : Int) - 1) = ((t.length - 1 : Nat) : Int) := by rw [wrap64_id (by omega) (by omega)]; omega
 have ff := And.intro h hw
 unfold workH at y1 ⊢
 unfold workO
 have hR : Tryz.f117.results.toList = [.tmp 2] := rfl
 refine calE_tr Tryz.func117 rfl fun E hE hP => ?_
 refine mr ?_
 refine mr ?_
 refine mC ?_
 refine mC ?_
 refine tr_seq_plan mixed _ (.one 0 (.one 1 (.one 2 (.one 3 (.one 4 (.one 5 (.one 6 (.one 7 (.one 8 (.two 9 (.one 10 (.one 11 (.one 12 (.one 13 (.one 14 (.one 15 .done)))))) 13 (.one 9 (.one 10 (.one 11 (.one 12 (.one 14 (.one 15 .done)))))))))))))))) (⟨[(0, .ptr 0 [] 0), (3, .ptr 2 [] 0), (4, .int .i64 0)], [(0, .var (workV e (.ms 1 1 e.w.length) b a c)), (1, .row 1 (e.w.map uav)), (2, .var (tav t))], 3, []⟩) (keepAll _) xE kR ?_ ?_
 · simp only [List.map_cons, List.map_nil]
   iterate 9 refine pQ ?_
   apply pl_two; exact rfl; exact rfl
   · refine sX ?_
     refine call_fn rfl rfl rfl rfl (en Tryz.func184) (c1.2) rfl rfl rfl ?_
     refine mS ?_
     iterate 3 refine pQ ?_
     refine pX ?_
     refine pX ?_
     refine pQ ?_
     refine pl_done (st := _) ?_ rfl
     refine wk_ren (fun | 2 => 402 | n => n) mB mB rfl rfl rfl
   · refine sX ?_
     refine pX ?_
     refine call_fn rfl rfl rfl rfl (en Tryz.func184) (c1.2) rfl rfl rfl ?_
     refine mS ?_
     iterate 3 refine pQ ?_
     refine pX ?_
     refine pQ ?_
     refine pl_done (st := _) ?_ rfl
     refine wk_ren (fun | 2 => 402 | n => n) mB mB rfl rfl rfl
 refine mW ?_
 first | refine tr_seq_drawn mixed [0, 2] rfl xE kR ?_ | (refine Tr.seq ?_; refine tr_seq_drawn mixed [0, 2] rfl xE kR ?_)
 iterate 9 refine vQ ?_
 refine vd_x rfl rfl ?_; simp only [fB, go_sem, seval]
 refine ⟨by omega, by omega, ?_⟩
 try simp only [fB, go_sem, seval]
 iterate 3 refine vQ ?_
 refine vd_w rfl rfl kR ?_; simp only [fB, go_sem, seval]
 iterate 3 refine vQ ?_
 refine vd_w rfl rfl kR ?_; simp only [fB, go_sem, seval]
 refine vd_nil ?_
 refine mr ?_
 have hma : List.map uav e.w ++ [AV.int .u64 0] = List.map uav (e.w ++ [0]) := by rw [List.map_append]; rfl
 refine Tr.ret ?_
 simp only [hR, hma, go_sem, seval]
 exact ⟨fun | 2 => 451 | n => n, mB, rfl, fun o ho => by rcases o with _ | _ | _ <;> first | rfl | omega⟩
def workA (e : Eng) (b : Block) (a : Att) (c : Ask) : AV := .st [e.av, b.av, a.av, c.av]
attribute [go_sem] workA
theorem do_no (e : Eng) (b : Block) (a : Att) (c : Ask) (F : Nat) (he : e.few) (ho : e.ok) (hm : mayE e = false) : CalT Tryz.prog 0 tabV 67 [workA e b a c, .fn (.func F) [] []] (.tup [e.av, .int .i64 1]) := by
 have x1 := may_t e he ho
 rw [hm] at x1
 have d1 := own_p e he
 have c1 := d1
 have hR : Tryz.f67.results.toList = [.cell 4 38, .tmp 5] := rfl
 refine calE_tr Tryz.func67 rfl fun E hE hP => ?_
 exact mX
def blockR (e : Eng) (b : Block) : Eng × Int :=
 if mayE e = false then (e, 1)
 else if e.now < b.slot then (e, 7)
 else if (insR e.t b).2 ≠ 0 then (e, (insR e.t b).2)
 else if aboveR (insR e.t b).1 (findR e.t e.fin.root) (((insR e.t b).1.length - 1 : Nat) : Int) = false then (e, 8)
 else (⟨(insR e.t b).1, e.b, e.vl, e.o, e.w ++ [0], e.late, e.k, e.j, e.fin, e.now⟩, 0)
theorem insR_ok {t : List Node} {b : Block} (h : (insR t b).2 = 0) : (insR t b).1 = t ++ [nodeOf t b] ∧ canB t (nodeOf t b) := by
 unfold insR at h ⊢
 split at h
 · cases h
 · rename_i h1
   rw [if_neg h1]
   split at h
   · cases h
   · rename_i h2
     rw [if_neg h2]
     split at h
     · cases h
     · rename_i h3
       rw [if_neg h3]
       split at h
       · cases h
       · rename_i h4
         rw [if_neg h4]
         split at h
         · cases h
         · rename_i h5
           rw [if_neg h5]
           rw [not_or] at h4
           have hm : mayB t = true := by simpa using h1
           have hp := (findR_range t b.parent).resolve_left (by omega)
           have hl := (may_len hm).2
           refine ⟨rfl, hm, by omega, fun hh => h2 ((find_mem hm).2 hh), ?_, ?_, ?_⟩
           · exact ⟨by show 0 ≤ findR t b.parent; omega, by show findR t b.parent < _; omega⟩
           · show b.slot ≤ _; omega
           · show (t.getD (findR t b.parent).toNat zNode).slot < b.slot; omega
theorem lequal_c (l k : List Latest) (hl : l.length ≤ 100000) : Cal Tryz.prog 85 [.sl (l.map Latest.av) false, .sl (k.map Latest.av) false] (.bool (decide (l = k))) := by
 by_cases hlen : l.length = k.length
 · have e0 : ((l.length : Int) != (k.length : Int)) = false := by simp [hlen]
   have ff := e0
   have hR : Tryz.f85.results.toList = [.tmp 4] := rfl
   refine cal_tr Tryz.func85 rfl fun E hE hP => ?_
   refine mW ?_
   refine Tr.loop (fun i : Nat => (⟨[(0, .sl (l.map Latest.av) false), (1, .sl (k.map Latest.av) false), (12, .int .i64 l.length), (13, .int .i64 i)], [], 0, []⟩ : S)) (fun i => i ≤ l.length ∧ ∀ j (h1 : j < l.length) (h2 : j < k.length), j < i → l[j] = k[j]) (fun i => l.length - i) 0 ⟨Nat.zero_le _, fun _ _ _ h => by omega⟩ ?_ ?_
   · exact mK
   · intro i ⟨hi, hall⟩
     by_cases hlt : i < l.length
     · have e1 : decide ((i : Int) < (l.length : Int)) = true := dtO
       have hkt : i < k.length := by omega
       have hn := nth_map_lt Latest.av l i hlt
       have hn2 := nth_map_lt Latest.av k i hkt
       have hw := wN i
       by_cases he : l[i] = k[i]
       · have e2 : decide (l[i] = k[i]) = true := decide_eq_true he
         have ff := And.intro e1 (And.intro hn (And.intro hn2 (And.intro hw e2)))
         refine mW ?_
         refine ⟨i + 1, ⟨hlt, fun j h1 h2 hji => ?_⟩, by omega, ?_⟩
         · rcases Nat.lt_or_ge j i with h | h
           · exact hall j h1 h2 h
           · have : j = i := by omega
             subst this; exact he
         · exact mK
       · have e2 : decide (l[i] = k[i]) = false := decide_eq_false he
         have er : decide (l = k) = false := decide_eq_false fun h => he (by subst h; rfl)
         have ff := And.intro e1 (And.intro hn (And.intro hn2 (And.intro hw (And.intro e2 er))))
         exact mWE
     · have e1 : decide ((i : Int) < (l.length : Int)) = false := dfO
       have er : decide (l = k) = true := decide_eq_true (List.ext_getElem hlen fun j h1 h2 => hall j h1 h2 (by omega))
       have ff := And.intro e1 er
       exact mWE
 · have e0 : ((l.length : Int) != (k.length : Int)) = true := by simp; omega
   have er : decide (l = k) = false := decide_eq_false fun h => hlen (by rw [h])
   have ff := And.intro e0 er
   have hR : Tryz.f85.results.toList = [.tmp 4] := rfl
   refine cal_tr Tryz.func85 rfl fun E hE hP => ?_
   exact mWE
theorem jequal_c (l k : List Check) (hl : l.length ≤ 100000) : Cal Tryz.prog 47 [.sl (l.map Check.av) false, .sl (k.map Check.av) false] (.bool (decide (l = k))) := by
 by_cases hlen : l.length = k.length
 · have e0 : ((l.length : Int) != (k.length : Int)) = false := by simp [hlen]
   have ff := e0
   have hR : Tryz.f47.results.toList = [.tmp 4] := rfl
   refine cal_tr Tryz.func47 rfl fun E hE hP => ?_
   refine mW ?_
   refine Tr.loop (fun i : Nat => (⟨[(0, .sl (l.map Check.av) false), (1, .sl (k.map Check.av) false), (12, .int .i64 l.length), (13, .int .i64 i)], [], 0, []⟩ : S)) (fun i => i ≤ l.length ∧ ∀ j (h1 : j < l.length) (h2 : j < k.length), j < i → l[j] = k[j]) (fun i => l.length - i) 0 ⟨Nat.zero_le _, fun _ _ _ h => by omega⟩ ?_ ?_
   · exact mK
   · intro i ⟨hi, hall⟩
     by_cases hlt : i < l.length
     · have e1 : decide ((i : Int) < (l.length : Int)) = true := dtO
       have hkt : i < k.length := by omega
       have hn := nth_map_lt Check.av l i hlt
       have hn2 := nth_map_lt Check.av k i hkt
       have hw := wN i
       by_cases he : l[i] = k[i]
       · have e2 : decide (l[i] = k[i]) = true := decide_eq_true he
         have ff := And.intro e1 (And.intro hn (And.intro hn2 (And.intro hw e2)))
         refine mW ?_
         refine ⟨i + 1, ⟨hlt, fun j h1 h2 hji => ?_⟩, by omega, ?_⟩
         · rcases Nat.lt_or_ge j i with h | h
           · exact hall j h1 h2 h
           · have : j = i := by omega
             subst this; exact he
         · exact mK
       · have e2 : decide (l[i] = k[i]) = false := decide_eq_false he
         have er : decide (l = k) = false := decide_eq_false fun h => he (by subst h; rfl)
         have ff := And.intro e1 (And.intro hn (And.intro hn2 (And.intro hw (And.intro e2 er))))
         exact mWE
     · have e1 : decide ((i : Int) < (l.length : Int)) = false := dfO
       have er : decide (l = k) = true := decide_eq_true (List.ext_getElem hlen fun j h1 h2 => hall j h1 h2 (by omega))
       have ff := And.intro e1 er
       exact mWE
 · have e0 : ((l.length : Int) != (k.length : Int)) = true := by simp; omega
   have er : decide (l = k) = false := decide_eq_false fun h => hlen (by rw [h])
   have ff := And.intro e0 er
   have hR : Tryz.f47.results.toList = [.tmp 4] := rfl
   refine cal_tr Tryz.func47 rfl fun E hE hP => ?_
   exact mWE
theorem asame1_c (a : Att) : Cal Tryz.prog 87 [a.av, a.av] (.bool true) := by
 have h : decide (a = a) = true := decide_eq_true rfl
 have ff := h
 have hR : Tryz.f87.results.toList = [.tmp 4] := rfl
 refine cal_tr Tryz.func87 rfl fun E hE hP => ?_
 exact mX
theorem ksame1_c (a : Link) : Cal Tryz.prog 89 [a.av, a.av] (.bool true) := by
 have h : decide (a = a) = true := decide_eq_true rfl
 have h2 : decide (a.s = a.s) = true := decide_eq_true rfl
 have h3 : decide (a.t = a.t) = true := decide_eq_true rfl
 have h4 : decide (a.mask = a.mask) = true := decide_eq_true rfl
 have ff := And.intro h (And.intro h2 (And.intro h3 h4))
 have hR : Tryz.f89.results.toList = [.tmp 4] := rfl
 refine cal_tr Tryz.func89 rfl fun E hE hP => ?_
 exact mX
theorem asame_c (l : List Att) (hl : l.length ≤ 100000) : Cal Tryz.prog 86 [.sl (l.map Att.av) false, .sl (l.map Att.av) false, .fn (.func 87) [] []] (.bool true) := by
 have e0 : decide ((l.length : Int) = (l.length : Int)) = true := decide_eq_true rfl
 have ff := e0
 have hR : Tryz.f86.results.toList = [.tmp 6] := rfl
 refine cal_tr Tryz.func86 rfl fun E hE hP => ?_
 refine mW ?_
 refine Tr.loop (fun i : Nat => (⟨[(1, .sl (l.map Att.av) false), (2, .fn (.func 87) [] []), (15, .sl (l.map Att.av) false), (16, .int .i64 l.length), (17, .int .i64 i)], [], 0, []⟩ : S)) (fun i => i ≤ l.length) (fun i => l.length - i) 0 (Nat.zero_le _) ?_ ?_
 · exact mK
 · intro i hi
   by_cases hlt : i < l.length
   · have e1 : decide ((i : Int) < (l.length : Int)) = true := dtO
     have hn := nth_map_lt Att.av l i hlt
     have hw := wN i
     have c1 := asame1_c l[i]
     generalize l[i] = x at hn c1
     have ff := And.intro e1 (And.intro hn hw)
     refine mW ?_
     refine ⟨i + 1, hlt, by omega, ?_⟩
     exact mK
   · have e1 : decide ((i : Int) < (l.length : Int)) = false := dfO
     have ff := e1
     exact mX
theorem ksame_c (l : List Link) (hl : l.length ≤ 100000) : Cal Tryz.prog 88 [.sl (l.map Link.av) false, .sl (l.map Link.av) false, .fn (.func 89) [] []] (.bool true) := by
 have e0 : decide ((l.length : Int) = (l.length : Int)) = true := decide_eq_true rfl
 have ff := e0
 have hR : Tryz.f88.results.toList = [.tmp 6] := rfl
 refine cal_tr Tryz.func88 rfl fun E hE hP => ?_
 refine mW ?_
 refine Tr.loop (fun i : Nat => (⟨[(1, .sl (l.map Link.av) false), (2, .fn (.func 89) [] []), (15, .sl (l.map Link.av) false), (16, .int .i64 l.length), (17, .int .i64 i)], [], 0, []⟩ : S)) (fun i => i ≤ l.length) (fun i => l.length - i) 0 (Nat.zero_le _) ?_ ?_
 · exact mK
 · intro i hi
   by_cases hlt : i < l.length
   · have e1 : decide ((i : Int) < (l.length : Int)) = true := dtO
     have hn := nth_map_lt Link.av l i hlt
     have hw := wN i
     have c1 := ksame1_c l[i]
     generalize l[i] = x at hn c1
     have ff := And.intro e1 (And.intro hn hw)
     refine mW ?_
     refine ⟨i + 1, hlt, by omega, ?_⟩
     exact mK
   · have e1 : decide ((i : Int) < (l.length : Int)) = false := dfO
     have ff := e1
     exact mX
theorem esame_c (e : Eng) (he : e.few) : Cal Tryz.prog 21 [e.av, e.av] (.bool true) := by
 have c1 := tsame_c e.t e.t (by have := he.t; omega)
 have c2 := uequal_c e.b e.b (by have := he.b; omega)
 have d3 := lequal_c e.vl e.vl (by have := he.vl; omega)
 have c4 := wsame_c e.w e.w (by have := he.w; omega)
 have d5 := asame_c e.late (by have := he.late; omega)
 have d6 := ksame_c e.k (by have := he.k; omega)
 have c7 := jequal_c e.j e.j (by have := he.j; omega)
 have t1 : decide (e.t = e.t) = true := decide_eq_true rfl
 have t2 : decide (e.b = e.b) = true := decide_eq_true rfl
 have t3 : decide (e.vl = e.vl) = true := decide_eq_true rfl
 have t4 : decide (e.w = e.w) = true := decide_eq_true rfl
 have t7 : decide (e.j = e.j) = true := decide_eq_true rfl
 rw [t1] at c1
 rw [t2] at c2
 rw [t3] at d3
 rw [t4] at c4
 rw [t7] at c7
 have c3 : Cal Tryz.prog 43 [vav e.vl e.o, vav e.vl e.o] (.bool true) := by
  have c1 := d3
  have h : decide (e.o = e.o) = true := decide_eq_true rfl
  have ff := h
  have hR : Tryz.f43.results.toList = [.tmp 4] := rfl
  refine cal_tr Tryz.func43 rfl fun E hE hP => ?_
  exact mX
 have c5 : Cal Tryz.prog 45 [atts e.late, atts e.late] (.bool true) := by
  have c1 := d5
  have hR : Tryz.f45.results.toList = [.tmp 4] := rfl
  refine cal_tr Tryz.func45 rfl fun E hE hP => ?_
  exact mX
 have c6 : Cal Tryz.prog 46 [links e.k, links e.k] (.bool true) := by
  have c1 := d6
  have hR : Tryz.f46.results.toList = [.tmp 4] := rfl
  refine cal_tr Tryz.func46 rfl fun E hE hP => ?_
  exact mX
 have h1 : decide (e.fin = e.fin) = true := decide_eq_true rfl
 have h2 : decide (e.now = e.now) = true := decide_eq_true rfl
 have ff := And.intro h1 h2
 have hR : Tryz.f21.results.toList = [.tmp 4] := rfl
 refine cal_tr Tryz.func21 rfl fun E hE hP => ?_
 exact mX
@[go_sem] theorem und94 : Tryz.prog.underlying 148 = some (.slice 34) := Tryz.underlying148
@[go_sem] theorem und9 : Tryz.prog.underlying 9 = some .string := Tryz.underlying9
@[go_sem] theorem tElem94 : tElem Tryz.prog 148 = some 34 := by kernel_rfl
theorem tField68_0 : tFieldI Tryz.prog 217 0 = some (0, 1, false) := by kernel_rfl
@[go_sem] theorem fap68_0 (o : Nat) (p : List Nat) (off : Nat) (K : AV → Prop) : fieldAddrK Tryz.prog 217 (.ptr o p off) 0 K = K (.ptr o (p ++ [0]) (off + 0)) := fieldAddr_ptr tField68_0 (by decide) o p off K
@[go_sem] theorem tZero68 : tZero Tryz.prog 217 = some (.st [.sl [] true]) := by kernel_rfl
@[go_sem] theorem build68_sl (xs : List AV) (c : Bool) (K : AV → Prop) : buildK Tryz.prog 217 [(0, .sl xs c)] K = K (.st [.sl xs c]) := build_struct Tryz.underlying217 tZero68 rfl kR rfl K
theorem slice_hi31 {l : List UInt8} {k : Nat} {n : Int} {K : AV → Prop} (hn : n = (k : Int)) (hk : k ≤ l.length) (h : K (.sl ((l.take k).map bav) false)) : sliceK Tryz.prog 41 (.sl (l.map bav) false) none (some (.int .i64 n)) none K := by
 subst hn
 refine sliceK_hi tElem31 (by rw [tSize5]; rfl) (size_bav l) (by simpa using hk) ?_
 rw [Bool.false_and, ← List.map_take]; exact h
theorem slice_lo31 {l : List UInt8} {k : Nat} {n : Int} {K : AV → Prop} (hn : n = (k : Int)) (hk : k ≤ l.length) (h : K (.sl ((l.drop k).map bav) false)) : sliceK Tryz.prog 41 (.sl (l.map bav) false) (some (.int .i64 n)) none none K := by
 subst hn
 refine sliceK_lo tElem31 (by rw [tSize5]; rfl) (size_bav l) (by simpa using hk) ?_
 rw [← List.map_drop]; exact h
def rd (l : List UInt8) : AV := .st [.sl (l.map bav) false]
@[go_sem] theorem rd_ren (ρ : Nat → Nat) (l : List UInt8) : (rd l).ren ρ = rd l := rfl
@[go_sem] theorem rd_sub (l : List UInt8) : (rd l).sub [0] = some (.sl (l.map bav) false) := rfl
@[go_sem] theorem rd_offs (l : List UInt8) : (rd l).offs [0] = some 0 := rfl
@[go_sem] theorem rd_upd (l m : List UInt8) : (rd l).upd [0] (.sl (m.map bav) false) = some (rd m) := rfl
@[go_sem] theorem rd_ok (l : List UInt8) : (rd l).ok = true := rfl
def ostep (n : Int) (b : UInt8) : Int := bitsI .or .u64 (IntKind.u64.wrap (n * 2 ^ min (8 : Int).toNat IntKind.u64.bits)) (IntKind.u64.wrap b.toNat)
def numOf (bs : List UInt8) : Int := bs.foldl ostep 0
theorem numOf_next {bs : List UInt8} {i : Nat} {b : UInt8} (h : i < bs.length) (hb : bs[i] = b) : numOf (bs.take (i + 1)) = ostep (numOf (bs.take i)) b := by
 rw [take_next h hb, numOf, List.foldl_append]; rfl
def st45 (l bs : List UInt8) (i : Nat) : S where
 fr := [(12, .int .i64 i), (3, .int .u64 (numOf (bs.take i))), (0, .ptr 0 [] 0), (10, .sl (bs.map bav) false), (11, .int .i64 8)]
 hp := [(0, .var (rd l))]
 nx := 1
set_option maxRecDepth 4000 in
theorem number_eff (l : List UInt8) (h8 : 8 ≤ l.length) : Eff Tryz.prog 183 [.ptr 0 [] 0] 1 [(0, .var (rd l))] (.int .u64 (numOf (l.take 8))) [(0, .var (rd (l.drop 8)))] := by
 have hbl : (l.take 8).length = 8 := by simp; omega
 refine eff_of_tr Tryz.func183 rfl nb (by first | rfl | (simp only [AV.idsB, AV.idsBL, Bool.and_true, Bool.true_and] <;> rfl)) fun E hE hP => ?_
 refine mSr ?_
 refine mO ?_
 refine vc_nil ?_
 refine mSr ?_
 refine mO ?_
 refine vc_nil ?_
 refine Tr.seq ?_
 first | apply tr_m xE | (refine Tr.seq ?_; apply tr_m xE)
 intro Q hQ
 refine mS ?_
 iterate 4 refine mV ?_
 refine vm_op ?_; intro r hr; simp only [go_sem, seval]
 refine slice_hi31 (k := 8) rfl h8 ?_
 subst hr
 iterate 2 refine mV ?_
 rw [hbl]
 exact hQ
 refine Tr.block ?_
 refine Tr.loop (st45 l (l.take 8)) (fun i => i ≤ 8) (fun i => 8 - i) 0 (Nat.zero_le _) ?_ ?_
 · exact mK
 · intro i hi
   unfold st45
   refine mSr ?_
   refine mO ?_
   refine vc_nil ?_
   refine Tr.seq (Tr.cond rfl (fun h1 => ?_) (fun h1 => ?_))
   · refine mT ?_
     have hlt : i < 8 := by have := of_decide_eq_true h1; omega
     have hlt' : i < (l.take 8).length := by omega
     have ha := nth_map_lt bav (l.take 8) i hlt'
     have hnx := numOf_next hlt' rfl
     generalize (l.take 8)[i] = b at ha hnx
     have hw := wN i
     refine Tr.seq ?_
     refine Tr.block ?_
     refine mSr ?_
     repeat (refine vc_op rfl ?_; simp only [ha, bav, go_sem, seval])
     refine vc_nil ?_
     refine mRd ?_
     refine mU ?_
     refine tr_region xE ?_
     repeat (refine vc_op rfl ?_; simp only [hw, go_sem, seval])
     refine vc_nil ?_
     refine mU ?_
     refine ⟨i + 1, by omega, by omega, ?_⟩
     rw [hnx]
     exact mK
   · refine Tr.exit ?_
     refine mU ?_
     have hil : i = 8 := by
      have := of_decide_eq_false h1
      omega
     subst hil
     have htt : (l.take 8).take 8 = l.take 8 := by rw [List.take_take]; rfl
     rw [htt]
     first | apply tr_m xE | (refine Tr.seq ?_; apply tr_m xE)
     intro Q hQ
     refine mS ?_
     iterate 5 refine mV ?_
     refine vm_op ?_; intro r hr; simp only [go_sem, seval]
     refine slice_lo31 (k := 8) rfl h8 ?_
     subst hr
     iterate 3 refine mV ?_
     exact hQ
     refine mSr ?_
     refine mO ?_
     refine vc_nil ?_
     refine Tr.ret ?_
     simp only [Tryz.f183, go_sem, seval]
     exact ⟨fun n => n, ⟨⟨rfl, rfl, rfl⟩, trivial⟩, rfl, fun _ _ => rfl⟩
def rootOf (l : List UInt8) : Root := if h : 32 ≤ l.length then ⟨l.take 32, by simp; omega⟩ else zroot
theorem rootOf_map {l : List UInt8} (h : 32 ≤ l.length) : (l.map bav).take 32 = (rootOf l).1.map fun b => .int .u8 b.toNat := by
 rw [← List.map_take, rootOf, dif_pos h]
 rfl
set_option maxRecDepth 4000 in
theorem root_eff (l : List UInt8) (h32 : 32 ≤ l.length) : Eff Tryz.prog 182 [.ptr 0 [] 0] 1 [(0, .var (rd l))] (.root (rootOf l)) [(0, .var (rd (l.drop 32)))] := by
 refine eff_of_tr Tryz.func182 rfl nb (by first | rfl | (simp only [AV.idsB, AV.idsBL, Bool.and_true, Bool.true_and] <;> rfl)) fun E hE hP => ?_
 refine mSr ?_
 refine mO ?_
 refine vc_nil ?_
 refine mSr ?_
 refine mO ?_
 refine vc_nil ?_
 refine tr_seq_drawn mixed [0, 17] rfl xE kR ?_
 iterate 5 refine vP ?_
 refine vd_w rfl rfl kR ?_; simp only [copyK, go_sem, seval]
 refine ⟨by simpa using h32, rootOf l, rootOf_map h32, ?_⟩
 refine vP ?_
 refine vd_nil ?_
 first | apply tr_m xE | (refine Tr.seq ?_; apply tr_m xE)
 intro Q hQ
 refine mS ?_
 iterate 6 refine mV ?_
 refine vm_op ?_; intro r hr; simp only [go_sem, seval]
 refine slice_lo31 (k := 32) rfl h32 ?_
 subst hr
 iterate 3 refine mV ?_
 exact hQ
 refine mSr ?_
 refine mO ?_
 refine vc_nil ?_
 refine Tr.ret ?_
 simp only [Tryz.f182, go_sem, seval]
 exact ⟨fun n => n, ⟨⟨rfl, rfl, rfl⟩, trivial⟩, rfl, fun _ _ => rfl⟩
def checkOf (l : List UInt8) : Check := ⟨numOf (l.take 8), rootOf (l.drop 8)⟩
set_option maxRecDepth 4000 in
theorem check_eff (l : List UInt8) (h40 : 40 ≤ l.length) : Eff Tryz.prog 185 [.ptr 0 [] 0] 1 [(0, .var (rd l))] (checkOf l).av [(0, .var (rd (l.drop 40)))] := by
 refine eff_of_tr Tryz.func185 rfl nb (by first | rfl | (simp only [AV.idsB, AV.idsBL, Bool.and_true, Bool.true_and] <;> rfl)) fun E hE hP => ?_
 refine mSr ?_
 refine mO ?_
 refine vc_nil ?_
 first | apply tr_m xE | (refine Tr.seq ?_; apply tr_m xE)
 intro Q hQ
 refine mS ?_
 refine mV ?_
 refine vm_op ?_; intro r hr; simp only [go_sem, seval]
 refine call_eff (fun n => n) [false] [] rfl rfl rfl rfl (en Tryz.func183) (number_eff l (by omega)) rfl rfl mB rfl rfl rfl ?_
 refine mR ?_
 subst hr
 refine mV ?_
 exact hQ
 first | apply tr_m xE | (refine Tr.seq ?_; apply tr_m xE)
 intro Q hQ
 refine mS ?_
 iterate 2 refine mV ?_
 refine vm_op ?_; intro r hr; simp only [go_sem, seval]
 refine call_eff (fun n => n) [false] [] rfl rfl rfl rfl (en Tryz.func182) (root_eff (l.drop 8) (by simp; omega)) rfl rfl mB rfl rfl rfl ?_
 refine mR ?_
 subst hr
 iterate 2 refine mV ?_
 exact hQ
 refine Tr.ret ?_
 simp only [Tryz.f185, go_sem, seval]
 have hd : (l.drop 8).drop 32 = l.drop 40 := by rw [List.drop_drop]
 rw [hd]
 exact ⟨fun n => n, rfl, ⟨⟨rfl, rfl, rfl⟩, trivial⟩, rfl, fun _ _ => rfl⟩
def isOf (l : List UInt8) (n : Nat) (t : UInt8) : Bool := decide (l.length = n) && decide (l.head? = some t)
theorem u8_eq {a b : UInt8} : ((a.toNat : Int) = (b.toNat : Int)) ↔ a = b := by
 constructor
 · intro h; exact UInt8.toNat_inj.1 (by omega)
 · rintro rfl; rfl
theorem wis_c (l : List UInt8) (n : Nat) (hn : 0 < n) (t : UInt8) : Cal Tryz.prog 181 [.sl (l.map bav) false, .int .i64 n, .int .u8 t.toNat] (.bool (isOf l n t)) := by
 cases l with
 | nil =>
  have hf : decide ((0 : Int) = (n : Int)) = false := dfO
  have er : isOf [] n t = false := by simp [isOf]
  have ff := And.intro hf er
  have hR : Tryz.f181.results.toList = [.tmp 6] := rfl
  refine cal_tr Tryz.func181 rfl fun E hE hP => ?_
  exact mX
 | cons b bs =>
  cases hf : decide (((bs.length + 1 : Nat) : Int) = (n : Int)) with
  | false =>
   have er : isOf (b :: bs) n t = false := by
    have := of_decide_eq_false hf
    have h2 : decide ((b :: bs).length = n) = false := decide_eq_false (by simp only [List.length_cons]; omega)
    rw [isOf, h2, Bool.false_and]
   have ff := And.intro hf er
   have hR : Tryz.f181.results.toList = [.tmp 6] := rfl
   refine cal_tr Tryz.func181 rfl fun E hE hP => ?_
   exact mX
  | true =>
   have er : isOf (b :: bs) n t = decide ((b.toNat : Int) = (t.toNat : Int)) := by
    have := of_decide_eq_true hf
    have h2 : decide ((b :: bs).length = n) = true := decide_eq_true (by simp only [List.length_cons]; omega)
    rw [isOf, h2, Bool.true_and]
    simp [u8_eq]
   have h0 : nth (AV.int .u8 b.toNat :: bs.map bav) 0 = some (AV.int .u8 b.toNat) := rfl
   rw [er]
   have ff := And.intro hf h0
   have hR : Tryz.f181.results.toList = [.tmp 6] := rfl
   refine cal_tr Tryz.func181 rfl fun E hE hP => ?_
   exact mX
theorem wis_pure (l : List UInt8) (n : Nat) (hn : 0 < n) (t : UInt8) : Pure Tryz.prog 181 [.sl (l.map bav) false, .int .i64 n, .int .u8 t.toNat] (.bool (isOf l n t)) := (wis_c l n hn t).2
def blockOf (l : List UInt8) : Block := ⟨rootOf (l.drop 1), rootOf (l.drop 33), numOf ((l.drop 65).take 8), numOf ((l.drop 73).take 8)⟩
def blkR (l : List UInt8) : AV := .tup [(if isOf l 81 1 then blockOf l else zBlock).av, .bool (isOf l 81 1)]
@[go_sem] theorem build26_nil (K : AV → Prop) : buildK Tryz.prog 113 [] K = K zBlock.av := build_struct Tryz.underlying113 stZero68 rfl kR rfl K
@[go_sem] theorem build30_nil (K : AV → Prop) : buildK Tryz.prog 115 [] K = K zAtt.av := build_struct Tryz.underlying115 stZero127 rfl kR rfl K
@[go_sem] theorem build30_0 (v : Int) (K : AV → Prop) : buildK Tryz.prog 115 [(0, .int .i64 v)] K = K ({ zAtt with val := v } : Att).av := build_struct Tryz.underlying115 stZero127 rfl kR rfl K
set_option maxRecDepth 4000 in
theorem block_pure (l : List UInt8) : Pure Tryz.prog 116 [.sl (l.map bav) false] (blkR l) := by
 cases hi : isOf l 81 1 with
 | false =>
  refine pure_of_tr Tryz.func116 rfl nb rfl fun E hE hP => ?_
  refine mSr ?_
  refine mO ?_
  refine vc_nil ?_
  first | apply tr_m xE | (refine Tr.seq ?_; apply tr_m xE)
  intro Q hQ
  refine mS ?_
  refine mV ?_
  refine vm_op ?_; intro r hr; simp only [go_sem, seval]
  refine call_fn rfl rfl rfl rfl (en Tryz.func181) (wis_pure l 81 (by decide) 1) rfl rfl rfl ?_
  refine mS ?_
  subst hr
  refine vm_op ?_; intro r hr; simp only [hi, go_sem, seval]; subst hr
  exact hQ
  refine mYes ?_
  refine mSr ?_
  refine mO ?_
  refine vc_nil ?_
  refine Tr.ret ?_
  simp only [blkR, hi, Tryz.f116, go_sem, seval]
 | true =>
  have hl : l.length = 81 := by
   have h := hi
   rw [isOf, Bool.and_eq_true] at h
   exact of_decide_eq_true h.1
  refine pure_of_tr Tryz.func116 rfl nb rfl fun E hE hP => ?_
  refine mSr ?_
  refine mO ?_
  refine vc_nil ?_
  first | apply tr_m xE | (refine Tr.seq ?_; apply tr_m xE)
  intro Q hQ
  refine mS ?_
  refine mV ?_
  refine vm_op ?_; intro r hr; simp only [go_sem, seval]
  refine call_fn rfl rfl rfl rfl (en Tryz.func181) (wis_pure l 81 (by decide) 1) rfl rfl rfl ?_
  refine mS ?_
  subst hr
  refine vm_op ?_; intro r hr; simp only [hi, go_sem, seval]; subst hr
  exact hQ
  refine mNot ?_
  refine mT ?_
  first | apply tr_m xE | (refine Tr.seq ?_; apply tr_m xE)
  intro Q hQ
  refine mS ?_
  refine mV ?_
  refine vm_op ?_; intro r hr; simp only [go_sem, seval]
  refine slice_lo31 (k := 1) rfl (by omega) ?_
  subst hr
  iterate 3 refine mV ?_
  exact hQ
  refine mSr ?_
  refine mO ?_
  refine vc_nil ?_
  first | apply tr_m xE | (refine Tr.seq ?_; apply tr_m xE)
  intro Q hQ
  refine mS ?_
  refine mV ?_
  refine vm_op ?_; intro r hr; simp only [go_sem, seval]
  refine call_eff (fun _ => 128) [false] [] rfl rfl rfl rfl (en Tryz.func182) (root_eff (l.drop 1) (by simp; omega)) rfl rfl mB rfl rfl rfl ?_
  refine mR ?_
  subst hr
  refine mV ?_
  refine vm_op ?_; intro r hr; simp only [go_sem, seval]
  refine call_eff (fun _ => 128) [false] [] rfl rfl rfl rfl (en Tryz.func182) (root_eff ((l.drop 1).drop 32) (by simp; omega)) rfl rfl mB rfl rfl rfl ?_
  refine mR ?_
  subst hr
  iterate 4 refine mV ?_
  exact hQ
  first | apply tr_m xE | (refine Tr.seq ?_; apply tr_m xE)
  intro Q hQ
  refine mS ?_
  refine mV ?_
  refine vm_op ?_; intro r hr; simp only [go_sem, seval]
  refine call_eff (fun _ => 128) [false] [] rfl rfl rfl rfl (en Tryz.func183) (number_eff (((l.drop 1).drop 32).drop 32) (by simp; omega)) rfl rfl mB rfl rfl rfl ?_
  refine mR ?_
  subst hr
  refine mV ?_
  refine vm_op ?_; intro r hr; simp only [go_sem, seval]
  refine call_eff (fun _ => 128) [false] [] rfl rfl rfl rfl (en Tryz.func183) (number_eff ((((l.drop 1).drop 32).drop 32).drop 8) (by simp; omega)) rfl rfl mB rfl rfl rfl ?_
  refine mR ?_
  subst hr
  iterate 4 refine mV ?_
  exact hQ
  refine mSr ?_
  refine mO ?_
  refine vc_nil ?_
  refine Tr.ret ?_
  simp only [blkR, hi, List.drop_drop, blockOf, Tryz.f116, go_sem, seval]
theorem nth_getD (l : List UInt8) (k : Nat) (h : k < l.length) : nth (l.map bav) (k : Int) = some (bav (l.getD k 0)) := by
 rw [nth_map_lt bav l k h, List.getD_eq_getElem?_getD, List.getElem?_eq_getElem h]; rfl
def valOf (l : List UInt8) : Int := bitsI .or .i64 (IntKind.i64.wrap (IntKind.i64.wrap ((l.getD 1 0).toNat : Int) * 2 ^ min (Int.toNat 8) 64)) (IntKind.i64.wrap ((l.getD 2 0).toNat : Int))
def attOf (l : List UInt8) : Att := ⟨valOf l, numOf ((l.drop 3).take 8), rootOf (l.drop 11), checkOf (l.drop 43), checkOf (l.drop 83)⟩
def attR (l : List UInt8) : AV := .tup [(if isOf l 123 2 then attOf l else zAtt).av, .bool (isOf l 123 2)]
set_option maxRecDepth 4000 in
theorem att_pure (l : List UInt8) : Pure Tryz.prog 118 [.sl (l.map bav) false] (attR l) := by
 cases hi : isOf l 123 2 with
 | false =>
  refine pure_of_tr Tryz.func118 rfl nb rfl fun E hE hP => ?_
  refine mSr ?_
  refine mO ?_
  refine vc_nil ?_
  first | apply tr_m xE | (refine Tr.seq ?_; apply tr_m xE)
  intro Q hQ
  refine mS ?_
  refine mV ?_
  refine vm_op ?_; intro r hr; simp only [go_sem, seval]
  refine call_fn rfl rfl rfl rfl (en Tryz.func181) (wis_pure l 123 (by decide) 2) rfl rfl rfl ?_
  refine mS ?_
  subst hr
  refine vm_op ?_; intro r hr; simp only [hi, go_sem, seval]; subst hr
  exact hQ
  refine mYes ?_
  refine mSr ?_
  refine mO ?_
  refine vc_nil ?_
  refine Tr.ret ?_
  simp only [attR, hi, Tryz.f118, go_sem, seval]
 | true =>
  have hl : l.length = 123 := by
   have h := hi
   rw [isOf, Bool.and_eq_true] at h
   exact of_decide_eq_true h.1
  have h1 : nth (l.map bav) 1 = some (bav (l.getD 1 0)) := nth_getD l 1 (by omega)
  have h2 : nth (l.map bav) 2 = some (bav (l.getD 2 0)) := nth_getD l 2 (by omega)
  refine pure_of_tr Tryz.func118 rfl nb rfl fun E hE hP => ?_
  refine mSr ?_
  refine mO ?_
  refine vc_nil ?_
  first | apply tr_m xE | (refine Tr.seq ?_; apply tr_m xE)
  intro Q hQ
  refine mS ?_
  refine mV ?_
  refine vm_op ?_; intro r hr; simp only [go_sem, seval]
  refine call_fn rfl rfl rfl rfl (en Tryz.func181) (wis_pure l 123 (by decide) 2) rfl rfl rfl ?_
  refine mS ?_
  subst hr
  refine vm_op ?_; intro r hr; simp only [hi, go_sem, seval]; subst hr
  exact hQ
  refine mNot ?_
  refine mT ?_
  first | apply tr_m xE | (refine Tr.seq ?_; apply tr_m xE)
  intro Q hQ
  refine mS ?_
  refine mV ?_
  refine vm_op ?_; intro r hr; simp only [go_sem, seval]
  refine slice_lo31 (k := 3) rfl (by omega) ?_
  subst hr
  iterate 3 refine mV ?_
  exact hQ
  refine tr_seq_drawn mixed [0] rfl xE kR ?_
  refine vd_q rfl rfl ?_; simp only [h1, h2, bav, go_sem, seval]
  refine vd_q rfl rfl ?_; simp only [h1, h2, bav, go_sem, seval]
  refine vd_q rfl rfl ?_; simp only [h1, h2, bav, go_sem, seval]
  refine vd_q rfl rfl ?_; simp only [h1, h2, bav, go_sem, seval]
  refine vd_q rfl rfl ?_; simp only [h1, h2, bav, go_sem, seval]
  refine vd_q rfl rfl ?_; simp only [h1, h2, bav, go_sem, seval]
  refine vd_q rfl rfl ?_; simp only [h1, h2, bav, go_sem, seval]
  refine vd_q rfl rfl ?_; simp only [h1, h2, bav, go_sem, seval]
  refine vd_q rfl rfl ?_; simp only [h1, h2, bav, go_sem, seval]
  refine vd_q rfl rfl ?_; simp only [h1, h2, bav, go_sem, seval]
  refine vd_q rfl rfl ?_; simp only [h1, h2, bav, go_sem, seval]
  refine vd_x rfl rfl ?_; simp only [go_sem, seval]
  refine vd_x rfl rfl ?_; simp only [go_sem, seval]
  refine vd_nil ?_
  first | apply tr_m xE | (refine Tr.seq ?_; apply tr_m xE)
  intro Q hQ
  refine mS ?_
  refine mV ?_
  refine vm_op ?_; intro r hr; simp only [go_sem, seval]
  refine call_eff (fun _ => 128) [false] [] rfl rfl rfl rfl (en Tryz.func183) (number_eff (l.drop 3) (by simp; omega)) rfl rfl mB rfl rfl rfl ?_
  refine mR ?_
  subst hr
  iterate 2 refine mV ?_
  exact hQ
  first | apply tr_m xE | (refine Tr.seq ?_; apply tr_m xE)
  intro Q hQ
  refine mS ?_
  refine mV ?_
  refine vm_op ?_; intro r hr; simp only [go_sem, seval]
  refine call_eff (fun _ => 128) [false] [] rfl rfl rfl rfl (en Tryz.func182) (root_eff ((l.drop 3).drop 8) (by simp; omega)) rfl rfl mB rfl rfl rfl ?_
  refine mR ?_
  subst hr
  iterate 2 refine mV ?_
  exact hQ
  first | apply tr_m xE | (refine Tr.seq ?_; apply tr_m xE)
  intro Q hQ
  refine mS ?_
  refine mV ?_
  refine vm_op ?_; intro r hr; simp only [go_sem, seval]
  refine call_eff (fun _ => 128) [false] [] rfl rfl rfl rfl (en Tryz.func185) (check_eff (((l.drop 3).drop 8).drop 32) (by simp; omega)) rfl rfl mB rfl rfl rfl ?_
  refine mR ?_
  subst hr
  refine mV ?_
  refine vm_op ?_; intro r hr; simp only [go_sem, seval]
  refine call_eff (fun _ => 128) [false] [] rfl rfl rfl rfl (en Tryz.func185) (check_eff ((((l.drop 3).drop 8).drop 32).drop 40) (by simp; omega)) rfl rfl mB rfl rfl rfl ?_
  refine mR ?_
  subst hr
  iterate 4 refine mV ?_
  exact hQ
  refine mSr ?_
  refine mO ?_
  refine vc_nil ?_
  refine Tr.ret ?_
  simp only [attR, hi, List.drop_drop, attOf, Tryz.f118, go_sem, seval]
  rfl
@[go_sem] theorem undG94 : Tryz.prog.underlying 148 = some (.slice 34) := Tryz.underlying148
def rb (r : Root) : List AV := r.1.map fun b => .int .u8 b.toNat
@[go_sem] theorem build34_0 (K : AV → Prop) : buildK Tryz.prog 34 [] K = K (.root zroot) := by
  simp [buildK, Tryz.underlying34, tZero23, tSize5]
theorem bool_eqb (a b : Bool) : (AV.bool a).eqb (.bool b) = decide (a = b) := by cases a <;> cases b <;> rfl
theorem fits4 (a : Bool) : fits Tryz.prog (.bool a) 4 = true := by kernel_rfl
@[go_sem] theorem bneq4 (a b : Bool) (K : AV → Prop) : binK Tryz.prog .neq 4 (.bool a) (.bool b) K = K (.bool !(decide (a = b))) :=
  bin_neq_of (fun _ _ h => by cases h) (fun _ h => by cases h) (fits4 a) (fits4 b) nb kR (bool_eqb a b) K
theorem raw_ok (e : Eng) (b b2 : Block) (a : Att) (c : Ask) (t : List Node) (hr : blkR c.vals = .tup [b2.av, .bool true]) (y1 : CalE Tryz.prog 117 [.ptr 0 [] 0] 2 (workH e b2 a c) (.int .i64 0) (workO e t b2 a c)) : CalE Tryz.prog 62 [.ptr 0 [] 0] 2 (workH e b a c) (.int .i64 0) (workO e t b2 a c) := by
 have c1 : Cal Tryz.prog 116 [.sl (c.vals.map bav) false] (.tup [b2.av, .bool true]) := by
  rw [← hr]
  exact And.intro (en Tryz.func116) (block_pure c.vals)
 unfold workH workO at y1 ⊢
 have hR : Tryz.f62.results.toList = [.tmp 2] := rfl
 refine calE_tr Tryz.func62 rfl fun E hE hP => ?_
 refine mW ?_
 refine Tr.ret ?_
 simp only [hR, go_sem, seval]
 exact ⟨fun | 2 => 338 | n => n, mB, rfl, fun o ho => by rcases o with _ | _ | _ <;> first | rfl | omega⟩
theorem do_raw (e : Eng) (b b2 : Block) (a : Att) (c : Ask) (t : List Node) (he : e.few) (ho : e.ok) (hm : mayE e = true)
 (y : CalE Tryz.prog 62 [.ptr 0 [] 0] 2 (workH e b a c) (.int .i64 0) (workO e t b2 a c)) : CalT Tryz.prog 0 tabV 67 [workA e b a c, .fn (.func 62) [] []] (.tup [(Eng.mk t e.b e.vl e.o (e.w ++ [0]) e.late e.k e.j e.fin e.now).av, .int .i64 0]) := by
 have x1 := may_t e he ho
 rw [hm] at x1
 have o1 := own_o e he
 unfold workH workO at y
 unfold ownV ownH at o1
 have hR : Tryz.f67.results.toList = [.cell 4 38, .tmp 5] := rfl
 refine calE_tr Tryz.func67 rfl fun E hE hP => ?_
 refine mr ?_
 refine mr ?_
 refine mr ?_
 refine Tr.wk (Wk.frzH [145, 146, 147, 149, 150, 151]) ?_
 refine mFz ?_
 refine mr ?_
 refine mC ?_
 refine mC ?_
 first | apply tr_m xE | (refine Tr.seq ?_; apply tr_m xE)
 intro Q hQ
 refine mS ?_
 refine mV ?_
 refine vm_op ?_; intro r hr; simp only [go_sem, seval]
 refine call_eff (fun | 0 => 1 | 1 => 148 | n => n) [false] [] rfl rfl rfl rfl (en Tryz.func62) (y.2) rfl rfl mB rfl rfl rfl ?_
 refine mR ?_
 subst hr
 refine mV ?_
 exact hQ
 refine mW ?_
 have hlen : (List.map uav (e.w ++ [0])).length = e.w.length + 1 := by rw [List.length_map, List.length_append]; rfl
 refine Tr.wk (Wk.frzH [257]) ?_
 simp only [frzHP, frzA, AV.frz, AV.frzL, List.map_cons, List.map_nil, hlen, go_sem, seval]
 exact mX
@[go_sem] theorem tZero132 : tZero Tryz.prog 109 = some (.arr [.nilf, .nilf, .nilf, .nilf]) := by kernel_rfl
@[go_sem] theorem tArr132 : tArr Tryz.prog 109 = some (4, 106) := by kernel_rfl
theorem tSize113 : tSize Tryz.prog 106 = some 1 := by kernel_rfl
@[go_sem] theorem build132 (a b c d : Nat) (K : AV → Prop) : buildK Tryz.prog 109 [(0, .fn (.func a) [] []), (1, .fn (.func b) [] []), (2, .fn (.func c) [] []), (3, .fn (.func d) [] [])] K = K (.arr [.fn (.func a) [] [], .fn (.func b) [] [], .fn (.func c) [] [], .fn (.func d) [] []]) := by
  unfold buildK
  rw [Tryz.underlying109, tZero132]
  simp [setParts, tSize113, AV.len, AV.agg, AV.ok]
theorem Do_0 (e f : Eng) (i : Int) (c : Ask) (hk : c.kind = 0) (x1 : CalT Tryz.prog 0 tabV 67 [workA e zBlock zAtt c, .fn (.func 62) [] []] (.tup [f.av, .int .i64 i])) : CalT Tryz.prog 0 tabV 26 [e.av, c.av] (.tup [f.av, .int .i64 i]) := by
 obtain ⟨k, v, a, b, s⟩ := c
 simp only at hk
 subst hk
 have hR : Tryz.f26.results.toList = [.cell 4 38, .tmp 5] := rfl
 refine calE_tr Tryz.func26 rfl fun E hE hP => ?_
 refine mW ?_
 first | apply tr_md mixed [81, 17, 1] rfl xE kR | (refine Tr.seq ?_; apply tr_md mixed [81, 17, 1] rfl xE kR)
 intro Q hQ
 refine mS ?_
 iterate 7 refine mQ ?_
 refine vd2_x rfl ?_; intro r hr; simp only [go_sem, seval]
 refine call_eff (fun n => n) [true, true] [] rfl rfl rfl rfl (en Tryz.func67) (x1.2) rfl rfl mB rfl rfl rfl ?_
 refine mR ?_
 subst hr
 iterate 2 refine mQ ?_
 refine vd2_x rfl ?_; intro r hr; simp only [go_sem, seval]; subst hr
 refine mQ ?_
 exact hQ
 exact mX
@[go_sem] theorem build34_2 (K : AV → Prop) : buildK Tryz.prog 34 [(0, .int .u8 2)] K = K (.root (rootN 2)) := build34 2 (by decide) (by decide) K
@[go_sem] theorem build58_012 (r q : Root) (s : Int) (K : AV → Prop) : buildK Tryz.prog 113 [(0, .root r), (1, .root q), (2, .int .u64 s)] K = K (Block.mk r q s 0).av := build_struct Tryz.underlying113 stZero68 rfl kR rfl K
theorem findI_root {t : List Node} {r : Root} (h : 0 ≤ findI t r) : (t.getD (findI t r).toNat zNode).root = r := by
 unfold findI at h ⊢
 cases hf : t.findIdx? (isR r) with
 | none => rw [hf] at h; simp only at h; omega
 | some i =>
  simp only [Int.toNat_natCast]
  obtain ⟨hi, hr, _⟩ := List.findIdx?_eq_some_iff_getElem.1 hf
  rw [getD_lt hi]
  exact of_decide_eq_true hr
theorem find_root {t : List Node} {r : Root} (h : 0 ≤ findR t r) : (t.getD (findR t r).toNat zNode).root = r := by
 unfold findR at h ⊢
 split at h
 · rename_i hm
   rw [if_pos hm]
   exact findI_root h
 · omega
def fewE (e : Eng) : Bool := decide (e.t.length ≤ 16) && (decide (e.b.length ≤ 12) && (decide (e.vl.length ≤ 12) && (decide (e.w.length ≤ 16) && (decide (e.late.length ≤ 10) && (decide (e.k.length ≤ 20) && (decide (e.j.length ≤ 24)))))))
theorem fewE_few {e : Eng} (h : fewE e = true) : e.few := by
 simp only [fewE, Bool.and_eq_true, decide_eq_true_eq] at h
 exact ⟨by omega, by omega, by omega, by omega, by omega, by omega, by omega⟩
theorem few_c (e : Eng) : Cal Tryz.prog 10 [e.av] (.bool (fewE e)) := by
 by_cases h0 : e.t.length ≤ 16
 · have e0 : decide ((e.t.length : Int) ≤ 16) = true := dtO
   by_cases h1 : e.b.length ≤ 12
   · have e1 : decide ((e.b.length : Int) ≤ 12) = true := dtO
     by_cases h2 : e.vl.length ≤ 12
     · have e2 : decide ((e.vl.length : Int) ≤ 12) = true := dtO
       by_cases h3 : e.w.length ≤ 16
       · have e3 : decide ((e.w.length : Int) ≤ 16) = true := dtO
         by_cases h4 : e.late.length ≤ 10
         · have e4 : decide ((e.late.length : Int) ≤ 10) = true := dtO
           by_cases h5 : e.k.length ≤ 20
           · have e5 : decide ((e.k.length : Int) ≤ 20) = true := dtO
             by_cases h6 : e.j.length ≤ 24
             · have e6 : decide ((e.j.length : Int) ≤ 24) = true := dtO
               have er : fewE e = true := by simp [fewE, h0, h1, h2, h3, h4, h5, h6]
               have ff := And.intro e0 (And.intro e1 (And.intro e2 (And.intro e3 (And.intro e4 (And.intro e5 (And.intro e6 er))))))
               have hR : Tryz.f10.results.toList = [.tmp 2] := rfl
               refine cal_tr Tryz.func10 rfl fun E hE hP => ?_
               exact mX
             · have e6 : decide ((e.j.length : Int) ≤ 24) = false := dfO
               have er : fewE e = false := by simp [fewE, h0, h1, h2, h3, h4, h5, h6]
               have ff := And.intro e0 (And.intro e1 (And.intro e2 (And.intro e3 (And.intro e4 (And.intro e5 (And.intro e6 er))))))
               have hR : Tryz.f10.results.toList = [.tmp 2] := rfl
               refine cal_tr Tryz.func10 rfl fun E hE hP => ?_
               exact mX
           · have e5 : decide ((e.k.length : Int) ≤ 20) = false := dfO
             have er : fewE e = false := by simp [fewE, h0, h1, h2, h3, h4, h5]
             have ff := And.intro e0 (And.intro e1 (And.intro e2 (And.intro e3 (And.intro e4 (And.intro e5 er)))))
             have hR : Tryz.f10.results.toList = [.tmp 2] := rfl
             refine cal_tr Tryz.func10 rfl fun E hE hP => ?_
             exact mX
         · have e4 : decide ((e.late.length : Int) ≤ 10) = false := dfO
           have er : fewE e = false := by simp [fewE, h0, h1, h2, h3, h4]
           have ff := And.intro e0 (And.intro e1 (And.intro e2 (And.intro e3 (And.intro e4 er))))
           have hR : Tryz.f10.results.toList = [.tmp 2] := rfl
           refine cal_tr Tryz.func10 rfl fun E hE hP => ?_
           exact mX
       · have e3 : decide ((e.w.length : Int) ≤ 16) = false := dfO
         have er : fewE e = false := by simp [fewE, h0, h1, h2, h3]
         have ff := And.intro e0 (And.intro e1 (And.intro e2 (And.intro e3 er)))
         have hR : Tryz.f10.results.toList = [.tmp 2] := rfl
         refine cal_tr Tryz.func10 rfl fun E hE hP => ?_
         exact mX
     · have e2 : decide ((e.vl.length : Int) ≤ 12) = false := dfO
       have er : fewE e = false := by simp [fewE, h0, h1, h2]
       have ff := And.intro e0 (And.intro e1 (And.intro e2 er))
       have hR : Tryz.f10.results.toList = [.tmp 2] := rfl
       refine cal_tr Tryz.func10 rfl fun E hE hP => ?_
       exact mX
   · have e1 : decide ((e.b.length : Int) ≤ 12) = false := dfO
     have er : fewE e = false := by simp [fewE, h0, h1]
     have ff := And.intro e0 (And.intro e1 er)
     have hR : Tryz.f10.results.toList = [.tmp 2] := rfl
     refine cal_tr Tryz.func10 rfl fun E hE hP => ?_
     exact mX
 · have e0 : decide ((e.t.length : Int) ≤ 16) = false := dfO
   have er : fewE e = false := by simp [fewE, h0]
   have ff := And.intro e0 er
   have hR : Tryz.f10.results.toList = [.tmp 2] := rfl
   refine cal_tr Tryz.func10 rfl fun E hE hP => ?_
   exact mX
@[go_sem] theorem beql4 (a b : Bool) (K : AV → Prop) : binK Tryz.prog .eql 4 (.bool a) (.bool b) K = K (.bool (decide (a = b))) :=
  bin_eql_of (fun _ _ h => by cases h) (fun _ h => by cases h) kR kR nb kR (by cases a <;> cases b <;> rfl) K
def lputR (l : List Att) (a : Att) : List Att × Int := if lmayA l = false ∨ isFar a = true then (l, 1) else if l.length = 6 then (l, 3) else (l ++ [a], 0)
theorem lput_no (l : List Att) (a : Att) (i : Int) (hl : l.length ≤ 100000) (h : (lmayA l = false ∨ isFar a = true) ∧ i = 1 ∨ (lmayA l = true ∧ isFar a = false ∧ l.length = 6) ∧ i = 3) : Cal Tryz.prog 186 [atts l, a.av] (.tup [atts l, .int .i64 i]) := by
 have o1 := aclone_c l hl
 have c1 := lmay_c l
 have c2 := far_c a
 rcases h with ⟨h, rfl⟩ | ⟨⟨h1, h2, h3⟩, rfl⟩
 · cases h1 : lmayA l
   · rw [h1] at c1
     have hR : Tryz.f186.results.toList = [.tmp 4, .tmp 5] := rfl
     refine cal_tr Tryz.func186 rfl fun E hE hP => ?_
     refine mr ?_
     refine mr ?_
     exact mX
   · rw [h1] at c1
     rw [h.resolve_left (by rw [h1]; decide)] at c2
     have hR : Tryz.f186.results.toList = [.tmp 4, .tmp 5] := rfl
     refine cal_tr Tryz.func186 rfl fun E hE hP => ?_
     refine mr ?_
     refine mr ?_
     exact mX
 · have e1 : decide ((l.length : Int) = 6) = true := dtO
   rw [h1] at c1
   rw [h2] at c2
   have ff := e1
   have hR : Tryz.f186.results.toList = [.tmp 4, .tmp 5] := rfl
   refine cal_tr Tryz.func186 rfl fun E hE hP => ?_
   refine mr ?_
   refine mr ?_
   exact mX
theorem lput_ok (l : List Att) (a : Att) (hl : l.length ≤ 100000) (h1 : lmayA l = true) (h2 : isFar a = false) (h3 : l.length ≠ 6) : Cal Tryz.prog 186 [atts l, a.av] (.tup [atts (l ++ [a]), .int .i64 0]) := by
 have o1 := aclone_c l hl
 have c1 := lmay_c l
 have c2 := far_c a
 have e1 : decide ((l.length : Int) = 6) = false := dfO
 rw [h1] at c1
 rw [h2] at c2
 have ff := e1
 have hma : List.map Att.av l ++ [a.av] = List.map Att.av (l ++ [a]) := by rw [List.map_append]; rfl
 have hlen : (List.map Att.av (l ++ [a])).length = l.length + 1 := by rw [List.length_map, List.length_append]; rfl
 have hR : Tryz.f186.results.toList = [.tmp 4, .tmp 5] := rfl
 refine cal_tr Tryz.func186 rfl fun E hE hP => ?_
 refine mW ?_
 refine Tr.ret ?_
 simp only [hR, hma, hlen, fB, go_sem, seval]
theorem lput_c (l : List Att) (a : Att) (hl : l.length ≤ 100000) : Cal Tryz.prog 186 [atts l, a.av] (.tup [atts (lputR l a).1, .int .i64 (lputR l a).2]) := by
 unfold lputR
 split
 · next h => exact lput_no l a 1 hl (.inl ⟨h, rfl⟩)
 · next h =>
   rw [not_or] at h
   split
   · next h3 => exact lput_no l a 3 hl (.inr ⟨⟨by simpa using h.1, by simpa using h.2, h3⟩, rfl⟩)
   · next h3 => exact lput_ok l a hl (by simpa using h.1) (by simpa using h.2) h3
theorem due1_c (a : Att) (n : Int) : Cal Tryz.prog 188 [a.av, .ref (.int .u64 n)] (.bool (decide (a.slot < n))) := by
 have hR : Tryz.f188.results.toList = [.tmp 3] := rfl
 refine cal_tr Tryz.func188 rfl fun E hE hP => ?_
 exact mX
def dueB (n : Int) (a : Att) : Bool := decide (a.slot < n)
def dueR (l : List Att) (n : Int) : List Att := l.filter (dueB n)
def restR (l : List Att) (n : Int) : List Att := l.filter fun a => !dueB n a
theorem filter_next {p : Att → Bool} {l : List Att} {i : Nat} (h : i < l.length) : (l.take (i + 1)).filter p = (l.take i).filter p ++ (if p l[i] then [l[i]] else []) := by
 rw [List.take_add_one, List.getElem?_eq_getElem h, Option.toList_some, List.filter_append]
 cases hp : p l[i] <;> simp [hp]
def aav (l : List Att) : List AV := l.map Att.av
@[go_sem] theorem aav_len (l : List Att) : (aav l).length = l.length := by simp [aav]
theorem aav_app (l k : List Att) : aav (l ++ k) = aav l ++ aav k := List.map_append
@[go_sem] theorem aav_lens (l : List Att) (n : Nat) : (∀ z ∈ aav l, z.len = n) = ∀ a ∈ l, 100 = n := by
  unfold aav
  rw [List.forall_mem_map]
  rfl
theorem part_c (l : List Att) (n : Int) (hl : l.length ≤ 100000) : Cal Tryz.prog 187 [atts l, .fn (.func 188) [] [.ref (.int .u64 n)]] (.tup [atts (dueR l n), atts (restR l n)]) := by
 have hR : Tryz.f187.results.toList = [.tmp 4, .tmp 5] := rfl
 refine cal_tr Tryz.func187 rfl fun E hE hP => ?_
 refine mW ?_
 refine Tr.wk (Wk.nil 6 100 rfl) ?_
 refine Tr.wk (Wk.nil 7 100 rfl) ?_
 refine Tr.loop (fun i : Nat => (⟨[(1, .fn (.func 188) [] [.ref (.int .u64 n)]), (6, .ms 0 100 (dueR (l.take i) n).length), (7, .ms 1 100 (restR (l.take i) n).length), (10, .sl (l.map Att.av) false), (11, .int .i64 l.length), (12, .int .i64 i)], [(0, .row 100 (aav (dueR (l.take i) n))), (1, .row 100 (aav (restR (l.take i) n)))], 2, []⟩ : S)) (fun i => i ≤ l.length) (fun i => l.length - i) 0 (Nat.zero_le _) ?_ ?_
 · refine wk_ren (fun | 0 => 112 | 1 => 113 | n => n) mB mB rfl rfl rfl
 · intro i hi
   have b1 : (dueR (l.take i) n).length ≤ 100000 := by
    have h1 := List.length_filter_le (dueB n) (l.take i)
    rw [List.length_take] at h1
    unfold dueR
    omega
   have b2 : (restR (l.take i) n).length ≤ 100000 := by
    have h1 := List.length_filter_le (fun a => !dueB n a) (l.take i)
    rw [List.length_take] at h1
    unfold restR
    omega
   by_cases hlt : i < l.length
   · have e1 : decide ((i : Int) < (l.length : Int)) = true := dtO
     have hn := nth_map_lt Att.av l i hlt
     have hw := wN i
     have c1 := due1_c l[i] n
     have n1 : dueR (l.take (i + 1)) n = dueR (l.take i) n ++ (if dueB n l[i] then [l[i]] else []) := filter_next hlt
     have n2 : restR (l.take (i + 1)) n = restR (l.take i) n ++ (if !dueB n l[i] then [l[i]] else []) := filter_next hlt
     have hd : dueB n l[i] = decide (l[i].slot < n) := rfl
     cases hb : dueB n l[i]
     · rw [hd] at hb
       rw [hb] at c1
       rw [hd, hb, if_neg (by decide), List.append_nil] at n1
       rw [hd, hb, if_pos (by decide)] at n2
       generalize dueR (l.take i) n = L at n1 b1
       generalize restR (l.take i) n = K at n2 b2
       generalize l[i] = a at hn c1 n2
       have ff := And.intro e1 (And.intro hn hw)
       refine mW ?_
       refine ⟨i + 1, hlt, by omega, ?_⟩
       rw [n1, n2, List.length_append, List.length_singleton, aav_app]
       refine wk_ren (fun | 1 => 178 | n => n) mB mB rfl rfl rfl
     · rw [hd] at hb
       rw [hb] at c1
       rw [hd, hb, if_pos (by decide)] at n1
       rw [hd, hb, if_neg (by decide), List.append_nil] at n2
       generalize dueR (l.take i) n = L at n1 b1
       generalize restR (l.take i) n = K at n2 b2
       generalize l[i] = a at hn c1 n1
       have ff := And.intro e1 (And.intro hn hw)
       refine mW ?_
       refine ⟨i + 1, hlt, by omega, ?_⟩
       rw [n1, n2, List.length_append, List.length_singleton, aav_app]
       refine wk_ren (fun | 0 => 178 | n => n) mB mB rfl rfl rfl
   · have e1 : decide ((i : Int) < (l.length : Int)) = false := dfO
     have hil : i = l.length := by omega
     subst hil
     rw [List.take_length] at b1 b2 ⊢
     generalize dueR l n = L at b1 ⊢
     generalize restR l n = K at b2 ⊢
     have ff := e1
     exact mX
theorem due_c (l : List Att) (n : Int) (hl : l.length ≤ 100000) : Cal Tryz.prog 120 [atts l, .int .u64 n] (.tup [atts (dueR l n), atts (restR l n)]) := by
 have c1 := part_c l n hl
 have hR : Tryz.f120.results.toList = [.tmp 4, .tmp 5] := rfl
 refine cal_tr Tryz.func120 rfl fun E hE hP => ?_
 exact mX
end Go.Proofs.YtekjdikofhdcpaaGreatDoor

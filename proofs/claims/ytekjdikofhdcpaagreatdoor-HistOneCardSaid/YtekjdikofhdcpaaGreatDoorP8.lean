/- Links: one more attests. -/
import Derived.Test.YtekjdikofhdcpaaGreatDoorP7
import Derived.Test.YtekjdikofhdcpaaGreatDoorAbFour
import Derived.Test.YtekjdikofhdcpaaGreatDoorP6
import Derived.Test.YtekjdikofhdcpaaGreatDoorP5
set_option linter.unusedSimpArgs false
set_option maxRecDepth 10000
namespace Go.Proofs.YtekjdikofhdcpaaGreatDoor
open Go Go.Ab
def orU (a b : Int) : Int := bitsI .or .u64 a b
def kputR (l : List Link) (s t : Check) (v : Int) : List Link × Int :=
 if lmayB l = false then (l, 1) else if v < 0 ∨ 8 ≤ v then (l, 10) else if t.epoch ≤ s.epoch then (l, 9) else
  match llook (places l) ⟨s, t⟩ with
  | some i => (l.set i { l.getD i zLink with mask := orU (l.getD i zLink).mask (bit v) }, 0)
  | none => if l.length = 16 then (l, 3) else (l ++ [⟨s, t, bit v⟩], 0)
theorem kput_1 (l : List Link) (s t : Check) (v : Int) (hl : l.length ≤ 10000) (h1 : lmayB l = false) : Cal Tryz.prog 189 [links l, s.av, t.av, .int .i64 v] (.tup [links l, .int .i64 1]) := by
 have o1 := kclone_c l (by omega)
 have c1 := And.intro (en Tryz.func101) (LMay_pure l)
 have o2 : CalO Tryz.prog 167 [.sl (l.map Link.av) false] (.mp 0) [(0, .amap ((places l).map lentE))] := And.intro (en Tryz.func167) (places_own l (by omega))
 have c2 := And.intro (en Tryz.func221) (bit_pure v)
 rw [h1] at c1
 have hR : Tryz.f189.results.toList = [.tmp 8, .tmp 9] := rfl
 refine cal_tr Tryz.func189 rfl fun E hE hP => ?_
 exact mX
theorem kput_10 (l : List Link) (s t : Check) (v : Int) (hl : l.length ≤ 10000) (h1 : lmayB l = true) (h2 : v < 0 ∨ 8 ≤ v) : Cal Tryz.prog 189 [links l, s.av, t.av, .int .i64 v] (.tup [links l, .int .i64 10]) := by
 have o1 := kclone_c l (by omega)
 have c1 := And.intro (en Tryz.func101) (LMay_pure l)
 have o2 : CalO Tryz.prog 167 [.sl (l.map Link.av) false] (.mp 0) [(0, .amap ((places l).map lentE))] := And.intro (en Tryz.func167) (places_own l (by omega))
 have c2 := And.intro (en Tryz.func221) (bit_pure v)
 rw [h1] at c1
 by_cases h0 : v < 0
 · have e0 : decide (v < 0) = true := decide_eq_true h0
   have ff := e0
   have hR : Tryz.f189.results.toList = [.tmp 8, .tmp 9] := rfl
   refine cal_tr Tryz.func189 rfl fun E hE hP => ?_
   exact mX
 · have e0 : decide (v < 0) = false := decide_eq_false h0
   have e1 : decide (8 ≤ v) = true := dtO
   have ff := And.intro e0 e1
   have hR : Tryz.f189.results.toList = [.tmp 8, .tmp 9] := rfl
   refine cal_tr Tryz.func189 rfl fun E hE hP => ?_
   exact mX
theorem kput_9 (l : List Link) (s t : Check) (v : Int) (hl : l.length ≤ 10000) (h1 : lmayB l = true) (h2 : ¬ (v < 0 ∨ 8 ≤ v)) (h3 : t.epoch ≤ s.epoch) : Cal Tryz.prog 189 [links l, s.av, t.av, .int .i64 v] (.tup [links l, .int .i64 9]) := by
 have o1 := kclone_c l (by omega)
 have c1 := And.intro (en Tryz.func101) (LMay_pure l)
 have o2 : CalO Tryz.prog 167 [.sl (l.map Link.av) false] (.mp 0) [(0, .amap ((places l).map lentE))] := And.intro (en Tryz.func167) (places_own l (by omega))
 have c2 := And.intro (en Tryz.func221) (bit_pure v)
 rw [h1] at c1
 have e0 : decide (v < 0) = false := dfO
 have e1 : decide (8 ≤ v) = false := dfO
 have e2 : decide (t.epoch ≤ s.epoch) = true := decide_eq_true h3
 have ff := And.intro e0 (And.intro e1 e2)
 have hR : Tryz.f189.results.toList = [.tmp 8, .tmp 9] := rfl
 refine cal_tr Tryz.func189 rfl fun E hE hP => ?_
 exact mX
theorem kput_3 (l : List Link) (s t : Check) (v : Int) (hl : l.length ≤ 10000) (h1 : lmayB l = true) (h2 : ¬ (v < 0 ∨ 8 ≤ v)) (h3 : ¬ t.epoch ≤ s.epoch) (hk : llook (places l) ⟨s, t⟩ = none) (h4 : l.length = 16) : Cal Tryz.prog 189 [links l, s.av, t.av, .int .i64 v] (.tup [links l, .int .i64 3]) := by
 have o1 := kclone_c l (by omega)
 have c1 := And.intro (en Tryz.func101) (LMay_pure l)
 have o2 : CalO Tryz.prog 167 [.sl (l.map Link.av) false] (.mp 0) [(0, .amap ((places l).map lentE))] := And.intro (en Tryz.func167) (places_own l (by omega))
 have c2 := And.intro (en Tryz.func221) (bit_pure v)
 rw [h1] at c1
 have e0 : decide (v < 0) = false := dfO
 have e1 : decide (8 ≤ v) = false := dfO
 have e2 : decide (t.epoch ≤ s.epoch) = false := decide_eq_false h3
 have e3 : decide ((l.length : Int) = 16) = true := dtO
 have ff := And.intro e0 (And.intro e1 (And.intro e2 e3))
 have hR : Tryz.f189.results.toList = [.tmp 8, .tmp 9] := rfl
 refine cal_tr Tryz.func189 rfl fun E hE hP => ?_
 refine mW ?_
 first | apply tr_md mixed _ (keepAll _) xE kR | (refine Tr.seq ?_; apply tr_md mixed _ (keepAll _) xE kR)
 intro Q hQ
 refine mS ?_
 (refine vd2_q rfl ?_); intro r hr; simp only [Option.getD_none, Option.isSome_none, go_sem, seval]; subst hr
 refine vd2_x rfl ?_; intro r hr; simp only [Option.getD_none, Option.isSome_none, go_sem, seval]
 refine call_own rfl rfl rfl rfl (en Tryz.func167) (o2.2) rfl rfl ?_
 refine mS ?_
 try simp only [Option.getD_none, Option.isSome_none, go_sem, seval]
 subst hr
 iterate 3 ((refine vd2_q rfl ?_); intro r hr; simp only [Option.getD_none, Option.isSome_none, go_sem, seval]; subst hr)
 refine vd2_x rfl ?_; intro r hr; simp only [Option.getD_none, Option.isSome_none, go_sem, seval]
 refine look64 rfl ?_; rw [hk]
 try simp only [Option.getD_none, Option.isSome_none, go_sem, seval]
 subst hr
 iterate 5 ((refine vd2_q rfl ?_); intro r hr; simp only [Option.getD_none, Option.isSome_none, go_sem, seval]; subst hr)
 exact hQ
 exact mX
theorem kput_0 (l : List Link) (s t : Check) (v : Int) (hl : l.length ≤ 10000) (h1 : lmayB l = true) (h2 : ¬ (v < 0 ∨ 8 ≤ v)) (h3 : ¬ t.epoch ≤ s.epoch) (hk : llook (places l) ⟨s, t⟩ = none) (h4 : l.length ≠ 16) : Cal Tryz.prog 189 [links l, s.av, t.av, .int .i64 v] (.tup [links (l ++ [⟨s, t, bit v⟩]), .int .i64 0]) := by
 have o1 := kclone_c l (by omega)
 have c1 := And.intro (en Tryz.func101) (LMay_pure l)
 have o2 : CalO Tryz.prog 167 [.sl (l.map Link.av) false] (.mp 0) [(0, .amap ((places l).map lentE))] := And.intro (en Tryz.func167) (places_own l (by omega))
 have c2 := And.intro (en Tryz.func221) (bit_pure v)
 rw [h1] at c1
 have e0 : decide (v < 0) = false := dfO
 have e1 : decide (8 ≤ v) = false := dfO
 have e2 : decide (t.epoch ≤ s.epoch) = false := decide_eq_false h3
 have e3 : decide ((l.length : Int) = 16) = false := dfO
 have ff := And.intro e0 (And.intro e1 (And.intro e2 e3))
 have hma : List.map Link.av l ++ [(Link.mk s t (bit v)).av] = List.map Link.av (l ++ [⟨s, t, bit v⟩]) := by rw [List.map_append]; rfl
 have hR : Tryz.f189.results.toList = [.tmp 8, .tmp 9] := rfl
 refine cal_tr Tryz.func189 rfl fun E hE hP => ?_
 refine mW ?_
 first | apply tr_md mixed _ (keepAll _) xE kR | (refine Tr.seq ?_; apply tr_md mixed _ (keepAll _) xE kR)
 intro Q hQ
 refine mS ?_
 (refine vd2_q rfl ?_); intro r hr; simp only [Option.getD_none, Option.isSome_none, go_sem, seval]; subst hr
 refine vd2_x rfl ?_; intro r hr; simp only [Option.getD_none, Option.isSome_none, go_sem, seval]
 refine call_own rfl rfl rfl rfl (en Tryz.func167) (o2.2) rfl rfl ?_
 refine mS ?_
 try simp only [Option.getD_none, Option.isSome_none, go_sem, seval]
 subst hr
 iterate 3 ((refine vd2_q rfl ?_); intro r hr; simp only [Option.getD_none, Option.isSome_none, go_sem, seval]; subst hr)
 refine vd2_x rfl ?_; intro r hr; simp only [Option.getD_none, Option.isSome_none, go_sem, seval]
 refine look64 rfl ?_; rw [hk]
 try simp only [Option.getD_none, Option.isSome_none, go_sem, seval]
 subst hr
 iterate 5 ((refine vd2_q rfl ?_); intro r hr; simp only [Option.getD_none, Option.isSome_none, go_sem, seval]; subst hr)
 exact hQ
 refine mW ?_
 first | refine tr_seq_drawn mixed [0, 16] rfl xE kR ?_ | (refine Tr.seq ?_; refine tr_seq_drawn mixed [0, 16] rfl xE kR ?_)
 iterate 4 refine vQ ?_
 refine vd_x rfl rfl ?_; simp only [fB, go_sem, seval]
 refine call_fn rfl rfl rfl rfl (en Tryz.func221) (c2.2) rfl rfl rfl ?_
 refine mS ?_
 iterate 2 refine vQ ?_
 refine vd_x rfl rfl ?_; simp only [fB, go_sem, seval]
 refine ⟨by omega, by omega, ?_⟩
 try simp only [fB, go_sem, seval]
 iterate 2 refine vQ ?_
 refine vd_nil ?_
 refine Tr.ret ?_
 simp only [hR, hma, fB, go_sem, seval]
theorem kput_s (l : List Link) (s t : Check) (v : Int) (hl : l.length ≤ 10000) (h1 : lmayB l = true) (h2 : ¬ (v < 0 ∨ 8 ≤ v)) (h3 : ¬ t.epoch ≤ s.epoch) (i : Nat) (hk : llook (places l) ⟨s, t⟩ = some i) : Cal Tryz.prog 189 [links l, s.av, t.av, .int .i64 v] (.tup [links (l.set i { l.getD i zLink with mask := orU (l.getD i zLink).mask (bit v) }), .int .i64 0]) := by
 have o1 := kclone_c l (by omega)
 have c1 := And.intro (en Tryz.func101) (LMay_pure l)
 have o2 : CalO Tryz.prog 167 [.sl (l.map Link.av) false] (.mp 0) [(0, .amap ((places l).map lentE))] := And.intro (en Tryz.func167) (places_own l (by omega))
 have c2 := And.intro (en Tryz.func221) (bit_pure v)
 rw [h1] at c1
 have e0 : decide (v < 0) = false := dfO
 have e1 : decide (8 ≤ v) = false := dfO
 have e2 : decide (t.epoch ≤ s.epoch) = false := decide_eq_false h3
 have ff := And.intro e0 (And.intro e1 e2)
 have hil : i < l.length := (look_spec hk).1
 have hx : (l.map Link.av)[i]? = some (l.getD i zLink).av := by simp [hil, List.getD_eq_getElem?_getD]
 generalize l.getD i zLink = a at hx
 have hR : Tryz.f189.results.toList = [.tmp 8, .tmp 9] := rfl
 refine cal_tr Tryz.func189 rfl fun E hE hP => ?_
 refine mW ?_
 first | apply tr_md mixed _ (keepAll _) xE kR | (refine Tr.seq ?_; apply tr_md mixed _ (keepAll _) xE kR)
 intro Q hQ
 refine mS ?_
 (refine vd2_q rfl ?_); intro r hr; simp only [Option.getD_some, Option.isSome_some, go_sem, seval]; subst hr
 refine vd2_x rfl ?_; intro r hr; simp only [Option.getD_some, Option.isSome_some, go_sem, seval]
 refine call_own rfl rfl rfl rfl (en Tryz.func167) (o2.2) rfl rfl ?_
 refine mS ?_
 try simp only [Option.getD_some, Option.isSome_some, go_sem, seval]
 subst hr
 iterate 3 ((refine vd2_q rfl ?_); intro r hr; simp only [Option.getD_some, Option.isSome_some, go_sem, seval]; subst hr)
 refine vd2_x rfl ?_; intro r hr; simp only [Option.getD_some, Option.isSome_some, go_sem, seval]
 refine look64 rfl ?_; rw [hk]
 try simp only [Option.getD_some, Option.isSome_some, go_sem, seval]
 subst hr
 iterate 5 ((refine vd2_q rfl ?_); intro r hr; simp only [Option.getD_some, Option.isSome_some, go_sem, seval]; subst hr)
 exact hQ
 refine mW ?_
 first | refine tr_seq_drawn mixed [80] rfl xE kR ?_ | (refine Tr.seq ?_; refine tr_seq_drawn mixed [80] rfl xE kR ?_)
 refine vd_q rfl rfl ?_; simp only [hk, Option.getD_some, hx, Int.toNat_natCast, fB, go_sem, seval]
 refine vd_q rfl rfl ?_; simp only [hk, Option.getD_some, hx, Int.toNat_natCast, fB, go_sem, seval]
 refine vd_q rfl rfl ?_; simp only [hk, Option.getD_some, hx, Int.toNat_natCast, fB, go_sem, seval]
 refine ⟨by omega, by omega, ?_⟩
 try simp only [hk, Option.getD_some, hx, Int.toNat_natCast, fB, go_sem, seval]
 refine vd_q rfl rfl ?_; simp only [hk, Option.getD_some, hx, Int.toNat_natCast, fB, go_sem, seval]
 refine vd_q rfl rfl ?_; simp only [hk, Option.getD_some, hx, Int.toNat_natCast, fB, go_sem, seval]
 refine vd_q rfl rfl ?_; simp only [hk, Option.getD_some, hx, Int.toNat_natCast, fB, go_sem, seval]
 refine vd_x rfl rfl ?_; simp only [hk, Option.getD_some, hx, Int.toNat_natCast, fB, go_sem, seval]
 refine call_fn rfl rfl rfl rfl (en Tryz.func221) (c2.2) rfl rfl rfl ?_
 refine mS ?_
 refine vd_q rfl rfl ?_; simp only [hk, Option.getD_some, hx, Int.toNat_natCast, fB, go_sem, seval]
 refine vd_q rfl rfl ?_; simp only [hk, Option.getD_some, hx, Int.toNat_natCast, fB, go_sem, seval]
 refine ⟨by omega, by omega, ?_⟩
 try simp only [hk, Option.getD_some, hx, Int.toNat_natCast, fB, go_sem, seval]
 refine vd_q rfl rfl ?_; simp only [hk, Option.getD_some, hx, Int.toNat_natCast, fB, go_sem, seval]
 refine vd_w rfl rfl kR ?_; simp only [hk, Option.getD_some, hx, Int.toNat_natCast, fB, go_sem, seval]
 refine vd_nil ?_
 rw [← List.map_set]
 refine mr ?_
 refine Tr.ret ?_
 simp only [hR, orU, List.length_set, go_sem, seval]
theorem kput_c (l : List Link) (s t : Check) (v : Int) (hl : l.length ≤ 10000) : Cal Tryz.prog 189 [links l, s.av, t.av, .int .i64 v] (.tup [links (kputR l s t v).1, .int .i64 (kputR l s t v).2]) := by
 unfold kputR
 split
 · next h => exact kput_1 l s t v hl h
 · next h1 =>
   have h1 : lmayB l = true := by simpa using h1
   split
   · next h2 => exact kput_10 l s t v hl h1 h2
   · next h2 =>
     split
     · next h3 => exact kput_9 l s t v hl h1 h2 h3
     · next h3 =>
       split
       · next i hk => exact kput_s l s t v hl h1 h2 h3 i hk
       · next hk =>
         split
         · next h4 => exact kput_3 l s t v hl h1 h2 h3 hk h4
         · next h4 => exact kput_0 l s t v hl h1 h2 h3 hk h4
def howR (vl : List Latest) (o : Int) (v : Nat) (r : Root) (ep : Int) : Int :=
 if ¬ andU o (bit v) = 0 then 3 else if (vl.getD v zLatest).has = false ∨ (vl.getD v zLatest).epoch < ep then 0 else if ep < (vl.getD v zLatest).epoch ∨ (vl.getD v zLatest).root = r then 1 else 2
theorem how_w (vl : List Latest) (o : Int) (v : Nat) (r : Root) (ep : Int) (x : Latest) (hn : nth (vl.map Latest.av) (v : Int) = some x.av) (h : Int)
 (hh : (¬ andU o (bit v) = 0) ∧ h = 3 ∨ andU o (bit v) = 0 ∧ ((x.has = false ∨ x.epoch < ep) ∧ h = 0 ∨ ¬ (x.has = false ∨ x.epoch < ep) ∧ ((ep < x.epoch ∨ x.root = r) ∧ h = 1 ∨ ¬ (ep < x.epoch ∨ x.root = r) ∧ h = 2))) : Cal Tryz.prog 232 [vav vl o, .int .i64 v, .root r, .int .u64 ep] (.int .i64 h) := by
 have c1 := And.intro (en Tryz.func221) (bit_pure v)
 rcases hh with ⟨h1, rfl⟩ | ⟨h1, ⟨h2, rfl⟩ | ⟨h2, ⟨h3, rfl⟩ | ⟨h3, rfl⟩⟩⟩
 · have e1 : decide (bitsI .and .u64 o (bit v) = 0) = false := decide_eq_false h1
   have ff := And.intro hn e1
   have hR : Tryz.f232.results.toList = [.tmp 8] := rfl
   refine cal_tr Tryz.func232 rfl fun E hE hP => ?_
   exact mX
 · have e1 : decide (bitsI .and .u64 o (bit v) = 0) = true := decide_eq_true h1
   cases h3 : x.has
   · have ff := And.intro hn (And.intro e1 h3)
     have hR : Tryz.f232.results.toList = [.tmp 8] := rfl
     refine cal_tr Tryz.func232 rfl fun E hE hP => ?_
     exact mX
   · have e2 : decide (x.epoch < ep) = true := decide_eq_true (h2.resolve_left (by rw [h3]; decide))
     have ff := And.intro hn (And.intro e1 (And.intro h3 e2))
     have hR : Tryz.f232.results.toList = [.tmp 8] := rfl
     refine cal_tr Tryz.func232 rfl fun E hE hP => ?_
     exact mX
 · have e1 : decide (bitsI .and .u64 o (bit v) = 0) = true := decide_eq_true h1
   rw [not_or] at h2
   have h4 : x.has = true := by simpa using h2.1
   have e2 : decide (x.epoch < ep) = false := decide_eq_false h2.2
   by_cases h5 : ep < x.epoch
   · have e3 : decide (ep < x.epoch) = true := decide_eq_true h5
     have ff := And.intro hn (And.intro e1 (And.intro h4 (And.intro e2 e3)))
     have hR : Tryz.f232.results.toList = [.tmp 8] := rfl
     refine cal_tr Tryz.func232 rfl fun E hE hP => ?_
     exact mX
   · have e3 : decide (ep < x.epoch) = false := decide_eq_false h5
     have e4 : decide (x.root = r) = true := decide_eq_true (h3.resolve_left h5)
     have ff := And.intro hn (And.intro e1 (And.intro h4 (And.intro e2 (And.intro e3 e4))))
     have hR : Tryz.f232.results.toList = [.tmp 8] := rfl
     refine cal_tr Tryz.func232 rfl fun E hE hP => ?_
     exact mX
 · have e1 : decide (bitsI .and .u64 o (bit v) = 0) = true := decide_eq_true h1
   rw [not_or] at h2 h3
   have h4 : x.has = true := by simpa using h2.1
   have e2 : decide (x.epoch < ep) = false := decide_eq_false h2.2
   have e3 : decide (ep < x.epoch) = false := decide_eq_false h3.1
   have e4 : decide (x.root = r) = false := decide_eq_false h3.2
   have ff := And.intro hn (And.intro e1 (And.intro h4 (And.intro e2 (And.intro e3 e4))))
   have hR : Tryz.f232.results.toList = [.tmp 8] := rfl
   refine cal_tr Tryz.func232 rfl fun E hE hP => ?_
   exact mX
theorem how_c (vl : List Latest) (o : Int) (v : Nat) (hv : v < vl.length) (r : Root) (ep : Int) : Cal Tryz.prog 232 [vav vl o, .int .i64 v, .root r, .int .u64 ep] (.int .i64 (howR vl o v r ep)) := by
 have hn : nth (vl.map Latest.av) (v : Int) = some (vl.getD v zLatest).av := by
  rw [nth_map_lt Latest.av vl v hv, List.getD_eq_getElem?_getD, List.getElem?_eq_getElem hv]
  rfl
 refine how_w vl o v r ep _ hn _ ?_
 unfold howR
 by_cases h1 : andU o (bit v) = 0
 · refine .inr ⟨h1, ?_⟩
   rw [if_neg (fun h => h h1)]
   by_cases h2 : (vl.getD v zLatest).has = false ∨ (vl.getD v zLatest).epoch < ep
   · exact .inl ⟨h2, if_pos h2⟩
   · rw [if_neg h2]
     refine .inr ⟨h2, ?_⟩
     by_cases h3 : ep < (vl.getD v zLatest).epoch ∨ (vl.getD v zLatest).root = r
     · exact .inl ⟨h3, if_pos h3⟩
     · exact .inr ⟨h3, if_neg h3⟩
 · exact .inl ⟨h1, if_pos h1⟩
theorem vown_o (vl : List Latest) (o : Int) (hl : vl.length ≤ 100000) : CalO Tryz.prog 194 [vav vl o] (.st [.ms 0 34 vl.length, .int .u64 o]) [(0, .row 34 (vl.map Latest.av))] := by
 have o1 := lclone_c vl hl
 have hR : Tryz.f194.results.toList = [.cell 2 29] := rfl
 refine calO_tr Tryz.func194 rfl fun E hE hP => ?_
 refine mW ?_
 refine Tr.ret ?_
 simp only [hR, go_sem, seval]
 exact ⟨fun n => 64 + n, rfl, mB, rfl⟩
def vputR (vl : List Latest) (o : Int) (v : Nat) (r : Root) (ep : Int) : List Latest × Int :=
 if howR vl o v r ep = 0 then (vl.set v ⟨true, r, ep⟩, o) else if howR vl o v r ep = 2 then (vl.set v zLatest, orU o (bit v)) else (vl, o)
theorem vmay_len {vl : List Latest} {o : Int} (h : vmayB vl o = true) : vl.length ≤ 8 := by
 unfold vmayB at h
 simp only [Bool.and_eq_true, decide_eq_true_eq] at h
 exact h.2.1
theorem vput_x (vl : List Latest) (o : Int) (v : Nat) (hv : v < vl.length) (r : Root) (ep : Int) (hm : vmayB vl o = true) (h : howR vl o v r ep = 1 ∨ howR vl o v r ep = 3) : Cal Tryz.prog 190 [vav vl o, .int .i64 v, .root r, .int .u64 ep] (.tup [vav vl o, .int .i64 0, .int .i64 0]) := by
 have o1 := vown_o vl o (by have := (vmay_len hm); omega)
 have c1 := vmay_c vl o
 rw [hm] at c1
 have c2 := how_c vl o v hv r ep
 have c3 := And.intro (en Tryz.func221) (bit_pure v)
 have e0 : decide ((v : Int) < 0) = false := dfO
 have e1 : decide ((vl.length : Int) ≤ (v : Int)) = false := dfO
 have hx : (vl.map Latest.av)[v]? = some (vl.getD v zLatest).av := by simp [hv, List.getD_eq_getElem?_getD]
 generalize vl.getD v zLatest = x at hx
 rcases h with h | h
 · rw [h] at c2
   have ff := And.intro e0 e1
   have hR : Tryz.f190.results.toList = [.cell 8 29, .tmp 9, .tmp 10] := rfl
   refine cal_tr Tryz.func190 rfl fun E hE hP => ?_
   refine mr ?_
   refine mr ?_
   refine Tr.wk (Wk.frzH [96]) ?_
   refine mFz ?_
   exact mX
 · rw [h] at c2
   have ff := And.intro e0 e1
   have hR : Tryz.f190.results.toList = [.cell 8 29, .tmp 9, .tmp 10] := rfl
   refine cal_tr Tryz.func190 rfl fun E hE hP => ?_
   refine mr ?_
   refine mr ?_
   refine Tr.wk (Wk.frzH [96]) ?_
   refine mFz ?_
   exact mX
theorem vput_0 (vl : List Latest) (o : Int) (v : Nat) (hv : v < vl.length) (r : Root) (ep : Int) (hm : vmayB vl o = true) (h : howR vl o v r ep = 0) : Cal Tryz.prog 190 [vav vl o, .int .i64 v, .root r, .int .u64 ep] (.tup [vav (vl.set v ⟨true, r, ep⟩) o, .int .i64 1, .int .i64 0]) := by
 have o1 := vown_o vl o (by have := (vmay_len hm); omega)
 have c1 := vmay_c vl o
 rw [hm] at c1
 have c2 := how_c vl o v hv r ep
 have c3 := And.intro (en Tryz.func221) (bit_pure v)
 have e0 : decide ((v : Int) < 0) = false := dfO
 have e1 : decide ((vl.length : Int) ≤ (v : Int)) = false := dfO
 have hx : (vl.map Latest.av)[v]? = some (vl.getD v zLatest).av := by simp [hv, List.getD_eq_getElem?_getD]
 generalize vl.getD v zLatest = x at hx
 rw [h] at c2
 have ff := And.intro e0 (And.intro e1 hx)
 have hR : Tryz.f190.results.toList = [.cell 8 29, .tmp 9, .tmp 10] := rfl
 refine cal_tr Tryz.func190 rfl fun E hE hP => ?_
 refine mW ?_
 rw [← List.map_set]
 have hlen : (List.map Latest.av (vl.set v ⟨true, r, ep⟩)).length = vl.length := by rw [List.length_map, List.length_set]
 refine Tr.wk (Wk.frzH [96]) ?_
 simp only [frzHP, frzA, AV.frz, AV.frzL, List.map_cons, List.map_nil, hlen, go_sem, seval]
 exact mX
theorem vput_2 (vl : List Latest) (o : Int) (v : Nat) (hv : v < vl.length) (r : Root) (ep : Int) (hm : vmayB vl o = true) (h : howR vl o v r ep = 2) : Cal Tryz.prog 190 [vav vl o, .int .i64 v, .root r, .int .u64 ep] (.tup [vav (vl.set v zLatest) (orU o (bit v)), .int .i64 2, .int .i64 0]) := by
 have o1 := vown_o vl o (by have := (vmay_len hm); omega)
 have c1 := vmay_c vl o
 rw [hm] at c1
 have c2 := how_c vl o v hv r ep
 have c3 := And.intro (en Tryz.func221) (bit_pure v)
 have e0 : decide ((v : Int) < 0) = false := dfO
 have e1 : decide ((vl.length : Int) ≤ (v : Int)) = false := dfO
 have hx : (vl.map Latest.av)[v]? = some (vl.getD v zLatest).av := by simp [hv, List.getD_eq_getElem?_getD]
 generalize vl.getD v zLatest = x at hx
 rw [h] at c2
 have ff := And.intro e0 (And.intro e1 hx)
 have hR : Tryz.f190.results.toList = [.cell 8 29, .tmp 9, .tmp 10] := rfl
 refine cal_tr Tryz.func190 rfl fun E hE hP => ?_
 refine mW ?_
 first | refine tr_seq_drawn mixed [112] rfl xE kR ?_ | (refine Tr.seq ?_; refine tr_seq_drawn mixed [112] rfl xE kR ?_)
 iterate 3 refine vQ ?_
 refine vd_x rfl rfl ?_; simp only [fB, go_sem, seval]
 refine call_fn rfl rfl rfl rfl (en Tryz.func221) (c3.2) rfl rfl rfl ?_
 refine mS ?_
 iterate 2 refine vQ ?_
 refine vd_w rfl rfl kR ?_; simp only [fB, go_sem, seval]
 refine vd_nil ?_
 rw [← List.map_set]
 have hlen : (List.map Latest.av (vl.set v zLatest)).length = vl.length := by rw [List.length_map, List.length_set]
 refine Tr.wk (Wk.frzH [96]) ?_
 simp only [frzHP, frzA, AV.frz, AV.frzL, List.map_cons, List.map_nil, hlen, go_sem, seval]
 exact mX
theorem vput_c (vl : List Latest) (o : Int) (v : Nat) (hv : v < vl.length) (r : Root) (ep : Int) (hm : vmayB vl o = true) : ∃ h : Int, Cal Tryz.prog 190 [vav vl o, .int .i64 v, .root r, .int .u64 ep] (.tup [vav (vputR vl o v r ep).1 (vputR vl o v r ep).2, .int .i64 h, .int .i64 0]) := by
 unfold vputR
 by_cases h0 : howR vl o v r ep = 0
 · rw [if_pos h0]
   exact ⟨1, vput_0 vl o v hv r ep hm h0⟩
 · rw [if_neg h0]
   by_cases h2 : howR vl o v r ep = 2
   · rw [if_pos h2]
     exact ⟨2, vput_2 vl o v hv r ep hm h2⟩
   · rw [if_neg h2]
     refine ⟨0, vput_x vl o v hv r ep hm ?_⟩
     unfold howR at h0 h2 ⊢
     split
     · exact .inr rfl
     · next h3 =>
       rw [if_neg h3] at h0 h2
       split
       · next h4 => rw [if_pos h4] at h0; exact absurd rfl h0
       · next h4 =>
         rw [if_neg h4] at h0 h2
         split
         · exact .inl rfl
         · next h5 => rw [if_neg h5] at h2; exact absurd rfl h2
def ientE (e : Nat × Nat) : AV × AV := (.int .i64 e.1, .int .i64 e.2)
def ilook (es : List (Nat × Nat)) (p : Int) : Option Nat := (es.find? fun e => decide (p = (e.1 : Int))).map (·.2)
theorem tMap225 : tMap Tryz.prog 81 = some (3, 3) := by kernel_rfl
theorem keys225 (es : List (Nat × Nat)) : keysFit Tryz.prog 3 (es.map ientE) := fun e he => by
 obtain ⟨x, _, rfl⟩ := List.mem_map.1 he
 exact fits3 _
theorem ient_eqb (p : Int) (e : Nat × Nat) : (AV.int .i64 p).eqb (ientE e).1 = decide (p = (e.1 : Int)) := by
 show (AV.int .i64 p).eqb (.int .i64 e.1) = _
 simp [AV.eqb, int_beq]
theorem found225 (es : List (Nat × Nat)) (p : Int) : foundE (.int .i64 p) (es.map ientE) = (ilook es p).map fun n => .int .i64 n := by
 unfold foundE ilook
 induction es with
 | nil => rfl
 | cons e es ih =>
  simp only [List.map_cons, List.find?_cons, ient_eqb p e]
  cases decide (p = (e.1 : Int))
  · exact ih
  · rfl
theorem look225 {hp : HP} {o : Nat} {es : List (Nat × Nat)} {p : Int} {K : AV → Prop} (hg : HP.get hp o = some (.amap (es.map ientE))) (h : K (.tup [.int .i64 ((ilook es p).getD 0), .bool (ilook es p).isSome])) :
 lookupK Tryz.prog 81 hp (.mp o) (.int .i64 p) true K := by
 simp only [lookupK, tMap225, hg, ltZero3, if_true]
 refine ⟨fits3 p, nb, keys225 es, ?_⟩
 rw [found225]
 cases hl : ilook es p with
 | none => rw [hl] at h; exact h
 | some n => rw [hl] at h; exact h
theorem upd225 {hp : HP} {o : Nat} {es : List (Nat × Nat)} {k : Nat} {n : Nat} {K : AV → HP → Prop} (hg : HP.get hp o = some (.amap (es.map ientE))) (hn : ilook es k = none) (h : K (.tup []) (HP.set hp o (.amap ((es ++ [(k, n)]).map ientE)))) :
 mapUpdateK Tryz.prog 81 hp (.mp o) (.int .i64 k) (.int .i64 n) K := by
 simp only [mapUpdateK, tMap225, hg]
 refine ⟨fits3 k, nb, keys225 es, rfl, rfl, ?_⟩
 have : setE (.int .i64 k) (.int .i64 n) (es.map ientE) = (es ++ [(k, n)]).map ientE := by
  have hf : foundE (.int .i64 k) (es.map ientE) = none := by rw [found225, hn]; rfl
  unfold setE
  have : (es.map ientE).findIdx? (fun e => (AV.int .i64 (k : Int)).eqb e.1) = none := by
   rw [List.findIdx?_eq_none_iff]
   intro e he
   unfold foundE at hf
   simp only [Option.map_eq_none_iff, List.find?_eq_none] at hf
   simpa using hf e he
  rw [this, List.map_append]
  rfl
 rw [this]
 exact h
def cutN (t : List Node) (i : Int) (es : List (Nat × Nat)) (k : Nat) : Node := { t.getD k zNode with parent := if (k : Int) = i then -1 else ((ilook es (t.getD k zNode).parent).getD 0 : Int) }
def cutS (t : List Node) (i : Int) (st : List (Nat × Nat) × List Node) (k : Nat) : List (Nat × Nat) × List Node :=
 if (k : Int) ≠ i ∧ ilook st.1 (t.getD k zNode).parent = none then st else (st.1 ++ [(k, st.2.length)], st.2 ++ [cutN t i st.1 k])
def cutTo (t : List Node) (i : Int) (k : Nat) : List (Nat × Nat) × List Node := (List.range k).foldl (cutS t i) ([], [])
theorem cutTo_next (t : List Node) (i : Int) (k : Nat) : cutTo t i (k + 1) = cutS t i (cutTo t i k) k := by
 unfold cutTo
 rw [List.range_succ, List.foldl_append]
 rfl
theorem cutTo_lt (t : List Node) (i : Int) : ∀ k, ∀ e ∈ (cutTo t i k).1, e.1 < k
 | 0, e, he => by cases he
 | k + 1, e, he => by
  rw [cutTo_next] at he
  unfold cutS at he
  split at he
  · have := cutTo_lt t i k e he; omega
  · rcases List.mem_append.1 he with h | h
    · have := cutTo_lt t i k e h; omega
    · rw [List.mem_singleton.1 h]; exact Nat.lt_succ_self k
theorem cutTo_len (t : List Node) (i : Int) : ∀ k, (cutTo t i k).2.length ≤ k
 | 0 => Nat.le_refl _
 | k + 1 => by
  have := cutTo_len t i k
  rw [cutTo_next]
  unfold cutS
  split
  · omega
  · show ((cutTo t i k).2 ++ [_]).length ≤ k + 1
    rw [List.length_append, List.length_singleton]; omega
theorem ilook_new {t : List Node} {i : Int} {k : Nat} : ilook (cutTo t i k).1 (k : Int) = none := by
 unfold ilook
 rw [Option.map_eq_none_iff, List.find?_eq_none]
 intro e he
 have := cutTo_lt t i k e he
 simp only [decide_eq_true_eq]
 omega
def cutR (t : List Node) (i : Int) : List Node := if isB t [i] then (cutTo t i t.length).2 else []
theorem cut_no (t : List Node) (i : Int) (h : isB t [i] = false) : Cal Tryz.prog 123 [tav t, .int .i64 i] (tav []) := by
 have c1 := And.intro (en Tryz.func159) (is_pure t [i] (by simp))
 rw [h] at c1
 have hR : Tryz.f123.results.toList = [.cell 4 24] := rfl
 refine cal_tr Tryz.func123 rfl fun E hE hP => ?_
 exact mX
theorem cut_w (t : List Node) (i : Int) (ht : t.length ≤ 100000) (h : isB t [i] = true) : Cal Tryz.prog 123 [tav t, .int .i64 i] (tav (cutTo t i t.length).2) := by
 have c1 := And.intro (en Tryz.func159) (is_pure t [i] (by simp))
 rw [h] at c1
 have hR : Tryz.f123.results.toList = [.cell 4 24] := rfl
 refine cal_tr Tryz.func123 rfl fun E hE hP => ?_
 refine mW ?_
 refine Tr.loop (fun k : Nat => (⟨[(1, .int .i64 i), (4, .ptr 0 [] 0), (5, .mp 1), (6, .ptr 2 [] 0), (19, .sl (t.map Node.av) false), (20, .int .i64 t.length), (21, .int .i64 k)], [(0, .var (.st [.sl [] true])), (1, .amap ((cutTo t i k).1.map ientE)), (2, .var (.st [.ms 3 35 (cutTo t i k).2.length])), (3, .row 35 ((cutTo t i k).2.map Node.av))], 4, []⟩ : S)) (fun k => k ≤ t.length) (fun k => t.length - k) 0 (Nat.zero_le _) ?_ ?_
 · refine Wk.trans (Wk.nilSt 144 35 rfl) ?_
   have e0 : cutTo t i 0 = ([], []) := rfl
   rw [e0]
   simp only [HP.set, List.map_cons, List.map_nil, List.length_nil, go_sem, seval]
   refine wk_ren (fun | 0 => 16 | 1 => 112 | 2 => 144 | 3 => 224 | n => n) mB mB rfl rfl rfl
 · intro k hk
   by_cases hlt : k < t.length
   · have e1 : decide ((k : Int) < (t.length : Int)) = true := dtO
     have hn := nth_node hlt
     have hw := wN k
     have hnx := cutTo_next t i k
     have hnew := ilook_new (t := t) (i := i) (k := k)
     have hlen := cutTo_len t i k
     unfold cutS cutN at hnx
     generalize cutTo t i k = st at hnx hnew hlen
     obtain ⟨es, out⟩ := st
     simp only at hnx hnew hlen
     generalize t.getD k zNode = n at hn hnx
     obtain ⟨r, p, s, j⟩ := n
     simp only at hnx
     have ff := And.intro e1 (And.intro hn hw)
     refine mW ?_
     first | apply tr_m xE | (refine Tr.seq ?_; apply tr_m xE)
     intro Q hQ
     refine mS ?_
     iterate 3 refine mV ?_
     refine vm_op ?_; intro r hr; simp only [go_sem, seval]
     refine look225 rfl ?_
     try simp only [go_sem, seval]
     subst hr
     iterate 5 refine mV ?_
     exact hQ
     by_cases hki : (k : Int) = i
     · have e2 : decide ((k : Int) = i) = true := decide_eq_true hki
       rw [if_neg (fun h => h.1 hki), if_pos hki] at hnx
       have ff := And.intro e1 (And.intro e2 hw)
       refine mW ?_
       first | apply tr_m xE | (refine Tr.seq ?_; apply tr_m xE)
       intro Q hQ
       refine mS ?_
       iterate 5 refine mV ?_
       refine vm_op ?_; intro r hr; simp only [go_sem, seval]
       refine upd225 rfl hnew ?_
       try simp only [go_sem, seval]
       subst hr
       exact hQ
       refine mW ?_
       apply tr_ml xE
       intro Q hQ
       refine mS ?_
       iterate 4 (refine vm_op ?_; intro r hr; simp only [fB, go_sem, seval]; subst hr)
       refine vm_op ?_; intro r hr; simp only [fB, go_sem, seval]
       refine ⟨by omega, by omega, ?_⟩
       try simp only [fB, go_sem, seval]
       subst hr
       iterate 2 (refine vm_op ?_; intro r hr; simp only [fB, go_sem, seval]; subst hr)
       exact hQ
       refine mW ?_
       refine ⟨k + 1, hlt, by omega, ?_⟩
       rw [hnx]
       simp only [List.map_append, List.length_append, List.length_singleton]
       refine wk_ren (fun | 3 => 612 | n => n) mB mB rfl rfl rfl
     · have e2 : decide ((k : Int) = i) = false := decide_eq_false hki
       cases hl : ilook es p with
       | none =>
        have e3 : (ilook es p).isSome = false := by rw [hl]; rfl
        rw [if_pos ⟨hki, hl⟩] at hnx
        have ff := And.intro e1 (And.intro e2 (And.intro hw e3))
        refine mW ?_
        refine ⟨k + 1, hlt, by omega, ?_⟩
        rw [hnx]
        exact mK
       | some q =>
        have e3 : (ilook es p).isSome = true := by rw [hl]; rfl
        rw [if_neg (fun h => by rw [hl] at h; cases h.2), if_neg hki, hl] at hnx
        have ff := And.intro e1 (And.intro e2 (And.intro hw e3))
        refine mW ?_
        first | apply tr_m xE | (refine Tr.seq ?_; apply tr_m xE)
        intro Q hQ
        refine mS ?_
        iterate 5 refine mV ?_
        refine vm_op ?_; intro r hr; simp only [go_sem, seval]
        refine upd225 rfl hnew ?_
        try simp only [go_sem, seval]
        subst hr
        exact hQ
        refine mW ?_
        apply tr_ml xE
        intro Q hQ
        refine mS ?_
        iterate 4 (refine vm_op ?_; intro r hr; simp only [fB, go_sem, seval]; subst hr)
        refine vm_op ?_; intro r hr; simp only [fB, go_sem, seval]
        refine ⟨by omega, by omega, ?_⟩
        try simp only [fB, go_sem, seval]
        subst hr
        iterate 2 (refine vm_op ?_; intro r hr; simp only [fB, go_sem, seval]; subst hr)
        exact hQ
        refine mW ?_
        refine ⟨k + 1, hlt, by omega, ?_⟩
        rw [hnx]
        simp only [List.map_append, List.length_append, List.length_singleton]
        refine wk_ren (fun | 3 => 628 | n => n) mB mB rfl rfl rfl
   · have e1 : decide ((k : Int) < (t.length : Int)) = false := dfO
     have hil : k = t.length := by omega
     subst hil
     generalize (cutTo t i t.length).2 = O
     generalize (cutTo t i t.length).1 = es
     have ff := e1
     refine mW ?_
     refine Tr.wk (Wk.frzH [3]) ?_
     have hlen : (O.map Node.av).length = O.length := List.length_map _
     simp only [frzHP, frzA, AV.frz, AV.frzL, List.map_cons, List.map_nil, hlen, go_sem, seval]
     exact mX
theorem cut_c (t : List Node) (i : Int) (ht : t.length ≤ 100000) : Cal Tryz.prog 123 [tav t, .int .i64 i] (tav (cutR t i)) := by
 unfold cutR
 cases h : isB t [i]
 · exact cut_no t i h
 · exact cut_w t i ht h
def jentE (e : Int × Int) : AV × AV := (.int .i64 e.1, .int .i64 e.2)
def jlook (es : List (Int × Int)) (p : Int) : Option Int := (es.find? fun e => decide (p = e.1)).map (·.2)
def jset (es : List (Int × Int)) (k n : Int) : List (Int × Int) := match es.findIdx? fun e => decide (k = e.1) with
 | some i => es.set i (k, n)
 | none => es ++ [(k, n)]
theorem jkeys (es : List (Int × Int)) : keysFit Tryz.prog 3 (es.map jentE) := fun e he => by
 obtain ⟨x, _, rfl⟩ := List.mem_map.1 he
 exact fits3 _
theorem jent_eqb (p : Int) (e : Int × Int) : (AV.int .i64 p).eqb (jentE e).1 = decide (p = e.1) := by
 show (AV.int .i64 p).eqb (.int .i64 e.1) = _
 simp [AV.eqb, int_beq]
theorem jfound (es : List (Int × Int)) (p : Int) : foundE (.int .i64 p) (es.map jentE) = (jlook es p).map fun n => .int .i64 n := by
 unfold foundE jlook
 induction es with
 | nil => rfl
 | cons e es ih =>
  simp only [List.map_cons, List.find?_cons, jent_eqb p e]
  cases decide (p = e.1)
  · exact ih
  · rfl
theorem jlook_ok {hp : HP} {o : Nat} {es : List (Int × Int)} {p : Int} {K : AV → Prop} (hg : HP.get hp o = some (.amap (es.map jentE))) (h : K (.tup [.int .i64 ((jlook es p).getD 0), .bool (jlook es p).isSome])) :
 lookupK Tryz.prog 81 hp (.mp o) (.int .i64 p) true K := by
 simp only [lookupK, tMap225, hg, ltZero3, if_true]
 refine ⟨fits3 p, nb, jkeys es, ?_⟩
 rw [jfound]
 cases hl : jlook es p with
 | none => rw [hl] at h; exact h
 | some n => rw [hl] at h; exact h
theorem jlook_one {hp : HP} {o : Nat} {es : List (Int × Int)} {p : Int} {K : AV → Prop} (hg : HP.get hp o = some (.amap (es.map jentE))) (h : K (.int .i64 ((jlook es p).getD 0))) :
 lookupK Tryz.prog 81 hp (.mp o) (.int .i64 p) false K := by
 simp only [lookupK, tMap225, hg, ltZero3, if_true]
 refine ⟨fits3 p, nb, jkeys es, ?_⟩
 rw [jfound]
 cases hl : jlook es p with
 | none => rw [hl] at h; exact h
 | some n => rw [hl] at h; exact h
theorem jidx (es : List (Int × Int)) (k : Int) : (es.map jentE).findIdx? (fun e => (AV.int .i64 k).eqb e.1) = es.findIdx? fun e => decide (k = e.1) := by
 induction es with
 | nil => rfl
 | cons e es ih => simp only [List.map_cons, List.findIdx?_cons, jent_eqb k e, ih]
theorem jupd {hp : HP} {o : Nat} {es : List (Int × Int)} {k n : Int} {K : AV → HP → Prop} (hg : HP.get hp o = some (.amap (es.map jentE))) (h : K (.tup []) (HP.set hp o (.amap ((jset es k n).map jentE)))) :
 mapUpdateK Tryz.prog 81 hp (.mp o) (.int .i64 k) (.int .i64 n) K := by
 simp only [mapUpdateK, tMap225, hg]
 refine ⟨fits3 k, nb, jkeys es, rfl, rfl, ?_⟩
 have : setE (.int .i64 k) (.int .i64 n) (es.map jentE) = (jset es k n).map jentE := by
  unfold setE jset
  rw [jidx]
  cases hi : es.findIdx? fun e => decide (k = e.1) with
  | none => simp only [List.map_append]; rfl
  | some i =>
   simp only [List.map_set]
   rfl
 rw [this]
 exact h
def placS (es : List (Int × Int)) (x : Int × Int) : List (Int × Int) := if (jlook es x.1).isSome then es else es ++ [x]
def placTo (l : List Int) : Nat → List (Int × Int)
 | 0 => []
 | k + 1 => placS (placTo l k) (l.getD k 0, k)
def firstAt (l : List Int) (x : Int) : Option Nat := l.findIdx? fun y => decide (x = y)
theorem firstAt_app (l : List Int) (y x : Int) : firstAt (l ++ [y]) x = match firstAt l x with | some i => some i | none => if x = y then some l.length else none := by
 unfold firstAt
 rw [List.findIdx?_append]
 cases h : l.findIdx? fun y => decide (x = y) with
 | some i => simp
 | none =>
  by_cases hy : x = y
  · simp [hy, List.findIdx?_cons]
  · simp [hy, List.findIdx?_cons]
theorem jlook_app (es : List (Int × Int)) (k n p : Int) : jlook (es ++ [(k, n)]) p = match jlook es p with | some v => some v | none => if p = k then some n else none := by
 unfold jlook
 rw [List.find?_append]
 cases h : es.find? fun e => decide (p = e.1) with
 | some i => simp
 | none =>
  by_cases hy : p = k
  · simp [hy]
  · simp [hy]
theorem take_next {l : List Int} {k : Nat} (h : k < l.length) : l.take (k + 1) = l.take k ++ [l.getD k 0] := by
 rw [List.take_add_one, List.getElem?_eq_getElem h, Option.toList_some, List.getD_eq_getElem?_getD, List.getElem?_eq_getElem h]
 rfl
theorem plac_look (l : List Int) : ∀ k, k ≤ l.length → ∀ x, jlook (placTo l k) x = Option.map (fun n : Nat => (n : Int)) (firstAt (l.take k) x)
 | 0, _, x => by simp [placTo, jlook, firstAt]
 | k + 1, h, x => by
  have ih := plac_look l k (by omega)
  rw [take_next (by omega), firstAt_app, placTo, placS]
  have hx := ih x
  have hy := ih (l.getD k 0)
  have hl : (l.take k).length = k := by rw [List.length_take]; omega
  generalize l.getD k 0 = y at hy ⊢
  split
  · next hs =>
    rw [hx]
    cases hf : firstAt (l.take k) x with
    | some i => rfl
    | none =>
     show none = Option.map _ (if x = y then some (l.take k).length else none)
     by_cases he : x = y
     · rw [← he, hx, hf] at hs
       cases hs
     · rw [if_neg he]
       rfl
  · next hs =>
    rw [jlook_app, hx]
    cases hf : firstAt (l.take k) x with
    | some i => rfl
    | none =>
     show (if x = y then some (k : Int) else none) = Option.map _ (if x = y then some (l.take k).length else none)
     by_cases he : x = y
     · rw [if_pos he, if_pos he, hl]
       rfl
     · rw [if_neg he, if_neg he]
       rfl
theorem firstAt_mem (l : List Int) (x : Int) : (firstAt l x).isSome = decide (x ∈ l) := by
 unfold firstAt
 rw [Bool.eq_iff_iff, List.findIdx?_isSome, List.any_eq_true, decide_eq_true_eq]
 constructor
 · rintro ⟨y, h1, h2⟩
   rw [of_decide_eq_true h2]
   exact h1
 · intro h
   exact ⟨x, h, decide_eq_true rfl⟩
theorem plac_len (l : List Int) : ∀ k, k ≤ l.length → (placTo l k).length ≤ k ∧ ((placTo l k).length = k ↔ (l.take k).Nodup)
 | 0, _ => ⟨Nat.le_refl _, by simp [placTo]⟩
 | k + 1, h => by
  obtain ⟨h1, h2⟩ := plac_len l k (by omega)
  have hy := plac_look l k (by omega) (l.getD k 0)
  have hm := firstAt_mem (l.take k) (l.getD k 0)
  have hs : (jlook (placTo l k) (l.getD k 0)).isSome = decide (l.getD k 0 ∈ l.take k) := by rw [hy, ← hm, Option.isSome_map]
  rw [take_next (by omega), placTo, placS, List.nodup_append]
  by_cases hin : l.getD k 0 ∈ l.take k
  · rw [hs, decide_eq_true hin, if_pos rfl]
    refine ⟨by omega, fun g => by omega, fun g => ?_⟩
    exact absurd rfl (g.2.2 _ hin _ (List.mem_singleton.2 rfl))
  · rw [hs, decide_eq_false hin, if_neg (by simp), List.length_append, List.length_singleton]
    refine ⟨by omega, fun g => ?_, fun g => ?_⟩
    · refine ⟨h2.1 (by omega), by simp, fun a ha b hb he => ?_⟩
      rw [List.mem_singleton.1 hb] at he
      exact hin (he ▸ ha)
    · have := h2.2 g.1
      omega
def stPl (l : List Int) (k : Nat) : S where
 fr := [(3, .mp 0), (9, .sl (l.map iav) false), (10, .int .i64 l.length), (11, .int .i64 k)]
 hp := [(0, .amap ((placTo l k).map jentE))]
 nx := 1
theorem places_o (l : List Int) (hl : l.length ≤ 100000) : CalO Tryz.prog 39 [ints l] (.mp 0) [(0, .amap ((placTo l l.length).map jentE))] := by
 unfold ints
 have hR : Tryz.f39.results.toList = [.tmp 2] := rfl
 refine calO_tr Tryz.func39 rfl fun E hE hP => ?_
 refine mW ?_
 refine Tr.loop (stPl l) (fun k => k ≤ l.length) (fun k => l.length - k) 0 (Nat.zero_le _) ?_ ?_
 · refine wk_ren (fun | 0 => 16 | n => n) mB mB rfl rfl rfl
 · intro k hk
   unfold stPl
   by_cases hlt : k < l.length
   · have e1 : decide ((k : Int) < (l.length : Int)) = true := dtO
     have hn := nth_map_lt iav l k hlt
     have hw := wN k
     have hgd : l.getD k 0 = l[k] := by simp [List.getD_eq_getElem?_getD, hlt]
     have hnx : placTo l (k + 1) = placS (placTo l k) (l[k], k) := by rw [placTo, hgd]
     unfold placS at hnx
     generalize placTo l k = es at hnx ⊢
     generalize l[k] = x at hn hnx
     have ff := And.intro e1 (And.intro hn hw)
     refine mr ?_
     refine mYes ?_
     refine mT ?_
     refine mBk ?_
     refine mr ?_
     first | apply tr_m xE | (refine Tr.seq ?_; apply tr_m xE)
     intro Q hQ
     refine mS ?_
     iterate 2 refine mV ?_
     refine vm_op ?_; intro r hr; simp only [go_sem, seval]
     refine jlook_ok rfl ?_
     try simp only [go_sem, seval]
     subst hr
     iterate 5 refine mV ?_
     exact hQ
     cases hs : (jlook es x).isSome
     · rw [hs, if_neg (by simp)] at hnx
       have hj : jset es x k = es ++ [(x, (k : Int))] := by
        have hf : es.findIdx? (fun e => decide (x = e.1)) = none := by
         rw [List.findIdx?_eq_none_iff]
         intro e he
         unfold jlook at hs
         rw [Option.isSome_map, Bool.eq_false_iff] at hs
         cases hd : decide (x = e.1)
         · rfl
         · exact absurd (List.find?_isSome.2 ⟨e, he, hd⟩) hs
        unfold jset
        rw [hf]
       have ff := And.intro e1 (And.intro hn (And.intro hw hs))
       refine mr ?_
       refine mYes ?_
       apply tr_ml xE
       intro Q hQ
       refine mS ?_
       iterate 3 refine mV ?_
       refine vm_op ?_; intro r hr; simp only [go_sem, seval]
       refine jupd rfl ?_
       try simp only [go_sem, seval]
       subst hr
       exact hQ
       rw [hj]
       refine mW ?_
       refine ⟨k + 1, hlt, by omega, ?_⟩
       rw [hnx]
       exact mK
     · rw [hs, if_pos rfl] at hnx
       have ff := And.intro e1 (And.intro hn (And.intro hw hs))
       refine mW ?_
       refine ⟨k + 1, hlt, by omega, ?_⟩
       rw [hnx]
       exact mK
   · have e1 : decide ((k : Int) < (l.length : Int)) = false := dfO
     have hkl : k = l.length := by omega
     subst hkl
     have ff := e1
     refine mW ?_
     refine Tr.ret ?_
     simp only [hR, go_sem, seval]
     exact ⟨fun n => n, rfl, ⟨⟨rfl, rfl, rfl⟩, trivial⟩, rfl⟩
def keptL (t : List Node) (i : Int) (m : Nat) : List Nat := (List.range m).filter fun k => aboveF t i k
def phi (t : List Node) (i : Int) (k : Nat) : Nat := (keptL t i k).length
def nodeC (t : List Node) (i : Int) (k : Nat) : Node := { t.getD k zNode with parent := if (k : Int) = i then -1 else (phi t i (parI t k).toNat : Int) }
theorem keptL_succ (t : List Node) (i : Int) (m : Nat) : keptL t i (m + 1) = keptL t i m ++ (if aboveF t i m then [m] else []) := by
 unfold keptL
 rw [List.range_succ, List.filter_append]
 cases h : aboveF t i m <;> simp [h]
theorem keptL_mem {t : List Node} {i : Int} {m k : Nat} : k ∈ keptL t i m ↔ k < m ∧ aboveF t i k = true := by simp [keptL]
theorem ilook_map (f : Nat → Nat) : ∀ (L : List Nat) (p : Int), ilook (L.map fun k => (k, f k)) p = if 0 ≤ p ∧ p.toNat ∈ L then some (f p.toNat) else none
 | [], p => by simp [ilook]
 | a :: L, p => by
  have ih := ilook_map f L p
  unfold ilook at ih ⊢
  rw [List.map_cons, List.find?_cons]
  by_cases h : p = (a : Int)
  · subst h
    rw [decide_eq_true (show (a : Int) = (((a, f a) : Nat × Nat).1 : Int) from rfl)]
    simp
  · rw [decide_eq_false (show ¬ p = (((a, f a) : Nat × Nat).1 : Int) from h)]
    simp only
    rw [ih]
    have : (0 ≤ p ∧ p.toNat ∈ a :: L) ↔ (0 ≤ p ∧ p.toNat ∈ L) := by
     rw [List.mem_cons]
     constructor
     · rintro ⟨h0, h1 | h1⟩
       · exact absurd (by omega) h
       · exact ⟨h0, h1⟩
     · rintro ⟨h0, h1⟩
       exact ⟨h0, .inr h1⟩
    simp only [this]
theorem nodup_map_on {α β : Type} {f : α → β} : ∀ l : List α, l.Nodup → (∀ a ∈ l, ∀ b ∈ l, f a = f b → a = b) → (l.map f).Nodup
 | [], _, _ => List.nodup_nil
 | x :: l, h, hf => by
  rw [List.nodup_cons] at h
  rw [List.map_cons, List.nodup_cons]
  refine ⟨fun hx => ?_, nodup_map_on l h.2 fun a ha b hb => hf a (List.mem_cons_of_mem _ ha) b (List.mem_cons_of_mem _ hb)⟩
  obtain ⟨y, hy, he⟩ := List.mem_map.1 hx
  have := hf y (List.mem_cons_of_mem _ hy) x List.mem_cons_self he
  exact h.1 (this ▸ hy)
theorem aboveF_neg (t : List Node) (i : Int) : aboveF t i (-1) = false := rfl
section
variable {t : List Node} {i : Int}
theorem aboveF_ge (hm : mayB t = true) {a : Int} (h0 : 0 ≤ a) (h1 : a < t.length) (h : aboveF t i a = true) : i ≤ a := aboveF_le hm (a.toNat + 1) a (by omega) h0 h1 h
theorem par_kept (hm : mayB t = true) {k : Nat} (hk : k < t.length) (hki : (k : Int) ≠ i) : aboveF t i k = true ↔ (0 ≤ parI t k ∧ (parI t k).toNat ∈ keptL t i k) := by
 have hp := par_range hm (a := (k : Int)) (by omega) (by omega)
 rw [aboveF_step hm (by omega) (by omega), if_neg hki]
 constructor
 · intro h
   split at h
   · cases h
   · rcases hp with hp | hp
     · rw [hp, aboveF_neg] at h; cases h
     · refine ⟨hp.1, keptL_mem.2 ⟨by omega, ?_⟩⟩
       rw [Int.toNat_of_nonneg hp.1]
       exact h
 · rintro ⟨h2, h3⟩
   obtain ⟨h4, h5⟩ := keptL_mem.1 h3
   rw [Int.toNat_of_nonneg h2] at h5
   have := aboveF_ge hm (a := parI t k) h2 (by omega) h5
   rw [if_neg (by omega)]
   exact h5
theorem cutTo_eq (hm : mayB t = true) : ∀ m, m ≤ t.length → cutTo t i m = ((keptL t i m).map fun k => (k, phi t i k), (keptL t i m).map (nodeC t i))
 | 0, _ => rfl
 | m + 1, h => by
  have ih := cutTo_eq hm m (by omega)
  have hpar : (t.getD m zNode).parent = parI t m := by unfold parI; rw [Int.toNat_natCast]
  rw [cutTo_next, ih, keptL_succ]
  unfold cutS cutN
  simp only
  rw [hpar, ilook_map, List.length_map]
  by_cases hmi : (m : Int) = i
  · have hk : aboveF t i m = true := by rw [aboveF_step hm (by omega) (by omega), if_pos hmi]
    rw [if_neg (fun h => h.1 hmi), hk, if_pos rfl, List.map_append, List.map_append]
    unfold nodeC
    rw [if_pos hmi]
    simp only [List.map_cons, List.map_nil]
    rw [if_pos hmi]
    rfl
  · have hk := par_kept hm (i := i) (show m < t.length by omega) hmi
    by_cases hp : 0 ≤ parI t m ∧ (parI t m).toNat ∈ keptL t i m
    · rw [if_pos hp, if_neg (fun h => by cases h.2), hk.2 hp, if_pos rfl, List.map_append, List.map_append, if_neg hmi]
      simp only [List.map_cons, List.map_nil, Option.getD_some]
      unfold nodeC
      rw [if_neg hmi]
      rfl
    · have hf : aboveF t i m = false := by
       cases h : aboveF t i m
       · rfl
       · exact absurd (hk.1 h) hp
      rw [if_neg hp, if_pos ⟨hmi, rfl⟩, hf]
      simp
theorem keptL_split {k M : Nat} (hk : k < M) (ha : aboveF t i k = true) : ∃ r, keptL t i M = keptL t i k ++ k :: r := by
 refine ⟨((List.range M).drop (k + 1)).filter fun k => aboveF t i k, ?_⟩
 have h1 := List.take_append_drop k (List.range M)
 rw [List.take_range, Nat.min_eq_left (by omega), List.drop_eq_getElem_cons (by simpa using hk), List.getElem_range] at h1
 unfold keptL
 conv => lhs; rw [← h1]
 rw [List.filter_append, List.filter_cons, if_pos ha]
theorem keptL_at {k M : Nat} (hk : k < M) (ha : aboveF t i k = true) : (keptL t i M)[phi t i k]? = some k ∧ phi t i k < (keptL t i M).length := by
 obtain ⟨r, hr⟩ := keptL_split (M := M) hk ha
 rw [hr]
 unfold phi
 refine ⟨by simp, by rw [List.length_append, List.length_cons]; omega⟩
theorem keptL_nodup (M : Nat) : (keptL t i M).Nodup := List.Nodup.sublist List.filter_sublist List.nodup_range
theorem keptL_back {M j : Nat} (hj : j < (keptL t i M).length) : ∃ k, k < M ∧ aboveF t i k = true ∧ phi t i k = j := by
 have hmem := List.getElem_mem hj
 obtain ⟨h1, h2⟩ := keptL_mem.1 hmem
 refine ⟨_, h1, h2, ?_⟩
 obtain ⟨h3, h4⟩ := keptL_at h1 h2
 exact (List.getElem?_inj h4 (keptL_nodup M)).1 (by rw [h3, List.getElem?_eq_getElem hj])
theorem phi_lt {a b : Nat} (h : a < b) (ha : aboveF t i a = true) : phi t i a < phi t i b := by
 obtain ⟨r, hr⟩ := keptL_split (M := b) h ha
 unfold phi
 rw [hr, List.length_append, List.length_cons]
 omega
theorem phi_inj {a b : Nat} (ha : aboveF t i a = true) (hb : aboveF t i b = true) : phi t i a = phi t i b ↔ a = b := by
 constructor
 · intro h
   rcases Nat.lt_trichotomy a b with h1 | h1 | h1
   · have := phi_lt h1 ha; omega
   · exact h1
   · have := phi_lt h1 hb; omega
 · rintro rfl; rfl
theorem phi_first (hm : mayB t = true) {k : Nat} (hk : (k : Int) = i) (hk1 : k < t.length) : phi t i k = 0 := by
 unfold phi
 refine List.length_eq_zero_iff.2 (List.eq_nil_iff_forall_not_mem.2 fun a ha => ?_)
 obtain ⟨h1, h2⟩ := keptL_mem.1 ha
 have := aboveF_ge hm (a := (a : Int)) (by omega) (by omega) h2
 omega
structure CutAt (t : List Node) (i : Int) : Prop where
 may : mayB t = true
 low : 0 ≤ i
 high : i < t.length
theorem CutAt.self (h : CutAt t i) : aboveF t i i = true := by rw [aboveF_step h.may h.low h.high, if_pos rfl]
theorem CutAt.eq (h : CutAt t i) : cutR t i = (keptL t i t.length).map (nodeC t i) := by
 unfold cutR
 have : isB t [i] = true := by
  have h1 := isB_one h.may (k := i.toNat) (by have := h.low; have := h.high; omega)
  rwa [Int.toNat_of_nonneg h.low] at h1
 rw [if_pos this, cutTo_eq h.may t.length (Nat.le_refl _)]
theorem CutAt.len (h : CutAt t i) : (cutR t i).length = (keptL t i t.length).length := by rw [h.eq, List.length_map]
theorem CutAt.at (h : CutAt t i) {k : Nat} (hk : k < t.length) (ha : aboveF t i k = true) : phi t i k < (cutR t i).length ∧ (cutR t i).getD (phi t i k) zNode = nodeC t i k := by
 obtain ⟨h1, h2⟩ := keptL_at hk ha
 rw [h.len]
 refine ⟨h2, ?_⟩
 rw [h.eq, List.getD_eq_getElem?_getD, List.getElem?_map, h1]
 rfl
theorem CutAt.back (h : CutAt t i) {j : Nat} (hj : j < (cutR t i).length) : ∃ k, k < t.length ∧ aboveF t i k = true ∧ phi t i k = j := keptL_back (by rw [← h.len]; exact hj)
theorem CutAt.par (h : CutAt t i) {k : Nat} (hk : k < t.length) (ha : aboveF t i k = true) : parI (cutR t i) (phi t i k : Nat) = if (k : Int) = i then -1 else (phi t i (parI t k).toNat : Int) := by
 unfold parI
 rw [Int.toNat_natCast, (h.at hk ha).2]
 rfl
theorem CutAt.fits (h : CutAt t i) {j : Nat} (hj : j < (cutR t i).length) : fitsB (cutR t i) j = true := by
 obtain ⟨k, hk, ha, rfl⟩ := h.back hj
 have hf := (mayT_spec.1 h.may).2.1 k hk
 rw [fits_at hk] at hf
 rw [fits_at hj, (h.at hk ha).2]
 have hslot : (t.getD k zNode).slot ≤ 1099511627776 := by
  split at hf
  · simp only [Bool.and_eq_true, decide_eq_true_eq] at hf; exact hf.2
  · simp only [Bool.and_eq_true, decide_eq_true_eq] at hf; exact hf.1.2
 by_cases hki : (k : Int) = i
 · rw [if_pos (phi_first h.may hki hk)]
   unfold nodeC
   rw [if_pos hki, decide_eq_true rfl, decide_eq_true hslot]
   rfl
 · have hne : phi t i k ≠ 0 := by
    have h1 := aboveF_ge h.may (a := (k : Int)) (by omega) (by omega) ha
    have hii : aboveF t i (i.toNat : Nat) = true := by rw [Int.toNat_of_nonneg h.low]; exact h.self
    have h2 := h.low
    have := phi_lt (i := i) (a := i.toNat) (b := k) (by omega) hii
    omega
   obtain ⟨hp0, hpm⟩ := (par_kept h.may hk hki).1 ha
   obtain ⟨hp1, hp2⟩ := keptL_mem.1 hpm
   have hparI : parI t k = (t.getD k zNode).parent := by unfold parI; rw [Int.toNat_natCast]
   rw [if_neg hne]
   unfold nodeC
   rw [if_neg hki]
   simp only
   have h1 := phi_lt hp1 hp2
   rw [Int.toNat_natCast, (h.at (show (parI t k).toNat < t.length by omega) hp2).2]
   have h2 : (nodeC t i (parI t k).toNat).slot = (t.getD (parI t k).toNat zNode).slot := rfl
   have hk0 : k ≠ 0 := fun hk0 => by
    subst hk0
    rw [if_pos rfl] at hf
    simp only [Bool.and_eq_true, decide_eq_true_eq] at hf
    rw [hparI] at hp0
    omega
   rw [if_neg hk0] at hf
   simp only [Bool.and_eq_true, decide_eq_true_eq] at hf
   rw [h2, hparI, decide_eq_true hf.2, decide_eq_true hslot, dtO, decide_eq_true (by rw [← hparI]; omega)]
   rfl
theorem CutAt.roots (h : CutAt t i) : (cutR t i).map Node.root = (keptL t i t.length).map fun k => (t.getD k zNode).root := by
 rw [h.eq, List.map_map]
 rfl
theorem root_inj (hm : mayB t = true) {a b : Nat} (ha : a < t.length) (hb : b < t.length) (h : (t.getD a zNode).root = (t.getD b zNode).root) : a = b := by
 have h1 := find_self hm ha
 have h2 := find_self hm hb
 rw [h] at h1
 omega
theorem CutAt.may' (h : CutAt t i) : mayB (cutR t i) = true := by
 refine mayT_spec.2 ⟨⟨?_, ?_⟩, fun j hj => h.fits hj, ?_⟩
 · have hii : aboveF t i (i.toNat : Nat) = true := by rw [Int.toNat_of_nonneg h.low]; exact h.self
   have := (h.at (show i.toNat < t.length by have := h.low; have := h.high; omega) hii).1
   omega
 · rw [h.len]
   have h1 : (keptL t i t.length).length ≤ t.length := by
    have := List.length_filter_le (fun k : Nat => aboveF t i k) (List.range t.length)
    rwa [List.length_range] at this
   have := (may_len h.may).2
   omega
 · rw [h.roots]
   refine nodup_map_on _ (keptL_nodup _) ?_
   intro a ha b hb hab
   exact root_inj h.may (keptL_mem.1 ha).1 (keptL_mem.1 hb).1 hab
theorem CutAt.kept_par (h : CutAt t i) {k : Nat} (hk : k < t.length) (ha : aboveF t i k = true) (hki : (k : Int) ≠ i) : 0 ≤ parI t k ∧ (parI t k).toNat < k ∧ aboveF t i (parI t k).toNat = true := by
 obtain ⟨h1, h2⟩ := (par_kept h.may hk hki).1 ha
 obtain ⟨h3, h4⟩ := keptL_mem.1 h2
 exact ⟨h1, h3, h4⟩
theorem CutAt.above (h : CutAt t i) {x : Nat} (hx : aboveF t i x = true) : ∀ (n a : Nat), a < n → a < t.length → aboveF t i a = true → aboveF (cutR t i) (phi t i x : Nat) (phi t i a : Nat) = aboveF t x a
 | 0, a, hn, _, _ => by omega
 | n + 1, a, hn, ha, hk => by
  have hlt := (h.at ha hk).1
  rw [aboveF_step h.may' (by omega) (by omega), aboveF_step h.may (by omega) (by omega)]
  by_cases hax : a = x
  · subst hax
    rw [if_pos rfl, if_pos rfl]
  · have hne : phi t i a ≠ phi t i x := fun hh => hax ((phi_inj hk hx).1 hh)
    rw [if_neg (show ¬ ((phi t i a : Nat) : Int) = (phi t i x : Nat) by omega), if_neg (show ¬ (a : Int) = (x : Nat) by omega)]
    by_cases hlt2 : a < x
    · have := phi_lt hlt2 hk
      rw [if_pos (show ((phi t i a : Nat) : Int) < (phi t i x : Nat) by omega), if_pos (show (a : Int) < (x : Nat) by omega)]
    · have := phi_lt (show x < a by omega) hx
      rw [if_neg (show ¬ ((phi t i a : Nat) : Int) < (phi t i x : Nat) by omega), if_neg (show ¬ (a : Int) < (x : Nat) by omega)]
      have hai : (a : Int) ≠ i := fun hh => by
       have := phi_first h.may hh ha
       omega
      obtain ⟨p0, p1, p2⟩ := h.kept_par ha hk hai
      rw [h.par ha hk, if_neg hai, h.above hx n (parI t a).toNat (by omega) (by omega) p2, Int.toNat_of_nonneg p0]
theorem CutAt.aboveR (h : CutAt t i) {x a : Nat} (hx : x < t.length) (ha : a < t.length) (kx : aboveF t i x = true) (ka : aboveF t i a = true) : Go.Proofs.YtekjdikofhdcpaaGreatDoor.aboveR (cutR t i) (phi t i x : Nat) (phi t i a : Nat) = Go.Proofs.YtekjdikofhdcpaaGreatDoor.aboveR t x a := by
 have h1 := (h.at hx kx).1
 have h2 := (h.at ha ka).1
 unfold Go.Proofs.YtekjdikofhdcpaaGreatDoor.aboveR
 rw [isB_in h.may', isB_in h.may, h.above kx (a + 1) a (by omega) ha ka]
 rw [decide_eq_true (show 0 ≤ ((phi t i x : Nat) : Int) ∧ ((phi t i x : Nat) : Int) < ((cutR t i).length : Int) by omega), decide_eq_true (show 0 ≤ ((phi t i a : Nat) : Int) ∧ ((phi t i a : Nat) : Int) < ((cutR t i).length : Int) by omega), decide_eq_true (show 0 ≤ (x : Int) ∧ (x : Int) < (t.length : Int) by omega), decide_eq_true (show 0 ≤ (a : Int) ∧ (a : Int) < (t.length : Int) by omega)]
theorem find_at {r : Root} (h : 0 ≤ findR t r) : ∃ k : Nat, findR t r = k ∧ k < t.length ∧ (t.getD k zNode).root = r := by
 have h1 := (findR_range t r).resolve_left (by omega)
 have h2 := find_root h
 exact ⟨(findR t r).toNat, by omega, by omega, h2⟩
theorem CutAt.find (h : CutAt t i) (r : Root) : findR (cutR t i) r = if 0 ≤ findR t r ∧ aboveF t i (findR t r) = true then (phi t i (findR t r).toNat : Int) else -1 := by
 by_cases hc : 0 ≤ findR t r ∧ aboveF t i (findR t r) = true
 · rw [if_pos hc]
   obtain ⟨k, h1, h2, h3⟩ := find_at hc.1
   have ka := hc.2
   rw [h1] at ka ⊢
   rw [Int.toNat_natCast]
   obtain ⟨h4, h5⟩ := h.at h2 ka
   have h6 := find_self h.may' h4
   rw [h5] at h6
   have h7 : (nodeC t i k).root = r := h3
   rwa [h7] at h6
 · rw [if_neg hc]
   refine (findR_range (cutR t i) r).resolve_right fun h1 => hc ?_
   obtain ⟨j, h2, h3, h4⟩ := find_at h1.1
   obtain ⟨k, h5, h6, h7⟩ := h.back h3
   subst h7
   rw [(h.at h5 h6).2] at h4
   have h8 : (t.getD k zNode).root = r := h4
   have h9 := find_self h.may h5
   rw [h8] at h9
   rw [h9]
   exact ⟨by omega, h6⟩
def inC (t : List Node) (i : Int) (r : Root) : Bool := decide (0 ≤ findR t r) && aboveF t i (findR t r)
theorem CutAt.find' (h : CutAt t i) (r : Root) : findR (cutR t i) r = if inC t i r then (phi t i (findR t r).toNat : Int) else -1 := by
 rw [h.find]
 unfold inC
 by_cases h1 : 0 ≤ findR t r <;> cases h2 : aboveF t i (findR t r) <;> simp [h1]
theorem CutAt.in_roots (h : CutAt t i) (r : Root) : r ∈ (cutR t i).map Node.root ↔ inC t i r = true := by
 rw [← find_mem h.may', h.find']
 cases inC t i r <;> simp
theorem inC_spec {r : Root} (h : inC t i r = true) : ∃ k : Nat, findR t r = k ∧ k < t.length ∧ aboveF t i k = true := by
 unfold inC at h
 rw [Bool.and_eq_true, decide_eq_true_eq] at h
 obtain ⟨k, h1, h2, _⟩ := find_at h.1
 exact ⟨k, h1, h2, by rw [← h1]; exact h.2⟩
theorem CutAt.behind (h : CutAt t i) {c f : Check} (hc : inC t i c.root = true) (hf : inC t i f.root = true) : behindB (cutR t i) c f = behindB t c f := by
 obtain ⟨k, h1, h2, h3⟩ := inC_spec hc
 obtain ⟨j, g1, g2, g3⟩ := inC_spec hf
 unfold behindB
 rw [h.find', h.find', hc, hf, if_pos rfl, if_pos rfl, h1, g1, Int.toNat_natCast, Int.toNat_natCast, h.aboveR g2 h2 g3 h3]
end
def insRt (es : List Root) (r : Root) : List Root := if r ∈ es then es else es ++ [r]
def rootE (r : Root) : AV × AV := (.root r, .bool true)
theorem tMap228 : tMap Tryz.prog 233 = some (34, 4) := by kernel_rfl
theorem keys228 (es : List Root) : keysFit Tryz.prog 34 (es.map rootE) := fun e he => by
 obtain ⟨x, _, rfl⟩ := List.mem_map.1 he
 exact fits23 x
theorem find_rootE (es : List Root) (r : Root) : (es.map rootE).findIdx? (fun e => (AV.root r).eqb e.1) = es.findIdx? fun e => decide (r = e) := by
 rw [List.findIdx?_map]
 congr 1
theorem found228 (es : List Root) (r : Root) : foundE (.root r) (es.map rootE) = if r ∈ es then some (.bool true) else none := by
 unfold foundE
 induction es with
 | nil => rfl
 | cons e es ih =>
  have hb : (AV.root r).eqb (rootE e).1 = decide (r = e) := rfl
  simp only [List.map_cons, List.find?_cons, hb]
  by_cases h : r = e
  · rw [decide_eq_true h, if_pos (by simp [h])]; rfl
  · rw [decide_eq_false h]
    have : (r ∈ e :: es) ↔ r ∈ es := by simp [h]
    simp only [this]
    exact ih
theorem look228 {hp : HP} {o : Nat} {es : List Root} {r : Root} {K : AV → Prop} (hg : HP.get hp o = some (.amap (es.map rootE))) (h : K (.bool (decide (r ∈ es)))) : lookupK Tryz.prog 233 hp (.mp o) (.root r) false K := by
 simp only [lookupK, tMap228, hg, ctZero4, Bool.false_eq_true, if_false]
 refine ⟨fits23 r, depth23 r, keys228 es, ?_⟩
 rw [found228]
 by_cases hm : r ∈ es
 · rw [if_pos hm]; rw [decide_eq_true hm] at h; exact h
 · rw [if_neg hm]; rw [decide_eq_false hm] at h; exact h
theorem upd228 {hp : HP} {o : Nat} {es : List Root} {r : Root} {K : AV → HP → Prop} (hg : HP.get hp o = some (.amap (es.map rootE))) (h : K (.tup []) (HP.set hp o (.amap ((insRt es r).map rootE)))) : mapUpdateK Tryz.prog 233 hp (.mp o) (.root r) (.bool true) K := by
 simp only [mapUpdateK, tMap228, hg]
 refine ⟨fits23 r, depth23 r, keys228 es, rfl, rfl, ?_⟩
 have : setE (.root r) (.bool true) (es.map rootE) = (insRt es r).map rootE := by
  unfold setE insRt
  rw [find_rootE]
  cases hf : es.findIdx? fun e => decide (r = e) with
  | none =>
   have hn : r ∉ es := fun hm => by simpa using List.findIdx?_eq_none_iff.1 hf r hm
   rw [if_neg hn, List.map_append]
   rfl
  | some k =>
   obtain ⟨h1, h2, _⟩ := List.findIdx?_eq_some_iff_getElem.1 hf
   have he : es[k] = r := (of_decide_eq_true h2).symm
   rw [if_pos (he ▸ List.getElem_mem h1)]
   show (es.map rootE).set k (rootE r) = es.map rootE
   rw [← he]
   apply List.ext_getElem (by simp)
   intro j h3 h4
   rw [List.getElem_set]
   split
   · rename_i hkj
     subst hkj
     simp
   · rfl
 rw [this]
 exact h
theorem insRt_mem (es : List Root) (r x : Root) : x ∈ insRt es r ↔ x ∈ es ∨ x = r := by
 unfold insRt
 split
 · rename_i h
   constructor
   · exact fun hx => .inl hx
   · rintro (hx | rfl)
     · exact hx
     · exact h
 · simp
def keepTo (rs : List Root) (i : Nat) : List Root := (rs.take i).foldl insRt []
theorem foldl_insRt (x : Root) : ∀ (rs es : List Root), x ∈ rs.foldl insRt es ↔ x ∈ es ∨ x ∈ rs
 | [], es => by simp
 | c :: rs, es => by
  rw [List.foldl_cons, foldl_insRt x rs (insRt es c), insRt_mem]
  simp only [List.mem_cons]
  constructor
  · rintro ((h | h) | h)
    · exact .inl h
    · exact .inr (.inl h)
    · exact .inr (.inr h)
  · rintro (h | h | h)
    · exact .inl (.inl h)
    · exact .inl (.inr h)
    · exact .inr h
def dropX (rs : List Root) (x : Latest) : Latest := if x.root ∈ rs then x else zLatest
def dropL (rs : List Root) (vl : List Latest) : List Latest := vl.map (dropX rs)
def dropTo (rs : List Root) (vl : List Latest) (i : Nat) : List Latest := dropL rs (vl.take i) ++ vl.drop i
theorem dropTo_next (rs : List Root) (vl : List Latest) (i : Nat) (h : i < vl.length) : dropTo rs vl (i + 1) = (dropTo rs vl i).set i (dropX rs vl[i]) := by
 have hl : (dropL rs (vl.take i)).length = i := by rw [dropL, List.length_map, List.length_take, Nat.min_eq_left (by omega)]
 unfold dropTo
 rw [List.set_append_right _ _ (by omega), hl, Nat.sub_self, List.drop_eq_getElem_cons h, List.set_cons_zero, List.take_add_one, List.getElem?_eq_getElem h, Option.toList_some, dropL, List.map_append, List.append_assoc]
 rfl
theorem dropTo_at (rs : List Root) (vl : List Latest) (i : Nat) (h : i < vl.length) : (dropTo rs vl i)[i]? = some vl[i] := by
 have hl : (dropL rs (vl.take i)).length = i := by rw [dropL, List.length_map, List.length_take, Nat.min_eq_left (by omega)]
 unfold dropTo
 rw [List.getElem?_append_right (by omega), hl, Nat.sub_self, List.getElem?_drop, Nat.add_zero, List.getElem?_eq_getElem h]
theorem vdrop_w (vl : List Latest) (o : Int) (rs : List Root) (hl : vl.length ≤ 100000) (hr : rs.length ≤ 100000) (hm : vmayB vl o = true) : Cal Tryz.prog 127 [vav vl o, .sl (rs.map AV.root) false] (vav (dropL rs vl) o) := by
 have o1 := vown_o vl o hl
 have c1 := vmay_c vl o
 rw [hm] at c1
 have hR : Tryz.f127.results.toList = [.cell 4 29] := rfl
 refine cal_tr Tryz.func127 rfl fun E hE hP => ?_
 refine mW ?_
 refine Tr.loop (fun i : Nat => (⟨[(4, .ptr 0 [] 0), (5, .ptr 1 [] 0), (6, .mp 3), (18, .sl (rs.map AV.root) false), (19, .int .i64 rs.length), (20, .int .i64 i)], [(0, .var (.st [.sl [] true, .int .u64 0])), (1, .var (.st [.ms 2 34 vl.length, .int .u64 o])), (2, .row 34 (vl.map Latest.av)), (3, .amap ((keepTo rs i).map rootE))], 4, []⟩ : S)) (fun i => i ≤ rs.length) (fun i => rs.length - i) 0 (Nat.zero_le _) ?_ ?_
 · refine wk_ren (fun | 0 => 16 | 1 => 64 | 2 => 48 | 3 => 144 | n => n) mB mB rfl rfl rfl
 · intro i hi
   by_cases hlt : i < rs.length
   · have e1 : decide ((i : Int) < (rs.length : Int)) = true := dtO
     have hn := nth_map_lt AV.root rs i hlt
     have hw := wN i
     have hnx : keepTo rs (i + 1) = insRt (keepTo rs i) rs[i] := foldl_next insRt [] hlt
     generalize keepTo rs i = es at hnx
     generalize rs[i] = r at hn hnx
     have ff := And.intro e1 (And.intro hn hw)
     refine mW ?_
     apply tr_ml xE
     intro Q hQ
     refine mS ?_
     iterate 2 refine mV ?_
     refine vm_op ?_; intro r hr; simp only [go_sem, seval]
     refine upd228 rfl ?_
     try simp only [go_sem, seval]
     subst hr
     exact hQ
     refine mW ?_
     refine ⟨i + 1, hlt, by omega, ?_⟩
     rw [hnx]
     exact mK
   · have e1 : decide ((i : Int) < (rs.length : Int)) = false := dfO
     have hil : i = rs.length := by omega
     subst hil
     have hes : ∀ r, r ∈ keepTo rs rs.length ↔ r ∈ rs := fun r => by
      unfold keepTo
      rw [List.take_length, foldl_insRt]
      simp
     generalize keepTo rs rs.length = es at hes
     have ff := e1
     refine mW ?_
     refine Tr.loop (fun i : Nat => (⟨[(4, .ptr 0 [] 0), (5, .ptr 1 [] 0), (6, .mp 3), (28, .ms 2 34 vl.length), (29, .int .i64 vl.length), (30, .int .i64 i)], [(0, .var (.st [.sl [] true, .int .u64 0])), (1, .var (.st [.ms 2 34 vl.length, .int .u64 o])), (2, .row 34 ((dropTo rs vl i).map Latest.av)), (3, .amap (es.map rootE))], 4, []⟩ : S)) (fun i => i ≤ vl.length) (fun i => vl.length - i) 0 (Nat.zero_le _) ?_ ?_
     · have e0 : dropTo rs vl 0 = vl := rfl
       rw [e0]
       exact mK
     · intro i hi
       by_cases hlt : i < vl.length
       · have e1 : decide ((i : Int) < (vl.length : Int)) = true := dtO
         have hw := wN i
         have hat := dropTo_at rs vl i hlt
         have hnx := dropTo_next rs vl i hlt
         have hx : ((dropTo rs vl i).map Latest.av)[i]? = some vl[i].av := by rw [List.getElem?_map, hat]; rfl
         generalize dropTo rs vl i = L at hat hnx hx
         generalize vl[i] = x at hat hnx hx
         have ff := And.intro e1 (And.intro hx hw)
         refine mW ?_
         by_cases hc : x.root ∈ es
         · have ec : decide (x.root ∈ es) = true := decide_eq_true hc
           first | apply tr_m xE | (refine Tr.seq ?_; apply tr_m xE)
           intro Q hQ
           refine mS ?_
           iterate 3 (refine vm_op ?_; intro r hr; simp only [ec, go_sem, seval]; subst hr)
           refine vm_op ?_; intro r hr; simp only [ec, go_sem, seval]
           refine look228 rfl ?_
           try simp only [ec, go_sem, seval]
           subst hr
           refine vm_op ?_; intro r hr; simp only [ec, go_sem, seval]; subst hr
           exact hQ
           refine mW ?_
           refine ⟨i + 1, hlt, by omega, ?_⟩
           have hd : dropX rs x = x := if_pos ((hes _).1 hc)
           have hs : L.set i x = L := by
            refine List.ext_getElem? fun j => ?_
            rw [List.getElem?_set]
            split
            · next hij =>
              subst hij
              rw [if_pos (List.getElem?_eq_some_iff.1 hat).1, hat]
            · rfl
           rw [hnx, hd, hs]
           exact mK
         · have ec : decide (x.root ∈ es) = false := decide_eq_false hc
           first | apply tr_m xE | (refine Tr.seq ?_; apply tr_m xE)
           intro Q hQ
           refine mS ?_
           iterate 3 (refine vm_op ?_; intro r hr; simp only [ec, go_sem, seval]; subst hr)
           refine vm_op ?_; intro r hr; simp only [ec, go_sem, seval]
           refine look228 rfl ?_
           try simp only [ec, go_sem, seval]
           subst hr
           refine vm_op ?_; intro r hr; simp only [ec, go_sem, seval]; subst hr
           exact hQ
           refine mW ?_
           refine ⟨i + 1, hlt, by omega, ?_⟩
           have hd : dropX rs x = zLatest := if_neg (fun h => hc ((hes _).2 h))
           rw [hnx, hd, List.map_set]
           exact mK
       · have e1 : decide ((i : Int) < (vl.length : Int)) = false := dfO
         have hil : i = vl.length := by omega
         subst hil
         have hL : dropTo rs vl vl.length = dropL rs vl := by unfold dropTo; rw [List.take_length, List.drop_length, List.append_nil]
         have hlen : ((dropL rs vl).map Latest.av).length = vl.length := by rw [List.length_map, dropL, List.length_map]
         rw [hL]
         generalize dropL rs vl = D at hlen
         have ff := e1
         refine mW ?_
         refine Tr.wk (Wk.frzH [2]) ?_
         simp only [frzHP, frzA, AV.frz, AV.frzL, List.map_cons, List.map_nil, hlen, go_sem, seval]
         exact mX
end Go.Proofs.YtekjdikofhdcpaaGreatDoor
set_option linter.unusedSimpArgs false
set_option maxRecDepth 10000
namespace Go.Proofs.YtekjdikofhdcpaaGreatDoor
open Go Go.Ab Go.RowKit
def partV (t : List Node) (bl : List Latest) (b : List Int) (i : Nat) (x : Latest) (j : Nat) : Int :=
 if skipB bl i x then 0 else if findR t x.root < 0 then 0 else if (findR t x.root).toNat = j then b.getD i 0 else 0
theorem votS_at {t : List Node} {bl : List Latest} {b out : List Int} {i : Nat} {x : Latest} {j : Nat} (hl : out.length = t.length) (hb : 0 ≤ b.getD i 0 ∧ b.getD i 0 ≤ 1099511627776) (hs : small 9223372036854775808 out) : (votS t bl b out i x).getD j 0 = out.getD j 0 + partV t bl b i x j := by
 unfold votS partV
 split
 · omega
 · split
   · omega
   · have hr := (findR_range t x.root).resolve_left (by omega)
     have h1 := hs (findR t x.root).toNat
     rw [addAt, getD_set]
     by_cases h : (findR t x.root).toNat = j
     · rw [if_pos ⟨h, by omega⟩, if_pos h, wrapU_lt (by omega) (by omega), h]
     · rw [if_neg (fun hh => h hh.1), if_neg h]
       omega
theorem vot_at {t : List Node} {vl bl : List Latest} {b : List Int} (hb : okB b) (hS : mayS b = true) (i : Nat) (hi : i ≤ 100000) (j : Nat) : (votTo t vl bl b (i + 1)).getD j 0 = (votTo t vl bl b i).getD j 0 + partV t bl b i (vl.getD i zLatest) j := by
 rw [votTo]
 refine votS_at (votTo_len _ _ _ _ _) ?_ fun k => ?_
 · by_cases hi : i < b.length
   · exact bal_range hS hb hi
   · rw [List.getD_eq_getElem?_getD, List.getElem?_eq_none (by omega)]; simp
 · have := small_vot (t := t) (vl := vl) (bl := bl) hb hS i (by omega) k
   omega
theorem skip_nil (i : Nat) (x : Latest) : skipB [] i x = !x.has := by
 unfold skipB
 have : decide (i < ([] : List Latest).length) = false := decide_eq_false (Nat.not_lt_zero i)
 rw [this, Bool.false_and, Bool.or_false]
theorem part_eq (t : List Node) (bl : List Latest) (b : List Int) (i : Nat) (x : Latest) (j : Nat) (hi : i < bl.length) : partV t bl b i x j = if bl.getD i zLatest = x then 0 else partV t [] b i x j := by
 unfold partV
 rw [skip_nil]
 have h1 : decide (i < bl.length) = true := decide_eq_true hi
 unfold skipB
 rw [h1, Bool.true_and]
 by_cases h : bl.getD i zLatest = x
 · rw [if_pos h, decide_eq_true h, Bool.or_true, if_pos rfl]
 · rw [if_neg h, decide_eq_false h, Bool.or_false]
theorem vot_lin {t : List Node} {vl wl : List Latest} {b : List Int} (hb : okB b) (hS : mayS b = true) (hl : wl.length = vl.length) : ∀ n, n ≤ vl.length → n ≤ 100000 → ∀ j, (votTo t wl [] b n).getD j 0 + (votTo t vl wl b n).getD j 0 = (votTo t vl [] b n).getD j 0 + (votTo t wl vl b n).getD j 0
 | 0, _, _, j => rfl
 | n + 1, h, h2, j => by
  have ih := vot_lin (t := t) hb hS hl n (by omega) (by omega) j
  rw [vot_at hb hS n (by omega), vot_at hb hS n (by omega), vot_at hb hS n (by omega), vot_at hb hS n (by omega), part_eq t wl b n _ j (by omega), part_eq t vl b n _ j (by omega)]
  by_cases he : wl.getD n zLatest = vl.getD n zLatest
  · rw [if_pos he, if_pos he.symm, he]
    omega
  · rw [if_neg he, if_neg (fun h => he h.symm)]
    omega
theorem up_lin {t : List Node} {A B C D : List Int} (hl : B.length = A.length ∧ C.length = A.length ∧ D.length = A.length) (h : ∀ j, A.getD j 0 + B.getD j 0 = C.getD j 0 + D.getD j 0) (i : Nat) : ∀ j, (upW t A i).getD j 0 + (upW t B i).getD j 0 = (upW t C i).getD j 0 + (upW t D i).getD j 0 := fun j => by
 unfold upW
 split
 · exact h j
 · rw [getD_set, getD_set, getD_set, getD_set, hl.1, hl.2.1, hl.2.2]
   by_cases hk : (parI t i).toNat = j ∧ (parI t i).toNat < A.length
   · rw [if_pos hk, if_pos hk, if_pos hk, if_pos hk]
     have h1 := h (parI t i).toNat
     have h2 := h i
     omega
   · rw [if_neg hk, if_neg hk, if_neg hk, if_neg hk]
     exact h j
theorem sub_lin {t : List Node} {A B C D : List Int} (hl : B.length = A.length ∧ C.length = A.length ∧ D.length = A.length) (h : ∀ j, A.getD j 0 + B.getD j 0 = C.getD j 0 + D.getD j 0) : ∀ m j, (subTo t A m).getD j 0 + (subTo t B m).getD j 0 = (subTo t C m).getD j 0 + (subTo t D m).getD j 0
 | 0, j => h j
 | m + 1, j => by
  rw [subTo, subTo, subTo, subTo]
  refine up_lin ?_ (sub_lin hl h m) _ j
  rw [subTo_len, subTo_len, subTo_len, subTo_len]
  exact hl
theorem weights_lin {t : List Node} {vl wl : List Latest} {b : List Int} (hb : okB b) (hS : mayS b = true) (hl : wl.length = vl.length) (hv : vl.length ≤ 100000) (j : Nat) : (weights t wl b).getD j 0 + (subW t (votTo t vl wl b vl.length)).getD j 0 = (weights t vl b).getD j 0 + (subW t (votTo t wl vl b wl.length)).getD j 0 := by
 unfold weights subW ownW
 rw [hl]
 refine sub_lin ?_ (fun k => vot_lin (t := t) hb hS hl vl.length (Nat.le_refl _) hv k) t.length j
 rw [votTo_len, votTo_len, votTo_len, votTo_len]
 exact ⟨rfl, rfl, rfl⟩
theorem of_c (t : List Node) (vl wl : List Latest) (o p : Int) (b : List Int) (h1 : fitB t vl o b = true) (h2 : fitB t wl p b = true) : Cal Tryz.prog 191 [tav t, vav vl o, vav wl p, u64s b] (.tup [u64s (votTo t wl vl b wl.length), u64s (votTo t vl wl b vl.length), .bool true]) := by
 obtain ⟨hm, hv, hS, hl⟩ := fit_spec h1
 obtain ⟨_, hv2, _, hl2⟩ := fit_spec h2
 have hml := may_len hm
 have h8 := (mayS_spec hS).2.1
 have c1 := fit_c t vl o b
 have c2 := fit_c t wl p b
 rw [h1] at c1
 rw [h2] at c2
 have c3 := sum_c t wl vl p o b (by omega) (by omega) (by omega)
 have c4 := sum_c t vl wl o p b (by omega) (by omega) (by omega)
 have hR : Tryz.f191.results.toList = [.tmp 8, .tmp 9, .tmp 10] := rfl
 refine cal_tr Tryz.func191 rfl fun E hE hP => ?_
 exact mX
theorem sub64_x (x y : Nat) (h : y ≤ x) (hx : x < 18446744073709551616) : extR Tryz.prog 248 [.int .u64 x, .int .u64 y, .int .u64 0] (.tup [.int .u64 (x - y : Nat), .int .u64 0]) := by
 intro C vals hv w
 obtain ⟨a, r, rfl, ha, b, r, rfl, hb, c, r, rfl, hc, rfl⟩ := hv
 have ha : a = .int .u64 x := RepT.int_of (.inr ha)
 have hb : b = .int .u64 y := RepT.int_of (.inr hb)
 have hc : c = .int .u64 0 := RepT.int_of (.inr hc)
 subst ha; subst hb; subst hc
 refine ⟨.tuple #[.int .u64 ((x + 18446744073709551616 - y - 0) % 18446744073709551616 : Nat), .int .u64 (if x < y + 0 then 1 else 0 : Nat)], ?_, ?_⟩
 · rfl
 · rw [if_neg (by omega), show (x + 18446744073709551616 - y - 0) % 18446744073709551616 = x - y by omega]
   exact ⟨[.int .u64 ((x - y : Nat) : Int), .int .u64 0], rfl, _, _, rfl, ⟨by simp [Rep, Value.cells], rfl, rfl⟩, _, _, rfl, ⟨by simp [Rep, Value.cells], rfl, rfl⟩, rfl⟩
theorem with_c (x y z : Nat) (h : x + y < 18446744073709551616) (hz : z ≤ x + y) : Cal Tryz.prog 233 [.int .u64 x, .int .u64 y, .int .u64 z] (.tup [.int .u64 (x + y - z : Nat), .bool true]) := by
 have z1 := add64_x x y h
 have h2 := sub64_x (x + y) z hz h
 have hR : Tryz.f233.results.toList = [.tmp 6, .tmp 7] := rfl
 refine cal_tr Tryz.func233 rfl fun E hE hP => ?_
 refine mr ?_
 refine mr ?_
 clear z1
 have z1 := h2
 refine mr ?_
 refine mr ?_
 exact mX
end Go.Proofs.YtekjdikofhdcpaaGreatDoor
set_option linter.unusedSimpArgs false
set_option maxRecDepth 10000
namespace Go.Proofs.YtekjdikofhdcpaaGreatDoor
open Go Go.Ab
theorem nth_uav {l : List Int} {i : Nat} (h : i < l.length) : nth (l.map uav) (i : Int) = some (.int .u64 (l.getD i 0)) := by
 rw [nth_map_lt uav l i h, List.getD_eq_getElem?_getD, List.getElem?_eq_getElem h]
 rfl
theorem take_uav {l : List Int} {i : Nat} (h : i < l.length) : (l.take (i + 1)).map uav = (l.take i).map uav ++ [.int .u64 (l.getD i 0)] := by
 rw [List.take_add_one, List.getElem?_eq_getElem h, Option.toList_some, List.map_append, List.getD_eq_getElem?_getD, List.getElem?_eq_getElem h]
 rfl
theorem pass_w (t : List Node) (w p m P M W : List Int) (c1 : Cal Tryz.prog 162 [tav t, u64s p] (.tup [u64s P, .bool true])) (c2 : Cal Tryz.prog 162 [tav t, u64s m] (.tup [u64s M, .bool true])) (hn : w.length ≤ 100000) (hP : P.length = w.length) (hM : M.length = w.length) (hW : W.length = w.length)
 (h : ∀ j, 0 ≤ w.getD j 0 ∧ 0 ≤ P.getD j 0 ∧ 0 ≤ M.getD j 0 ∧ w.getD j 0 + P.getD j 0 < 18446744073709551616 ∧ 0 ≤ W.getD j 0 ∧ W.getD j 0 + M.getD j 0 = w.getD j 0 + P.getD j 0) : Cal Tryz.prog 192 [tav t, u64s w, u64s p, u64s m] (.tup [u64s W, .bool true]) := by
 have e0 : decide ((w.length : Int) = (P.length : Int)) = true := dtO
 have ff := e0
 have hR : Tryz.f192.results.toList = [.tmp 8, .tmp 9] := rfl
 refine cal_tr Tryz.func192 rfl fun E hE hP => ?_
 refine mW ?_
 refine Tr.wk (Wk.nil 14 1 rfl) ?_
 refine Tr.loop (fun i : Nat => (⟨[(1, .sl (w.map uav) false), (10, .sl (P.map uav) false), (12, .sl (M.map uav) false), (14, .ms 0 1 i), (44, .int .i64 w.length), (45, .int .i64 i)], [(0, .row 1 ((W.take i).map uav))], 1, []⟩ : S)) (fun i => i ≤ w.length) (fun i => w.length - i) 0 (Nat.zero_le _) ?_ ?_
 · refine wk_ren (fun | 0 => 576 | n => n) mB mB rfl rfl rfl
 · intro i hi
   by_cases hlt : i < w.length
   · have e1 : decide ((i : Int) < (w.length : Int)) = true := dtO
     have n1 := nth_uav (l := w) hlt
     have n2 := nth_uav (l := P) (i := i) (by omega)
     have n3 := nth_uav (l := M) (i := i) (by omega)
     have n4 := take_uav (l := W) (i := i) (by omega)
     have hlen : ((W.take i).map uav).length = i := by rw [List.length_map, List.length_take]; omega
     obtain ⟨h1, h2, h3, h4, h5, h6⟩ := h i
     have hw := wN i
     obtain ⟨x, hx⟩ : ∃ x : Nat, w.getD i 0 = x := ⟨(w.getD i 0).toNat, by omega⟩
     obtain ⟨y, hy⟩ : ∃ y : Nat, P.getD i 0 = y := ⟨(P.getD i 0).toNat, by omega⟩
     obtain ⟨z, hz⟩ : ∃ z : Nat, M.getD i 0 = z := ⟨(M.getD i 0).toNat, by omega⟩
     have hv : W.getD i 0 = ((x + y - z : Nat) : Int) := by omega
     have c3 := with_c x y z (by omega) (by omega)
     rw [hx] at n1
     rw [hy] at n2
     rw [hz] at n3
     rw [hv] at n4
     generalize (x + y - z : Nat) = u at c3 n4
     generalize (W.take i).map uav = R at hlen n4 ⊢
     have ff := And.intro e1 (And.intro n1 (And.intro n2 (And.intro n3 (And.intro hw hlen))))
     refine mW ?_
     refine ⟨i + 1, hlt, by omega, ?_⟩
     rw [n4]
     refine wk_ren (fun | 0 => 417 | n => n) mB mB rfl rfl rfl
   · have e1 : decide ((i : Int) < (w.length : Int)) = false := dfO
     have hil : i = W.length := by omega
     subst hil
     have ff := e1
     rw [List.take_length]
     exact mX
def wH (e : Eng) (b : Block) (x : Att) (c : Ask) : HP := [(0, .tab 0 tabV), (1, .var (workA e b x c))]
theorem place_t (e : Eng) (b : Block) (x : Att) (c : Ask) (r : Root) : CalE Tryz.prog 124 [.ptr 1 [] 0, .root r] 2 (wH e b x c) (.int .i64 (findR e.t r)) (wH e b x c) := by
 have c1 := And.intro (en Tryz.func57) (find_pure e.t r)
 unfold wH
 have hR : Tryz.f124.results.toList = [.tmp 4] := rfl
 refine calE_tr Tryz.func124 rfl fun E hE hP => ?_
 exact mX
def fitsR (e : Eng) (a : Att) : Int :=
 if a.val < 0 ∨ (e.b.length : Int) ≤ a.val then 10
 else if findR e.t a.head < 0 ∨ findR e.t a.source.root < 0 ∨ findR e.t a.target.root < 0 then 5
 else if a.target.epoch ≤ a.source.epoch ∨ aboveR e.t (findR e.t a.source.root) (findR e.t a.target.root) = false ∨ aboveR e.t (findR e.t a.target.root) (findR e.t a.head) = false then 9 else 0
theorem fits_10 (e : Eng) (b : Block) (x : Att) (c : Ask) (a : Att) (h : a.val < 0 ∨ (e.b.length : Int) ≤ a.val) : CalE Tryz.prog 121 [.ptr 1 [] 0, a.av] 2 (wH e b x c) (.int .i64 10) (wH e b x c) := by
 by_cases h0 : a.val < 0
 · have e0 : decide (a.val < 0) = true := decide_eq_true h0
   have ff := e0
   have y1 := place_t e b x c a.head
   have y2 := place_t e b x c a.source.root
   have y3 := place_t e b x c a.target.root
   generalize findR e.t a.head = H at *
   generalize findR e.t a.source.root = S at *
   generalize findR e.t a.target.root = T at *
   unfold wH at y1 y2 y3
   unfold wH
   have hR : Tryz.f121.results.toList = [.tmp 4] := rfl
   refine calE_tr Tryz.func121 rfl fun E hE hP => ?_
   refine mr ?_
   refine tr_seq_plan mixed [2] (.one 0 (.one 1 (.one 2 (.one 4 (.one 5 (.one 6 (.one 7 (.one 9 (.one 10 (.one 11 (.one 12 (.one 3 (.one 8 (.one 13 (.one 14 (.one 15 (.one 16 .done))))))))))))))))) (⟨[(0, .ptr 1 [] 0), (3, .ptr 2 [] 0), (4, .int .i64 0), (5, .int .i64 H), (6, .int .i64 S), (7, .int .i64 T)], [(0, .tab 0 tabV), (1, .var (workA e b x c)), (2, .var a.av)], 3, []⟩) rfl xE kR ?_ ?_
   · simp only [List.map_cons, List.map_nil]
     iterate 11 refine pQ ?_
     refine pX ?_
     refine call_eff (fun n => n) [false, true] [] rfl rfl rfl rfl (en Tryz.func124) (y1.2) rfl rfl mB rfl rfl rfl ?_
     refine mR ?_
     refine pX ?_
     refine call_eff (fun n => n) [false, true] [] rfl rfl rfl rfl (en Tryz.func124) (y2.2) rfl rfl mB rfl rfl rfl ?_
     refine mR ?_
     refine pX ?_
     refine call_eff (fun n => n) [false, true] [] rfl rfl rfl rfl (en Tryz.func124) (y3.2) rfl rfl mB rfl rfl rfl ?_
     refine mR ?_
     iterate 3 refine pQ ?_
     refine pl_done (st := _) ?_ rfl
     exact mK
   exact mX
 · have e0 : decide (a.val < 0) = false := decide_eq_false h0
   have e1 : decide ((e.b.length : Int) ≤ a.val) = true := decide_eq_true (h.resolve_left h0)
   have ff := And.intro e0 e1
   have y1 := place_t e b x c a.head
   have y2 := place_t e b x c a.source.root
   have y3 := place_t e b x c a.target.root
   generalize findR e.t a.head = H at *
   generalize findR e.t a.source.root = S at *
   generalize findR e.t a.target.root = T at *
   unfold wH at y1 y2 y3
   unfold wH
   have hR : Tryz.f121.results.toList = [.tmp 4] := rfl
   refine calE_tr Tryz.func121 rfl fun E hE hP => ?_
   refine mr ?_
   refine tr_seq_plan mixed [2] (.one 0 (.one 1 (.one 2 (.one 4 (.one 5 (.one 6 (.one 7 (.one 9 (.one 10 (.one 11 (.one 12 (.one 3 (.one 8 (.one 13 (.one 14 (.one 15 (.one 16 .done))))))))))))))))) (⟨[(0, .ptr 1 [] 0), (3, .ptr 2 [] 0), (4, .int .i64 0), (5, .int .i64 H), (6, .int .i64 S), (7, .int .i64 T)], [(0, .tab 0 tabV), (1, .var (workA e b x c)), (2, .var a.av)], 3, []⟩) rfl xE kR ?_ ?_
   · simp only [List.map_cons, List.map_nil]
     iterate 11 refine pQ ?_
     refine pX ?_
     refine call_eff (fun n => n) [false, true] [] rfl rfl rfl rfl (en Tryz.func124) (y1.2) rfl rfl mB rfl rfl rfl ?_
     refine mR ?_
     refine pX ?_
     refine call_eff (fun n => n) [false, true] [] rfl rfl rfl rfl (en Tryz.func124) (y2.2) rfl rfl mB rfl rfl rfl ?_
     refine mR ?_
     refine pX ?_
     refine call_eff (fun n => n) [false, true] [] rfl rfl rfl rfl (en Tryz.func124) (y3.2) rfl rfl mB rfl rfl rfl ?_
     refine mR ?_
     iterate 3 refine pQ ?_
     refine pl_done (st := _) ?_ rfl
     exact mK
   exact mX
theorem fits_5 (e : Eng) (b : Block) (x : Att) (c : Ask) (a : Att) (h : ¬ (a.val < 0 ∨ (e.b.length : Int) ≤ a.val)) (h2 : findR e.t a.head < 0 ∨ findR e.t a.source.root < 0 ∨ findR e.t a.target.root < 0) : CalE Tryz.prog 121 [.ptr 1 [] 0, a.av] 2 (wH e b x c) (.int .i64 5) (wH e b x c) := by
 have e0 : decide (a.val < 0) = false := decide_eq_false (fun hh => h (.inl hh))
 have e1 : decide ((e.b.length : Int) ≤ a.val) = false := decide_eq_false (fun hh => h (.inr hh))
 by_cases k1 : findR e.t a.head < 0
 · have e2 : decide (findR e.t a.head < 0) = true := decide_eq_true k1
   have ff := And.intro e0 (And.intro e1 e2)
   have y1 := place_t e b x c a.head
   have y2 := place_t e b x c a.source.root
   have y3 := place_t e b x c a.target.root
   generalize findR e.t a.head = H at *
   generalize findR e.t a.source.root = S at *
   generalize findR e.t a.target.root = T at *
   unfold wH at y1 y2 y3
   unfold wH
   have hR : Tryz.f121.results.toList = [.tmp 4] := rfl
   refine calE_tr Tryz.func121 rfl fun E hE hP => ?_
   refine mr ?_
   refine tr_seq_plan mixed [2] (.one 0 (.one 1 (.one 2 (.one 4 (.one 5 (.one 6 (.one 7 (.one 9 (.one 10 (.one 11 (.one 12 (.one 3 (.one 8 (.one 13 (.one 14 (.one 15 (.one 16 .done))))))))))))))))) (⟨[(0, .ptr 1 [] 0), (3, .ptr 2 [] 0), (4, .int .i64 0), (5, .int .i64 H), (6, .int .i64 S), (7, .int .i64 T)], [(0, .tab 0 tabV), (1, .var (workA e b x c)), (2, .var a.av)], 3, []⟩) rfl xE kR ?_ ?_
   · simp only [List.map_cons, List.map_nil]
     iterate 11 refine pQ ?_
     refine pX ?_
     refine call_eff (fun n => n) [false, true] [] rfl rfl rfl rfl (en Tryz.func124) (y1.2) rfl rfl mB rfl rfl rfl ?_
     refine mR ?_
     refine pX ?_
     refine call_eff (fun n => n) [false, true] [] rfl rfl rfl rfl (en Tryz.func124) (y2.2) rfl rfl mB rfl rfl rfl ?_
     refine mR ?_
     refine pX ?_
     refine call_eff (fun n => n) [false, true] [] rfl rfl rfl rfl (en Tryz.func124) (y3.2) rfl rfl mB rfl rfl rfl ?_
     refine mR ?_
     iterate 3 refine pQ ?_
     refine pl_done (st := _) ?_ rfl
     exact mK
   exact mX
 · have e2 : decide (findR e.t a.head < 0) = false := decide_eq_false k1
   by_cases k2 : findR e.t a.source.root < 0
   · have e3 : decide (findR e.t a.source.root < 0) = true := decide_eq_true k2
     have ff := And.intro e0 (And.intro e1 (And.intro e2 e3))
     have y1 := place_t e b x c a.head
     have y2 := place_t e b x c a.source.root
     have y3 := place_t e b x c a.target.root
     generalize findR e.t a.head = H at *
     generalize findR e.t a.source.root = S at *
     generalize findR e.t a.target.root = T at *
     unfold wH at y1 y2 y3
     unfold wH
     have hR : Tryz.f121.results.toList = [.tmp 4] := rfl
     refine calE_tr Tryz.func121 rfl fun E hE hP => ?_
     refine mr ?_
     refine tr_seq_plan mixed [2] (.one 0 (.one 1 (.one 2 (.one 4 (.one 5 (.one 6 (.one 7 (.one 9 (.one 10 (.one 11 (.one 12 (.one 3 (.one 8 (.one 13 (.one 14 (.one 15 (.one 16 .done))))))))))))))))) (⟨[(0, .ptr 1 [] 0), (3, .ptr 2 [] 0), (4, .int .i64 0), (5, .int .i64 H), (6, .int .i64 S), (7, .int .i64 T)], [(0, .tab 0 tabV), (1, .var (workA e b x c)), (2, .var a.av)], 3, []⟩) rfl xE kR ?_ ?_
     · simp only [List.map_cons, List.map_nil]
       iterate 11 refine pQ ?_
       refine pX ?_
       refine call_eff (fun n => n) [false, true] [] rfl rfl rfl rfl (en Tryz.func124) (y1.2) rfl rfl mB rfl rfl rfl ?_
       refine mR ?_
       refine pX ?_
       refine call_eff (fun n => n) [false, true] [] rfl rfl rfl rfl (en Tryz.func124) (y2.2) rfl rfl mB rfl rfl rfl ?_
       refine mR ?_
       refine pX ?_
       refine call_eff (fun n => n) [false, true] [] rfl rfl rfl rfl (en Tryz.func124) (y3.2) rfl rfl mB rfl rfl rfl ?_
       refine mR ?_
       iterate 3 refine pQ ?_
       refine pl_done (st := _) ?_ rfl
       exact mK
     exact mX
   · have e3 : decide (findR e.t a.source.root < 0) = false := decide_eq_false k2
     have e4 : decide (findR e.t a.target.root < 0) = true := decide_eq_true ((h2.resolve_left k1).resolve_left k2)
     have ff := And.intro e0 (And.intro e1 (And.intro e2 (And.intro e3 e4)))
     have y1 := place_t e b x c a.head
     have y2 := place_t e b x c a.source.root
     have y3 := place_t e b x c a.target.root
     generalize findR e.t a.head = H at *
     generalize findR e.t a.source.root = S at *
     generalize findR e.t a.target.root = T at *
     unfold wH at y1 y2 y3
     unfold wH
     have hR : Tryz.f121.results.toList = [.tmp 4] := rfl
     refine calE_tr Tryz.func121 rfl fun E hE hP => ?_
     refine mr ?_
     refine tr_seq_plan mixed [2] (.one 0 (.one 1 (.one 2 (.one 4 (.one 5 (.one 6 (.one 7 (.one 9 (.one 10 (.one 11 (.one 12 (.one 3 (.one 8 (.one 13 (.one 14 (.one 15 (.one 16 .done))))))))))))))))) (⟨[(0, .ptr 1 [] 0), (3, .ptr 2 [] 0), (4, .int .i64 0), (5, .int .i64 H), (6, .int .i64 S), (7, .int .i64 T)], [(0, .tab 0 tabV), (1, .var (workA e b x c)), (2, .var a.av)], 3, []⟩) rfl xE kR ?_ ?_
     · simp only [List.map_cons, List.map_nil]
       iterate 11 refine pQ ?_
       refine pX ?_
       refine call_eff (fun n => n) [false, true] [] rfl rfl rfl rfl (en Tryz.func124) (y1.2) rfl rfl mB rfl rfl rfl ?_
       refine mR ?_
       refine pX ?_
       refine call_eff (fun n => n) [false, true] [] rfl rfl rfl rfl (en Tryz.func124) (y2.2) rfl rfl mB rfl rfl rfl ?_
       refine mR ?_
       refine pX ?_
       refine call_eff (fun n => n) [false, true] [] rfl rfl rfl rfl (en Tryz.func124) (y3.2) rfl rfl mB rfl rfl rfl ?_
       refine mR ?_
       iterate 3 refine pQ ?_
       refine pl_done (st := _) ?_ rfl
       exact mK
     exact mX
theorem fits_9 (e : Eng) (b : Block) (x : Att) (c : Ask) (a : Att) (h : ¬ (a.val < 0 ∨ (e.b.length : Int) ≤ a.val)) (h2 : ¬ (findR e.t a.head < 0 ∨ findR e.t a.source.root < 0 ∨ findR e.t a.target.root < 0)) (h3 : a.target.epoch ≤ a.source.epoch ∨ aboveR e.t (findR e.t a.source.root) (findR e.t a.target.root) = false ∨ aboveR e.t (findR e.t a.target.root) (findR e.t a.head) = false) : CalE Tryz.prog 121 [.ptr 1 [] 0, a.av] 2 (wH e b x c) (.int .i64 9) (wH e b x c) := by
 have e0 : decide (a.val < 0) = false := decide_eq_false (fun hh => h (.inl hh))
 have e1 : decide ((e.b.length : Int) ≤ a.val) = false := decide_eq_false (fun hh => h (.inr hh))
 rw [not_or, not_or] at h2
 have e2 : decide (findR e.t a.head < 0) = false := decide_eq_false h2.1
 have e3 : decide (findR e.t a.source.root < 0) = false := decide_eq_false h2.2.1
 have e4 : decide (findR e.t a.target.root < 0) = false := decide_eq_false h2.2.2
 have c1 := And.intro (en Tryz.func98) (above_pure e.t (findR e.t a.source.root) (findR e.t a.target.root))
 have c2 := And.intro (en Tryz.func98) (above_pure e.t (findR e.t a.target.root) (findR e.t a.head))
 by_cases k1 : a.target.epoch ≤ a.source.epoch
 · have e5 : decide (a.target.epoch ≤ a.source.epoch) = true := decide_eq_true k1
   clear c1 c2
   have ff := And.intro e0 (And.intro e1 (And.intro e2 (And.intro e3 (And.intro e4 e5))))
   have y1 := place_t e b x c a.head
   have y2 := place_t e b x c a.source.root
   have y3 := place_t e b x c a.target.root
   generalize findR e.t a.head = H at *
   generalize findR e.t a.source.root = S at *
   generalize findR e.t a.target.root = T at *
   unfold wH at y1 y2 y3
   unfold wH
   have hR : Tryz.f121.results.toList = [.tmp 4] := rfl
   refine calE_tr Tryz.func121 rfl fun E hE hP => ?_
   refine mr ?_
   refine tr_seq_plan mixed [2] (.one 0 (.one 1 (.one 2 (.one 4 (.one 5 (.one 6 (.one 7 (.one 9 (.one 10 (.one 11 (.one 12 (.one 3 (.one 8 (.one 13 (.one 14 (.one 15 (.one 16 .done))))))))))))))))) (⟨[(0, .ptr 1 [] 0), (3, .ptr 2 [] 0), (4, .int .i64 0), (5, .int .i64 H), (6, .int .i64 S), (7, .int .i64 T)], [(0, .tab 0 tabV), (1, .var (workA e b x c)), (2, .var a.av)], 3, []⟩) rfl xE kR ?_ ?_
   · simp only [List.map_cons, List.map_nil]
     iterate 11 refine pQ ?_
     refine pX ?_
     refine call_eff (fun n => n) [false, true] [] rfl rfl rfl rfl (en Tryz.func124) (y1.2) rfl rfl mB rfl rfl rfl ?_
     refine mR ?_
     refine pX ?_
     refine call_eff (fun n => n) [false, true] [] rfl rfl rfl rfl (en Tryz.func124) (y2.2) rfl rfl mB rfl rfl rfl ?_
     refine mR ?_
     refine pX ?_
     refine call_eff (fun n => n) [false, true] [] rfl rfl rfl rfl (en Tryz.func124) (y3.2) rfl rfl mB rfl rfl rfl ?_
     refine mR ?_
     iterate 3 refine pQ ?_
     refine pl_done (st := _) ?_ rfl
     exact mK
   exact mX
 · have e5 : decide (a.target.epoch ≤ a.source.epoch) = false := decide_eq_false k1
   cases k2 : aboveR e.t (findR e.t a.source.root) (findR e.t a.target.root)
   · rw [k2] at c1
     clear c2 k2 h3
     have ff := And.intro e0 (And.intro e1 (And.intro e2 (And.intro e3 (And.intro e4 e5))))
     have y1 := place_t e b x c a.head
     have y2 := place_t e b x c a.source.root
     have y3 := place_t e b x c a.target.root
     generalize findR e.t a.head = H at *
     generalize findR e.t a.source.root = S at *
     generalize findR e.t a.target.root = T at *
     unfold wH at y1 y2 y3
     unfold wH
     have hR : Tryz.f121.results.toList = [.tmp 4] := rfl
     refine calE_tr Tryz.func121 rfl fun E hE hP => ?_
     refine mr ?_
     refine tr_seq_plan mixed [2] (.one 0 (.one 1 (.one 2 (.one 4 (.one 5 (.one 6 (.one 7 (.one 9 (.one 10 (.one 11 (.one 12 (.one 3 (.one 8 (.one 13 (.one 14 (.one 15 (.one 16 .done))))))))))))))))) (⟨[(0, .ptr 1 [] 0), (3, .ptr 2 [] 0), (4, .int .i64 0), (5, .int .i64 H), (6, .int .i64 S), (7, .int .i64 T)], [(0, .tab 0 tabV), (1, .var (workA e b x c)), (2, .var a.av)], 3, []⟩) rfl xE kR ?_ ?_
     · simp only [List.map_cons, List.map_nil]
       iterate 11 refine pQ ?_
       refine pX ?_
       refine call_eff (fun n => n) [false, true] [] rfl rfl rfl rfl (en Tryz.func124) (y1.2) rfl rfl mB rfl rfl rfl ?_
       refine mR ?_
       refine pX ?_
       refine call_eff (fun n => n) [false, true] [] rfl rfl rfl rfl (en Tryz.func124) (y2.2) rfl rfl mB rfl rfl rfl ?_
       refine mR ?_
       refine pX ?_
       refine call_eff (fun n => n) [false, true] [] rfl rfl rfl rfl (en Tryz.func124) (y3.2) rfl rfl mB rfl rfl rfl ?_
       refine mR ?_
       iterate 3 refine pQ ?_
       refine pl_done (st := _) ?_ rfl
       exact mK
     exact mX
   · have k3 := (h3.resolve_left k1).resolve_left (by rw [k2]; decide)
     rw [k2] at c1
     rw [k3] at c2
     clear k2 k3 h3
     have ff := And.intro e0 (And.intro e1 (And.intro e2 (And.intro e3 (And.intro e4 e5))))
     have y1 := place_t e b x c a.head
     have y2 := place_t e b x c a.source.root
     have y3 := place_t e b x c a.target.root
     generalize findR e.t a.head = H at *
     generalize findR e.t a.source.root = S at *
     generalize findR e.t a.target.root = T at *
     unfold wH at y1 y2 y3
     unfold wH
     have hR : Tryz.f121.results.toList = [.tmp 4] := rfl
     refine calE_tr Tryz.func121 rfl fun E hE hP => ?_
     refine mr ?_
     refine tr_seq_plan mixed [2] (.one 0 (.one 1 (.one 2 (.one 4 (.one 5 (.one 6 (.one 7 (.one 9 (.one 10 (.one 11 (.one 12 (.one 3 (.one 8 (.one 13 (.one 14 (.one 15 (.one 16 .done))))))))))))))))) (⟨[(0, .ptr 1 [] 0), (3, .ptr 2 [] 0), (4, .int .i64 0), (5, .int .i64 H), (6, .int .i64 S), (7, .int .i64 T)], [(0, .tab 0 tabV), (1, .var (workA e b x c)), (2, .var a.av)], 3, []⟩) rfl xE kR ?_ ?_
     · simp only [List.map_cons, List.map_nil]
       iterate 11 refine pQ ?_
       refine pX ?_
       refine call_eff (fun n => n) [false, true] [] rfl rfl rfl rfl (en Tryz.func124) (y1.2) rfl rfl mB rfl rfl rfl ?_
       refine mR ?_
       refine pX ?_
       refine call_eff (fun n => n) [false, true] [] rfl rfl rfl rfl (en Tryz.func124) (y2.2) rfl rfl mB rfl rfl rfl ?_
       refine mR ?_
       refine pX ?_
       refine call_eff (fun n => n) [false, true] [] rfl rfl rfl rfl (en Tryz.func124) (y3.2) rfl rfl mB rfl rfl rfl ?_
       refine mR ?_
       iterate 3 refine pQ ?_
       refine pl_done (st := _) ?_ rfl
       exact mK
     exact mX
theorem fits_0 (e : Eng) (b : Block) (x : Att) (c : Ask) (a : Att) (h : ¬ (a.val < 0 ∨ (e.b.length : Int) ≤ a.val)) (h2 : ¬ (findR e.t a.head < 0 ∨ findR e.t a.source.root < 0 ∨ findR e.t a.target.root < 0)) (h3 : ¬ (a.target.epoch ≤ a.source.epoch ∨ aboveR e.t (findR e.t a.source.root) (findR e.t a.target.root) = false ∨ aboveR e.t (findR e.t a.target.root) (findR e.t a.head) = false)) : CalE Tryz.prog 121 [.ptr 1 [] 0, a.av] 2 (wH e b x c) (.int .i64 0) (wH e b x c) := by
 have e0 : decide (a.val < 0) = false := decide_eq_false (fun hh => h (.inl hh))
 have e1 : decide ((e.b.length : Int) ≤ a.val) = false := decide_eq_false (fun hh => h (.inr hh))
 rw [not_or, not_or] at h2
 have e2 : decide (findR e.t a.head < 0) = false := decide_eq_false h2.1
 have e3 : decide (findR e.t a.source.root < 0) = false := decide_eq_false h2.2.1
 have e4 : decide (findR e.t a.target.root < 0) = false := decide_eq_false h2.2.2
 have c1 := And.intro (en Tryz.func98) (above_pure e.t (findR e.t a.source.root) (findR e.t a.target.root))
 have c2 := And.intro (en Tryz.func98) (above_pure e.t (findR e.t a.target.root) (findR e.t a.head))
 rw [not_or, not_or] at h3
 obtain ⟨k1, k2, k3⟩ := h3
 have e5 : decide (a.target.epoch ≤ a.source.epoch) = false := decide_eq_false k1
 rw [show aboveR e.t (findR e.t a.source.root) (findR e.t a.target.root) = true by simpa using k2] at c1
 rw [show aboveR e.t (findR e.t a.target.root) (findR e.t a.head) = true by simpa using k3] at c2
 clear k2 k3
 have ff := And.intro e0 (And.intro e1 (And.intro e2 (And.intro e3 (And.intro e4 e5))))
 have y1 := place_t e b x c a.head
 have y2 := place_t e b x c a.source.root
 have y3 := place_t e b x c a.target.root
 generalize findR e.t a.head = H at *
 generalize findR e.t a.source.root = S at *
 generalize findR e.t a.target.root = T at *
 unfold wH at y1 y2 y3
 unfold wH
 have hR : Tryz.f121.results.toList = [.tmp 4] := rfl
 refine calE_tr Tryz.func121 rfl fun E hE hP => ?_
 refine mr ?_
 refine tr_seq_plan mixed [2] (.one 0 (.one 1 (.one 2 (.one 4 (.one 5 (.one 6 (.one 7 (.one 9 (.one 10 (.one 11 (.one 12 (.one 3 (.one 8 (.one 13 (.one 14 (.one 15 (.one 16 .done))))))))))))))))) (⟨[(0, .ptr 1 [] 0), (3, .ptr 2 [] 0), (4, .int .i64 0), (5, .int .i64 H), (6, .int .i64 S), (7, .int .i64 T)], [(0, .tab 0 tabV), (1, .var (workA e b x c)), (2, .var a.av)], 3, []⟩) rfl xE kR ?_ ?_
 · simp only [List.map_cons, List.map_nil]
   iterate 11 refine pQ ?_
   refine pX ?_
   refine call_eff (fun n => n) [false, true] [] rfl rfl rfl rfl (en Tryz.func124) (y1.2) rfl rfl mB rfl rfl rfl ?_
   refine mR ?_
   refine pX ?_
   refine call_eff (fun n => n) [false, true] [] rfl rfl rfl rfl (en Tryz.func124) (y2.2) rfl rfl mB rfl rfl rfl ?_
   refine mR ?_
   refine pX ?_
   refine call_eff (fun n => n) [false, true] [] rfl rfl rfl rfl (en Tryz.func124) (y3.2) rfl rfl mB rfl rfl rfl ?_
   refine mR ?_
   iterate 3 refine pQ ?_
   refine pl_done (st := _) ?_ rfl
   exact mK
 exact mX
theorem fits_e (e : Eng) (b : Block) (x : Att) (c : Ask) (a : Att) : CalE Tryz.prog 121 [.ptr 1 [] 0, a.av] 2 (wH e b x c) (.int .i64 (fitsR e a)) (wH e b x c) := by
 unfold fitsR
 split
 · next h => exact fits_10 e b x c a h
 · next h =>
   split
   · next h2 => exact fits_5 e b x c a h h2
   · next h2 =>
     split
     · next h3 => exact fits_9 e b x c a h h2 h3
     · next h3 => exact fits_0 e b x c a h h2 h3
end Go.Proofs.YtekjdikofhdcpaaGreatDoor

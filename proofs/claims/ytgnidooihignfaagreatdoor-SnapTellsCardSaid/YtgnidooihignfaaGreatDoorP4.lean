/- The best children of all. -/
import Derived.Test.YtgnidooihignfaaGreatDoorP3
import Derived.Test.YtgnidooihignfaaGreatDoorAbFour
set_option linter.unusedSimpArgs false
set_option maxRecDepth 10000
namespace Go.Proofs.YtgnidooihignfaaGreatDoor
open Go Go.Ab
def rowI (f : Nat → Int) (n : Nat) : List AV := (List.range n).map fun i => iav (f i)
theorem rowI_len (f : Nat → Int) (n : Nat) : (rowI f n).length = n := by simp [rowI]
theorem rowI_get (f : Nat → Int) {n i : Nat} (h : i < n) : (rowI f n)[i]? = some (.int .i64 (f i)) := by simp [rowI, h, iav]
theorem rowI_congr {f g : Nat → Int} {n : Nat} (h : ∀ i, i < n → f i = g i) : rowI f n = rowI g n := by
 apply List.ext_getElem?
 intro i
 by_cases hi : i < n
 · rw [rowI_get f hi, rowI_get g hi, h i hi]
 · rw [List.getElem?_eq_none (by rw [rowI_len]; omega), List.getElem?_eq_none (by rw [rowI_len]; omega)]
theorem rowI_set (f : Nat → Int) (n p : Nat) (v : Int) (g : Nat → Int) (h : ∀ i, i < n → g i = if i = p then v else f i) : (rowI f n).set p (.int .i64 v) = rowI g n := by
 apply List.ext_getElem?
 intro i
 by_cases hi : i < n
 · rw [rowI_get g hi, List.getElem?_set, h i hi]
   by_cases hp : p = i
   · subst hp; simp [rowI_len, hi]
   · rw [if_neg hp, if_neg (fun e => hp e.symm), rowI_get f hi]
 · rw [List.getElem?_eq_none (by rw [List.length_set, rowI_len]; omega), List.getElem?_eq_none (by rw [rowI_len]; omega)]
theorem rowI_repl (n : Nat) : List.replicate n (AV.int .i64 0) = rowI (fun _ => 0) n := by
 apply List.ext_getElem?
 intro i
 by_cases hi : i < n
 · rw [rowI_get _ hi]; simp [hi]
 · rw [List.getElem?_eq_none (by simp; omega), List.getElem?_eq_none (by rw [rowI_len]; omega)]
def bstep (t : List Node) (w : List Int) (ld : List Bool) (i best : Int) (k : Nat) : Int :=
 if (t.getD k zNode).parent ≠ i ∨ ld.getD k false = false then best else if wbetterB t w k best then k else best
def kidTo (t : List Node) (w : List Int) (ld : List Bool) (i : Int) : Nat → Int
 | 0 => -1
 | k + 1 => bstep t w ld i (kidTo t w ld i k) k
def kidF (t : List Node) (w : List Int) (ld : List Bool) (i : Int) : Int := kidTo t w ld i t.length
theorem kidTo_range (t : List Node) (w : List Int) (ld : List Bool) (i : Int) : ∀ k, kidTo t w ld i k = -1 ∨ (0 ≤ kidTo t w ld i k ∧ kidTo t w ld i k < k)
 | 0 => .inl rfl
 | k + 1 => by
   have ih := kidTo_range t w ld i k
   rw [kidTo, bstep]
   split
   · rcases ih with h | h
     · exact .inl h
     · exact .inr ⟨h.1, by omega⟩
   · split
     · exact .inr ⟨by omega, by omega⟩
     · rcases ih with h | h
       · exact .inl h
       · exact .inr ⟨h.1, by omega⟩
def st52_0 (t : List Node) (w : List Int) (ld : List Bool) (i : Nat) : S where
 fr := [(2, .sl (ld.map .bool) false), (3, .ptr 0 [] 0), (4, .ptr 1 [] 0), (7, .ms 2 1 t.length), (17, .int .i64 t.length), (18, .int .i64 i)]
 hp := [(0, .var (tav t)), (1, .var (.sl (w.map uav) false)), (2, .row 1 (rowI (fun j => if j < i then -1 else 0) t.length))]
 nx := 3
def st52_1 (t : List Node) (w : List Int) (ld : List Bool) (k : Nat) : S where
 fr := [(2, .sl (ld.map .bool) false), (7, .ms 2 1 t.length), (9, .fn (.func 218) [] [.ptr 1 [] 0, .ptr 0 [] 0]), (27, .sl (t.map Node.av) false), (28, .int .i64 t.length), (29, .int .i64 k)]
 hp := [(0, .var (tav t)), (1, .var (.sl (w.map uav) false)), (2, .row 1 (rowI (fun j => kidTo t w ld j k) t.length))]
 nx := 3
set_option maxRecDepth 10000 in
theorem kids_pure (t : List Node) (w : List Int) (ld : List Bool) (h : toldB t w ld = true) : Pure Tryz.prog 175 [tav t, .sl (w.map uav) false, .sl (ld.map .bool) false] (.sl (rowI (fun j => kidF t w ld j) t.length) false) := by
 have hm : mayB t = true := by simp [toldB] at h; exact h.1.1
 have hwl : w.length = t.length := by simp [toldB] at h; exact h.1.2
 have hdl : ld.length = t.length := by simp [toldB] at h; exact h.2
 obtain ⟨hl1, hl2⟩ := may_len hm
 clear h
 refine pure_of_tr Tryz.func175 rfl nb rfl fun E hE hP => ?_
 refine mr ?_
 first | apply tr_m xE | (refine Tr.seq ?_; apply tr_m xE)
 intro Q hQ
 refine mS ?_
 iterate 3 refine mV ?_
 refine vm_op ?_; intro r hr; simp only [go_sem, seval]
 refine ⟨by omega, by omega, by omega, ?_⟩
 simp only [Int.toNat_natCast, rowI_repl, go_sem, seval]
 subst hr
 refine mV ?_
 exact hQ
 refine mr ?_
 refine mBk ?_
 refine Tr.loop (st52_0 t w ld) (fun i => i ≤ t.length) (fun i => t.length - i) 0 (Nat.zero_le _) ?_ ?_
 · refine wk_ren (fun | 1 => 16 | 2 => 96 | n => n) mB mB rfl rfl rfl
 · intro i hi
   unfold st52_0
   refine mr ?_
   first | refine Tr.cond rfl (fun h1 => ?_) (fun h1 => ?_) | refine Tr.seq (Tr.cond rfl (fun h1 => ?_) (fun h1 => ?_))
   · refine mT ?_
     have hlt : i < t.length := by have := of_decide_eq_true h1; omega
     have hw := wN i
     have hset := rowI_set (fun j => if j < i then -1 else 0) t.length i (-1) (fun j => if j < i + 1 then -1 else 0) (fun j _ => by by_cases h1 : j < i <;> by_cases h2 : j = i <;> by_cases h3 : j < i + 1 <;> simp [h1, h2, h3] <;> omega)
     refine mBk ?_
     refine mr ?_
     apply tr_ml xE
     intro Q hQ
     refine mS ?_
     iterate 2 refine mV ?_
     refine vm_op ?_; intro r hr; simp only [go_sem, seval]
     refine ⟨by omega, by omega, ?_⟩
     simp only [Int.toNat_natCast, go_sem, seval]
     subst hr
     have hget := rowI_get (fun j => if j < i then -1 else 0) hlt
     refine vm_op ?_; intro r hr; simp only [hget, hset, go_sem, seval]; subst hr
     exact hQ
     refine mU ?_
     refine mRd ?_
     rw [hw]
     refine mU ?_
     refine ⟨i + 1, hlt, by omega, ?_⟩
     exact mK
   · refine Tr.exit ?_
     refine mU ?_
     have hil : i = t.length := by have := of_decide_eq_false h1; omega
     subst hil
     refine mr ?_
     refine mr ?_
     refine mBk ?_
     refine Tr.loop (st52_1 t w ld) (fun k => k ≤ t.length) (fun k => t.length - k) 0 (Nat.zero_le _) ?_ ?_
     · have e : rowI (fun j => if j < t.length then -1 else 0) t.length = rowI (fun j => kidTo t w ld j 0) t.length := rowI_congr fun j hj => by simp [hj, kidTo]
       rw [e]
       exact mK
     · intro k hk
       unfold st52_1
       refine mr ?_
       first | refine Tr.cond rfl (fun g1 => ?_) (fun g1 => ?_) | refine Tr.seq (Tr.cond rfl (fun g1 => ?_) (fun g1 => ?_))
       · refine mT ?_
         have hlt : k < t.length := by have := of_decide_eq_true g1; omega
         have hw := wN k
         have nn := nth_node hlt
         have nl := nth_l (ld := ld) (k := k) (by omega)
         have hst : ∀ i : Int, kidTo t w ld i (k + 1) = bstep t w ld i (kidTo t w ld i k) k := fun i => rfl
         have hpar := may_parent hm hlt
         refine mBk ?_
         generalize hn : t.getD k zNode = n at nn hpar
         generalize hlk : ld.getD k false = lk at nl
         refine mSr ?_
         repeat (refine vc_op rfl ?_; simp only [nn, go_sem, seval])
         refine vc_nil ?_
         have same : (∀ j : Nat, j < t.length → kidTo t w ld j (k + 1) = kidTo t w ld j k) → rowI (fun j => kidTo t w ld j (k + 1)) t.length = rowI (fun j => kidTo t w ld j k) t.length := fun h => rowI_congr h
         rcases hpar with ⟨hp, h0⟩ | ⟨hp0, hp1⟩
         · have ep : (n.parent != -1) = false := by simp [hp]
           have hs := same fun j _ => by rw [hst, bstep, hn, if_pos (.inl (by omega))]
           first | apply tr_m xE | (refine Tr.seq ?_; apply tr_m xE)
           intro Q hQ
           refine mS ?_
           iterate 4 (refine vm_op ?_; intro r hr; simp only [ep, go_sem, seval]; subst hr)
           iterate 4 (refine mI ?_; intro r hr; simp only [ep, go_sem, seval]; subst hr)
           iterate 2 (refine vm_op ?_; intro r hr; simp only [ep, go_sem, seval]; subst hr)
           iterate 8 (refine mI ?_; intro r hr; simp only [ep, go_sem, seval]; subst hr)
           refine vm_op ?_; intro r hr; simp only [ep, go_sem, seval]; subst hr
           exact hQ
           refine mNot ?_
           refine mT ?_
           refine mRd ?_
           rw [hw]
           refine mU ?_
           refine ⟨k + 1, hlt, by omega, ?_⟩
           rw [hs]
           exact mK
         · obtain ⟨p, hp⟩ : ∃ p : Nat, n.parent = p := ⟨n.parent.toNat, by omega⟩
           have ep : ((p : Int) != -1) = true := by rw [int_bne, dfO]; rfl
           cases lk with
           | false =>
             have hs := same fun j _ => by rw [hst, bstep, hlk, if_pos (.inr rfl)]
             first | apply tr_m xE | (refine Tr.seq ?_; apply tr_m xE)
             intro Q hQ
             refine mS ?_
             iterate 4 (refine vm_op ?_; intro r hr; simp only [hp, ep, nl, go_sem, seval]; subst hr)
             iterate 4 (refine mI ?_; intro r hr; simp only [hp, ep, nl, go_sem, seval]; subst hr)
             iterate 2 (refine vm_op ?_; intro r hr; simp only [hp, ep, nl, go_sem, seval]; subst hr)
             iterate 8 (refine mI ?_; intro r hr; simp only [hp, ep, nl, go_sem, seval]; subst hr)
             refine vm_op ?_; intro r hr; simp only [hp, ep, nl, go_sem, seval]; subst hr
             exact hQ
             refine mNot ?_
             refine mT ?_
             refine mRd ?_
             rw [hw]
             refine mU ?_
             refine ⟨k + 1, hlt, by omega, ?_⟩
             rw [hs]
             exact mK
           | true =>
             have hpl : p < t.length := by omega
             have hr := kidTo_range t w ld p k
             have bp := wbetter_pure t w k (kidTo t w ld p k) hwl hlt (hr.imp_right fun h => ⟨h.1, by omega⟩)
             cases hb : wbetterB t w k (kidTo t w ld p k) with
             | false =>
               rw [hb] at bp
               have hs := same fun j hj => by
                rw [hst, bstep, hn, hlk]
                by_cases hjp : n.parent = j
                · rw [if_neg (by simp [hjp]), show (j : Int) = p by omega, hb]; rfl
                · rw [if_pos (.inl hjp)]
               first | apply tr_m xE | (refine Tr.seq ?_; apply tr_m xE)
               intro Q hQ
               refine mS ?_
               iterate 4 (refine vm_op ?_; intro r hr; simp only [hp, ep, nl, go_sem, seval]; subst hr)
               iterate 4 (refine mI ?_; intro r hr; simp only [hp, ep, nl, go_sem, seval]; subst hr)
               iterate 2 (refine vm_op ?_; intro r hr; simp only [hp, ep, nl, go_sem, seval]; subst hr)
               iterate 5 (refine mI ?_; intro r hr; simp only [hp, ep, nl, go_sem, seval]; subst hr)
               refine mI ?_; intro r hr; simp only [hp, ep, nl, go_sem, seval]
               refine ⟨by omega, by omega, ?_⟩
               simp only [Int.toNat_natCast, go_sem, seval]
               subst hr
               have hget := rowI_get (fun j : Nat => kidTo t w ld j k) hpl
               refine mI ?_; intro r hr; simp only [hget, go_sem, seval]; subst hr
               refine mI ?_; intro r hr; simp only [go_sem, seval]
               refine call_fn rfl rfl rfl rfl (en Tryz.func218) (bp) rfl rfl rfl ?_
               refine mS ?_
               subst hr
               refine mV ?_
               exact hQ
               refine mNot ?_
               refine mT ?_
               refine mRd ?_
               rw [hw]
               refine mU ?_
               refine ⟨k + 1, hlt, by omega, ?_⟩
               rw [hs]
               exact mK
             | true =>
               rw [hb] at bp
               have hs := rowI_set (fun j : Nat => kidTo t w ld j k) t.length p k (fun j : Nat => kidTo t w ld j (k + 1)) fun j hj => by
                show kidTo t w ld j (k + 1) = _
                rw [hst, bstep, hn, hlk]
                by_cases hjp : j = p
                · rw [if_neg (by simp; omega), if_pos hjp, hjp, hb]; rfl
                · rw [if_pos (.inl (by omega)), if_neg hjp]
               first | apply tr_m xE | (refine Tr.seq ?_; apply tr_m xE)
               intro Q hQ
               refine mS ?_
               iterate 4 (refine vm_op ?_; intro r hr; simp only [hp, ep, nl, go_sem, seval]; subst hr)
               iterate 4 (refine mI ?_; intro r hr; simp only [hp, ep, nl, go_sem, seval]; subst hr)
               iterate 2 (refine vm_op ?_; intro r hr; simp only [hp, ep, nl, go_sem, seval]; subst hr)
               iterate 5 (refine mI ?_; intro r hr; simp only [hp, ep, nl, go_sem, seval]; subst hr)
               refine mI ?_; intro r hr; simp only [hp, ep, nl, go_sem, seval]
               refine ⟨by omega, by omega, ?_⟩
               simp only [Int.toNat_natCast, go_sem, seval]
               subst hr
               have hget := rowI_get (fun j : Nat => kidTo t w ld j k) hpl
               refine mI ?_; intro r hr; simp only [hget, go_sem, seval]; subst hr
               refine mI ?_; intro r hr; simp only [go_sem, seval]
               refine call_fn rfl rfl rfl rfl (en Tryz.func218) (bp) rfl rfl rfl ?_
               refine mS ?_
               subst hr
               refine mV ?_
               exact hQ
               refine mYes ?_
               have hget := rowI_get (fun j : Nat => kidTo t w ld j k) hpl
               apply tr_ml xE
               intro Q hQ
               refine mS ?_
               iterate 4 (refine vm_op ?_; intro r hr; simp only [hp, go_sem, seval]; subst hr)
               refine vm_op ?_; intro r hr; simp only [hp, go_sem, seval]
               refine ⟨by omega, by omega, ?_⟩
               simp only [Int.toNat_natCast, go_sem, seval]
               subst hr
               refine vm_op ?_; intro r hr; simp only [hget, hs, go_sem, seval]; subst hr
               exact hQ
               refine mU ?_
               refine mRd ?_
               rw [hw]
               refine mU ?_
               refine ⟨k + 1, hlt, by omega, ?_⟩
               exact mK
       · refine Tr.exit ?_
         refine mU ?_
         have hkl : k = t.length := by have := of_decide_eq_false g1; omega
         subst hkl
         refine mr ?_
         refine Tr.ret ?_
         simp only [rowI_len, Tryz.f175, go_sem, seval]
         rfl
def kidR (t : List Node) (w : List Int) (ld : List Bool) (i : Int) : Int := if toldB t w ld = true ∧ 0 ≤ i then kidF t w ld i else -1
theorem told_facts {t : List Node} {w : List Int} {ld : List Bool} (h : toldB t w ld = true) : mayB t = true ∧ w.length = t.length ∧ ld.length = t.length := by
 simp [toldB] at h; exact ⟨h.1.1, h.1.2, h.2⟩
theorem nth_row (f : Nat → Int) {n i : Nat} (h : i < n) : nth (rowI f n) (i : Int) = some (.int .i64 (f i)) := by
 have := rowI_get f h
 unfold nth
 simpa using this
set_option maxRecDepth 10000 in
def st31 (t : List Node) (w : List Int) (ld : List Bool) (i : Int) (b : Bool) (k : Nat) : S where
 fr := [(1, .sl (w.map uav) false), (2, .sl (ld.map .bool) false), (3, .int .i64 i), (4, .ptr 0 [] 0), (9, .int .i64 (kidTo t w ld i k)), (10, .bool b), (11, .int .i64 k)]
 hp := [(0, .var (tav t))]
 nx := 1
set_option maxRecDepth 10000 in
theorem refkid_pure (t : List Node) (w : List Int) (ld : List Bool) (i : Int) (hl : t.length ≤ 100) : Pure Tryz.prog 187 [tav t, .sl (w.map uav) false, .sl (ld.map .bool) false, .int .i64 i] (.int .i64 (kidR t w ld i)) := by
 refine pure_of_tr Tryz.func187 rfl nb rfl fun E hE hP => ?_
 refine mr ?_
 refine mr ?_
 have c1 := And.intro (en Tryz.func186) (brefTold_pure t w ld hl)
 refine mr ?_
 refine mr ?_
 refine mBk ?_
 by_cases hgo : toldB t w ld = true ∧ 0 ≤ i
 · obtain ⟨ht, h0⟩ := hgo
   rw [ht]
   obtain ⟨hm, hwl, hdl⟩ := told_facts ht
   have e0 : decide (0 ≤ i) = true := decide_eq_true h0
   refine Tr.loop (st31 t w ld i true) (fun k => k ≤ t.length) (fun k => t.length - k) 0 (Nat.zero_le _) ?_ ?_
   · exact mK
   · intro k hk
     unfold st31
     by_cases hlt : k < t.length
     · have e1 : decide ((k : Int) < (t.length : Int)) = true := dtO
       have hw := wN k
       have nn := nth_node hlt
       have nl := nth_l (ld := ld) (k := k) (by omega)
       have na := nth_w (w := w) (k := k) (by omega)
       have hst : kidTo t w ld i (k + 1) = bstep t w ld i (kidTo t w ld i k) k := rfl
       have hrange := kidTo_range t w ld i k
       generalize kidTo t w ld i k = b at hst hrange
       have ff := And.intro e1 e0
       refine mr ?_
       refine mYes ?_
       refine mT ?_
       generalize hn : t.getD k zNode = n at nn
       generalize hlk : ld.getD k false = lk at nl
       rw [bstep, hn, hlk] at hst
       refine mBk ?_
       by_cases hp : n.parent = i
       · have ep : (n.parent != i) = false := by simp [hp]
         cases lk with
         | false =>
           rw [if_pos (.inr rfl)] at hst
           first | apply tr_m xE | (refine Tr.seq ?_; apply tr_m xE)
           intro Q hQ
           refine mS ?_
           iterate 9 (refine vm_op ?_; intro r hr; simp only [nn, ep, nl, go_sem, seval]; subst hr)
           iterate 5 (refine mI ?_; intro r hr; simp only [nn, ep, nl, go_sem, seval]; subst hr)
           refine vm_op ?_; intro r hr; simp only [nn, ep, nl, go_sem, seval]; subst hr
           exact hQ
           refine mYes ?_
           refine Tr.exit ?_
           refine mU ?_
           refine mRd ?_
           rw [hw]
           refine mU ?_
           refine ⟨k + 1, hlt, by omega, ?_⟩
           rw [hst]
           exact mK
         | true =>
           rw [if_neg (by simp [hp])] at hst
           first | apply tr_m xE | (refine Tr.seq ?_; apply tr_m xE)
           intro Q hQ
           refine mS ?_
           iterate 9 (refine vm_op ?_; intro r hr; simp only [nn, ep, nl, go_sem, seval]; subst hr)
           iterate 5 (refine mI ?_; intro r hr; simp only [nn, ep, nl, go_sem, seval]; subst hr)
           refine vm_op ?_; intro r hr; simp only [nn, ep, nl, go_sem, seval]; subst hr
           exact hQ
           refine mNot ?_
           refine mT ?_
           rcases hrange with hb | ⟨hb0, hb1⟩
           · have eb : decide (b < 0) = true := dtO
             have hbt : wbetterB t w k b = true := by simp [wbetterB, hb]
             rw [if_pos hbt] at hst
             first | apply tr_md mixed [0] rfl xE kR | (refine Tr.seq ?_; apply tr_md mixed [0] rfl xE kR)
             intro Q hQ
             refine mS ?_
             iterate 3 ((refine vd2_q rfl ?_); intro r hr; simp only [eb, go_sem, seval]; subst hr)
             iterate 9 ((first | refine vd2_goq rfl rfl ?_ | refine vd2_no rfl ?_ | refine vd2_skip rfl ?_); intro r hr; simp only [eb, go_sem, seval]; subst hr)
             (refine vd2_q rfl ?_); intro r hr; simp only [eb, go_sem, seval]; subst hr
             exact hQ
             refine mYes ?_
             refine mr ?_
             refine Tr.exit ?_
             refine mU ?_
             refine mRd ?_
             rw [hw]
             refine mU ?_
             refine ⟨k + 1, hlt, by omega, ?_⟩
             rw [hst]
             exact mK
           · have eb : decide (b < 0) = false := dfO
             obtain ⟨j, rfl⟩ : ∃ j : Nat, b = j := ⟨b.toNat, by omega⟩
             have nb := nth_w (w := w) (k := j) (by omega)
             have nm := nth_node (t := t) (k := j) (by omega)
             have nk := nth_node hlt
             have hbt : wbetterB t w k j = (decide (wAt w j < wAt w k) || (decide (wAt w k = wAt w j) && lessR (rAt t j) (rAt t k))) := by
              simp only [wbetterB, Int.toNat_natCast, decide_eq_false (p := (j : Int) = -1) (by omega), Bool.false_or]
             by_cases g1 : wAt w j < wAt w k
             · have c1 : decide (wAt w j < wAt w k) = true := decide_eq_true g1
               rw [if_pos (by rw [hbt, c1]; rfl)] at hst
               first | apply tr_md mixed [0] rfl xE kR | (refine Tr.seq ?_; apply tr_md mixed [0] rfl xE kR)
               intro Q hQ
               refine mS ?_
               iterate 3 ((refine vd2_q rfl ?_); intro r hr; simp only [eb, na, nb, c1, go_sem, seval]; subst hr)
               iterate 9 ((first | refine vd2_goq rfl rfl ?_ | refine vd2_no rfl ?_ | refine vd2_skip rfl ?_); intro r hr; simp only [eb, na, nb, c1, go_sem, seval]; subst hr)
               (refine vd2_q rfl ?_); intro r hr; simp only [eb, na, nb, c1, go_sem, seval]; subst hr
               exact hQ
               refine mYes ?_
               refine mr ?_
               refine Tr.exit ?_
               refine mU ?_
               refine mRd ?_
               rw [hw]
               refine mU ?_
               refine ⟨k + 1, hlt, by omega, ?_⟩
               rw [hst]
               exact mK
             · have c1 : decide (wAt w j < wAt w k) = false := decide_eq_false g1
               rw [hbt, c1, Bool.false_or] at hst
               first | apply tr_md mixed [0] rfl xE kR | (refine Tr.seq ?_; apply tr_md mixed [0] rfl xE kR)
               intro Q hQ
               refine mS ?_
               iterate 3 ((refine vd2_q rfl ?_); intro r hr; simp only [eb, na, nb, c1, go_sem, seval]; subst hr)
               iterate 9 ((first | refine vd2_goq rfl rfl ?_ | refine vd2_no rfl ?_ | refine vd2_skip rfl ?_); intro r hr; simp only [eb, na, nb, c1, go_sem, seval]; subst hr)
               (refine vd2_q rfl ?_); intro r hr; simp only [eb, na, nb, c1, go_sem, seval]; subst hr
               exact hQ
               refine mNot ?_
               refine mT ?_
               first | apply tr_md mixed [0] rfl xE kR | (refine Tr.seq ?_; apply tr_md mixed [0] rfl xE kR)
               intro Q hQ
               refine mS ?_
               iterate 12 ((refine vd2_q rfl ?_); intro r hr; simp only [nm, nk, go_sem, seval]; subst hr)
               refine vd2_x rfl ?_; intro r hr; simp only [nm, nk, go_sem, seval]
               refine call_fn rfl rfl rfl rfl (en Tryz.func184) (refless_pure (rAt t j) (rAt t k)) rfl rfl rfl ?_
               refine mS ?_
               subst hr
               refine mQ ?_
               exact hQ
               by_cases g2 : wAt w k = wAt w j
               · have c2 : (wAt w k == wAt w j) = true := by rw [int_beq]; exact decide_eq_true g2
                 rw [decide_eq_true g2, Bool.true_and] at hst
                 first | apply tr_md mixed [0] rfl xE kR | (refine Tr.seq ?_; apply tr_md mixed [0] rfl xE kR)
                 intro Q hQ
                 refine mS ?_
                 iterate 10 ((refine vd2_q rfl ?_); intro r hr; simp only [na, nb, c2, go_sem, seval]; subst hr)
                 (first | refine vd2_goq rfl rfl ?_ | refine vd2_no rfl ?_ | refine vd2_skip rfl ?_); intro r hr; simp only [na, nb, c2, go_sem, seval]; subst hr
                 (refine vd2_q rfl ?_); intro r hr; simp only [na, nb, c2, go_sem, seval]; subst hr
                 exact hQ
                 cases hless : lessR (rAt t j) (rAt t k) with
                 | true =>
                   rw [hless, if_pos rfl] at hst
                   refine mYes ?_
                   refine mRd ?_
                   refine mU ?_
                   refine mRd ?_
                   rw [hw]
                   refine mU ?_
                   refine ⟨k + 1, hlt, by omega, ?_⟩
                   rw [hst]
                   exact mK
                 | false =>
                   rw [hless, if_neg (by decide)] at hst
                   refine mNot ?_
                   refine mT ?_
                   refine mRd ?_
                   rw [hw]
                   refine mU ?_
                   refine ⟨k + 1, hlt, by omega, ?_⟩
                   rw [hst]
                   exact mK
               · have c2 : (wAt w k == wAt w j) = false := by rw [int_beq]; exact decide_eq_false g2
                 rw [decide_eq_false g2, Bool.false_and, if_neg (by decide)] at hst
                 first | apply tr_md mixed [0] rfl xE kR | (refine Tr.seq ?_; apply tr_md mixed [0] rfl xE kR)
                 intro Q hQ
                 refine mS ?_
                 iterate 10 ((refine vd2_q rfl ?_); intro r hr; simp only [na, nb, c2, go_sem, seval]; subst hr)
                 (first | refine vd2_goq rfl rfl ?_ | refine vd2_no rfl ?_ | refine vd2_skip rfl ?_); intro r hr; simp only [na, nb, c2, go_sem, seval]; subst hr
                 (refine vd2_q rfl ?_); intro r hr; simp only [na, nb, c2, go_sem, seval]; subst hr
                 exact hQ
                 refine mNot ?_
                 refine mT ?_
                 refine mRd ?_
                 rw [hw]
                 refine mU ?_
                 refine ⟨k + 1, hlt, by omega, ?_⟩
                 rw [hst]
                 exact mK
       · have ep : (n.parent != i) = true := by simp [hp]
         rw [if_pos (.inl hp)] at hst
         first | apply tr_m xE | (refine Tr.seq ?_; apply tr_m xE)
         intro Q hQ
         refine mS ?_
         iterate 9 (refine vm_op ?_; intro r hr; simp only [nn, ep, go_sem, seval]; subst hr)
         iterate 5 (refine mI ?_; intro r hr; simp only [nn, ep, go_sem, seval]; subst hr)
         refine vm_op ?_; intro r hr; simp only [nn, ep, go_sem, seval]; subst hr
         exact hQ
         refine mYes ?_
         refine Tr.exit ?_
         refine mU ?_
         refine mRd ?_
         rw [hw]
         refine mU ?_
         refine ⟨k + 1, hlt, by omega, ?_⟩
         rw [hst]
         exact mK
     · have e1 : decide ((k : Int) < (t.length : Int)) = false := dfO
       have hkl : k = t.length := by omega
       have er : kidR t w ld i = kidTo t w ld i t.length := by unfold kidR; rw [if_pos ⟨ht, h0⟩]; rfl
       rw [hkl] at e1 ⊢
       have ff := e1
       refine mr ?_
       refine mNo ?_
       refine Tr.exit ?_
       refine mU ?_
       refine mr ?_
       refine Tr.ret ?_
       simp only [er, Tryz.f187, go_sem, seval]
 · have er : kidR t w ld i = -1 := by unfold kidR; rw [if_neg hgo]
   refine Tr.loop (st31 t w ld i (toldB t w ld)) (fun k => k = 0) (fun k => t.length - k) 0 rfl ?_ ?_
   · exact mK
   · rintro k rfl
     unfold st31
     rcases Nat.eq_zero_or_pos t.length with hz | hz
     · have e1 : decide ((0 : Int) < (t.length : Int)) = false := dfO
       have ff := e1
       refine mr ?_
       refine mNo ?_
       refine Tr.exit ?_
       refine mU ?_
       refine mr ?_
       refine Tr.ret ?_
       simp only [er, Tryz.f187, go_sem, seval]
       rfl
     · have e1 : decide ((0 : Int) < (t.length : Int)) = true := dtO
       by_cases ht : toldB t w ld = true
       · have e2 : decide (0 ≤ i) = false := decide_eq_false fun h => hgo ⟨ht, h⟩
         have ff := And.intro e1 (And.intro ht e2)
         refine mr ?_
         refine mNo ?_
         refine Tr.exit ?_
         refine mU ?_
         refine mr ?_
         refine Tr.ret ?_
         simp only [er, Tryz.f187, go_sem, seval]
         rfl
       · have ht : toldB t w ld = false := by simpa using ht
         have ff := And.intro e1 ht
         refine mr ?_
         refine mNo ?_
         refine Tr.exit ?_
         refine mU ?_
         refine mr ?_
         refine Tr.ret ?_
         simp only [er, Tryz.f187, go_sem, seval]
         rfl
def downL (f : Int → Int) : Nat → Int → List Int
 | 0, _ => []
 | n + 1, i => if i = -1 then [] else i :: downL f n (f i)
def lineF (t : List Node) (w : List Int) (ld : List Bool) (i : Int) : List Int := downL (kidF t w ld) ((t.length : Int) - i).toNat i
def lineR (t : List Node) (w : List Int) (ld : List Bool) (i : Int) : List Int := if toldB t w ld = true ∧ 0 ≤ i ∧ i < t.length then lineF t w ld i else []
theorem kid_above {t : List Node} {w : List Int} {ld : List Bool} (hm : mayB t = true) {i : Int} : ∀ k, k ≤ t.length → kidTo t w ld i k = -1 ∨ i < kidTo t w ld i k
 | 0, _ => .inl rfl
 | k + 1, hk => by
   have ih := kid_above (w := w) (ld := ld) (i := i) hm k (by omega)
   have hp := may_parent hm (k := k) (by omega)
   rw [kidTo, bstep]
   split
   · exact ih
   · rename_i h
     split
     · right
       have : (t.getD k zNode).parent = i := Classical.not_not.1 fun e => h (.inl e)
       rcases hp with h' | h' <;> omega
     · exact ih
theorem kidF_range {t : List Node} {w : List Int} {ld : List Bool} (hm : mayB t = true) (i : Int) (_hi : 0 ≤ i) : kidF t w ld i = -1 ∨ (i < kidF t w ld i ∧ kidF t w ld i < t.length) := by
 have h1 := kid_above (w := w) (ld := ld) (i := i) hm t.length (Nat.le_refl _)
 have h2 := kidTo_range t w ld i t.length
 unfold kidF
 omega
theorem downL_none (f : Int → Int) (m : Nat) : downL f m (-1) = [] := by cases m <;> simp [downL]
theorem downL_fuel (f : Int → Int) (n : Int) (hf : ∀ i, 0 ≤ i → i < n → f i = -1 ∨ (i < f i ∧ f i < n)) : ∀ (m m' : Nat) (i : Int), 0 ≤ i → i < n → n - i ≤ m → n - i ≤ m' → downL f m i = downL f m' i
 | 0, _, i, _, h1, h2, _ => by omega
 | _, 0, i, _, h1, _, h2 => by omega
 | m + 1, m' + 1, i, h0, h1, h2, h3 => by
   simp only [downL, if_neg (show ¬ i = -1 by omega)]
   rcases hf i h0 h1 with h | ⟨h4, h5⟩
   · rw [h, downL_none, downL_none]
   · rw [downL_fuel f n hf m m' (f i) (by omega) h5 (by omega) (by omega)]
theorem lineF_none (t : List Node) (w : List Int) (ld : List Bool) : lineF t w ld (-1) = [] := downL_none _ _
theorem lineF_next {t : List Node} {w : List Int} {ld : List Bool} (hm : mayB t = true) {i : Int} (h0 : 0 ≤ i) (h1 : i < t.length) : lineF t w ld i = i :: lineF t w ld (kidF t w ld i) := by
 obtain ⟨m, hmm⟩ : ∃ m, ((t.length : Int) - i).toNat = m + 1 := ⟨((t.length : Int) - i).toNat - 1, by omega⟩
 rw [lineF, hmm, downL, if_neg (by omega)]
 congr 1
 rcases kidF_range (w := w) (ld := ld) hm i h0 with h | ⟨h4, h5⟩
 · rw [h, downL_none, lineF_none]
 · exact downL_fuel _ t.length (fun j hj _ => kidF_range hm j hj) _ _ _ (by omega) h5 (by omega) (by omega)
theorem lineF_len {t : List Node} {w : List Int} {ld : List Bool} (i : Int) (h0 : 0 ≤ i) : (lineF t w ld i).length ≤ t.length := by
 have : ∀ (m : Nat) (j : Int), (downL (kidF t w ld) m j).length ≤ m := fun m => by
  induction m with
  | zero => intro j; simp [downL]
  | succ m ih => intro j; simp only [downL]; split <;> simp; exact ih _
 have := this ((t.length : Int) - i).toNat i
 unfold lineF
 omega
theorem down_own (xs : List AV) (i : Int) : Own Tryz.prog 174 [.sl xs false, .int .i64 i] (.fn (.func 217) [] [.ptr 0 [] 0, .ptr 1 [] 0]) [(0, .var (.int .i64 i)), (1, .var (.sl xs false))] := by
 refine own_of_tr Tryz.func174 rfl nb rfl fun E hE hP => ?_
 refine mr ?_
 refine mr ?_
 refine Tr.ret ?_
 simp only [Tryz.f174, go_sem, seval]
 exact ⟨fun | 0 => 16 | 1 => 0 | n => n, rfl, ⟨⟨rfl, rfl, rfl⟩, ⟨rfl, rfl, rfl⟩, trivial⟩, rfl⟩
def st25 (t : List Node) (w : List Int) (ld : List Bool) (i : Int) : S where
 fr := [(9, .ptr 0 [] 0), (32, .fn (.func 217) [] [.ptr 1 [] 0, .ptr 2 [] 0])]
 hp := [(0, .var (.ms 3 1 0)), (1, .var (.int .i64 i)), (2, .var (.sl (rowI (fun j => kidF t w ld j) t.length) false)), (3, .row 1 [])]
 nx := 4
def st60 (t : List Node) (w : List Int) (ld : List Bool) (l : Nat) (b : LB) (p : List Int × Int) : S where
 fr := [(0, .fn (.yield l) [] []), (1, .ptr 1 [] 0), (2, .ptr 2 [] 0)]
 hp := [(5, .lp b .ready none), (4, .dfr), (0, .var (.ms 6 1 p.1.length)), (1, .var (.int .i64 p.2)), (2, .var (.sl (rowI (fun j => kidF t w ld j) t.length) false)), (6, .row 1 (p.1.map iav))]
 nx := 7
set_option maxRecDepth 10000 in
theorem line_pure (t : List Node) (w : List Int) (ld : List Bool) (i : Int) : Pure Tryz.prog 102 [tav t, .sl (w.map uav) false, .sl (ld.map .bool) false, .int .i64 i] (.sl ((lineR t w ld i).map iav) false) := by
 refine pure_of_trM Tryz.func102 rfl nb rfl fun E hE hP => ?_
 refine mr ?_
 by_cases ht : toldB t w ld = true
 · by_cases h0 : i < 0
   · have e0 : decide (i < 0) = true := decide_eq_true h0
     have er : lineR t w ld i = [] := by unfold lineR; rw [if_neg (by omega)]
     have ff := And.intro ht e0
     have c1 := And.intro (en Tryz.func173) (btold_pure t w ld)
     refine mr ?_
     refine mYes ?_
     refine mr ?_
     refine Tr.ret ?_
     rw [er]
     refine ⟨List.nodup_nil, fun o ho => (by cases ho), ?_⟩
     simp only [drop_none,  Tryz.f102, go_sem, seval]
   · have e0 : decide (i < 0) = false := decide_eq_false h0
     by_cases h1 : t.length ≤ i
     · have e1 : decide ((t.length : Int) ≤ i) = true := decide_eq_true h1
       have er : lineR t w ld i = [] := by unfold lineR; rw [if_neg (by omega)]
       have ff := And.intro ht (And.intro e0 e1)
       have c1 := And.intro (en Tryz.func173) (btold_pure t w ld)
       refine mr ?_
       refine mYes ?_
       refine mr ?_
       refine Tr.ret ?_
       rw [er]
       refine ⟨List.nodup_nil, fun o ho => (by cases ho), ?_⟩
       simp only [drop_none,  Tryz.f102, go_sem, seval]
     · have e1 : decide ((t.length : Int) ≤ i) = false := decide_eq_false h1
       have er : lineR t w ld i = lineF t w ld i := by unfold lineR; rw [if_pos ⟨ht, by omega, by omega⟩]
       obtain ⟨hm, hwl, hdl⟩ := told_facts ht
       have ff := And.intro ht (And.intro e0 e1)
       have c1 := And.intro (en Tryz.func173) (btold_pure t w ld)
       refine mr ?_
       refine mNot ?_
       refine mT ?_
       refine mr ?_
       have c1 := And.intro (en Tryz.func175) (kids_pure t w ld ht)
       have o1 := And.intro (en Tryz.func174) (down_own (rowI (fun j => kidF t w ld j) t.length) i)
       refine mr ?_
       refine Tr.wk (Wk.trans (Wk.nilVar 288 1 rfl) (s'' := st25 t w ld i) ?_) ?_
       · refine wk_ren (fun | 0 => 288 | 1 => 384 | 2 => 385 | 3 => 400 | n => n) mB mB rfl rfl rfl
       · unfold st25
         refine Tr.block ?_
         refine Tr.range (fid := 217) (fn := Tryz.f217) rfl (en Tryz.func217) Tryz.func217 rfl rfl nb ?_
         have hE0 := hE
         intro E' l b hE hP' sd
         have hP : E'.pn = 6 := hP'
         refine mBk ?_
         refine Tr.loop (st60 t w ld l b) (fun p => (p.2 = -1 ∨ (0 ≤ p.2 ∧ p.2 < t.length)) ∧ p.1 ++ lineF t w ld p.2 = lineF t w ld i) (fun p => (lineF t w ld p.2).length) ([], i) ⟨.inr ⟨by omega, by omega⟩, rfl⟩ ?_ ?_
         · refine wk_ren (fun | 6 => 3 | n => n) mB mB rfl rfl rfl
         · rintro ⟨d, c⟩ ⟨hc, hline⟩
           unfold st60
           rcases hc with hc | ⟨hc0, hc1⟩
           · simp only at hc
             subst hc
             first | refine tr_seq_y 5 sd xE rfl rfl rfl ?_ | (refine Tr.seq ?_; refine tr_seq_y 5 sd xE rfl rfl rfl ?_)
             refine mL ?_
             refine mG ?_
             refine vc_nil ?_
             refine gy_no rfl rfl rfl ?_
             refine mS ?_
             refine mO ?_
             refine vc_nil ?_
             refine mNo ?_
             refine Tr.exit ?_
             refine mU ?_
             have hE := hE0
             refine ⟨rfl, _, _, rfl, by simp, rfl, ?_⟩
             simp only [goOn]
             simp only [HP.del, fB, go_sem, seval]
             have hd : d = lineF t w ld i := by
              have h := hline
              simp only [lineF_none, List.append_nil] at h
              exact h
             have hlen : d.length = (d.map iav).length := by simp
             rw [er, ← hd]
             refine mr ?_
             refine Tr.ret ?_
             refine ⟨by simp, fun o ho => by rw [List.mem_singleton.1 ho]; rfl, ?_⟩
             simp only [HP.drop, List.contains_cons, List.contains_nil, Bool.or_false, Bool.false_or, Bool.or_true, fB, ← hlen, Tryz.f102, go_sem, seval]
           · obtain ⟨j, rfl⟩ : ∃ j : Nat, c = j := ⟨c.toNat, by simp only at hc0; omega⟩
             have ej : ((j : Int) != -1) = true := by rw [int_bne, dfO]; rfl
             first | refine tr_seq_y 5 sd xE rfl rfl rfl ?_ | (refine Tr.seq ?_; refine tr_seq_y 5 sd xE rfl rfl rfl ?_)
             refine mL ?_
             repeat (first | (refine vc_op rfl ?_; simp only [ej, go_sem, seval]) | (refine vc_go rfl rfl rfl ?_; simp only [ej, go_sem, seval]) | (refine vc_no rfl rfl rfl ?_; simp only [ej, go_sem, seval]) | (refine vc_skip rfl rfl rfl ?_; simp only [ej, go_sem, seval]))
             refine vc_nil ?_
             have hE1 := hE
             have hP1 := hP
             refine gy_if rfl rfl rfl ?_
             refine ⟨_, rfl, rfl, rfl, rfl, by rw [hE0]; rfl, rfl, ?_⟩
             intro Er hE hP
             rw [hE0] at hE
             refine mZ ?_
             refine mRd ?_
             refine ⟨rfl, ?_⟩
             refine mS ?_
             refine mBk ?_
             have hline : d ++ lineF t w ld j = lineF t w ld i := hline
             have hd12 : d.length ≤ 12 := by
              have h1 := congrArg List.length hline
              have h2 := lineF_len (t := t) (w := w) (ld := ld) i (by omega)
              rw [List.length_append] at h1
              have := (may_len hm).2
              omega
             apply tr_ml xE
             intro Q hQ
             refine mS ?_
             iterate 3 refine mV ?_
             refine vm_op ?_; intro r hr; simp only [go_sem, seval]
             refine ⟨by omega, by omega, ?_⟩
             simp only [fB, go_sem, seval]
             subst hr
             refine mV ?_
             exact hQ
             refine mU ?_
             refine ⟨rfl, ?_⟩
             refine mS ?_
             refine mO ?_
             refine vc_nil ?_
             have hE := hE1
             have hP := hP1
             refine mYes ?_
             refine mT ?_
             have hn := nth_row (fun j => kidF t w ld j) (n := t.length) (i := j) (by omega)
             refine mBk ?_
             have ff := hn
             refine mr ?_
             refine mU ?_
             have hnext := lineF_next (w := w) (ld := ld) hm (i := j) (by omega) (by omega)
             have hkr := kidF_range (w := w) (ld := ld) hm j (by omega)
             refine ⟨(d ++ [(j : Int)], kidF t w ld j), ⟨by omega, ?_⟩, ?_, ?_⟩
             · rw [List.append_assoc, List.singleton_append, ← hnext]; exact hline
             · show (lineF t w ld (kidF t w ld j)).length < (lineF t w ld j).length
               rw [hnext]; simp
             · simp only [st60, List.map_append, List.length_append, List.length_singleton, List.map_cons, List.map_nil]
               refine wk_ren (fun | 6 => 151 | n => n) mB mB rfl rfl rfl
 · have ht : toldB t w ld = false := by simpa using ht
   have er : lineR t w ld i = [] := by unfold lineR; rw [if_neg (by simp [ht])]
   have ff := ht
   have c1 := And.intro (en Tryz.func173) (btold_pure t w ld)
   refine mr ?_
   refine mYes ?_
   refine mr ?_
   refine Tr.ret ?_
   rw [er]
   refine ⟨List.nodup_nil, fun o ho => (by cases ho), ?_⟩
   simp only [drop_none,  Tryz.f102, go_sem, seval]
def headR (t : List Node) (w : List Int) (ld : List Bool) (i : Int) : Int := (lineR t w ld i).getLastD (-1)
theorem lineR_len (t : List Node) (w : List Int) (ld : List Bool) (i : Int) : (lineR t w ld i).length ≤ 12 := by
 unfold lineR
 split
 · rename_i h
   exact Nat.le_trans (lineF_len i h.2.1) (may_len (told_facts h.1).1).2
 · simp
def st26 (t : List Node) (w : List Int) (ld : List Bool) (p : List Int × Int) : S where
 fr := [(1, .sl (w.map uav) false), (2, .sl (ld.map .bool) false), (3, .int .i64 p.2), (4, .ptr 0 [] 0), (9, .ms 1 1 p.1.length), (10, .bool (toldB t w ld))]
 hp := [(0, .var (tav t)), (1, .row 1 (p.1.map iav))]
 nx := 2
set_option maxRecDepth 10000 in
theorem refline_pure (t : List Node) (w : List Int) (ld : List Bool) (i : Int) (hl : t.length ≤ 100) : Pure Tryz.prog 116 [tav t, .sl (w.map uav) false, .sl (ld.map .bool) false, .int .i64 i] (.sl ((lineR t w ld i).map iav) false) := by
 refine pure_of_tr Tryz.func116 rfl nb rfl fun E hE hP => ?_
 refine mr ?_
 refine mr ?_
 have c1 := And.intro (en Tryz.func186) (brefTold_pure t w ld hl)
 refine mr ?_
 by_cases h1 : t.length ≤ i
 · have e1 : decide ((t.length : Int) ≤ i) = true := decide_eq_true h1
   have er : lineR t w ld i = [] := by unfold lineR; rw [if_neg (by omega)]
   have ff := e1
   refine mr ?_
   refine mYes ?_
   refine mr ?_
   rw [er]
   refine Tr.ret ?_
   simp only [Tryz.f116, go_sem, seval]
 · have e1 : decide ((t.length : Int) ≤ i) = false := decide_eq_false h1
   have ff := e1
   refine mr ?_
   refine mNot ?_
   refine mT ?_
   refine mBk ?_
   by_cases hgo : toldB t w ld = true ∧ 0 ≤ i
   · obtain ⟨ht, h0⟩ := hgo
     obtain ⟨hm, hwl, hdl⟩ := told_facts ht
     have er : lineR t w ld i = lineF t w ld i := by unfold lineR; rw [if_pos ⟨ht, h0, by omega⟩]
     refine Tr.loop (st26 t w ld) (fun p => (p.2 = -1 ∨ (0 ≤ p.2 ∧ p.2 < t.length)) ∧ p.1 ++ lineF t w ld p.2 = lineF t w ld i) (fun p => (lineF t w ld p.2).length) ([], i) ⟨.inr ⟨h0, by omega⟩, rfl⟩ ?_ ?_
     · refine (Wk.nil 9 1 rfl).trans ?_
       refine wk_ren (fun | 1 => 208 | n => n) mB mB rfl rfl rfl
     · rintro ⟨d, c⟩ ⟨hc, hline⟩
       unfold st26
       simp only [ht]
       have hline : d ++ lineF t w ld c = lineF t w ld i := hline
       rcases hc with hc | ⟨hc0, hc1⟩
       · have hc : c = -1 := hc
         subst hc
         have hd : d = lineF t w ld i := by
          have h := hline
          rw [lineF_none, List.append_nil] at h
          exact h
         have hlen : d.length = (d.map iav).length := by simp
         rw [er, ← hd]
         refine mr ?_
         refine mNo ?_
         refine Tr.exit ?_
         refine mU ?_
         refine mr ?_
         refine Tr.ret ?_
         simp only [← hlen, Tryz.f116, go_sem, seval]
       · have hc0 : 0 ≤ c := hc0
         have hc1 : c < t.length := hc1
         have e0 : decide (0 ≤ c) = true := decide_eq_true hc0
         have hd12 : d.length ≤ 12 := by
          have h1 := congrArg List.length hline
          have h2 := lineF_len (t := t) (w := w) (ld := ld) i (by omega)
          rw [List.length_append] at h1
          have := (may_len hm).2
          omega
         have hk : kidR t w ld c = kidF t w ld c := by unfold kidR; rw [if_pos ⟨ht, hc0⟩]
         have hnext := lineF_next (w := w) (ld := ld) hm hc0 hc1
         have hkr := kidF_range (w := w) (ld := ld) hm c hc0
         have ff := e0
         refine mr ?_
         refine mYes ?_
         refine mT ?_
         refine mBk ?_
         first | apply tr_m xE | (refine Tr.seq ?_; apply tr_m xE)
         intro Q hQ
         refine mS ?_
         iterate 3 refine mV ?_
         refine vm_op ?_; intro r hr; simp only [go_sem, seval]
         refine ⟨by omega, by omega, ?_⟩
         simp only [fB, go_sem, seval]
         subst hr
         refine mV ?_
         exact hQ
         have ff := hk
         have c1 := And.intro (en Tryz.func187) (refkid_pure t w ld c hl)
         refine mr ?_
         refine mU ?_
         refine ⟨(d ++ [c], kidF t w ld c), ⟨by omega, ?_⟩, ?_, ?_⟩
         · show (d ++ [c]) ++ lineF t w ld (kidF t w ld c) = _
           rw [List.append_assoc, List.singleton_append, ← hnext]; exact hline
         · show (lineF t w ld (kidF t w ld c)).length < (lineF t w ld c).length
           rw [hnext]; simp
         · simp only [st26, ht, List.map_append, List.length_append, List.length_singleton, List.map_cons, List.map_nil]
           refine wk_ren (fun | 1 => 130 | n => n) mB mB rfl rfl rfl
   · have er : lineR t w ld i = [] := by unfold lineR; rw [if_neg fun h => hgo ⟨h.1, h.2.1⟩]
     rw [er]
     refine Tr.loop (st26 t w ld) (fun p => p = ([], i)) (fun p => 0) ([], i) rfl ?_ ?_
     · refine (Wk.nil 9 1 rfl).trans ?_
       refine wk_ren (fun | 1 => 208 | n => n) mB mB rfl rfl rfl
     · rintro p rfl
       unfold st26
       by_cases ht : toldB t w ld = true
       · have e0 : decide (0 ≤ i) = false := decide_eq_false fun h => hgo ⟨ht, h⟩
         simp only [ht]
         have ff := e0
         refine mr ?_
         refine mNo ?_
         refine Tr.exit ?_
         refine mU ?_
         refine mr ?_
         refine Tr.ret ?_
         simp only [Tryz.f116, go_sem, seval]
       · have ht : toldB t w ld = false := by simpa using ht
         simp only [ht]
         refine mr ?_
         refine mNo ?_
         refine Tr.exit ?_
         refine mU ?_
         refine mr ?_
         refine Tr.ret ?_
         simp only [Tryz.f116, go_sem, seval]
def st32 (l : List Int) (k : Nat) : S where
 fr := [(9, .int .i64 ((l.take k).getLastD (-1))), (16, .sl (l.map iav) false), (17, .int .i64 l.length), (18, .int .i64 k)]
 hp := []
 nx := 0
theorem take_last {l : List Int} {k : Nat} (h : k < l.length) : (l.take (k + 1)).getLastD (-1) = l[k] := by
 rw [take_next h rfl, List.getLastD_concat]
set_option maxRecDepth 10000 in
theorem head_pure (t : List Node) (w : List Int) (ld : List Bool) (i : Int) : Pure Tryz.prog 44 [tav t, .sl (w.map uav) false, .sl (ld.map .bool) false, .int .i64 i] (.int .i64 (headR t w ld i)) := by
 have hll := lineR_len t w ld i
 have hlp := line_pure t w ld i
 have hr : headR t w ld i = (lineR t w ld i).getLastD (-1) := rfl
 generalize lineR t w ld i = l at hll hlp hr
 rw [hr]
 refine pure_of_tr Tryz.func44 rfl nb rfl fun E hE hP => ?_
 refine mr ?_
 refine mr ?_
 first | apply tr_m xE | (refine Tr.seq ?_; apply tr_m xE)
 intro Q hQ
 refine mS ?_
 iterate 4 refine mV ?_
 refine vm_op ?_; intro r hr; simp only [go_sem, seval]
 refine call_fn rfl rfl rfl rfl (en Tryz.func102) (hlp) rfl rfl rfl ?_
 refine mS ?_
 subst hr
 iterate 2 (refine vm_op ?_; intro r hr; simp only [List.length_map, go_sem, seval]; subst hr)
 exact hQ
 refine mBk ?_
 refine Tr.loop (st32 l) (fun k => k ≤ l.length) (fun k => l.length - k) 0 (Nat.zero_le _) ?_ ?_
 · exact mK
 · intro k hk
   unfold st32
   refine mr ?_
   first | refine Tr.cond rfl (fun h1 => ?_) (fun h1 => ?_) | refine Tr.seq (Tr.cond rfl (fun h1 => ?_) (fun h1 => ?_))
   · refine mT ?_
     have hlt : k < l.length := by have := of_decide_eq_true h1; omega
     have ha := nth_map_lt iav l k hlt
     simp only [iav] at ha
     have hw := wN k
     have ht := take_last hlt
     refine mBk ?_
     refine mSr ?_
     repeat (refine vc_op rfl ?_; simp only [iav, ha, go_sem, seval])
     refine vc_nil ?_
     refine mRd ?_
     refine mU ?_
     refine mRd ?_
     rw [hw]
     refine mU ?_
     refine ⟨k + 1, hlt, by omega, ?_⟩
     rw [ht]
     exact mK
   · refine Tr.exit ?_
     refine mU ?_
     have hkl : k = l.length := by have := of_decide_eq_false h1; omega
     have er : (l.take k).getLastD (-1) = l.getLastD (-1) := by rw [hkl, List.take_length]
     refine mr ?_
     refine Tr.ret ?_
     simp only [er, Tryz.f44, go_sem, seval]
theorem last_getD {l : List Int} (h : 1 ≤ l.length) : l.getLastD (-1) = l[l.length - 1] := by
 have := take_last (l := l) (k := l.length - 1) (by omega)
 rwa [show l.length - 1 + 1 = l.length by omega, List.take_length] at this
set_option maxRecDepth 10000 in
theorem refhead_pure (t : List Node) (w : List Int) (ld : List Bool) (i : Int) (hl : t.length ≤ 100) : Pure Tryz.prog 52 [tav t, .sl (w.map uav) false, .sl (ld.map .bool) false, .int .i64 i] (.int .i64 (headR t w ld i)) := by
 have hll := lineR_len t w ld i
 have hlp := refline_pure t w ld i hl
 have hr : headR t w ld i = (lineR t w ld i).getLastD (-1) := rfl
 generalize lineR t w ld i = l at hll hlp hr
 rw [hr]
 refine pure_of_tr Tryz.func52 rfl nb rfl fun E hE hP => ?_
 refine mr ?_
 have c1 := And.intro (en Tryz.func116) (hlp)
 refine mr ?_
 rcases Nat.eq_zero_or_pos l.length with h0 | h0
 · have e0 : ((l.length : Int) == 0) = true := by rw [int_beq]; exact dtO
   have er : l.getLastD (-1) = -1 := by rw [List.length_eq_zero_iff.1 h0]; rfl
   first | apply tr_m xE | (refine Tr.seq ?_; apply tr_m xE)
   intro Q hQ
   refine mS ?_
   iterate 3 (refine vm_op ?_; intro r hr; simp only [List.length_map, e0, go_sem, seval]; subst hr)
   exact hQ
   refine mYes ?_
   refine mr ?_
   refine Tr.ret ?_
   simp only [er, Tryz.f52, go_sem, seval]
 · have e0 : ((l.length : Int) == 0) = false := by rw [int_beq]; exact dfO
   have hw : IntKind.i64.wrap ((l.length : Int) - 1) = ((l.length - 1 : Nat) : Int) := by rw [wrap64_id (by omega) (by omega)]; omega
   have ha := nth_map_lt iav l (l.length - 1) (by omega)
   have er := last_getD h0
   simp only [iav] at ha
   first | apply tr_m xE | (refine Tr.seq ?_; apply tr_m xE)
   intro Q hQ
   refine mS ?_
   iterate 3 (refine vm_op ?_; intro r hr; simp only [List.length_map, e0, go_sem, seval]; subst hr)
   exact hQ
   refine mNot ?_
   refine mT ?_
   first | apply tr_m xE | (refine Tr.seq ?_; apply tr_m xE)
   intro Q hQ
   refine mS ?_
   iterate 7 (refine vm_op ?_; intro r hr; simp only [List.length_map, hw, iav, ha, go_sem, seval]; subst hr)
   exact hQ
   refine Tr.ret ?_
   simp only [er, Tryz.f52, go_sem, seval]
@[go_sem] theorem xS1 : tSize Tryz.prog 1 = some 1 ∧ tAgg Tryz.prog 1 = some false ∧ tZero Tryz.prog 1 = some (.nilf) ∧ tSize Tryz.prog 2 = some 1 ∧ tAgg Tryz.prog 2 = some false ∧ tZero Tryz.prog 2 = some (.int .i64 0) := by and_intros <;> kernel_rfl
@[go_sem] theorem xU2 : Tryz.prog.underlying 2 = some (.int .i64) := Tryz.underlying2
@[go_sem] theorem xS3 : tSize Tryz.prog 3 = some 1 ∧ tAgg Tryz.prog 3 = some false ∧ tBytes Tryz.prog 3 = some 8 ∧ tZero Tryz.prog 3 = some (.int .i64 0) := by and_intros <;> kernel_rfl
@[go_sem] theorem xU3 : Tryz.prog.underlying 3 = some (.int .i64) := Tryz.underlying3
@[go_sem] theorem xS4 : tSize Tryz.prog 4 = some 1 ∧ tAgg Tryz.prog 4 = some false ∧ tBytes Tryz.prog 4 = some 1 ∧ tZero Tryz.prog 4 = some (.bool false) := by and_intros <;> kernel_rfl
@[go_sem] theorem xU4 : Tryz.prog.underlying 4 = some .bool := Tryz.underlying4
@[go_sem] theorem xS5 : tSize Tryz.prog 5 = some 1 ∧ tAgg Tryz.prog 5 = some false ∧ tBytes Tryz.prog 5 = some 1 ∧ tZero Tryz.prog 5 = some (.int .u8 0) := by and_intros <;> kernel_rfl
@[go_sem] theorem xU5 : Tryz.prog.underlying 5 = some (.int .u8) := Tryz.underlying5
@[go_sem] theorem xS9 : tSize Tryz.prog 9 = some 1 ∧ tAgg Tryz.prog 9 = some false ∧ tSize Tryz.prog 22 = some 1 ∧ tAgg Tryz.prog 22 = some false ∧ tZero Tryz.prog 22 = some (.sl [] true) ∧ tElem Tryz.prog 22 = some 65 := by and_intros <;> kernel_rfl
@[go_sem] theorem xU22 : Tryz.prog.underlying 22 = some (.slice 65) := Tryz.underlying22
@[go_sem] theorem xS24 : tSize Tryz.prog 24 = some 1 ∧ tAgg Tryz.prog 24 = some true ∧ tSize Tryz.prog 25 = some 1 ∧ tAgg Tryz.prog 25 = some false ∧ tZero Tryz.prog 25 = some (.sl [] true) ∧ tElem Tryz.prog 25 = some 27 := by and_intros <;> kernel_rfl
@[go_sem] theorem xU25 : Tryz.prog.underlying 25 = some (.slice 27) := Tryz.underlying25
@[go_sem] theorem xS26 : tSize Tryz.prog 26 = some 1 ∧ tAgg Tryz.prog 26 = some false ∧ tZero Tryz.prog 26 = some (.sl [] true) ∧ tElem Tryz.prog 26 = some 146 := by and_intros <;> kernel_rfl
@[go_sem] theorem xU26 : Tryz.prog.underlying 26 = some (.slice 146) := Tryz.underlying26
@[go_sem] theorem xS27 : tSize Tryz.prog 27 = some 1 ∧ tAgg Tryz.prog 27 = some false ∧ tBytes Tryz.prog 27 = some 8 ∧ tZero Tryz.prog 27 = some (.int .u64 0) := by and_intros <;> kernel_rfl
@[go_sem] theorem xU27 : Tryz.prog.underlying 27 = some (.int .u64) := Tryz.underlying27
@[go_sem] theorem xS29 : tSize Tryz.prog 29 = some 2 ∧ tAgg Tryz.prog 29 = some true ∧ tSize Tryz.prog 30 = some 1 ∧ tAgg Tryz.prog 30 = some false ∧ tZero Tryz.prog 30 = some (.sl [] true) ∧ tElem Tryz.prog 30 = some 76 := by and_intros <;> kernel_rfl
@[go_sem] theorem xU30 : Tryz.prog.underlying 30 = some (.slice 76) := Tryz.underlying30
@[go_sem] theorem xS31 : tSize Tryz.prog 31 = some 1 ∧ tAgg Tryz.prog 31 = some false ∧ tZero Tryz.prog 31 = some (.sl [] true) ∧ tElem Tryz.prog 31 = some 149 := by and_intros <;> kernel_rfl
@[go_sem] theorem xU31 : Tryz.prog.underlying 31 = some (.slice 149) := Tryz.underlying31
@[go_sem] theorem xS32 : tSize Tryz.prog 32 = some 1 ∧ tAgg Tryz.prog 32 = some false ∧ tZero Tryz.prog 32 = some (.sl [] true) ∧ tElem Tryz.prog 32 = some 36 := by and_intros <;> kernel_rfl
@[go_sem] theorem xU32 : Tryz.prog.underlying 32 = some (.slice 36) := Tryz.underlying32
@[go_sem] theorem xS33 : tSize Tryz.prog 33 = some 32 ∧ tAgg Tryz.prog 33 = some true ∧ tZero Tryz.prog 33 = some (.root zroot) ∧ tSize Tryz.prog 34 = some 32 ∧ tAgg Tryz.prog 34 = some true ∧ tBytes Tryz.prog 34 = some 32 ∧ tZero Tryz.prog 34 = some (.root zroot) ∧ tSize Tryz.prog 36 = some 33 ∧ tAgg Tryz.prog 36 = some true ∧ tBytes Tryz.prog 36 = some 40 := by and_intros <;> kernel_rfl
@[go_sem] theorem xS38 : tSize Tryz.prog 38 = some 42 ∧ tAgg Tryz.prog 38 = some true ∧ tSize Tryz.prog 40 = some 100 ∧ tAgg Tryz.prog 40 = some true ∧ tSize Tryz.prog 41 = some 1 ∧ tAgg Tryz.prog 41 = some false ∧ tZero Tryz.prog 41 = some (.sl [] true) ∧ tElem Tryz.prog 41 = some 5 := by and_intros <;> kernel_rfl
@[go_sem] theorem xU41 : Tryz.prog.underlying 41 = some (.slice 5) := Tryz.underlying41
@[go_sem] theorem xS43 : tSize Tryz.prog 43 = some 67 ∧ tAgg Tryz.prog 43 = some true ∧ tSize Tryz.prog 48 = some 1 ∧ tAgg Tryz.prog 48 = some false ∧ tZero Tryz.prog 48 = some (.nilf) ∧ tSize Tryz.prog 49 = some 1 ∧ tAgg Tryz.prog 49 = some false ∧ tZero Tryz.prog 49 = some (.int .i64 0) := by and_intros <;> kernel_rfl
@[go_sem] theorem xU49 : Tryz.prog.underlying 49 = some (.int .i64) := Tryz.underlying49
@[go_sem] theorem xS51 : tSize Tryz.prog 51 = some 67 ∧ tAgg Tryz.prog 51 = some true ∧ tSize Tryz.prog 54 = some 66 ∧ tAgg Tryz.prog 54 = some true ∧ tSize Tryz.prog 56 = some 1 ∧ tAgg Tryz.prog 56 = some false ∧ tZero Tryz.prog 56 = some (.nilf) ∧ tSize Tryz.prog 58 = some 66 ∧ tAgg Tryz.prog 58 = some true ∧ tSize Tryz.prog 65 = some 35 := by and_intros <;> kernel_rfl
@[go_sem] theorem xA65 : tAgg Tryz.prog 65 = some true ∧ tBytes Tryz.prog 65 = some 56 ∧ tSize Tryz.prog 66 = some 1 ∧ tAgg Tryz.prog 66 = some false ∧ tZero Tryz.prog 66 = some (.nilf) ∧ tSize Tryz.prog 76 = some 100 ∧ tAgg Tryz.prog 76 = some true ∧ tBytes Tryz.prog 76 = some 128 ∧ tSize Tryz.prog 81 = some 1 ∧ tAgg Tryz.prog 81 = some false := by and_intros <;> kernel_rfl
@[go_sem] theorem xZ81 : tZero Tryz.prog 81 = some (.sl [] true) ∧ tElem Tryz.prog 81 = some 3 := by and_intros <;> kernel_rfl
@[go_sem] theorem xU81 : Tryz.prog.underlying 81 = some (.slice 3) := Tryz.underlying81
@[go_sem] theorem xS88 : tSize Tryz.prog 88 = some 1 ∧ tAgg Tryz.prog 88 = some false ∧ tZero Tryz.prog 88 = some (.nilf) ∧ tSize Tryz.prog 89 = some 1 ∧ tAgg Tryz.prog 89 = some false ∧ tZero Tryz.prog 89 = some (.sl [] true) ∧ tElem Tryz.prog 89 = some 4 := by and_intros <;> kernel_rfl
@[go_sem] theorem xU89 : Tryz.prog.underlying 89 = some (.slice 4) := Tryz.underlying89
@[go_sem] theorem xS95 : tSize Tryz.prog 95 = some 1 ∧ tAgg Tryz.prog 95 = some false ∧ tSize Tryz.prog 100 = some 1 ∧ tAgg Tryz.prog 100 = some false ∧ tZero Tryz.prog 100 = some (.nilf) ∧ tSize Tryz.prog 104 = some 1 ∧ tAgg Tryz.prog 104 = some false ∧ tZero Tryz.prog 104 = some (.sl [] true) ∧ tElem Tryz.prog 104 = some 34 := by and_intros <;> kernel_rfl
@[go_sem] theorem xU104 : Tryz.prog.underlying 104 = some (.slice 34) := Tryz.underlying104
@[go_sem] theorem xS106 : tSize Tryz.prog 106 = some 1 ∧ tAgg Tryz.prog 106 = some false ∧ tZero Tryz.prog 106 = some (.nilf) ∧ tSize Tryz.prog 107 = some 1 ∧ tAgg Tryz.prog 107 = some false ∧ tSize Tryz.prog 108 = some 1 ∧ tAgg Tryz.prog 108 = some false ∧ tZero Tryz.prog 108 = some (.nilf) ∧ tSize Tryz.prog 112 = some 275 ∧ tAgg Tryz.prog 112 = some true := by and_intros <;> kernel_rfl
@[go_sem] theorem xS113 : tSize Tryz.prog 113 = some 1 ∧ tAgg Tryz.prog 113 = some false ∧ tZero Tryz.prog 113 = some (.nilf) ∧ tSize Tryz.prog 115 = some 1 ∧ tAgg Tryz.prog 115 = some false ∧ tZero Tryz.prog 115 = some (.nilp) ∧ tSize Tryz.prog 117 = some 1 ∧ tAgg Tryz.prog 117 = some false ∧ tSize Tryz.prog 128 = some 1 ∧ tAgg Tryz.prog 128 = some false := by and_intros <;> kernel_rfl
@[go_sem] theorem xZ128 : tZero Tryz.prog 128 = some (.nilf) ∧ tSize Tryz.prog 132 = some 4 ∧ tAgg Tryz.prog 132 = some true ∧ tSize Tryz.prog 138 = some 1 ∧ tAgg Tryz.prog 138 = some false ∧ tZero Tryz.prog 138 = some (.nilf) ∧ tSize Tryz.prog 144 = some 1 ∧ tAgg Tryz.prog 144 = some false ∧ tZero Tryz.prog 144 = some (.nilf) ∧ tSize Tryz.prog 146 = some 34 := by and_intros <;> kernel_rfl
@[go_sem] theorem xA146 : tAgg Tryz.prog 146 = some true ∧ tBytes Tryz.prog 146 = some 48 ∧ tSize Tryz.prog 149 = some 67 ∧ tAgg Tryz.prog 149 = some true ∧ tBytes Tryz.prog 149 = some 88 ∧ tSize Tryz.prog 154 = some 1 ∧ tAgg Tryz.prog 154 = some false ∧ tZero Tryz.prog 154 = some (.nilf) ∧ tSize Tryz.prog 156 = some 1 ∧ tAgg Tryz.prog 156 = some false := by and_intros <;> kernel_rfl
@[go_sem] theorem xZ156 : tZero Tryz.prog 156 = some (.nilf) ∧ tSize Tryz.prog 157 = some 1 ∧ tAgg Tryz.prog 157 = some false ∧ tSize Tryz.prog 162 = some 1 ∧ tAgg Tryz.prog 162 = some false ∧ tZero Tryz.prog 162 = some (.nilf) ∧ tSize Tryz.prog 167 = some 1 ∧ tAgg Tryz.prog 167 = some false ∧ tZero Tryz.prog 167 = some (.nilf) ∧ tSize Tryz.prog 174 = some 1 := by and_intros <;> kernel_rfl
@[go_sem] theorem xA174 : tAgg Tryz.prog 174 = some false ∧ tZero Tryz.prog 174 = some (.nilf) ∧ tSize Tryz.prog 179 = some 1 ∧ tAgg Tryz.prog 179 = some false ∧ tZero Tryz.prog 179 = some (.nilp) ∧ tSize Tryz.prog 181 = some 1 ∧ tAgg Tryz.prog 181 = some true ∧ tSize Tryz.prog 184 = some 1 ∧ tAgg Tryz.prog 184 = some false ∧ tZero Tryz.prog 184 = some (.nilf) := by and_intros <;> kernel_rfl
@[go_sem] theorem xS198 : tSize Tryz.prog 198 = some 1 ∧ tAgg Tryz.prog 198 = some false ∧ tZero Tryz.prog 198 = some (.nilf) ∧ tSize Tryz.prog 200 = some 1 ∧ tAgg Tryz.prog 200 = some false ∧ tZero Tryz.prog 200 = some (.nilf) ∧ tSize Tryz.prog 203 = some 1 ∧ tAgg Tryz.prog 203 = some false ∧ tZero Tryz.prog 203 = some (.nilp) ∧ tSize Tryz.prog 205 = some 2 := by and_intros <;> kernel_rfl
@[go_sem] theorem xA205 : tAgg Tryz.prog 205 = some true ∧ tSize Tryz.prog 208 = some 1 ∧ tAgg Tryz.prog 208 = some false ∧ tZero Tryz.prog 208 = some (.nilf) ∧ tSize Tryz.prog 220 = some 66 ∧ tAgg Tryz.prog 220 = some true ∧ tSize Tryz.prog 225 = some 1 ∧ tAgg Tryz.prog 225 = some false ∧ tSize Tryz.prog 228 = some 1 ∧ tAgg Tryz.prog 228 = some false := by and_intros <;> kernel_rfl
@[go_sem] theorem xS232 : tSize Tryz.prog 232 = some 1 ∧ tAgg Tryz.prog 232 = some false ∧ tZero Tryz.prog 232 = some (.nilp) ∧ tSize Tryz.prog 247 = some 1 ∧ tAgg Tryz.prog 247 = some false ∧ tZero Tryz.prog 247 = some (.nilf) ∧ tSize Tryz.prog 252 = some 1 ∧ tAgg Tryz.prog 252 = some false ∧ tZero Tryz.prog 252 = some (.nilf) ∧ tSize Tryz.prog 261 = some 1 := by and_intros <;> kernel_rfl
@[go_sem] theorem xA261 : tAgg Tryz.prog 261 = some false ∧ tZero Tryz.prog 261 = some (.nilf) ∧ tSize Tryz.prog 263 = some 2 ∧ tAgg Tryz.prog 263 = some true ∧ tSize Tryz.prog 275 = some 1 ∧ tAgg Tryz.prog 275 = some false ∧ tZero Tryz.prog 275 = some (.nilf) ∧ tSize Tryz.prog 276 = some 64 ∧ tAgg Tryz.prog 276 = some true := by and_intros <;> kernel_rfl
attribute [go_sem] Int.toNat_natCast
attribute [go_sem] u64s checks links
end Go.Proofs.YtgnidooihignfaaGreatDoor

/- The reference: what may be final. -/
import Derived.Test.YtgnidooihignfaaGreatDoorP2
set_option linter.unusedSimpArgs false
set_option maxRecDepth 10000
namespace Go.Proofs.YtgnidooihignfaaGreatDoor
open Go Go.Ab
def okC (l : List Link) : Prop := ∀ a ∈ l, 0 ≤ a.s.epoch ∧ 0 ≤ a.t.epoch ∧ a.s.epoch < 18446744073709551616 ∧ a.t.epoch < 18446744073709551616
def linkF (js : List Check) (c : Check) (a : Link) : Bool := decide (a.t ∈ js) && (decide (a.s = c) && decide (a.t.epoch = a.s.epoch + 1))
def finB (t : List Node) (l : List Link) (b : List Int) (js : List Check) (c : Check) : Bool := (countL t l b).any (linkF js c)
def finalsR (t : List Node) (l : List Link) (b : List Int) (js : List Check) : List Check := js.filter (finB t l b js)
def linkW (js : List Check) (c : Check) (a : Link) : Bool := decide (a.t ∈ js) && (decide (a.s = c) && decide (IntKind.u64.wrap (a.t.epoch - 1) = c.epoch))
def anyW (t : List Node) (l : List Link) (b : List Int) (js : List Check) (c : Check) (k : Nat) : Bool := (l.take k).any fun a => countB t b a && linkW js c a
theorem told_links {t : List Node} {l : List Link} {b : List Int} (h : toldR t l b = true) : mayB t = true ∧ lmayB l = true ∧ mayS b = true := by
 simpa [toldR] using h
theorem may_epoch {l : List Link} (h : lmayB l = true) {a : Link} (ha : a ∈ l) : a.s.epoch < a.t.epoch := (odd_false.1 ((may_spec h).2.1 a ha)).1
theorem finals_not {t : List Node} {l : List Link} {b : List Int} {js : List Check} (h : toldR t l b = false) : finalsR t l b js = [] := by
 unfold finalsR finB countL
 rw [if_neg (by simp [h])]
 simp
theorem anyW_all {t : List Node} {l : List Link} {b : List Int} {js : List Check} {c : Check} (h : toldR t l b = true) (hk : okC l) : anyW t l b js c l.length = finB t l b js c := by
 unfold anyW finB countL
 rw [if_pos h, List.take_length, List.any_filter, Bool.eq_iff_iff, List.any_eq_true, List.any_eq_true]
 have hl := (told_links h).2.1
 have e : ∀ a ∈ l, linkW js c a = linkF js c a := fun a ha => by
  have h1 := may_epoch hl ha
  have h2 := hk a ha
  have hw : IntKind.u64.wrap (a.t.epoch - 1) = a.t.epoch - 1 := wrapU_lt (by omega) (by omega)
  unfold linkW linkF
  rw [hw]
  by_cases hs : a.s = c
  · have : decide (a.t.epoch - 1 = c.epoch) = decide (a.t.epoch = a.s.epoch + 1) := decide_eq_decide.2 (by rw [hs]; omega)
    rw [this]
  · rw [decide_eq_false hs]; simp
 constructor
 · rintro ⟨a, ha, hb⟩
   exact ⟨a, ha, by rw [← e a ha]; exact hb⟩
 · rintro ⟨a, ha, hb⟩
   exact ⟨a, ha, by rw [e a ha]; exact hb⟩
theorem anyW_next {t : List Node} {l : List Link} {b : List Int} {js : List Check} {c : Check} {k : Nat} (h : k < l.length) : anyW t l b js c (k + 1) = (anyW t l b js c k || (countB t b l[k] && linkW js c l[k])) := by
 unfold anyW
 rw [List.take_add_one, List.getElem?_eq_getElem h, List.any_append]
 simp only [Option.toList_some, List.any_cons, List.any_nil, Bool.or_false]
def stF (t : List Node) (l : List Link) (b : List Int) (js : List Check) (i : Nat) : S where
 fr := [(1, .sl (l.map Link.av) false), (2, u64s b), (3, .sl (js.map Check.av) false), (4, .ptr 0 [] 0), (9, .ms 1 33 ((js.take i).filter (finB t l b js)).length), (10, .bool true), (11, .int .i64 i)]
 hp := [(0, .var (tav t)), (1, .row 33 (((js.take i).filter (finB t l b js)).map Check.av))]
 nx := 2
def stFi (t : List Node) (l : List Link) (b : List Int) (js : List Check) (i : Nat) (c : Check) (m : List Check) (k : Nat) : S where
 fr := [(1, .sl (l.map Link.av) false), (2, u64s b), (3, .sl (js.map Check.av) false), (4, .ptr 0 [] 0), (9, .ms 1 33 m.length), (10, .bool true), (11, .int .i64 i), (12, .bool (anyW t l b js c k)), (13, .int .i64 k)]
 hp := [(0, .var (tav t)), (1, .row 33 (m.map Check.av))]
 nx := 2
theorem reffinals_pure (t : List Node) (l : List Link) (b : List Int) (js : List Check) (ht : t.length ≤ 100) (hl : l.length ≤ 100) (hbl : b.length ≤ 9223372036854775807) (hj : js.length ≤ 100) (hb : okB b) (hk : okL l) (hc : okC l) : Pure Tryz.prog 183 [tav t, links l, u64s b, checks js] (checks (finalsR t l b js)) := by
 have h1 := reftold_pure t l b ht hl hbl hk
 unfold checks
 cases h : toldR t l b with
 | false =>
   have er := finals_not (js := js) h
   rw [h] at h1
   unfold links at h1 ⊢
   refine pure_of_tr Tryz.func183 rfl nb rfl fun E hE hP => ?_
   refine mr ?_
   refine mr ?_
   have c1 := And.intro (en Tryz.func181) (h1)
   refine mr ?_
   refine mr ?_
   refine mBk ?_
   refine Tr.loop (fun _ : Unit => (⟨[(3, .sl (js.map Check.av) false), (9, .sl [] true), (10, .bool false), (11, .int .i64 0)], [], 1, []⟩ : S)) (fun _ => True) (fun _ => 0) () trivial ?_ ?_
   · exact mK
   · intro _ _
     cases hb0 : decide ((0 : Int) < (js.length : Int))
     · have ff := hb0
       refine mr ?_
       refine mNo ?_
       refine Tr.exit ?_
       refine mU ?_
       refine mr ?_
       refine Tr.ret ?_
       simp only [er, Tryz.f183, go_sem, seval]
     · have ff := hb0
       refine mr ?_
       refine mNo ?_
       refine Tr.exit ?_
       refine mU ?_
       refine mr ?_
       refine Tr.ret ?_
       simp only [er, Tryz.f183, go_sem, seval]
 | true =>
   rw [h] at h1
   unfold links at h1 ⊢
   refine pure_of_tr Tryz.func183 rfl nb rfl fun E hE hP => ?_
   refine mr ?_
   refine mr ?_
   have c1 := And.intro (en Tryz.func181) (h1)
   refine mr ?_
   refine mr ?_
   refine mBk ?_
   refine Tr.loop (stF t l b js) (fun i => i ≤ js.length) (fun i => js.length - i) 0 (Nat.zero_le _) ?_ ?_
   · refine (Wk.nil 9 33 rfl).trans ?_
     refine wk_ren (fun | 1 => 144 | n => n) mB mB rfl rfl rfl
   · intro i hi
     unfold stF
     by_cases hlt : i < js.length
     · have e1 : decide ((i : Int) < (js.length : Int)) = true := dtO
       have hn := nth_map_lt Check.av js i hlt
       have hw := wN i
       have hnx : (js.take (i + 1)).filter (finB t l b js) = (js.take i).filter (finB t l b js) ++ if finB t l b js js[i] then [js[i]] else [] := by
        rw [List.take_add_one, List.getElem?_eq_getElem hlt, List.filter_append]
        congr 1
        simp only [Option.toList_some, List.filter_cons, List.filter_nil]
       have hm : ((js.take i).filter (finB t l b js)).length ≤ 100 := by
        have := List.length_filter_le (finB t l b js) (js.take i)
        rw [List.length_take] at this
        omega
       have hall := anyW_all (js := js) (c := js[i]) h hc
       generalize (js.take i).filter (finB t l b js) = m at hnx hm
       generalize js[i] = c at hn hnx hall
       have ff := e1
       refine mr ?_
       refine mYes ?_
       refine mT ?_
       refine mBk ?_
       refine mr ?_
       refine mr ?_
       refine mBk ?_
       refine Tr.loop (stFi t l b js i c m) (fun k => k ≤ l.length) (fun k => l.length - k) 0 (Nat.zero_le _) ?_ ?_
       · exact mK
       · intro k hk1
         unfold stFi
         by_cases hkl : k < l.length
         · have e2 : decide ((k : Int) < (l.length : Int)) = true := dtO
           have ha := nth_map_lt Link.av l k hkl
           have hw2 := wN k
           have c1 := refcounts_pure t l[k] b ht hbl hb (hk _ (List.getElem_mem hkl))
           have c2 := has_pure js l[k].t hj
           have hnk := anyW_next (t := t) (b := b) (js := js) (c := c) hkl
           generalize l[k] = a at ha c1 c2 hnk
           unfold linkW at hnk
           unfold checks at c2
           generalize countB t b a = x1 at c1 hnk
           generalize decide (a.t ∈ js) = x2 at c2 hnk
           generalize anyW t l b js c k = x0 at hnk
           have ff := e2
           refine mr ?_
           refine mYes ?_
           refine mT ?_
           refine mBk ?_
           have ff := ha
           have c1' := c1
           have c1 := And.intro (en Tryz.func223) (c1')
           refine mr ?_
           have ff := ha
           have c1 := And.intro (en Tryz.func108) (c2)
           refine mr ?_
           cases x0
           · cases x1
             · have hnk : anyW t l b js c (k + 1) = false := hnk
               have e3 : True := trivial
               apply tr_mdl mixed [] rfl xE kR
               intro Q hQ
               refine mS ?_
               iterate 2 ((refine vd2_q rfl ?_); intro r hr; simp only [ha, hn, e3, int_beq, go_sem, seval]; subst hr)
               iterate 31 ((first | refine vd2_goq rfl rfl ?_ | refine vd2_no rfl ?_ | refine vd2_skip rfl ?_); intro r hr; simp only [ha, hn, e3, int_beq, go_sem, seval]; subst hr)
               iterate 2 ((refine vd2_q rfl ?_); intro r hr; simp only [ha, hn, e3, int_beq, go_sem, seval]; subst hr)
               exact hQ
               refine mU ?_
               refine mRd ?_
               rw [hw2]
               refine mU ?_
               refine ⟨k + 1, hkl, by omega, ?_⟩
               simp only [stFi, hnk]
               exact mK
             · cases x2
               · have hnk : anyW t l b js c (k + 1) = false := hnk
                 have e3 : True := trivial
                 apply tr_mdl mixed [] rfl xE kR
                 intro Q hQ
                 refine mS ?_
                 iterate 2 ((refine vd2_q rfl ?_); intro r hr; simp only [ha, hn, e3, int_beq, go_sem, seval]; subst hr)
                 iterate 31 ((first | refine vd2_goq rfl rfl ?_ | refine vd2_no rfl ?_ | refine vd2_skip rfl ?_); intro r hr; simp only [ha, hn, e3, int_beq, go_sem, seval]; subst hr)
                 iterate 2 ((refine vd2_q rfl ?_); intro r hr; simp only [ha, hn, e3, int_beq, go_sem, seval]; subst hr)
                 exact hQ
                 refine mU ?_
                 refine mRd ?_
                 rw [hw2]
                 refine mU ?_
                 refine ⟨k + 1, hkl, by omega, ?_⟩
                 simp only [stFi, hnk]
                 exact mK
               · cases e3 : decide (a.s = c)
                 · have hnk : anyW t l b js c (k + 1) = false := by rw [hnk, e3]; rfl
                   apply tr_mdl mixed [] rfl xE kR
                   intro Q hQ
                   refine mS ?_
                   iterate 2 ((refine vd2_q rfl ?_); intro r hr; simp only [ha, hn, e3, int_beq, go_sem, seval]; subst hr)
                   iterate 31 ((first | refine vd2_goq rfl rfl ?_ | refine vd2_no rfl ?_ | refine vd2_skip rfl ?_); intro r hr; simp only [ha, hn, e3, int_beq, go_sem, seval]; subst hr)
                   iterate 2 ((refine vd2_q rfl ?_); intro r hr; simp only [ha, hn, e3, int_beq, go_sem, seval]; subst hr)
                   exact hQ
                   refine mU ?_
                   refine mRd ?_
                   rw [hw2]
                   refine mU ?_
                   refine ⟨k + 1, hkl, by omega, ?_⟩
                   simp only [stFi, hnk]
                   exact mK
                 · have hnk : anyW t l b js c (k + 1) = decide (IntKind.u64.wrap (a.t.epoch - 1) = c.epoch) := by rw [hnk, e3]; rfl
                   apply tr_mdl mixed [] rfl xE kR
                   intro Q hQ
                   refine mS ?_
                   iterate 2 ((refine vd2_q rfl ?_); intro r hr; simp only [ha, hn, e3, int_beq, go_sem, seval]; subst hr)
                   iterate 31 ((first | refine vd2_goq rfl rfl ?_ | refine vd2_no rfl ?_ | refine vd2_skip rfl ?_); intro r hr; simp only [ha, hn, e3, int_beq, go_sem, seval]; subst hr)
                   iterate 2 ((refine vd2_q rfl ?_); intro r hr; simp only [ha, hn, e3, int_beq, go_sem, seval]; subst hr)
                   exact hQ
                   refine mU ?_
                   refine mRd ?_
                   rw [hw2]
                   refine mU ?_
                   refine ⟨k + 1, hkl, by omega, ?_⟩
                   simp only [stFi, hnk]
                   exact mK
           · have hnk : anyW t l b js c (k + 1) = true := by rw [hnk]; rfl
             have e3 : True := trivial
             apply tr_mdl mixed [] rfl xE kR
             intro Q hQ
             refine mS ?_
             iterate 2 ((refine vd2_q rfl ?_); intro r hr; simp only [ha, hn, e3, int_beq, go_sem, seval]; subst hr)
             iterate 31 ((first | refine vd2_goq rfl rfl ?_ | refine vd2_no rfl ?_ | refine vd2_skip rfl ?_); intro r hr; simp only [ha, hn, e3, int_beq, go_sem, seval]; subst hr)
             iterate 2 ((refine vd2_q rfl ?_); intro r hr; simp only [ha, hn, e3, int_beq, go_sem, seval]; subst hr)
             exact hQ
             refine mU ?_
             refine mRd ?_
             rw [hw2]
             refine mU ?_
             refine ⟨k + 1, hkl, by omega, ?_⟩
             simp only [stFi, hnk]
             exact mK
         · have e2 : decide ((k : Int) < (l.length : Int)) = false := dfO
           have hkl : k = l.length := by omega
           subst hkl
           rw [hall]
           have ff := e2
           refine mr ?_
           refine mNo ?_
           refine Tr.exit ?_
           refine mU ?_
           cases hf : finB t l b js c with
           | true =>
             rw [hf, if_pos rfl] at hnx
             refine mr ?_
             refine mYes ?_
             apply tr_ml xE
             intro Q hQ
             refine mS ?_
             iterate 6 (refine vm_op ?_; intro r hr; simp only [hn, go_sem, seval]; subst hr)
             refine vm_op ?_; intro r hr; simp only [hn, go_sem, seval]
             refine ⟨by omega, by omega, ?_⟩
             simp only [fB, go_sem, seval]
             subst hr
             refine mV ?_
             exact hQ
             refine mU ?_
             refine mRd ?_
             rw [hw]
             refine mU ?_
             refine ⟨i + 1, hlt, by omega, ?_⟩
             simp only [stF, hnx, List.map_append, List.length_append, List.length_singleton, List.map_cons, List.map_nil]
             refine wk_ren (fun | 1 => 178 | n => n) mB mB rfl rfl rfl
           | false =>
             rw [hf, if_neg (by simp), List.append_nil] at hnx
             refine mr ?_
             refine mNo ?_
             refine mT ?_
             refine mRd ?_
             rw [hw]
             refine mU ?_
             refine ⟨i + 1, hlt, by omega, ?_⟩
             simp only [stF, hnx]
             exact mK
     · have e1 : decide ((i : Int) < (js.length : Int)) = false := dfO
       have hil : i = js.length := by omega
       have er : (js.take i).filter (finB t l b js) = finalsR t l b js := by rw [hil, List.take_length]; rfl
       rw [er]
       have hlen : (finalsR t l b js).length = ((finalsR t l b js).map Check.av).length := by simp
       have ff := e1
       refine mr ?_
       refine mNo ?_
       refine Tr.exit ?_
       refine mU ?_
       refine mr ?_
       refine Tr.ret ?_
       simp only [← hlen, Tryz.f183, go_sem, seval]
def nextS (t : List Node) (fin out c : Check) : Check := if decide (fin.epoch < c.epoch) && (behindB t c fin && betterB out c) then c else out
def nextR (t : List Node) (l : List Link) (b : List Int) (js : List Check) (fin : Check) : Check := (finalsR t l b js).foldl (nextS t fin) fin
def bestS (t : List Node) (fin out c : Check) : Check := if behindB t c fin && betterB out c then c else out
def bestR (t : List Node) (js : List Check) (fin : Check) : Check := js.foldl (bestS t fin) fin
theorem foldl_next {α β : Type} (f : β → α → β) (z : β) {l : List α} {i : Nat} (h : i < l.length) : (l.take (i + 1)).foldl f z = f ((l.take i).foldl f z) l[i] := by
 rw [List.take_add_one, List.getElem?_eq_getElem h, List.foldl_append]
 rfl
theorem finals_len (t : List Node) (l : List Link) (b : List Int) (js : List Check) : (finalsR t l b js).length ≤ js.length := List.length_filter_le _ _
theorem refnext_pure (t : List Node) (l : List Link) (b : List Int) (js : List Check) (fin : Check) (ht : t.length ≤ 100) (hl : l.length ≤ 100) (hbl : b.length ≤ 9223372036854775807) (hj : js.length ≤ 100) (hb : okB b) (hk : okL l) (hc : okC l) : Pure Tryz.prog 111 [tav t, links l, u64s b, checks js, fin.av] (nextR t l b js fin).av := by
 have h1 := reffinals_pure t l b js ht hl hbl hj hb hk hc
 have hfl := finals_len t l b js
 have er : nextR t l b js fin = (finalsR t l b js).foldl (nextS t fin) fin := rfl
 generalize finalsR t l b js = f at h1 hfl er
 unfold checks at h1 ⊢
 refine pure_of_tr Tryz.func111 rfl nb rfl fun E hE hP => ?_
 refine mr ?_
 refine mr ?_
 have c1 := And.intro (en Tryz.func183) (h1)
 refine mr ?_
 refine mr ?_
 refine mBk ?_
 refine Tr.loop (fun i : Nat => (⟨[(5, .ptr 0 [] 0), (9, .ptr 16 [] 0), (10, .ptr 32 [] 0), (11, .ptr 64 [] 0), (12, .sl (f.map Check.av) false), (13, .int .i64 i)], [(0, .var (tav t)), (16, .var fin.av), (32, .var zCheck.av), (64, .var ((f.take i).foldl (nextS t fin) fin).av)], 65, []⟩ : S)) (fun i => i ≤ f.length) (fun i => f.length - i) 0 (Nat.zero_le _) ?_ ?_
 · exact mK
 · intro i hi
   by_cases hlt : i < f.length
   · have e1 : decide ((i : Int) < (f.length : Int)) = true := dtO
     have hn := nth_map_lt Check.av f i hlt
     have hw := wN i
     have hnx := foldl_next (nextS t fin) fin hlt
     generalize (f.take i).foldl (nextS t fin) fin = o at hnx
     generalize f[i] = c at hn hnx
     have c1 := refbehind_pure t c fin ht
     have c2 := refbetter_pure o c
     have hS : nextS t fin o c = if decide (fin.epoch < c.epoch) && (behindB t c fin && betterB o c) then c else o := rfl
     rw [hS] at hnx
     generalize behindB t c fin = x1 at c1 hnx
     generalize betterB o c = x2 at c2 hnx
     have ff := e1
     refine mr ?_
     refine mYes ?_
     refine mT ?_
     refine mBk ?_
     have ff := hn
     have c1' := c1
     have c1 := And.intro (en Tryz.func112) (c1')
     refine mr ?_
     have ff := hn
     have c1 := And.intro (en Tryz.func113) (c2)
     refine mr ?_
     cases x1
     · rw [Bool.false_and, Bool.and_false, if_neg (by simp)] at hnx
       have ff := hn
       refine mr ?_
       refine mNo ?_
       refine mT ?_
       refine mRd ?_
       rw [hw]
       refine mU ?_
       refine ⟨i + 1, hlt, by omega, ?_⟩
       rw [hnx]
       exact mK
     · cases x2
       · rw [Bool.and_false, Bool.and_false, if_neg (by simp)] at hnx
         have ff := hn
         refine mr ?_
         refine mNo ?_
         refine mT ?_
         refine mRd ?_
         rw [hw]
         refine mU ?_
         refine ⟨i + 1, hlt, by omega, ?_⟩
         rw [hnx]
         exact mK
       · cases e3 : decide (fin.epoch < c.epoch)
         · rw [e3, Bool.false_and, if_neg (by simp)] at hnx
           have ff := And.intro hn e3
           refine mr ?_
           refine mNo ?_
           refine mT ?_
           refine mRd ?_
           rw [hw]
           refine mU ?_
           refine ⟨i + 1, hlt, by omega, ?_⟩
           rw [hnx]
           exact mK
         · rw [e3, Bool.true_and, Bool.true_and, if_pos rfl] at hnx
           have ff := And.intro hn e3
           refine mr ?_
           refine mYes ?_
           have ff := hn
           refine mr ?_
           refine mU ?_
           refine mRd ?_
           rw [hw]
           refine mU ?_
           refine ⟨i + 1, hlt, by omega, ?_⟩
           rw [hnx]
           exact mK
   · have e1 : decide ((i : Int) < (f.length : Int)) = false := dfO
     have hil : i = f.length := by omega
     rw [hil, List.take_length, ← er]
     have e1 : decide ((f.length : Int) < (f.length : Int)) = false := dfO
     have ff := e1
     refine mr ?_
     refine mNo ?_
     refine Tr.exit ?_
     refine mU ?_
     refine mr ?_
     refine Tr.ret ?_
     simp only [Tryz.f111, go_sem, seval]
theorem refbest_pure (t : List Node) (f : List Check) (fin : Check) (ht : t.length ≤ 100) (hfl : f.length ≤ 100) : Pure Tryz.prog 49 [tav t, checks f, fin.av] (bestR t f fin).av := by
 have er : bestR t f fin = f.foldl (bestS t fin) fin := rfl
 unfold checks
 refine pure_of_tr Tryz.func49 rfl nb rfl fun E hE hP => ?_
 refine mr ?_
 refine mr ?_
 refine mr ?_
 refine mBk ?_
 refine Tr.loop (fun i : Nat => (⟨[(1, .sl (f.map Check.av) false), (3, .ptr 0 [] 0), (5, .ptr 16 [] 0), (6, .ptr 32 [] 0), (7, .ptr 64 [] 0), (8, .int .i64 i)], [(0, .var (tav t)), (16, .var fin.av), (32, .var zCheck.av), (64, .var ((f.take i).foldl (bestS t fin) fin).av)], 65, []⟩ : S)) (fun i => i ≤ f.length) (fun i => f.length - i) 0 (Nat.zero_le _) ?_ ?_
 · exact mK
 · intro i hi
   by_cases hlt : i < f.length
   · have e1 : decide ((i : Int) < (f.length : Int)) = true := dtO
     have hn := nth_map_lt Check.av f i hlt
     have hw := wN i
     have hnx := foldl_next (bestS t fin) fin hlt
     generalize (f.take i).foldl (bestS t fin) fin = o at hnx
     generalize f[i] = c at hn hnx
     have c1 := refbehind_pure t c fin ht
     have c2 := refbetter_pure o c
     have hS : bestS t fin o c = if behindB t c fin && betterB o c then c else o := rfl
     rw [hS] at hnx
     generalize behindB t c fin = x1 at c1 hnx
     generalize betterB o c = x2 at c2 hnx
     have ff := e1
     refine mr ?_
     refine mYes ?_
     refine mT ?_
     refine mBk ?_
     have ff := hn
     have c1' := c1
     have c1 := And.intro (en Tryz.func112) (c1')
     refine mr ?_
     have ff := hn
     have c1 := And.intro (en Tryz.func113) (c2)
     refine mr ?_
     cases x1
     · rw [Bool.false_and, if_neg (by simp)] at hnx
       refine mr ?_
       refine mNo ?_
       refine mT ?_
       refine mRd ?_
       rw [hw]
       refine mU ?_
       refine ⟨i + 1, hlt, by omega, ?_⟩
       rw [hnx]
       exact mK
     · cases x2
       · rw [Bool.and_false, if_neg (by simp)] at hnx
         refine mr ?_
         refine mNo ?_
         refine mT ?_
         refine mRd ?_
         rw [hw]
         refine mU ?_
         refine ⟨i + 1, hlt, by omega, ?_⟩
         rw [hnx]
         exact mK
       · rw [Bool.true_and, if_pos rfl] at hnx
         refine mr ?_
         refine mYes ?_
         have ff := hn
         refine mr ?_
         refine mU ?_
         refine mRd ?_
         rw [hw]
         refine mU ?_
         refine ⟨i + 1, hlt, by omega, ?_⟩
         rw [hnx]
         exact mK
   · have hil : i = f.length := by omega
     rw [hil, List.take_length, ← er]
     have e1 : decide ((f.length : Int) < (f.length : Int)) = false := dfO
     have ff := e1
     refine mr ?_
     refine mNo ?_
     refine Tr.exit ?_
     refine mU ?_
     refine mr ?_
     refine Tr.ret ?_
     simp only [Tryz.f49, go_sem, seval]
theorem best_pure (t : List Node) (f : List Check) (fin : Check) (hfl : f.length ≤ 100) : Pure Tryz.prog 41 [tav t, checks f, fin.av] (bestR t f fin).av := by
 have er : bestR t f fin = f.foldl (bestS t fin) fin := rfl
 unfold checks
 refine pure_of_tr Tryz.func41 rfl nb rfl fun E hE hP => ?_
 refine mr ?_
 refine mr ?_
 refine mr ?_
 refine mBk ?_
 refine Tr.loop (fun i : Nat => (⟨[(3, .ptr 0 [] 0), (5, .ptr 16 [] 0), (6, .ptr 32 [] 0), (7, .ptr 64 [] 0), (11, .sl (f.map Check.av) false), (12, .int .i64 f.length), (13, .int .i64 i)], [(0, .var (tav t)), (16, .var fin.av), (32, .var zCheck.av), (64, .var ((f.take i).foldl (bestS t fin) fin).av)], 65, []⟩ : S)) (fun i => i ≤ f.length) (fun i => f.length - i) 0 (Nat.zero_le _) ?_ ?_
 · exact mK
 · intro i hi
   by_cases hlt : i < f.length
   · have e1 : decide ((i : Int) < (f.length : Int)) = true := dtO
     have hn := nth_map_lt Check.av f i hlt
     have hw := wN i
     have hnx := foldl_next (bestS t fin) fin hlt
     generalize (f.take i).foldl (bestS t fin) fin = o at hnx
     generalize f[i] = c at hn hnx
     have c1 := behind_pure t c fin
     have c2 := better_pure o c
     have hS : bestS t fin o c = if behindB t c fin && betterB o c then c else o := rfl
     rw [hS] at hnx
     generalize behindB t c fin = x1 at c1 hnx
     have ff := e1
     refine mr ?_
     refine mYes ?_
     refine mT ?_
     refine mBk ?_
     have ff := hn
     refine mr ?_
     have c1' := c1
     have c1 := And.intro (en Tryz.func98) (c1')
     refine mr ?_
     cases x1
     · rw [Bool.false_and, if_neg (by simp)] at hnx
       refine mNo ?_
       refine mT ?_
       refine mRd ?_
       rw [hw]
       refine mU ?_
       refine ⟨i + 1, hlt, by omega, ?_⟩
       rw [hnx]
       exact mK
     · rw [Bool.true_and] at hnx
       refine mYes ?_
       have c1 := And.intro (en Tryz.func101) (c2)
       refine mr ?_
       refine mU ?_
       refine mRd ?_
       rw [hw]
       refine mU ?_
       refine ⟨i + 1, hlt, by omega, ?_⟩
       rw [hnx]
       exact mK
   · have hil : i = f.length := by omega
     rw [hil, List.take_length, ← er]
     have e1 : decide ((f.length : Int) < (f.length : Int)) = false := dfO
     have ff := e1
     refine mr ?_
     refine mNo ?_
     refine Tr.exit ?_
     refine mU ?_
     refine mr ?_
     refine Tr.ret ?_
     simp only [Tryz.f41, go_sem, seval]
theorem slice_hi27 {l : List Check} {k : Nat} {K : AV → Prop} (hk : k ≤ l.length) (h : K (.sl ((l.take k).map Check.av) false)) : sliceK Tryz.prog 32 (.sl (l.map Check.av) false) none (some (.int .i64 k)) none K :=
 sliceK_hi tElem27 kR (fun y hy => by
  obtain ⟨b, _, rfl⟩ := List.mem_map.1 hy
  exact tSize28) (by simpa using hk) (by rw [← List.map_take]; exact h)
theorem counting_own (t : List Node) (l : List Link) (b : List Int) : Own Tryz.prog 135 [tav t, links l, u64s b] (.fn (.func 194) [] [.ptr 0 [] 0, .ptr 1 [] 0, .ptr 2 [] 0]) [(0, .var (tav t)), (1, .var (links l)), (2, .var (u64s b))] := by
 refine own_of_tr Tryz.func135 rfl nb rfl fun E hE hP => ?_
 refine mr ?_
 refine mr ?_
 refine Tr.ret ?_
 simp only [Tryz.f135, go_sem, seval]
 exact ⟨fun | 0 => 0 | 1 => 16 | 2 => 32 | n => n, rfl, ⟨⟨rfl, rfl, rfl⟩, ⟨rfl, rfl, rfl⟩, ⟨rfl, rfl, rfl⟩, trivial⟩, rfl⟩
def hpC (t : List Node) (l : List Link) (b : List Int) : HP := [(0, .tab 0 tabV), (1, .var (tav t)), (2, .var (links l)), (3, .var (u64s b))]
def stA (t : List Node) (l : List Link) (b : List Int) : S where
 fr := [(2, .ptr 4 [] 0), (6, .fn (.func 194) [] [.ptr 1 [] 0, .ptr 2 [] 0, .ptr 3 [] 0])]
 hp := [(0, .tab 0 tabV), (1, .var (tav t)), (2, .var (links l)), (3, .var (u64s b)), (4, .var (.ms 5 67 0)), (5, .row 67 [])]
 nx := 6
def stB (t : List Node) (l : List Link) (b : List Int) (L : Nat) (c : LB) (i : Nat) : S where
 fr := [(0, .fn (.yield L) [] []), (1, .ptr 1 [] 0), (2, .ptr 2 [] 0), (3, .ptr 3 [] 0), (12, .sl (l.map Link.av) false), (13, .int .i64 l.length), (14, .int .i64 i)]
 hp := [(7, .lp c .ready none), (6, .dfr), (0, .tab 0 tabV), (1, .var (tav t)), (2, .var (links l)), (3, .var (u64s b)), (4, .var (.ms 8 67 ((l.take i).filter (countB t b)).length)), (8, .row 67 (((l.take i).filter (countB t b)).map Link.av))]
 nx := 9
theorem appendseq_eff (t : List Node) (l : List Link) (b : List Int) (hl : l.length ≤ 100) (hb : okB b) (hk : okL l) : Eff Tryz.prog 193 [.sl [] true, .fn (.func 194) [] [.ptr 1 [] 0, .ptr 2 [] 0, .ptr 3 [] 0]] 4 (hpC t l b) (links (countL t l b)) (hpC t l b) := by
 have h1 := told_pure t l b
 refine eff_of_trM Tryz.func193 rfl nb rfl fun E hE hP => ?_
 unfold hpC
 refine mr ?_
 refine mr ?_
 refine Tr.wk (Wk.trans (Wk.nilVar 4 67 rfl) (s'' := stA t l b) ?_) ?_
 · refine wk_ren (fun | 5 => 52 | n => n) mB mB rfl rfl rfl
 · unfold stA
   refine mBk ?_
   refine Tr.range (fid := 194) (fn := Tryz.f194) rfl (en Tryz.func194) Tryz.func194 rfl rfl nb ?_
   have hE0 := hE
   intro E' L c hE hP' sd
   have hP : E'.pn = 8 := hP'
   cases h : toldR t l b with
   | false =>
     rw [h] at h1
     have er : countL t l b = [] := by unfold countL; rw [if_neg (by simp [h])]
     have c1 := And.intro (en Tryz.func195) (h1)
     refine mr ?_
     refine mYes ?_
     refine Tr.ret ?_
     have hE := hE0
     refine ⟨rfl, _, _, rfl, by simp, rfl, ?_⟩
     simp only [goOn]
     simp only [HP.del, fB, go_sem, seval]
     rw [er]
     refine mr ?_
     refine Tr.ret ?_
     refine ⟨by simp, fun o ho => by rw [List.mem_singleton.1 ho]; rfl, ?_⟩
     simp only [HP.drop, List.contains_cons, List.contains_nil, Bool.or_false, Bool.false_or, Bool.or_true, fB,  Tryz.f193, go_sem, seval]
     exact ⟨fun n => n, rfl, ⟨⟨rfl, rfl, rfl⟩, ⟨rfl, rfl, rfl⟩, ⟨rfl, rfl, rfl⟩, ⟨rfl, rfl, rfl⟩, trivial⟩, rfl, fun _ _ => rfl⟩
   | true =>
     rw [h] at h1
     have er : countL t l b = l.filter (countB t b) := by unfold countL; rw [if_pos h]
     have c1 := And.intro (en Tryz.func195) (h1)
     refine mr ?_
     refine mNot ?_
     refine mT ?_
     refine mr ?_
     refine mBk ?_
     refine Tr.loop (stB t l b L c) (fun i => i ≤ l.length) (fun i => l.length - i) 0 (Nat.zero_le _) ?_ ?_
     · refine wk_ren (fun | 8 => 5 | n => n) mB mB rfl rfl rfl
     · intro i hi
       unfold stB
       by_cases hlt : i < l.length
       · have e1 : decide ((i : Int) < (l.length : Int)) = true := dtO
         have hn := nth_map_lt Link.av l i hlt
         have hw := wN i
         have hnx : (l.take (i + 1)).filter (countB t b) = (l.take i).filter (countB t b) ++ if countB t b l[i] then [l[i]] else [] := by
          rw [List.take_add_one, List.getElem?_eq_getElem hlt, List.filter_append]
          congr 1
          simp only [Option.toList_some, List.filter_cons, List.filter_nil]
         have hm : ((l.take i).filter (countB t b)).length ≤ 100 := by
          have := List.length_filter_le (countB t b) (l.take i)
          rw [List.length_take] at this
          omega
         have hok := hk _ (List.getElem_mem hlt)
         generalize (l.take i).filter (countB t b) = m at hnx hm
         generalize l[i] = a at hn hnx hok
         have c1 := behind_pure t a.t a.s
         have c2 := most_T b a.mask.toNat hb (by omega)
         rw [Int.toNat_of_nonneg hok.1] at c2
         have hS : countB t b a = (behindB t a.t a.s && mostB b a.mask.toNat) := rfl
         rw [hS] at hnx
         generalize behindB t a.t a.s = x1 at c1 hnx
         generalize mostB b a.mask.toNat = x2 at c2 hnx
         have ff := e1
         refine mr ?_
         refine mYes ?_
         refine mT ?_
         refine mBk ?_
         have ff := hn
         refine mr ?_
         cases x1
         · rw [Bool.false_and, if_neg (by simp), List.append_nil] at hnx
           first | refine tr_seq_y 15 sd xE rfl rfl rfl ?_ | (refine Tr.seq ?_; refine tr_seq_y 15 sd xE rfl rfl rfl ?_)
           refine mL ?_
           refine mG ?_
           refine call_fn rfl rfl rfl rfl (en Tryz.func98) (c1) rfl rfl rfl ?_
           refine mS ?_
           refine mG ?_
           refine vc_nil ?_
           refine gy_no rfl rfl rfl ?_
           refine mS ?_
           refine mG ?_
           refine vc_nil ?_
           refine mNo ?_
           refine mT ?_
           refine mRd ?_
           rw [hw]
           refine mU ?_
           refine ⟨i + 1, hlt, by omega, ?_⟩
           simp only [stB, hnx]
           exact mK
         · cases x2
           · rw [Bool.and_false, if_neg (by simp), List.append_nil] at hnx
             first | refine tr_seq_y 15 sd xE rfl rfl rfl ?_ | (refine Tr.seq ?_; refine tr_seq_y 15 sd xE rfl rfl rfl ?_)
             refine mL ?_
             refine mG ?_
             refine call_fn rfl rfl rfl rfl (en Tryz.func98) (c1) rfl rfl rfl ?_
             refine mS ?_
             refine mG ?_
             refine call_eff (fun n => n) [] [] rfl rfl rfl rfl (en Tryz.func196) (c2) rfl rfl mB rfl rfl rfl ?_
             refine mR ?_
             refine mG ?_
             refine vc_nil ?_
             refine gy_no rfl rfl rfl ?_
             refine mS ?_
             refine mG ?_
             refine vc_nil ?_
             refine mNo ?_
             refine mT ?_
             refine mRd ?_
             rw [hw]
             refine mU ?_
             refine ⟨i + 1, hlt, by omega, ?_⟩
             simp only [stB, hnx]
             exact mK
           · rw [Bool.and_true, if_pos rfl] at hnx
             first | refine tr_seq_y 15 sd xE rfl rfl rfl ?_ | (refine Tr.seq ?_; refine tr_seq_y 15 sd xE rfl rfl rfl ?_)
             refine mL ?_
             refine mG ?_
             refine call_fn rfl rfl rfl rfl (en Tryz.func98) (c1) rfl rfl rfl ?_
             refine mS ?_
             refine mG ?_
             refine call_eff (fun n => n) [] [] rfl rfl rfl rfl (en Tryz.func196) (c2) rfl rfl mB rfl rfl rfl ?_
             refine mR ?_
             refine mG ?_
             refine vc_nil ?_
             have hE1 := hE
             have hP1 := hP
             refine gy_if rfl rfl rfl ?_
             refine ⟨_, rfl, rfl, rfl, rfl, by rw [hE0]; rfl, rfl, ?_⟩
             intro Er hE hP
             rw [hE0] at hE
             refine mZ ?_
             refine mRd ?_
             refine ⟨rfl, ?_⟩
             refine mS ?_
             refine mBk ?_
             apply tr_ml xE
             intro Q hQ
             refine mS ?_
             iterate 3 refine mV ?_
             refine vm_op ?_; intro r hr; simp only [go_sem, seval]
             refine ⟨by omega, by omega, ?_⟩
             simp only [fB, go_sem, seval]
             subst hr
             refine mV ?_
             exact hQ
             refine mU ?_
             refine ⟨rfl, ?_⟩
             refine mS ?_
             refine mG ?_
             refine vc_nil ?_
             have hE := hE1
             have hP := hP1
             refine mNo ?_
             refine mT ?_
             refine mRd ?_
             rw [hw]
             refine mU ?_
             refine ⟨i + 1, hlt, by omega, ?_⟩
             simp only [stB, hnx, List.map_append, List.length_append, List.length_singleton, List.map_cons, List.map_nil]
             refine wk_ren (fun | 8 => 409 | n => n) mB mB rfl rfl rfl
       · have e1 : decide ((i : Int) < (l.length : Int)) = false := dfO
         have hil : i = l.length := by omega
         subst hil
         rw [List.take_length, ← er]
         have ff := e1
         refine mr ?_
         refine mNo ?_
         refine Tr.exit ?_
         refine mU ?_
         have hE := hE0
         refine ⟨rfl, _, _, rfl, by simp, rfl, ?_⟩
         simp only [goOn]
         simp only [HP.del, fB, go_sem, seval]
         have hlen : (countL t l b).length = ((countL t l b).map Link.av).length := by simp
         refine mr ?_
         refine Tr.ret ?_
         refine ⟨by simp, fun o ho => by rw [List.mem_singleton.1 ho]; rfl, ?_⟩
         simp only [HP.drop, List.contains_cons, List.contains_nil, Bool.or_false, Bool.false_or, Bool.or_true, fB,  Tryz.f193, go_sem, seval]
         refine ⟨fun n => n, ?_, ⟨⟨rfl, rfl, rfl⟩, ⟨rfl, rfl, rfl⟩, ⟨rfl, rfl, rfl⟩, ⟨rfl, rfl, rfl⟩, trivial⟩, rfl, fun _ _ => rfl⟩
         simp only [Bool.or_false, Bool.false_or, Bool.or_true, Bool.or_self, links, fB, ← hlen, go_sem, seval]
theorem collect_eff (t : List Node) (l : List Link) (b : List Int) (hl : l.length ≤ 100) (hb : okB b) (hk : okL l) : Eff Tryz.prog 134 [.fn (.func 194) [] [.ptr 1 [] 0, .ptr 2 [] 0, .ptr 3 [] 0]] 4 (hpC t l b) (links (countL t l b)) (hpC t l b) := by
 have hc := appendseq_eff t l b hl hb hk
 unfold hpC at hc ⊢
 refine eff_of_tr Tryz.func134 rfl nb (by first | rfl | (simp only [AV.idsB, AV.idsBL, Bool.and_true, Bool.true_and] <;> rfl)) fun E hE hP => ?_
 refine mr ?_
 have y1 := And.intro (en Tryz.func193) (hc)
 refine mr ?_
 refine Tr.ret ?_
 simp only [Tryz.f134, go_sem, seval]
 exact ⟨fun n => n, ⟨⟨rfl, rfl, rfl⟩, ⟨rfl, rfl, rfl⟩, ⟨rfl, rfl, rfl⟩, ⟨rfl, rfl, rfl⟩, trivial⟩, rfl, fun _ _ => rfl⟩
def insC (es : List Check) (c : Check) : List Check := if c ∈ es then es else es ++ [c]
def centE (c : Check) : AV × AV := (c.av, .bool true)
theorem tMap56 : tMap Tryz.prog 107 = some (36, 4) := by kernel_rfl
theorem ctZero4 : tZero Tryz.prog 4 = some (.bool false) := by kernel_rfl
theorem keys56 (es : List Check) : keysFit Tryz.prog 36 (es.map centE) := fun e he => by
 obtain ⟨x, _, rfl⟩ := List.mem_map.1 he
 exact fits28 x
theorem find_centE (es : List Check) (c : Check) : (es.map centE).findIdx? (fun e => c.av.eqb e.1) = es.findIdx? fun e => decide (c = e) := by
 rw [List.findIdx?_map]
 congr 1
 funext e
 exact Check.eqb c e
theorem found56 (es : List Check) (c : Check) : foundE c.av (es.map centE) = if c ∈ es then some (.bool true) else none := by
 unfold foundE
 induction es with
 | nil => rfl
 | cons e es ih =>
   have hb : c.av.eqb (centE e).1 = decide (c = e) := Check.eqb c e
   simp only [List.map_cons, List.find?_cons, hb]
   by_cases h : c = e
   · rw [decide_eq_true h, if_pos (by simp [h])]; rfl
   · rw [decide_eq_false h]
     have : (c ∈ e :: es) ↔ c ∈ es := by simp [h]
     simp only [this]
     exact ih
theorem look56 {hp : HP} {o : Nat} {es : List Check} {c : Check} {K : AV → Prop} (hg : HP.get hp o = some (.amap (es.map centE))) (h : K (.bool (decide (c ∈ es)))) : lookupK Tryz.prog 107 hp (.mp o) c.av false K := by
 simp only [lookupK, tMap56, hg, ctZero4, Bool.false_eq_true, if_false]
 refine ⟨fits28 c, depth28 c, keys56 es, ?_⟩
 rw [found56]
 by_cases hm : c ∈ es
 · rw [if_pos hm]; rw [decide_eq_true hm] at h; exact h
 · rw [if_neg hm]; rw [decide_eq_false hm] at h; exact h
theorem upd56 {hp : HP} {o : Nat} {es : List Check} {c : Check} {K : AV → HP → Prop} (hg : HP.get hp o = some (.amap (es.map centE))) (h : K (.tup []) (HP.set hp o (.amap ((insC es c).map centE)))) : mapUpdateK Tryz.prog 107 hp (.mp o) c.av (.bool true) K := by
 simp only [mapUpdateK, tMap56, hg]
 refine ⟨fits28 c, depth28 c, keys56 es, rfl, rfl, ?_⟩
 have : setE c.av (.bool true) (es.map centE) = (insC es c).map centE := by
  unfold setE insC
  rw [find_centE]
  cases hf : es.findIdx? fun e => decide (c = e) with
  | none =>
    have hn : c ∉ es := fun hm => by simpa using List.findIdx?_eq_none_iff.1 hf c hm
    rw [if_neg hn, List.map_append]
    rfl
  | some k =>
    obtain ⟨h1, h2, _⟩ := List.findIdx?_eq_some_iff_getElem.1 hf
    have he : es[k] = c := (of_decide_eq_true h2).symm
    rw [if_pos (he ▸ List.getElem_mem h1)]
    show (es.map centE).set k (centE c) = es.map centE
    rw [← he]
    apply List.ext_getElem (by simp)
    intro j h3 h4
    rw [List.getElem_set]
    split
    · rename_i hkj
      subst hkj
      simp
    · rfl
 rw [this]
 exact h
theorem insC_mem (es : List Check) (c x : Check) : x ∈ insC es c ↔ x ∈ es ∨ x = c := by
 unfold insC
 split
 · rename_i h
   constructor
   · exact fun hx => .inl hx
   · rintro (hx | rfl)
     · exact hx
     · exact h
 · simp
def insTo (js : List Check) (i : Nat) : List Check := (js.take i).foldl insC []
theorem insTo_mem (x : Check) : ∀ (js es : List Check), x ∈ js.foldl insC es ↔ x ∈ es ∨ x ∈ js
 | [], es => by simp
 | c :: js, es => by
   rw [List.foldl_cons, insTo_mem x js (insC es c), insC_mem]
   simp only [List.mem_cons]
   constructor
   · rintro ((h | h) | h)
     · exact .inl h
     · exact .inr (.inl h)
     · exact .inr (.inr h)
   · rintro (h | h | h)
     · exact .inl (.inl h)
     · exact .inl (.inr h)
     · exact .inr h
def stJ (t : List Node) (l : List Link) (b : List Int) (js : List Check) (i : Nat) : S where
 fr := [(1, links l), (2, u64s b), (4, .ptr 1 [] 0), (9, .ms 2 33 js.length), (10, .mp 3), (19, .sl (js.map Check.av) false), (20, .int .i64 js.length), (21, .int .i64 i)]
 hp := [(0, .tab 0 tabV), (1, .var (tav t)), (2, .row 33 (js.map Check.av)), (3, .amap ((insTo js i).map centE))]
 nx := 4
def stK (t : List Node) (ls : List Link) (p : List Check × List Check) : S where
 fr := [(4, .ptr 1 [] 0), (9, .ms 2 33 p.1.length), (10, .mp 3), (13, .sl (ls.map Link.av) false)]
 hp := [(0, .tab 0 tabV), (1, .var (tav t)), (2, .row 33 (p.1.map Check.av)), (3, .amap (p.2.map centE))]
 nx := 4
def stL (t : List Node) (ls : List Link) (p : List Check × List Check) (k : Nat) : S where
 fr := [(4, .ptr 1 [] 0), (9, .ms 2 33 p.1.length), (10, .mp 3), (13, .sl (ls.map Link.av) false), (33, .sl (ls.map Link.av) false), (34, .int .i64 ls.length), (35, .int .i64 k)]
 hp := [(0, .tab 0 tabV), (1, .var (tav t)), (2, .row 33 (p.1.map Check.av)), (3, .amap (p.2.map centE))]
 nx := 4
theorem more_T (t : List Node) (l : List Link) (b : List Int) (js : List Check) (hl : l.length ≤ 40) (hj : js.length ≤ 40) (hb : okB b) (hk : okL l) : PureT Tryz.prog 0 tabV 66 [tav t, links l, u64s b, checks js] (checks (moreR t l b js)) := by
 have hcol := collect_eff t l b (by omega) hb hk
 have hls : (countL t l b).length ≤ l.length := by
  unfold countL
  split
  · exact List.length_filter_le _ _
  · exact Nat.zero_le _
 have er : moreR t l b js = moreF (countL t l b) js := rfl
 generalize countL t l b = ls at hcol hls er
 unfold hpC at hcol
 refine eff_of_tr Tryz.func66 rfl nb (by first | rfl | (simp only [AV.idsB, AV.idsBL, Bool.and_true, Bool.true_and] <;> rfl)) fun E hE hP => ?_
 refine mr ?_
 refine Tr.scope ?_
 have o1 := And.intro (en Tryz.func133) (cclone_own js (by omega))
 refine mr ?_
 refine mr ?_
 refine mSr ?_
 repeat (refine vc_op rfl ?_; simp only [checks, go_sem, seval])
 refine vc_nil ?_
 refine mBk ?_
 refine Tr.loop (stJ t l b js) (fun i => i ≤ js.length) (fun i => js.length - i) 0 (Nat.zero_le _) ?_ ?_
 · refine wk_ren (fun | 2 => 49 | 3 => 81 | n => n) mB mB rfl rfl rfl
 · intro i hi
   unfold stJ
   by_cases hlt : i < js.length
   · have e1 : decide ((i : Int) < (js.length : Int)) = true := dtO
     have hn := nth_map_lt Check.av js i hlt
     have hw := wN i
     have hnx : insTo js (i + 1) = insC (insTo js i) js[i] := foldl_next insC [] hlt
     generalize js[i] = c at hn hnx
     have ff := e1
     refine mr ?_
     refine mYes ?_
     refine mT ?_
     refine mBk ?_
     have ff := hn
     refine mr ?_
     refine tr_region xE ?_
     refine mO ?_
     refine upd56 rfl ?_
     refine mS ?_
     refine vc_nil ?_
     refine mU ?_
     refine mRd ?_
     rw [hw]
     refine mU ?_
     refine ⟨i + 1, hlt, by omega, ?_⟩
     simp only [stJ, hnx]
     exact mK
   · have e1 : decide ((i : Int) < (js.length : Int)) = false := dfO
     have hil : i = js.length := by omega
     subst hil
     have ff := e1
     refine mr ?_
     refine mNo ?_
     refine Tr.exit ?_
     refine mU ?_
     first | apply tr_m xE | (refine Tr.seq ?_; apply tr_m xE)
     intro Q hQ
     refine mS ?_
     iterate 3 refine mV ?_
     refine vm_op ?_; intro r hr; simp only [go_sem, seval]
     refine call_own rfl rfl rfl rfl (en Tryz.func135) (counting_own t l b) rfl rfl ?_
     refine mS ?_
     subst hr
     refine vm_op ?_; intro r hr; simp only [go_sem, seval]
     refine call_eff (fun | 0 => 0 | 1 => 68 | 2 => 69 | 3 => 70 | n => n) [] [] rfl rfl rfl rfl (en Tryz.func134) (hcol) rfl rfl mB rfl rfl rfl ?_
     refine mR ?_
     subst hr
     refine mV ?_
     exact hQ
     refine Tr.seq (Tr.label ?_)
     simp only [thenK]
     refine mBk ?_
     refine Tr.loop (stK t ls) (fun p => (∀ x, x ∈ p.2 ↔ x ∈ p.1) ∧ moreF ls p.1 = moreF ls js ∧ p.1.length + leftN ls p.1 ≤ 80) (fun p => leftN ls p.1) (js, insTo js js.length) ⟨?_, rfl, ?_⟩ ?_ ?_
     · intro x
       unfold insTo
       rw [List.take_length, insTo_mem]
       simp
     · have := leftN_len ls js
       simp only
       omega
     · exact mK
     · rintro ⟨out, es⟩ ⟨hes, hsame, hlen⟩
       simp only at hes hsame hlen
       unfold stK
       refine mBk ?_
       first | apply tr_m xE | (refine Tr.seq ?_; apply tr_m xE)
       intro Q hQ
       refine mS ?_
       iterate 3 (refine vm_op ?_; intro r hr; simp only [links, List.length_map, go_sem, seval]; subst hr)
       exact hQ
       refine mBk ?_
       refine Tr.loop (stL t ls (out, es)) (fun k => k ≤ ls.length ∧ ∀ j (hj : j < ls.length), j < k → goB out ls[j] = false) (fun k => ls.length - k) 0 ⟨Nat.zero_le _, fun _ _ h => by omega⟩ ?_ ?_
       · exact mK
       · rintro k ⟨hk1, hall⟩
         unfold stL
         by_cases hkl : k < ls.length
         · have e2 : decide ((k : Int) < (ls.length : Int)) = true := dtO
           have ha := nth_map_lt Link.av ls k hkl
           have hw2 := wN k
           have hfind : goB out ls[k] = true → ls.find? (goB out) = some ls[k] := fun h => by
            rw [List.find?_eq_some_iff_getElem]
            exact ⟨h, k, hkl, rfl, fun j hj => by rw [hall j (by omega) hj]; rfl⟩
           have hno : goB out ls[k] = false → ∀ j (hj : j < ls.length), j < k + 1 → goB out ls[j] = false := fun hp j hj hjl => by
            rcases Nat.lt_or_ge j k with h | h
            · exact hall j hj h
            · have : j = k := by omega
              subst this; exact hp
           generalize ls[k] = a at ha hfind hno
           have hg : goB out a = (decide (a.s ∈ es) && !decide (a.t ∈ es)) := by
            unfold goB
            rw [decide_eq_decide.2 (hes a.s), decide_eq_decide.2 (hes a.t)]
           have ff := e2
           refine mr ?_
           refine mYes ?_
           refine mT ?_
           refine mBk ?_
           have ff := ha
           refine mr ?_
           cases x1 : decide (a.s ∈ es)
           · rw [x1, Bool.false_and] at hg
             first | apply tr_m xE | (refine Tr.seq ?_; apply tr_m xE)
             intro Q hQ
             refine mS ?_
             iterate 3 refine mV ?_
             refine vm_op ?_; intro r hr; simp only [go_sem, seval]
             refine look56 rfl ?_
             rw [x1]
             subst hr
             refine mV ?_
             iterate 5 (refine mI ?_; intro r hr; simp only [go_sem, seval]; subst hr)
             refine mV ?_
             exact hQ
             refine mNo ?_
             refine mT ?_
             refine mRd ?_
             rw [hw2]
             refine mU ?_
             refine ⟨k + 1, ⟨hkl, hno hg⟩, by omega, ?_⟩
             exact mK
           · cases x2 : decide (a.t ∈ es)
             · rw [x1, x2] at hg
               have hff := hfind hg
               obtain ⟨hs, hlt⟩ := moreF_some hff
               first | apply tr_m xE | (refine Tr.seq ?_; apply tr_m xE)
               intro Q hQ
               refine mS ?_
               iterate 3 refine mV ?_
               refine vm_op ?_; intro r hr; simp only [go_sem, seval]
               refine look56 rfl ?_
               rw [x1]
               subst hr
               refine mV ?_
               iterate 3 (refine mI ?_; intro r hr; simp only [go_sem, seval]; subst hr)
               refine mI ?_; intro r hr; simp only [go_sem, seval]
               refine look56 rfl ?_
               rw [x2]
               subst hr
               refine mI ?_; intro r hr; simp only [go_sem, seval]; subst hr
               refine mV ?_
               exact hQ
               refine mYes ?_
               refine mSr ?_
               refine mO ?_
               refine upd56 rfl ?_
               refine mS ?_
               refine vc_nil ?_
               first | apply tr_m xE | (refine Tr.seq ?_; apply tr_m xE)
               intro Q hQ
               refine mS ?_
               iterate 4 refine mV ?_
               refine vm_op ?_; intro r hr; simp only [go_sem, seval]
               refine ⟨by omega, by omega, ?_⟩
               simp only [fB, go_sem, seval]
               subst hr
               refine mV ?_
               exact hQ
               refine Tr.exit ?_
               refine mU ?_
               refine ⟨(out ++ [a.t], insC es a.t), ⟨fun x => ?_, hs.symm.trans hsame, by simp only [List.length_append, List.length_singleton]; omega⟩, hlt, ?_⟩
               · simp only [insC_mem, hes, List.mem_append, List.mem_singleton]
               · simp only [stK, List.map_append, List.length_append, List.length_singleton, List.map_cons, List.map_nil]
                 refine wk_ren (fun | 2 => 388 | n => n) mB mB rfl rfl rfl
             · rw [x1, x2] at hg
               first | apply tr_m xE | (refine Tr.seq ?_; apply tr_m xE)
               intro Q hQ
               refine mS ?_
               iterate 3 refine mV ?_
               refine vm_op ?_; intro r hr; simp only [go_sem, seval]
               refine look56 rfl ?_
               rw [x1]
               subst hr
               refine mV ?_
               iterate 3 (refine mI ?_; intro r hr; simp only [go_sem, seval]; subst hr)
               refine mI ?_; intro r hr; simp only [go_sem, seval]
               refine look56 rfl ?_
               rw [x2]
               subst hr
               refine mI ?_; intro r hr; simp only [go_sem, seval]; subst hr
               refine mV ?_
               exact hQ
               refine mNo ?_
               refine mT ?_
               refine mRd ?_
               rw [hw2]
               refine mU ?_
               refine ⟨k + 1, ⟨hkl, hno hg⟩, by omega, ?_⟩
               exact mK
         · have e2 : decide ((k : Int) < (ls.length : Int)) = false := dfO
           have hnone : ls.find? (goB out) = none := by
            rw [List.find?_eq_none]
            intro x hx
            obtain ⟨j, hj, rfl⟩ := List.mem_iff_getElem.1 hx
            simp [hall j hj (by omega)]
           have er2 := moreF_none hnone
           rw [er, ← hsame, er2]
           have hlen2 : out.length = (out.map Check.av).length := by simp
           have ff := e2
           refine mr ?_
           refine mNo ?_
           refine Tr.exit ?_
           refine mU ?_
           refine mr ?_
           refine Tr.ret ?_
           simp only [blockK, thenK, noGoto]
           simp only [Tryz.f66, go_sem, seval]
           refine ⟨fun n => n, ?_, ⟨⟨rfl, rfl, rfl⟩, trivial⟩, rfl, fun _ _ => rfl⟩
           simp only [Bool.or_false, Bool.false_or, Bool.or_true, Bool.or_self, checks, fB, ← hlen2, go_sem, seval]
@[go_sem] theorem tSize56 : tSize Tryz.prog 107 = some 1 ∧ tAgg Tryz.prog 107 = some false ∧ (zAV Tryz.prog 8 107).len = 1 := by and_intros <;> kernel_rfl
def putB (js : List Check) (a : Link) : Bool := decide (IntKind.u64.wrap (a.t.epoch - a.s.epoch) = 1) && decide (a.t ∈ js)
def fS (t : List Node) (b : List Int) (js : List Check) (es : List Check) (a : Link) : List Check := if countB t b a && putB js a then insC es a.s else es
def setTo (t : List Node) (l : List Link) (b : List Int) (js : List Check) (i : Nat) : List Check := (l.take i).foldl (fS t b js) []
theorem fold_mem {t : List Node} {b : List Int} {js : List Check} (x : Check) : ∀ (l : List Link) (es : List Check), x ∈ l.foldl (fS t b js) es ↔ x ∈ es ∨ ∃ a ∈ l, countB t b a = true ∧ putB js a = true ∧ a.s = x
 | [], es => by simp
 | a :: l, es => by
   rw [List.foldl_cons, fold_mem x l]
   unfold fS
   by_cases h : (countB t b a && putB js a) = true
   · rw [if_pos h, insC_mem]
     simp only [Bool.and_eq_true] at h
     simp only [List.mem_cons]
     constructor
     · rintro ((h1 | h1) | ⟨c, h1, h2⟩)
       · exact .inl h1
       · exact .inr ⟨a, .inl rfl, h.1, h.2, h1.symm⟩
       · exact .inr ⟨c, .inr h1, h2⟩
     · rintro (h1 | ⟨c, rfl | h1, h2⟩)
       · exact .inl (.inl h1)
       · exact .inl (.inr h2.2.2.symm)
       · exact .inr ⟨c, h1, h2⟩
   · rw [if_neg h]
     simp only [Bool.and_eq_true] at h
     simp only [List.mem_cons]
     constructor
     · rintro (h1 | ⟨c, h1, h2⟩)
       · exact .inl h1
       · exact .inr ⟨c, .inr h1, h2⟩
     · rintro (h1 | ⟨c, rfl | h1, h2⟩)
       · exact .inl h1
       · exact absurd ⟨h2.1, h2.2.1⟩ h
       · exact .inr ⟨c, h1, h2⟩
theorem set_all {t : List Node} {l : List Link} {b : List Int} {js : List Check} (h : toldR t l b = true) (hc : okC l) (x : Check) : decide (x ∈ setTo t l b js l.length) = finB t l b js x := by
 have hl := (told_links h).2.1
 rw [Bool.eq_iff_iff, decide_eq_true_eq]
 unfold setTo finB countL
 rw [if_pos h, List.take_length, fold_mem, List.any_filter, List.any_eq_true]
 have e : ∀ a ∈ l, (putB js a = true ∧ a.s = x) ↔ linkF js x a = true := fun a ha => by
  have h1 := may_epoch hl ha
  have h2 := hc a ha
  have hw : IntKind.u64.wrap (a.t.epoch - a.s.epoch) = a.t.epoch - a.s.epoch := wrapU_lt (by omega) (by omega)
  unfold putB linkF
  rw [hw]
  simp only [Bool.and_eq_true, decide_eq_true_eq]
  constructor
  · rintro ⟨⟨h3, h4⟩, h5⟩
    exact ⟨h4, h5, by omega⟩
  · rintro ⟨h3, h4, h5⟩
    exact ⟨⟨by omega, h3⟩, h4⟩
 constructor
 · rintro (h1 | ⟨a, ha, h1, h2⟩)
   · cases h1
   · exact ⟨a, ha, by rw [h1, (e a ha).1 h2]; rfl⟩
 · rintro ⟨a, ha, h1⟩
   simp only [Bool.and_eq_true] at h1
   exact .inr ⟨a, ha, h1.1, (e a ha).2 h1.2⟩
def stP (t : List Node) (l : List Link) (b : List Int) (js : List Check) : S where
 fr := [(7, .ptr 2 [] 0), (9, .ptr 3 [] 0), (18, .fn (.func 194) [] [.ptr 5 [] 0, .ptr 6 [] 0, .ptr 7 [] 0])]
 hp := [(0, .tab 0 tabV), (1, .var (tav t)), (2, .var (checks js)), (3, .var (.mp 4)), (4, .amap []), (5, .var (tav t)), (6, .var (links l)), (7, .var (u64s b))]
 nx := 8
def stR (t : List Node) (l : List Link) (b : List Int) (js : List Check) (L : Nat) (c : LB) (i : Nat) : S where
 fr := [(0, .fn (.yield L) [] []), (1, .ptr 5 [] 0), (2, .ptr 6 [] 0), (3, .ptr 7 [] 0), (12, .sl (l.map Link.av) false), (13, .int .i64 l.length), (14, .int .i64 i)]
 hp := [(9, .lp c .ready none), (8, .dfr), (0, .tab 0 tabV), (1, .var (tav t)), (2, .var (checks js)), (3, .var (.mp 4)), (4, .amap ((setTo t l b js i).map centE)), (5, .var (tav t)), (6, .var (links l)), (7, .var (u64s b))]
 nx := 10
def stT (t : List Node) (js es : List Check) (i : Nat) : S where
 fr := [(9, .ptr 3 [] 0), (11, .ms 9 33 ((js.take i).filter fun c => decide (c ∈ es)).length), (37, .sl (js.map Check.av) false), (38, .int .i64 js.length), (39, .int .i64 i)]
 hp := [(8, .dfr), (0, .tab 0 tabV), (1, .var (tav t)), (2, .var (checks js)), (3, .var (.mp 4)), (4, .amap (es.map centE)), (9, .row 33 (((js.take i).filter fun c => decide (c ∈ es)).map Check.av))]
 nx := 10
 df := [8]
theorem finals_T (t : List Node) (l : List Link) (b : List Int) (js : List Check) (hl : l.length ≤ 100) (hj : js.length ≤ 100) (hb : okB b) (hk : okL l) (hc : okC l) : PureT Tryz.prog 0 tabV 136 [tav t, links l, u64s b, checks js] (checks (finalsR t l b js)) := by
 have h1 := told_pure t l b
 refine eff_of_trM Tryz.func136 rfl nb rfl fun E hE hP => ?_
 refine mr ?_
 refine mr ?_
 have o1 := And.intro (en Tryz.func135) (counting_own t l b)
 refine mr ?_
 refine Tr.wk (s' := stP t l b js) ?_ ?_
 · refine wk_ren (fun | 2 => 17 | 3 => 65 | 4 => 49 | 5 => 145 | 6 => 146 | 7 => 147 | n => n) mB mB rfl rfl rfl
 · unfold stP
   refine mBk ?_
   refine Tr.range (fid := 194) (fn := Tryz.f194) rfl (en Tryz.func194) Tryz.func194 rfl rfl nb ?_
   have hE0 := hE
   intro E' L c hE hP' sd
   have hP : E'.pn = 10 := hP'
   cases h : toldR t l b with
   | false =>
     rw [h] at h1
     have c1 := And.intro (en Tryz.func195) (h1)
     refine mr ?_
     refine mYes ?_
     refine Tr.ret ?_
     have hE := hE0
     refine ⟨rfl, _, _, rfl, by simp, rfl, ?_⟩
     simp only [goOn]
     simp only [HP.del, fB, go_sem, seval]
     obtain ⟨es, he⟩ : ∃ es : List Check, es = [] := ⟨_, rfl⟩
     have hes : ∀ c, decide (c ∈ es) = finB t l b js c := fun c => by
      subst he
      unfold finB countL
      rw [if_neg (by simp [h])]
      rfl
     have hem : ([] : List (AV × AV)) = es.map centE := by subst he; rfl
     rw [hem]
     clear he hem
     refine mr ?_
     refine mSr ?_
     repeat (refine vc_op rfl ?_; simp only [checks, go_sem, seval])
     refine vc_nil ?_
     refine mBk ?_
     refine Tr.loop (stT t js es) (fun i => i ≤ js.length) (fun i => js.length - i) 0 (Nat.zero_le _) ?_ ?_
     · refine (Wk.nil 11 33 rfl).trans ?_
       refine wk_ren_df (fun | 9 => 168 | n => n) mB mB rfl rfl rfl
     · intro i hi
       unfold stT
       by_cases hlt : i < js.length
       · have e1 : decide ((i : Int) < (js.length : Int)) = true := dtO
         have hn := nth_map_lt Check.av js i hlt
         have hw := wN i
         have hnx : ((js.take (i + 1)).filter fun c => decide (c ∈ es)) = ((js.take i).filter fun c => decide (c ∈ es)) ++ if decide (js[i] ∈ es) then [js[i]] else [] := by
          rw [List.take_add_one, List.getElem?_eq_getElem hlt, List.filter_append]
          congr 1
          simp only [Option.toList_some, List.filter_cons, List.filter_nil]
         have hm : ((js.take i).filter fun c => decide (c ∈ es)).length ≤ 100 := by
          have := List.length_filter_le (fun c => decide (c ∈ es)) (js.take i)
          rw [List.length_take] at this
          omega
         generalize ((js.take i).filter fun c => decide (c ∈ es)) = m at hnx hm
         generalize js[i] = a at hn hnx
         have ff := e1
         refine mr ?_
         refine mYes ?_
         refine mT ?_
         refine mBk ?_
         have ff := hn
         refine mr ?_
         cases x1 : decide (a ∈ es)
         · rw [x1, if_neg (by simp), List.append_nil] at hnx
           first | apply tr_m xE | (refine Tr.seq ?_; apply tr_m xE)
           intro Q hQ
           refine mS ?_
           iterate 2 refine mV ?_
           refine vm_op ?_; intro r hr; simp only [go_sem, seval]
           refine look56 rfl ?_
           rw [x1]
           subst hr
           exact hQ
           refine mNo ?_
           refine mT ?_
           refine mRd ?_
           rw [hw]
           refine mU ?_
           refine ⟨i + 1, hlt, by omega, ?_⟩
           simp only [stT, hnx]
           refine wk_ren_df (fun n => n) mB mB rfl rfl rfl
         · rw [x1, if_pos rfl] at hnx
           first | apply tr_m xE | (refine Tr.seq ?_; apply tr_m xE)
           intro Q hQ
           refine mS ?_
           iterate 2 refine mV ?_
           refine vm_op ?_; intro r hr; simp only [go_sem, seval]
           refine look56 rfl ?_
           rw [x1]
           subst hr
           exact hQ
           refine mYes ?_
           apply tr_ml xE
           intro Q hQ
           refine mS ?_
           iterate 3 refine mV ?_
           refine vm_op ?_; intro r hr; simp only [go_sem, seval]
           refine ⟨by omega, by omega, ?_⟩
           simp only [fB, go_sem, seval]
           subst hr
           refine mV ?_
           exact hQ
           refine mU ?_
           refine mRd ?_
           rw [hw]
           refine mU ?_
           refine ⟨i + 1, hlt, by omega, ?_⟩
           simp only [stT, hnx, List.map_append, List.length_append, List.length_singleton, List.map_cons, List.map_nil]
           refine wk_ren_df (fun | 9 => 186 | n => n) mB mB rfl rfl rfl
       · have e1 : decide ((i : Int) < (js.length : Int)) = false := dfO
         have hil : i = js.length := by omega
         have er : ((js.take i).filter fun c => decide (c ∈ es)) = finalsR t l b js := by
          rw [hil, List.take_length]
          unfold finalsR
          congr 1
          funext c
          exact hes c
         rw [er]
         have hlen : (finalsR t l b js).length = ((finalsR t l b js).map Check.av).length := by simp
         have ff := e1
         refine mr ?_
         refine mNo ?_
         refine Tr.exit ?_
         refine mU ?_
         refine mr ?_
         refine Tr.ret ?_
         refine ⟨by simp, fun o ho => by rw [List.mem_singleton.1 ho]; rfl, ?_⟩
         simp only [HP.drop, List.contains_cons, List.contains_nil, Bool.or_false, Bool.false_or, Bool.or_true, fB,  Tryz.f136, go_sem, seval]
         refine ⟨fun n => n, ?_, ⟨⟨rfl, rfl, rfl⟩, trivial⟩, rfl, fun _ _ => rfl⟩
         simp only [Bool.or_false, Bool.false_or, Bool.or_true, Bool.or_self, checks, fB, ← hlen, go_sem, seval]
   | true =>
     rw [h] at h1
     have c1 := And.intro (en Tryz.func195) (h1)
     refine mr ?_
     refine mNot ?_
     refine mT ?_
     refine mSr ?_
     repeat (refine vc_op rfl ?_; simp only [links, go_sem, seval])
     refine vc_nil ?_
     refine mBk ?_
     refine Tr.loop (stR t l b js L c) (fun i => i ≤ l.length) (fun i => l.length - i) 0 (Nat.zero_le _) ?_ ?_
     · exact mK
     · intro i hi
       unfold stR
       by_cases hlt : i < l.length
       · have e1 : decide ((i : Int) < (l.length : Int)) = true := dtO
         have hn := nth_map_lt Link.av l i hlt
         have hw := wN i
         have hnx : setTo t l b js (i + 1) = fS t b js (setTo t l b js i) l[i] := foldl_next (fS t b js) [] hlt
         have hok := hk _ (List.getElem_mem hlt)
         generalize hes : setTo t l b js i = es at hnx
         generalize l[i] = a at hn hnx hok
         have c1 := behind_pure t a.t a.s
         have c2 := most_T b a.mask.toNat hb (by omega)
         have c3 := ccontains_pure js a.t hj
         rw [Int.toNat_of_nonneg hok.1] at c2
         have hS : fS t b js es a = if (behindB t a.t a.s && mostB b a.mask.toNat) && (decide (IntKind.u64.wrap (a.t.epoch - a.s.epoch) = 1) && decide (a.t ∈ js)) then insC es a.s else es := rfl
         rw [hS] at hnx
         generalize behindB t a.t a.s = x1 at c1 hnx
         generalize mostB b a.mask.toNat = x2 at c2 hnx
         have ff := e1
         refine mr ?_
         refine mYes ?_
         refine mT ?_
         refine mBk ?_
         have ff := hn
         refine mr ?_
         cases x1
         · rw [Bool.false_and, Bool.false_and, if_neg (by simp)] at hnx
           first | refine tr_seq_y 15 sd xE rfl rfl rfl ?_ | (refine Tr.seq ?_; refine tr_seq_y 15 sd xE rfl rfl rfl ?_)
           refine mL ?_
           refine mG ?_
           refine call_fn rfl rfl rfl rfl (en Tryz.func98) (c1) rfl rfl rfl ?_
           refine mS ?_
           refine mG ?_
           refine vc_nil ?_
           refine gy_no rfl rfl rfl ?_
           refine mS ?_
           refine mG ?_
           refine vc_nil ?_
           refine mNo ?_
           refine mT ?_
           refine mRd ?_
           rw [hw]
           refine mU ?_
           refine ⟨i + 1, hlt, by omega, ?_⟩
           simp only [stR, hnx]
           exact mK
         · cases x2
           · rw [Bool.and_false, Bool.false_and, if_neg (by simp)] at hnx
             first | refine tr_seq_y 15 sd xE rfl rfl rfl ?_ | (refine Tr.seq ?_; refine tr_seq_y 15 sd xE rfl rfl rfl ?_)
             refine mL ?_
             refine mG ?_
             refine call_fn rfl rfl rfl rfl (en Tryz.func98) (c1) rfl rfl rfl ?_
             refine mS ?_
             refine mG ?_
             refine call_eff (fun n => n) [] [] rfl rfl rfl rfl (en Tryz.func196) (c2) rfl rfl mB rfl rfl rfl ?_
             refine mR ?_
             refine mG ?_
             refine vc_nil ?_
             refine gy_no rfl rfl rfl ?_
             refine mS ?_
             refine mG ?_
             refine vc_nil ?_
             refine mNo ?_
             refine mT ?_
             refine mRd ?_
             rw [hw]
             refine mU ?_
             refine ⟨i + 1, hlt, by omega, ?_⟩
             simp only [stR, hnx]
             exact mK
           · rw [Bool.and_true, Bool.true_and] at hnx
             first | refine tr_seq_y 15 sd xE rfl rfl rfl ?_ | (refine Tr.seq ?_; refine tr_seq_y 15 sd xE rfl rfl rfl ?_)
             refine mL ?_
             refine mG ?_
             refine call_fn rfl rfl rfl rfl (en Tryz.func98) (c1) rfl rfl rfl ?_
             refine mS ?_
             refine mG ?_
             refine call_eff (fun n => n) [] [] rfl rfl rfl rfl (en Tryz.func196) (c2) rfl rfl mB rfl rfl rfl ?_
             refine mR ?_
             refine mG ?_
             refine vc_nil ?_
             have hE1 := hE
             have hP1 := hP
             refine gy_if rfl rfl rfl ?_
             refine ⟨_, rfl, rfl, rfl, rfl, by rw [hE0]; rfl, rfl, ?_⟩
             intro Er hE hP
             rw [hE0] at hE
             refine mZ ?_
             refine mRd ?_
             refine ⟨rfl, ?_⟩
             refine mS ?_
             refine mBk ?_
             cases e3 : decide (IntKind.u64.wrap (a.t.epoch - a.s.epoch) = 1)
             · rw [e3, Bool.false_and, if_neg (by simp)] at hnx
               first | apply tr_m xE | (refine Tr.seq ?_; apply tr_m xE)
               intro Q hQ
               refine mS ?_
               iterate 9 (refine vm_op ?_; intro r hr; simp only [int_beq, e3, go_sem, seval]; subst hr)
               iterate 4 (refine mI ?_; intro r hr; simp only [int_beq, e3, go_sem, seval]; subst hr)
               refine vm_op ?_; intro r hr; simp only [int_beq, e3, go_sem, seval]; subst hr
               exact hQ
               refine mNo ?_
               refine mT ?_
               refine ⟨rfl, ?_⟩
               refine mS ?_
               refine mG ?_
               refine vc_nil ?_
               have hE := hE1
               have hP := hP1
               refine mNo ?_
               refine mT ?_
               refine mRd ?_
               rw [hw]
               refine mU ?_
               refine ⟨i + 1, hlt, by omega, ?_⟩
               simp only [stR, hnx]
               exact mK
             · cases e4 : decide (a.t ∈ js)
               · rw [e3, e4, Bool.and_false, if_neg (by simp)] at hnx
                 rw [e4] at c3
                 first | apply tr_m xE | (refine Tr.seq ?_; apply tr_m xE)
                 intro Q hQ
                 refine mS ?_
                 iterate 9 (refine vm_op ?_; intro r hr; simp only [int_beq, e3, go_sem, seval]; subst hr)
                 iterate 3 (refine mI ?_; intro r hr; simp only [int_beq, e3, go_sem, seval]; subst hr)
                 refine mI ?_; intro r hr; simp only [int_beq, e3, go_sem, seval]
                 refine call_fn rfl rfl rfl rfl (en Tryz.func61) (c3) rfl rfl rfl ?_
                 refine mS ?_
                 subst hr
                 refine mV ?_
                 exact hQ
                 refine mNo ?_
                 refine mT ?_
                 refine ⟨rfl, ?_⟩
                 refine mS ?_
                 refine mG ?_
                 refine vc_nil ?_
                 have hE := hE1
                 have hP := hP1
                 refine mNo ?_
                 refine mT ?_
                 refine mRd ?_
                 rw [hw]
                 refine mU ?_
                 refine ⟨i + 1, hlt, by omega, ?_⟩
                 simp only [stR, hnx]
                 exact mK
               · rw [e3, e4, Bool.and_true, if_pos rfl] at hnx
                 rw [e4] at c3
                 first | apply tr_m xE | (refine Tr.seq ?_; apply tr_m xE)
                 intro Q hQ
                 refine mS ?_
                 iterate 9 (refine vm_op ?_; intro r hr; simp only [int_beq, e3, go_sem, seval]; subst hr)
                 iterate 3 (refine mI ?_; intro r hr; simp only [int_beq, e3, go_sem, seval]; subst hr)
                 refine mI ?_; intro r hr; simp only [int_beq, e3, go_sem, seval]
                 refine call_fn rfl rfl rfl rfl (en Tryz.func61) (c3) rfl rfl rfl ?_
                 refine mS ?_
                 subst hr
                 refine mV ?_
                 exact hQ
                 refine mYes ?_
                 refine tr_region xE ?_
                 refine mO ?_
                 refine upd56 rfl ?_
                 refine mS ?_
                 refine vc_nil ?_
                 refine mU ?_
                 refine ⟨rfl, ?_⟩
                 refine mS ?_
                 refine mG ?_
                 refine vc_nil ?_
                 have hE := hE1
                 have hP := hP1
                 refine mNo ?_
                 refine mT ?_
                 refine mRd ?_
                 rw [hw]
                 refine mU ?_
                 refine ⟨i + 1, hlt, by omega, ?_⟩
                 simp only [stR, hnx]
                 exact mK
       · have e1 : decide ((i : Int) < (l.length : Int)) = false := dfO
         have hil : i = l.length := by omega
         subst hil
         have ff := e1
         refine mr ?_
         refine mNo ?_
         refine Tr.exit ?_
         refine mU ?_
         have hE := hE0
         refine ⟨rfl, _, _, rfl, by simp, rfl, ?_⟩
         simp only [goOn]
         simp only [HP.del, fB, go_sem, seval]
         have hes : ∀ x, decide (x ∈ setTo t l b js l.length) = finB t l b js x := set_all h hc
         generalize setTo t l b js l.length = es at hes
         refine mr ?_
         refine mSr ?_
         repeat (refine vc_op rfl ?_; simp only [checks, go_sem, seval])
         refine vc_nil ?_
         refine mBk ?_
         refine Tr.loop (stT t js es) (fun i => i ≤ js.length) (fun i => js.length - i) 0 (Nat.zero_le _) ?_ ?_
         · refine (Wk.nil 11 33 rfl).trans ?_
           refine wk_ren_df (fun | 9 => 90 | n => n) mB mB rfl rfl rfl
         · intro i hi
           unfold stT
           by_cases hlt : i < js.length
           · have e1 : decide ((i : Int) < (js.length : Int)) = true := dtO
             have hn := nth_map_lt Check.av js i hlt
             have hw := wN i
             have hnx : ((js.take (i + 1)).filter fun c => decide (c ∈ es)) = ((js.take i).filter fun c => decide (c ∈ es)) ++ if decide (js[i] ∈ es) then [js[i]] else [] := by
              rw [List.take_add_one, List.getElem?_eq_getElem hlt, List.filter_append]
              congr 1
              simp only [Option.toList_some, List.filter_cons, List.filter_nil]
             have hm : ((js.take i).filter fun c => decide (c ∈ es)).length ≤ 100 := by
              have := List.length_filter_le (fun c => decide (c ∈ es)) (js.take i)
              rw [List.length_take] at this
              omega
             generalize ((js.take i).filter fun c => decide (c ∈ es)) = m at hnx hm
             generalize js[i] = a at hn hnx
             have ff := e1
             refine mr ?_
             refine mYes ?_
             refine mT ?_
             refine mBk ?_
             have ff := hn
             refine mr ?_
             cases x1 : decide (a ∈ es)
             · rw [x1, if_neg (by simp), List.append_nil] at hnx
               first | apply tr_m xE | (refine Tr.seq ?_; apply tr_m xE)
               intro Q hQ
               refine mS ?_
               iterate 2 refine mV ?_
               refine vm_op ?_; intro r hr; simp only [go_sem, seval]
               refine look56 rfl ?_
               rw [x1]
               subst hr
               exact hQ
               refine mNo ?_
               refine mT ?_
               refine mRd ?_
               rw [hw]
               refine mU ?_
               refine ⟨i + 1, hlt, by omega, ?_⟩
               simp only [stT, hnx]
               refine wk_ren_df (fun n => n) mB mB rfl rfl rfl
             · rw [x1, if_pos rfl] at hnx
               first | apply tr_m xE | (refine Tr.seq ?_; apply tr_m xE)
               intro Q hQ
               refine mS ?_
               iterate 2 refine mV ?_
               refine vm_op ?_; intro r hr; simp only [go_sem, seval]
               refine look56 rfl ?_
               rw [x1]
               subst hr
               exact hQ
               refine mYes ?_
               apply tr_ml xE
               intro Q hQ
               refine mS ?_
               iterate 3 refine mV ?_
               refine vm_op ?_; intro r hr; simp only [go_sem, seval]
               refine ⟨by omega, by omega, ?_⟩
               simp only [fB, go_sem, seval]
               subst hr
               refine mV ?_
               exact hQ
               refine mU ?_
               refine mRd ?_
               rw [hw]
               refine mU ?_
               refine ⟨i + 1, hlt, by omega, ?_⟩
               simp only [stT, hnx, List.map_append, List.length_append, List.length_singleton, List.map_cons, List.map_nil]
               refine wk_ren_df (fun | 9 => 186 | n => n) mB mB rfl rfl rfl
           · have e1 : decide ((i : Int) < (js.length : Int)) = false := dfO
             have hil : i = js.length := by omega
             have er : ((js.take i).filter fun c => decide (c ∈ es)) = finalsR t l b js := by
              rw [hil, List.take_length]
              unfold finalsR
              congr 1
              funext c
              exact hes c
             rw [er]
             have hlen : (finalsR t l b js).length = ((finalsR t l b js).map Check.av).length := by simp
             have ff := e1
             refine mr ?_
             refine mNo ?_
             refine Tr.exit ?_
             refine mU ?_
             refine mr ?_
             refine Tr.ret ?_
             refine ⟨by simp, fun o ho => by rw [List.mem_singleton.1 ho]; rfl, ?_⟩
             simp only [HP.drop, List.contains_cons, List.contains_nil, Bool.or_false, Bool.false_or, Bool.or_true, fB,  Tryz.f136, go_sem, seval]
             refine ⟨fun n => n, ?_, ⟨⟨rfl, rfl, rfl⟩, trivial⟩, rfl, fun _ _ => rfl⟩
             simp only [Bool.or_false, Bool.false_or, Bool.or_true, Bool.or_self, checks, fB, ← hlen, go_sem, seval]
theorem next_T (t : List Node) (l : List Link) (b : List Int) (js : List Check) (fin : Check) (hl : l.length ≤ 100) (hj : js.length ≤ 100) (hb : okB b) (hk : okL l) (hc : okC l) : PureT Tryz.prog 0 tabV 67 [tav t, links l, u64s b, checks js, fin.av] (nextR t l b js fin).av := by
 have h1 := finals_T t l b js hl hj hb hk hc
 have hfl := finals_len t l b js
 have er : nextR t l b js fin = (finalsR t l b js).foldl (nextS t fin) fin := rfl
 generalize finalsR t l b js = f at h1 hfl er
 refine eff_of_tr Tryz.func67 rfl nb (by first | rfl | (simp only [AV.idsB, AV.idsBL, Bool.and_true, Bool.true_and] <;> rfl)) fun E hE hP => ?_
 refine mr ?_
 refine mr ?_
 first | apply tr_m xE | (refine Tr.seq ?_; apply tr_m xE)
 intro Q hQ
 refine mS ?_
 iterate 4 refine mV ?_
 refine vm_op ?_; intro r hr; simp only [go_sem, seval]
 refine call_eff (fun n => n) [] [] rfl rfl rfl rfl (en Tryz.func136) (h1) rfl rfl mB rfl rfl rfl ?_
 refine mR ?_
 subst hr
 iterate 2 (refine vm_op ?_; intro r hr; simp only [checks, go_sem, seval]; subst hr)
 exact hQ
 refine mBk ?_
 refine Tr.loop (fun i : Nat => (⟨[(5, .ptr 1 [] 0), (9, .ptr 17 [] 0), (10, .ptr 33 [] 0), (11, .ptr 65 [] 0), (19, .sl (f.map Check.av) false), (20, .int .i64 f.length), (21, .int .i64 i)], [(0, .tab 0 tabV), (1, .var (tav t)), (17, .var fin.av), (33, .var zCheck.av), (65, .var ((f.take i).foldl (nextS t fin) fin).av)], 66, []⟩ : S)) (fun i => i ≤ f.length) (fun i => f.length - i) 0 (Nat.zero_le _) ?_ ?_
 · exact mK
 · intro i hi
   by_cases hlt : i < f.length
   · have e1 : decide ((i : Int) < (f.length : Int)) = true := dtO
     have hn := nth_map_lt Check.av f i hlt
     have hw := wN i
     have hnx := foldl_next (nextS t fin) fin hlt
     generalize (f.take i).foldl (nextS t fin) fin = o at hnx
     generalize f[i] = c at hn hnx
     have c1 := behind_pure t c fin
     have c2 := better_pure o c
     have hS : nextS t fin o c = if decide (fin.epoch < c.epoch) && (behindB t c fin && betterB o c) then c else o := rfl
     rw [hS] at hnx
     generalize behindB t c fin = x1 at c1 hnx
     have ff := e1
     refine mr ?_
     refine mYes ?_
     refine mT ?_
     refine mBk ?_
     have ff := hn
     refine mr ?_
     cases e3 : decide (fin.epoch < c.epoch)
     · rw [e3, Bool.false_and, if_neg (by simp)] at hnx
       have ff := e3
       refine mr ?_
       refine mNo ?_
       refine mT ?_
       refine mRd ?_
       rw [hw]
       refine mU ?_
       refine ⟨i + 1, hlt, by omega, ?_⟩
       rw [hnx]
       exact mK
     · cases x1
       · rw [Bool.false_and, Bool.and_false, if_neg (by simp)] at hnx
         have ff := e3
         have c1' := c1
         have c1 := And.intro (en Tryz.func98) (c1')
         refine mr ?_
         refine mNo ?_
         refine mT ?_
         refine mRd ?_
         rw [hw]
         refine mU ?_
         refine ⟨i + 1, hlt, by omega, ?_⟩
         rw [hnx]
         exact mK
       · rw [e3, Bool.true_and, Bool.true_and] at hnx
         have ff := e3
         have c1' := c1
         have c1 := And.intro (en Tryz.func98) (c1')
         refine mr ?_
         refine mYes ?_
         have c1 := And.intro (en Tryz.func101) (c2)
         refine mr ?_
         refine mU ?_
         refine mRd ?_
         rw [hw]
         refine mU ?_
         refine ⟨i + 1, hlt, by omega, ?_⟩
         rw [hnx]
         exact mK
   · have hil : i = f.length := by omega
     rw [hil, List.take_length, ← er]
     have e1 : decide ((f.length : Int) < (f.length : Int)) = false := dfO
     have ff := e1
     refine mr ?_
     refine mNo ?_
     refine Tr.exit ?_
     refine mU ?_
     refine mr ?_
     refine Tr.ret ?_
     simp only [Tryz.f67, go_sem, seval]
     exact ⟨fun n => n, ⟨⟨rfl, rfl, rfl⟩, trivial⟩, rfl, fun _ _ => rfl⟩
@[go_sem] theorem tSize49 : tSize Tryz.prog 89 = some 1 ∧ tAgg Tryz.prog 89 = some false ∧ tElem Tryz.prog 89 = some 4 := by and_intros <;> kernel_rfl
@[go_sem] theorem und49 : Tryz.prog.underlying 89 = some (.slice 4) := Tryz.underlying89
def toldB (t : List Node) (w : List Int) (ld : List Bool) : Bool := mayB t && decide (w.length = t.length) && decide (ld.length = t.length)
@[go_sem] theorem tElem48' : tElem Tryz.prog 25 = some 27 := by kernel_rfl
set_option maxRecDepth 10000 in
theorem btold_pure (t : List Node) (w : List Int) (ld : List Bool) : Pure Tryz.prog 173 [tav t, .sl (w.map uav) false, .sl (ld.map .bool) false] (.bool (toldB t w ld)) := by
 refine pure_of_tr Tryz.func173 rfl nb rfl fun E hE hP => ?_
 refine mr ?_
 by_cases hm : mayB t = true
 · by_cases hw : w.length = t.length
   · have ew : ((w.length : Int) == (t.length : Int)) = true := by rw [int_beq]; exact dtO
     have er : toldB t w ld = ((ld.length : Int) == (t.length : Int)) := by
      simp only [toldB, hm, hw, Bool.true_and, int_beq, decide_true]; exact decide_eq_decide.2 (by omega)
     first | apply tr_m xE | (refine Tr.seq ?_; apply tr_m xE)
     intro Q hQ
     refine mS ?_
     refine mV ?_
     refine vm_op ?_; intro r hr; simp only [go_sem, seval]
     refine call_fn rfl rfl rfl rfl (en Tryz.func71) (may_pure t) rfl rfl rfl ?_
     refine mS ?_
     subst hr
     refine vm_op ?_; intro r hr; simp only [hm, ew, go_sem, seval]; subst hr
     iterate 6 (refine mI ?_; intro r hr; simp only [hm, ew, go_sem, seval]; subst hr)
     iterate 2 (refine vm_op ?_; intro r hr; simp only [hm, ew, go_sem, seval]; subst hr)
     iterate 6 (refine mI ?_; intro r hr; simp only [hm, ew, go_sem, seval]; subst hr)
     iterate 2 (refine vm_op ?_; intro r hr; simp only [hm, ew, go_sem, seval]; subst hr)
     exact hQ
     refine Tr.ret ?_
     simp only [er, Tryz.f173, go_sem, seval]
   · have ew : ((w.length : Int) == (t.length : Int)) = false := by rw [int_beq]; exact dfO
     have er : toldB t w ld = false := by simp [toldB, hw]
     first | apply tr_m xE | (refine Tr.seq ?_; apply tr_m xE)
     intro Q hQ
     refine mS ?_
     refine mV ?_
     refine vm_op ?_; intro r hr; simp only [go_sem, seval]
     refine call_fn rfl rfl rfl rfl (en Tryz.func71) (may_pure t) rfl rfl rfl ?_
     refine mS ?_
     subst hr
     refine vm_op ?_; intro r hr; simp only [hm, ew, go_sem, seval]; subst hr
     iterate 6 (refine mI ?_; intro r hr; simp only [hm, ew, go_sem, seval]; subst hr)
     iterate 2 (refine vm_op ?_; intro r hr; simp only [hm, ew, go_sem, seval]; subst hr)
     iterate 6 (refine mI ?_; intro r hr; simp only [hm, ew, go_sem, seval]; subst hr)
     iterate 2 (refine vm_op ?_; intro r hr; simp only [hm, ew, go_sem, seval]; subst hr)
     exact hQ
     refine Tr.ret ?_
     simp only [er, Tryz.f173, go_sem, seval]
 · have hm : mayB t = false := by simpa using hm
   have er : toldB t w ld = false := by simp [toldB, hm]
   have ff := hm
   have c1 := And.intro (en Tryz.func71) (may_pure t)
   refine mr ?_
   refine Tr.ret ?_
   simp only [er, Tryz.f173, go_sem, seval]
set_option maxRecDepth 10000 in
theorem brefTold_pure (t : List Node) (w : List Int) (ld : List Bool) (hl : t.length ≤ 100) : Pure Tryz.prog 186 [tav t, .sl (w.map uav) false, .sl (ld.map .bool) false] (.bool (toldB t w ld)) := by
 have hmc : Pure Tryz.prog 114 [tav t] (.bool (mayB t)) := by rw [← refmay_eq]; exact refmay_pure t hl
 refine pure_of_tr Tryz.func186 rfl nb rfl fun E hE hP => ?_
 refine mr ?_
 have c1 := And.intro (en Tryz.func114) (hmc)
 refine mr ?_
 by_cases hm : mayB t = true
 · by_cases hw : w.length = t.length
   · have ew : ((w.length : Int) == (t.length : Int)) = true := by rw [int_beq]; exact dtO
     have er : toldB t w ld = ((ld.length : Int) == (w.length : Int)) := by
      simp only [toldB, hm, hw, Bool.true_and, int_beq, decide_true]; exact decide_eq_decide.2 (by omega)
     first | apply tr_m xE | (refine Tr.seq ?_; apply tr_m xE)
     intro Q hQ
     refine mS ?_
     iterate 2 (refine vm_op ?_; intro r hr; simp only [hm, ew, go_sem, seval]; subst hr)
     iterate 6 (refine mI ?_; intro r hr; simp only [hm, ew, go_sem, seval]; subst hr)
     iterate 2 (refine vm_op ?_; intro r hr; simp only [hm, ew, go_sem, seval]; subst hr)
     iterate 5 (refine mI ?_; intro r hr; simp only [hm, ew, go_sem, seval]; subst hr)
     iterate 2 (refine vm_op ?_; intro r hr; simp only [hm, ew, go_sem, seval]; subst hr)
     exact hQ
     refine Tr.ret ?_
     simp only [er, Tryz.f186, go_sem, seval]
   · have ew : ((w.length : Int) == (t.length : Int)) = false := by rw [int_beq]; exact dfO
     have er : toldB t w ld = false := by simp [toldB, hw]
     first | apply tr_m xE | (refine Tr.seq ?_; apply tr_m xE)
     intro Q hQ
     refine mS ?_
     iterate 2 (refine vm_op ?_; intro r hr; simp only [hm, ew, go_sem, seval]; subst hr)
     iterate 6 (refine mI ?_; intro r hr; simp only [hm, ew, go_sem, seval]; subst hr)
     iterate 2 (refine vm_op ?_; intro r hr; simp only [hm, ew, go_sem, seval]; subst hr)
     iterate 5 (refine mI ?_; intro r hr; simp only [hm, ew, go_sem, seval]; subst hr)
     iterate 2 (refine vm_op ?_; intro r hr; simp only [hm, ew, go_sem, seval]; subst hr)
     exact hQ
     refine Tr.ret ?_
     simp only [er, Tryz.f186, go_sem, seval]
 · have hm : mayB t = false := by simpa using hm
   have er : toldB t w ld = false := by simp [toldB, hm]
   have ff := hm
   refine mr ?_
   refine Tr.ret ?_
   simp only [er, Tryz.f186, go_sem, seval]
def wAt (w : List Int) (k : Nat) : Int := w.getD k 0
def rAt (t : List Node) (k : Nat) : Root := (t.getD k zNode).root
def wbetterB (t : List Node) (w : List Int) (a : Nat) (b : Int) : Bool :=
 decide (b = -1) || decide (wAt w b.toNat < wAt w a) || (decide (wAt w a = wAt w b.toNat) && lessR (rAt t b.toNat) (rAt t a))
theorem nth_w {w : List Int} {k : Nat} (h : k < w.length) : nth (w.map uav) (k : Int) = some (.int .u64 (wAt w k)) := by
 rw [nth_map_lt uav w k h, wAt, List.getD_eq_getElem?_getD, List.getElem?_eq_getElem h]; rfl
theorem nth_l {ld : List Bool} {k : Nat} (h : k < ld.length) : nth (ld.map AV.bool) (k : Int) = some (.bool (ld.getD k false)) := by
 rw [nth_map_lt AV.bool ld k h, List.getD_eq_getElem?_getD, List.getElem?_eq_getElem h]; rfl
set_option maxRecDepth 10000 in
theorem wbetter_pure (t : List Node) (w : List Int) (a : Nat) (b : Int) (hw : w.length = t.length) (ha : a < t.length) (hb : b = -1 ∨ 0 ≤ b ∧ b < t.length) :
 Pure Tryz.prog 218 [.int .i64 a, .int .i64 b, .ref (.sl (w.map uav) false), .ref (tav t)] (.bool (wbetterB t w a b)) := by
 refine pure_of_tr Tryz.func218 rfl nb rfl fun E hE hP => ?_
 refine mr ?_
 have na := nth_w (w := w) (k := a) (by omega)
 have nn := nth_node ha
 rcases hb with hb | ⟨hb0, hb1⟩
 · have e0 : (b == -1) = true := by rw [int_beq]; exact decide_eq_true hb
   have er : wbetterB t w a b = true := by simp [wbetterB, hb]
   have ff := e0
   refine mr ?_
   refine Tr.ret ?_
   simp only [er, Tryz.f218, go_sem, seval]
 · obtain ⟨j, rfl⟩ : ∃ j : Nat, b = j := ⟨b.toNat, by omega⟩
   have e0 : ((j : Int) == -1) = false := by rw [int_beq]; exact dfO
   have nb := nth_w (w := w) (k := j) (by omega)
   have nm := nth_node (t := t) (k := j) (by omega)
   have hbt : wbetterB t w a j = (decide (wAt w j < wAt w a) || (decide (wAt w a = wAt w j) && lessR (rAt t j) (rAt t a))) := by
    simp only [wbetterB, Int.toNat_natCast, decide_eq_false (p := (j : Int) = -1) (by omega), Bool.false_or]
   by_cases h1 : wAt w j < wAt w a
   · have e1 : decide (wAt w j < wAt w a) = true := decide_eq_true h1
     have er : wbetterB t w a j = true := by rw [hbt, e1]; rfl
     first | apply tr_md mixed [] rfl xE kR | (refine Tr.seq ?_; apply tr_md mixed [] rfl xE kR)
     intro Q hQ
     refine mS ?_
     iterate 3 ((refine vd2_q rfl ?_); intro r hr; simp only [e0, na, nb, e1, go_sem, seval]; subst hr)
     iterate 9 ((first | refine vd2_goq rfl rfl ?_ | refine vd2_no rfl ?_ | refine vd2_skip rfl ?_); intro r hr; simp only [e0, na, nb, e1, go_sem, seval]; subst hr)
     iterate 2 ((refine vd2_q rfl ?_); intro r hr; simp only [e0, na, nb, e1, go_sem, seval]; subst hr)
     iterate 22 ((first | refine vd2_goq rfl rfl ?_ | refine vd2_no rfl ?_ | refine vd2_skip rfl ?_); intro r hr; simp only [e0, na, nb, e1, go_sem, seval]; subst hr)
     (first | refine vd2_gox rfl rfl ?_ | refine vd2_no rfl ?_ | refine vd2_skip rfl ?_); intro r hr; simp only [e0, na, nb, e1, go_sem, seval]; subst hr
     (first | refine vd2_goq rfl rfl ?_ | refine vd2_no rfl ?_ | refine vd2_skip rfl ?_); intro r hr; simp only [e0, na, nb, e1, go_sem, seval]; subst hr
     iterate 2 ((refine vd2_q rfl ?_); intro r hr; simp only [e0, na, nb, e1, go_sem, seval]; subst hr)
     exact hQ
     refine Tr.ret ?_
     simp only [er, Tryz.f218, go_sem, seval]
   · have e1 : decide (wAt w j < wAt w a) = false := decide_eq_false h1
     by_cases h2 : wAt w a = wAt w j
     · have e2 : (wAt w a == wAt w j) = true := by rw [int_beq]; exact decide_eq_true h2
       have er : wbetterB t w a j = lessR (rAt t j) (rAt t a) := by rw [hbt, e1, decide_eq_true h2]; rfl
       first | apply tr_md mixed [] rfl xE kR | (refine Tr.seq ?_; apply tr_md mixed [] rfl xE kR)
       intro Q hQ
       refine mS ?_
       iterate 3 ((refine vd2_q rfl ?_); intro r hr; simp only [e0, na, nb, e1, e2, nn, nm, go_sem, seval]; subst hr)
       iterate 9 ((first | refine vd2_goq rfl rfl ?_ | refine vd2_no rfl ?_ | refine vd2_skip rfl ?_); intro r hr; simp only [e0, na, nb, e1, e2, nn, nm, go_sem, seval]; subst hr)
       iterate 2 ((refine vd2_q rfl ?_); intro r hr; simp only [e0, na, nb, e1, e2, nn, nm, go_sem, seval]; subst hr)
       iterate 22 ((first | refine vd2_goq rfl rfl ?_ | refine vd2_no rfl ?_ | refine vd2_skip rfl ?_); intro r hr; simp only [e0, na, nb, e1, e2, nn, nm, go_sem, seval]; subst hr)
       (first | refine vd2_gox rfl rfl ?_ | refine vd2_no rfl ?_ | refine vd2_skip rfl ?_); intro r hr; simp only [e0, na, nb, e1, e2, nn, nm, go_sem, seval]
       refine call_fn rfl rfl rfl rfl (en Tryz.func172) (less_pure (rAt t j) (rAt t a)) rfl rfl rfl ?_
       refine mS ?_
       subst hr
       (first | refine vd2_goq rfl rfl ?_ | refine vd2_no rfl ?_ | refine vd2_skip rfl ?_); intro r hr; simp only [go_sem, seval]; subst hr
       iterate 2 refine mQ ?_
       exact hQ
       refine Tr.ret ?_
       simp only [er, Tryz.f218, go_sem, seval]
     · have e2 : (wAt w a == wAt w j) = false := by rw [int_beq]; exact decide_eq_false h2
       have er : wbetterB t w a j = false := by rw [hbt, e1, decide_eq_false h2]; rfl
       first | apply tr_md mixed [] rfl xE kR | (refine Tr.seq ?_; apply tr_md mixed [] rfl xE kR)
       intro Q hQ
       refine mS ?_
       iterate 3 ((refine vd2_q rfl ?_); intro r hr; simp only [e0, na, nb, e1, e2, go_sem, seval]; subst hr)
       iterate 9 ((first | refine vd2_goq rfl rfl ?_ | refine vd2_no rfl ?_ | refine vd2_skip rfl ?_); intro r hr; simp only [e0, na, nb, e1, e2, go_sem, seval]; subst hr)
       iterate 2 ((refine vd2_q rfl ?_); intro r hr; simp only [e0, na, nb, e1, e2, go_sem, seval]; subst hr)
       iterate 22 ((first | refine vd2_goq rfl rfl ?_ | refine vd2_no rfl ?_ | refine vd2_skip rfl ?_); intro r hr; simp only [e0, na, nb, e1, e2, go_sem, seval]; subst hr)
       (first | refine vd2_gox rfl rfl ?_ | refine vd2_no rfl ?_ | refine vd2_skip rfl ?_); intro r hr; simp only [e0, na, nb, e1, e2, go_sem, seval]; subst hr
       (first | refine vd2_goq rfl rfl ?_ | refine vd2_no rfl ?_ | refine vd2_skip rfl ?_); intro r hr; simp only [e0, na, nb, e1, e2, go_sem, seval]; subst hr
       iterate 2 ((refine vd2_q rfl ?_); intro r hr; simp only [e0, na, nb, e1, e2, go_sem, seval]; subst hr)
       exact hQ
       refine Tr.ret ?_
       simp only [er, Tryz.f218, go_sem, seval]
end Go.Proofs.YtgnidooihignfaaGreatDoor

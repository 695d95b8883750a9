/- Engines that are pruned may be. -/
import Derived.Test.YtekjdikofhdcpaaGreatDoorP10
import Derived.Test.YtekjdikofhdcpaaGreatDoorP8
import Derived.Test.YtekjdikofhdcpaaGreatDoorAbFour
import Derived.Test.YtekjdikofhdcpaaGreatDoorP6
set_option linter.unusedSimpArgs false
set_option maxRecDepth 10000
namespace Go.Proofs.YtekjdikofhdcpaaGreatDoor
open Go Go.Ab
theorem more_closed {t : List Node} {l : List Link} {b : List Int} {js : List Check} (h : (moreR t l b js).length = js.length) : (countL t l b).find? (goB js) = none := by
 cases hf : (countL t l b).find? (goB js) with
 | none => rfl
 | some a =>
   have h1 := (moreF_some hf).1
   have h2 : ∀ (n : Nat) (out : List Check), out.length ≤ (moreN (countL t l b) n out).length := fun n => by
    induction n with
    | zero => exact fun out => Nat.le_refl _
    | succ n ih =>
      intro out
      rw [moreN]
      split
      · exact Nat.le_refl _
      · next a _ =>
        have := ih (out ++ [a.t])
        rw [List.length_append, List.length_singleton] at this
        omega
   unfold moreR at h
   rw [h1] at h
   have h3 := h2 (leftN (countL t l b) (js ++ [a.t])) (js ++ [a.t])
   rw [List.length_append, List.length_singleton] at h3
   unfold moreF at h
   omega
theorem closed_use {t : List Node} {l : List Link} {b : List Int} {js : List Check} (h : (countL t l b).find? (goB js) = none) {a : Link} (ha : a ∈ countL t l b) (hs : a.s ∈ js) : a.t ∈ js := by
 have h1 := List.find?_eq_none.1 h a ha
 unfold goB at h1
 rw [decide_eq_true hs, Bool.true_and, Bool.not_eq_true'] at h1
 simpa using h1
theorem lmay_filter {l : List Link} (p : Link → Bool) (h : lmayB l = true) : lmayB (l.filter p) = true := by
 obtain ⟨m1, m2, m3⟩ := may_spec h
 have hap := keys_apart l.length (Nat.le_refl _) m3
 have hp : List.Pairwise (fun a b => keyOf a ≠ keyOf b) l := by
  rw [List.pairwise_iff_getElem]
  intro i j hi hj hij
  exact hap i j _ _ hij hj (List.getElem?_eq_getElem hi) (List.getElem?_eq_getElem hj)
 have hq := hp.sublist (List.filter_sublist (p := p))
 rw [List.pairwise_iff_getElem] at hq
 refine may_of (Nat.le_trans (List.length_filter_le _ _) m1) (fun a ha => m2 a (List.mem_filter.1 ha).1) (places_len fun i j a b hij ha hb => ?_)
 obtain ⟨h1, rfl⟩ := List.getElem?_eq_some_iff.1 ha
 obtain ⟨h2, rfl⟩ := List.getElem?_eq_some_iff.1 hb
 exact hq i j h1 h2 hij
def finI (e : Eng) : Int := findR e.t e.fin.root
theorem prune_cut {e : Eng} (h : mayE e = true) : CutAt e.t (finI e) := by
 obtain ⟨f1, f2, f3, f4, f5, f6, f7, f8, f9, f10, f11⟩ := mayE_all.1 h
 have h0 := (lost_all.1 f8).1 e.fin f6
 have hr := findR_range e.t e.fin.root
 exact ⟨(fit_spec f1).1, h0, by unfold finI; omega⟩
theorem gone_in {e : Eng} (h : mayE e = true) (c : Check) : goneB (rootsT (cutE e)) c = !inC e.t (finI e) c.root := by
 unfold goneB
 congr 1
 have h1 := (prune_cut h).in_roots c.root
 have h2 : (c.root ∈ rootsT (cutE e)) ↔ inC e.t (finI e) c.root = true := h1
 cases hc : inC e.t (finI e) c.root
 · exact decide_eq_false (fun hh => by rw [h2.1 hh] at hc; cases hc)
 · exact decide_eq_true (h2.2 hc)
theorem link_stays {e : Eng} (h : mayE e = true) {a : Link} : a ∈ (pruneE e).k ↔ a ∈ e.k ∧ inC e.t (finI e) a.s.root = true ∧ inC e.t (finI e) a.t.root = true ∧ e.fin.epoch < a.t.epoch := by
 show a ∈ delL (linkGone (rootsT (cutE e)) e.fin.epoch) e.k ↔ _
 unfold delL linkGone
 rw [List.mem_filter, gone_in h, gone_in h]
 cases inC e.t (finI e) a.s.root <;> cases inC e.t (finI e) a.t.root <;> simp
theorem check_stays {e : Eng} (h : mayE e = true) {c : Check} : c ∈ (pruneE e).j ↔ c ∈ e.j ∧ inC e.t (finI e) c.root = true ∧ e.fin.epoch ≤ c.epoch := by
 show c ∈ delL (checkGone (rootsT (cutE e)) e.fin.epoch) e.j ↔ _
 unfold delL checkGone
 rw [List.mem_filter, gone_in h]
 cases inC e.t (finI e) c.root <;> simp
theorem fin_inC {e : Eng} (h : mayE e = true) : inC e.t (finI e) e.fin.root = true := by
 have hc := prune_cut h
 unfold inC
 rw [show findR e.t e.fin.root = finI e from rfl, hc.self, decide_eq_true hc.low]
 rfl
theorem prune_fit {e : Eng} (h : mayE e = true) : fitB (cutE e) (dropE e) e.o e.b = true := by
 obtain ⟨hm, hv, hS, hl⟩ := fit_spec (mayE_all.1 h).1
 have hc := prune_cut h
 unfold fitB
 rw [show mayB (cutE e) = true from hc.may', show vmayB (dropE e) e.o = true from dropL_may hv, hS, decide_eq_true (show (dropE e).length = e.b.length by unfold dropE dropL; rw [List.length_map, hl])]
 rfl
theorem count_cut {e : Eng} (h : mayE e = true) {a : Link} (ha : a ∈ countL (cutE e) (pruneE e).k e.b) : a ∈ (pruneE e).k ∧ a ∈ countL e.t e.k e.b := by
 have hk := countL_in ha
 refine ⟨hk, ?_⟩
 obtain ⟨h1, h2, h3, h4⟩ := (link_stays h).1 hk
 obtain ⟨f1, f2, f3, f4, f5, f6, f7, f8, f9, f10, f11⟩ := mayE_all.1 h
 obtain ⟨hm, hv, hS, hl⟩ := fit_spec f1
 unfold countL at ha ⊢
 rw [show toldR e.t e.k e.b = true by unfold toldR; rw [hm, f4, hS]; rfl, if_pos rfl]
 split at ha
 · have hcb := (List.mem_filter.1 ha).2
   refine List.mem_filter.2 ⟨h1, ?_⟩
   unfold countB at hcb ⊢
   rwa [show behindB (cutE e) a.t a.s = behindB e.t a.t a.s from (prune_cut h).behind h3 h2] at hcb
 · cases ha
theorem may_prune {e : Eng} (h : mayE e = true) : mayE (pruneE e) = true := by
 obtain ⟨f1, f2, f3, f4, f5, f6, f7, f8, f9, f10, f11⟩ := mayE_all.1 h
 have hc := prune_cut h
 have hcl := more_closed f10
 have hfound : ∀ r, inC e.t (finI e) r = true → 0 ≤ findR (cutE e) r := fun r hr => by
  rw [show findR (cutE e) r = _ from hc.find' r, hr, if_pos rfl]
  omega
 refine mayE_all.2 ⟨prune_fit h, rfl, f3, lmay_filter _ f4, f5, (check_stays h).2 ⟨f6, fin_inC h, Int.le_refl _⟩, f7, ?_, f9.sublist List.filter_sublist, ?_, ?_⟩
 · refine lost_all.2 ⟨fun c hc => hfound _ ((check_stays h).1 hc).2.1, fun a ha => ?_, fun x hx hh => ?_⟩
   · obtain ⟨_, h2, h3, _⟩ := (link_stays h).1 ha
     exact ⟨hfound _ h2, hfound _ h3⟩
   · obtain ⟨y, hy, rfl⟩ := List.mem_map.1 hx
     unfold dropX at hh ⊢
     split at hh
     · next hr =>
       rw [if_pos hr]
       exact hfound _ ((hc.in_roots y.root).1 hr)
     · cases hh
 · show (moreR (cutE e) (pruneE e).k e.b (pruneE e).j).length = (pruneE e).j.length
   rw [moreR, moreF_none (List.find?_eq_none.2 fun a ha hg => ?_)]
   obtain ⟨hk, hct⟩ := count_cut h ha
   obtain ⟨_, _, h3, h4⟩ := (link_stays h).1 hk
   obtain ⟨h5, h6⟩ := goB_spec hg
   have h7 := closed_use hcl hct ((check_stays h).1 h5).1
   exact h6 ((check_stays h).2 ⟨h7, h3, by omega⟩)
 · show nextR (cutE e) (pruneE e).k e.b (pruneE e).j e.fin = e.fin
   have htop := (next_top e.t e.fin (finalsR e.t e.k e.b e.j) e.fin).2
   rw [show (finalsR e.t e.k e.b e.j).foldl (nextS e.t e.fin) e.fin = e.fin from f11] at htop
   unfold nextR
   refine foldl_id _ fun c hcf => ?_
   unfold nextS
   refine if_neg fun hh => ?_
   simp only [Bool.and_eq_true, decide_eq_true_eq] at hh
   obtain ⟨hcj, hfin⟩ := List.mem_filter.1 hcf
   obtain ⟨g1, g2, g3⟩ := (check_stays h).1 hcj
   have hb := hh.2.1
   rw [show behindB (cutE e) c e.fin = behindB e.t c e.fin from hc.behind g2 (fin_inC h)] at hb
   have hin : c ∈ finalsR e.t e.k e.b e.j := by
    refine List.mem_filter.2 ⟨g1, ?_⟩
    unfold finB at hfin ⊢
    rw [List.any_eq_true] at hfin ⊢
    obtain ⟨a, ha, hl⟩ := hfin
    obtain ⟨_, hct⟩ := count_cut h ha
    refine ⟨a, hct, ?_⟩
    unfold linkF at hl ⊢
    simp only [Bool.and_eq_true, decide_eq_true_eq] at hl ⊢
    exact ⟨((check_stays h).1 hl.1).1, hl.2⟩
   have := htop c hin hh.1 hb
   omega
theorem prune_wf {e : Eng} (h : mayE e = true) (hw : e.wf) : (pruneE e).wf :=
 ⟨⟨hw.ok.b, fun a ha => hw.ok.kL a ((link_stays h).1 ha).1, fun a ha => hw.ok.kC a ((link_stays h).1 ha).1⟩, hw.o, hw.late, hw.now⟩
theorem prune_few {e : Eng} (h : mayE e = true) (he : e.few) : (pruneE e).few := by
 have hl := (may_len (prune_cut h).may').2
 have hl' : (cutE e).length ≤ 12 := hl
 refine ⟨by show (cutE e).length ≤ 10000; omega, he.b, ?_, ?_, he.late, ?_, ?_⟩
 · show (dropE e).length ≤ 10000
   unfold dropE dropL
   rw [List.length_map]
   exact he.vl
 · show (weights _ _ _).length ≤ 10000
   rw [weights_len]
   omega
 · exact Nat.le_trans (List.length_filter_le _ _) he.k
 · exact Nat.le_trans (List.length_filter_le _ _) he.j
def doR (e : Eng) (c : Ask) : Eng × Int :=
 if c.kind < 0 ∨ 4 ≤ c.kind then (e, 1) else if mayE e = false then (e, 1)
 else if c.kind = 0 then (if isOf c.vals 81 1 = true then blockR e (blockOf c.vals) else (e, 2))
 else if c.kind = 1 then (if isOf c.vals 123 2 = true then attE e (attOf c.vals) else (e, 2))
 else if c.kind = 2 then (if e.now = 1099511627776 then (e, 3) else (tickW e, 0))
 else (pruneE e, 0)
theorem numOf_in (bs : List UInt8) : 0 ≤ numOf bs ∧ numOf bs < 18446744073709551616 := by
 have key : ∀ (bs : List UInt8) (n : Int), (0 ≤ n ∧ n < 18446744073709551616) → 0 ≤ bs.foldl ostep n ∧ bs.foldl ostep n < 18446744073709551616 := fun bs => by
  induction bs with
  | nil => exact fun n h => h
  | cons b bs ih =>
    intro n _
    rw [List.foldl_cons]
    refine ih _ ?_
    show 0 ≤ orU _ _ ∧ orU _ _ < _
    rw [orU_eq]
    exact inU_nat _
 exact key bs 0 ⟨by omega, by omega⟩
theorem attOf_wf (l : List UInt8) : (attOf l).wf := ⟨numOf_in _, numOf_in _, numOf_in _⟩
theorem do_rawb (e : Eng) (c : Ask) (he : e.few) (ho : e.ok) (hm : mayE e = true) (hr : isOf c.vals 81 1 = true) : CalT Tryz.prog 0 tabV 67 [workA e zBlock zAtt c, .fn (.func 62) [] []] (.tup [(blockR e (blockOf c.vals)).1.av, .int .i64 (blockR e (blockOf c.vals)).2]) := by
 have h0 : ¬ mayE e = false := by rw [hm]; decide
 have hb : blkR c.vals = .tup [(blockOf c.vals).av, .bool true] := by rw [blkR, hr]; rfl
 generalize hB : blockOf c.vals = b at *
 by_cases h1 : e.now < b.slot
 · have er : blockR e b = (e, 7) := by rw [blockR, if_neg h0, if_pos h1]
   rw [er]
   have y := rawb_i e zBlock zAtt c 7 hr (by rw [hB]; exact blk_7 e b zAtt c (decide_eq_true h1))
   exact do_rawe e zBlock _ zAtt c 7 rfl he ho hm y
 · have d1 : decide (e.now < b.slot) = false := decide_eq_false h1
   by_cases h2 : (insR e.t b).2 = 0
   · obtain ⟨e1, e2⟩ := insR_ok h2
     have hx : insR e.t b = ((insR e.t b).1, 0) := by rw [← h2]
     have hlen : 1 ≤ (insR e.t b).1.length ∧ (insR e.t b).1.length ≤ 100000 := by
      have := e2.2.1
      rw [e1, List.length_append, List.length_singleton]
      omega
     cases h3 : aboveR (insR e.t b).1 (findR e.t e.fin.root) (((insR e.t b).1.length - 1 : Nat) : Int)
     · have er : blockR e b = (e, 8) := by rw [blockR, if_neg h0, if_neg h1, if_neg (fun h => h h2), if_pos h3]
       rw [er]
       have y := rawb_i e zBlock zAtt c 8 hr (by rw [hB]; exact blk_8 e b zAtt c he d1 _ hx hlen h3)
       exact do_rawe e zBlock _ zAtt c 8 rfl he ho hm y
     · have er : blockR e b = (⟨(insR e.t b).1, e.b, e.vl, e.o, e.w ++ [0], e.late, e.k, e.j, e.fin, e.now⟩, 0) := by rw [blockR, if_neg h0, if_neg h1, if_neg (fun h => h h2), if_neg (by rw [h3]; decide)]
       rw [er]
       have y := raw_ok e zBlock b zAtt c _ hb (blk_0 e b zAtt c he d1 _ hx hlen (by have := he.w; omega) h3)
       exact do_raw e zBlock b zAtt c _ he ho hm y
   · have er : blockR e b = (e, (insR e.t b).2) := by rw [blockR, if_neg h0, if_neg h1, if_pos h2]
     rw [er]
     have y := rawb_i e zBlock zAtt c (insR e.t b).2 hr (by rw [hB]; exact blk_e e b zAtt c he d1 (decide_eq_false h2))
     exact do_rawe e zBlock _ zAtt c _ (decide_eq_false h2) he ho hm y
theorem do_rawa (e : Eng) (c : Ask) (he : e.few) (hw : e.wf) (hm : mayE e = true) (hr : isOf c.vals 123 2 = true) : CalT Tryz.prog 0 tabV 67 [workA e zBlock zAtt c, .fn (.func 63) [] []] (.tup [(attE e (attOf c.vals)).1.av, .int .i64 (attE e (attOf c.vals)).2]) := by
 have y := rawa_i e _ zBlock zAtt c _ hr (att_e e zBlock c (attOf c.vals) (may_good he hw hm) (attOf_wf _) (by have := he.late; omega))
 unfold attE
 rw [hm, if_neg (by decide)]
 by_cases h : (attW e (attOf c.vals)).2 = 0
 · rw [if_pos h]
   rw [h] at y
   exact do_r0 e _ zBlock zAtt _ c he hw.ok hm y
 · rw [if_neg h]
   exact do_ri e _ zBlock zAtt _ c _ (decide_eq_false h) he hw.ok hm y
theorem prune_e (e : Eng) (b : Block) (x : Att) (c : Ask) (he : e.few) (hw : e.wf) (hm : mayE e = true) : CalE Tryz.prog 65 [.ptr 0 [] 0] 3 (prH e b x c e.k.length e.j.length (e.k.map Link.av) (e.j.map Check.av)) (.int .i64 0) [(0, .var (workA (pruneE e) b x c))] := by
 obtain ⟨_, hv, _, _⟩ := fit_spec (mayE_all.1 hm).1
 have h1 := he.t
 have h2 := he.vl
 have h3 := he.k
 have h4 := he.j
 have h5 : (cutE e).length ≤ 12 := (may_len (prune_cut hm).may').2
 exact prune_w e b x c (by omega) (by omega) (by omega) (by omega) (by omega) hv hw.ok.b (prune_fit hm)
theorem do32_t (e : Eng) (c : Ask) (he : e.few) (hw : e.wf) (hl : mayE e = true → Live e) : CalT Tryz.prog 0 tabV 26 [e.av, c.av] (.tup [(doR e c).1.av, .int .i64 (doR e c).2]) := by
 unfold doR
 by_cases hk : c.kind < 0 ∨ 4 ≤ c.kind
 · rw [if_pos hk]
   exact Do_x e c he hk
 rw [if_neg hk, ]
 rw [not_or] at hk
 by_cases hm : mayE e = false
 · rw [if_pos hm]
   by_cases k0 : c.kind = 0
   · exact Do_0 e e 1 c k0 (do_no e zBlock zAtt c 62 he hw.ok hm)
   by_cases k1 : c.kind = 1
   · exact Do_1 e e 1 c k1 (do_no e zBlock zAtt c 63 he hw.ok hm)
   by_cases k2 : c.kind = 2
   · exact Do_2 e e 1 c k2 (do_no e zBlock zAtt c 64 he hw.ok hm)
   · exact Do_3 e e 1 c (by omega) (do_no e zBlock zAtt c 65 he hw.ok hm)
 rw [if_neg hm]
 have hm : mayE e = true := by simpa using hm
 by_cases k0 : c.kind = 0
 · rw [if_pos k0]
   cases hr : isOf c.vals 81 1
   · rw [if_neg (by decide)]
     exact Do_0 e e 2 c k0 (do_rawe e zBlock zBlock zAtt c 2 rfl he hw.ok hm (rawb_no e zBlock zAtt c hr))
   · rw [if_pos rfl]
     exact Do_0 e _ _ c k0 (do_rawb e c he hw.ok hm hr)
 rw [if_neg k0]
 by_cases k1 : c.kind = 1
 · rw [if_pos k1]
   cases hr : isOf c.vals 123 2
   · rw [if_neg (by decide)]
     exact Do_1 e e 2 c k1 (do_ri e e zBlock zAtt zAtt c 2 rfl he hw.ok hm (rawa_no e zBlock zAtt c hr))
   · rw [if_pos rfl]
     exact Do_1 e _ _ c k1 (do_rawa e c he hw hm hr)
 rw [if_neg k1]
 by_cases k2 : c.kind = 2
 · rw [if_pos k2]
   by_cases hn : e.now = 1099511627776
   · rw [if_pos hn]
     exact Do_2 e e 3 c k2 (do_bi e e zBlock zAtt c 3 rfl he hw.ok hm (tick_no e zBlock zAtt c (decide_eq_true hn)))
   · rw [if_neg hn]
     have h0 := hw.now
     have h5 := (mayE_all.1 hm).2.2.2.2.1
     have y := tick_w e zBlock zAtt c (by have := he.late; omega) (decide_eq_false hn) (wrapU_lt (by omega) (by omega)) (fun a ha => hw.late a (List.mem_filter.1 ha).1) (live_tick (hl hm) (by omega)).2
     exact Do_2 e _ 0 c k2 (do_b0 e _ zBlock zAtt c he hw.ok hm y)
 rw [if_neg k2]
 exact Do_3 e _ 0 c (by omega) (do_pru e _ zBlock zAtt c he hw.ok hm (prune_e e zBlock zAtt c he hw hm))
theorem attE_err {e : Eng} {a : Att} (h : (attE e a).2 ≠ 0) : (attE e a).1 = e := by
 unfold attE at h ⊢
 split
 · rfl
 · next hm =>
   rw [if_neg hm] at h
   split
   · next h0 => rw [if_pos h0] at h; exact absurd rfl h
   · rfl
theorem doR_err {e : Eng} {c : Ask} (h : (doR e c).2 ≠ 0) : (doR e c).1 = e := by
 unfold doR at h ⊢
 split
 · rfl
 · next h1 =>
   rw [if_neg h1] at h
   split
   · rfl
   · next h2 =>
     rw [if_neg h2] at h
     split
     · next h3 =>
       rw [if_pos h3] at h
       split
       · next h4 => rw [if_pos h4] at h; exact blockR_err h
       · rfl
     · next h3 =>
       rw [if_neg h3] at h
       split
       · next h4 =>
         rw [if_pos h4] at h
         split
         · next h5 => rw [if_pos h5] at h; exact attE_err h
         · rfl
       · next h4 =>
         rw [if_neg h4] at h
         split
         · next h5 =>
           rw [if_pos h5] at h
           split
           · rfl
           · next h6 => rw [if_neg h6] at h; exact absurd rfl h
         · next h5 => rw [if_neg h5] at h; exact absurd rfl h
theorem live_blk {N : Nat} {e : Eng} {b : Block} (h : LiveN N e) : LiveN N (blockR e b).1 := by
 by_cases h0 : (blockR e b).2 = 0
 · obtain ⟨_, _, h1, h2, _⟩ := blockR_ok h0
   rw [h2]
   exact live_put h h1
 · rw [blockR_err h0]; exact h
structure Fine (e : Eng) : Prop where
 may : mayE e = true
 wf : e.wf
 few : e.few
@[go_sem] theorem hbuild49_n (K : AV → Prop) : buildK Tryz.prog 49 [] K = K (failR 0).av := build_struct Tryz.underlying49 stZero51 rfl kR rfl K
def changesR (c : Ask) : Bool := decide (0 ≤ c.kind) && decide (c.kind ≤ 4)
theorem changes_c (c : Ask) : Cal Tryz.prog 23 [c.av] (.bool (changesR c)) := by
 unfold changesR
 cases h : decide (0 ≤ c.kind)
 · have ff := h
   rw [Bool.false_and]
   have hR : Tryz.f23.results.toList = [.tmp 2] := rfl
   refine cal_tr Tryz.func23 rfl fun E hE hP => ?_
   exact mX
 · have ff := h
   rw [Bool.true_and]
   have hR : Tryz.f23.results.toList = [.tmp 2] := rfl
   refine cal_tr Tryz.func23 rfl fun E hE hP => ?_
   exact mX
def oneR (e : Eng) (shut : Bool) (c : Ask) : Eng × Bool × Resp :=
 if changesR c = false then (e, shut, askR (ofR e 0) c) else if shut = true then (e, shut, failR 11) else if c.kind = 4 then (e, true, failR 0) else ((doR e c).1, shut, failR (doR e c).2)
theorem one_t (e : Eng) (shut : Bool) (c : Ask) (he : e.few) (hw : e.wf) (hl : mayE e = true → Live e) : CalT Tryz.prog 0 tabV 12 [e.av, .bool shut, c.av] (.tup [(oneR e shut c).1.av, .bool (oneR e shut c).2.1, (oneR e shut c).2.2.av]) := by
 have c1 := changes_c c
 cases hc : changesR c
 · rw [hc] at c1
   have er : oneR e shut c = (e, shut, askR (ofR e 0) c) := by rw [oneR, if_pos hc]
   rw [er]
   have x1 := of_t e he hw.ok 0
   have c2 := ask_c (ofR e 0) c
   generalize ofR e 0 = s at x1 c2
   generalize askR s c = r at c2
   have hR : Tryz.f12.results.toList = [.cell 6 38, .tmp 7, .cell 8 49] := rfl
   refine calE_tr Tryz.func12 rfl fun E hE hP => ?_
   refine mW ?_
   first | apply tr_md mixed [17, 1] rfl xE kR | (refine Tr.seq ?_; apply tr_md mixed [17, 1] rfl xE kR)
   intro Q hQ
   refine mS ?_
   iterate 3 refine mQ ?_
   refine vd2_x rfl ?_; intro r hr; simp only [go_sem, seval]
   refine call_eff (fun n => n) [true, true] [] rfl rfl rfl rfl (en Tryz.func25) (x1.2) rfl rfl mB rfl rfl rfl ?_
   refine mR ?_
   subst hr
   refine mQ ?_
   refine vd2_x rfl ?_; intro r hr; simp only [go_sem, seval]
   refine call_fn rfl rfl rfl rfl (en Tryz.func24) (c2.2) rfl rfl rfl ?_
   refine mS ?_
   subst hr
   refine vd2_x rfl ?_; intro r hr; simp only [go_sem, seval]; subst hr
   refine mQ ?_
   refine vd2_x rfl ?_; intro r hr; simp only [go_sem, seval]; subst hr
   exact hQ
   exact mX
 · rw [hc] at c1
   cases hs : shut
   · by_cases hk : c.kind = 4
     · have e4 : decide (c.kind = 4) = true := decide_eq_true hk
       have er : oneR e false c = (e, true, failR 0) := by rw [oneR, hc, if_neg (by simp), if_neg (by simp), if_pos hk]
       rw [er]
       have ff := e4
       have hR : Tryz.f12.results.toList = [.cell 6 38, .tmp 7, .cell 8 49] := rfl
       refine calE_tr Tryz.func12 rfl fun E hE hP => ?_
       exact mX
     · have e4 : decide (c.kind = 4) = false := decide_eq_false hk
       have er : oneR e false c = ((doR e c).1, false, failR (doR e c).2) := by rw [oneR, hc, if_neg (by simp), if_neg (by simp), if_neg hk]
       rw [er]
       have x1 := do32_t e c he hw hl
       generalize (doR e c).2 = i at x1
       generalize (doR e c).1 = f at x1
       have ff := e4
       have hR : Tryz.f12.results.toList = [.cell 6 38, .tmp 7, .cell 8 49] := rfl
       refine calE_tr Tryz.func12 rfl fun E hE hP => ?_
       exact mX
   · have er : oneR e true c = (e, true, failR 11) := by rw [oneR, hc, if_neg (by simp), if_pos rfl]
     rw [er]
     have hR : Tryz.f12.results.toList = [.cell 6 38, .tmp 7, .cell 8 49] := rfl
     refine calE_tr Tryz.func12 rfl fun E hE hP => ?_
     exact mX
def allIn (l : List Tick) (o : List Int) : Bool := o.all fun x => decide (0 ≤ x) && decide (x < (l.length : Int))
def stAl (l : List Tick) (o : List Int) (k : Nat) : S where
 fr := [(2, .ptr 0 [] 0), (3, .ptr 1 [] 0), (8, .sl (o.map iav) false), (9, .int .i64 o.length), (10, .int .i64 k)]
 hp := [(0, .var (ticks l)), (1, .var (ints o))]
 nx := 2
theorem allIn_bad {l : List Tick} {o : List Int} {k : Nat} (hk : k < o.length) (h : ¬ (0 ≤ o[k] ∧ o[k] < (l.length : Int))) : allIn l o = false := by
 unfold allIn
 rw [List.all_eq_false]
 refine ⟨_, List.getElem_mem hk, ?_⟩
 rw [Bool.and_eq_true, decide_eq_true_eq, decide_eq_true_eq]
 exact h
theorem allIn_at {l : List Tick} {o : List Int} (h : allIn l o = true) {k : Nat} (hk : k < o.length) : 0 ≤ o[k] ∧ o[k] < (l.length : Int) := by
 unfold allIn at h
 have := List.all_eq_true.1 h _ (List.getElem_mem hk)
 rw [Bool.and_eq_true, decide_eq_true_eq, decide_eq_true_eq] at this
 exact this
theorem all_no (l : List Tick) (o : List Int) (hl : o.length ≤ 100000) (h : allIn l o = false) : Cal Tryz.prog 38 [ticks l, ints o] (.tup [.nilf, .bool false]) := by
 have hR : Tryz.f38.results.toList = [.tmp 4, .tmp 5] := rfl
 refine cal_tr Tryz.func38 rfl fun E hE hP => ?_
 refine mW ?_
 refine Tr.loop (stAl l o) (fun k => k ≤ o.length ∧ ∀ j (hj : j < o.length), j < k → 0 ≤ o[j] ∧ o[j] < (l.length : Int)) (fun k => o.length - k) 0 ⟨Nat.zero_le _, fun _ _ h => by omega⟩ ?_ ?_
 · refine wk_ren (fun | 1 => 16 | n => n) mB mB rfl rfl rfl
 · intro k ⟨hk, hall⟩
   unfold stAl
   by_cases hlt : k < o.length
   · have e1 : decide ((k : Int) < (o.length : Int)) = true := dtO
     have hn := nth_map_lt iav o k hlt
     have hw := wN k
     have hbad := allIn_bad (l := l) hlt
     have hgood : (0 ≤ o[k] ∧ o[k] < (l.length : Int)) → ∀ j (hj : j < o.length), j < k + 1 → 0 ≤ o[j] ∧ o[j] < (l.length : Int) := fun g j hj hjk => by
      rcases Nat.lt_or_ge j k with h1 | h1
      · exact hall j hj h1
      · have : j = k := by omega
        subst this; exact g
     generalize o[k] = x at hn hbad hgood
     by_cases g1 : x < 0
     · have e2 : decide (x < 0) = true := decide_eq_true g1
       have er := hbad (by omega)
       have ff := And.intro e1 (And.intro hn (And.intro hw e2))
       exact mX
     · have e2 : decide (x < 0) = false := decide_eq_false g1
       by_cases g2 : (l.length : Int) ≤ x
       · have e3 : decide ((l.length : Int) ≤ x) = true := decide_eq_true g2
         have er := hbad (by omega)
         have ff := And.intro e1 (And.intro hn (And.intro hw (And.intro e2 e3)))
         exact mX
       · have e3 : decide ((l.length : Int) ≤ x) = false := decide_eq_false g2
         have hg := hgood (by omega)
         have ff := And.intro e1 (And.intro hn (And.intro hw (And.intro e2 e3)))
         refine mW ?_
         refine ⟨k + 1, ⟨hlt, hg⟩, by omega, ?_⟩
         exact mK
   · have e1 : decide ((k : Int) < (o.length : Int)) = false := dfO
     have ff := e1
     exfalso
     have : allIn l o = true := by
      unfold allIn
      rw [List.all_eq_true]
      intro x hx
      obtain ⟨j, hj, rfl⟩ := List.mem_iff_getElem.1 hx
      have := hall j hj (by omega)
      rw [Bool.and_eq_true, decide_eq_true_eq, decide_eq_true_eq]
      exact this
     rw [h] at this
     cases this
theorem all_o (l : List Tick) (o : List Int) (hl : o.length ≤ 100000) (h : allIn l o = true) : CalO Tryz.prog 38 [ticks l, ints o] (.tup [.fn (.func 83) [] [.ptr 1 [] 0, .ptr 0 [] 0], .bool true]) [(0, .var (ticks l)), (1, .var (ints o))] := by
 have hR : Tryz.f38.results.toList = [.tmp 4, .tmp 5] := rfl
 refine calO_tr Tryz.func38 rfl fun E hE hP => ?_
 refine mW ?_
 refine Tr.loop (stAl l o) (fun k => k ≤ o.length ∧ ∀ j (hj : j < o.length), j < k → 0 ≤ o[j] ∧ o[j] < (l.length : Int)) (fun k => o.length - k) 0 ⟨Nat.zero_le _, fun _ _ h => by omega⟩ ?_ ?_
 · refine wk_ren (fun | 1 => 16 | n => n) mB mB rfl rfl rfl
 · intro k ⟨hk, hall⟩
   unfold stAl
   by_cases hlt : k < o.length
   · have e1 : decide ((k : Int) < (o.length : Int)) = true := dtO
     have hn := nth_map_lt iav o k hlt
     have hw := wN k
     have hbad := allIn_bad (l := l) hlt
     have hgood : (0 ≤ o[k] ∧ o[k] < (l.length : Int)) → ∀ j (hj : j < o.length), j < k + 1 → 0 ≤ o[j] ∧ o[j] < (l.length : Int) := fun g j hj hjk => by
      rcases Nat.lt_or_ge j k with h1 | h1
      · exact hall j hj h1
      · have : j = k := by omega
        subst this; exact g
     generalize o[k] = x at hn hbad hgood
     by_cases g1 : x < 0
     · have e2 : decide (x < 0) = true := decide_eq_true g1
       have er := hbad (by omega)
       have ff := And.intro e1 (And.intro hn (And.intro hw e2))
       rw [h] at er
       cases er
     · have e2 : decide (x < 0) = false := decide_eq_false g1
       by_cases g2 : (l.length : Int) ≤ x
       · have e3 : decide ((l.length : Int) ≤ x) = true := decide_eq_true g2
         have er := hbad (by omega)
         have ff := And.intro e1 (And.intro hn (And.intro hw (And.intro e2 e3)))
         rw [h] at er
         cases er
       · have e3 : decide ((l.length : Int) ≤ x) = false := decide_eq_false g2
         have hg := hgood (by omega)
         have ff := And.intro e1 (And.intro hn (And.intro hw (And.intro e2 e3)))
         refine mW ?_
         refine ⟨k + 1, ⟨hlt, hg⟩, by omega, ?_⟩
         exact mK
   · have e1 : decide ((k : Int) < (o.length : Int)) = false := dfO
     have ff := e1
     refine mW ?_
     refine Tr.ret ?_
     simp only [hR, go_sem, seval]
     exact ⟨fun n => n, rfl, ⟨⟨rfl, rfl, rfl⟩, ⟨rfl, rfl, rfl⟩, trivial⟩, rfl⟩
def zTick : Tick := ⟨0, ⟨0, [], zroot, zroot, 0⟩, 0, failR 0, 0, 0, 0⟩
def badR (l : List Tick) (o : List Int) (i k : Nat) : Bool := (firstAt o i).isSome && ((firstAt o k).isSome && (decide (0 ≤ (l.getD i zTick).ret) && (decide ((l.getD i zTick).ret < (l.getD k zTick).inv) && decide ((firstAt o k).getD 0 < (firstAt o i).getD 0))))
def realR (l : List Tick) (o : List Int) : Bool := (List.range l.length).all fun i => (List.range l.length).all fun k => !badR l o i k
def stRa (l : List Tick) (o : List Int) (i : Nat) : S where
 fr := [(0, ticks l), (5, .mp 0), (16, .sl (l.map Tick.av) false), (17, .int .i64 l.length), (18, .int .i64 i)]
 hp := [(0, .amap ((placTo o o.length).map jentE))]
 nx := 1
def stRb (l : List Tick) (o : List Int) (a : Tick) (i k : Nat) : S where
 fr := [(0, ticks l), (5, .mp 0), (6, .int .i64 i), (7, .ptr 1 [] 0), (16, .sl (l.map Tick.av) false), (17, .int .i64 l.length), (18, .int .i64 i), (23, .sl (l.map Tick.av) false), (24, .int .i64 l.length), (25, .int .i64 k)]
 hp := [(0, .amap ((placTo o o.length).map jentE)), (1, .var a.av)]
 nx := 2
set_option maxHeartbeats 2000000 in
theorem real_c (l : List Tick) (o : List Int) (hl : l.length ≤ 100000) (ho : o.length ≤ 100000) : Cal Tryz.prog 20 [ticks l, ints o] (.bool (realR l o)) := by
 have o1 := places_o o ho
 have hpl := plac_look o o.length (Nat.le_refl _)
 rw [List.take_length] at hpl
 have hR : Tryz.f20.results.toList = [.tmp 4] := rfl
 refine cal_tr Tryz.func20 rfl fun E hE hP => ?_
 refine mW ?_
 refine Tr.loop (stRa l o) (fun i => i ≤ l.length ∧ ∀ j, j < i → ∀ k, k < l.length → badR l o j k = false) (fun i => l.length - i) 0 ⟨Nat.zero_le _, fun _ h => by omega⟩ ?_ ?_
 · refine wk_ren (fun | 0 => 32 | n => n) mB mB rfl rfl rfl
 · intro i ⟨hi, hall⟩
   unfold stRa
   by_cases hlt : i < l.length
   · have e1 : decide ((i : Int) < (l.length : Int)) = true := dtO
     have hn := nth_map_lt Tick.av l i hlt
     have hw := wN i
     have hgi : l.getD i zTick = l[i] := by simp [List.getD_eq_getElem?_getD, hlt]
     generalize ha : l[i] = a at hn hgi
     have ff := And.intro e1 (And.intro hn hw)
     refine mW ?_
     refine Tr.loop (stRb l o a i) (fun k => k ≤ l.length ∧ ∀ j, j < k → badR l o i j = false) (fun k => l.length - k) 0 ⟨Nat.zero_le _, fun _ h => by omega⟩ ?_ ?_
     · refine wk_ren (fun | 1 => 65 | n => n) mB mB rfl rfl rfl
     · intro k ⟨hk, hkall⟩
       unfold stRb
       by_cases hkt : k < l.length
       · have e2 : decide ((k : Int) < (l.length : Int)) = true := dtO
         have hx := nth_map_lt Tick.av l k hkt
         have hv := wN k
         have hgk : l.getD k zTick = l[k] := by simp [List.getD_eq_getElem?_getD, hkt]
         have hb : badR l o i k = ((firstAt o i).isSome && ((firstAt o k).isSome && (decide (0 ≤ a.ret) && (decide (a.ret < l[k].inv) && decide ((firstAt o k).getD 0 < (firstAt o i).getD 0))))) := by rw [badR, hgi, hgk]
         have hno : badR l o i k = true → realR l o = false := fun h => by
          unfold realR
          rw [List.all_eq_false]
          refine ⟨i, List.mem_range.2 hlt, ?_⟩
          rw [Bool.not_eq_true, List.all_eq_false]
          exact ⟨k, List.mem_range.2 hkt, by rw [h]; simp⟩
         have hyes : badR l o i k = false → ∀ j, j < k + 1 → badR l o i j = false := fun h j hj => by
          rcases Nat.lt_or_ge j k with h1 | h1
          · exact hkall j h1
          · have : j = k := by omega
            subst this; exact h
         generalize l[k] = b at hx hb
         have q1 : (jlook (placTo o o.length) i).isSome = (firstAt o i).isSome := by rw [hpl]; simp
         have q2 : (jlook (placTo o o.length) k).isSome = (firstAt o k).isSome := by rw [hpl]; simp
         have q3 : (jlook (placTo o o.length) i).getD 0 = ((firstAt o i).getD 0 : Nat) := by rw [hpl]; cases firstAt o i <;> rfl
         have q4 : (jlook (placTo o o.length) k).getD 0 = ((firstAt o k).getD 0 : Nat) := by rw [hpl]; cases firstAt o k <;> rfl
         have ff := And.intro e2 (And.intro hx hv)
         refine mW ?_
         first | apply tr_m xE | (refine Tr.seq ?_; apply tr_m xE)
         intro Q hQ
         refine mS ?_
         iterate 2 refine mV ?_
         refine vm_op ?_; intro r hr; simp only [go_sem, seval]
         refine jlook_ok rfl ?_
         try simp only [go_sem, seval]
         subst hr
         iterate 5 refine mV ?_
         exact hQ
         first | apply tr_m xE | (refine Tr.seq ?_; apply tr_m xE)
         intro Q hQ
         refine mS ?_
         iterate 2 refine mV ?_
         refine vm_op ?_; intro r hr; simp only [go_sem, seval]
         refine jlook_ok rfl ?_
         try simp only [go_sem, seval]
         subst hr
         iterate 5 refine mV ?_
         exact hQ
         rw [q1, q2, q3, q4]
         have ed : decide ((((firstAt o k).getD 0 : Nat) : Int) < (((firstAt o i).getD 0 : Nat) : Int)) = decide ((firstAt o k).getD 0 < (firstAt o i).getD 0) := decide_eq_decide.2 (by omega)
         generalize (firstAt o i).isSome = z1 at hb ⊢
         generalize (firstAt o k).isSome = z2 at hb ⊢
         generalize (firstAt o i).getD 0 = x at hb ed ⊢
         generalize (firstAt o k).getD 0 = y at hb ed ⊢
         cases z1
         · have hy := hyes (by rw [hb]; rfl)
           have ff := And.intro e2 (And.intro hx hv)
           refine mW ?_
           refine ⟨k + 1, ⟨hkt, hy⟩, by omega, ?_⟩
           exact mK
         cases z2
         · have hy := hyes (by rw [hb]; rfl)
           have ff := And.intro e2 (And.intro hx hv)
           refine mW ?_
           refine ⟨k + 1, ⟨hkt, hy⟩, by omega, ?_⟩
           exact mK
         cases z3 : decide (0 ≤ a.ret)
         · have hy := hyes (by rw [hb, z3]; rfl)
           have ff := And.intro e2 (And.intro hx (And.intro hv z3))
           refine mW ?_
           refine ⟨k + 1, ⟨hkt, hy⟩, by omega, ?_⟩
           exact mK
         cases z4 : decide (a.ret < b.inv)
         · have hy := hyes (by rw [hb, z3, z4]; rfl)
           have ff := And.intro e2 (And.intro hx (And.intro hv (And.intro z3 z4)))
           refine mW ?_
           refine ⟨k + 1, ⟨hkt, hy⟩, by omega, ?_⟩
           exact mK
         cases z5 : decide (y < x)
         · have hy := hyes (by rw [hb, z3, z4, z5]; rfl)
           rw [z5] at ed
           have ff := And.intro e2 (And.intro hx (And.intro hv (And.intro z3 (And.intro z4 ed))))
           refine mW ?_
           refine ⟨k + 1, ⟨hkt, hy⟩, by omega, ?_⟩
           exact mK
         · have er := hno (by rw [hb, z3, z4, z5]; rfl)
           rw [z5] at ed
           have ff := And.intro e2 (And.intro hx (And.intro z3 (And.intro z4 (And.intro ed er))))
           exact mX
       · have e2 : decide ((k : Int) < (l.length : Int)) = false := dfO
         have hgo : ∀ j, j < i + 1 → ∀ k, k < l.length → badR l o j k = false := fun j hj m hm => by
          rcases Nat.lt_or_ge j i with h1 | h1
          · exact hall j h1 m hm
          · have : j = i := by omega
            subst this; exact hkall m (by omega)
         have ff := And.intro e2 hw
         refine mW ?_
         refine ⟨i + 1, ⟨hlt, hgo⟩, by omega, ?_⟩
         exact mK
   · have e1 : decide ((i : Int) < (l.length : Int)) = false := dfO
     have er : realR l o = true := by
      unfold realR
      rw [List.all_eq_true]
      intro j hj
      rw [List.all_eq_true]
      intro k hk
      rw [hall j (by have := List.mem_range.1 hj; omega) k (List.mem_range.1 hk)]
      rfl
     have ff := And.intro e1 er
     exact mX
theorem live_prune {N : Nat} {e : Eng} (h : LiveN N e) (hn : N + 16 ≤ 3000) : LiveN (N + 16) (pruneE e) := by
 refine ⟨may_prune h.may, prune_wf h.may h.wf, prune_few h.may h.few, ?_, hn⟩
 have f9 : e.j.Nodup := (mayE_all.1 h.may).2.2.2.2.2.2.2.2.1
 have f4 := (mayE_all.1 h.may).2.2.2.1
 have hk : e.k.length ≤ 16 := by
  unfold lmayB at f4
  rw [Bool.and_eq_true, decide_eq_true_eq] at f4
  exact f4.1
 have hf := h.free
 have hsub : (pruneE e).j.Sublist e.j := List.filter_sublist
 generalize (pruneE e).j = j' at hsub ⊢
 generalize (pruneE e).k = k'
 have := nodup_len (j'.filter fun c => !decide (c ∈ k'.map Link.t)) ((e.j.filter fun c => !decide (c ∈ e.k.map Link.t)) ++ e.k.map Link.t) (f9.sublist (List.filter_sublist.trans hsub)) fun c hc => by
  have hc := hsub.subset (List.mem_filter.1 hc).1
  rw [List.mem_append]
  by_cases hm : c ∈ e.k.map Link.t
  · exact .inr hm
  · exact .inl (List.mem_filter.2 ⟨hc, by rw [decide_eq_false hm]; rfl⟩)
 rw [List.length_append, List.length_map] at this
 omega
theorem live_do {N : Nat} {e : Eng} {c : Ask} (h : LiveN N e) (hn : N + 16 ≤ 3000) : LiveN (N + 16) (doR e c).1 := by
 have hu : ∀ {f : Eng}, LiveN N f → LiveN (N + 16) f := fun g => g.mono (by omega) hn
 unfold doR
 split
 · exact hu h
 split
 · exact hu h
 split
 · split
   · exact hu (live_blk h)
   · exact hu h
 split
 · split
   · exact hu (live_att h (attOf_wf _))
   · exact hu h
 split
 · split
   · exact hu h
   · next hne =>
     have h5 := (mayE_all.1 h.may).2.2.2.2.1
     exact hu (live_tick h (by omega)).1
 · exact live_prune h hn
structure Keep (N : Nat) (e : Eng) : Prop where
 few : e.few
 wf : e.wf
 live : mayE e = true → LiveN N e
theorem keep_few {e : Eng} (h : fewE e = true) (hw : e.wf) : Keep 24 e := ⟨fewE_few h, hw, fun hm => live_few h hm hw⟩
theorem Keep.mono {n m : Nat} {e : Eng} (h : Keep n e) (h1 : n ≤ m) (h2 : m ≤ 3000) : Keep m e := ⟨h.few, h.wf, fun hm => (h.live hm).mono h1 h2⟩
theorem keep_do {N : Nat} {e : Eng} {c : Ask} (h : Keep N e) (hn : N + 16 ≤ 3000) : Keep (N + 16) (doR e c).1 := by
 cases hm : mayE e
 · have : (doR e c).1 = e := by
    unfold doR
    split
    · rfl
    · rfl
   rw [this]
   exact h.mono (by omega) hn
 · have := live_do (c := c) (h.live hm) hn
   exact ⟨this.few, this.wf, fun _ => this⟩
theorem keep_one {N : Nat} {e : Eng} {shut : Bool} {c : Ask} (h : Keep N e) (hn : N + 16 ≤ 3000) : Keep (N + 16) (oneR e shut c).1 := by
 unfold oneR
 split
 · exact h.mono (by omega) hn
 split
 · exact h.mono (by omega) hn
 split
 · exact h.mono (by omega) hn
 · exact keep_do h hn
theorem one_k {N : Nat} (e : Eng) (shut : Bool) (c : Ask) (h : Keep N e) : CalT Tryz.prog 0 tabV 12 [e.av, .bool shut, c.av] (.tup [(oneR e shut c).1.av, .bool (oneR e shut c).2.1, (oneR e shut c).2.2.av]) :=
 one_t e shut c h.few h.wf fun hm => (h.live hm).live
def skipR (a : Tick) : Bool := (changesR a.c && decide (a.r = failR 3)) || (!changesR a.c && decide (a.ret < 0))
def legStep (s : Eng × Bool) (a : Tick) : Eng × Bool := if skipR a then s else ((oneR s.1 s.2 a.c).1, (oneR s.1 s.2 a.c).2.1)
def legOk (s : Eng × Bool) (a : Tick) : Bool := skipR a || decide ((oneR s.1 s.2 a.c).2.2 = a.r)
def legRun (s : Eng × Bool) (l : List Tick) : Eng × Bool := l.foldl legStep s
def legAll (s : Eng × Bool) : List Tick → Bool
 | [] => true
 | a :: l => legOk s a && legAll (legStep s a) l
def ordL (l : List Tick) (o : List Int) : List Tick := o.map fun x => l.getD x.toNat zTick
def legalR (e : Eng) (l : List Tick) (o : List Int) : Bool := allIn l o && (decide o.Nodup && legAll (e, false) (ordL l o))
theorem keep_step {N : Nat} {s : Eng × Bool} {a : Tick} (h : Keep N s.1) (hn : N + 16 ≤ 3000) : Keep (N + 16) (legStep s a).1 := by
 unfold legStep
 split
 · exact h.mono (by omega) hn
 · exact keep_one h hn
theorem legRun_snoc (s : Eng × Bool) (l : List Tick) (a : Tick) : legRun s (l ++ [a]) = legStep (legRun s l) a := by
 unfold legRun
 rw [List.foldl_append]
 rfl
theorem keep_run : ∀ (l : List Tick) (N : Nat) (s : Eng × Bool), Keep N s.1 → N + 16 * l.length ≤ 3000 → Keep (N + 16 * l.length) (legRun s l).1
 | [], _, _, h, _ => h
 | a :: l, N, s, h, hn => by
   rw [List.length_cons] at hn ⊢
   have := keep_run l (N + 16) (legStep s a) (keep_step h (by omega)) (by omega)
   rw [show N + 16 + 16 * l.length = N + 16 * (l.length + 1) by omega] at this
   exact this
theorem legAll_app : ∀ (l m : List Tick) (s : Eng × Bool), legAll s (l ++ m) = (legAll s l && legAll (legRun s l) m)
 | [], _, _ => rfl
 | a :: l, m, s => by
   rw [List.cons_append, legAll, legAll_app l m, legAll, Bool.and_assoc]
   rfl
theorem nodup_in {o : List Int} {n : Nat} (h : o.Nodup) (hi : ∀ x ∈ o, 0 ≤ x ∧ x < (n : Int)) : o.length ≤ n := by
 have := nodup_len o ((List.range n).map fun i : Nat => (i : Int)) h fun x hx => by
  obtain ⟨h0, h1⟩ := hi x hx
  exact List.mem_map.2 ⟨x.toNat, List.mem_range.2 (by omega), by omega⟩
 rw [List.length_map, List.length_range] at this
 exact this
def tkAt (l : List Tick) (o : List Int) (j : Nat) : Tick := l.getD (o.getD j 0).toNat zTick
def lastL (l : List Tick) (o : List Int) : Nat → Int
 | 0 => -9223372036854775808
 | j + 1 => (tkAt l o j).lin
def badO (n : Int) (a : Tick) : Bool := decide (a.lin < max n a.inv) || (decide (0 ≤ a.ret) && decide (a.ret < a.lin))
def chainO (l : List Tick) (o : List Int) : Bool := (List.range o.length).all fun j => !badO (lastL l o j) (tkAt l o j)
def manyTo (o : List Int) : Nat → List (Int × Int)
 | 0 => []
 | k + 1 => jset (manyTo o k) (o.getD k 0) ((jlook (manyTo o k) (o.getD k 0)).getD 0 + 1)
def onceR (l : List Tick) (o : List Int) : Bool := (List.range l.length).all fun i => !(decide (0 ≤ (l.getD i zTick).ret) && !decide ((o.count (i : Int) : Int) = 1))
def ordR (l : List Tick) (o : List Int) : Bool := allIn l o && (chainO l o && onceR l o)
theorem jlook_set : ∀ (es : List (Int × Int)) (k n p : Int), jlook (jset es k n) p = if p = k then some n else jlook es p
 | [], k, n, p => by
   unfold jset jlook
   by_cases h : p = k <;> simp [h]
 | (a, b) :: es, k, n, p => by
   have ih := jlook_set es k n p
   by_cases ha : k = a
   · have e : jset ((a, b) :: es) k n = (k, n) :: es := by
      unfold jset
      simp [List.findIdx?_cons, ha]
     rw [e]
     unfold jlook
     by_cases h : p = k
     · simp [h]
     · have : ¬ p = a := fun g => h (by rw [g, ha])
       simp [h, this]
   · have e : jset ((a, b) :: es) k n = (a, b) :: jset es k n := by
      unfold jset
      rw [List.findIdx?_cons, decide_eq_false (show ¬ k = a from ha)]
      cases hf : es.findIdx? fun e => decide (k = e.1) with
      | none => simp [hf]
      | some i => simp [hf]
     rw [e]
     unfold jlook at ih ⊢
     by_cases h : p = a
     · have : ¬ p = k := fun g => ha (by rw [← g, h])
       simp [h, Ne.symm ha]
     · simp only [List.find?_cons, decide_eq_false h]
       exact ih
theorem many_count (o : List Int) : ∀ k, k ≤ o.length → ∀ x, (jlook (manyTo o k) x).getD 0 = ((o.take k).count x : Nat)
 | 0, _, x => by simp [manyTo, jlook]
 | k + 1, h, x => by
   have ih := many_count o k (by omega)
   rw [manyTo, jlook_set, take_next (by omega), List.count_append]
   by_cases hx : x = o.getD k 0
   · rw [if_pos hx, Option.getD_some, ih, ← hx]
     simp
   · rw [if_neg hx, ih]
     have : [o.getD k 0].count x = 0 := List.count_eq_zero.2 (by simpa using hx)
     rw [this]
     simp
def stO1 (l : List Tick) (o : List Int) (n : Int) : S where
 fr := [(0, ticks l), (1, ints o), (4, .ptr 0 [] 0), (7, .ptr 1 [] 0), (22, .fn (.func 83) [] [.ptr 3 [] 0, .ptr 2 [] 0])]
 hp := [(0, .var (.bool false)), (1, .var (.int .i64 n)), (2, .var (ticks l)), (3, .var (ints o))]
 nx := 4
def stO2 (l : List Tick) (o : List Int) (L : Nat) (c : LB) (j : Nat) : S where
 fr := [(0, .fn (.yield L) [] []), (1, .ptr 3 [] 0), (2, .ptr 2 [] 0), (6, .sl (o.map iav) false), (7, .int .i64 o.length), (8, .int .i64 j)]
 hp := [(5, .lp c .ready none), (4, .dfr), (0, .var (.bool false)), (1, .var (.int .i64 (lastL l o j))), (2, .var (ticks l)), (3, .var (ints o))]
 nx := 6
def stO3 (l : List Tick) (o : List Int) (k : Nat) : S where
 fr := [(0, ticks l), (4, .ptr 0 [] 0), (9, .mp 1), (46, .sl (o.map iav) false), (47, .int .i64 o.length), (48, .int .i64 k)]
 hp := [(0, .var (.bool false)), (1, .amap ((manyTo o k).map jentE)), (2, .dfr)]
 nx := 3
 df := [2]
def stO4 (l : List Tick) (o : List Int) (i : Nat) : S where
 fr := [(4, .ptr 0 [] 0), (9, .mp 1), (57, .sl (l.map Tick.av) false), (58, .int .i64 l.length), (59, .int .i64 i)]
 hp := [(0, .var (.bool false)), (1, .amap ((manyTo o o.length).map jentE)), (2, .dfr)]
 nx := 3
 df := [2]
set_option maxHeartbeats 4000000 in
theorem ordered_c (l : List Tick) (o : List Int) (hl : l.length ≤ 100000) (ho : o.length ≤ 100000) : Cal Tryz.prog 19 [ticks l, ints o] (.bool (ordR l o)) := by
 cases hin : allIn l o
 · have c1 := all_no l o ho hin
   have er : ordR l o = false := by rw [ordR, hin]; rfl
   have ff := er
   have hR : Tryz.f19.results.toList = [.cell 4 4] := rfl
   refine cal_tr Tryz.func19 rfl fun E hE hP => ?_
   exact mX
 · have o1 := all_o l o ho hin
   refine ⟨enters_of Tryz.func19 kR rfl, pure_of_trM Tryz.func19 rfl nb rfl fun E hE hP => ?_⟩
   refine mW ?_
   refine Tr.wk (s' := stO1 l o (-9223372036854775808)) ?_ ?_
   · refine wk_ren (fun | 1 => 176 | 2 => 48 | 3 => 49 | n => n) mB mB rfl rfl rfl
   · unfold stO1
     refine Tr.range (fid := 83) (fn := Tryz.f83) rfl (en Tryz.func83) Tryz.func83 rfl rfl nb ?_
     have hE0 := hE
     intro E' L c hE hP' sd
     have hP : E'.pn = 6 := hP'
     refine mW ?_
     refine Tr.loop (stO2 l o L c) (fun j => j ≤ o.length ∧ ∀ i, i < j → badO (lastL l o i) (tkAt l o i) = false) (fun j => o.length - j) 0 ⟨Nat.zero_le _, fun _ h => by omega⟩ ?_ ?_
     · exact mK
     · intro j ⟨hj, hall⟩
       unfold stO2
       by_cases hlt : j < o.length
       · have e1 : decide ((j : Int) < (o.length : Int)) = true := dtO
         have hn := nth_map_lt iav o j hlt
         have hw := wN j
         obtain ⟨x0, x1⟩ := allIn_at hin hlt
         have hgd : o.getD j 0 = o[j] := by simp [List.getD_eq_getElem?_getD, hlt]
         have htk : tkAt l o j = l.getD o[j].toNat zTick := by rw [tkAt, hgd]
         obtain ⟨m, hm⟩ : ∃ m : Nat, o[j] = m := ⟨o[j].toNat, by omega⟩
         rw [hm] at hn x1 htk
         rw [Int.toNat_natCast] at htk
         have hml : m < l.length := by omega
         have hx := nth_map_lt Tick.av l m hml
         have hgm : l.getD m zTick = l[m] := by simp [List.getD_eq_getElem?_getD, hml]
         rw [hgm] at htk
         have hnl : lastL l o (j + 1) = l[m].lin := by rw [lastL, htk]
         have hb : badO (lastL l o j) (tkAt l o j) = (decide (l[m].lin < max (lastL l o j) l[m].inv) || (decide (0 ≤ l[m].ret) && decide (l[m].ret < l[m].lin))) := by rw [htk]; rfl
         generalize l[m] = a at hx hnl hb
         generalize hln : lastL l o j = n at hb ⊢
         have ff := And.intro e1 (And.intro hn (And.intro hw hx))
         refine mW ?_
         first | refine tr_seq_y 5 sd xE rfl rfl rfl ?_ | (refine Tr.seq ?_; refine tr_seq_y 5 sd xE rfl rfl rfl ?_)
         refine mL ?_
         repeat (first | (refine vc_op rfl ?_; simp only [hx, go_sem, seval]) | (refine vc_go rfl rfl rfl ?_; simp only [hx, go_sem, seval]) | (refine vc_no rfl rfl rfl ?_; simp only [hx, go_sem, seval]) | (refine vc_skip rfl rfl rfl ?_; simp only [hx, go_sem, seval]))
         refine vc_nil ?_
         have hE1 := hE
         have hP1 := hP
         refine gy_none rfl ?_
         refine ⟨_, rfl, rfl, rfl, rfl, by rw [hE0]; rfl, rfl, ?_⟩
         intro Er hE hP
         rw [hE0] at hE
         refine mZ ?_
         refine mr ?_
         refine ⟨rfl, ?_⟩
         refine mS ?_
         refine mBk ?_
         have hmx : (if decide (n < a.inv) = true then a.inv else n) = max n a.inv := by
          simp only [decide_eq_true_eq, Int.max_def]
          split <;> split <;> omega
         have hyes : badO n (tkAt l o j) = false → ∀ i, i < j + 1 → badO (lastL l o i) (tkAt l o i) = false := fun h i hi => by
          rcases Nat.lt_or_ge i j with h1 | h1
          · exact hall i h1
          · have : i = j := by omega
            subst this; rw [hln]; exact h
         have hno : badO n (tkAt l o j) = true → ordR l o = false := fun h => by
          have : chainO l o = false := by
           unfold chainO
           rw [List.all_eq_false]
           exact ⟨j, List.mem_range.2 hlt, by rw [hln, h]; simp⟩
          rw [ordR, this, Bool.false_and, Bool.and_false]
         cases z1 : decide (a.lin < max n a.inv)
         · cases z2 : decide (0 ≤ a.ret)
           · have hg : badO n (tkAt l o j) = false := by rw [hb, z1, z2]; rfl
             have ff := And.intro hmx (And.intro z1 (And.intro z2 hw))
             refine mW ?_
             refine ⟨rfl, ?_⟩
             refine mS ?_
             refine mG ?_
             refine vc_nil ?_
             have hE := hE1
             have hP := hP1
             refine mW ?_
             refine ⟨j + 1, ⟨hlt, hyes hg⟩, by omega, ?_⟩
             rw [hnl]
             exact mK
           · cases z3 : decide (a.ret < a.lin)
             · have hg : badO n (tkAt l o j) = false := by rw [hb, z1, z2, z3]; rfl
               have ff := And.intro hmx (And.intro z1 (And.intro z2 (And.intro z3 hw)))
               refine mW ?_
               refine ⟨rfl, ?_⟩
               refine mS ?_
               refine mG ?_
               refine vc_nil ?_
               have hE := hE1
               have hP := hP1
               refine mW ?_
               refine ⟨j + 1, ⟨hlt, hyes hg⟩, by omega, ?_⟩
               rw [hnl]
               exact mK
             · have er := hno (by rw [hb, z1, z2, z3]; rfl)
               have ff := And.intro hmx (And.intro z1 (And.intro z2 z3))
               refine mW ?_
               refine Tr.ret ?_
               refine mU ?_
               refine ⟨rfl, ?_⟩
               refine mS ?_
               refine mG ?_
               refine vc_nil ?_
               have hE := hE1
               have hP := hP1
               refine mYes ?_
               refine Tr.ret ?_
               refine mU ?_
               have hE := hE0
               refine ⟨rfl, _, _, rfl, by simp, rfl, ?_⟩
               simp only [goOn]
               simp only [HP.del, fB, go_sem, seval]
               rw [er]
               refine ⟨by simp, fun o ho => by rw [List.mem_singleton.1 ho]; rfl, ?_⟩
               simp only [HP.drop, List.contains_cons, List.contains_nil, Bool.or_false, Bool.false_or, Bool.or_true, fB,  Tryz.f19, go_sem, seval]
         · have er := hno (by rw [hb, z1]; rfl)
           have ff := And.intro hmx z1
           refine mW ?_
           refine Tr.ret ?_
           refine mU ?_
           refine ⟨rfl, ?_⟩
           refine mS ?_
           refine mG ?_
           refine vc_nil ?_
           have hE := hE1
           have hP := hP1
           refine mYes ?_
           refine Tr.ret ?_
           refine mU ?_
           have hE := hE0
           refine ⟨rfl, _, _, rfl, by simp, rfl, ?_⟩
           simp only [goOn]
           simp only [HP.del, fB, go_sem, seval]
           rw [er]
           refine ⟨by simp, fun o ho => by rw [List.mem_singleton.1 ho]; rfl, ?_⟩
           simp only [HP.drop, List.contains_cons, List.contains_nil, Bool.or_false, Bool.false_or, Bool.or_true, fB,  Tryz.f19, go_sem, seval]
       · have e1 : decide ((j : Int) < (o.length : Int)) = false := dfO
         have ff := e1
         refine mW ?_
         have hE := hE0
         refine ⟨rfl, _, _, rfl, by simp, rfl, ?_⟩
         simp only [goOn]
         simp only [HP.del, fB, go_sem, seval]
         refine mW ?_
         refine Tr.loop (stO3 l o) (fun k => k ≤ o.length) (fun k => o.length - k) 0 (Nat.zero_le _) ?_ ?_
         · refine wk_ren_df (fun | 1 => 22 | 2 => 4 | n => n) mB mB rfl rfl rfl
         · intro k hk
           unfold stO3
           by_cases hkt : k < o.length
           · have e2 : decide ((k : Int) < (o.length : Int)) = true := dtO
             have hn := nth_map_lt iav o k hkt
             have hw := wN k
             have hgd : o.getD k 0 = o[k] := by simp [List.getD_eq_getElem?_getD, hkt]
             have hmy := many_count o k hk o[k]
             have hcl : (o.take k).count o[k] ≤ k := Nat.le_trans List.count_le_length (by rw [List.length_take]; omega)
             have hwc : IntKind.i64.wrap ((jlook (manyTo o k) o[k]).getD 0 + 1) = (jlook (manyTo o k) o[k]).getD 0 + 1 := by
              rw [hmy]
              exact (wrap_next (by omega)).trans (by omega)
             have hnx : manyTo o (k + 1) = jset (manyTo o k) o[k] ((jlook (manyTo o k) o[k]).getD 0 + 1) := by rw [manyTo, hgd]
             generalize manyTo o k = es at hwc hnx ⊢
             generalize o[k] = x at hn hwc hnx
             have ff := And.intro e2 (And.intro hn (And.intro hw hwc))
             refine mW ?_
             apply tr_ml xE
             intro Q hQ
             refine mS ?_
             iterate 2 (refine vm_op ?_; intro r hr; simp only [hwc, go_sem, seval]; subst hr)
             refine vm_op ?_; intro r hr; simp only [hwc, go_sem, seval]
             refine jlook_one rfl ?_
             try simp only [hwc, go_sem, seval]
             subst hr
             refine vm_op ?_; intro r hr; simp only [hwc, go_sem, seval]; subst hr
             refine vm_op ?_; intro r hr; simp only [hwc, go_sem, seval]
             refine jupd rfl ?_
             try simp only [hwc, go_sem, seval]
             subst hr
             exact hQ
             refine mW ?_
             refine ⟨k + 1, hkt, by omega, ?_⟩
             rw [hnx]
             refine wk_ren_df (fun n => n) mB mB rfl rfl rfl
           · have e2 : decide ((k : Int) < (o.length : Int)) = false := dfO
             have hkl : k = o.length := by omega
             subst hkl
             have ff := e2
             have hch : chainO l o = true := by
              unfold chainO
              rw [List.all_eq_true]
              intro i hi
              rw [hall i (by have := List.mem_range.1 hi; omega)]
              rfl
             refine mW ?_
             refine Tr.loop (stO4 l o) (fun i => i ≤ l.length ∧ ∀ m, m < i → (decide (0 ≤ (l.getD m zTick).ret) && !decide ((o.count (m : Int) : Int) = 1)) = false) (fun i => l.length - i) 0 ⟨Nat.zero_le _, fun _ h => by omega⟩ ?_ ?_
             · refine wk_ren_df (fun n => n) mB mB rfl rfl rfl
             · intro i ⟨hi, hmall⟩
               unfold stO4
               by_cases hit : i < l.length
               · have e3 : decide ((i : Int) < (l.length : Int)) = true := dtO
                 have hx := nth_map_lt Tick.av l i hit
                 have hv := wN i
                 have hmy := many_count o o.length (Nat.le_refl _) i
                 rw [List.take_length] at hmy
                 have hgi : l.getD i zTick = l[i] := by simp [List.getD_eq_getElem?_getD, hit]
                 have hq : (decide (0 ≤ (l.getD i zTick).ret) && !decide ((o.count (i : Int) : Int) = 1)) = (decide (0 ≤ l[i].ret) && !decide ((o.count (i : Int) : Int) = 1)) := by rw [hgi]
                 have hyes : (decide (0 ≤ (l.getD i zTick).ret) && !decide ((o.count (i : Int) : Int) = 1)) = false → ∀ m, m < i + 1 → (decide (0 ≤ (l.getD m zTick).ret) && !decide ((o.count (m : Int) : Int) = 1)) = false := fun h m hm => by
                  rcases Nat.lt_or_ge m i with h1 | h1
                  · exact hmall m h1
                  · have : m = i := by omega
                    subst this; exact h
                 have hno : (decide (0 ≤ (l.getD i zTick).ret) && !decide ((o.count (i : Int) : Int) = 1)) = true → ordR l o = false := fun h => by
                  have : onceR l o = false := by
                   unfold onceR
                   rw [List.all_eq_false]
                   exact ⟨i, List.mem_range.2 hit, by rw [h]; simp⟩
                  rw [ordR, this, Bool.and_false, Bool.and_false]
                 generalize l[i] = a at hx hq
                 generalize (o.count (i : Int) : Int) = q at hmy hq hyes hno
                 generalize manyTo o o.length = es at hmy ⊢
                 cases z1 : decide (0 ≤ a.ret)
                 · have hg := hyes (by rw [hq, z1]; rfl)
                   have ff := And.intro e3 (And.intro hx (And.intro hv z1))
                   refine mW ?_
                   refine ⟨i + 1, ⟨hit, hg⟩, by omega, ?_⟩
                   refine wk_ren_df (fun n => n) mB mB rfl rfl rfl
                 · have ff := And.intro e3 (And.intro hx (And.intro hv z1))
                   refine mW ?_
                   first | apply tr_m xE | (refine Tr.seq ?_; apply tr_m xE)
                   intro Q hQ
                   refine mS ?_
                   iterate 4 (refine vm_op ?_; intro r hr; simp only [z1, go_sem, seval]; subst hr)
                   iterate 2 (refine mI ?_; intro r hr; simp only [z1, go_sem, seval]; subst hr)
                   (refine vm_if rfl ?_); intro r hr; simp only [z1, go_sem, seval]
                   refine jlook_one rfl ?_
                   try simp only [z1, go_sem, seval]
                   subst hr
                   refine mI ?_; intro r hr; simp only [z1, go_sem, seval]; subst hr
                   refine vm_op ?_; intro r hr; simp only [z1, go_sem, seval]; subst hr
                   exact hQ
                   rw [hmy]
                   cases z2 : decide (q = 1)
                   · have er := hno (by rw [hq, z1, z2]; rfl)
                     have ff := And.intro e3 (And.intro hx (And.intro z1 er))
                     refine mW ?_
                     refine Tr.ret ?_
                     rw [er]
                     refine ⟨by simp, fun o ho => by rw [List.mem_singleton.1 ho]; rfl, ?_⟩
                     simp only [HP.drop, List.contains_cons, List.contains_nil, Bool.or_false, Bool.false_or, Bool.or_true, fB,  Tryz.f19, go_sem, seval]
                   · have hg := hyes (by rw [hq, z1, z2]; rfl)
                     have ff := And.intro e3 (And.intro hx (And.intro hv z1))
                     refine mW ?_
                     refine ⟨i + 1, ⟨hit, hg⟩, by omega, ?_⟩
                     refine wk_ren_df (fun n => n) mB mB rfl rfl rfl
               · have e3 : decide ((i : Int) < (l.length : Int)) = false := dfO
                 have er : ordR l o = true := by
                  have : onceR l o = true := by
                   unfold onceR
                   rw [List.all_eq_true]
                   intro m hm
                   rw [hmall m (by have := List.mem_range.1 hm; omega)]
                   rfl
                  rw [ordR, hin, hch, this]
                  rfl
                 have ff := And.intro e3 er
                 refine mW ?_
                 refine Tr.ret ?_
                 rw [er]
                 refine ⟨by simp, fun o ho => by rw [List.mem_singleton.1 ho]; rfl, ?_⟩
                 simp only [HP.drop, List.contains_cons, List.contains_nil, Bool.or_false, Bool.false_or, Bool.or_true, fB,  Tryz.f19, go_sem, seval]
theorem ordL_len (l : List Tick) (o : List Int) : (ordL l o).length = o.length := List.length_map _
theorem ordL_app (l : List Tick) (o p : List Int) : ordL l (o ++ p) = ordL l o ++ ordL l p := List.map_append
theorem allIn_all {l : List Tick} {o : List Int} : allIn l o = true ↔ ∀ x ∈ o, 0 ≤ x ∧ x < (l.length : Int) := by
 unfold allIn
 rw [List.all_eq_true]
 constructor
 · intro h x hx
   have := h x hx
   rw [Bool.and_eq_true, decide_eq_true_eq, decide_eq_true_eq] at this
   exact this
 · intro h x hx
   rw [Bool.and_eq_true, decide_eq_true_eq, decide_eq_true_eq]
   exact h x hx
theorem legal_all {e : Eng} {l : List Tick} {o : List Int} : legalR e l o = true ↔ (∀ x ∈ o, 0 ≤ x ∧ x < (l.length : Int)) ∧ o.Nodup ∧ legAll (e, false) (ordL l o) = true := by
 unfold legalR
 rw [Bool.and_eq_true, Bool.and_eq_true, decide_eq_true_eq, allIn_all]
theorem legal_take {e : Eng} {l : List Tick} {o : List Int} (h : legalR e l o = true) (n : Nat) : legalR e l (o.take n) = true := by
 obtain ⟨h1, h2, h3⟩ := legal_all.1 h
 refine legal_all.2 ⟨fun x hx => h1 x (List.mem_of_mem_take hx), h2.sublist (List.take_sublist n o), ?_⟩
 have he : ordL l o = ordL l (o.take n) ++ ordL l (o.drop n) := by rw [← ordL_app, List.take_append_drop]
 rw [he, legAll_app, Bool.and_eq_true] at h3
 exact h3.1
def nxH (e : Eng) (b : Bool) : HP := [(0, .tab 0 tabV), (1, .var e.av), (2, .var (.bool b))]
theorem next_e {N : Nat} (a : Tick) (e : Eng) (b : Bool) (h : Keep N e) : CalE Tryz.prog 40 [a.av, .ptr 1 [] 0, .ptr 2 [] 0] 3 (nxH e b) (.bool (legOk (e, b) a)) (nxH (legStep (e, b) a).1 (legStep (e, b) a).2) := by
 have c1 := changes_c a.c
 have x1 := one_k e b a.c h
 unfold nxH
 cases hc : changesR a.c
 · rw [hc] at c1
   cases hr : decide (a.ret < 0)
   · have hs : skipR a = false := by rw [skipR, hc, hr]; rfl
     have ff := hr
     have e1 : legOk (e, b) a = decide ((oneR e b a.c).2.2 = a.r) := by rw [legOk, hs]; rfl
     have e2 : legStep (e, b) a = ((oneR e b a.c).1, (oneR e b a.c).2.1) := by rw [legStep, hs]; rfl
     rw [e1, e2]
     generalize oneR e b a.c = p at x1 ⊢
     obtain ⟨f, d, r⟩ := p
     have hR : Tryz.f40.results.toList = [.tmp 4] := rfl
     refine calE_tr Tryz.func40 rfl fun E hE hP => ?_
     exact mX
   · have hs : skipR a = true := by rw [skipR, hc, hr]; rfl
     have ff := hr
     have e1 : legOk (e, b) a = true := by rw [legOk, hs]; rfl
     have e2 : legStep (e, b) a = (e, b) := by rw [legStep, hs]; rfl
     rw [e1, e2]
     clear x1
     have hR : Tryz.f40.results.toList = [.tmp 4] := rfl
     refine calE_tr Tryz.func40 rfl fun E hE hP => ?_
     exact mX
 · rw [hc] at c1
   cases hr : decide (a.r = failR 3)
   · have hs : skipR a = false := by rw [skipR, hc, hr]; rfl
     have ff : decide (a.r = Resp.mk 3 zroot false ⟨0, zroot⟩) = false := hr
     have e1 : legOk (e, b) a = decide ((oneR e b a.c).2.2 = a.r) := by rw [legOk, hs]; rfl
     have e2 : legStep (e, b) a = ((oneR e b a.c).1, (oneR e b a.c).2.1) := by rw [legStep, hs]; rfl
     rw [e1, e2]
     generalize oneR e b a.c = p at x1 ⊢
     obtain ⟨f, d, r⟩ := p
     have hR : Tryz.f40.results.toList = [.tmp 4] := rfl
     refine calE_tr Tryz.func40 rfl fun E hE hP => ?_
     exact mX
   · have hs : skipR a = true := by rw [skipR, hc, hr]; rfl
     have ff : decide (a.r = Resp.mk 3 zroot false ⟨0, zroot⟩) = true := hr
     have e1 : legOk (e, b) a = true := by rw [legOk, hs]; rfl
     have e2 : legStep (e, b) a = (e, b) := by rw [legStep, hs]; rfl
     rw [e1, e2]
     clear x1
     have hR : Tryz.f40.results.toList = [.tmp 4] := rfl
     refine calE_tr Tryz.func40 rfl fun E hE hP => ?_
     exact mX
def stJ1 (e : Eng) (l : List Tick) (o : List Int) : S where
 fr := [(6, .ptr 1 [] 0), (10, .ptr 4 [] 0), (29, .fn (.func 83) [] [.ptr 6 [] 0, .ptr 5 [] 0])]
 hp := [(0, .tab 0 tabV), (1, .var (.bool false)), (2, .var e.av), (3, .var (.bool false)), (4, .var (.fn (.func 40) [] [.ptr 2 [] 0, .ptr 3 [] 0])), (5, .var (ticks l)), (6, .var (ints o))]
 nx := 7
def stJ2 (s : Eng × Bool) (l : List Tick) (o : List Int) (L : Nat) (c : LB) (j : Nat) : S where
 fr := [(0, .fn (.yield L) [] []), (1, .ptr 6 [] 0), (2, .ptr 5 [] 0), (6, .sl (o.map iav) false), (7, .int .i64 o.length), (8, .int .i64 j)]
 hp := [(8, .lp c .ready none), (7, .dfr), (0, .tab 0 tabV), (1, .var (.bool false)), (2, .var s.1.av), (3, .var (.bool s.2)), (4, .var (.fn (.func 40) [] [.ptr 2 [] 0, .ptr 3 [] 0])), (5, .var (ticks l)), (6, .var (ints o))]
 nx := 9
theorem legAll_next {e : Eng} {l : List Tick} {o : List Int} {j : Nat} (hj : j < o.length) : legAll (e, false) (ordL l (o.take (j + 1))) = (legAll (e, false) (ordL l (o.take j)) && legOk (legRun (e, false) (ordL l (o.take j))) (tkAt l o j)) := by
 rw [take_next hj, ordL_app, legAll_app]
 show (_ && (legOk _ _ && true)) = _
 rw [Bool.and_true]
 rfl
theorem legRun_next {e : Eng} {l : List Tick} {o : List Int} {j : Nat} (hj : j < o.length) : legRun (e, false) (ordL l (o.take (j + 1))) = legStep (legRun (e, false) (ordL l (o.take j))) (tkAt l o j) := by
 rw [take_next hj, ordL_app]
 exact legRun_snoc _ _ _
set_option maxHeartbeats 4000000 in
theorem legal_t {N : Nat} (e : Eng) (l : List Tick) (o : List Int) (hk : Keep N e) (hl : l.length ≤ 100) (hN : N + 1600 ≤ 3000) (ho : o.length ≤ 100000) : CalT Tryz.prog 0 tabV 18 [e.av, ticks l, ints o] (.bool (legalR e l o)) := by
 have o2 := places_o o ho
 have hp := plac_len o o.length (Nat.le_refl _)
 rw [List.take_length] at hp
 cases hin : allIn l o
 · have c1 := all_no l o ho hin
   have er : legalR e l o = false := by rw [legalR, hin]; rfl
   rw [er]
   have hR : Tryz.f18.results.toList = [.cell 6 4] := rfl
   refine calE_tr Tryz.func18 rfl fun E hE hP => ?_
   exact mX
 · have o1 := all_o l o ho hin
   by_cases hd : o.Nodup
   · have e0 : (((placTo o o.length).length : Int) != (o.length : Int)) = false := by
      rw [int_bne, decide_eq_true (by have := hp.2.2 hd; omega)]
      rfl
     have hol := nodup_in hd (allIn_all.1 hin)
     have hR : Tryz.f18.results.toList = [.cell 6 4] := rfl
     refine ⟨enters_of Tryz.func18 kR rfl, eff_of_trM Tryz.func18 rfl nb rfl fun E hE hP => ?_⟩
     have ff := e0
     refine mW ?_
     refine Tr.wk (s' := stJ1 e l o) ?_ ?_
     · refine wk_ren (fun | 1 => 17 | 2 => 1 | 3 => 321 | 4 => 369 | 5 => 65 | 6 => 66 | n => n) mB mB rfl rfl rfl
     · unfold stJ1
       refine Tr.range (fid := 83) (fn := Tryz.f83) rfl (en Tryz.func83) Tryz.func83 rfl rfl nb ?_
       have hE0 := hE
       intro E' L c hE hP' sd
       have hP : E'.pn = 9 := hP'
       refine mW ?_
       refine Tr.loop (fun j => stJ2 (legRun (e, false) (ordL l (o.take j))) l o L c j) (fun j => j ≤ o.length ∧ legAll (e, false) (ordL l (o.take j)) = true) (fun j => o.length - j) 0 ⟨Nat.zero_le _, rfl⟩ ?_ ?_
       · exact mK
       · intro j ⟨hj, hall⟩
         unfold stJ2
         by_cases hlt : j < o.length
         · have e1 : decide ((j : Int) < (o.length : Int)) = true := dtO
           have hn := nth_map_lt iav o j hlt
           have hw := wN j
           obtain ⟨x0, x1⟩ := allIn_at hin hlt
           have hgd : o.getD j 0 = o[j] := by simp [List.getD_eq_getElem?_getD, hlt]
           have htk : tkAt l o j = l.getD o[j].toNat zTick := by rw [tkAt, hgd]
           obtain ⟨m, hm⟩ : ∃ m : Nat, o[j] = m := ⟨o[j].toNat, by omega⟩
           rw [hm] at hn x1 htk
           rw [Int.toNat_natCast] at htk
           have hml : m < l.length := by omega
           have hx := nth_map_lt Tick.av l m hml
           have hgm : l.getD m zTick = l[m] := by simp [List.getD_eq_getElem?_getD, hml]
           rw [hgm] at htk
           have hA := legAll_next (e := e) (l := l) hlt
           have hS := legRun_next (e := e) (l := l) hlt
           rw [hall, Bool.true_and] at hA
           have hK := keep_run (ordL l (o.take j)) N (e, false) hk (by rw [ordL_len, List.length_take]; omega)
           rw [htk] at hA hS
           have hbad : legAll (e, false) (ordL l (o.take (j + 1))) = false → legalR e l o = false := fun h => by
            rw [Bool.eq_false_iff]
            intro g
            have := legal_all.1 (legal_take g (j + 1))
            rw [this.2.2] at h
            cases h
           generalize hs' : legRun (e, false) (ordL l (o.take (j + 1))) = s' at hS ⊢
           generalize legRun (e, false) (ordL l (o.take j)) = s at hA hS hK ⊢
           generalize l[m] = a at hx hA hS
           obtain ⟨f, d⟩ := s
           have y := next_e a f d hK
           rw [← hS, ← hA] at y
           unfold nxH at y
           have ff := And.intro e1 (And.intro hn (And.intro hw hx))
           refine mW ?_
           first | refine tr_seq_y 5 sd xE rfl rfl rfl ?_ | (refine Tr.seq ?_; refine tr_seq_y 5 sd xE rfl rfl rfl ?_)
           refine mL ?_
           repeat (first | (refine vc_op rfl ?_; simp only [hx, go_sem, seval]) | (refine vc_go rfl rfl rfl ?_; simp only [hx, go_sem, seval]) | (refine vc_no rfl rfl rfl ?_; simp only [hx, go_sem, seval]) | (refine vc_skip rfl rfl rfl ?_; simp only [hx, go_sem, seval]))
           refine vc_nil ?_
           have hE1 := hE
           have hP1 := hP
           refine gy_none rfl ?_
           refine ⟨_, rfl, rfl, rfl, rfl, by rw [hE0]; rfl, rfl, ?_⟩
           intro Er hE hP
           rw [hE0] at hE
           refine mZ ?_
           refine mr ?_
           refine ⟨rfl, ?_⟩
           refine mS ?_
           refine mBk ?_
           first | apply tr_m xE | (refine Tr.seq ?_; apply tr_m xE)
           intro Q hQ
           refine mS ?_
           iterate 2 refine mV ?_
           refine vm_op ?_; intro r hr; simp only [go_sem, seval]
           refine call_eff (fun | 1 => 2 | 2 => 3 | n => n) [true] [] rfl rfl rfl rfl (en Tryz.func40) (y.2) rfl rfl mB rfl rfl rfl ?_
           refine mR ?_
           subst hr
           refine mV ?_
           exact hQ
           cases hz : legAll (e, false) (ordL l (o.take (j + 1)))
           · have er := hbad hz
             refine mW ?_
             refine Tr.ret ?_
             refine mU ?_
             refine ⟨rfl, ?_⟩
             refine mS ?_
             refine mG ?_
             refine vc_nil ?_
             have hE := hE1
             have hP := hP1
             refine mYes ?_
             refine Tr.ret ?_
             refine mU ?_
             have hE := hE0
             refine ⟨rfl, _, _, rfl, by simp, rfl, ?_⟩
             simp only [goOn]
             simp only [HP.del, fB, go_sem, seval]
             rw [er]
             refine ⟨by simp, fun o ho => by rw [List.mem_singleton.1 ho]; rfl, ?_⟩
             simp only [HP.drop, List.contains_cons, List.contains_nil, Bool.or_false, Bool.false_or, Bool.or_true, fB,  Tryz.f18, go_sem, seval]
             exact ⟨fun n => n, ⟨⟨rfl, rfl, rfl⟩, trivial⟩, rfl, fun _ _ => rfl⟩
           · refine mW ?_
             refine ⟨rfl, ?_⟩
             refine mS ?_
             refine mG ?_
             refine vc_nil ?_
             have hE := hE1
             have hP := hP1
             refine mW ?_
             refine ⟨j + 1, ⟨hlt, hz⟩, by omega, ?_⟩
             rw [hs']
             exact mK
         · have e1 : decide ((j : Int) < (o.length : Int)) = false := dfO
           have hjo : j = o.length := by omega
           subst hjo
           rw [List.take_length] at hall
           have er : legalR e l o = true := legal_all.2 ⟨allIn_all.1 hin, hd, hall⟩
           have ff := e1
           refine mW ?_
           have hE := hE0
           refine ⟨rfl, _, _, rfl, by simp, rfl, ?_⟩
           simp only [goOn]
           simp only [HP.del, fB, go_sem, seval]
           rw [er]
           refine mW ?_
           refine Tr.ret ?_
           refine ⟨by simp, fun o ho => by rw [List.mem_singleton.1 ho]; rfl, ?_⟩
           simp only [HP.drop, List.contains_cons, List.contains_nil, Bool.or_false, Bool.false_or, Bool.or_true, fB,  Tryz.f18, go_sem, seval]
           exact ⟨fun n => n, ⟨⟨rfl, rfl, rfl⟩, trivial⟩, rfl, fun _ _ => rfl⟩
   · have e0 : (((placTo o o.length).length : Int) != (o.length : Int)) = true := by
      rw [int_bne, decide_eq_false (fun h => hd (hp.2.1 (by omega)))]
      rfl
     have er : legalR e l o = false := by rw [legalR, hin, decide_eq_false hd]; rfl
     rw [er]
     have ff := e0
     have hR : Tryz.f18.results.toList = [.cell 6 4] := rfl
     refine calE_tr Tryz.func18 rfl fun E hE hP => ?_
     exact mX
def eH : Eng := newE (rootN 1) [1]
def tH0 : Tick := ⟨0, ⟨5, [], zroot, zroot, 0⟩, 0, ⟨0, rootN 1, false, ⟨0, zroot⟩⟩, 4, 5, 6⟩
def tH1 : Tick := ⟨0, ⟨2, [], zroot, zroot, 0⟩, 0, failR 0, 0, 1, 2⟩
theorem eH_few : fewE eH = true := by decide +kernel
theorem eH_wf : eH.wf := by
 refine ⟨⟨fun x hx => ?_, fun a ha => ?_, fun a ha => ?_⟩, by decide, fun a ha => ?_, by decide⟩
 · simp only [eH, newE, List.mem_cons, List.not_mem_nil, or_false] at hx
   omega
 · cases ha
 · cases ha
 · cases ha
theorem legalH : legalR eH [tH0, tH1] [1, 0] = true := by decide +kernel
theorem ordH : ordR [tH0, tH1] [1, 0] = true := by decide +kernel
theorem realH : realR [tH0, tH1] [1, 0] = true := by decide +kernel
theorem ordH2 : ordR [tH0, tH1] [0, 1] = false := by decide +kernel
theorem realH2 : realR [tH0, tH1] [0, 1] = false := by decide +kernel
def tkN (a : Tick) : AV := .st [.int .i64 a.who, .st [.int .i64 a.c.kind, .sl [] true, .root a.c.a, .root a.c.b, .int .u64 a.c.slot], .int .i64 a.far, a.r.av, .int .i64 a.inv, .int .i64 a.lin, .int .i64 a.ret]
theorem awake21_t : CalT Tryz.prog 0 tabV 9 [] (.bool true) := by
 have c1 : Cal Tryz.prog 22 [.root (rootN 1), u64s [1]] (.tup [eH.av, .bool true]) := enew_c (rootN 1) [1] (by decide)
 have k1 := legal_t eH [tH0, tH1] [1, 0] (keep_few eH_few eH_wf) (by decide) (by decide) (by decide)
 rw [legalH] at k1
 have k2 := ordered_c [tH0, tH1] [1, 0] (by decide) (by decide)
 rw [ordH] at k2
 have k3 := real_c [tH0, tH1] [1, 0] (by decide) (by decide)
 rw [realH] at k3
 have k4 := ordered_c [tH0, tH1] [0, 1] (by decide) (by decide)
 rw [ordH2] at k4
 have k5 := real_c [tH0, tH1] [0, 1] (by decide) (by decide)
 rw [realH2] at k5
 have x1 : CalT Tryz.prog 0 tabV 18 [eH.av, .sl [tkN tH0, tkN tH1] false, ints [1, 0]] (.bool true) := calESub k1 (.same _ (.deep _ (.same _ .nil)))
 have c2 : Cal Tryz.prog 19 [.sl [tkN tH0, tkN tH1] false, ints [1, 0]] (.bool true) := calSub k2 (.deep _ (.same _ .nil))
 have c3 : Cal Tryz.prog 20 [.sl [tkN tH0, tkN tH1] false, ints [1, 0]] (.bool true) := calSub k3 (.deep _ (.same _ .nil))
 have c4 : Cal Tryz.prog 19 [.sl [tkN tH0, tkN tH1] false, ints [0, 1]] (.bool false) := calSub k4 (.deep _ (.same _ .nil))
 have c5 : Cal Tryz.prog 20 [.sl [tkN tH0, tkN tH1] false, ints [0, 1]] (.bool false) := calSub k5 (.deep _ (.same _ .nil))
 clear k1 k2 k3 k4 k5
 generalize eH = e at c1 x1
 have hR : Tryz.f9.results.toList = [.tmp 0] := rfl
 refine calE_tr Tryz.func9 rfl fun E hE hP => ?_
 exact mX
@[go_sem] theorem heql4 (a b : Bool) (K : AV → Prop) : binK Tryz.prog .eql 4 (.bool a) (.bool b) K = K (.bool (decide (a = b))) :=
  bin_eql_of (fun _ _ h => by cases h) (fun _ h => by cases h) kR kR nb kR (by cases a <;> cases b <;> rfl) K
end Go.Proofs.YtekjdikofhdcpaaGreatDoor

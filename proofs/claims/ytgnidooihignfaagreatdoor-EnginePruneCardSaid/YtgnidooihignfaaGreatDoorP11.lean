/- Engines: what is called, in all its kinds. -/
import Derived.Test.YtgnidooihignfaaGreatDoorP10
import Derived.Test.YtgnidooihignfaaGreatDoorP7
import Derived.Test.YtgnidooihignfaaGreatDoorP6
import Derived.Test.YtgnidooihignfaaGreatDoorP3
set_option linter.unusedSimpArgs false
set_option maxRecDepth 10000
namespace Go.Proofs.YtgnidooihignfaaGreatDoor
open Go Go.Ab

theorem do_pru (e f : Eng) (b : Block) (a : Att) (c : Ask) (he : e.few) (ho : e.ok) (hm : mayE e = true)
    (y : CalE Tryz.prog 70 [.ptr 0 [] 0] 3 (prH e b a c e.k.length e.j.length (e.k.map Link.av) (e.j.map Check.av)) (.int .i64 0) [(0, .var (workA f b a c))]) : CalT Tryz.prog 0 tabV 68 [workA e b a c, .fn (.func 70) [] []] (.tup [f.av, .int .i64 0]) := by
  have x1 := may_t e he ho
  rw [hm] at x1
  have o1 := own_o e he
  unfold prH at y
  unfold ownV ownH at o1
  have hR : Tryz.f68.results.toList = [.cell 4 38, .tmp 5] := rfl
  refine calE_tr Tryz.func68 rfl fun E hE hP => ?_
  refine mr ?_
  refine mr ?_
  refine mr ?_
  refine Tr.wk (Wk.frzH [145, 146, 147, 148, 149]) ?_
  simp only [frzHP, frzA, AV.frz, AV.frzL, List.map_cons, List.map_nil, go_sem, seval]
  refine mr ?_
  refine mC ?_
  refine mC ?_
  first | apply tr_m (by rw [hE]; rfl) | (refine Tr.seq ?_; apply tr_m (by rw [hE]; rfl))
  intro Q hQ
  simp only [go_sem, seval]
  refine mV ?_
  (refine vm_op ?_); intro r hr; simp only [go_sem, seval]
  refine call_eff (fun | 0 => 1 | 1 => 150 | 2 => 151 | n => n) [false] [] rfl rfl rfl rfl (enters_of Tryz.func70 (by kernel_rfl) rfl) (y.2) rfl rfl (by repeat' (first | exact rfl | exact trivial | constructor)) rfl rfl rfl ?_
  simp only [renH_nil, renH_cons, effR, go_sem, seval]
  subst hr
  refine mV ?_
  exact hQ
  exact mX
theorem prune26_t (e f : Eng) (i : Int) (x1 : CalT Tryz.prog 0 tabV 68 [workA e zBlock zAtt cz0, .fn (.func 70) [] []] (.tup [f.av, .int .i64 i])) : CalT Tryz.prog 0 tabV 26 [e.av] (.tup [f.av, .int .i64 i]) := by
  have hR : Tryz.f26.results.toList = [.cell 2 38, .tmp 3] := rfl
  refine calE_tr Tryz.func26 rfl fun E hE hP => ?_
  exact mX

theorem more_closed {t : List Node} {l : List Link} {b : List Int} {js : List Check} (h : (moreR t l b js).length = js.length) : (countL t l b).find? (goB js) = none := by
  cases hf : (countL t l b).find? (goB js) with
  | none => rfl
  | some a =>
    have h1 := (moreF_some hf).1
    have h2 : ∀ (n : Nat) (out : List Check), out.length ≤ (moreN (countL t l b) n out).length := fun n => by
      induction n with
      | zero => exact fun out => Nat.le_refl _
      | succ n ih =>
        intro out
        rw [moreN]
        split
        · exact Nat.le_refl _
        · next a _ =>
          have := ih (out ++ [a.t])
          rw [List.length_append, List.length_singleton] at this
          omega
    unfold moreR at h
    rw [h1] at h
    have h3 := h2 (leftN (countL t l b) (js ++ [a.t])) (js ++ [a.t])
    rw [List.length_append, List.length_singleton] at h3
    unfold moreF at h
    omega
theorem closed_use {t : List Node} {l : List Link} {b : List Int} {js : List Check} (h : (countL t l b).find? (goB js) = none) {a : Link} (ha : a ∈ countL t l b) (hs : a.s ∈ js) : a.t ∈ js := by
  have h1 := List.find?_eq_none.1 h a ha
  unfold goB at h1
  rw [decide_eq_true hs, Bool.true_and, Bool.not_eq_true'] at h1
  simpa using h1
theorem lmay_filter {l : List Link} (p : Link → Bool) (h : lmayB l = true) : lmayB (l.filter p) = true := by
  obtain ⟨m1, m2, m3⟩ := may_spec h
  have hap := keys_apart l.length (Nat.le_refl _) m3
  have hp : List.Pairwise (fun a b => keyOf a ≠ keyOf b) l := by
    rw [List.pairwise_iff_getElem]
    intro i j hi hj hij
    exact hap i j _ _ hij hj (List.getElem?_eq_getElem hi) (List.getElem?_eq_getElem hj)
  have hq := hp.sublist (List.filter_sublist (p := p))
  rw [List.pairwise_iff_getElem] at hq
  refine may_of (Nat.le_trans (List.length_filter_le _ _) m1) (fun a ha => m2 a (List.mem_filter.1 ha).1) (places_len fun i j a b hij ha hb => ?_)
  obtain ⟨h1, rfl⟩ := List.getElem?_eq_some_iff.1 ha
  obtain ⟨h2, rfl⟩ := List.getElem?_eq_some_iff.1 hb
  exact hq i j h1 h2 hij

def finI (e : Eng) : Int := findR e.t e.fin.root
theorem prune_cut {e : Eng} (h : mayE e = true) : CutAt e.t (finI e) := by
  obtain ⟨f1, f2, f3, f4, f5, f6, f7, f8, f9, f10, f11⟩ := mayE_all.1 h
  have h0 := (lost_all.1 f8).1 e.fin f6
  have hr := findR_range e.t e.fin.root
  exact ⟨(fit_spec f1).1, h0, by unfold finI; omega⟩
theorem gone_in {e : Eng} (h : mayE e = true) (c : Check) : goneB (rootsT (cutE e)) c = !inC e.t (finI e) c.root := by
  unfold goneB
  congr 1
  have h1 := (prune_cut h).in_roots c.root
  have h2 : (c.root ∈ rootsT (cutE e)) ↔ inC e.t (finI e) c.root = true := h1
  cases hc : inC e.t (finI e) c.root
  · exact decide_eq_false (fun hh => by rw [h2.1 hh] at hc; cases hc)
  · exact decide_eq_true (h2.2 hc)
theorem link_stays {e : Eng} (h : mayE e = true) {a : Link} : a ∈ (pruneE e).k ↔ a ∈ e.k ∧ inC e.t (finI e) a.s.root = true ∧ inC e.t (finI e) a.t.root = true ∧ e.fin.epoch < a.t.epoch := by
  show a ∈ delL (linkGone (rootsT (cutE e)) e.fin.epoch) e.k ↔ _
  unfold delL linkGone
  rw [List.mem_filter, gone_in h, gone_in h]
  cases inC e.t (finI e) a.s.root <;> cases inC e.t (finI e) a.t.root <;> simp
theorem check_stays {e : Eng} (h : mayE e = true) {c : Check} : c ∈ (pruneE e).j ↔ c ∈ e.j ∧ inC e.t (finI e) c.root = true ∧ e.fin.epoch ≤ c.epoch := by
  show c ∈ delL (checkGone (rootsT (cutE e)) e.fin.epoch) e.j ↔ _
  unfold delL checkGone
  rw [List.mem_filter, gone_in h]
  cases inC e.t (finI e) c.root <;> simp
theorem fin_inC {e : Eng} (h : mayE e = true) : inC e.t (finI e) e.fin.root = true := by
  have hc := prune_cut h
  unfold inC
  rw [show findR e.t e.fin.root = finI e from rfl, hc.self, decide_eq_true hc.low]
  rfl
theorem prune_fit {e : Eng} (h : mayE e = true) : fitB (cutE e) (dropE e) e.o e.b = true := by
  obtain ⟨hm, hv, hS, hl⟩ := fit_spec (mayE_all.1 h).1
  have hc := prune_cut h
  unfold fitB
  rw [show mayB (cutE e) = true from hc.may', show vmayB (dropE e) e.o = true from dropL_may hv, hS, decide_eq_true (show (dropE e).length = e.b.length by unfold dropE dropL; rw [List.length_map, hl])]
  rfl
theorem count_cut {e : Eng} (h : mayE e = true) {a : Link} (ha : a ∈ countL (cutE e) (pruneE e).k e.b) : a ∈ (pruneE e).k ∧ a ∈ countL e.t e.k e.b := by
  have hk := countL_in ha
  refine ⟨hk, ?_⟩
  obtain ⟨h1, h2, h3, h4⟩ := (link_stays h).1 hk
  obtain ⟨f1, f2, f3, f4, f5, f6, f7, f8, f9, f10, f11⟩ := mayE_all.1 h
  obtain ⟨hm, hv, hS, hl⟩ := fit_spec f1
  unfold countL at ha ⊢
  rw [show toldR e.t e.k e.b = true by unfold toldR; rw [hm, f4, hS]; rfl, if_pos rfl]
  split at ha
  · have hcb := (List.mem_filter.1 ha).2
    refine List.mem_filter.2 ⟨h1, ?_⟩
    unfold countB at hcb ⊢
    rwa [show behindB (cutE e) a.t a.s = behindB e.t a.t a.s from (prune_cut h).behind h3 h2] at hcb
  · cases ha
theorem may_prune {e : Eng} (h : mayE e = true) : mayE (pruneE e) = true := by
  obtain ⟨f1, f2, f3, f4, f5, f6, f7, f8, f9, f10, f11⟩ := mayE_all.1 h
  have hc := prune_cut h
  have hcl := more_closed f10
  have hfound : ∀ r, inC e.t (finI e) r = true → 0 ≤ findR (cutE e) r := fun r hr => by
    rw [show findR (cutE e) r = _ from hc.find' r, hr, if_pos rfl]
    omega
  refine mayE_all.2 ⟨prune_fit h, rfl, f3, lmay_filter _ f4, f5, (check_stays h).2 ⟨f6, fin_inC h, Int.le_refl _⟩, f7, ?_, f9.sublist List.filter_sublist, ?_, ?_⟩
  · refine lost_all.2 ⟨fun c hc => hfound _ ((check_stays h).1 hc).2.1, fun a ha => ?_, fun x hx hh => ?_⟩
    · obtain ⟨_, h2, h3, _⟩ := (link_stays h).1 ha
      exact ⟨hfound _ h2, hfound _ h3⟩
    · obtain ⟨y, hy, rfl⟩ := List.mem_map.1 hx
      unfold dropX at hh ⊢
      split at hh
      · next hr =>
        rw [if_pos hr]
        exact hfound _ ((hc.in_roots y.root).1 hr)
      · cases hh
  · show (moreR (cutE e) (pruneE e).k e.b (pruneE e).j).length = (pruneE e).j.length
    rw [moreR, moreF_none (List.find?_eq_none.2 fun a ha hg => ?_)]
    obtain ⟨hk, hct⟩ := count_cut h ha
    obtain ⟨_, _, h3, h4⟩ := (link_stays h).1 hk
    obtain ⟨h5, h6⟩ := goB_spec hg
    have h7 := closed_use hcl hct ((check_stays h).1 h5).1
    exact h6 ((check_stays h).2 ⟨h7, h3, by omega⟩)
  · show nextR (cutE e) (pruneE e).k e.b (pruneE e).j e.fin = e.fin
    have htop := (next_top e.t e.fin (finalsR e.t e.k e.b e.j) e.fin).2
    rw [show (finalsR e.t e.k e.b e.j).foldl (nextS e.t e.fin) e.fin = e.fin from f11] at htop
    unfold nextR
    refine foldl_id _ fun c hcf => ?_
    unfold nextS
    refine if_neg fun hh => ?_
    simp only [Bool.and_eq_true, decide_eq_true_eq] at hh
    obtain ⟨hcj, hfin⟩ := List.mem_filter.1 hcf
    obtain ⟨g1, g2, g3⟩ := (check_stays h).1 hcj
    have hb := hh.2.1
    rw [show behindB (cutE e) c e.fin = behindB e.t c e.fin from hc.behind g2 (fin_inC h)] at hb
    have hin : c ∈ finalsR e.t e.k e.b e.j := by
      refine List.mem_filter.2 ⟨g1, ?_⟩
      unfold finB at hfin ⊢
      rw [List.any_eq_true] at hfin ⊢
      obtain ⟨a, ha, hl⟩ := hfin
      obtain ⟨_, hct⟩ := count_cut h ha
      refine ⟨a, hct, ?_⟩
      unfold linkF at hl ⊢
      simp only [Bool.and_eq_true, decide_eq_true_eq] at hl ⊢
      exact ⟨((check_stays h).1 hl.1).1, hl.2⟩
    have := htop c hin hh.1 hb
    omega
theorem prune_wf {e : Eng} (h : mayE e = true) (hw : e.wf) : (pruneE e).wf :=
  ⟨⟨hw.ok.b, fun a ha => hw.ok.kL a ((link_stays h).1 ha).1, fun a ha => hw.ok.kC a ((link_stays h).1 ha).1⟩, hw.o, hw.late, hw.now⟩
theorem prune_few {e : Eng} (h : mayE e = true) (he : e.few) : (pruneE e).few := by
  have hl := (may_len (prune_cut h).may').2
  have hl' : (cutE e).length ≤ 12 := hl
  refine ⟨by show (cutE e).length ≤ 100; omega, he.b, ?_, ?_, he.late, ?_, ?_⟩
  · show (dropE e).length ≤ 100
    unfold dropE dropL
    rw [List.length_map]
    exact he.vl
  · show (weights _ _ _).length ≤ 100
    rw [weights_len]
    omega
  · exact Nat.le_trans (List.length_filter_le _ _) he.k
  · exact Nat.le_trans (List.length_filter_le _ _) he.j

theorem prune_e (e : Eng) (b : Block) (x : Att) (c : Ask) (he : e.few) (hw : e.wf) (hm : mayE e = true) : CalE Tryz.prog 70 [.ptr 0 [] 0] 3 (prH e b x c e.k.length e.j.length (e.k.map Link.av) (e.j.map Check.av)) (.int .i64 0) [(0, .var (workA (pruneE e) b x c))] := by
  obtain ⟨_, hv, _, _⟩ := fit_spec (mayE_all.1 hm).1
  have h1 := he.t
  have h2 := he.vl
  have h3 := he.k
  have h4 := he.j
  have h5 : (cutE e).length ≤ 12 := (may_len (prune_cut hm).may').2
  exact prune_w e b x c (by omega) (by omega) (by omega) (by omega) (by omega) hv hw.ok.b (prune_fit hm)
/-- What may be, in bounds, with arguments in their ranges. -/
structure Fine (e : Eng) : Prop where
  may : mayE e = true
  wf : e.wf
  few : e.few
theorem above_root {t : List Node} (hm : mayB t = true) : ∀ (n k : Nat), k < n → k < t.length → aboveF t 0 k = true
  | 0, k, h, _ => by omega
  | n + 1, k, h, hk => by
    rw [aboveF_step hm (by omega) (by omega)]
    by_cases h0 : k = 0
    · rw [if_pos (by omega)]
    · rw [if_neg (by omega), if_neg (by omega)]
      have hp := may_parent hm hk
      have hpar : parI t k = (t.getD k zNode).parent := by unfold parI; rw [Int.toNat_natCast]
      have h1 := hp.resolve_left (fun hh => h0 hh.2)
      rw [← hpar] at h1
      have := above_root hm n (parI t k).toNat (by omega) (by omega)
      rwa [Int.toNat_of_nonneg h1.1] at this
theorem kept_root {t : List Node} (hm : mayB t = true) {m : Nat} (h : m ≤ t.length) : keptL t 0 m = List.range m := by
  unfold keptL
  rw [List.filter_eq_self]
  intro k hk
  exact above_root hm (k + 1) k (by omega) (by have := List.mem_range.1 hk; omega)
theorem cut_root {t : List Node} (hm : mayB t = true) : cutR t 0 = t := by
  have hl := (may_len hm).1
  have hc : CutAt t 0 := ⟨hm, Int.le_refl _, by omega⟩
  rw [hc.eq, kept_root hm (Nat.le_refl _)]
  refine List.ext_getElem (by simp) fun k h1 h2 => ?_
  rw [List.getElem_map, List.getElem_range]
  have hg := getD_lt h2
  have hp := may_parent hm h2
  have hpar : parI t k = (t.getD k zNode).parent := by unfold parI; rw [Int.toNat_natCast]
  unfold nodeC
  rw [hpar]
  by_cases h0 : k = 0
  · subst h0
    have h3 := (hp.resolve_right (by omega)).1
    rw [if_pos (show ((0 : Nat) : Int) = 0 from rfl)]
    have key : ({ t.getD 0 zNode with parent := -1 } : Node) = t.getD 0 zNode := by rw [← h3]
    exact key.trans hg
  · have h3 := hp.resolve_left (fun hh => h0 hh.2)
    have h4 : phi t 0 (t.getD k zNode).parent.toNat = (t.getD k zNode).parent.toNat := by
      unfold phi
      rw [kept_root hm (by omega), List.length_range]
    rw [if_neg (by omega), h4, Int.toNat_of_nonneg h3.1, hg]
theorem drop_twice (rs : List Root) (vl : List Latest) : dropL rs (dropL rs vl) = dropL rs vl := by
  unfold dropL
  rw [List.map_map]
  refine List.map_congr_left fun x _ => ?_
  show dropX rs (dropX rs x) = dropX rs x
  unfold dropX
  by_cases h : x.root ∈ rs
  · rw [if_pos h, if_pos h]
  · rw [if_neg h]
    split <;> rfl
theorem del_twice {α : Type} (p : α → Bool) (l : List α) : delL p (delL p l) = delL p l := by
  unfold delL
  rw [List.filter_filter]
  simp
theorem prune_again {e : Eng} (h : mayE e = true) : pruneE (pruneE e) = pruneE e := by
  have hc := prune_cut h
  have h0 : findR (cutE e) e.fin.root = 0 := by
    have := hc.find' e.fin.root
    rw [fin_inC h, if_pos rfl] at this
    have h1 : findR (cutE e) e.fin.root = (phi e.t (finI e) (finI e).toNat : Int) := this
    rw [h1, phi_first hc.may (Int.toNat_of_nonneg hc.low) (by have := hc.high; have := hc.low; omega)]
    rfl
  have hcut : cutE (pruneE e) = cutE e := by
    show cutR (cutE e) (findR (cutE e) e.fin.root) = cutE e
    rw [h0]
    exact cut_root hc.may'
  have hdrop : dropE (pruneE e) = dropE e := by
    show dropL (rootsT (cutE (pruneE e))) (dropL (rootsT (cutE e)) e.vl) = _
    rw [hcut, drop_twice]
    rfl
  unfold pruneE at hcut hdrop ⊢
  simp only at hcut hdrop ⊢
  rw [hcut, hdrop, del_twice, del_twice]

theorem behind_in {e : Eng} {c : Check} (hb : behindB e.t c e.fin = true) : inC e.t (finI e) c.root = true := by
  obtain ⟨_, _, h3, h4⟩ := above_spec.1 (show aboveR e.t (findR e.t e.fin.root) (findR e.t c.root) = true from hb)
  unfold inC
  rw [decide_eq_true h3.1, Bool.true_and]
  exact h4
theorem best_prune_fold {e : Eng} (h : mayE e = true) : ∀ (js : List Check) (o : Check), e.fin.epoch ≤ o.epoch → js.foldl (bestS e.t e.fin) o = (delL (checkGone (rootsT (cutE e)) e.fin.epoch) js).foldl (bestS (cutE e) e.fin) o
  | [], _, _ => rfl
  | c :: js, o, ho => by
    have hge : e.fin.epoch ≤ (bestS e.t e.fin o c).epoch := by
      unfold bestS
      split
      · next hh =>
        simp only [Bool.and_eq_true, betterB, Bool.or_eq_true, decide_eq_true_eq] at hh
        omega
      · exact ho
    have ih := best_prune_fold h js (bestS e.t e.fin o c) hge
    rw [List.foldl_cons, ih]
    unfold delL
    rw [List.filter_cons]
    unfold checkGone
    rw [gone_in h]
    by_cases hin : inC e.t (finI e) c.root = true
    · by_cases hep : c.epoch < e.fin.epoch
      · have hs : bestS e.t e.fin o c = o := by
          unfold bestS
          refine if_neg fun hh => ?_
          simp only [Bool.and_eq_true, betterB, Bool.or_eq_true, decide_eq_true_eq] at hh
          omega
        rw [hin, decide_eq_true hep, hs]
        rfl
      · have hs : bestS (cutE e) e.fin o c = bestS e.t e.fin o c := by
          unfold bestS
          rw [show behindB (cutE e) c e.fin = behindB e.t c e.fin from (prune_cut h).behind hin (fin_inC h)]
        rw [hin, decide_eq_false hep]
        simp only [Bool.not_true, Bool.or_false, Bool.not_false, if_true, List.foldl_cons, hs]
    · have hin' : inC e.t (finI e) c.root = false := by simpa using hin
      have hs : bestS e.t e.fin o c = o := by
        unfold bestS
        refine if_neg fun hh => ?_
        rw [Bool.and_eq_true] at hh
        rw [behind_in hh.1] at hin'
        cases hin'
      rw [hin', hs]
      rfl
theorem best_prune {e : Eng} (h : mayE e = true) : bestR (cutE e) (pruneE e).j e.fin = bestR e.t e.j e.fin := (best_prune_fold h e.j e.fin (Int.le_refl _)).symm

section
variable {t : List Node} {i : Int}
theorem CutAt.slot (h : CutAt t i) {k : Nat} (hk : k < t.length) (ha : aboveF t i k = true) : slotI (cutR t i) (phi t i k : Nat) = slotI t k := by
  unfold slotI
  rw [Int.toNat_natCast, (h.at hk ha).2, Int.toNat_natCast]
  rfl
theorem slot_par (hm : mayB t = true) {k : Nat} (hk : k < t.length) (hp : 0 ≤ parI t k) : slotI t (parI t k) < slotI t k := by
  have hf := (mayT_spec.1 hm).2.1 k hk
  have hpar : parI t k = (t.getD k zNode).parent := by unfold parI; rw [Int.toNat_natCast]
  rw [fits_at hk] at hf
  split at hf
  · simp only [Bool.and_eq_true, decide_eq_true_eq] at hf
    rw [hpar] at hp
    omega
  · simp only [Bool.and_eq_true, decide_eq_true_eq] at hf
    unfold slotI
    rw [hpar, Int.toNat_natCast]
    exact hf.2
theorem CutAt.slot_ge (h : CutAt t i) : ∀ (n k : Nat), k < n → k < t.length → aboveF t i k = true → slotI t i ≤ slotI t k
  | 0, k, hn, _, _ => by omega
  | n + 1, k, hn, hk, ha => by
    by_cases hki : (k : Int) = i
    · rw [hki]; exact Int.le_refl _
    · obtain ⟨p0, p1, p2⟩ := h.kept_par hk ha hki
      have h1 := h.slot_ge n (parI t k).toNat (by omega) (by omega) p2
      have h2 := slot_par h.may hk p0
      rw [Int.toNat_of_nonneg p0] at h1
      omega
theorem CutAt.atF_in (h : CutAt t i) {s : Int} (hs : slotI t i ≤ s) : ∀ (n k : Nat), k < n → k < t.length → aboveF t i k = true → ∃ q : Nat, q < t.length ∧ aboveF t i q = true ∧ atF t s k = q ∧ atF (cutR t i) s (phi t i k : Nat) = (phi t i q : Nat)
  | 0, k, hn, _, _ => by omega
  | n + 1, k, hn, hk, ha => by
    have hlt := (h.at hk ha).1
    rw [atF_step h.may (by omega) (by omega), atF_step h.may' (by omega) (by omega), h.slot hk ha]
    by_cases hsk : slotI t k ≤ s
    · rw [if_pos hsk, if_pos hsk]
      exact ⟨k, hk, ha, rfl, rfl⟩
    · have hki : (k : Int) ≠ i := fun hh => hsk (by rw [hh]; exact hs)
      obtain ⟨p0, p1, p2⟩ := h.kept_par hk ha hki
      rw [if_neg hsk, if_neg hsk, h.par hk ha, if_neg hki]
      obtain ⟨q, q1, q2, q3, q4⟩ := h.atF_in hs n (parI t k).toNat (by omega) (by omega) p2
      rw [Int.toNat_of_nonneg p0] at q3
      exact ⟨q, q1, q2, q3, q4⟩
theorem CutAt.atF_out (h : CutAt t i) {s : Int} (hs : s < slotI t i) : ∀ (n k : Nat), k < n → k < t.length → aboveF t i k = true → atF (cutR t i) s (phi t i k : Nat) = -1
  | 0, k, hn, _, _ => by omega
  | n + 1, k, hn, hk, ha => by
    have hlt := (h.at hk ha).1
    have h1 := h.slot_ge (k + 1) k (by omega) hk ha
    rw [atF_step h.may' (by omega) (by omega), h.slot hk ha, if_neg (by omega), h.par hk ha]
    by_cases hki : (k : Int) = i
    · rw [if_pos hki]
      rfl
    · obtain ⟨p0, p1, p2⟩ := h.kept_par hk ha hki
      rw [if_neg hki]
      exact h.atF_out hs n (parI t k).toNat (by omega) (by omega) p2
end

theorem epru_no (e : Eng) (he : fewE e = false ∨ e.ok) (a b s : Int) (h : fewE e = false ∨ (fewE e = true ∧ (mayE e = false ∨ (mayE e = true ∧ (a < 0 ∨ (¬ a < 0 ∧ (b < 0 ∨ (¬ b < 0 ∧ ((e.t.length : Int) ≤ a ∨ (¬ (e.t.length : Int) ≤ a ∧ (e.t.length : Int) ≤ b)))))))))) : CalT Tryz.prog 0 tabV 12 [e.av, .int .i64 a, .int .i64 b, .int .u64 s] (.bool true) := by
  have x1 := awake17_t
  have c1 := few_c e
  rcases h with h | ⟨h1, h⟩
  · rw [h] at c1
    have hR : Tryz.f12.results.toList = [.tmp 8] := rfl
    refine calE_tr Tryz.func12 rfl fun E hE hP => ?_
    exact mX
  · have ho := he.resolve_left (by rw [h1]; decide)
    have x2 := may_t e (fewE_few h1) ho
    rw [h1] at c1
    rcases h with h2 | ⟨h2, h⟩
    · rw [h2] at x2
      have hR : Tryz.f12.results.toList = [.tmp 8] := rfl
      refine calE_tr Tryz.func12 rfl fun E hE hP => ?_
      exact mX
    · rw [h2] at x2
      rcases h with h3 | ⟨h3, h⟩
      · have e1 : decide (a < 0) = true := decide_eq_true h3
        have ff := e1
        have hR : Tryz.f12.results.toList = [.tmp 8] := rfl
        refine calE_tr Tryz.func12 rfl fun E hE hP => ?_
        exact mX
      · have e1 : decide (a < 0) = false := decide_eq_false h3
        rcases h with h4 | ⟨h4, h⟩
        · have e2 : decide (b < 0) = true := decide_eq_true h4
          have ff := And.intro e1 e2
          have hR : Tryz.f12.results.toList = [.tmp 8] := rfl
          refine calE_tr Tryz.func12 rfl fun E hE hP => ?_
          exact mX
        · have e2 : decide (b < 0) = false := decide_eq_false h4
          rcases h with h5 | ⟨h5, h⟩
          · have e3 : decide ((e.t.length : Int) ≤ a) = true := decide_eq_true h5
            have ff := And.intro e1 (And.intro e2 e3)
            have hR : Tryz.f12.results.toList = [.tmp 8] := rfl
            refine calE_tr Tryz.func12 rfl fun E hE hP => ?_
            exact mX
          · have e3 : decide ((e.t.length : Int) ≤ a) = false := decide_eq_false h5
            have e4 : decide ((e.t.length : Int) ≤ b) = true := decide_eq_true h
            have ff := And.intro e1 (And.intro e2 (And.intro e3 e4))
            have hR : Tryz.f12.results.toList = [.tmp 8] := rfl
            refine calE_tr Tryz.func12 rfl fun E hE hP => ?_
            exact mX
set_option maxHeartbeats 4000000 in
theorem epru_w1 (e f : Eng) (a b s F X Y : Int) (na nb : Node) (B : Bool) (J : Check) (ha0 : decide (a < 0) = false) (hb0 : decide (b < 0) = false) (ha1 : decide ((e.t.length : Int) ≤ a) = false) (hb1 : decide ((e.t.length : Int) ≤ b) = false)
    (hn1 : nth (e.t.map Node.av) a = some na.av) (hn2 : nth (e.t.map Node.av) b = some nb.av) (c1 : Cal Tryz.prog 14 [e.av] (.bool true)) (x2 : CalT Tryz.prog 0 tabV 24 [e.av] (.bool true))
    (x3 : CalT Tryz.prog 0 tabV 26 [e.av] (.tup [f.av, .int .i64 0])) (x4 : CalT Tryz.prog 0 tabV 26 [f.av] (.tup [f.av, .int .i64 0])) (c2 : Cal Tryz.prog 27 [tav e.t, .root e.fin.root] (.int .i64 F)) (c3 : Cal Tryz.prog 27 [tav f.t, .root na.root] (.int .i64 X)) (c4 : Cal Tryz.prog 27 [tav f.t, .root nb.root] (.int .i64 Y))
    (c5 : Cal Tryz.prog 33 [f.av, f.av] (.bool true)) (c6 : Cal Tryz.prog 39 [tav e.t, .int .i64 F, .int .i64 a] (.bool B)) (c7 : Cal Tryz.prog 41 [tav f.t, checks f.j, f.fin.av] J.av) (c8 : Cal Tryz.prog 41 [tav e.t, checks e.j, e.fin.av] J.av) (hfin : decide (f.fin = e.fin) = true) (hX : decide (0 ≤ X) = B) (h : X < 0 ∨ (¬ X < 0 ∧ Y < 0)) :
    CalT Tryz.prog 0 tabV 12 [e.av, .int .i64 a, .int .i64 b, .int .u64 s] (.bool true) := by
  have x1 := awake17_t
  have hJ : decide (J = J) = true := decide_eq_true rfl
  rcases h with h | ⟨h, h'⟩
  · have e1 : decide (X < 0) = true := decide_eq_true h
    cases B
    · have ff := And.intro ha0 (And.intro hb0 (And.intro ha1 (And.intro hb1 (And.intro hn1 (And.intro hn2 (And.intro hfin (And.intro hX (And.intro e1 hJ))))))))
      have hR : Tryz.f12.results.toList = [.tmp 8] := rfl
      refine calE_tr Tryz.func12 rfl fun E hE hP => ?_
      exact mX
    · exact absurd (of_decide_eq_true hX) (by omega)
  · have e1 : decide (X < 0) = false := decide_eq_false h
    have e2 : decide (Y < 0) = true := decide_eq_true h'
    cases B
    · exact absurd (of_decide_eq_false hX) (by omega)
    · have ff := And.intro ha0 (And.intro hb0 (And.intro ha1 (And.intro hb1 (And.intro hn1 (And.intro hn2 (And.intro hfin (And.intro hX (And.intro e1 (And.intro e2 hJ)))))))))
      have hR : Tryz.f12.results.toList = [.tmp 8] := rfl
      refine calE_tr Tryz.func12 rfl fun E hE hP => ?_
      exact mX
set_option maxHeartbeats 8000000 in
theorem epru_w2 (e f : Eng) (a b s F X Y P Q v : Int) (na nb nf : Node) (B : Bool) (J : Check) (ha0 : decide (a < 0) = false) (hb0 : decide (b < 0) = false) (ha1 : decide ((e.t.length : Int) ≤ a) = false) (hb1 : decide ((e.t.length : Int) ≤ b) = false)
    (hn1 : nth (e.t.map Node.av) a = some na.av) (hn2 : nth (e.t.map Node.av) b = some nb.av) (hn3 : nth (e.t.map Node.av) F = some nf.av) (c1 : Cal Tryz.prog 14 [e.av] (.bool true)) (x2 : CalT Tryz.prog 0 tabV 24 [e.av] (.bool true))
    (x3 : CalT Tryz.prog 0 tabV 26 [e.av] (.tup [f.av, .int .i64 0])) (x4 : CalT Tryz.prog 0 tabV 26 [f.av] (.tup [f.av, .int .i64 0])) (c2 : Cal Tryz.prog 27 [tav e.t, .root e.fin.root] (.int .i64 F)) (c3 : Cal Tryz.prog 27 [tav f.t, .root na.root] (.int .i64 X)) (c4 : Cal Tryz.prog 27 [tav f.t, .root nb.root] (.int .i64 Y))
    (c5 : Cal Tryz.prog 33 [f.av, f.av] (.bool true)) (c6 : Cal Tryz.prog 39 [tav e.t, .int .i64 F, .int .i64 a] (.bool true)) (c7 : Cal Tryz.prog 41 [tav f.t, checks f.j, f.fin.av] J.av) (c8 : Cal Tryz.prog 41 [tav e.t, checks e.j, e.fin.av] J.av) (hfin : decide (f.fin = e.fin) = true) (hX : decide (0 ≤ X) = true) (hX2 : decide (X < 0) = false) (hY : decide (Y < 0) = false)
    (hw1 : decide ((f.w.length : Int) ≤ X) = false) (hw2 : decide ((e.w.length : Int) ≤ a) = false) (hv1 : nth (f.w.map uav) X = some (.int .u64 v)) (hv2 : nth (e.w.map uav) a = some (.int .u64 v)) (d1 : Cal Tryz.prog 39 [tav f.t, .int .i64 X, .int .i64 Y] (.bool B)) (d2 : Cal Tryz.prog 39 [tav e.t, .int .i64 a, .int .i64 b] (.bool B))
    (d3 : Cal Tryz.prog 42 [tav f.t, .int .i64 X, .int .u64 s] (.int .i64 P)) (d4 : Cal Tryz.prog 42 [tav e.t, .int .i64 a, .int .u64 s] (.int .i64 Q))
    (h : s < nf.slot ∧ P = -1 ∨ ¬ s < nf.slot ∧ ∃ np nq : Node, 0 ≤ P ∧ P < f.t.length ∧ 0 ≤ Q ∧ Q < e.t.length ∧ nth (f.t.map Node.av) P = some np.av ∧ nth (e.t.map Node.av) Q = some nq.av ∧ np.root = nq.root) :
    CalT Tryz.prog 0 tabV 12 [e.av, .int .i64 a, .int .i64 b, .int .u64 s] (.bool true) := by
  have x1 := awake17_t
  have hJ : decide (J = J) = true := decide_eq_true rfl
  have hv : decide (v = v) = true := decide_eq_true rfl
  have ff := And.intro ha0 (And.intro hb0 (And.intro ha1 (And.intro hb1 (And.intro hn1 (And.intro hn2 (And.intro hfin (And.intro hX (And.intro hX2 (And.intro hY hJ)))))))))
  have hR : Tryz.f12.results.toList = [.tmp 8] := rfl
  refine calE_tr Tryz.func12 rfl fun E hE hP => ?_
  refine mW ?_
  clear c1 c2 c3 c4 c5 c6 c7 c8
  have c1 := d1
  have c2 := d2
  have c3 := d3
  have c4 := d4
  rcases h with ⟨h, hP⟩ | ⟨h, np, nq, p0, p1, q0, q1, hp, hq, hr⟩
  · have e1 : decide (s < nf.slot) = true := decide_eq_true h
    have e2 : decide (P = -1) = true := decide_eq_true hP
    have ff := And.intro hw1 (And.intro hw2 (And.intro hv1 (And.intro hv2 (And.intro hv (And.intro hn3 (And.intro e1 e2))))))
    cases B
    · exact mX
    · exact mX
  · have e1 : decide (s < nf.slot) = false := decide_eq_false h
    have g1 : decide (0 ≤ P) = true := decide_eq_true p0
    have g2 : decide (P < (f.t.length : Int)) = true := decide_eq_true p1
    have g3 : decide (0 ≤ Q) = true := decide_eq_true q0
    have g4 : decide (Q < (e.t.length : Int)) = true := decide_eq_true q1
    have g5 : decide (np.root = nq.root) = true := decide_eq_true hr
    have ff := And.intro hw1 (And.intro hw2 (And.intro hv1 (And.intro hv2 (And.intro hv (And.intro hn3 (And.intro e1 (And.intro g1 (And.intro g2 (And.intro g3 (And.intro g4 (And.intro g5 (And.intro hp hq))))))))))))
    cases B
    · exact mX
    · exact mX

theorem prune_t (e : Eng) (he : e.few) (hw : e.wf) (hm : mayE e = true) : CalT Tryz.prog 0 tabV 26 [e.av] (.tup [(pruneE e).av, .int .i64 0]) :=
  prune26_t e _ 0 (do_pru e _ zBlock zAtt cz0 he hw.ok hm (prune_e e zBlock zAtt cz0 he hw hm))
theorem aboveR_in {t : List Node} (hm : mayB t = true) {i k : Nat} (hi : i < t.length) (hk : k < t.length) : aboveR t i k = aboveF t i k := by
  unfold aboveR
  rw [isB_in hm, decide_eq_true (show 0 ≤ (i : Int) ∧ (i : Int) < (t.length : Int) by omega), decide_eq_true (show 0 ≤ (k : Int) ∧ (k : Int) < (t.length : Int) by omega)]
  rfl
theorem nth_wav {w : List Int} {k : Nat} (h : k < w.length) : nth (w.map uav) (k : Int) = some (.int .u64 (w.getD k 0)) := by
  rw [nth_map_lt uav w k h, List.getD_eq_getElem?_getD, List.getElem?_eq_getElem h]
  rfl
theorem find_prune {e : Eng} (h : mayE e = true) {k : Nat} (hk : k < e.t.length) : findR (cutE e) (e.t.getD k zNode).root = if aboveF e.t (finI e) k = true then (phi e.t (finI e) k : Int) else -1 := by
  have hc := prune_cut h
  have h1 : findR (cutE e) (e.t.getD k zNode).root = _ := hc.find (e.t.getD k zNode).root
  rw [h1, find_self hc.may hk, Int.toNat_natCast]
  cases aboveF e.t (finI e) k <;> simp
theorem epru_t (e : Eng) (hw : e.wf) (a b s : Int) : CalT Tryz.prog 0 tabV 12 [e.av, .int .i64 a, .int .i64 b, .int .u64 s] (.bool true) := by
  cases h1 : fewE e
  · exact epru_no e (.inl h1) a b s (.inl h1)
  cases h2 : mayE e
  · exact epru_no e (.inr hw.ok) a b s (.inr ⟨h1, .inl h2⟩)
  by_cases h3 : a < 0
  · exact epru_no e (.inr hw.ok) a b s (.inr ⟨h1, .inr ⟨h2, .inl h3⟩⟩)
  by_cases h4 : b < 0
  · exact epru_no e (.inr hw.ok) a b s (.inr ⟨h1, .inr ⟨h2, .inr ⟨h3, .inl h4⟩⟩⟩)
  by_cases h5 : (e.t.length : Int) ≤ a
  · exact epru_no e (.inr hw.ok) a b s (.inr ⟨h1, .inr ⟨h2, .inr ⟨h3, .inr ⟨h4, .inl h5⟩⟩⟩⟩)
  by_cases h6 : (e.t.length : Int) ≤ b
  · exact epru_no e (.inr hw.ok) a b s (.inr ⟨h1, .inr ⟨h2, .inr ⟨h3, .inr ⟨h4, .inr ⟨h5, h6⟩⟩⟩⟩⟩)
  have he := fewE_few h1
  have c1 := few_c e
  rw [h1] at c1
  have x2 := may_t e he hw.ok
  rw [h2] at x2
  have x3 := prune_t e he hw h2
  have hmp := may_prune h2
  have hfp := prune_few h2 he
  have x4 := prune_t (pruneE e) hfp (prune_wf h2 hw) hmp
  rw [prune_again h2] at x4
  have hc := prune_cut h2
  have hlow := hc.low
  have hhigh := hc.high
  obtain ⟨i, hi⟩ : ∃ i : Nat, finI e = i := ⟨(finI e).toNat, by omega⟩
  obtain ⟨a, rfl⟩ : ∃ k : Nat, a = k := ⟨a.toNat, by omega⟩
  obtain ⟨b, rfl⟩ : ∃ k : Nat, b = k := ⟨b.toNat, by omega⟩
  have ha : a < e.t.length := by omega
  have hb : b < e.t.length := by omega
  have c2 := And.intro (enters_of Tryz.func27 (by kernel_rfl) rfl) (find_pure e.t e.fin.root)
  rw [show findR e.t e.fin.root = finI e from rfl] at c2
  have c3 := And.intro (enters_of Tryz.func27 (by kernel_rfl) rfl) (find_pure (cutE e) (e.t.getD a zNode).root)
  have c4 := And.intro (enters_of Tryz.func27 (by kernel_rfl) rfl) (find_pure (cutE e) (e.t.getD b zNode).root)
  rw [find_prune h2 ha] at c3
  rw [find_prune h2 hb] at c4
  have c5 := esame_c (pruneE e) hfp
  have c6 := And.intro (enters_of Tryz.func39 (by kernel_rfl) rfl) (above_pure e.t (finI e) (a : Int))
  have hjl := hfp.j
  have hjl2 := he.j
  have c7 := And.intro (enters_of Tryz.func41 (by kernel_rfl) rfl) (best_pure (cutE e) (pruneE e).j e.fin (by omega))
  have c8 := And.intro (enters_of Tryz.func41 (by kernel_rfl) rfl) (best_pure e.t e.j e.fin (by omega))
  rw [best_prune h2] at c7
  have hBa : aboveR e.t (finI e) (a : Int) = aboveF e.t (finI e) a := by
    rw [hi]
    exact aboveR_in hc.may (by omega) ha
  rw [hBa] at c6
  have hn1 := nth_node ha
  have hn2 := nth_node hb
  have hfin : decide ((pruneE e).fin = e.fin) = true := decide_eq_true rfl
  by_cases hka : aboveF e.t (finI e) a = true
  · rw [if_pos hka] at c3
    by_cases hkb : aboveF e.t (finI e) b = true
    · rw [if_pos hkb] at c4
      obtain ⟨g1, g2⟩ := hc.at ha hka
      obtain ⟨g3, g4⟩ := hc.at hb hkb
      have hwt := (mayE_all.1 h2).2.1
      have hwl : e.w.length = e.t.length := by rw [← hwt, weights_len]
      have hpw : (pruneE e).w = resW e.t (finI e) e.w := by
        rw [← hwt]
        exact hc.weights e.vl e.b
      have hpl : (pruneE e).w.length = (cutE e).length := by
        rw [hpw]
        exact hc.resLen e.w
      have hv1 : nth ((pruneE e).w.map uav) (phi e.t (finI e) a : Int) = some (.int .u64 (e.w.getD a 0)) := by
        rw [nth_wav (by rw [hpl]; exact g1), hpw, resW_at e.w ha hka]
      have hv2 : nth (e.w.map uav) (a : Int) = some (.int .u64 (e.w.getD a 0)) := nth_wav (by omega)
      have d1 := And.intro (enters_of Tryz.func39 (by kernel_rfl) rfl) (above_pure (cutE e) (phi e.t (finI e) a : Int) (phi e.t (finI e) b : Int))
      rw [show aboveR (cutE e) (phi e.t (finI e) a : Int) (phi e.t (finI e) b : Int) = aboveR e.t a b from hc.aboveR ha hb hka hkb] at d1
      have d2 := And.intro (enters_of Tryz.func39 (by kernel_rfl) rfl) (above_pure e.t (a : Int) (b : Int))
      have d3 := at_c (cutE e) (phi e.t (finI e) a : Int) s
      have d4 := at_c e.t (a : Int) s
      have hn3 := nth_node (t := e.t) (k := i) (by omega)
      rw [← hi] at hn3
      rw [hka] at c6
      have hslot : slotI e.t (finI e) = (e.t.getD i zNode).slot := by
        unfold slotI
        rw [hi, Int.toNat_natCast]
      have hP := atR_in hc.may' (a := (phi e.t (finI e) a : Int)) (s := s) (by omega) (by omega)
      have hQ := atR_in hc.may (a := (a : Int)) (s := s) (by omega) (by omega)
      rw [show atR (cutE e) (phi e.t (finI e) a : Int) s = _ from hP] at d3
      rw [hQ] at d4
      refine epru_w2 e (pruneE e) a b s (finI e) _ _ _ _ (e.w.getD a 0) _ _ _ _ _ (decide_eq_false h3) (decide_eq_false h4) (decide_eq_false h5) (decide_eq_false h6) hn1 hn2 hn3 c1 x2 x3 x4 c2 c3 c4 c5 c6 c7 c8 hfin (decide_eq_true (by omega)) (decide_eq_false (by omega)) (decide_eq_false (by omega)) (decide_eq_false (by rw [hpl]; have : phi e.t (finI e) a < (cutE e).length := g1; omega)) (decide_eq_false (by omega)) hv1 hv2 d1 d2 d3 d4 ?_
      by_cases hs : s < (e.t.getD i zNode).slot
      · exact .inl ⟨hs, hc.atF_out (by rw [hslot]; exact hs) (a + 1) a (by omega) ha hka⟩
      · obtain ⟨q, q1, q2, q3, q4⟩ := hc.atF_in (s := s) (by rw [hslot]; omega) (a + 1) a (by omega) ha hka
        obtain ⟨q5, q6⟩ := hc.at q1 q2
        have q4' : atF (cutE e) s (phi e.t (finI e) a : Nat) = (phi e.t (finI e) q : Nat) := q4
        refine .inr ⟨hs, (cutE e).getD (phi e.t (finI e) q) zNode, e.t.getD q zNode, ?_⟩
        rw [show atF (cutR e.t (finI e)) s (phi e.t (finI e) a : Nat) = (phi e.t (finI e) q : Nat) from q4, q3]
        refine ⟨by omega, by show _ < ((cutE e).length : Int); have : phi e.t (finI e) q < (cutE e).length := q5; omega, by omega, by omega, nth_node q5, nth_node q1, ?_⟩
        rw [show (cutE e).getD (phi e.t (finI e) q) zNode = nodeC e.t (finI e) q from q6]
        rfl
    · rw [if_neg hkb] at c4
      exact epru_w1 e (pruneE e) a b s (finI e) _ _ _ _ _ _ (decide_eq_false h3) (decide_eq_false h4) (decide_eq_false h5) (decide_eq_false h6) hn1 hn2 c1 x2 x3 x4 c2 c3 c4 c5 c6 c7 c8 hfin (by rw [hka]; exact decide_eq_true (by omega)) (.inr ⟨by omega, by omega⟩)
  · rw [if_neg hka] at c3
    have hka' : aboveF e.t (finI e) a = false := by simpa using hka
    exact epru_w1 e (pruneE e) a b s (finI e) _ _ _ _ _ _ (decide_eq_false h3) (decide_eq_false h4) (decide_eq_false h5) (decide_eq_false h6) hn1 hn2 c1 x2 x3 x4 c2 c3 c4 c5 c6 c7 c8 hfin (by rw [hka']; rfl) (.inl (by omega))
end Go.Proofs.YtgnidooihignfaaGreatDoor

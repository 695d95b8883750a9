/- Engines: what is called, in all its kinds. -/
import Derived.Test.YtgnidooihignfaaGreatDoorP10
import Derived.Test.YtgnidooihignfaaGreatDoorP7
import Derived.Test.YtgnidooihignfaaGreatDoorP6
import Derived.Test.YtgnidooihignfaaGreatDoorP3
set_option linter.unusedSimpArgs false
set_option maxRecDepth 10000
namespace Go.Proofs.YtgnidooihignfaaGreatDoor
open Go Go.Ab

theorem do_pru (e f : Eng) (b : Block) (a : Att) (c : Ask) (he : e.few) (ho : e.ok) (hm : mayE e = true)
    (y : CalE Tryz.prog 70 [.ptr 0 [] 0] 3 (prH e b a c e.k.length e.j.length (e.k.map Link.av) (e.j.map Check.av)) (.int .i64 0) [(0, .var (workA f b a c))]) : CalT Tryz.prog 0 tabV 68 [workA e b a c, .fn (.func 70) [] []] (.tup [f.av, .int .i64 0]) := by
  have x1 := may_t e he ho
  rw [hm] at x1
  have o1 := own_o e he
  unfold prH at y
  unfold ownV ownH at o1
  have hR : Tryz.f68.results.toList = [.cell 4 38, .tmp 5] := rfl
  refine calE_tr Tryz.func68 rfl fun E hE hP => ?_
  refine mr ?_
  refine mr ?_
  refine mr ?_
  refine Tr.wk (Wk.frzH [145, 146, 147, 148, 149]) ?_
  simp only [frzHP, frzA, AV.frz, AV.frzL, List.map_cons, List.map_nil, go_sem, seval]
  refine mr ?_
  refine mC ?_
  refine mC ?_
  first | apply tr_m (by rw [hE]; rfl) | (refine Tr.seq ?_; apply tr_m (by rw [hE]; rfl))
  intro Q hQ
  simp only [go_sem, seval]
  refine mV ?_
  (refine vm_op ?_); intro r hr; simp only [go_sem, seval]
  refine call_eff (fun | 0 => 1 | 1 => 150 | 2 => 151 | n => n) [false] [] rfl rfl rfl rfl (enters_of Tryz.func70 (by kernel_rfl) rfl) (y.2) rfl rfl (by repeat' (first | exact rfl | exact trivial | constructor)) rfl rfl rfl ?_
  simp only [renH_nil, renH_cons, effR, go_sem, seval]
  subst hr
  refine mV ?_
  exact hQ
  exact mX
theorem prune26_t (e f : Eng) (i : Int) (x1 : CalT Tryz.prog 0 tabV 68 [workA e zBlock zAtt cz0, .fn (.func 70) [] []] (.tup [f.av, .int .i64 i])) : CalT Tryz.prog 0 tabV 26 [e.av] (.tup [f.av, .int .i64 i]) := by
  have hR : Tryz.f26.results.toList = [.cell 2 38, .tmp 3] := rfl
  refine calE_tr Tryz.func26 rfl fun E hE hP => ?_
  exact mX

theorem more_closed {t : List Node} {l : List Link} {b : List Int} {js : List Check} (h : (moreR t l b js).length = js.length) : (countL t l b).find? (goB js) = none := by
  cases hf : (countL t l b).find? (goB js) with
  | none => rfl
  | some a =>
    have h1 := (moreF_some hf).1
    have h2 : ∀ (n : Nat) (out : List Check), out.length ≤ (moreN (countL t l b) n out).length := fun n => by
      induction n with
      | zero => exact fun out => Nat.le_refl _
      | succ n ih =>
        intro out
        rw [moreN]
        split
        · exact Nat.le_refl _
        · next a _ =>
          have := ih (out ++ [a.t])
          rw [List.length_append, List.length_singleton] at this
          omega
    unfold moreR at h
    rw [h1] at h
    have h3 := h2 (leftN (countL t l b) (js ++ [a.t])) (js ++ [a.t])
    rw [List.length_append, List.length_singleton] at h3
    unfold moreF at h
    omega
theorem closed_use {t : List Node} {l : List Link} {b : List Int} {js : List Check} (h : (countL t l b).find? (goB js) = none) {a : Link} (ha : a ∈ countL t l b) (hs : a.s ∈ js) : a.t ∈ js := by
  have h1 := List.find?_eq_none.1 h a ha
  unfold goB at h1
  rw [decide_eq_true hs, Bool.true_and, Bool.not_eq_true'] at h1
  simpa using h1
theorem lmay_filter {l : List Link} (p : Link → Bool) (h : lmayB l = true) : lmayB (l.filter p) = true := by
  obtain ⟨m1, m2, m3⟩ := may_spec h
  have hap := keys_apart l.length (Nat.le_refl _) m3
  have hp : List.Pairwise (fun a b => keyOf a ≠ keyOf b) l := by
    rw [List.pairwise_iff_getElem]
    intro i j hi hj hij
    exact hap i j _ _ hij hj (List.getElem?_eq_getElem hi) (List.getElem?_eq_getElem hj)
  have hq := hp.sublist (List.filter_sublist (p := p))
  rw [List.pairwise_iff_getElem] at hq
  refine may_of (Nat.le_trans (List.length_filter_le _ _) m1) (fun a ha => m2 a (List.mem_filter.1 ha).1) (places_len fun i j a b hij ha hb => ?_)
  obtain ⟨h1, rfl⟩ := List.getElem?_eq_some_iff.1 ha
  obtain ⟨h2, rfl⟩ := List.getElem?_eq_some_iff.1 hb
  exact hq i j h1 h2 hij

def finI (e : Eng) : Int := findR e.t e.fin.root
theorem prune_cut {e : Eng} (h : mayE e = true) : CutAt e.t (finI e) := by
  obtain ⟨f1, f2, f3, f4, f5, f6, f7, f8, f9, f10, f11⟩ := mayE_all.1 h
  have h0 := (lost_all.1 f8).1 e.fin f6
  have hr := findR_range e.t e.fin.root
  exact ⟨(fit_spec f1).1, h0, by unfold finI; omega⟩
theorem gone_in {e : Eng} (h : mayE e = true) (c : Check) : goneB (rootsT (cutE e)) c = !inC e.t (finI e) c.root := by
  unfold goneB
  congr 1
  have h1 := (prune_cut h).in_roots c.root
  have h2 : (c.root ∈ rootsT (cutE e)) ↔ inC e.t (finI e) c.root = true := h1
  cases hc : inC e.t (finI e) c.root
  · exact decide_eq_false (fun hh => by rw [h2.1 hh] at hc; cases hc)
  · exact decide_eq_true (h2.2 hc)
theorem link_stays {e : Eng} (h : mayE e = true) {a : Link} : a ∈ (pruneE e).k ↔ a ∈ e.k ∧ inC e.t (finI e) a.s.root = true ∧ inC e.t (finI e) a.t.root = true ∧ e.fin.epoch < a.t.epoch := by
  show a ∈ delL (linkGone (rootsT (cutE e)) e.fin.epoch) e.k ↔ _
  unfold delL linkGone
  rw [List.mem_filter, gone_in h, gone_in h]
  cases inC e.t (finI e) a.s.root <;> cases inC e.t (finI e) a.t.root <;> simp
theorem check_stays {e : Eng} (h : mayE e = true) {c : Check} : c ∈ (pruneE e).j ↔ c ∈ e.j ∧ inC e.t (finI e) c.root = true ∧ e.fin.epoch ≤ c.epoch := by
  show c ∈ delL (checkGone (rootsT (cutE e)) e.fin.epoch) e.j ↔ _
  unfold delL checkGone
  rw [List.mem_filter, gone_in h]
  cases inC e.t (finI e) c.root <;> simp
theorem fin_inC {e : Eng} (h : mayE e = true) : inC e.t (finI e) e.fin.root = true := by
  have hc := prune_cut h
  unfold inC
  rw [show findR e.t e.fin.root = finI e from rfl, hc.self, decide_eq_true hc.low]
  rfl
theorem prune_fit {e : Eng} (h : mayE e = true) : fitB (cutE e) (dropE e) e.o e.b = true := by
  obtain ⟨hm, hv, hS, hl⟩ := fit_spec (mayE_all.1 h).1
  have hc := prune_cut h
  unfold fitB
  rw [show mayB (cutE e) = true from hc.may', show vmayB (dropE e) e.o = true from dropL_may hv, hS, decide_eq_true (show (dropE e).length = e.b.length by unfold dropE dropL; rw [List.length_map, hl])]
  rfl
theorem count_cut {e : Eng} (h : mayE e = true) {a : Link} (ha : a ∈ countL (cutE e) (pruneE e).k e.b) : a ∈ (pruneE e).k ∧ a ∈ countL e.t e.k e.b := by
  have hk := countL_in ha
  refine ⟨hk, ?_⟩
  obtain ⟨h1, h2, h3, h4⟩ := (link_stays h).1 hk
  obtain ⟨f1, f2, f3, f4, f5, f6, f7, f8, f9, f10, f11⟩ := mayE_all.1 h
  obtain ⟨hm, hv, hS, hl⟩ := fit_spec f1
  unfold countL at ha ⊢
  rw [show toldR e.t e.k e.b = true by unfold toldR; rw [hm, f4, hS]; rfl, if_pos rfl]
  split at ha
  · have hcb := (List.mem_filter.1 ha).2
    refine List.mem_filter.2 ⟨h1, ?_⟩
    unfold countB at hcb ⊢
    rwa [show behindB (cutE e) a.t a.s = behindB e.t a.t a.s from (prune_cut h).behind h3 h2] at hcb
  · cases ha
theorem may_prune {e : Eng} (h : mayE e = true) : mayE (pruneE e) = true := by
  obtain ⟨f1, f2, f3, f4, f5, f6, f7, f8, f9, f10, f11⟩ := mayE_all.1 h
  have hc := prune_cut h
  have hcl := more_closed f10
  have hfound : ∀ r, inC e.t (finI e) r = true → 0 ≤ findR (cutE e) r := fun r hr => by
    rw [show findR (cutE e) r = _ from hc.find' r, hr, if_pos rfl]
    omega
  refine mayE_all.2 ⟨prune_fit h, rfl, f3, lmay_filter _ f4, f5, (check_stays h).2 ⟨f6, fin_inC h, Int.le_refl _⟩, f7, ?_, f9.sublist List.filter_sublist, ?_, ?_⟩
  · refine lost_all.2 ⟨fun c hc => hfound _ ((check_stays h).1 hc).2.1, fun a ha => ?_, fun x hx hh => ?_⟩
    · obtain ⟨_, h2, h3, _⟩ := (link_stays h).1 ha
      exact ⟨hfound _ h2, hfound _ h3⟩
    · obtain ⟨y, hy, rfl⟩ := List.mem_map.1 hx
      unfold dropX at hh ⊢
      split at hh
      · next hr =>
        rw [if_pos hr]
        exact hfound _ ((hc.in_roots y.root).1 hr)
      · cases hh
  · show (moreR (cutE e) (pruneE e).k e.b (pruneE e).j).length = (pruneE e).j.length
    rw [moreR, moreF_none (List.find?_eq_none.2 fun a ha hg => ?_)]
    obtain ⟨hk, hct⟩ := count_cut h ha
    obtain ⟨_, _, h3, h4⟩ := (link_stays h).1 hk
    obtain ⟨h5, h6⟩ := goB_spec hg
    have h7 := closed_use hcl hct ((check_stays h).1 h5).1
    exact h6 ((check_stays h).2 ⟨h7, h3, by omega⟩)
  · show nextR (cutE e) (pruneE e).k e.b (pruneE e).j e.fin = e.fin
    have htop := (next_top e.t e.fin (finalsR e.t e.k e.b e.j) e.fin).2
    rw [show (finalsR e.t e.k e.b e.j).foldl (nextS e.t e.fin) e.fin = e.fin from f11] at htop
    unfold nextR
    refine foldl_id _ fun c hcf => ?_
    unfold nextS
    refine if_neg fun hh => ?_
    simp only [Bool.and_eq_true, decide_eq_true_eq] at hh
    obtain ⟨hcj, hfin⟩ := List.mem_filter.1 hcf
    obtain ⟨g1, g2, g3⟩ := (check_stays h).1 hcj
    have hb := hh.2.1
    rw [show behindB (cutE e) c e.fin = behindB e.t c e.fin from hc.behind g2 (fin_inC h)] at hb
    have hin : c ∈ finalsR e.t e.k e.b e.j := by
      refine List.mem_filter.2 ⟨g1, ?_⟩
      unfold finB at hfin ⊢
      rw [List.any_eq_true] at hfin ⊢
      obtain ⟨a, ha, hl⟩ := hfin
      obtain ⟨_, hct⟩ := count_cut h ha
      refine ⟨a, hct, ?_⟩
      unfold linkF at hl ⊢
      simp only [Bool.and_eq_true, decide_eq_true_eq] at hl ⊢
      exact ⟨((check_stays h).1 hl.1).1, hl.2⟩
    have := htop c hin hh.1 hb
    omega
theorem prune_wf {e : Eng} (h : mayE e = true) (hw : e.wf) : (pruneE e).wf :=
  ⟨⟨hw.ok.b, fun a ha => hw.ok.kL a ((link_stays h).1 ha).1, fun a ha => hw.ok.kC a ((link_stays h).1 ha).1⟩, hw.o, hw.late, hw.now⟩
theorem prune_few {e : Eng} (h : mayE e = true) (he : e.few) : (pruneE e).few := by
  have hl := (may_len (prune_cut h).may').2
  have hl' : (cutE e).length ≤ 12 := hl
  refine ⟨by show (cutE e).length ≤ 100; omega, he.b, ?_, ?_, he.late, ?_, ?_⟩
  · show (dropE e).length ≤ 100
    unfold dropE dropL
    rw [List.length_map]
    exact he.vl
  · show (weights _ _ _).length ≤ 100
    rw [weights_len]
    omega
  · exact Nat.le_trans (List.length_filter_le _ _) he.k
  · exact Nat.le_trans (List.length_filter_le _ _) he.j

theorem prune_e (e : Eng) (b : Block) (x : Att) (c : Ask) (he : e.few) (hw : e.wf) (hm : mayE e = true) : CalE Tryz.prog 70 [.ptr 0 [] 0] 3 (prH e b x c e.k.length e.j.length (e.k.map Link.av) (e.j.map Check.av)) (.int .i64 0) [(0, .var (workA (pruneE e) b x c))] := by
  obtain ⟨_, hv, _, _⟩ := fit_spec (mayE_all.1 hm).1
  have h1 := he.t
  have h2 := he.vl
  have h3 := he.k
  have h4 := he.j
  have h5 : (cutE e).length ≤ 12 := (may_len (prune_cut hm).may').2
  exact prune_w e b x c (by omega) (by omega) (by omega) (by omega) (by omega) hv hw.ok.b (prune_fit hm)
/-- What may be, in bounds, with arguments in their ranges. -/
structure Fine (e : Eng) : Prop where
  may : mayE e = true
  wf : e.wf
  few : e.few
theorem behind_in {e : Eng} {c : Check} (hb : behindB e.t c e.fin = true) : inC e.t (finI e) c.root = true := by
  obtain ⟨_, _, h3, h4⟩ := above_spec.1 (show aboveR e.t (findR e.t e.fin.root) (findR e.t c.root) = true from hb)
  unfold inC
  rw [decide_eq_true h3.1, Bool.true_and]
  exact h4
theorem best_prune_fold {e : Eng} (h : mayE e = true) : ∀ (js : List Check) (o : Check), e.fin.epoch ≤ o.epoch → js.foldl (bestS e.t e.fin) o = (delL (checkGone (rootsT (cutE e)) e.fin.epoch) js).foldl (bestS (cutE e) e.fin) o
  | [], _, _ => rfl
  | c :: js, o, ho => by
    have hge : e.fin.epoch ≤ (bestS e.t e.fin o c).epoch := by
      unfold bestS
      split
      · next hh =>
        simp only [Bool.and_eq_true, betterB, Bool.or_eq_true, decide_eq_true_eq] at hh
        omega
      · exact ho
    have ih := best_prune_fold h js (bestS e.t e.fin o c) hge
    rw [List.foldl_cons, ih]
    unfold delL
    rw [List.filter_cons]
    unfold checkGone
    rw [gone_in h]
    by_cases hin : inC e.t (finI e) c.root = true
    · by_cases hep : c.epoch < e.fin.epoch
      · have hs : bestS e.t e.fin o c = o := by
          unfold bestS
          refine if_neg fun hh => ?_
          simp only [Bool.and_eq_true, betterB, Bool.or_eq_true, decide_eq_true_eq] at hh
          omega
        rw [hin, decide_eq_true hep, hs]
        rfl
      · have hs : bestS (cutE e) e.fin o c = bestS e.t e.fin o c := by
          unfold bestS
          rw [show behindB (cutE e) c e.fin = behindB e.t c e.fin from (prune_cut h).behind hin (fin_inC h)]
        rw [hin, decide_eq_false hep]
        simp only [Bool.not_true, Bool.or_false, Bool.not_false, if_true, List.foldl_cons, hs]
    · have hin' : inC e.t (finI e) c.root = false := by simpa using hin
      have hs : bestS e.t e.fin o c = o := by
        unfold bestS
        refine if_neg fun hh => ?_
        rw [Bool.and_eq_true] at hh
        rw [behind_in hh.1] at hin'
        cases hin'
      rw [hin', hs]
      rfl
theorem best_prune {e : Eng} (h : mayE e = true) : bestR (cutE e) (pruneE e).j e.fin = bestR e.t e.j e.fin := (best_prune_fold h e.j e.fin (Int.le_refl _)).symm

section
variable {t : List Node} {i : Int}
theorem CutAt.slot (h : CutAt t i) {k : Nat} (hk : k < t.length) (ha : aboveF t i k = true) : slotI (cutR t i) (phi t i k : Nat) = slotI t k := by
  unfold slotI
  rw [Int.toNat_natCast, (h.at hk ha).2, Int.toNat_natCast]
  rfl
theorem CutAt.atF_in (h : CutAt t i) {s : Int} (hs : slotI t i ≤ s) : ∀ (n k : Nat), k < n → k < t.length → aboveF t i k = true → ∃ q : Nat, q < t.length ∧ aboveF t i q = true ∧ atF t s k = q ∧ atF (cutR t i) s (phi t i k : Nat) = (phi t i q : Nat)
  | 0, k, hn, _, _ => by omega
  | n + 1, k, hn, hk, ha => by
    have hlt := (h.at hk ha).1
    rw [atF_step h.may (by omega) (by omega), atF_step h.may' (by omega) (by omega), h.slot hk ha]
    by_cases hsk : slotI t k ≤ s
    · rw [if_pos hsk, if_pos hsk]
      exact ⟨k, hk, ha, rfl, rfl⟩
    · have hki : (k : Int) ≠ i := fun hh => hsk (by rw [hh]; exact hs)
      obtain ⟨p0, p1, p2⟩ := h.kept_par hk ha hki
      rw [if_neg hsk, if_neg hsk, h.par hk ha, if_neg hki]
      obtain ⟨q, q1, q2, q3, q4⟩ := h.atF_in hs n (parI t k).toNat (by omega) (by omega) p2
      rw [Int.toNat_of_nonneg p0] at q3
      exact ⟨q, q1, q2, q3, q4⟩
end

def closedB (t : List Node) (out : List Bool) : Prop := ∀ c : Nat, c < t.length → out.getD c false = true → 0 ≤ parI t c → out.getD (parI t c).toNat false = true
theorem markN_closed {t : List Node} (hm : mayB t = true) : ∀ (n : Nat) (a : Int) (out : List Bool), out.length = t.length → (a = -1 ∨ 0 ≤ a ∧ a < t.length) → a < n → (∀ c : Nat, c < t.length → out.getD c false = true → 0 ≤ parI t c → out.getD (parI t c).toNat false = true ∨ parI t c = a) →
    closedB t (markN t n a out) ∧ (0 ≤ a → (markN t n a out).getD a.toNat false = true) ∧ ∀ j, out.getD j false = true → (markN t n a out).getD j false = true
  | 0, a, out, hl, ha, hn, hc => by
    have ha1 : a = -1 := by omega
    subst ha1
    refine ⟨fun c h1 h2 h3 => (hc c h1 h2 h3).resolve_right (by omega), fun h => by omega, fun j h => h⟩
  | n + 1, a, out, hl, ha, hn, hc => by
    simp only [markN]
    by_cases h0 : a < 0
    · rw [if_pos h0]
      refine ⟨fun c h1 h2 h3 => (hc c h1 h2 h3).resolve_right (by omega), fun h => by omega, fun j h => h⟩
    · rw [if_neg h0]
      have ha2 := ha.resolve_left (by omega)
      by_cases h1 : out.getD a.toNat false = true
      · rw [if_pos h1]
        refine ⟨fun c g1 g2 g3 => ?_, fun _ => h1, fun j h => h⟩
        rcases hc c g1 g2 g3 with g4 | g4
        · exact g4
        · rw [g4]; exact h1
      · rw [if_neg h1]
        have hp := par_range hm ha2.1 ha2.2
        have ih := markN_closed hm n (parI t a) (out.set a.toNat true) (by rw [List.length_set]; exact hl) (by omega) (by omega) fun c g1 g2 g3 => by
          rw [getD_setB] at g2 ⊢
          split at g2
          · next hh =>
            right
            rw [← hh.1, Int.toNat_of_nonneg ha2.1]
          · rcases hc c g1 g2 g3 with g4 | g4
            · left
              split
              · rfl
              · exact g4
            · left
              rw [g4, if_pos ⟨rfl, by omega⟩]
        refine ⟨ih.1, fun _ => ih.2.2 _ ?_, fun j h => ih.2.2 _ ?_⟩
        · rw [getD_setB, if_pos ⟨rfl, by omega⟩]
        · rw [getD_setB]
          split
          · rfl
          · exact h
theorem leadsTo_closed {t : List Node} (hm : mayB t = true) : ∀ (ls : List Int) (out : List Bool), (∀ a ∈ ls, 0 ≤ a ∧ a < t.length) → out.length = t.length → closedB t out →
    closedB t (leadsTo t ls out) ∧ (∀ a ∈ ls, (leadsTo t ls out).getD a.toNat false = true) ∧ ∀ j, out.getD j false = true → (leadsTo t ls out).getD j false = true
  | [], out, _, _, h => ⟨h, ⟨fun a ha => (by cases ha), fun j h => h⟩⟩
  | a :: ls, out, ha, hl, h => by
    have h1 := ha a List.mem_cons_self
    obtain ⟨m1, m2, m3⟩ := markN_closed hm (a + 1).toNat a out hl (.inr h1) (by omega) fun c g1 g2 g3 => .inl (h c g1 g2 g3)
    obtain ⟨k1, k2, k3⟩ := leadsTo_closed hm ls (markF t a out) (fun b hb => ha b (List.mem_cons_of_mem _ hb)) (by unfold markF; rw [markN_len]; exact hl) m1
    refine ⟨k1, fun b hb => ?_, fun j hj => k3 _ (m3 j hj)⟩
    rcases List.mem_cons.1 hb with rfl | hb
    · exact k3 _ (m2 h1.1)
    · exact k2 b hb
theorem someL_in {p : Int → Bool} {n k : Nat} (hk : k < n) (hp : p k = true) : (k : Int) ∈ someL p n := by
  unfold someL
  exact List.mem_map.2 ⟨k, List.mem_filter.2 ⟨List.mem_range.2 hk, hp⟩, rfl⟩
theorem aboveF_child {t : List Node} (hm : mayB t = true) {j c : Nat} (hc : c < t.length) (hp : parI t c = j) : aboveF t j c = true := by
  have h1 := par_range hm (a := (c : Int)) (by omega) (by omega)
  rw [aboveF_step hm (by omega) (by omega), if_neg (by omega), if_neg (by omega), hp, aboveF_step hm (by omega) (by omega), if_pos rfl]
/-- What leads on: what a leaf that may be a head descends from. -/
theorem leads_iff {t : List Node} (hm : mayB t = true) (just fin : Int) {k : Nat} (hk : k < t.length) : (leadsR t just fin).getD k false = true ↔ ∃ l : Nat, l < t.length ∧ leafB t just fin l = true ∧ aboveF t k l = true := by
  have hinv := leadsR_inv hm just fin
  have hcl := leadsTo_closed hm (someL (leafB t just fin) t.length) (List.replicate t.length false) (fun a ha => (someL_mem ha).1) (by rw [List.length_replicate]) (fun c g1 g2 _ => by
    rw [List.getD_eq_getElem?_getD, List.getElem?_replicate] at g2
    split at g2 <;> simp at g2)
  have hR : leadsTo t (someL (leafB t just fin) t.length) (List.replicate t.length false) = leadsR t just fin := by rw [leadsR, if_pos hm]
  rw [hR] at hcl
  have hlen : (leadsR t just fin).length = t.length := leadsR_len hm just fin
  constructor
  · have down : ∀ (n k : Nat), t.length - k < n → k < t.length → (leadsR t just fin).getD k false = true → ∃ l : Nat, l < t.length ∧ leafB t just fin l = true ∧ aboveF t k l = true := fun n => by
      induction n with
      | zero => exact fun k h => by omega
      | succ n ih =>
        intro k hn hk h
        rcases hinv k h with h1 | ⟨c, c1, c2, c3⟩
        · exact ⟨k, hk, h1, by rw [aboveF_step hm (by omega) (by omega), if_pos rfl]⟩
        · have hpar : parI t c = (k : Int) := by rw [parI_nat]; exact c2
          have hr := par_range hm (a := (c : Int)) (by omega) (by omega)
          obtain ⟨l, l1, l2, l3⟩ := ih c (by omega) c1 c3
          exact ⟨l, l1, l2, aboveF_trans hm (by omega) (by omega) (aboveF_child hm c1 hpar) (l + 1) l (by omega) (by omega) (by omega) l3⟩
    exact down (t.length - k + 1) k (by omega) hk
  · rintro ⟨l, l1, l2, l3⟩
    have up : ∀ (n a : Nat), a < n → a < t.length → (leadsR t just fin).getD a false = true → aboveF t k a = true → (leadsR t just fin).getD k false = true := fun n => by
      induction n with
      | zero => exact fun a h => by omega
      | succ n ih =>
        intro a hn ha h hab
        rw [aboveF_step hm (by omega) (by omega)] at hab
        split at hab
        · next he =>
          have : a = k := by omega
          rw [← this]; exact h
        · split at hab
          · cases hab
          · rcases par_range hm (a := (a : Int)) (by omega) (by omega) with hp | hp
            · rw [hp, aboveF_neg] at hab; cases hab
            · have hc := hcl.1 a ha h hp.1
              refine ih (parI t a).toNat (by omega) (by omega) hc ?_
              rwa [Int.toNat_of_nonneg hp.1]
    have := hcl.2.1 (l : Int) (someL_in l1 l2)
    rw [Int.toNat_natCast] at this
    exact up (l + 1) l (by omega) l1 this l3
section
variable {t : List Node} {i : Int}
theorem CutAt.kid_kept (h : CutAt t i) {c k : Nat} (hc : c < t.length) (hp : parI t c = (k : Int)) (hk : aboveF t i k = true) (hkl : k < t.length) : aboveF t i c = true ∧ (c : Int) ≠ i := by
  have hr := par_range h.may (a := (c : Int)) (by omega) (by omega)
  have h1 := aboveF_ge h.may (a := (k : Int)) (by omega) (by omega) hk
  have hci : (c : Int) ≠ i := by omega
  refine ⟨?_, hci⟩
  rw [aboveF_step h.may (by omega) (by omega), if_neg hci, if_neg (by omega), hp]
  exact hk
theorem kids_none {t : List Node} (hm : mayB t = true) {k : Nat} (hk : k < t.length) : (kidsR t k).length = 0 ↔ ∀ c : Nat, c < t.length → parI t c ≠ k := by
  unfold kidsR
  rw [if_pos (isB_one hm hk)]
  constructor
  · intro h c hc hp
    have := someL_in (p := parB t k) hc (decide_eq_true hp)
    rw [List.length_eq_zero_iff.1 h] at this
    cases this
  · intro h
    refine List.length_eq_zero_iff.2 (List.eq_nil_iff_forall_not_mem.2 fun a ha => ?_)
    obtain ⟨⟨h0, h1⟩, h2⟩ := someL_mem ha
    have h3 := of_decide_eq_true h2
    exact h a.toNat (by omega) (by rw [Int.toNat_of_nonneg h0]; exact h3)
theorem CutAt.kids (h : CutAt t i) {k : Nat} (hk : k < t.length) (ha : aboveF t i k = true) : (kidsR (cutR t i) (phi t i k : Nat)).length = 0 ↔ (kidsR t k).length = 0 := by
  rw [kids_none h.may' (h.at hk ha).1, kids_none h.may hk]
  constructor
  · intro hn c hc hp
    obtain ⟨c1, c2⟩ := h.kid_kept hc hp ha hk
    refine hn (phi t i c) (h.at hc c1).1 ?_
    rw [h.par hc c1, if_neg c2, hp, Int.toNat_natCast]
  · intro hn j hj hp
    obtain ⟨c, c1, c2, rfl⟩ := h.back hj
    rw [h.par c1 c2] at hp
    by_cases hci : (c : Int) = i
    · rw [if_pos hci] at hp; omega
    · rw [if_neg hci] at hp
      obtain ⟨p0, p1, p2⟩ := h.kept_par c1 c2 hci
      have := (phi_inj p2 ha).1 (by omega)
      exact hn c c1 (by omega)
theorem CutAt.leaf (h : CutAt t i) (just : Int) {k : Nat} (hk : k < t.length) (ha : aboveF t i k = true) : leafB (cutR t i) just 0 (phi t i k : Nat) = leafB t just i k := by
  have hl := h.low
  have hh := h.high
  obtain ⟨m, rfl⟩ : ∃ m : Nat, i = m := ⟨i.toNat, by omega⟩
  have h0 : phi t m m = 0 := phi_first h.may rfl (by omega)
  have hA := h.aboveR (x := m) (by omega) hk h.self ha
  rw [h0] at hA
  unfold leafB
  rw [show Go.Proofs.YtgnidooihignfaaGreatDoor.aboveR (cutR t m) 0 (phi t m k : Nat) = _ from hA, Int.toNat_natCast, (h.at hk ha).2, Int.toNat_natCast]
  have hkd := h.kids hk ha
  rw [show (nodeC t m k).just = (t.getD k zNode).just from rfl]
  congr 2
  exact decide_eq_decide.2 hkd
theorem CutAt.leads (h : CutAt t i) (just : Int) {k : Nat} (hk : k < t.length) (ha : aboveF t i k = true) : (leadsR (cutR t i) just 0).getD (phi t i k) false = (leadsR t just i).getD k false := by
  rw [Bool.eq_iff_iff, leads_iff h.may' just 0 (h.at hk ha).1, leads_iff h.may just i hk]
  constructor
  · rintro ⟨j, j1, j2, j3⟩
    obtain ⟨l, l1, l2, rfl⟩ := h.back j1
    rw [h.leaf just l1 l2] at j2
    rw [h.above ha (l + 1) l (by omega) l1 l2] at j3
    exact ⟨l, l1, j2, j3⟩
  · rintro ⟨l, l1, l2, l3⟩
    have la : aboveF t i l = true := by
      unfold leafB at l2
      rw [Bool.and_eq_true] at l2
      exact (above_spec.1 l2.1).2.2.2
    refine ⟨phi t i l, (h.at l1 la).1, ?_, ?_⟩
    · rw [h.leaf just l1 la]; exact l2
    · rw [h.above ha (l + 1) l (by omega) l1 la]; exact l3
theorem CutAt.better (h : CutAt t i) (w : List Int) {a b : Nat} (ha : a < t.length) (hb : b < t.length) (ka : aboveF t i a = true) (kb : aboveF t i b = true) : wbetterB (cutR t i) (resW t i w) (phi t i a) (phi t i b : Nat) = wbetterB t w a b := by
  unfold wbetterB wAt rAt
  rw [Int.toNat_natCast, Int.toNat_natCast, resW_at w ha ka, resW_at w hb kb, (h.at ha ka).2, (h.at hb kb).2, decide_eq_false (show ¬ ((phi t i b : Nat) : Int) = -1 by omega), decide_eq_false (show ¬ (b : Int) = -1 by omega)]
  rfl
/-- The best child so far, behind the cut. -/
theorem CutAt.kidTo (h : CutAt t i) (w : List Int) (ld ld' : List Bool) (hld : ∀ k, k < t.length → aboveF t i k = true → ld'.getD (phi t i k) false = ld.getD k false) {k : Nat} (hk : k < t.length) (ha : aboveF t i k = true) : ∀ m, m ≤ t.length →
    (kidTo t w ld k m = -1 ∧ Go.Proofs.YtgnidooihignfaaGreatDoor.kidTo (cutR t i) (resW t i w) ld' (phi t i k : Nat) (phi t i m) = -1) ∨ ∃ b : Nat, b < t.length ∧ aboveF t i b = true ∧ kidTo t w ld k m = b ∧ Go.Proofs.YtgnidooihignfaaGreatDoor.kidTo (cutR t i) (resW t i w) ld' (phi t i k : Nat) (phi t i m) = (phi t i b : Nat)
  | 0, _ => .inl ⟨rfl, rfl⟩
  | m + 1, hm => by
    have ih := h.kidTo w ld ld' hld hk ha m (by omega)
    have hml : m < t.length := by omega
    rw [phi_succ]
    by_cases km : aboveF t i m = true
    · rw [if_pos km]
      have hpar : ((cutR t i).getD (phi t i m) zNode).parent = if (m : Int) = i then -1 else (phi t i (parI t m).toNat : Int) := by
        rw [← parI_nat]; exact h.par hml km
      have hp2 : (t.getD m zNode).parent = parI t m := (parI_nat t m).symm
      have hpk : ((cutR t i).getD (phi t i m) zNode).parent = (phi t i k : Nat) ↔ (t.getD m zNode).parent = (k : Int) := by
        rw [hpar, hp2]
        by_cases hmi : (m : Int) = i
        · rw [if_pos hmi]
          have h1 := aboveF_ge h.may (a := (k : Int)) (by omega) (by omega) ha
          have h2 := par_range h.may (a := (m : Int)) (by omega) (by omega)
          constructor <;> intro hh <;> omega
        · rw [if_neg hmi]
          obtain ⟨p0, p1, p2⟩ := h.kept_par hml km hmi
          constructor
          · intro hh
            have := (phi_inj p2 ha).1 (by omega)
            omega
          · intro hh
            rw [hh, Int.toNat_natCast]
      have hl := hld m hml km
      show (bstep t w ld k (Go.Proofs.YtgnidooihignfaaGreatDoor.kidTo t w ld k m) m = -1 ∧ bstep (cutR t i) (resW t i w) ld' (phi t i k : Nat) (Go.Proofs.YtgnidooihignfaaGreatDoor.kidTo (cutR t i) (resW t i w) ld' (phi t i k : Nat) (phi t i m)) (phi t i m) = -1) ∨ ∃ b : Nat, b < t.length ∧ aboveF t i b = true ∧ bstep t w ld k (Go.Proofs.YtgnidooihignfaaGreatDoor.kidTo t w ld k m) m = b ∧ bstep (cutR t i) (resW t i w) ld' (phi t i k : Nat) (Go.Proofs.YtgnidooihignfaaGreatDoor.kidTo (cutR t i) (resW t i w) ld' (phi t i k : Nat) (phi t i m)) (phi t i m) = (phi t i b : Nat)
      unfold bstep
      by_cases hskip : (t.getD m zNode).parent ≠ (k : Int) ∨ ld.getD m false = false
      · have hskip' : ((cutR t i).getD (phi t i m) zNode).parent ≠ (phi t i k : Nat) ∨ ld'.getD (phi t i m) false = false := by
          rw [hl]
          exact hskip.imp (fun hh hc => hh (hpk.1 hc)) id
        rw [if_pos hskip, if_pos hskip']
        exact ih
      · have hskip' : ¬ (((cutR t i).getD (phi t i m) zNode).parent ≠ (phi t i k : Nat) ∨ ld'.getD (phi t i m) false = false) := by
          rw [hl]
          intro hc
          exact hskip (hc.imp (fun hh hc2 => hh (hpk.2 hc2)) id)
        rw [if_neg hskip, if_neg hskip']
        right
        rcases ih with ⟨i1, i2⟩ | ⟨b, b1, b2, b3, b4⟩
        · rw [i1, i2]
          have e1 : ∀ (T : List Node) (W : List Int) (x : Nat), wbetterB T W x (-1) = true := fun T W x => by
            unfold wbetterB
            rw [decide_eq_true rfl, Bool.true_or, Bool.true_or]
          rw [e1, e1, if_pos rfl, if_pos rfl]
          exact ⟨m, hml, km, rfl, rfl⟩
        · rw [b3, b4, h.better w hml b1 km b2]
          split
          · exact ⟨m, hml, km, rfl, rfl⟩
          · exact ⟨b, b1, b2, rfl, rfl⟩
    · rw [if_neg km, Nat.add_zero]
      have e : Go.Proofs.YtgnidooihignfaaGreatDoor.kidTo t w ld k (m + 1) = Go.Proofs.YtgnidooihignfaaGreatDoor.kidTo t w ld k m := by
        show bstep t w ld k (Go.Proofs.YtgnidooihignfaaGreatDoor.kidTo t w ld k m) m = _
        unfold bstep
        refine if_pos (.inl fun hh => km ?_)
        have hp2 : parI t m = (k : Int) := by rw [parI_nat]; exact hh
        exact (h.kid_kept hml hp2 ha hk).1
      rw [e]
      exact ih
theorem CutAt.head (h : CutAt t i) (w : List Int) (ld ld' : List Bool) (hld : ∀ k, k < t.length → aboveF t i k = true → ld'.getD (phi t i k) false = ld.getD k false) : ∀ (n k : Nat), t.length - k < n → k < t.length → aboveF t i k = true →
    ∃ b : Nat, b < t.length ∧ aboveF t i b = true ∧ headF t w ld k = b ∧ headF (cutR t i) (resW t i w) ld' (phi t i k : Nat) = (phi t i b : Nat)
  | 0, k, hn, _, _ => by omega
  | n + 1, k, hn, hk, ha => by
    have hlt := (h.at hk ha).1
    have hlen : (cutR t i).length = phi t i t.length := h.len
    rw [headF_next h.may (by omega) (by omega), headF_next h.may' (by omega) (by omega)]
    have hkid := h.kidTo w ld ld' hld hk ha t.length (Nat.le_refl _)
    rw [← hlen] at hkid
    have hab := kid_above (w := w) (ld := ld) h.may (i := (k : Int)) t.length (Nat.le_refl _)
    rcases hkid with ⟨k1, k2⟩ | ⟨b, b1, b2, b3, b4⟩
    · have k1' : kidF t w ld k = -1 := k1
      have k2' : kidF (cutR t i) (resW t i w) ld' (phi t i k : Nat) = -1 := k2
      rw [if_pos k1', if_pos k2']
      exact ⟨k, hk, ha, rfl, rfl⟩
    · have b3' : kidF t w ld k = b := b3
      have b4' : kidF (cutR t i) (resW t i w) ld' (phi t i k : Nat) = (phi t i b : Nat) := b4
      rw [b3', b4', if_neg (by omega), if_neg (by omega)]
      exact h.head w ld ld' hld n b (by omega) b1 b2
end

theorem prune_t (e : Eng) (he : e.few) (hw : e.wf) (hm : mayE e = true) : CalT Tryz.prog 0 tabV 26 [e.av] (.tup [(pruneE e).av, .int .i64 0]) :=
  prune26_t e _ 0 (do_pru e _ zBlock zAtt cz0 he hw.ok hm (prune_e e zBlock zAtt cz0 he hw hm))
theorem head_eq {e : Eng} (h : mayE e = true) : headE e = headF e.t e.w (leadsR e.t (justE e).epoch (finE e)) (findR e.t (justE e).root) ∧ behindB e.t (justE e) e.fin = true ∧ 0 ≤ findR e.t (justE e).root ∧ findR e.t (justE e).root < e.t.length := by
  have hm := mayB_of h
  obtain ⟨f0, f1⟩ := finE_range h
  have hb : aboveR e.t (finE e) (findR e.t (justE e).root) = true := best_behind (t := e.t) (fin := e.fin) e.j e.fin (above_self hm f0 f1)
  have hfr : fromR e.t (justE e).root (finE e) = findR e.t (justE e).root := by rw [fromR, if_pos hb]
  obtain ⟨_, _, ⟨g0, g1⟩, _⟩ := above_spec.1 hb
  have htold : toldB e.t e.w (leadsR e.t (justE e).epoch (finE e)) = true := by
    unfold toldB
    rw [hm, ← (mayE_fit h).2.1, weights_len, leadsR_len hm]
    simp
  refine ⟨?_, hb, g0, g1⟩
  unfold headE
  rw [hfr, headR_in ⟨htold, g0, g1⟩]
theorem just_prune {e : Eng} (h : mayE e = true) : justE (pruneE e) = justE e := best_prune h
theorem fin_prune {e : Eng} (h : mayE e = true) : finE (pruneE e) = 0 := by
  have hc := prune_cut h
  have h1 : findR (cutE e) e.fin.root = _ := hc.find' e.fin.root
  show findR (cutE e) e.fin.root = 0
  rw [h1, fin_inC h, if_pos rfl, show findR e.t e.fin.root = finI e from rfl, phi_first hc.may (Int.toNat_of_nonneg hc.low) (by have := hc.high; have := hc.low; omega)]
  rfl
theorem weigh_prune {e : Eng} (h : mayE e = true) : (pruneE e).w = resW e.t (finI e) e.w := by
  rw [← (mayE_all.1 h).2.1]
  exact (prune_cut h).weights e.vl e.b
theorem head_prune {e : Eng} (h : mayE e = true) : ∃ b : Nat, b < e.t.length ∧ aboveF e.t (finI e) b = true ∧ headE e = b ∧ headE (pruneE e) = (phi e.t (finI e) b : Nat) := by
  have hc := prune_cut h
  obtain ⟨h1, h2, h3, h4⟩ := head_eq h
  obtain ⟨k1, _, _, _⟩ := head_eq (may_prune h)
  have hin := behind_in h2
  have hj : findR (cutE e) (justE e).root = _ := hc.find' (justE e).root
  rw [hin, if_pos rfl] at hj
  obtain ⟨k, g1, g2, g3⟩ := inC_spec hin
  rw [g1, Int.toNat_natCast] at hj
  rw [just_prune h, fin_prune h, weigh_prune h] at k1
  have k1' : headE (pruneE e) = headF (cutE e) (resW e.t (finI e) e.w) (leadsR (cutE e) (justE e).epoch 0) (findR (cutE e) (justE e).root) := k1
  rw [hj] at k1'
  rw [g1] at h1
  obtain ⟨b, b1, b2, b3, b4⟩ := hc.head e.w (leadsR e.t (justE e).epoch (finI e)) (leadsR (cutR e.t (finI e)) (justE e).epoch 0) (fun k hk ha => hc.leads _ hk ha) (e.t.length - k + 1) k (by omega) g2 g3
  exact ⟨b, b1, b2, h1.trans b3, k1'.trans b4⟩
theorem of_prune {e : Eng} (h : mayE e = true) : ofR (pruneE e) 1 = ⟨1, cutE e, (e.t.getD (headE e).toNat zNode).root, justE e, e.fin⟩ := by
  have hc := prune_cut h
  obtain ⟨b, b1, b2, b3, b4⟩ := head_prune h
  have h2 := (hc.at b1 b2).2
  rw [ofR, may_prune h, if_pos rfl, just_prune h, b3, b4, Int.toNat_natCast, Int.toNat_natCast]
  show Snap.mk 1 (cutE e) ((cutE e).getD (phi e.t (finI e) b) zNode).root (justE e) e.fin = _
  rw [show (cutE e).getD (phi e.t (finI e) b) zNode = nodeC e.t (finI e) b from h2]
  rfl
theorem find_cut {e : Eng} (h : mayE e = true) {r : Root} (hr : 0 ≤ findR (cutE e) r) : ∃ k : Nat, findR e.t r = k ∧ k < e.t.length ∧ aboveF e.t (finI e) k = true ∧ findR (cutE e) r = (phi e.t (finI e) k : Nat) := by
  have hc := prune_cut h
  have h1 : findR (cutE e) r = _ := hc.find' r
  cases hin : inC e.t (finI e) r
  · rw [hin] at h1
    have h1' : findR (cutE e) r = -1 := h1
    omega
  · obtain ⟨k, g1, g2, g3⟩ := inC_spec hin
    rw [hin, if_pos rfl, g1, Int.toNat_natCast] at h1
    exact ⟨k, g1, g2, g3, h1⟩
theorem ask_prune {e : Eng} (h : mayE e = true) {c : Ask} (h6 : c.kind = 6 → 0 ≤ findR (cutE e) c.a ∧ slotI e.t (finI e) ≤ c.slot) (h7 : c.kind = 7 → 0 ≤ findR (cutE e) c.a ∧ 0 ≤ findR (cutE e) c.b) : askR (ofR (pruneE e) 1) c = askR (ofR e 1) c := by
  have hc := prune_cut h
  have s1 := head_may h 1
  have s2 := head_may (may_prune h) 1
  have er : ofR e 1 = ⟨1, e.t, (e.t.getD (headE e).toNat zNode).root, justE e, e.fin⟩ := by rw [ofR, h]; rfl
  unfold askR
  rw [s1, s2, if_pos rfl, if_pos rfl, of_prune h, er]
  simp only
  split
  · rfl
  split
  · rfl
  split
  · next hk =>
    obtain ⟨g1, g2⟩ := h6 hk
    obtain ⟨k, k1, k2, k3, k4⟩ := find_cut h g1
    obtain ⟨q, q1, q2, q3, q4⟩ := hc.atF_in g2 (k + 1) k (by omega) k2 k3
    obtain ⟨q5, q6⟩ := hc.at q1 q2
    have p1 := (hc.at k2 k3).1
    have a1 : atR e.t (k : Int) c.slot = q := by rw [atR_in hc.may (by omega) (by omega), q3]
    have a2 : atR (cutE e) (phi e.t (finI e) k : Nat) c.slot = (phi e.t (finI e) q : Nat) := by
      have h1 : atR (cutR e.t (finI e)) (phi e.t (finI e) k : Nat) c.slot = _ := atR_in hc.may' (by omega) (by omega)
      exact h1.trans q4
    unfold ans3R
    rw [k4, k1]
    simp only [a1, a2]
    rw [if_neg (show ¬ ((phi e.t (finI e) k : Nat) : Int) < 0 by omega), if_neg (show ¬ ((phi e.t (finI e) q : Nat) : Int) < 0 by omega), if_neg (show ¬ (k : Int) < 0 by omega), if_neg (show ¬ (q : Int) < 0 by omega), Int.toNat_natCast, Int.toNat_natCast, show (cutE e).getD (phi e.t (finI e) q) zNode = nodeC e.t (finI e) q from q6]
    rfl
  split
  · next hk =>
    obtain ⟨g1, g2⟩ := h7 hk
    obtain ⟨k, k1, k2, k3, k4⟩ := find_cut h g1
    obtain ⟨m, m1, m2, m3, m4⟩ := find_cut h g2
    unfold ans4R
    rw [k4, k1, m4, m1, if_neg (by simp only [Int.min_def]; split <;> omega), if_neg (by simp only [Int.min_def]; split <;> omega)]
    simp only
    rw [show aboveR (cutE e) (phi e.t (finI e) k : Nat) (phi e.t (finI e) m : Nat) = aboveR e.t k m from hc.aboveR k2 m2 k3 m3]
  · rfl
theorem sprune_no (e : Eng) (he : fewE e = false ∨ e.ok) (c : Ask) (h : fewE e = false ∨ (fewE e = true ∧ mayE e = false)) : CalT Tryz.prog 0 tabV 5 [e.av, c.av] (.bool true) := by
  have x1 := awake_t
  have c1 := few_c e
  rcases h with h | ⟨h1, h2⟩
  · rw [h] at c1
    have hR : Tryz.f5.results.toList = [.tmp 4] := rfl
    refine calE_tr Tryz.func5 rfl fun E hE hP => ?_
    exact mX
  · have x2 := may_t e (fewE_few h1) (he.resolve_left (by rw [h1]; decide))
    rw [h1] at c1
    rw [h2] at x2
    have hR : Tryz.f5.results.toList = [.tmp 4] := rfl
    refine calE_tr Tryz.func5 rfl fun E hE hP => ?_
    exact mX
set_option maxHeartbeats 4000000 in
theorem sprune_w (e f : Eng) (c : Ask) (T : List Node) (H : Root) (J : Check) (nf : Node) (F FA FB : Int) (A1 A2 : Resp) (c1 : Cal Tryz.prog 14 [e.av] (.bool true)) (x2 : CalT Tryz.prog 0 tabV 24 [e.av] (.bool true)) (x3 : CalT Tryz.prog 0 tabV 26 [e.av] (.tup [f.av, .int .i64 0]))
    (x4 : CalT Tryz.prog 0 tabV 16 [e.av, .int .i64 1] (Snap.mk 1 e.t H J e.fin).av) (x5 : CalT Tryz.prog 0 tabV 16 [f.av, .int .i64 1] (Snap.mk 1 T H J e.fin).av) (c2 : Cal Tryz.prog 27 [tav e.t, .root e.fin.root] (.int .i64 F)) (c3 : Cal Tryz.prog 21 [(Snap.mk 1 e.t H J e.fin).av, c.av] A1.av) (c4 : Cal Tryz.prog 21 [(Snap.mk 1 T H J e.fin).av, c.av] A2.av)
    (c5 : Cal Tryz.prog 27 [tav T, .root c.a] (.int .i64 FA)) (c6 : Cal Tryz.prog 27 [tav T, .root c.b] (.int .i64 FB)) (hF : 0 ≤ F ∧ F < e.t.length) (hn : nth (e.t.map Node.av) F = some nf.av)
    (h : (c.kind = 6 ∧ (FA < 0 ∨ (¬ FA < 0 ∧ c.slot < nf.slot)) ∨ c.kind = 7 ∧ (FA < 0 ∨ (¬ FA < 0 ∧ FB < 0))) ∨ (c.kind = 6 → ¬ FA < 0 ∧ ¬ c.slot < nf.slot) ∧ (c.kind = 7 → ¬ FA < 0 ∧ ¬ FB < 0) ∧ A1 = A2) : CalT Tryz.prog 0 tabV 5 [e.av, c.av] (.bool true) := by
  have x1 := awake_t
  have e1 : decide (H = H) = true := decide_eq_true rfl
  have e2 : decide (e.fin = e.fin) = true := decide_eq_true rfl
  have e3 : decide (J = J) = true := decide_eq_true rfl
  have e4 : decide (F < 0) = false := decide_eq_false (by omega)
  have e5 : decide ((e.t.length : Int) ≤ F) = false := decide_eq_false (by omega)
  have fn := And.intro e1 (And.intro e2 (And.intro e3 (And.intro e4 (And.intro e5 hn))))
  rcases h with (⟨k6, h⟩ | ⟨k7, h⟩) | ⟨h6, h7, hA⟩
  · have g1 : decide (c.kind = 6) = true := decide_eq_true k6
    rcases h with h | ⟨h, h'⟩
    · have g2 : decide (FA < 0) = true := decide_eq_true h
      have ff := And.intro fn (And.intro g1 g2)
      have hR : Tryz.f5.results.toList = [.tmp 4] := rfl
      refine calE_tr Tryz.func5 rfl fun E hE hP => ?_
      exact mX
    · have g2 : decide (FA < 0) = false := decide_eq_false h
      have g3 : decide (c.slot < nf.slot) = true := decide_eq_true h'
      have ff := And.intro fn (And.intro g1 (And.intro g2 g3))
      have hR : Tryz.f5.results.toList = [.tmp 4] := rfl
      refine calE_tr Tryz.func5 rfl fun E hE hP => ?_
      exact mX
  · have g1 : decide (c.kind = 6) = false := decide_eq_false (by omega)
    have g4 : decide (c.kind = 7) = true := decide_eq_true k7
    rcases h with h | ⟨h, h'⟩
    · have g2 : decide (FA < 0) = true := decide_eq_true h
      have ff := And.intro fn (And.intro g1 (And.intro g4 g2))
      have hR : Tryz.f5.results.toList = [.tmp 4] := rfl
      refine calE_tr Tryz.func5 rfl fun E hE hP => ?_
      exact mX
    · have g2 : decide (FA < 0) = false := decide_eq_false h
      have g3 : decide (FB < 0) = true := decide_eq_true h'
      have ff := And.intro fn (And.intro g1 (And.intro g4 (And.intro g2 g3)))
      have hR : Tryz.f5.results.toList = [.tmp 4] := rfl
      refine calE_tr Tryz.func5 rfl fun E hE hP => ?_
      exact mX
  · subst hA
    have e6 : decide (A1 = A1) = true := decide_eq_true rfl
    by_cases k6 : c.kind = 6
    · have g1 : decide (c.kind = 6) = true := decide_eq_true k6
      have g4 : decide (c.kind = 7) = false := decide_eq_false (by omega)
      have g2 : decide (FA < 0) = false := decide_eq_false (h6 k6).1
      have g3 : decide (c.slot < nf.slot) = false := decide_eq_false (h6 k6).2
      have ff := And.intro fn (And.intro e6 (And.intro g1 (And.intro g4 (And.intro g2 g3))))
      have hR : Tryz.f5.results.toList = [.tmp 4] := rfl
      refine calE_tr Tryz.func5 rfl fun E hE hP => ?_
      exact mX
    · have g1 : decide (c.kind = 6) = false := decide_eq_false k6
      by_cases k7 : c.kind = 7
      · have g4 : decide (c.kind = 7) = true := decide_eq_true k7
        have g2 : decide (FA < 0) = false := decide_eq_false (h7 k7).1
        have g3 : decide (FB < 0) = false := decide_eq_false (h7 k7).2
        have ff := And.intro fn (And.intro e6 (And.intro g1 (And.intro g4 (And.intro g2 g3))))
        have hR : Tryz.f5.results.toList = [.tmp 4] := rfl
        refine calE_tr Tryz.func5 rfl fun E hE hP => ?_
        exact mX
      · have g4 : decide (c.kind = 7) = false := decide_eq_false k7
        have ff := And.intro fn (And.intro e6 (And.intro g1 g4))
        have hR : Tryz.f5.results.toList = [.tmp 4] := rfl
        refine calE_tr Tryz.func5 rfl fun E hE hP => ?_
        exact mX
theorem sprune_t (e : Eng) (hw : e.wf) (c : Ask) : CalT Tryz.prog 0 tabV 5 [e.av, c.av] (.bool true) := by
  cases h1 : fewE e
  · exact sprune_no e (.inl h1) c (.inl h1)
  cases h2 : mayE e
  · exact sprune_no e (.inr hw.ok) c (.inr ⟨h1, h2⟩)
  have he := fewE_few h1
  have hc := prune_cut h2
  have c1 := few_c e
  rw [h1] at c1
  have x2 := may_t e he hw.ok
  rw [h2] at x2
  have x3 := prune_t e he hw h2
  have x4 := of_t e he hw.ok 1
  have x5 := of_t (pruneE e) (prune_few h2 he) (prune_wf h2 hw).ok 1
  have er : ofR e 1 = ⟨1, e.t, (e.t.getD (headE e).toNat zNode).root, justE e, e.fin⟩ := by rw [ofR, h2]; rfl
  have c2 := And.intro (enters_of Tryz.func27 (by kernel_rfl) rfl) (find_pure e.t e.fin.root)
  have c3 := ask_c (ofR e 1) c
  have c4 := ask_c (ofR (pruneE e) 1) c
  have c5 := And.intro (enters_of Tryz.func27 (by kernel_rfl) rfl) (find_pure (cutE e) c.a)
  have c6 := And.intro (enters_of Tryz.func27 (by kernel_rfl) rfl) (find_pure (cutE e) c.b)
  obtain ⟨i, hi⟩ : ∃ i : Nat, finI e = i := ⟨(finI e).toNat, by have := hc.low; omega⟩
  have hil : i < e.t.length := by have := hc.high; omega
  have hn := nth_node hil
  rw [← hi] at hn
  have hslot : slotI e.t (finI e) = (e.t.getD i zNode).slot := by
    unfold slotI
    rw [hi, Int.toNat_natCast]
  have hA : (c.kind = 6 → 0 ≤ findR (cutE e) c.a ∧ slotI e.t (finI e) ≤ c.slot) → (c.kind = 7 → 0 ≤ findR (cutE e) c.a ∧ 0 ≤ findR (cutE e) c.b) → askR (ofR (pruneE e) 1) c = askR (ofR e 1) c := ask_prune h2
  generalize askR (ofR e 1) c = A1 at c3 hA
  generalize askR (ofR (pruneE e) 1) c = A2 at c4 hA
  rw [of_prune h2] at x5 c4
  rw [er] at x4 c3
  refine sprune_w e (pruneE e) c (cutE e) _ _ (e.t.getD i zNode) (finI e) _ _ A1 A2 c1 x2 x3 x4 x5 c2 c3 c4 c5 c6 ⟨hc.low, hc.high⟩ hn ?_
  rw [hslot] at hA
  generalize findR (cutE e) c.a = FA at *
  generalize findR (cutE e) c.b = FB at *
  by_cases k6 : c.kind = 6
  · by_cases g1 : FA < 0
    · exact .inl (.inl ⟨k6, .inl g1⟩)
    · by_cases g2 : c.slot < (e.t.getD i zNode).slot
      · exact .inl (.inl ⟨k6, .inr ⟨g1, g2⟩⟩)
      · exact .inr ⟨fun _ => ⟨g1, g2⟩, fun h => by omega, (hA (fun _ => ⟨by omega, by omega⟩) (fun h => by omega)).symm⟩
  · by_cases k7 : c.kind = 7
    · by_cases g1 : FA < 0
      · exact .inl (.inr ⟨k7, .inl g1⟩)
      · by_cases g2 : FB < 0
        · exact .inl (.inr ⟨k7, .inr ⟨g1, g2⟩⟩)
        · exact .inr ⟨fun h => by omega, fun _ => ⟨g1, g2⟩, (hA (fun h => by omega) (fun _ => ⟨by omega, by omega⟩)).symm⟩
    · exact .inr ⟨fun h => absurd h k6, fun h => absurd h k7, (hA (fun h => absurd h k6) (fun h => absurd h k7)).symm⟩
end Go.Proofs.YtgnidooihignfaaGreatDoor

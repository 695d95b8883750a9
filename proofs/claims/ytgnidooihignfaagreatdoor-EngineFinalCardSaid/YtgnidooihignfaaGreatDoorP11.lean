/- Engines: what is called, in all its kinds. -/
import Derived.Test.YtgnidooihignfaaGreatDoorP10
import Derived.Test.YtgnidooihignfaaGreatDoorP7
import Derived.Test.YtgnidooihignfaaGreatDoorP3
set_option linter.unusedSimpArgs false
set_option maxRecDepth 10000
namespace Go.Proofs.YtgnidooihignfaaGreatDoor
open Go Go.Ab

theorem do_pru (e f : Eng) (b : Block) (a : Att) (c : Ask) (he : e.few) (ho : e.ok) (hm : mayE e = true)
    (y : CalE Tryz.prog 70 [.ptr 0 [] 0] 3 (prH e b a c e.k.length e.j.length (e.k.map Link.av) (e.j.map Check.av)) (.int .i64 0) [(0, .var (workA f b a c))]) : CalT Tryz.prog 0 tabV 68 [workA e b a c, .fn (.func 70) [] []] (.tup [f.av, .int .i64 0]) := by
  have x1 := may_t e he ho
  rw [hm] at x1
  have o1 := own_o e he
  unfold prH at y
  unfold ownV ownH at o1
  have hR : Tryz.f68.results.toList = [.cell 4 38, .tmp 5] := rfl
  refine calE_tr Tryz.func68 rfl fun E hE hP => ?_
  refine mr ?_
  refine mr ?_
  refine mr ?_
  refine Tr.wk (Wk.frzH [145, 146, 147, 148, 149]) ?_
  simp only [frzHP, frzA, AV.frz, AV.frzL, List.map_cons, List.map_nil, go_sem, seval]
  refine mr ?_
  refine mC ?_
  refine mC ?_
  first | apply tr_m (by rw [hE]; rfl) | (refine Tr.seq ?_; apply tr_m (by rw [hE]; rfl))
  intro Q hQ
  simp only [go_sem, seval]
  refine mV ?_
  (refine vm_op ?_); intro r hr; simp only [go_sem, seval]
  refine call_eff (fun | 0 => 1 | 1 => 150 | 2 => 151 | n => n) [false] [] rfl rfl rfl rfl (enters_of Tryz.func70 (by kernel_rfl) rfl) (y.2) rfl rfl (by repeat' (first | exact rfl | exact trivial | constructor)) rfl rfl rfl ?_
  simp only [renH_nil, renH_cons, effR, go_sem, seval]
  subst hr
  refine mV ?_
  exact hQ
  exact mX
theorem rawb_no (e : Eng) (b : Block) (a : Att) (c : Ask) (h : isOf c.vals 81 1 = false) : CalE Tryz.prog 86 [.ptr 0 [] 0] 2 (workH e b a c) (.int .i64 2) (workH e b a c) := by
  have c1 : Cal Tryz.prog 152 [.sl (c.vals.map bav) false] (.tup [zBlock.av, .bool false]) := by
    have := And.intro (enters_of Tryz.func152 (by kernel_rfl) rfl) (block_pure c.vals)
    rw [blkR, h] at this
    exact this
  unfold workH
  have hR : Tryz.f86.results.toList = [.tmp 2] := rfl
  refine calE_tr Tryz.func86 rfl fun E hE hP => ?_
  exact mX
theorem rawb_i (e : Eng) (b : Block) (a : Att) (c : Ask) (i : Int) (h : isOf c.vals 81 1 = true) (y1 : CalE Tryz.prog 69 [.ptr 0 [] 0] 2 (workH e (blockOf c.vals) a c) (.int .i64 i) (workH e (blockOf c.vals) a c)) : CalE Tryz.prog 86 [.ptr 0 [] 0] 2 (workH e b a c) (.int .i64 i) (workH e (blockOf c.vals) a c) := by
  have c1 : Cal Tryz.prog 152 [.sl (c.vals.map bav) false] (.tup [(blockOf c.vals).av, .bool true]) := by
    have := And.intro (enters_of Tryz.func152 (by kernel_rfl) rfl) (block_pure c.vals)
    rw [blkR, h] at this
    exact this
  generalize blockOf c.vals = b2 at *
  unfold workH at y1 ⊢
  have hR : Tryz.f86.results.toList = [.tmp 2] := rfl
  refine calE_tr Tryz.func86 rfl fun E hE hP => ?_
  exact mX
theorem do_rawe (e : Eng) (b b2 : Block) (a : Att) (c : Ask) (i : Int) (hi : decide (i = 0) = false) (he : e.few) (ho : e.ok) (hm : mayE e = true)
    (y : CalE Tryz.prog 86 [.ptr 0 [] 0] 2 (workH e b a c) (.int .i64 i) (workH e b2 a c)) : CalT Tryz.prog 0 tabV 68 [workA e b a c, .fn (.func 86) [] []] (.tup [e.av, .int .i64 i]) := by
  have x1 := may_t e he ho
  rw [hm] at x1
  have o1 := own_o e he
  unfold workH at y
  unfold ownV ownH at o1
  have ff := hi
  have hR : Tryz.f68.results.toList = [.cell 4 38, .tmp 5] := rfl
  refine calE_tr Tryz.func68 rfl fun E hE hP => ?_
  refine mr ?_
  refine mr ?_
  refine mr ?_
  refine Tr.wk (Wk.frzH [145, 146, 147, 149, 150, 151]) ?_
  simp only [frzHP, frzA, AV.frz, AV.frzL, List.map_cons, List.map_nil, go_sem, seval]
  refine mr ?_
  refine mC ?_
  refine mC ?_
  first | apply tr_m (by rw [hE]; rfl) | (refine Tr.seq ?_; apply tr_m (by rw [hE]; rfl))
  intro Q hQ
  simp only [go_sem, seval]
  refine mV ?_
  (refine vm_op ?_); intro r hr; simp only [go_sem, seval]
  refine call_eff (fun | 0 => 1 | 1 => 148 | n => n) [false] [] rfl rfl rfl rfl (enters_of Tryz.func86 (by kernel_rfl) rfl) (y.2) rfl rfl (by repeat' (first | exact rfl | exact trivial | constructor)) rfl rfl rfl ?_
  simp only [renH_nil, renH_cons, effR, go_sem, seval]
  subst hr
  refine mV ?_
  exact hQ
  have c1 := own_p e he
  exact mX
theorem rawa_no (e : Eng) (b : Block) (a : Att) (c : Ask) (h : isOf c.vals 123 2 = false) : CalE Tryz.prog 87 [.ptr 1 [] 0] 2 (wH e b a c) (.int .i64 2) (wH e b a c) := by
  have c1 : Cal Tryz.prog 153 [.sl (c.vals.map bav) false] (.tup [zAtt.av, .bool false]) := by
    have := And.intro (enters_of Tryz.func153 (by kernel_rfl) rfl) (att_pure c.vals)
    rw [attR, h] at this
    exact this
  unfold wH
  have hR : Tryz.f87.results.toList = [.tmp 2] := rfl
  refine calE_tr Tryz.func87 rfl fun E hE hP => ?_
  exact mX
theorem rawa_i (e f : Eng) (b : Block) (a : Att) (c : Ask) (i : Int) (h : isOf c.vals 123 2 = true) (y1 : CalE Tryz.prog 97 [.ptr 1 [] 0] 2 (wH e b (attOf c.vals) c) (.int .i64 i) (wH f b (attOf c.vals) c)) : CalE Tryz.prog 87 [.ptr 1 [] 0] 2 (wH e b a c) (.int .i64 i) (wH f b (attOf c.vals) c) := by
  have c1 : Cal Tryz.prog 153 [.sl (c.vals.map bav) false] (.tup [(attOf c.vals).av, .bool true]) := by
    have := And.intro (enters_of Tryz.func153 (by kernel_rfl) rfl) (att_pure c.vals)
    rw [attR, h] at this
    exact this
  generalize attOf c.vals = a2 at *
  unfold wH at y1 ⊢
  have hR : Tryz.f87.results.toList = [.tmp 2] := rfl
  refine calE_tr Tryz.func87 rfl fun E hE hP => ?_
  exact mX
theorem do_r0 (e f : Eng) (b : Block) (a a2 : Att) (c : Ask) (he : e.few) (ho : e.ok) (hm : mayE e = true) (y : CalE Tryz.prog 87 [.ptr 1 [] 0] 2 (wH e b a c) (.int .i64 0) (wH f b a2 c)) : CalT Tryz.prog 0 tabV 68 [workA e b a c, .fn (.func 87) [] []] (.tup [f.av, .int .i64 0]) := by
  have x1 := may_t e he ho
  rw [hm] at x1
  have c1 := own_p e he
  unfold wH at y
  have hR : Tryz.f68.results.toList = [.cell 4 38, .tmp 5] := rfl
  refine calE_tr Tryz.func68 rfl fun E hE hP => ?_
  refine mr ?_
  refine mr ?_
  refine mr ?_
  refine mr ?_
  refine mC ?_
  refine mC ?_
  first | apply tr_m (by rw [hE]; rfl) | (refine Tr.seq ?_; apply tr_m (by rw [hE]; rfl))
  intro Q hQ
  simp only [go_sem, seval]
  refine mV ?_
  (refine vm_op ?_); intro r hr; simp only [go_sem, seval]
  refine call_eff (fun n => n) [false] [] rfl rfl rfl rfl (enters_of Tryz.func87 (by kernel_rfl) rfl) (y.2) rfl rfl (by repeat' (first | exact rfl | exact trivial | constructor)) rfl rfl rfl ?_
  simp only [renH_nil, renH_cons, effR, go_sem, seval]
  subst hr
  refine mV ?_
  exact hQ
  exact mX
theorem do_ri (e f : Eng) (b : Block) (a a2 : Att) (c : Ask) (i : Int) (hi : decide (i = 0) = false) (he : e.few) (ho : e.ok) (hm : mayE e = true) (y : CalE Tryz.prog 87 [.ptr 1 [] 0] 2 (wH e b a c) (.int .i64 i) (wH f b a2 c)) : CalT Tryz.prog 0 tabV 68 [workA e b a c, .fn (.func 87) [] []] (.tup [e.av, .int .i64 i]) := by
  have ff := hi
  have x1 := may_t e he ho
  rw [hm] at x1
  have c1 := own_p e he
  unfold wH at y
  have hR : Tryz.f68.results.toList = [.cell 4 38, .tmp 5] := rfl
  refine calE_tr Tryz.func68 rfl fun E hE hP => ?_
  refine mr ?_
  refine mr ?_
  refine mr ?_
  refine mr ?_
  refine mC ?_
  refine mC ?_
  first | apply tr_m (by rw [hE]; rfl) | (refine Tr.seq ?_; apply tr_m (by rw [hE]; rfl))
  intro Q hQ
  simp only [go_sem, seval]
  refine mV ?_
  (refine vm_op ?_); intro r hr; simp only [go_sem, seval]
  refine call_eff (fun n => n) [false] [] rfl rfl rfl rfl (enters_of Tryz.func87 (by kernel_rfl) rfl) (y.2) rfl rfl (by repeat' (first | exact rfl | exact trivial | constructor)) rfl rfl rfl ?_
  simp only [renH_nil, renH_cons, effR, go_sem, seval]
  subst hr
  refine mV ?_
  exact hQ
  exact mX
theorem Do_1 (e f : Eng) (i : Int) (c : Ask) (hk : c.kind = 1) (x1 : CalT Tryz.prog 0 tabV 68 [workA e zBlock zAtt c, .fn (.func 87) [] []] (.tup [f.av, .int .i64 i])) : CalT Tryz.prog 0 tabV 32 [e.av, c.av] (.tup [f.av, .int .i64 i]) := by
  obtain ⟨k, v, a, b, s⟩ := c
  simp only at hk
  subst hk
  have hR : Tryz.f32.results.toList = [.cell 4 38, .tmp 5] := rfl
  refine calE_tr Tryz.func32 rfl fun E hE hP => ?_
  refine mW ?_
  first | apply tr_md mixed [81, 17, 1] rfl (by rw [hE]; rfl) (by kernel_rfl) | (refine Tr.seq ?_; apply tr_md mixed [81, 17, 1] rfl (by rw [hE]; rfl) (by kernel_rfl))
  intro Q hQ
  simp only [go_sem, seval]
  iterate 7 ((refine vd2_q rfl ?_); intro r hr; simp only [go_sem, seval]; subst hr)
  (refine vd2_x rfl ?_); intro r hr; simp only [go_sem, seval]
  refine call_eff (fun n => n) [true, true] [] rfl rfl rfl rfl (enters_of Tryz.func68 (by kernel_rfl) rfl) (x1.2) rfl rfl (by repeat' (first | exact rfl | exact trivial | constructor)) rfl rfl rfl ?_
  simp only [renH_nil, renH_cons, effR, go_sem, seval]
  subst hr
  iterate 2 ((refine vd2_q rfl ?_); intro r hr; simp only [go_sem, seval]; subst hr)
  (refine vd2_x rfl ?_); intro r hr; simp only [go_sem, seval]; subst hr
  (refine vd2_q rfl ?_); intro r hr; simp only [go_sem, seval]; subst hr
  exact hQ
  exact mX
theorem Do_2 (e f : Eng) (i : Int) (c : Ask) (hk : c.kind = 2) (x1 : CalT Tryz.prog 0 tabV 68 [workA e zBlock zAtt c, .fn (.func 88) [] []] (.tup [f.av, .int .i64 i])) : CalT Tryz.prog 0 tabV 32 [e.av, c.av] (.tup [f.av, .int .i64 i]) := by
  obtain ⟨k, v, a, b, s⟩ := c
  simp only at hk
  subst hk
  have hR : Tryz.f32.results.toList = [.cell 4 38, .tmp 5] := rfl
  refine calE_tr Tryz.func32 rfl fun E hE hP => ?_
  refine mW ?_
  first | apply tr_md mixed [81, 17, 1] rfl (by rw [hE]; rfl) (by kernel_rfl) | (refine Tr.seq ?_; apply tr_md mixed [81, 17, 1] rfl (by rw [hE]; rfl) (by kernel_rfl))
  intro Q hQ
  simp only [go_sem, seval]
  iterate 7 ((refine vd2_q rfl ?_); intro r hr; simp only [go_sem, seval]; subst hr)
  (refine vd2_x rfl ?_); intro r hr; simp only [go_sem, seval]
  refine call_eff (fun n => n) [true, true] [] rfl rfl rfl rfl (enters_of Tryz.func68 (by kernel_rfl) rfl) (x1.2) rfl rfl (by repeat' (first | exact rfl | exact trivial | constructor)) rfl rfl rfl ?_
  simp only [renH_nil, renH_cons, effR, go_sem, seval]
  subst hr
  iterate 2 ((refine vd2_q rfl ?_); intro r hr; simp only [go_sem, seval]; subst hr)
  (refine vd2_x rfl ?_); intro r hr; simp only [go_sem, seval]; subst hr
  (refine vd2_q rfl ?_); intro r hr; simp only [go_sem, seval]; subst hr
  exact hQ
  exact mX
theorem Do_3 (e f : Eng) (i : Int) (c : Ask) (hk : c.kind = 3) (x1 : CalT Tryz.prog 0 tabV 68 [workA e zBlock zAtt c, .fn (.func 70) [] []] (.tup [f.av, .int .i64 i])) : CalT Tryz.prog 0 tabV 32 [e.av, c.av] (.tup [f.av, .int .i64 i]) := by
  obtain ⟨k, v, a, b, s⟩ := c
  simp only at hk
  subst hk
  have hR : Tryz.f32.results.toList = [.cell 4 38, .tmp 5] := rfl
  refine calE_tr Tryz.func32 rfl fun E hE hP => ?_
  refine mW ?_
  first | apply tr_md mixed [81, 17, 1] rfl (by rw [hE]; rfl) (by kernel_rfl) | (refine Tr.seq ?_; apply tr_md mixed [81, 17, 1] rfl (by rw [hE]; rfl) (by kernel_rfl))
  intro Q hQ
  simp only [go_sem, seval]
  iterate 7 ((refine vd2_q rfl ?_); intro r hr; simp only [go_sem, seval]; subst hr)
  (refine vd2_x rfl ?_); intro r hr; simp only [go_sem, seval]
  refine call_eff (fun n => n) [true, true] [] rfl rfl rfl rfl (enters_of Tryz.func68 (by kernel_rfl) rfl) (x1.2) rfl rfl (by repeat' (first | exact rfl | exact trivial | constructor)) rfl rfl rfl ?_
  simp only [renH_nil, renH_cons, effR, go_sem, seval]
  subst hr
  iterate 2 ((refine vd2_q rfl ?_); intro r hr; simp only [go_sem, seval]; subst hr)
  (refine vd2_x rfl ?_); intro r hr; simp only [go_sem, seval]; subst hr
  (refine vd2_q rfl ?_); intro r hr; simp only [go_sem, seval]; subst hr
  exact hQ
  exact mX
theorem Do_x (e : Eng) (c : Ask) (he : e.few) (hk : c.kind < 0 ∨ 4 ≤ c.kind) : CalT Tryz.prog 0 tabV 32 [e.av, c.av] (.tup [e.av, .int .i64 1]) := by
  have c1 := own_p e he
  by_cases h0 : c.kind < 0
  · have e0 : decide (c.kind < 0) = true := decide_eq_true h0
    have ff := e0
    have hR : Tryz.f32.results.toList = [.cell 4 38, .tmp 5] := rfl
    refine calE_tr Tryz.func32 rfl fun E hE hP => ?_
    exact mX
  · have e0 : decide (c.kind < 0) = false := decide_eq_false h0
    have e1 : decide (4 ≤ c.kind) = true := decide_eq_true (by omega)
    have ff := And.intro e0 e1
    have hR : Tryz.f32.results.toList = [.cell 4 38, .tmp 5] := rfl
    refine calE_tr Tryz.func32 rfl fun E hE hP => ?_
    exact mX
theorem more_closed {t : List Node} {l : List Link} {b : List Int} {js : List Check} (h : (moreR t l b js).length = js.length) : (countL t l b).find? (goB js) = none := by
  cases hf : (countL t l b).find? (goB js) with
  | none => rfl
  | some a =>
    have h1 := (moreF_some hf).1
    have h2 : ∀ (n : Nat) (out : List Check), out.length ≤ (moreN (countL t l b) n out).length := fun n => by
      induction n with
      | zero => exact fun out => Nat.le_refl _
      | succ n ih =>
        intro out
        rw [moreN]
        split
        · exact Nat.le_refl _
        · next a _ =>
          have := ih (out ++ [a.t])
          rw [List.length_append, List.length_singleton] at this
          omega
    unfold moreR at h
    rw [h1] at h
    have h3 := h2 (leftN (countL t l b) (js ++ [a.t])) (js ++ [a.t])
    rw [List.length_append, List.length_singleton] at h3
    unfold moreF at h
    omega
theorem closed_use {t : List Node} {l : List Link} {b : List Int} {js : List Check} (h : (countL t l b).find? (goB js) = none) {a : Link} (ha : a ∈ countL t l b) (hs : a.s ∈ js) : a.t ∈ js := by
  have h1 := List.find?_eq_none.1 h a ha
  unfold goB at h1
  rw [decide_eq_true hs, Bool.true_and, Bool.not_eq_true'] at h1
  simpa using h1
theorem lmay_filter {l : List Link} (p : Link → Bool) (h : lmayB l = true) : lmayB (l.filter p) = true := by
  obtain ⟨m1, m2, m3⟩ := may_spec h
  have hap := keys_apart l.length (Nat.le_refl _) m3
  have hp : List.Pairwise (fun a b => keyOf a ≠ keyOf b) l := by
    rw [List.pairwise_iff_getElem]
    intro i j hi hj hij
    exact hap i j _ _ hij hj (List.getElem?_eq_getElem hi) (List.getElem?_eq_getElem hj)
  have hq := hp.sublist (List.filter_sublist (p := p))
  rw [List.pairwise_iff_getElem] at hq
  refine may_of (Nat.le_trans (List.length_filter_le _ _) m1) (fun a ha => m2 a (List.mem_filter.1 ha).1) (places_len fun i j a b hij ha hb => ?_)
  obtain ⟨h1, rfl⟩ := List.getElem?_eq_some_iff.1 ha
  obtain ⟨h2, rfl⟩ := List.getElem?_eq_some_iff.1 hb
  exact hq i j h1 h2 hij

def finI (e : Eng) : Int := findR e.t e.fin.root
theorem prune_cut {e : Eng} (h : mayE e = true) : CutAt e.t (finI e) := by
  obtain ⟨f1, f2, f3, f4, f5, f6, f7, f8, f9, f10, f11⟩ := mayE_all.1 h
  have h0 := (lost_all.1 f8).1 e.fin f6
  have hr := findR_range e.t e.fin.root
  exact ⟨(fit_spec f1).1, h0, by unfold finI; omega⟩
theorem gone_in {e : Eng} (h : mayE e = true) (c : Check) : goneB (rootsT (cutE e)) c = !inC e.t (finI e) c.root := by
  unfold goneB
  congr 1
  have h1 := (prune_cut h).in_roots c.root
  have h2 : (c.root ∈ rootsT (cutE e)) ↔ inC e.t (finI e) c.root = true := h1
  cases hc : inC e.t (finI e) c.root
  · exact decide_eq_false (fun hh => by rw [h2.1 hh] at hc; cases hc)
  · exact decide_eq_true (h2.2 hc)
theorem link_stays {e : Eng} (h : mayE e = true) {a : Link} : a ∈ (pruneE e).k ↔ a ∈ e.k ∧ inC e.t (finI e) a.s.root = true ∧ inC e.t (finI e) a.t.root = true ∧ e.fin.epoch < a.t.epoch := by
  show a ∈ delL (linkGone (rootsT (cutE e)) e.fin.epoch) e.k ↔ _
  unfold delL linkGone
  rw [List.mem_filter, gone_in h, gone_in h]
  cases inC e.t (finI e) a.s.root <;> cases inC e.t (finI e) a.t.root <;> simp
theorem check_stays {e : Eng} (h : mayE e = true) {c : Check} : c ∈ (pruneE e).j ↔ c ∈ e.j ∧ inC e.t (finI e) c.root = true ∧ e.fin.epoch ≤ c.epoch := by
  show c ∈ delL (checkGone (rootsT (cutE e)) e.fin.epoch) e.j ↔ _
  unfold delL checkGone
  rw [List.mem_filter, gone_in h]
  cases inC e.t (finI e) c.root <;> simp
theorem fin_inC {e : Eng} (h : mayE e = true) : inC e.t (finI e) e.fin.root = true := by
  have hc := prune_cut h
  unfold inC
  rw [show findR e.t e.fin.root = finI e from rfl, hc.self, decide_eq_true hc.low]
  rfl
theorem prune_fit {e : Eng} (h : mayE e = true) : fitB (cutE e) (dropE e) e.o e.b = true := by
  obtain ⟨hm, hv, hS, hl⟩ := fit_spec (mayE_all.1 h).1
  have hc := prune_cut h
  unfold fitB
  rw [show mayB (cutE e) = true from hc.may', show vmayB (dropE e) e.o = true from dropL_may hv, hS, decide_eq_true (show (dropE e).length = e.b.length by unfold dropE dropL; rw [List.length_map, hl])]
  rfl
theorem count_cut {e : Eng} (h : mayE e = true) {a : Link} (ha : a ∈ countL (cutE e) (pruneE e).k e.b) : a ∈ (pruneE e).k ∧ a ∈ countL e.t e.k e.b := by
  have hk := countL_in ha
  refine ⟨hk, ?_⟩
  obtain ⟨h1, h2, h3, h4⟩ := (link_stays h).1 hk
  obtain ⟨f1, f2, f3, f4, f5, f6, f7, f8, f9, f10, f11⟩ := mayE_all.1 h
  obtain ⟨hm, hv, hS, hl⟩ := fit_spec f1
  unfold countL at ha ⊢
  rw [show toldR e.t e.k e.b = true by unfold toldR; rw [hm, f4, hS]; rfl, if_pos rfl]
  split at ha
  · have hcb := (List.mem_filter.1 ha).2
    refine List.mem_filter.2 ⟨h1, ?_⟩
    unfold countB at hcb ⊢
    rwa [show behindB (cutE e) a.t a.s = behindB e.t a.t a.s from (prune_cut h).behind h3 h2] at hcb
  · cases ha
theorem may_prune {e : Eng} (h : mayE e = true) : mayE (pruneE e) = true := by
  obtain ⟨f1, f2, f3, f4, f5, f6, f7, f8, f9, f10, f11⟩ := mayE_all.1 h
  have hc := prune_cut h
  have hcl := more_closed f10
  have hfound : ∀ r, inC e.t (finI e) r = true → 0 ≤ findR (cutE e) r := fun r hr => by
    rw [show findR (cutE e) r = _ from hc.find' r, hr, if_pos rfl]
    omega
  refine mayE_all.2 ⟨prune_fit h, rfl, f3, lmay_filter _ f4, f5, (check_stays h).2 ⟨f6, fin_inC h, Int.le_refl _⟩, f7, ?_, f9.sublist List.filter_sublist, ?_, ?_⟩
  · refine lost_all.2 ⟨fun c hc => hfound _ ((check_stays h).1 hc).2.1, fun a ha => ?_, fun x hx hh => ?_⟩
    · obtain ⟨_, h2, h3, _⟩ := (link_stays h).1 ha
      exact ⟨hfound _ h2, hfound _ h3⟩
    · obtain ⟨y, hy, rfl⟩ := List.mem_map.1 hx
      unfold dropX at hh ⊢
      split at hh
      · next hr =>
        rw [if_pos hr]
        exact hfound _ ((hc.in_roots y.root).1 hr)
      · cases hh
  · show (moreR (cutE e) (pruneE e).k e.b (pruneE e).j).length = (pruneE e).j.length
    rw [moreR, moreF_none (List.find?_eq_none.2 fun a ha hg => ?_)]
    obtain ⟨hk, hct⟩ := count_cut h ha
    obtain ⟨_, _, h3, h4⟩ := (link_stays h).1 hk
    obtain ⟨h5, h6⟩ := goB_spec hg
    have h7 := closed_use hcl hct ((check_stays h).1 h5).1
    exact h6 ((check_stays h).2 ⟨h7, h3, by omega⟩)
  · show nextR (cutE e) (pruneE e).k e.b (pruneE e).j e.fin = e.fin
    have htop := (next_top e.t e.fin (finalsR e.t e.k e.b e.j) e.fin).2
    rw [show (finalsR e.t e.k e.b e.j).foldl (nextS e.t e.fin) e.fin = e.fin from f11] at htop
    unfold nextR
    refine foldl_id _ fun c hcf => ?_
    unfold nextS
    refine if_neg fun hh => ?_
    simp only [Bool.and_eq_true, decide_eq_true_eq] at hh
    obtain ⟨hcj, hfin⟩ := List.mem_filter.1 hcf
    obtain ⟨g1, g2, g3⟩ := (check_stays h).1 hcj
    have hb := hh.2.1
    rw [show behindB (cutE e) c e.fin = behindB e.t c e.fin from hc.behind g2 (fin_inC h)] at hb
    have hin : c ∈ finalsR e.t e.k e.b e.j := by
      refine List.mem_filter.2 ⟨g1, ?_⟩
      unfold finB at hfin ⊢
      rw [List.any_eq_true] at hfin ⊢
      obtain ⟨a, ha, hl⟩ := hfin
      obtain ⟨_, hct⟩ := count_cut h ha
      refine ⟨a, hct, ?_⟩
      unfold linkF at hl ⊢
      simp only [Bool.and_eq_true, decide_eq_true_eq] at hl ⊢
      exact ⟨((check_stays h).1 hl.1).1, hl.2⟩
    have := htop c hin hh.1 hb
    omega
theorem prune_wf {e : Eng} (h : mayE e = true) (hw : e.wf) : (pruneE e).wf :=
  ⟨⟨hw.ok.b, fun a ha => hw.ok.kL a ((link_stays h).1 ha).1, fun a ha => hw.ok.kC a ((link_stays h).1 ha).1⟩, hw.o, hw.late, hw.now⟩
theorem prune_few {e : Eng} (h : mayE e = true) (he : e.few) : (pruneE e).few := by
  have hl := (may_len (prune_cut h).may').2
  have hl' : (cutE e).length ≤ 12 := hl
  refine ⟨by show (cutE e).length ≤ 100; omega, he.b, ?_, ?_, he.late, ?_, ?_⟩
  · show (dropE e).length ≤ 100
    unfold dropE dropL
    rw [List.length_map]
    exact he.vl
  · show (weights _ _ _).length ≤ 100
    rw [weights_len]
    omega
  · exact Nat.le_trans (List.length_filter_le _ _) he.k
  · exact Nat.le_trans (List.length_filter_le _ _) he.j

def doR (e : Eng) (c : Ask) : Eng × Int :=
  if c.kind < 0 ∨ 4 ≤ c.kind then (e, 1) else if mayE e = false then (e, 1)
  else if c.kind = 0 then (if isOf c.vals 81 1 = true then blockR e (blockOf c.vals) else (e, 2))
  else if c.kind = 1 then (if isOf c.vals 123 2 = true then attE e (attOf c.vals) else (e, 2))
  else if c.kind = 2 then (if e.now = 1099511627776 then (e, 3) else (tickW e, 0))
  else (pruneE e, 0)
theorem numOf_in (bs : List UInt8) : 0 ≤ numOf bs ∧ numOf bs < 18446744073709551616 := by
  have key : ∀ (bs : List UInt8) (n : Int), (0 ≤ n ∧ n < 18446744073709551616) → 0 ≤ bs.foldl ostep n ∧ bs.foldl ostep n < 18446744073709551616 := fun bs => by
    induction bs with
    | nil => exact fun n h => h
    | cons b bs ih =>
      intro n _
      rw [List.foldl_cons]
      refine ih _ ?_
      show 0 ≤ orU _ _ ∧ orU _ _ < _
      rw [orU_eq]
      exact inU_nat _
  exact key bs 0 ⟨by omega, by omega⟩
theorem attOf_wf (l : List UInt8) : (attOf l).wf := ⟨numOf_in _, numOf_in _, numOf_in _⟩
theorem do_rawb (e : Eng) (c : Ask) (he : e.few) (ho : e.ok) (hm : mayE e = true) (hr : isOf c.vals 81 1 = true) : CalT Tryz.prog 0 tabV 68 [workA e zBlock zAtt c, .fn (.func 86) [] []] (.tup [(blockR e (blockOf c.vals)).1.av, .int .i64 (blockR e (blockOf c.vals)).2]) := by
  have h0 : ¬ mayE e = false := by rw [hm]; decide
  have hb : blkR c.vals = .tup [(blockOf c.vals).av, .bool true] := by rw [blkR, hr]; rfl
  generalize hB : blockOf c.vals = b at *
  by_cases h1 : e.now < b.slot
  · have er : blockR e b = (e, 7) := by rw [blockR, if_neg h0, if_pos h1]
    rw [er]
    have y := rawb_i e zBlock zAtt c 7 hr (by rw [hB]; exact blk_7 e b zAtt c (decide_eq_true h1))
    exact do_rawe e zBlock _ zAtt c 7 rfl he ho hm y
  · have d1 : decide (e.now < b.slot) = false := decide_eq_false h1
    by_cases h2 : (insR e.t b).2 = 0
    · obtain ⟨e1, e2⟩ := insR_ok h2
      have hx : insR e.t b = ((insR e.t b).1, 0) := by rw [← h2]
      have hlen : 1 ≤ (insR e.t b).1.length ∧ (insR e.t b).1.length ≤ 1000 := by
        have := e2.2.1
        rw [e1, List.length_append, List.length_singleton]
        omega
      cases h3 : aboveR (insR e.t b).1 (findR e.t e.fin.root) (((insR e.t b).1.length - 1 : Nat) : Int)
      · have er : blockR e b = (e, 8) := by rw [blockR, if_neg h0, if_neg h1, if_neg (fun h => h h2), if_pos h3]
        rw [er]
        have y := rawb_i e zBlock zAtt c 8 hr (by rw [hB]; exact blk_8 e b zAtt c he d1 _ hx hlen h3)
        exact do_rawe e zBlock _ zAtt c 8 rfl he ho hm y
      · have er : blockR e b = (⟨(insR e.t b).1, e.b, e.vl, e.o, e.w ++ [0], e.late, e.k, e.j, e.fin, e.now⟩, 0) := by rw [blockR, if_neg h0, if_neg h1, if_neg (fun h => h h2), if_neg (by rw [h3]; decide)]
        rw [er]
        have y := raw_ok e zBlock b zAtt c _ hb (blk_0 e b zAtt c he d1 _ hx hlen (by have := he.w; omega) h3)
        exact do_raw e zBlock b zAtt c _ he ho hm y
    · have er : blockR e b = (e, (insR e.t b).2) := by rw [blockR, if_neg h0, if_neg h1, if_pos h2]
      rw [er]
      have y := rawb_i e zBlock zAtt c (insR e.t b).2 hr (by rw [hB]; exact blk_e e b zAtt c he d1 (decide_eq_false h2))
      exact do_rawe e zBlock _ zAtt c _ (decide_eq_false h2) he ho hm y
theorem do_rawa (e : Eng) (c : Ask) (he : e.few) (hw : e.wf) (hm : mayE e = true) (hr : isOf c.vals 123 2 = true) : CalT Tryz.prog 0 tabV 68 [workA e zBlock zAtt c, .fn (.func 87) [] []] (.tup [(attE e (attOf c.vals)).1.av, .int .i64 (attE e (attOf c.vals)).2]) := by
  have y := rawa_i e _ zBlock zAtt c _ hr (att_e e zBlock c (attOf c.vals) (may_good he hw hm) (attOf_wf _) (by have := he.late; omega))
  unfold attE
  rw [hm, if_neg (by decide)]
  by_cases h : (attW e (attOf c.vals)).2 = 0
  · rw [if_pos h]
    rw [h] at y
    exact do_r0 e _ zBlock zAtt _ c he hw.ok hm y
  · rw [if_neg h]
    exact do_ri e _ zBlock zAtt _ c _ (decide_eq_false h) he hw.ok hm y
theorem prune_e (e : Eng) (b : Block) (x : Att) (c : Ask) (he : e.few) (hw : e.wf) (hm : mayE e = true) : CalE Tryz.prog 70 [.ptr 0 [] 0] 3 (prH e b x c e.k.length e.j.length (e.k.map Link.av) (e.j.map Check.av)) (.int .i64 0) [(0, .var (workA (pruneE e) b x c))] := by
  obtain ⟨_, hv, _, _⟩ := fit_spec (mayE_all.1 hm).1
  have h1 := he.t
  have h2 := he.vl
  have h3 := he.k
  have h4 := he.j
  have h5 : (cutE e).length ≤ 12 := (may_len (prune_cut hm).may').2
  exact prune_w e b x c (by omega) (by omega) (by omega) (by omega) (by omega) hv hw.ok.b (prune_fit hm)
theorem do32_t (e : Eng) (c : Ask) (he : e.few) (hw : e.wf) (hl : mayE e = true → Live e) : CalT Tryz.prog 0 tabV 32 [e.av, c.av] (.tup [(doR e c).1.av, .int .i64 (doR e c).2]) := by
  unfold doR
  by_cases hk : c.kind < 0 ∨ 4 ≤ c.kind
  · rw [if_pos hk]
    exact Do_x e c he hk
  rw [if_neg hk, ]
  rw [not_or] at hk
  by_cases hm : mayE e = false
  · rw [if_pos hm]
    by_cases k0 : c.kind = 0
    · exact Do_0 e e 1 c k0 (do_no e zBlock zAtt c 86 he hw.ok hm)
    by_cases k1 : c.kind = 1
    · exact Do_1 e e 1 c k1 (do_no e zBlock zAtt c 87 he hw.ok hm)
    by_cases k2 : c.kind = 2
    · exact Do_2 e e 1 c k2 (do_no e zBlock zAtt c 88 he hw.ok hm)
    · exact Do_3 e e 1 c (by omega) (do_no e zBlock zAtt c 70 he hw.ok hm)
  rw [if_neg hm]
  have hm : mayE e = true := by simpa using hm
  by_cases k0 : c.kind = 0
  · rw [if_pos k0]
    cases hr : isOf c.vals 81 1
    · rw [if_neg (by decide)]
      exact Do_0 e e 2 c k0 (do_rawe e zBlock zBlock zAtt c 2 rfl he hw.ok hm (rawb_no e zBlock zAtt c hr))
    · rw [if_pos rfl]
      exact Do_0 e _ _ c k0 (do_rawb e c he hw.ok hm hr)
  rw [if_neg k0]
  by_cases k1 : c.kind = 1
  · rw [if_pos k1]
    cases hr : isOf c.vals 123 2
    · rw [if_neg (by decide)]
      exact Do_1 e e 2 c k1 (do_ri e e zBlock zAtt zAtt c 2 rfl he hw.ok hm (rawa_no e zBlock zAtt c hr))
    · rw [if_pos rfl]
      exact Do_1 e _ _ c k1 (do_rawa e c he hw hm hr)
  rw [if_neg k1]
  by_cases k2 : c.kind = 2
  · rw [if_pos k2]
    by_cases hn : e.now = 1099511627776
    · rw [if_pos hn]
      exact Do_2 e e 3 c k2 (do_bi e e zBlock zAtt c 3 rfl he hw.ok hm (tick_no e zBlock zAtt c (decide_eq_true hn)))
    · rw [if_neg hn]
      have h0 := hw.now
      have h5 := (mayE_all.1 hm).2.2.2.2.1
      have y := tick_w e zBlock zAtt c (by have := he.late; omega) (decide_eq_false hn) (wrapU_lt (by omega) (by omega)) (fun a ha => hw.late a (List.mem_filter.1 ha).1) (live_tick (hl hm) (by omega)).2
      exact Do_2 e _ 0 c k2 (do_b0 e _ zBlock zAtt c he hw.ok hm y)
  rw [if_neg k2]
  exact Do_3 e _ 0 c (by omega) (do_pru e _ zBlock zAtt c he hw.ok hm (prune_e e zBlock zAtt c he hw hm))
theorem attE_err {e : Eng} {a : Att} (h : (attE e a).2 ≠ 0) : (attE e a).1 = e := by
  unfold attE at h ⊢
  split
  · rfl
  · next hm =>
    rw [if_neg hm] at h
    split
    · next h0 => rw [if_pos h0] at h; exact absurd rfl h
    · rfl
theorem doR_err {e : Eng} {c : Ask} (h : (doR e c).2 ≠ 0) : (doR e c).1 = e := by
  unfold doR at h ⊢
  split
  · rfl
  · next h1 =>
    rw [if_neg h1] at h
    split
    · rfl
    · next h2 =>
      rw [if_neg h2] at h
      split
      · next h3 =>
        rw [if_pos h3] at h
        split
        · next h4 => rw [if_pos h4] at h; exact blockR_err h
        · rfl
      · next h3 =>
        rw [if_neg h3] at h
        split
        · next h4 =>
          rw [if_pos h4] at h
          split
          · next h5 => rw [if_pos h5] at h; exact attE_err h
          · rfl
        · next h4 =>
          rw [if_neg h4] at h
          split
          · next h5 =>
            rw [if_pos h5] at h
            split
            · rfl
            · next h6 => rw [if_neg h6] at h; exact absurd rfl h
          · next h5 => rw [if_neg h5] at h; exact absurd rfl h
theorem live_blk {e : Eng} {b : Block} (h : Live e) : Live (blockR e b).1 := by
  by_cases h0 : (blockR e b).2 = 0
  · obtain ⟨_, _, h1, h2, _⟩ := blockR_ok h0
    rw [h2]
    exact live_put h h1
  · rw [blockR_err h0]; exact h
/-- What may be, in bounds, with arguments in their ranges. -/
structure Fine (e : Eng) : Prop where
  may : mayE e = true
  wf : e.wf
  few : e.few
theorem Live.fine {e : Eng} (h : Live e) : Fine e := ⟨h.may, h.wf, h.few⟩
theorem fine_do {e : Eng} {c : Ask} (h : Live e) : Fine (doR e c).1 := by
  unfold doR
  split
  · exact h.fine
  split
  · exact h.fine
  split
  · split
    · exact (live_blk h).fine
    · exact h.fine
  split
  · split
    · exact (live_att h (attOf_wf _)).fine
    · exact h.fine
  split
  · split
    · exact h.fine
    · next hn =>
      have h5 := (mayE_all.1 h.may).2.2.2.2.1
      exact (live_tick h (by omega)).1.fine
  · exact ⟨may_prune h.may, prune_wf h.may h.wf, prune_few h.may h.few⟩

theorem estay_no (e : Eng) (he : fewE e = false ∨ e.ok) (c : Ask) (hc : c.vals.length ≤ 9223372036854775807) (h : fewE e = false ∨ (fewE e = true ∧ (mayE e = false ∨ (mayE e = true ∧ 200 < c.vals.length)))) : CalT Tryz.prog 0 tabV 7 [e.av, c.av] (.bool true) := by
  have x1 := awake17_t
  have c1 := few_c e
  rcases h with h | ⟨h1, h⟩
  · rw [h] at c1
    have hR : Tryz.f7.results.toList = [.tmp 4] := rfl
    refine calE_tr Tryz.func7 rfl fun E hE hP => ?_
    exact mX
  · have ho := he.resolve_left (by rw [h1]; decide)
    have x2 := may_t e (fewE_few h1) ho
    rw [h1] at c1
    rcases h with h2 | ⟨h2, h⟩
    · rw [h2] at x2
      have hR : Tryz.f7.results.toList = [.tmp 4] := rfl
      refine calE_tr Tryz.func7 rfl fun E hE hP => ?_
      exact mX
    · rw [h2] at x2
      have e1 : decide ((200 : Int) < (c.vals.length : Int)) = true := decide_eq_true (by omega)
      have ff := e1
      have hR : Tryz.f7.results.toList = [.tmp 4] := rfl
      refine calE_tr Tryz.func7 rfl fun E hE hP => ?_
      exact mX
set_option maxHeartbeats 2000000 in
theorem estay_w (e f : Eng) (c : Ask) (i : Int) (h1 : decide ((200 : Int) < (c.vals.length : Int)) = false) (c1 : Cal Tryz.prog 14 [e.av] (.bool true)) (x2 : CalT Tryz.prog 0 tabV 24 [e.av] (.bool true)) (x3 : CalT Tryz.prog 0 tabV 32 [e.av, c.av] (.tup [f.av, .int .i64 i]))
    (x4 : CalT Tryz.prog 0 tabV 24 [f.av] (.bool true)) (c2 : Cal Tryz.prog 33 [e.av, e.av] (.bool true)) (hi : i = 0 ∨ f = e) (hk : (0 ≤ c.kind ∧ c.kind ≤ 3) ∨ i = 1) : CalT Tryz.prog 0 tabV 7 [e.av, c.av] (.bool true) := by
  have x1 := awake17_t
  by_cases h0 : i = 0
  · subst h0
    have hk := hk.resolve_right (by omega)
    have e1 : decide ((0 : Int) ≤ c.kind) = true := decide_eq_true hk.1
    have e2 : decide (c.kind ≤ (3 : Int)) = true := decide_eq_true hk.2
    have ff := And.intro h1 (And.intro e1 e2)
    have hR : Tryz.f7.results.toList = [.tmp 4] := rfl
    refine calE_tr Tryz.func7 rfl fun E hE hP => ?_
    exact mX
  · have hf := hi.resolve_left h0
    subst hf
    have e0 : decide (i = 0) = false := decide_eq_false h0
    by_cases k0 : 0 ≤ c.kind
    · have e1 : decide ((0 : Int) ≤ c.kind) = true := decide_eq_true k0
      by_cases k1 : c.kind ≤ 3
      · have e2 : decide (c.kind ≤ (3 : Int)) = true := decide_eq_true k1
        have ff := And.intro h1 (And.intro e0 (And.intro e1 e2))
        have hR : Tryz.f7.results.toList = [.tmp 4] := rfl
        refine calE_tr Tryz.func7 rfl fun E hE hP => ?_
        exact mX
      · have e2 : decide (c.kind ≤ (3 : Int)) = false := decide_eq_false k1
        have hi1 : i = 1 := hk.resolve_left (fun h => k1 h.2)
        have e3 : decide (i = 1) = true := decide_eq_true hi1
        have ff := And.intro h1 (And.intro e0 (And.intro e1 (And.intro e2 e3)))
        have hR : Tryz.f7.results.toList = [.tmp 4] := rfl
        refine calE_tr Tryz.func7 rfl fun E hE hP => ?_
        exact mX
    · have e1 : decide ((0 : Int) ≤ c.kind) = false := decide_eq_false k0
      have hi1 : i = 1 := hk.resolve_left (fun h => k0 h.1)
      have e3 : decide (i = 1) = true := decide_eq_true hi1
      have ff := And.intro h1 (And.intro e0 (And.intro e1 e3))
      have hR : Tryz.f7.results.toList = [.tmp 4] := rfl
      refine calE_tr Tryz.func7 rfl fun E hE hP => ?_
      exact mX
theorem doR_kind {e : Eng} {c : Ask} : (0 ≤ c.kind ∧ c.kind ≤ 3) ∨ (doR e c).2 = 1 := by
  by_cases h : c.kind < 0 ∨ 4 ≤ c.kind
  · right
    rw [doR, if_pos h]
  · rw [not_or] at h
    exact .inl (by omega)
theorem estay_t (e : Eng) (hw : e.wf) (c : Ask) (hc : c.vals.length ≤ 9223372036854775807) : CalT Tryz.prog 0 tabV 7 [e.av, c.av] (.bool true) := by
  cases h1 : fewE e
  · exact estay_no e (.inl h1) c hc (.inl h1)
  cases h2 : mayE e
  · exact estay_no e (.inr hw.ok) c hc (.inr ⟨h1, .inl h2⟩)
  by_cases h3 : 200 < c.vals.length
  · exact estay_no e (.inr hw.ok) c hc (.inr ⟨h1, .inr ⟨h2, h3⟩⟩)
  have hL := live_few h1 h2 hw
  have he := hL.few
  have c1 := few_c e
  rw [h1] at c1
  have x2 := may_t e he hw.ok
  rw [h2] at x2
  have x3 := do32_t e c he hw (fun _ => hL)
  have hF := fine_do (c := c) hL
  have x4 := may_t (doR e c).1 hF.few hF.wf.ok
  rw [hF.may] at x4
  refine estay_w e (doR e c).1 c (doR e c).2 (decide_eq_false (by omega)) c1 x2 x3 x4 (esame_c e he) ?_ doR_kind
  by_cases h : (doR e c).2 = 0
  · exact .inl h
  · exact .inr (doR_err h)

theorem chain38_c (t : List Node) (l : List Check) (hl : l.length ≤ 100) : Cal Tryz.prog 38 [tav t, checks l] (.bool (chainR t l)) := by
  have c3 := And.intro (enters_of Tryz.func71 (by kernel_rfl) rfl) (may_pure t)
  unfold checks
  have hR : Tryz.f38.results.toList = [.tmp 4] := rfl
  refine cal_tr Tryz.func38 rfl fun E hE hP => ?_
  refine mW ?_
  refine Tr.loop (fun i : Nat => (⟨[(1, .sl (l.map Check.av) false), (2, .ptr 0 [] 0), (9, .sl (l.map Check.av) false), (10, .int .i64 l.length), (11, .int .i64 i)], [(0, .var (tav t))], 1, []⟩ : S)) (fun i => i ≤ l.length ∧ chTo t l i = true) (fun i => l.length - i) 0 ⟨Nat.zero_le _, rfl⟩ ?_ ?_
  · refine wk_ren (fun n => n) mB mB rfl rfl rfl
  · intro i ⟨hi, hch⟩
    by_cases hlt : i < l.length
    · have e1 : decide ((i : Int) < (l.length : Int)) = true := decide_eq_true (by omega)
      have hn := nth_map_lt Check.av l i hlt
      have hw := wrap_next (n := i) (by omega)
      have hnx := chTo_next t l i
      rw [rowB_at hlt, hch, Bool.true_and] at hnx
      generalize hla : l[i] = a at hn hnx
      have hlt2 : (l.take i).length = i := by rw [List.length_take]; omega
      have ff := And.intro e1 hn
      refine mW ?_
      first | apply tr_m (by rw [hE]; rfl) | (refine Tr.seq ?_; apply tr_m (by rw [hE]; rfl))
      intro Q hQ
      simp only [go_sem, seval]
      iterate 2 ((refine vm_op ?_); intro r hr; simp only [hlt2, go_sem, seval]; subst hr)
      (refine vm_op ?_); intro r hr; simp only [hlt2, go_sem, seval]
      refine slice_hi27 (by omega) ?_
      try simp only [hlt2, go_sem, seval]
      subst hr
      iterate 2 ((refine vm_op ?_); intro r hr; simp only [hlt2, go_sem, seval]; subst hr)
      exact hQ
      refine mW ?_
      refine Tr.loop (fun k : Nat => (⟨[(1, .sl (l.map Check.av) false), (2, .ptr 0 [] 0), (6, .ptr 1 [] 0), (9, .sl (l.map Check.av) false), (10, .int .i64 l.length), (11, .int .i64 i), (18, .sl ((l.take i).map Check.av) false), (19, .int .i64 i), (20, .int .i64 k)], [(0, .var (tav t)), (1, .var a.av)], 2, []⟩ : S)) (fun k => k ≤ i ∧ inTo t l a k = true) (fun k => i - k) 0 ⟨Nat.zero_le _, rfl⟩ ?_ ?_
      · refine wk_ren (fun | 1 => 65 | n => n) mB mB rfl rfl rfl
      · intro k ⟨hk, hin0⟩
        by_cases hki : k < i
        · have e2 : decide ((k : Int) < (i : Int)) = true := decide_eq_true (by omega)
          have hw2 := wrap_next (n := k) (by omega)
          have hnk := nth_map_lt Check.av (l.take i) k (by omega)
          have hin := inTo_next (t := t) (a := a) (k := k) (l := l) (by omega)
          rw [hin0, Bool.true_and] at hin
          have htk : (l.take i)[k]'(by omega) = l[k]'(by omega) := List.getElem_take
          rw [htk] at hnk
          generalize l[k]'(by omega) = c at hnk hin
          have hS : pairB t a c = (behindB t a c || behindB t c a) := rfl
          rw [hS] at hin
          have c1 := And.intro (enters_of Tryz.func98 (by kernel_rfl) rfl) (behind_pure t a c)
          have c2 := And.intro (enters_of Tryz.func98 (by kernel_rfl) rfl) (behind_pure t c a)
          cases h1 : behindB t a c
          · rw [h1, Bool.false_or] at hin
            rw [h1] at c1
            cases h2 : behindB t c a
            · rw [h2] at hin c2
              have er : chainR t l = false := by rw [chainR_eq, chTo_false (by rw [hnx]; exact inTo_false hin i hki) l.length hlt, Bool.and_false]
              have ff := And.intro e2 (And.intro hnk (And.intro hw2 er))
              exact mX
            · rw [h2] at hin c2
              have ff := And.intro e2 (And.intro hnk hw2)
              refine mW ?_
              refine ⟨k + 1, ⟨hki, hin⟩, by omega, ?_⟩
              exact mK
          · rw [h1, Bool.true_or] at hin
            rw [h1] at c1
            have ff := And.intro e2 (And.intro hnk hw2)
            refine mW ?_
            refine ⟨k + 1, ⟨hki, hin⟩, by omega, ?_⟩
            exact mK
        · have e2 : decide ((k : Int) < (i : Int)) = false := decide_eq_false (by omega)
          have hki : k = i := by omega
          subst hki
          rw [hin0] at hnx
          have ff := And.intro e2 hw
          refine mW ?_
          refine ⟨k + 1, ⟨hlt, hnx⟩, by omega, ?_⟩
          exact mK
    · have e1 : decide ((i : Int) < (l.length : Int)) = false := decide_eq_false (by omega)
      have hil : i = l.length := by omega
      subst hil
      have er : chainR t l = mayB t := by rw [chainR_eq, hch, Bool.and_true]
      rw [er]
      have ff := e1
      exact mX
theorem behind_may {t : List Node} {c f : Check} (h : behindB t c f = true) : mayB t = true := by
  unfold behindB aboveR at h
  rw [Bool.and_eq_true, isB_two, Bool.and_eq_true] at h
  exact (isB_spec h.1.1).1
theorem chain_two {t : List Node} {a c : Check} (h : behindB t c a = true) : chainR t [a, c] = true := by
  unfold chainR
  rw [behind_may h, Bool.true_and]
  have r0 : rowB t [a, c] 0 = true := rfl
  have r1 : rowB t [a, c] 1 = true := by
    show (pairB t c a && true) = true
    rw [Bool.and_true, pairB, h]
    rfl
  show (rowB t [a, c] 0 && (rowB t [a, c] 1 && true)) = true
  rw [r0, r1]
  rfl

/-- One checkpoint is another one, or behind it, of a greater epoch. -/
def After (t : List Node) (a b : Check) : Prop := b = a ∨ (a.epoch < b.epoch ∧ behindB t b a = true)
theorem After.trans {t : List Node} {a b c : Check} (h1 : After t a b) (h2 : After t b c) : After t a c := by
  rcases h1 with rfl | h1
  · exact h2
  · rcases h2 with rfl | h2
    · exact .inr h1
    · exact .inr ⟨by omega, behind_trans h2.2 h1.2⟩
theorem next_after (t : List Node) (l : List Link) (b : List Int) (js : List Check) (fin : Check) : After t fin (nextR t l b js fin) := by
  rcases next_law t fin (finalsR t l b js) fin with h | h
  · exact .inl h
  · exact .inr ⟨h.2.2, h.2.1⟩
theorem count_after (e : Eng) (a : Att) : (countR e a).1.t = e.t ∧ After e.t e.fin (countR e a).1.fin ∧ (countR e a).1.now = e.now := by
  unfold countR
  split
  · exact ⟨rfl, next_after _ _ _ _ _, rfl⟩
  · exact ⟨rfl, .inl rfl, rfl⟩
theorem step_after (e : Eng) (a : Att) : (stepE e a).t = e.t ∧ After e.t e.fin (stepE e a).fin ∧ (stepE e a).now = e.now := by
  unfold stepE
  split
  · exact count_after e a
  · exact ⟨rfl, .inl rfl, rfl⟩
theorem run_after : ∀ (l : List Att) (e : Eng), (runE e l).t = e.t ∧ After e.t e.fin (runE e l).fin ∧ (runE e l).now = e.now
  | [], e => ⟨rfl, .inl rfl, rfl⟩
  | a :: l, e => by
    obtain ⟨h1, h2, h3⟩ := step_after e a
    obtain ⟨k1, k2, k3⟩ := run_after l (stepE e a)
    rw [h1] at k1 k2
    exact ⟨k1, h2.trans k2, k3.trans h3⟩
theorem attE_after (e : Eng) (a : Att) : After e.t e.fin (attE e a).1.fin ∧ (attE e a).1.now = e.now := by
  unfold attE
  split
  · exact ⟨.inl rfl, rfl⟩
  · split
    · unfold attW
      split
      · exact ⟨.inl rfl, rfl⟩
      · split
        · exact (count_after e a).2
        · exact ⟨.inl rfl, rfl⟩
    · exact ⟨.inl rfl, rfl⟩
theorem blockR_after (e : Eng) (b : Block) : (blockR e b).1.fin = e.fin ∧ (blockR e b).1.now = e.now := by
  unfold blockR
  split
  · exact ⟨rfl, rfl⟩
  split
  · exact ⟨rfl, rfl⟩
  split
  · exact ⟨rfl, rfl⟩
  split
  · exact ⟨rfl, rfl⟩
  · exact ⟨rfl, rfl⟩
theorem doR_after (e : Eng) (c : Ask) : ((doR e c).1.fin = e.fin ∨ (e.fin.epoch < (doR e c).1.fin.epoch ∧ behindB e.t (doR e c).1.fin e.fin = true ∧ c.kind ≠ 0 ∧ c.kind ≠ 3)) ∧
    ((doR e c).2 = 0 ∧ c.kind = 2 ∧ (doR e c).1.now = e.now + 1 ∨ ¬ ((doR e c).2 = 0 ∧ c.kind = 2) ∧ (doR e c).1.now = e.now) := by
  unfold doR
  split
  · exact ⟨.inl rfl, .inr ⟨fun h => by omega, rfl⟩⟩
  split
  · exact ⟨.inl rfl, .inr ⟨fun h => by omega, rfl⟩⟩
  split
  · next hk =>
    split
    · exact ⟨.inl (blockR_after _ _).1, .inr ⟨fun h => by omega, (blockR_after _ _).2⟩⟩
    · exact ⟨.inl rfl, .inr ⟨fun h => by omega, rfl⟩⟩
  split
  · next hk =>
    split
    · obtain ⟨h1, h2⟩ := attE_after e (attOf c.vals)
      exact ⟨h1.imp id fun h => ⟨h.1, h.2, by omega, by omega⟩, .inr ⟨fun h => by omega, h2⟩⟩
    · exact ⟨.inl rfl, .inr ⟨fun h => by omega, rfl⟩⟩
  split
  · next hk =>
    split
    · exact ⟨.inl rfl, .inr ⟨fun h => by omega, rfl⟩⟩
    · obtain ⟨h1, h2, h3⟩ := run_after (dueE e) (overE e)
      exact ⟨h2.imp id fun h => ⟨h.1, h.2, by omega, by omega⟩, .inl ⟨rfl, hk, h3⟩⟩
  · next hk => exact ⟨.inl rfl, .inr ⟨fun h => by omega, rfl⟩⟩
theorem efin_no (e : Eng) (he : fewE e = false ∨ e.ok) (c : Ask) (hc : c.vals.length ≤ 9223372036854775807) (h : fewE e = false ∨ (fewE e = true ∧ (mayE e = false ∨ (mayE e = true ∧ 200 < c.vals.length)))) : CalT Tryz.prog 0 tabV 10 [e.av, c.av] (.bool true) := by
  have x1 := awake17_t
  have c1 := few_c e
  rcases h with h | ⟨h1, h⟩
  · rw [h] at c1
    have hR : Tryz.f10.results.toList = [.tmp 4] := rfl
    refine calE_tr Tryz.func10 rfl fun E hE hP => ?_
    exact mX
  · have ho := he.resolve_left (by rw [h1]; decide)
    have x2 := may_t e (fewE_few h1) ho
    rw [h1] at c1
    rcases h with h2 | ⟨h2, h⟩
    · rw [h2] at x2
      have hR : Tryz.f10.results.toList = [.tmp 4] := rfl
      refine calE_tr Tryz.func10 rfl fun E hE hP => ?_
      exact mX
    · rw [h2] at x2
      have e1 : decide ((200 : Int) < (c.vals.length : Int)) = true := decide_eq_true (by omega)
      have ff := e1
      have hR : Tryz.f10.results.toList = [.tmp 4] := rfl
      refine calE_tr Tryz.func10 rfl fun E hE hP => ?_
      exact mX
set_option maxHeartbeats 4000000 in
theorem efin_w (e f : Eng) (c : Ask) (i : Int) (h1 : decide ((200 : Int) < (c.vals.length : Int)) = false) (c1 : Cal Tryz.prog 14 [e.av] (.bool true)) (x2 : CalT Tryz.prog 0 tabV 24 [e.av] (.bool true)) (x3 : CalT Tryz.prog 0 tabV 32 [e.av, c.av] (.tup [f.av, .int .i64 i]))
    (hfin : f.fin = e.fin ∨ (e.fin.epoch < f.fin.epoch ∧ behindB e.t f.fin e.fin = true ∧ c.kind ≠ 0 ∧ c.kind ≠ 3)) (hnow : i = 0 ∧ c.kind = 2 ∧ f.now = e.now + 1 ∨ ¬ (i = 0 ∧ c.kind = 2) ∧ f.now = e.now) (hw : IntKind.u64.wrap (e.now + 1) = e.now + 1) : CalT Tryz.prog 0 tabV 10 [e.av, c.av] (.bool true) := by
  have x1 := awake17_t
  rcases hnow with ⟨i0, k2, hn⟩ | ⟨hno, hn⟩
  · have e1 : decide (i = 0) = true := decide_eq_true i0
    have e2 : decide (c.kind = 2) = true := decide_eq_true k2
    have e3 : decide (f.now = e.now + 1) = true := decide_eq_true hn
    have fn := And.intro h1 (And.intro e1 (And.intro e2 (And.intro hw e3)))
    cases hf : decide (f.fin = e.fin)
    · have hF := hfin.resolve_left (of_decide_eq_false hf)
      have g1 : decide (e.fin.epoch < f.fin.epoch) = true := decide_eq_true hF.1
      have g2 : decide (c.kind = 3) = false := decide_eq_false hF.2.2.2
      have g3 : decide (c.kind = 0) = false := decide_eq_false hF.2.2.1
      have d4 := chain38_c e.t [e.fin, f.fin] (by simp)
      rw [chain_two hF.2.1] at d4
      have c2 : Cal Tryz.prog 38 [tav e.t, .sl [e.fin.av, f.fin.av] false] (.bool true) := d4
      have c3 := And.intro (enters_of Tryz.func27 (by kernel_rfl) rfl) (find_pure e.t e.fin.root)
      have c4 := And.intro (enters_of Tryz.func27 (by kernel_rfl) rfl) (find_pure e.t f.fin.root)
      have c5 : Cal Tryz.prog 39 [tav e.t, .int .i64 (findR e.t e.fin.root), .int .i64 (findR e.t f.fin.root)] (.bool true) := by
        have := And.intro (enters_of Tryz.func39 (by kernel_rfl) rfl) (above_pure e.t (findR e.t e.fin.root) (findR e.t f.fin.root))
        rwa [show aboveR e.t (findR e.t e.fin.root) (findR e.t f.fin.root) = true from hF.2.1] at this
      have ff := And.intro fn (And.intro hf (And.intro g1 (And.intro g2 g3)))
      have hR : Tryz.f10.results.toList = [.tmp 4] := rfl
      refine calE_tr Tryz.func10 rfl fun E hE hP => ?_
      exact mX
    · have ff := And.intro fn hf
      have hR : Tryz.f10.results.toList = [.tmp 4] := rfl
      refine calE_tr Tryz.func10 rfl fun E hE hP => ?_
      exact mX
  · have e3 : decide (f.now = e.now) = true := decide_eq_true hn
    by_cases i0 : i = 0
    · have e1 : decide (i = 0) = true := decide_eq_true i0
      have e2 : decide (c.kind = 2) = false := decide_eq_false (fun h => hno ⟨i0, h⟩)
      have fn := And.intro h1 (And.intro e1 (And.intro e2 (And.intro hw e3)))
      cases hf : decide (f.fin = e.fin)
      · have hF := hfin.resolve_left (of_decide_eq_false hf)
        have g1 : decide (e.fin.epoch < f.fin.epoch) = true := decide_eq_true hF.1
        have g2 : decide (c.kind = 3) = false := decide_eq_false hF.2.2.2
        have g3 : decide (c.kind = 0) = false := decide_eq_false hF.2.2.1
        have d4 := chain38_c e.t [e.fin, f.fin] (by simp)
        rw [chain_two hF.2.1] at d4
        have c2 : Cal Tryz.prog 38 [tav e.t, .sl [e.fin.av, f.fin.av] false] (.bool true) := d4
        have c3 := And.intro (enters_of Tryz.func27 (by kernel_rfl) rfl) (find_pure e.t e.fin.root)
        have c4 := And.intro (enters_of Tryz.func27 (by kernel_rfl) rfl) (find_pure e.t f.fin.root)
        have c5 : Cal Tryz.prog 39 [tav e.t, .int .i64 (findR e.t e.fin.root), .int .i64 (findR e.t f.fin.root)] (.bool true) := by
          have := And.intro (enters_of Tryz.func39 (by kernel_rfl) rfl) (above_pure e.t (findR e.t e.fin.root) (findR e.t f.fin.root))
          rwa [show aboveR e.t (findR e.t e.fin.root) (findR e.t f.fin.root) = true from hF.2.1] at this
        have ff := And.intro fn (And.intro hf (And.intro g1 (And.intro g2 g3)))
        have hR : Tryz.f10.results.toList = [.tmp 4] := rfl
        refine calE_tr Tryz.func10 rfl fun E hE hP => ?_
        exact mX
      · have ff := And.intro fn hf
        have hR : Tryz.f10.results.toList = [.tmp 4] := rfl
        refine calE_tr Tryz.func10 rfl fun E hE hP => ?_
        exact mX
    · have e1 : decide (i = 0) = false := decide_eq_false i0
      have fn := And.intro h1 (And.intro e1 (And.intro hw e3))
      cases hf : decide (f.fin = e.fin)
      · have hF := hfin.resolve_left (of_decide_eq_false hf)
        have g1 : decide (e.fin.epoch < f.fin.epoch) = true := decide_eq_true hF.1
        have g2 : decide (c.kind = 3) = false := decide_eq_false hF.2.2.2
        have g3 : decide (c.kind = 0) = false := decide_eq_false hF.2.2.1
        have d4 := chain38_c e.t [e.fin, f.fin] (by simp)
        rw [chain_two hF.2.1] at d4
        have c2 : Cal Tryz.prog 38 [tav e.t, .sl [e.fin.av, f.fin.av] false] (.bool true) := d4
        have c3 := And.intro (enters_of Tryz.func27 (by kernel_rfl) rfl) (find_pure e.t e.fin.root)
        have c4 := And.intro (enters_of Tryz.func27 (by kernel_rfl) rfl) (find_pure e.t f.fin.root)
        have c5 : Cal Tryz.prog 39 [tav e.t, .int .i64 (findR e.t e.fin.root), .int .i64 (findR e.t f.fin.root)] (.bool true) := by
          have := And.intro (enters_of Tryz.func39 (by kernel_rfl) rfl) (above_pure e.t (findR e.t e.fin.root) (findR e.t f.fin.root))
          rwa [show aboveR e.t (findR e.t e.fin.root) (findR e.t f.fin.root) = true from hF.2.1] at this
        have ff := And.intro fn (And.intro hf (And.intro g1 (And.intro g2 g3)))
        have hR : Tryz.f10.results.toList = [.tmp 4] := rfl
        refine calE_tr Tryz.func10 rfl fun E hE hP => ?_
        exact mX
      · have ff := And.intro fn hf
        have hR : Tryz.f10.results.toList = [.tmp 4] := rfl
        refine calE_tr Tryz.func10 rfl fun E hE hP => ?_
        exact mX
theorem efin_t (e : Eng) (hw : e.wf) (c : Ask) (hc : c.vals.length ≤ 9223372036854775807) : CalT Tryz.prog 0 tabV 10 [e.av, c.av] (.bool true) := by
  cases h1 : fewE e
  · exact efin_no e (.inl h1) c hc (.inl h1)
  cases h2 : mayE e
  · exact efin_no e (.inr hw.ok) c hc (.inr ⟨h1, .inl h2⟩)
  by_cases h3 : 200 < c.vals.length
  · exact efin_no e (.inr hw.ok) c hc (.inr ⟨h1, .inr ⟨h2, h3⟩⟩)
  have hL := live_few h1 h2 hw
  have he := hL.few
  have c1 := few_c e
  rw [h1] at c1
  have x2 := may_t e he hw.ok
  rw [h2] at x2
  have x3 := do32_t e c he hw (fun _ => hL)
  obtain ⟨ha, hb⟩ := doR_after e c
  have h0 := hw.now
  have h5 := (mayE_all.1 h2).2.2.2.2.1
  exact efin_w e (doR e c).1 c (doR e c).2 (decide_eq_false (by omega)) c1 x2 x3 ha hb (wrapU_lt (by omega) (by omega))
end Go.Proofs.YtgnidooihignfaaGreatDoor

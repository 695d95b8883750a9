/- The program: what may be final. -/
import Derived.Test.YtdlejnafhmpobaaDoorFiT
set_option linter.unusedSimpArgs false
set_option maxRecDepth 10000
namespace Go.Proofs.YtdlejnafhmpobaaDoor
open Go Go.Ab

@[go_sem] theorem tSize56 : tSize Tryd.prog 56 = some 1 := by kernel_rfl
@[go_sem] theorem tAgg56 : tAgg Tryd.prog 56 = some false := by kernel_rfl
@[go_sem] theorem zAV56_len : (zAV Tryd.prog 8 56).len = 1 := by kernel_rfl
def putB (js : List Check) (a : Link) : Bool := decide (IntKind.u64.wrap (a.t.epoch - a.s.epoch) = 1) && decide (a.t ∈ js)
def fS (t : List Node) (b : List Int) (js : List Check) (es : List Check) (a : Link) : List Check := if countB t b a && putB js a then insC es a.s else es
def setTo (t : List Node) (l : List Link) (b : List Int) (js : List Check) (i : Nat) : List Check := (l.take i).foldl (fS t b js) []
theorem fold_mem {t : List Node} {b : List Int} {js : List Check} (x : Check) : ∀ (l : List Link) (es : List Check), x ∈ l.foldl (fS t b js) es ↔ x ∈ es ∨ ∃ a ∈ l, countB t b a = true ∧ putB js a = true ∧ a.s = x
  | [], es => by simp
  | a :: l, es => by
    rw [List.foldl_cons, fold_mem x l]
    unfold fS
    by_cases h : (countB t b a && putB js a) = true
    · rw [if_pos h, insC_mem]
      simp only [Bool.and_eq_true] at h
      simp only [List.mem_cons]
      constructor
      · rintro ((h1 | h1) | ⟨c, h1, h2⟩)
        · exact .inl h1
        · exact .inr ⟨a, .inl rfl, h.1, h.2, h1.symm⟩
        · exact .inr ⟨c, .inr h1, h2⟩
      · rintro (h1 | ⟨c, rfl | h1, h2⟩)
        · exact .inl (.inl h1)
        · exact .inl (.inr h2.2.2.symm)
        · exact .inr ⟨c, h1, h2⟩
    · rw [if_neg h]
      simp only [Bool.and_eq_true] at h
      simp only [List.mem_cons]
      constructor
      · rintro (h1 | ⟨c, h1, h2⟩)
        · exact .inl h1
        · exact .inr ⟨c, .inr h1, h2⟩
      · rintro (h1 | ⟨c, rfl | h1, h2⟩)
        · exact .inl h1
        · exact absurd ⟨h2.1, h2.2.1⟩ h
        · exact .inr ⟨c, h1, h2⟩
theorem set_all {t : List Node} {l : List Link} {b : List Int} {js : List Check} (h : toldR t l b = true) (hc : okC l) (x : Check) : decide (x ∈ setTo t l b js l.length) = finB t l b js x := by
  have hl := (told_links h).2.1
  rw [Bool.eq_iff_iff, decide_eq_true_eq]
  unfold setTo finB countL
  rw [if_pos h, List.take_length, fold_mem, List.any_filter, List.any_eq_true]
  have e : ∀ a ∈ l, (putB js a = true ∧ a.s = x) ↔ linkF js x a = true := fun a ha => by
    have h1 := may_epoch hl ha
    have h2 := hc a ha
    have hw : IntKind.u64.wrap (a.t.epoch - a.s.epoch) = a.t.epoch - a.s.epoch := wrapU_lt (by omega) (by omega)
    unfold putB linkF
    rw [hw]
    simp only [Bool.and_eq_true, decide_eq_true_eq]
    constructor
    · rintro ⟨⟨h3, h4⟩, h5⟩
      exact ⟨h4, h5, by omega⟩
    · rintro ⟨h3, h4, h5⟩
      exact ⟨⟨by omega, h3⟩, h4⟩
  constructor
  · rintro (h1 | ⟨a, ha, h1, h2⟩)
    · cases h1
    · exact ⟨a, ha, by rw [h1, (e a ha).1 h2]; rfl⟩
  · rintro ⟨a, ha, h1⟩
    simp only [Bool.and_eq_true] at h1
    exact .inr ⟨a, ha, h1.1, (e a ha).2 h1.2⟩

def stP (t : List Node) (l : List Link) (b : List Int) (js : List Check) : S where
  fr := [(7, .ptr 2 [] 0), (9, .ptr 3 [] 0), (18, .fn (.func 58) [] [.ptr 5 [] 0, .ptr 6 [] 0, .ptr 7 [] 0])]
  hp := [(0, .tab 0 tabV), (1, .var (tav t)), (2, .var (checks js)), (3, .var (.mp 4)), (4, .amap []), (5, .var (tav t)), (6, .var (links l)), (7, .var (u64s b))]
  nx := 8
def stR (t : List Node) (l : List Link) (b : List Int) (js : List Check) (L : Nat) (c : LB) (i : Nat) : S where
  fr := [(0, .fn (.yield L) [] []), (1, .ptr 5 [] 0), (2, .ptr 6 [] 0), (3, .ptr 7 [] 0), (12, .sl (l.map Link.av) false), (13, .int .i64 l.length), (14, .int .i64 i)]
  hp := [(9, .lp c .ready none), (8, .dfr), (0, .tab 0 tabV), (1, .var (tav t)), (2, .var (checks js)), (3, .var (.mp 4)), (4, .amap ((setTo t l b js i).map centE)), (5, .var (tav t)), (6, .var (links l)), (7, .var (u64s b))]
  nx := 10
def stT (t : List Node) (js es : List Check) (i : Nat) : S where
  fr := [(9, .ptr 3 [] 0), (11, .ms 9 33 ((js.take i).filter fun c => decide (c ∈ es)).length), (37, .sl (js.map Check.av) false), (38, .int .i64 js.length), (39, .int .i64 i)]
  hp := [(8, .dfr), (0, .tab 0 tabV), (1, .var (tav t)), (2, .var (checks js)), (3, .var (.mp 4)), (4, .amap (es.map centE)), (9, .row 33 (((js.take i).filter fun c => decide (c ∈ es)).map Check.av))]
  nx := 10
  df := [8]

theorem finals_T (t : List Node) (l : List Link) (b : List Int) (js : List Check) (hl : l.length ≤ 100) (hj : js.length ≤ 100) (hb : okB b) (hk : okL l) (hc : okC l) : PureT Tryd.prog 0 tabV 14 [tav t, links l, u64s b, checks js] (checks (finalsR t l b js)) := by
  have h1 := told_pure t l b
  refine eff_of_trM Tryd.func14 rfl (Nat.le_of_ble_eq_true rfl) rfl fun E hE hP => ?_
  first | refine tr_seq_region (by rw [hE]; rfl) ?_ | (refine Tr.seq ?_; refine tr_seq_region (by rw [hE]; rfl) ?_)
  repeat (refine vc_op rfl ?_; simp only [go_sem, seval])
  refine vc_nil ?_
  first | refine tr_seq_region (by rw [hE]; rfl) ?_ | (refine Tr.seq ?_; refine tr_seq_region (by rw [hE]; rfl) ?_)
  repeat (refine vc_op rfl ?_; simp only [go_sem, seval])
  refine vc_nil ?_
  first | apply tr_m (by rw [hE]; rfl) | (refine Tr.seq ?_; apply tr_m (by rw [hE]; rfl))
  intro Q hQ
  simp only [List.toList_toArray, List.map_cons, List.map_nil, mo, guardSlot, Option.map_some, Option.map_none, List.getElem?_toArray, List.getElem?_cons_succ, List.getElem?_cons_zero, Option.bind_some]
  iterate 2 ((refine vm_op ?_); intro r hr; simp only [go_sem, seval]; subst hr)
  (refine vm_op ?_); intro r hr; simp only [go_sem, seval]
  subst hr
  (refine vm_op ?_); intro r hr; simp only [go_sem, seval]
  refine call_own rfl rfl rfl rfl (enters_of Tryd.func34 (by kernel_rfl) rfl) (counting_own t l b) rfl rfl ?_
  simp only [go_sem, seval]
  subst hr
  exact hQ
  refine Tr.wk (s' := stP t l b js) ?_ ?_
  · refine wk_ren (fun | 2 => 17 | 3 => 65 | 4 => 49 | 5 => 145 | 6 => 146 | 7 => 147 | n => n) ?_ ?_ rfl rfl rfl
    · repeat' (first | exact rfl | exact trivial | constructor)
    · repeat' (first | exact rfl | exact trivial | constructor)
  · unfold stP
    first | refine Tr.block ?_ | (refine Tr.seq ?_; refine Tr.block ?_)
    refine Tr.range (fid := 58) (fn := Tryd.f58) rfl (enters_of Tryd.func58 (by kernel_rfl) rfl) Tryd.func58 rfl rfl (Nat.le_of_ble_eq_true rfl) ?_
    have hE0 := hE
    intro E' L c hE hP' sd
    have hP : E'.pn = 10 := hP'
    cases h : toldR t l b with
    | false =>
      rw [h] at h1
      first | apply tr_m (by rw [hE]; rfl) | (refine Tr.seq ?_; apply tr_m (by rw [hE]; rfl))
      intro Q hQ
      simp only [List.toList_toArray, List.map_cons, List.map_nil, mo, guardSlot, Option.map_some, Option.map_none, List.getElem?_toArray, List.getElem?_cons_succ, List.getElem?_cons_zero, Option.bind_some]
      iterate 3 ((refine vm_op ?_); intro r hr; simp only [go_sem, seval]; subst hr)
      (refine vm_op ?_); intro r hr; simp only [go_sem, seval]
      refine call_fn rfl rfl rfl rfl (enters_of Tryd.func59 (by kernel_rfl) rfl) (h1) rfl rfl rfl ?_
      simp only [go_sem, seval]
      subst hr
      (refine vm_op ?_); intro r hr; simp only [go_sem, seval]; subst hr
      exact hQ
      first | refine Tr.cond (b := true) rfl (fun _ => ?_) (fun h => by cases h) | refine Tr.seq (Tr.cond (b := true) rfl (fun _ => ?_) (fun h => by cases h))
      refine Tr.ret ?_
      have hE := hE0
      refine ⟨rfl, _, _, rfl, by simp, rfl, ?_⟩
      simp only [goOn]
      simp only [HP.del, List.filter_cons, List.filter_nil, Bool.not_false, Bool.not_true, if_true, Bool.false_eq_true, if_false, go_sem, seval]
      obtain ⟨es, he⟩ : ∃ es : List Check, es = [] := ⟨_, rfl⟩
      have hes : ∀ c, decide (c ∈ es) = finB t l b js c := fun c => by
        subst he
        unfold finB countL
        rw [if_neg (by simp [h])]
        rfl
      have hem : ([] : List (AV × AV)) = es.map centE := by subst he; rfl
      rw [hem]
      clear he hem
      first | refine tr_seq_region (by rw [hE]; rfl) ?_ | (refine Tr.seq ?_; refine tr_seq_region (by rw [hE]; rfl) ?_)
      repeat (refine vc_op rfl ?_; simp only [go_sem, seval])
      refine vc_nil ?_
      first | refine tr_seq_region (by rw [hE]; rfl) ?_ | (refine Tr.seq ?_; refine tr_seq_region (by rw [hE]; rfl) ?_)
      repeat (refine vc_op rfl ?_; simp only [checks, go_sem, seval])
      refine vc_nil ?_
      first | refine Tr.block ?_ | (refine Tr.seq ?_; refine Tr.block ?_)
      refine Tr.loop (stT t js es) (fun i => i ≤ js.length) (fun i => js.length - i) 0 (Nat.zero_le _) ?_ ?_
      · refine (Wk.nil 11 33 rfl).trans ?_
        refine wk_ren_df (fun | 9 => 168 | n => n) ?_ ?_ rfl rfl rfl
        · repeat' (first | exact rfl | exact trivial | constructor)
        · repeat' (first | exact rfl | exact trivial | constructor)
      · intro i hi
        unfold stT
        by_cases hlt : i < js.length
        · have e1 : decide ((i : Int) < (js.length : Int)) = true := decide_eq_true (by omega)
          have hn := nth_map_lt Check.av js i hlt
          have hw := wrap_next (n := i) (by omega)
          have hnx : ((js.take (i + 1)).filter fun c => decide (c ∈ es)) = ((js.take i).filter fun c => decide (c ∈ es)) ++ if decide (js[i] ∈ es) then [js[i]] else [] := by
            rw [List.take_add_one, List.getElem?_eq_getElem hlt, List.filter_append]
            congr 1
            simp only [Option.toList_some, List.filter_cons, List.filter_nil]
          have hm : ((js.take i).filter fun c => decide (c ∈ es)).length ≤ 100 := by
            have := List.length_filter_le (fun c => decide (c ∈ es)) (js.take i)
            rw [List.length_take] at this
            omega
          generalize ((js.take i).filter fun c => decide (c ∈ es)) = m at hnx hm
          generalize js[i] = a at hn hnx
          first | refine tr_seq_region (by rw [hE]; rfl) ?_ | (refine Tr.seq ?_; refine tr_seq_region (by rw [hE]; rfl) ?_)
          repeat (refine vc_op rfl ?_; simp only [e1, go_sem, seval])
          refine vc_nil ?_
          first | refine Tr.cond (b := true) rfl (fun _ => ?_) (fun h => by cases h) | refine Tr.seq (Tr.cond (b := true) rfl (fun _ => ?_) (fun h => by cases h))
          refine Tr.skip ?_
          try simp only [blockK, thenK, ↓reduceIte]
          first | refine Tr.block ?_ | (refine Tr.seq ?_; refine Tr.block ?_)
          first | apply tr_m (by rw [hE]; rfl) | (refine Tr.seq ?_; apply tr_m (by rw [hE]; rfl))
          intro Q hQ
          simp only [List.toList_toArray, List.map_cons, List.map_nil, mo, guardSlot, Option.map_some, Option.map_none, List.getElem?_toArray, List.getElem?_cons_succ, List.getElem?_cons_zero, Option.bind_some]
          iterate 4 ((refine vm_op ?_); intro r hr; simp only [hn, go_sem, seval]; subst hr)
          exact hQ
          cases x1 : decide (a ∈ es)
          · rw [x1, if_neg (by simp), List.append_nil] at hnx
            first | apply tr_m (by rw [hE]; rfl) | (refine Tr.seq ?_; apply tr_m (by rw [hE]; rfl))
            intro Q hQ
            simp only [List.toList_toArray, List.map_cons, List.map_nil, mo, guardSlot, Option.map_some, Option.map_none, List.getElem?_toArray, List.getElem?_cons_succ, List.getElem?_cons_zero, Option.bind_some]
            iterate 2 ((refine vm_op ?_); intro r hr; simp only [go_sem, seval]; subst hr)
            (refine vm_op ?_); intro r hr; simp only [go_sem, seval]
            refine look56 rfl ?_
            rw [x1]
            subst hr
            exact hQ
            first | refine Tr.cond (b := false) rfl (fun h => by cases h) (fun _ => ?_) | refine Tr.seq (Tr.cond (b := false) rfl (fun h => by cases h) (fun _ => ?_))
            refine Tr.skip ?_
            try simp only [blockK, thenK, ↓reduceIte]
            refine tr_region (by rw [hE]; rfl) ?_
            repeat (refine vc_op rfl ?_; simp only [go_sem, seval])
            refine vc_nil ?_
            rw [hw]
            try simp only [blockK, thenK, ↓reduceIte]
            refine ⟨i + 1, hlt, by omega, ?_⟩
            simp only [stT, hnx]
            refine wk_ren_df (fun n => n) ?_ ?_ rfl rfl rfl
            · repeat' (first | exact rfl | exact trivial | constructor)
            · repeat' (first | exact rfl | exact trivial | constructor)
          · rw [x1, if_pos rfl] at hnx
            first | apply tr_m (by rw [hE]; rfl) | (refine Tr.seq ?_; apply tr_m (by rw [hE]; rfl))
            intro Q hQ
            simp only [List.toList_toArray, List.map_cons, List.map_nil, mo, guardSlot, Option.map_some, Option.map_none, List.getElem?_toArray, List.getElem?_cons_succ, List.getElem?_cons_zero, Option.bind_some]
            iterate 2 ((refine vm_op ?_); intro r hr; simp only [go_sem, seval]; subst hr)
            (refine vm_op ?_); intro r hr; simp only [go_sem, seval]
            refine look56 rfl ?_
            rw [x1]
            subst hr
            exact hQ
            first | refine Tr.cond (b := true) rfl (fun _ => ?_) (fun h => by cases h) | refine Tr.seq (Tr.cond (b := true) rfl (fun _ => ?_) (fun h => by cases h))
            apply tr_ml (by rw [hE]; rfl)
            intro Q hQ
            simp only [List.toList_toArray, List.map_cons, List.map_nil, mo, guardSlot, Option.map_some, Option.map_none, List.getElem?_toArray, List.getElem?_cons_succ, List.getElem?_cons_zero, Option.bind_some]
            iterate 3 ((refine vm_op ?_); intro r hr; simp only [go_sem, seval]; subst hr)
            (refine vm_op ?_); intro r hr; simp only [go_sem, seval]
            refine ⟨by omega, by omega, ?_⟩
            simp only [List.filter_cons, List.filter_nil, Bool.not_false, Bool.not_true, if_true, Bool.false_eq_true, if_false, go_sem, seval]
            subst hr
            (refine vm_op ?_); intro r hr; simp only [go_sem, seval]; subst hr
            exact hQ
            try simp only [blockK, thenK, ↓reduceIte]
            refine tr_region (by rw [hE]; rfl) ?_
            repeat (refine vc_op rfl ?_; simp only [go_sem, seval])
            refine vc_nil ?_
            rw [hw]
            try simp only [blockK, thenK, ↓reduceIte]
            refine ⟨i + 1, hlt, by omega, ?_⟩
            simp only [stT, hnx, List.map_append, List.length_append, List.length_singleton, List.map_cons, List.map_nil]
            refine wk_ren_df (fun | 9 => 186 | n => n) ?_ ?_ rfl rfl rfl
            · repeat' (first | exact rfl | exact trivial | constructor)
            · repeat' (first | exact rfl | exact trivial | constructor)
        · have e1 : decide ((i : Int) < (js.length : Int)) = false := decide_eq_false (by omega)
          have hil : i = js.length := by omega
          have er : ((js.take i).filter fun c => decide (c ∈ es)) = finalsR t l b js := by
            rw [hil, List.take_length]
            unfold finalsR
            congr 1
            funext c
            exact hes c
          rw [er]
          have hlen : (finalsR t l b js).length = ((finalsR t l b js).map Check.av).length := by simp
          first | refine tr_seq_region (by rw [hE]; rfl) ?_ | (refine Tr.seq ?_; refine tr_seq_region (by rw [hE]; rfl) ?_)
          repeat (refine vc_op rfl ?_; simp only [e1, go_sem, seval])
          refine vc_nil ?_
          first | refine Tr.cond (b := false) rfl (fun h => by cases h) (fun _ => ?_) | refine Tr.seq (Tr.cond (b := false) rfl (fun h => by cases h) (fun _ => ?_))
          refine Tr.exit ?_
          try simp only [blockK, thenK, ↓reduceIte]
          first | refine tr_seq_region (by rw [hE]; rfl) ?_ | (refine Tr.seq ?_; refine tr_seq_region (by rw [hE]; rfl) ?_)
          repeat (refine vc_op rfl ?_; simp only [go_sem, seval])
          refine vc_nil ?_
          refine Tr.ret ?_
          refine ⟨by simp, fun o ho => by rw [List.mem_singleton.1 ho]; rfl, ?_⟩
          simp only [HP.drop, List.contains_cons, List.contains_nil, Bool.or_false, Bool.false_or, Bool.or_true, List.filter_cons, List.filter_nil, Bool.not_false, Bool.not_true, if_true, Bool.false_eq_true, if_false,  Tryd.f14, go_sem, seval]
          refine ⟨fun n => n, ?_, ⟨⟨rfl, rfl, rfl⟩, trivial⟩, rfl, fun _ _ => rfl⟩
          simp only [Bool.or_false, Bool.false_or, Bool.or_true, Bool.or_self, checks, List.filter_cons, List.filter_nil, Bool.not_false, Bool.not_true, if_true, Bool.false_eq_true, if_false, ← hlen, go_sem, seval]
    | true =>
      rw [h] at h1
      first | apply tr_m (by rw [hE]; rfl) | (refine Tr.seq ?_; apply tr_m (by rw [hE]; rfl))
      intro Q hQ
      simp only [List.toList_toArray, List.map_cons, List.map_nil, mo, guardSlot, Option.map_some, Option.map_none, List.getElem?_toArray, List.getElem?_cons_succ, List.getElem?_cons_zero, Option.bind_some]
      iterate 3 ((refine vm_op ?_); intro r hr; simp only [go_sem, seval]; subst hr)
      (refine vm_op ?_); intro r hr; simp only [go_sem, seval]
      refine call_fn rfl rfl rfl rfl (enters_of Tryd.func59 (by kernel_rfl) rfl) (h1) rfl rfl rfl ?_
      simp only [go_sem, seval]
      subst hr
      (refine vm_op ?_); intro r hr; simp only [go_sem, seval]; subst hr
      exact hQ
      first | refine Tr.cond rfl (fun h => by cases h) (fun _ => ?_) | refine Tr.seq (Tr.cond rfl (fun h => by cases h) (fun _ => ?_))
      refine Tr.skip ?_
      try simp only [blockK, thenK, ↓reduceIte]
      first | refine tr_seq_region (by rw [hE]; rfl) ?_ | (refine Tr.seq ?_; refine tr_seq_region (by rw [hE]; rfl) ?_)
      repeat (refine vc_op rfl ?_; simp only [links, go_sem, seval])
      refine vc_nil ?_
      first | refine Tr.block ?_ | (refine Tr.seq ?_; refine Tr.block ?_)
      refine Tr.loop (stR t l b js L c) (fun i => i ≤ l.length) (fun i => l.length - i) 0 (Nat.zero_le _) ?_ ?_
      · refine wk_ren (fun n => n) ?_ ?_ rfl rfl rfl
        · repeat' (first | exact rfl | exact trivial | constructor)
        · repeat' (first | exact rfl | exact trivial | constructor)
      · intro i hi
        unfold stR
        by_cases hlt : i < l.length
        · have e1 : decide ((i : Int) < (l.length : Int)) = true := decide_eq_true (by omega)
          have hn := nth_map_lt Link.av l i hlt
          have hw := wrap_next (n := i) (by omega)
          have hnx : setTo t l b js (i + 1) = fS t b js (setTo t l b js i) l[i] := foldl_next (fS t b js) [] hlt
          have hok := hk _ (List.getElem_mem hlt)
          generalize hes : setTo t l b js i = es at hnx
          generalize l[i] = a at hn hnx hok
          have c1 := behind_pure t a.t a.s
          have c2 := most_T b a.mask.toNat hb (by omega)
          have c3 := ccontains_pure js a.t hj
          rw [Int.toNat_of_nonneg hok.1] at c2
          have hS : fS t b js es a = if (behindB t a.t a.s && mostB b a.mask.toNat) && (decide (IntKind.u64.wrap (a.t.epoch - a.s.epoch) = 1) && decide (a.t ∈ js)) then insC es a.s else es := rfl
          rw [hS] at hnx
          generalize behindB t a.t a.s = x1 at c1 hnx
          generalize mostB b a.mask.toNat = x2 at c2 hnx
          first | refine tr_seq_region (by rw [hE]; rfl) ?_ | (refine Tr.seq ?_; refine tr_seq_region (by rw [hE]; rfl) ?_)
          repeat (refine vc_op rfl ?_; simp only [e1, go_sem, seval])
          refine vc_nil ?_
          first | refine Tr.cond (b := true) rfl (fun _ => ?_) (fun h => by cases h) | refine Tr.seq (Tr.cond (b := true) rfl (fun _ => ?_) (fun h => by cases h))
          refine Tr.skip ?_
          try simp only [blockK, thenK, ↓reduceIte]
          first | refine Tr.block ?_ | (refine Tr.seq ?_; refine Tr.block ?_)
          first | apply tr_m (by rw [hE]; rfl) | (refine Tr.seq ?_; apply tr_m (by rw [hE]; rfl))
          intro Q hQ
          simp only [List.toList_toArray, List.map_cons, List.map_nil, mo, guardSlot, Option.map_some, Option.map_none, List.getElem?_toArray, List.getElem?_cons_succ, List.getElem?_cons_zero, Option.bind_some]
          iterate 4 ((refine vm_op ?_); intro r hr; simp only [hn, go_sem, seval]; subst hr)
          exact hQ
          cases x1
          · rw [Bool.false_and, Bool.false_and, if_neg (by simp)] at hnx
            first | refine tr_seq_y 15 sd (by rw [hE]; rfl) rfl rfl rfl ?_ | (refine Tr.seq ?_; refine tr_seq_y 15 sd (by rw [hE]; rfl) rfl rfl rfl ?_)
            simp only [List.toList_toArray, List.take_succ_cons, List.take_zero]
            repeat (first | (refine vc_op rfl ?_; simp only [go_sem, seval]) | (refine vc_go rfl rfl rfl ?_; simp only [go_sem, seval]) | (refine vc_no rfl rfl rfl ?_; simp only [go_sem, seval]) | (refine vc_skip rfl rfl rfl ?_; simp only [go_sem, seval]))
            refine call_fn rfl rfl rfl rfl (enters_of Tryd.func41 (by kernel_rfl) rfl) (c1) rfl rfl rfl ?_
            simp only [go_sem, seval]
            repeat (first | (refine vc_op rfl ?_; simp only [go_sem, seval]) | (refine vc_go rfl rfl rfl ?_; simp only [go_sem, seval]) | (refine vc_no rfl rfl rfl ?_; simp only [go_sem, seval]) | (refine vc_skip rfl rfl rfl ?_; simp only [go_sem, seval]))
            refine vc_nil ?_
            refine gy_no rfl rfl rfl ?_
            simp only [go_sem, seval]
            repeat (first | (refine vc_op rfl ?_; simp only [go_sem, seval]) | (refine vc_go rfl rfl rfl ?_; simp only [go_sem, seval]) | (refine vc_no rfl rfl rfl ?_; simp only [go_sem, seval]) | (refine vc_skip rfl rfl rfl ?_; simp only [go_sem, seval]))
            refine vc_nil ?_
            first | refine Tr.cond (b := false) rfl (fun h => by cases h) (fun _ => ?_) | refine Tr.seq (Tr.cond (b := false) rfl (fun h => by cases h) (fun _ => ?_))
            refine Tr.skip ?_
            try simp only [blockK, thenK, ↓reduceIte]
            refine tr_region (by rw [hE]; rfl) ?_
            repeat (refine vc_op rfl ?_; simp only [go_sem, seval])
            refine vc_nil ?_
            rw [hw]
            try simp only [blockK, thenK, ↓reduceIte]
            refine ⟨i + 1, hlt, by omega, ?_⟩
            simp only [stR, hnx]
            refine wk_ren (fun n => n) ?_ ?_ rfl rfl rfl
            · repeat' (first | exact rfl | exact trivial | constructor)
            · repeat' (first | exact rfl | exact trivial | constructor)
          · cases x2
            · rw [Bool.and_false, Bool.false_and, if_neg (by simp)] at hnx
              first | refine tr_seq_y 15 sd (by rw [hE]; rfl) rfl rfl rfl ?_ | (refine Tr.seq ?_; refine tr_seq_y 15 sd (by rw [hE]; rfl) rfl rfl rfl ?_)
              simp only [List.toList_toArray, List.take_succ_cons, List.take_zero]
              repeat (first | (refine vc_op rfl ?_; simp only [go_sem, seval]) | (refine vc_go rfl rfl rfl ?_; simp only [go_sem, seval]) | (refine vc_no rfl rfl rfl ?_; simp only [go_sem, seval]) | (refine vc_skip rfl rfl rfl ?_; simp only [go_sem, seval]))
              refine call_fn rfl rfl rfl rfl (enters_of Tryd.func41 (by kernel_rfl) rfl) (c1) rfl rfl rfl ?_
              simp only [go_sem, seval]
              repeat (first | (refine vc_op rfl ?_; simp only [go_sem, seval]) | (refine vc_go rfl rfl rfl ?_; simp only [go_sem, seval]) | (refine vc_no rfl rfl rfl ?_; simp only [go_sem, seval]) | (refine vc_skip rfl rfl rfl ?_; simp only [go_sem, seval]))
              refine call_eff (fun n => n) [] [] rfl rfl rfl rfl (enters_of Tryd.func60 (by kernel_rfl) rfl) (c2) rfl rfl (by repeat' (first | exact rfl | exact trivial | constructor)) rfl rfl rfl ?_
              simp only [renH_nil, renH_cons, effR, go_sem, seval]
              repeat (first | (refine vc_op rfl ?_; simp only [go_sem, seval]) | (refine vc_go rfl rfl rfl ?_; simp only [go_sem, seval]) | (refine vc_no rfl rfl rfl ?_; simp only [go_sem, seval]) | (refine vc_skip rfl rfl rfl ?_; simp only [go_sem, seval]))
              refine vc_nil ?_
              refine gy_no rfl rfl rfl ?_
              simp only [go_sem, seval]
              repeat (first | (refine vc_op rfl ?_; simp only [go_sem, seval]) | (refine vc_go rfl rfl rfl ?_; simp only [go_sem, seval]) | (refine vc_no rfl rfl rfl ?_; simp only [go_sem, seval]) | (refine vc_skip rfl rfl rfl ?_; simp only [go_sem, seval]))
              refine vc_nil ?_
              first | refine Tr.cond (b := false) rfl (fun h => by cases h) (fun _ => ?_) | refine Tr.seq (Tr.cond (b := false) rfl (fun h => by cases h) (fun _ => ?_))
              refine Tr.skip ?_
              try simp only [blockK, thenK, ↓reduceIte]
              refine tr_region (by rw [hE]; rfl) ?_
              repeat (refine vc_op rfl ?_; simp only [go_sem, seval])
              refine vc_nil ?_
              rw [hw]
              try simp only [blockK, thenK, ↓reduceIte]
              refine ⟨i + 1, hlt, by omega, ?_⟩
              simp only [stR, hnx]
              refine wk_ren (fun n => n) ?_ ?_ rfl rfl rfl
              · repeat' (first | exact rfl | exact trivial | constructor)
              · repeat' (first | exact rfl | exact trivial | constructor)
            · rw [Bool.and_true, Bool.true_and] at hnx
              first | refine tr_seq_y 15 sd (by rw [hE]; rfl) rfl rfl rfl ?_ | (refine Tr.seq ?_; refine tr_seq_y 15 sd (by rw [hE]; rfl) rfl rfl rfl ?_)
              simp only [List.toList_toArray, List.take_succ_cons, List.take_zero]
              repeat (first | (refine vc_op rfl ?_; simp only [go_sem, seval]) | (refine vc_go rfl rfl rfl ?_; simp only [go_sem, seval]) | (refine vc_no rfl rfl rfl ?_; simp only [go_sem, seval]) | (refine vc_skip rfl rfl rfl ?_; simp only [go_sem, seval]))
              refine call_fn rfl rfl rfl rfl (enters_of Tryd.func41 (by kernel_rfl) rfl) (c1) rfl rfl rfl ?_
              simp only [go_sem, seval]
              repeat (first | (refine vc_op rfl ?_; simp only [go_sem, seval]) | (refine vc_go rfl rfl rfl ?_; simp only [go_sem, seval]) | (refine vc_no rfl rfl rfl ?_; simp only [go_sem, seval]) | (refine vc_skip rfl rfl rfl ?_; simp only [go_sem, seval]))
              refine call_eff (fun n => n) [] [] rfl rfl rfl rfl (enters_of Tryd.func60 (by kernel_rfl) rfl) (c2) rfl rfl (by repeat' (first | exact rfl | exact trivial | constructor)) rfl rfl rfl ?_
              simp only [renH_nil, renH_cons, effR, go_sem, seval]
              repeat (first | (refine vc_op rfl ?_; simp only [go_sem, seval]) | (refine vc_go rfl rfl rfl ?_; simp only [go_sem, seval]) | (refine vc_no rfl rfl rfl ?_; simp only [go_sem, seval]) | (refine vc_skip rfl rfl rfl ?_; simp only [go_sem, seval]))
              refine vc_nil ?_
              have hE1 := hE
              have hP1 := hP
              refine gy_if rfl rfl rfl ?_
              refine ⟨_, rfl, rfl, rfl, rfl, by rw [hE0]; rfl, rfl, ?_⟩
              intro Er hE hP
              rw [hE0] at hE
              simp only [frPut, List.zip_cons_cons, List.zip_nil_left, List.zip_nil_right, List.foldl_cons, List.foldl_nil, List.toList_toArray, List.map_cons, List.map_nil, go_sem, seval]
              refine tr_region (by rw [hE]; rfl) ?_
              repeat (refine vc_op rfl ?_; simp only [go_sem, seval])
              refine vc_nil ?_
              refine ⟨rfl, ?_⟩
              simp only [go_sem, seval]
              first | refine Tr.block ?_ | (refine Tr.seq ?_; refine Tr.block ?_)
              cases e3 : decide (IntKind.u64.wrap (a.t.epoch - a.s.epoch) = 1)
              · rw [e3, Bool.false_and, if_neg (by simp)] at hnx
                first | apply tr_m (by rw [hE]; rfl) | (refine Tr.seq ?_; apply tr_m (by rw [hE]; rfl))
                intro Q hQ
                simp only [List.toList_toArray, List.map_cons, List.map_nil, mo, guardSlot, Option.map_some, Option.map_none, List.getElem?_toArray, List.getElem?_cons_succ, List.getElem?_cons_zero, Option.bind_some]
                iterate 9 ((refine vm_op ?_); intro r hr; simp only [int_beq, e3, go_sem, seval]; subst hr)
                iterate 4 ((first | refine vm_if rfl ?_ | refine vm_no rfl ?_ | refine vm_skip rfl ?_); intro r hr; simp only [int_beq, e3, go_sem, seval]; subst hr)
                (refine vm_op ?_); intro r hr; simp only [int_beq, e3, go_sem, seval]; subst hr
                exact hQ
                first | refine Tr.cond (b := false) rfl (fun h => by cases h) (fun _ => ?_) | refine Tr.seq (Tr.cond (b := false) rfl (fun h => by cases h) (fun _ => ?_))
                refine Tr.skip ?_
                try simp only [blockK, thenK, ↓reduceIte]
                refine ⟨rfl, ?_⟩
                simp only [go_sem, seval]
                repeat (first | (refine vc_op rfl ?_; simp only [go_sem, seval]) | (refine vc_go rfl rfl rfl ?_; simp only [go_sem, seval]) | (refine vc_no rfl rfl rfl ?_; simp only [go_sem, seval]) | (refine vc_skip rfl rfl rfl ?_; simp only [go_sem, seval]))
                refine vc_nil ?_
                have hE := hE1
                have hP := hP1
                first | refine Tr.cond (b := false) rfl (fun h => by cases h) (fun _ => ?_) | refine Tr.seq (Tr.cond (b := false) rfl (fun h => by cases h) (fun _ => ?_))
                refine Tr.skip ?_
                try simp only [blockK, thenK, ↓reduceIte]
                refine tr_region (by rw [hE]; rfl) ?_
                repeat (refine vc_op rfl ?_; simp only [go_sem, seval])
                refine vc_nil ?_
                rw [hw]
                try simp only [blockK, thenK, ↓reduceIte]
                refine ⟨i + 1, hlt, by omega, ?_⟩
                simp only [stR, hnx]
                refine wk_ren (fun n => n) ?_ ?_ rfl rfl rfl
                · repeat' (first | exact rfl | exact trivial | constructor)
                · repeat' (first | exact rfl | exact trivial | constructor)
              · cases e4 : decide (a.t ∈ js)
                · rw [e3, e4, Bool.and_false, if_neg (by simp)] at hnx
                  rw [e4] at c3
                  first | apply tr_m (by rw [hE]; rfl) | (refine Tr.seq ?_; apply tr_m (by rw [hE]; rfl))
                  intro Q hQ
                  simp only [List.toList_toArray, List.map_cons, List.map_nil, mo, guardSlot, Option.map_some, Option.map_none, List.getElem?_toArray, List.getElem?_cons_succ, List.getElem?_cons_zero, Option.bind_some]
                  iterate 9 ((refine vm_op ?_); intro r hr; simp only [int_beq, e3, go_sem, seval]; subst hr)
                  iterate 3 ((first | refine vm_if rfl ?_ | refine vm_no rfl ?_ | refine vm_skip rfl ?_); intro r hr; simp only [int_beq, e3, go_sem, seval]; subst hr)
                  (first | refine vm_if rfl ?_ | refine vm_no rfl ?_ | refine vm_skip rfl ?_); intro r hr; simp only [int_beq, e3, go_sem, seval]
                  refine call_fn rfl rfl rfl rfl (enters_of Tryd.func37 (by kernel_rfl) rfl) (c3) rfl rfl rfl ?_
                  simp only [go_sem, seval]
                  subst hr
                  (refine vm_op ?_); intro r hr; simp only [go_sem, seval]; subst hr
                  exact hQ
                  first | refine Tr.cond (b := false) rfl (fun h => by cases h) (fun _ => ?_) | refine Tr.seq (Tr.cond (b := false) rfl (fun h => by cases h) (fun _ => ?_))
                  refine Tr.skip ?_
                  try simp only [blockK, thenK, ↓reduceIte]
                  refine ⟨rfl, ?_⟩
                  simp only [go_sem, seval]
                  repeat (first | (refine vc_op rfl ?_; simp only [go_sem, seval]) | (refine vc_go rfl rfl rfl ?_; simp only [go_sem, seval]) | (refine vc_no rfl rfl rfl ?_; simp only [go_sem, seval]) | (refine vc_skip rfl rfl rfl ?_; simp only [go_sem, seval]))
                  refine vc_nil ?_
                  have hE := hE1
                  have hP := hP1
                  first | refine Tr.cond (b := false) rfl (fun h => by cases h) (fun _ => ?_) | refine Tr.seq (Tr.cond (b := false) rfl (fun h => by cases h) (fun _ => ?_))
                  refine Tr.skip ?_
                  try simp only [blockK, thenK, ↓reduceIte]
                  refine tr_region (by rw [hE]; rfl) ?_
                  repeat (refine vc_op rfl ?_; simp only [go_sem, seval])
                  refine vc_nil ?_
                  rw [hw]
                  try simp only [blockK, thenK, ↓reduceIte]
                  refine ⟨i + 1, hlt, by omega, ?_⟩
                  simp only [stR, hnx]
                  refine wk_ren (fun n => n) ?_ ?_ rfl rfl rfl
                  · repeat' (first | exact rfl | exact trivial | constructor)
                  · repeat' (first | exact rfl | exact trivial | constructor)
                · rw [e3, e4, Bool.and_true, if_pos rfl] at hnx
                  rw [e4] at c3
                  first | apply tr_m (by rw [hE]; rfl) | (refine Tr.seq ?_; apply tr_m (by rw [hE]; rfl))
                  intro Q hQ
                  simp only [List.toList_toArray, List.map_cons, List.map_nil, mo, guardSlot, Option.map_some, Option.map_none, List.getElem?_toArray, List.getElem?_cons_succ, List.getElem?_cons_zero, Option.bind_some]
                  iterate 9 ((refine vm_op ?_); intro r hr; simp only [int_beq, e3, go_sem, seval]; subst hr)
                  iterate 3 ((first | refine vm_if rfl ?_ | refine vm_no rfl ?_ | refine vm_skip rfl ?_); intro r hr; simp only [int_beq, e3, go_sem, seval]; subst hr)
                  (first | refine vm_if rfl ?_ | refine vm_no rfl ?_ | refine vm_skip rfl ?_); intro r hr; simp only [int_beq, e3, go_sem, seval]
                  refine call_fn rfl rfl rfl rfl (enters_of Tryd.func37 (by kernel_rfl) rfl) (c3) rfl rfl rfl ?_
                  simp only [go_sem, seval]
                  subst hr
                  (refine vm_op ?_); intro r hr; simp only [go_sem, seval]; subst hr
                  exact hQ
                  first | refine Tr.cond (b := true) rfl (fun _ => ?_) (fun h => by cases h) | refine Tr.seq (Tr.cond (b := true) rfl (fun _ => ?_) (fun h => by cases h))
                  refine tr_region (by rw [hE]; rfl) ?_
                  repeat (refine vc_op rfl ?_; simp only [go_sem, seval])
                  refine upd56 rfl ?_
                  simp only [go_sem, seval]
                  refine vc_nil ?_
                  try simp only [blockK, thenK, ↓reduceIte]
                  refine ⟨rfl, ?_⟩
                  simp only [go_sem, seval]
                  repeat (first | (refine vc_op rfl ?_; simp only [go_sem, seval]) | (refine vc_go rfl rfl rfl ?_; simp only [go_sem, seval]) | (refine vc_no rfl rfl rfl ?_; simp only [go_sem, seval]) | (refine vc_skip rfl rfl rfl ?_; simp only [go_sem, seval]))
                  refine vc_nil ?_
                  have hE := hE1
                  have hP := hP1
                  first | refine Tr.cond (b := false) rfl (fun h => by cases h) (fun _ => ?_) | refine Tr.seq (Tr.cond (b := false) rfl (fun h => by cases h) (fun _ => ?_))
                  refine Tr.skip ?_
                  try simp only [blockK, thenK, ↓reduceIte]
                  refine tr_region (by rw [hE]; rfl) ?_
                  repeat (refine vc_op rfl ?_; simp only [go_sem, seval])
                  refine vc_nil ?_
                  rw [hw]
                  try simp only [blockK, thenK, ↓reduceIte]
                  refine ⟨i + 1, hlt, by omega, ?_⟩
                  simp only [stR, hnx]
                  refine wk_ren (fun n => n) ?_ ?_ rfl rfl rfl
                  · repeat' (first | exact rfl | exact trivial | constructor)
                  · repeat' (first | exact rfl | exact trivial | constructor)
        · have e1 : decide ((i : Int) < (l.length : Int)) = false := decide_eq_false (by omega)
          have hil : i = l.length := by omega
          subst hil
          first | refine tr_seq_region (by rw [hE]; rfl) ?_ | (refine Tr.seq ?_; refine tr_seq_region (by rw [hE]; rfl) ?_)
          repeat (refine vc_op rfl ?_; simp only [e1, go_sem, seval])
          refine vc_nil ?_
          first | refine Tr.cond (b := false) rfl (fun h => by cases h) (fun _ => ?_) | refine Tr.seq (Tr.cond (b := false) rfl (fun h => by cases h) (fun _ => ?_))
          refine Tr.exit ?_
          try simp only [blockK, thenK, ↓reduceIte]
          have hE := hE0
          refine ⟨rfl, _, _, rfl, by simp, rfl, ?_⟩
          simp only [goOn]
          simp only [HP.del, List.filter_cons, List.filter_nil, Bool.not_false, Bool.not_true, if_true, Bool.false_eq_true, if_false, go_sem, seval]
          have hes : ∀ x, decide (x ∈ setTo t l b js l.length) = finB t l b js x := set_all h hc
          generalize setTo t l b js l.length = es at hes
          first | refine tr_seq_region (by rw [hE]; rfl) ?_ | (refine Tr.seq ?_; refine tr_seq_region (by rw [hE]; rfl) ?_)
          repeat (refine vc_op rfl ?_; simp only [go_sem, seval])
          refine vc_nil ?_
          first | refine tr_seq_region (by rw [hE]; rfl) ?_ | (refine Tr.seq ?_; refine tr_seq_region (by rw [hE]; rfl) ?_)
          repeat (refine vc_op rfl ?_; simp only [checks, go_sem, seval])
          refine vc_nil ?_
          first | refine Tr.block ?_ | (refine Tr.seq ?_; refine Tr.block ?_)
          refine Tr.loop (stT t js es) (fun i => i ≤ js.length) (fun i => js.length - i) 0 (Nat.zero_le _) ?_ ?_
          · refine (Wk.nil 11 33 rfl).trans ?_
            refine wk_ren_df (fun | 9 => 90 | n => n) ?_ ?_ rfl rfl rfl
            · repeat' (first | exact rfl | exact trivial | constructor)
            · repeat' (first | exact rfl | exact trivial | constructor)
          · intro i hi
            unfold stT
            by_cases hlt : i < js.length
            · have e1 : decide ((i : Int) < (js.length : Int)) = true := decide_eq_true (by omega)
              have hn := nth_map_lt Check.av js i hlt
              have hw := wrap_next (n := i) (by omega)
              have hnx : ((js.take (i + 1)).filter fun c => decide (c ∈ es)) = ((js.take i).filter fun c => decide (c ∈ es)) ++ if decide (js[i] ∈ es) then [js[i]] else [] := by
                rw [List.take_add_one, List.getElem?_eq_getElem hlt, List.filter_append]
                congr 1
                simp only [Option.toList_some, List.filter_cons, List.filter_nil]
              have hm : ((js.take i).filter fun c => decide (c ∈ es)).length ≤ 100 := by
                have := List.length_filter_le (fun c => decide (c ∈ es)) (js.take i)
                rw [List.length_take] at this
                omega
              generalize ((js.take i).filter fun c => decide (c ∈ es)) = m at hnx hm
              generalize js[i] = a at hn hnx
              first | refine tr_seq_region (by rw [hE]; rfl) ?_ | (refine Tr.seq ?_; refine tr_seq_region (by rw [hE]; rfl) ?_)
              repeat (refine vc_op rfl ?_; simp only [e1, go_sem, seval])
              refine vc_nil ?_
              first | refine Tr.cond (b := true) rfl (fun _ => ?_) (fun h => by cases h) | refine Tr.seq (Tr.cond (b := true) rfl (fun _ => ?_) (fun h => by cases h))
              refine Tr.skip ?_
              try simp only [blockK, thenK, ↓reduceIte]
              first | refine Tr.block ?_ | (refine Tr.seq ?_; refine Tr.block ?_)
              first | apply tr_m (by rw [hE]; rfl) | (refine Tr.seq ?_; apply tr_m (by rw [hE]; rfl))
              intro Q hQ
              simp only [List.toList_toArray, List.map_cons, List.map_nil, mo, guardSlot, Option.map_some, Option.map_none, List.getElem?_toArray, List.getElem?_cons_succ, List.getElem?_cons_zero, Option.bind_some]
              iterate 4 ((refine vm_op ?_); intro r hr; simp only [hn, go_sem, seval]; subst hr)
              exact hQ
              cases x1 : decide (a ∈ es)
              · rw [x1, if_neg (by simp), List.append_nil] at hnx
                first | apply tr_m (by rw [hE]; rfl) | (refine Tr.seq ?_; apply tr_m (by rw [hE]; rfl))
                intro Q hQ
                simp only [List.toList_toArray, List.map_cons, List.map_nil, mo, guardSlot, Option.map_some, Option.map_none, List.getElem?_toArray, List.getElem?_cons_succ, List.getElem?_cons_zero, Option.bind_some]
                iterate 2 ((refine vm_op ?_); intro r hr; simp only [go_sem, seval]; subst hr)
                (refine vm_op ?_); intro r hr; simp only [go_sem, seval]
                refine look56 rfl ?_
                rw [x1]
                subst hr
                exact hQ
                first | refine Tr.cond (b := false) rfl (fun h => by cases h) (fun _ => ?_) | refine Tr.seq (Tr.cond (b := false) rfl (fun h => by cases h) (fun _ => ?_))
                refine Tr.skip ?_
                try simp only [blockK, thenK, ↓reduceIte]
                refine tr_region (by rw [hE]; rfl) ?_
                repeat (refine vc_op rfl ?_; simp only [go_sem, seval])
                refine vc_nil ?_
                rw [hw]
                try simp only [blockK, thenK, ↓reduceIte]
                refine ⟨i + 1, hlt, by omega, ?_⟩
                simp only [stT, hnx]
                refine wk_ren_df (fun n => n) ?_ ?_ rfl rfl rfl
                · repeat' (first | exact rfl | exact trivial | constructor)
                · repeat' (first | exact rfl | exact trivial | constructor)
              · rw [x1, if_pos rfl] at hnx
                first | apply tr_m (by rw [hE]; rfl) | (refine Tr.seq ?_; apply tr_m (by rw [hE]; rfl))
                intro Q hQ
                simp only [List.toList_toArray, List.map_cons, List.map_nil, mo, guardSlot, Option.map_some, Option.map_none, List.getElem?_toArray, List.getElem?_cons_succ, List.getElem?_cons_zero, Option.bind_some]
                iterate 2 ((refine vm_op ?_); intro r hr; simp only [go_sem, seval]; subst hr)
                (refine vm_op ?_); intro r hr; simp only [go_sem, seval]
                refine look56 rfl ?_
                rw [x1]
                subst hr
                exact hQ
                first | refine Tr.cond (b := true) rfl (fun _ => ?_) (fun h => by cases h) | refine Tr.seq (Tr.cond (b := true) rfl (fun _ => ?_) (fun h => by cases h))
                apply tr_ml (by rw [hE]; rfl)
                intro Q hQ
                simp only [List.toList_toArray, List.map_cons, List.map_nil, mo, guardSlot, Option.map_some, Option.map_none, List.getElem?_toArray, List.getElem?_cons_succ, List.getElem?_cons_zero, Option.bind_some]
                iterate 3 ((refine vm_op ?_); intro r hr; simp only [go_sem, seval]; subst hr)
                (refine vm_op ?_); intro r hr; simp only [go_sem, seval]
                refine ⟨by omega, by omega, ?_⟩
                simp only [List.filter_cons, List.filter_nil, Bool.not_false, Bool.not_true, if_true, Bool.false_eq_true, if_false, go_sem, seval]
                subst hr
                (refine vm_op ?_); intro r hr; simp only [go_sem, seval]; subst hr
                exact hQ
                try simp only [blockK, thenK, ↓reduceIte]
                refine tr_region (by rw [hE]; rfl) ?_
                repeat (refine vc_op rfl ?_; simp only [go_sem, seval])
                refine vc_nil ?_
                rw [hw]
                try simp only [blockK, thenK, ↓reduceIte]
                refine ⟨i + 1, hlt, by omega, ?_⟩
                simp only [stT, hnx, List.map_append, List.length_append, List.length_singleton, List.map_cons, List.map_nil]
                refine wk_ren_df (fun | 9 => 186 | n => n) ?_ ?_ rfl rfl rfl
                · repeat' (first | exact rfl | exact trivial | constructor)
                · repeat' (first | exact rfl | exact trivial | constructor)
            · have e1 : decide ((i : Int) < (js.length : Int)) = false := decide_eq_false (by omega)
              have hil : i = js.length := by omega
              have er : ((js.take i).filter fun c => decide (c ∈ es)) = finalsR t l b js := by
                rw [hil, List.take_length]
                unfold finalsR
                congr 1
                funext c
                exact hes c
              rw [er]
              have hlen : (finalsR t l b js).length = ((finalsR t l b js).map Check.av).length := by simp
              first | refine tr_seq_region (by rw [hE]; rfl) ?_ | (refine Tr.seq ?_; refine tr_seq_region (by rw [hE]; rfl) ?_)
              repeat (refine vc_op rfl ?_; simp only [e1, go_sem, seval])
              refine vc_nil ?_
              first | refine Tr.cond (b := false) rfl (fun h => by cases h) (fun _ => ?_) | refine Tr.seq (Tr.cond (b := false) rfl (fun h => by cases h) (fun _ => ?_))
              refine Tr.exit ?_
              try simp only [blockK, thenK, ↓reduceIte]
              first | refine tr_seq_region (by rw [hE]; rfl) ?_ | (refine Tr.seq ?_; refine tr_seq_region (by rw [hE]; rfl) ?_)
              repeat (refine vc_op rfl ?_; simp only [go_sem, seval])
              refine vc_nil ?_
              refine Tr.ret ?_
              refine ⟨by simp, fun o ho => by rw [List.mem_singleton.1 ho]; rfl, ?_⟩
              simp only [HP.drop, List.contains_cons, List.contains_nil, Bool.or_false, Bool.false_or, Bool.or_true, List.filter_cons, List.filter_nil, Bool.not_false, Bool.not_true, if_true, Bool.false_eq_true, if_false,  Tryd.f14, go_sem, seval]
              refine ⟨fun n => n, ?_, ⟨⟨rfl, rfl, rfl⟩, trivial⟩, rfl, fun _ _ => rfl⟩
              simp only [Bool.or_false, Bool.false_or, Bool.or_true, Bool.or_self, checks, List.filter_cons, List.filter_nil, Bool.not_false, Bool.not_true, if_true, Bool.false_eq_true, if_false, ← hlen, go_sem, seval]

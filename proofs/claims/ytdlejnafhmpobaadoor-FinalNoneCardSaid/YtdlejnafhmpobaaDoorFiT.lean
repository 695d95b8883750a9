/- The program: what is justified. -/
import Derived.Test.YtdlejnafhmpobaaDoorFiS
set_option linter.unusedSimpArgs false
set_option maxRecDepth 10000
namespace Go.Proofs.YtdlejnafhmpobaaDoor
open Go Go.Ab

theorem collect_eff (t : List Node) (l : List Link) (b : List Int) (hl : l.length ≤ 100) (hb : okB b) (hk : okL l) : Eff Tryd.prog 33 [.fn (.func 58) [] [.ptr 1 [] 0, .ptr 2 [] 0, .ptr 3 [] 0]] 4 (hpC t l b) (links (countL t l b)) (hpC t l b) := by
  have hc := appendseq_eff t l b hl hb hk
  unfold hpC at hc ⊢
  refine eff_of_tr Tryd.func33 rfl (Nat.le_of_ble_eq_true rfl) (by first | rfl | (simp only [AV.idsB, AV.idsBL, Bool.and_true, Bool.true_and] <;> rfl)) fun E hE hP => ?_
  first | refine tr_seq_region (by rw [hE]; rfl) ?_ | (refine Tr.seq ?_; refine tr_seq_region (by rw [hE]; rfl) ?_)
  repeat (refine vc_op rfl ?_; simp only [go_sem, seval])
  refine vc_nil ?_
  first | apply tr_m (by rw [hE]; rfl) | (refine Tr.seq ?_; apply tr_m (by rw [hE]; rfl))
  intro Q hQ
  simp only [List.toList_toArray, List.map_cons, List.map_nil, mo, guardSlot, Option.map_some, Option.map_none, List.getElem?_toArray, List.getElem?_cons_succ, List.getElem?_cons_zero, Option.bind_some]
  (refine vm_op ?_); intro r hr; simp only [go_sem, seval]; subst hr
  (refine vm_op ?_); intro r hr; simp only [go_sem, seval]
  refine call_eff (fun n => n) [] [] rfl rfl rfl rfl (enters_of Tryd.func57 (by kernel_rfl) rfl) (hc) rfl rfl (by repeat' (first | exact rfl | exact trivial | constructor)) rfl rfl rfl ?_
  simp only [renH_nil, renH_cons, effR, go_sem, seval]
  subst hr
  (refine vm_op ?_); intro r hr; simp only [go_sem, seval]; subst hr
  exact hQ
  refine Tr.ret ?_
  simp only [Tryd.f33, go_sem, seval]
  exact ⟨fun n => n, ⟨⟨rfl, rfl, rfl⟩, ⟨rfl, rfl, rfl⟩, ⟨rfl, rfl, rfl⟩, ⟨rfl, rfl, rfl⟩, trivial⟩, rfl, fun _ _ => rfl⟩

def insC (es : List Check) (c : Check) : List Check := if c ∈ es then es else es ++ [c]
def centE (c : Check) : AV × AV := (c.av, .bool true)
theorem tMap56 : tMap Tryd.prog 56 = some (32, 4) := by kernel_rfl
theorem ctZero4 : tZero Tryd.prog 4 = some (.bool false) := by kernel_rfl
theorem keys56 (es : List Check) : keysFit Tryd.prog 32 (es.map centE) := fun e he => by
  obtain ⟨x, _, rfl⟩ := List.mem_map.1 he
  exact fits28 x
theorem find_centE (es : List Check) (c : Check) : (es.map centE).findIdx? (fun e => c.av.eqb e.1) = es.findIdx? fun e => decide (c = e) := by
  rw [List.findIdx?_map]
  congr 1
  funext e
  exact Check.eqb c e
theorem found56 (es : List Check) (c : Check) : foundE c.av (es.map centE) = if c ∈ es then some (.bool true) else none := by
  unfold foundE
  induction es with
  | nil => rfl
  | cons e es ih =>
    have hb : c.av.eqb (centE e).1 = decide (c = e) := Check.eqb c e
    simp only [List.map_cons, List.find?_cons, hb]
    by_cases h : c = e
    · rw [decide_eq_true h, if_pos (by simp [h])]; rfl
    · rw [decide_eq_false h]
      have : (c ∈ e :: es) ↔ c ∈ es := by simp [h]
      simp only [this]
      exact ih
theorem look56 {hp : HP} {o : Nat} {es : List Check} {c : Check} {K : AV → Prop} (hg : HP.get hp o = some (.amap (es.map centE))) (h : K (.bool (decide (c ∈ es)))) : lookupK Tryd.prog 56 hp (.mp o) c.av false K := by
  simp only [lookupK, tMap56, hg, ctZero4, Bool.false_eq_true, if_false]
  refine ⟨fits28 c, depth28 c, keys56 es, ?_⟩
  rw [found56]
  by_cases hm : c ∈ es
  · rw [if_pos hm]; rw [decide_eq_true hm] at h; exact h
  · rw [if_neg hm]; rw [decide_eq_false hm] at h; exact h
theorem upd56 {hp : HP} {o : Nat} {es : List Check} {c : Check} {K : AV → HP → Prop} (hg : HP.get hp o = some (.amap (es.map centE))) (h : K (.tup []) (HP.set hp o (.amap ((insC es c).map centE)))) : mapUpdateK Tryd.prog 56 hp (.mp o) c.av (.bool true) K := by
  simp only [mapUpdateK, tMap56, hg]
  refine ⟨fits28 c, depth28 c, keys56 es, rfl, rfl, ?_⟩
  have : setE c.av (.bool true) (es.map centE) = (insC es c).map centE := by
    unfold setE insC
    rw [find_centE]
    cases hf : es.findIdx? fun e => decide (c = e) with
    | none =>
      have hn : c ∉ es := fun hm => by simpa using List.findIdx?_eq_none_iff.1 hf c hm
      rw [if_neg hn, List.map_append]
      rfl
    | some k =>
      obtain ⟨h1, h2, _⟩ := List.findIdx?_eq_some_iff_getElem.1 hf
      have he : es[k] = c := (of_decide_eq_true h2).symm
      rw [if_pos (he ▸ List.getElem_mem h1)]
      show (es.map centE).set k (centE c) = es.map centE
      rw [← he]
      apply List.ext_getElem (by simp)
      intro j h3 h4
      rw [List.getElem_set]
      split
      · rename_i hkj
        subst hkj
        simp
      · rfl
  rw [this]
  exact h
theorem insC_mem (es : List Check) (c x : Check) : x ∈ insC es c ↔ x ∈ es ∨ x = c := by
  unfold insC
  split
  · rename_i h
    constructor
    · exact fun hx => .inl hx
    · rintro (hx | rfl)
      · exact hx
      · exact h
  · simp

def insTo (js : List Check) (i : Nat) : List Check := (js.take i).foldl insC []
theorem insTo_mem (x : Check) : ∀ (js es : List Check), x ∈ js.foldl insC es ↔ x ∈ es ∨ x ∈ js
  | [], es => by simp
  | c :: js, es => by
    rw [List.foldl_cons, insTo_mem x js (insC es c), insC_mem]
    simp only [List.mem_cons]
    constructor
    · rintro ((h | h) | h)
      · exact .inl h
      · exact .inr (.inl h)
      · exact .inr (.inr h)
    · rintro (h | h | h)
      · exact .inl (.inl h)
      · exact .inl (.inr h)
      · exact .inr h

def stJ (t : List Node) (l : List Link) (b : List Int) (js : List Check) (i : Nat) : S where
  fr := [(1, links l), (2, u64s b), (4, .ptr 1 [] 0), (9, .ms 2 33 js.length), (10, .mp 3), (19, .sl (js.map Check.av) false), (20, .int .i64 js.length), (21, .int .i64 i)]
  hp := [(0, .tab 0 tabV), (1, .var (tav t)), (2, .row 33 (js.map Check.av)), (3, .amap ((insTo js i).map centE))]
  nx := 4

def stK (t : List Node) (ls : List Link) (p : List Check × List Check) : S where
  fr := [(4, .ptr 1 [] 0), (9, .ms 2 33 p.1.length), (10, .mp 3), (13, .sl (ls.map Link.av) false)]
  hp := [(0, .tab 0 tabV), (1, .var (tav t)), (2, .row 33 (p.1.map Check.av)), (3, .amap (p.2.map centE))]
  nx := 4
def stL (t : List Node) (ls : List Link) (p : List Check × List Check) (k : Nat) : S where
  fr := [(4, .ptr 1 [] 0), (9, .ms 2 33 p.1.length), (10, .mp 3), (13, .sl (ls.map Link.av) false), (33, .sl (ls.map Link.av) false), (34, .int .i64 ls.length), (35, .int .i64 k)]
  hp := [(0, .tab 0 tabV), (1, .var (tav t)), (2, .row 33 (p.1.map Check.av)), (3, .amap (p.2.map centE))]
  nx := 4

theorem more_T (t : List Node) (l : List Link) (b : List Int) (js : List Check) (hl : l.length ≤ 40) (hj : js.length ≤ 40) (hb : okB b) (hk : okL l) : PureT Tryd.prog 0 tabV 12 [tav t, links l, u64s b, checks js] (checks (moreR t l b js)) := by
  have hcol := collect_eff t l b (by omega) hb hk
  have hls : (countL t l b).length ≤ l.length := by
    unfold countL
    split
    · exact List.length_filter_le _ _
    · exact Nat.zero_le _
  have er : moreR t l b js = moreF (countL t l b) js := rfl
  generalize countL t l b = ls at hcol hls er
  unfold hpC at hcol
  refine eff_of_tr Tryd.func12 rfl (Nat.le_of_ble_eq_true rfl) (by first | rfl | (simp only [AV.idsB, AV.idsBL, Bool.and_true, Bool.true_and] <;> rfl)) fun E hE hP => ?_
  first | refine tr_seq_region (by rw [hE]; rfl) ?_ | (refine Tr.seq ?_; refine tr_seq_region (by rw [hE]; rfl) ?_)
  repeat (refine vc_op rfl ?_; simp only [go_sem, seval])
  refine vc_nil ?_
  refine Tr.scope ?_
  first | apply tr_m (by rw [hE]; rfl) | (refine Tr.seq ?_; apply tr_m (by rw [hE]; rfl))
  intro Q hQ
  simp only [List.toList_toArray, List.map_cons, List.map_nil, mo, guardSlot, Option.map_some, Option.map_none, List.getElem?_toArray, List.getElem?_cons_succ, List.getElem?_cons_zero, Option.bind_some]
  (refine vm_op ?_); intro r hr; simp only [go_sem, seval]; subst hr
  (refine vm_op ?_); intro r hr; simp only [go_sem, seval]
  refine call_own rfl rfl rfl rfl (enters_of Tryd.func32 (by kernel_rfl) rfl) (cclone_own js (by omega)) rfl rfl ?_
  simp only [go_sem, seval]
  subst hr
  (refine vm_op ?_); intro r hr; simp only [go_sem, seval]; subst hr
  exact hQ
  first | refine tr_seq_region (by rw [hE]; rfl) ?_ | (refine Tr.seq ?_; refine tr_seq_region (by rw [hE]; rfl) ?_)
  repeat (refine vc_op rfl ?_; simp only [go_sem, seval])
  refine vc_nil ?_
  first | refine tr_seq_region (by rw [hE]; rfl) ?_ | (refine Tr.seq ?_; refine tr_seq_region (by rw [hE]; rfl) ?_)
  repeat (refine vc_op rfl ?_; simp only [checks, go_sem, seval])
  refine vc_nil ?_
  first | refine Tr.block ?_ | (refine Tr.seq ?_; refine Tr.block ?_)
  refine Tr.loop (stJ t l b js) (fun i => i ≤ js.length) (fun i => js.length - i) 0 (Nat.zero_le _) ?_ ?_
  · refine wk_ren (fun | 2 => 49 | 3 => 81 | n => n) ?_ ?_ rfl rfl rfl
    · repeat' (first | exact rfl | exact trivial | constructor)
    · repeat' (first | exact rfl | exact trivial | constructor)
  · intro i hi
    unfold stJ
    by_cases hlt : i < js.length
    · have e1 : decide ((i : Int) < (js.length : Int)) = true := decide_eq_true (by omega)
      have hn := nth_map_lt Check.av js i hlt
      have hw := wrap_next (n := i) (by omega)
      have hnx : insTo js (i + 1) = insC (insTo js i) js[i] := foldl_next insC [] hlt
      generalize js[i] = c at hn hnx
      first | refine tr_seq_region (by rw [hE]; rfl) ?_ | (refine Tr.seq ?_; refine tr_seq_region (by rw [hE]; rfl) ?_)
      repeat (refine vc_op rfl ?_; simp only [e1, go_sem, seval])
      refine vc_nil ?_
      first | refine Tr.cond (b := true) rfl (fun _ => ?_) (fun h => by cases h) | refine Tr.seq (Tr.cond (b := true) rfl (fun _ => ?_) (fun h => by cases h))
      refine Tr.skip ?_
      try simp only [blockK, thenK, ↓reduceIte]
      first | refine Tr.block ?_ | (refine Tr.seq ?_; refine Tr.block ?_)
      first | apply tr_m (by rw [hE]; rfl) | (refine Tr.seq ?_; apply tr_m (by rw [hE]; rfl))
      intro Q hQ
      simp only [List.toList_toArray, List.map_cons, List.map_nil, mo, guardSlot, Option.map_some, Option.map_none, List.getElem?_toArray, List.getElem?_cons_succ, List.getElem?_cons_zero, Option.bind_some]
      iterate 4 ((refine vm_op ?_); intro r hr; simp only [hn, go_sem, seval]; subst hr)
      exact hQ
      refine tr_region (by rw [hE]; rfl) ?_
      repeat (refine vc_op rfl ?_; simp only [go_sem, seval])
      refine upd56 rfl ?_
      simp only [go_sem, seval]
      refine vc_nil ?_
      try simp only [blockK, thenK, ↓reduceIte]
      refine tr_region (by rw [hE]; rfl) ?_
      repeat (refine vc_op rfl ?_; simp only [go_sem, seval])
      refine vc_nil ?_
      rw [hw]
      try simp only [blockK, thenK, ↓reduceIte]
      refine ⟨i + 1, hlt, by omega, ?_⟩
      simp only [stJ, hnx]
      refine wk_ren (fun n => n) ?_ ?_ rfl rfl rfl
      · repeat' (first | exact rfl | exact trivial | constructor)
      · repeat' (first | exact rfl | exact trivial | constructor)
    · have e1 : decide ((i : Int) < (js.length : Int)) = false := decide_eq_false (by omega)
      have hil : i = js.length := by omega
      subst hil
      first | refine tr_seq_region (by rw [hE]; rfl) ?_ | (refine Tr.seq ?_; refine tr_seq_region (by rw [hE]; rfl) ?_)
      repeat (refine vc_op rfl ?_; simp only [e1, go_sem, seval])
      refine vc_nil ?_
      first | refine Tr.cond (b := false) rfl (fun h => by cases h) (fun _ => ?_) | refine Tr.seq (Tr.cond (b := false) rfl (fun h => by cases h) (fun _ => ?_))
      refine Tr.exit ?_
      try simp only [blockK, thenK, ↓reduceIte]
      first | apply tr_m (by rw [hE]; rfl) | (refine Tr.seq ?_; apply tr_m (by rw [hE]; rfl))
      intro Q hQ
      simp only [List.toList_toArray, List.map_cons, List.map_nil, mo, guardSlot, Option.map_some, Option.map_none, List.getElem?_toArray, List.getElem?_cons_succ, List.getElem?_cons_zero, Option.bind_some]
      iterate 3 ((refine vm_op ?_); intro r hr; simp only [go_sem, seval]; subst hr)
      (refine vm_op ?_); intro r hr; simp only [go_sem, seval]
      refine call_own rfl rfl rfl rfl (enters_of Tryd.func34 (by kernel_rfl) rfl) (counting_own t l b) rfl rfl ?_
      simp only [go_sem, seval]
      subst hr
      (refine vm_op ?_); intro r hr; simp only [go_sem, seval]
      refine call_eff (fun | 0 => 0 | 1 => 68 | 2 => 69 | 3 => 70 | n => n) [] [] rfl rfl rfl rfl (enters_of Tryd.func33 (by kernel_rfl) rfl) (hcol) rfl rfl (by repeat' (first | exact rfl | exact trivial | constructor)) rfl rfl rfl ?_
      simp only [renH_nil, renH_cons, effR, go_sem, seval]
      subst hr
      (refine vm_op ?_); intro r hr; simp only [go_sem, seval]; subst hr
      exact hQ
      refine Tr.seq (Tr.label ?_)
      simp only [thenK]
      first | refine Tr.block ?_ | (refine Tr.seq ?_; refine Tr.block ?_)
      refine Tr.loop (stK t ls) (fun p => (∀ x, x ∈ p.2 ↔ x ∈ p.1) ∧ moreF ls p.1 = moreF ls js ∧ p.1.length + leftN ls p.1 ≤ 80) (fun p => leftN ls p.1) (js, insTo js js.length) ⟨?_, rfl, ?_⟩ ?_ ?_
      · intro x
        unfold insTo
        rw [List.take_length, insTo_mem]
        simp
      · have := leftN_len ls js
        simp only
        omega
      · refine wk_ren (fun n => n) ?_ ?_ rfl rfl rfl
        · repeat' (first | exact rfl | exact trivial | constructor)
        · repeat' (first | exact rfl | exact trivial | constructor)
      · rintro ⟨out, es⟩ ⟨hes, hsame, hlen⟩
        simp only at hes hsame hlen
        unfold stK
        first | refine Tr.block ?_ | (refine Tr.seq ?_; refine Tr.block ?_)
        first | apply tr_m (by rw [hE]; rfl) | (refine Tr.seq ?_; apply tr_m (by rw [hE]; rfl))
        intro Q hQ
        simp only [List.toList_toArray, List.map_cons, List.map_nil, mo, guardSlot, Option.map_some, Option.map_none, List.getElem?_toArray, List.getElem?_cons_succ, List.getElem?_cons_zero, Option.bind_some]
        iterate 3 ((refine vm_op ?_); intro r hr; simp only [links, List.length_map, go_sem, seval]; subst hr)
        exact hQ
        first | refine Tr.block ?_ | (refine Tr.seq ?_; refine Tr.block ?_)
        refine Tr.loop (stL t ls (out, es)) (fun k => k ≤ ls.length ∧ ∀ j (hj : j < ls.length), j < k → goB out ls[j] = false) (fun k => ls.length - k) 0 ⟨Nat.zero_le _, fun _ _ h => by omega⟩ ?_ ?_
        · refine wk_ren (fun n => n) ?_ ?_ rfl rfl rfl
          · repeat' (first | exact rfl | exact trivial | constructor)
          · repeat' (first | exact rfl | exact trivial | constructor)
        · rintro k ⟨hk1, hall⟩
          unfold stL
          by_cases hkl : k < ls.length
          · have e2 : decide ((k : Int) < (ls.length : Int)) = true := decide_eq_true (by omega)
            have ha := nth_map_lt Link.av ls k hkl
            have hw2 := wrap_next (n := k) (by omega)
            have hfind : goB out ls[k] = true → ls.find? (goB out) = some ls[k] := fun h => by
              rw [List.find?_eq_some_iff_getElem]
              exact ⟨h, k, hkl, rfl, fun j hj => by rw [hall j (by omega) hj]; rfl⟩
            have hno : goB out ls[k] = false → ∀ j (hj : j < ls.length), j < k + 1 → goB out ls[j] = false := fun hp j hj hjl => by
              rcases Nat.lt_or_ge j k with h | h
              · exact hall j hj h
              · have : j = k := by omega
                subst this; exact hp
            generalize ls[k] = a at ha hfind hno
            have hg : goB out a = (decide (a.s ∈ es) && !decide (a.t ∈ es)) := by
              unfold goB
              rw [decide_eq_decide.2 (hes a.s), decide_eq_decide.2 (hes a.t)]
            first | refine tr_seq_region (by rw [hE]; rfl) ?_ | (refine Tr.seq ?_; refine tr_seq_region (by rw [hE]; rfl) ?_)
            repeat (refine vc_op rfl ?_; simp only [e2, go_sem, seval])
            refine vc_nil ?_
            first | refine Tr.cond (b := true) rfl (fun _ => ?_) (fun h => by cases h) | refine Tr.seq (Tr.cond (b := true) rfl (fun _ => ?_) (fun h => by cases h))
            refine Tr.skip ?_
            try simp only [blockK, thenK, ↓reduceIte]
            first | refine Tr.block ?_ | (refine Tr.seq ?_; refine Tr.block ?_)
            first | apply tr_m (by rw [hE]; rfl) | (refine Tr.seq ?_; apply tr_m (by rw [hE]; rfl))
            intro Q hQ
            simp only [List.toList_toArray, List.map_cons, List.map_nil, mo, guardSlot, Option.map_some, Option.map_none, List.getElem?_toArray, List.getElem?_cons_succ, List.getElem?_cons_zero, Option.bind_some]
            iterate 4 ((refine vm_op ?_); intro r hr; simp only [ha, go_sem, seval]; subst hr)
            exact hQ
            cases x1 : decide (a.s ∈ es)
            · rw [x1, Bool.false_and] at hg
              first | apply tr_m (by rw [hE]; rfl) | (refine Tr.seq ?_; apply tr_m (by rw [hE]; rfl))
              intro Q hQ
              simp only [List.toList_toArray, List.map_cons, List.map_nil, mo, guardSlot, Option.map_some, Option.map_none, List.getElem?_toArray, List.getElem?_cons_succ, List.getElem?_cons_zero, Option.bind_some]
              iterate 3 ((refine vm_op ?_); intro r hr; simp only [go_sem, seval]; subst hr)
              (refine vm_op ?_); intro r hr; simp only [go_sem, seval]
              refine look56 rfl ?_
              rw [x1]
              subst hr
              (refine vm_op ?_); intro r hr; simp only [go_sem, seval]; subst hr
              iterate 5 ((first | refine vm_if rfl ?_ | refine vm_no rfl ?_ | refine vm_skip rfl ?_); intro r hr; simp only [go_sem, seval]; subst hr)
              (refine vm_op ?_); intro r hr; simp only [go_sem, seval]; subst hr
              exact hQ
              first | refine Tr.cond (b := false) rfl (fun h => by cases h) (fun _ => ?_) | refine Tr.seq (Tr.cond (b := false) rfl (fun h => by cases h) (fun _ => ?_))
              refine Tr.skip ?_
              try simp only [blockK, thenK, ↓reduceIte]
              refine tr_region (by rw [hE]; rfl) ?_
              repeat (refine vc_op rfl ?_; simp only [go_sem, seval])
              refine vc_nil ?_
              rw [hw2]
              try simp only [blockK, thenK, ↓reduceIte]
              refine ⟨k + 1, ⟨hkl, hno hg⟩, by omega, ?_⟩
              refine wk_ren (fun n => n) ?_ ?_ rfl rfl rfl
              · repeat' (first | exact rfl | exact trivial | constructor)
              · repeat' (first | exact rfl | exact trivial | constructor)
            · cases x2 : decide (a.t ∈ es)
              · rw [x1, x2] at hg
                have hff := hfind hg
                obtain ⟨hs, hlt⟩ := moreF_some hff
                first | apply tr_m (by rw [hE]; rfl) | (refine Tr.seq ?_; apply tr_m (by rw [hE]; rfl))
                intro Q hQ
                simp only [List.toList_toArray, List.map_cons, List.map_nil, mo, guardSlot, Option.map_some, Option.map_none, List.getElem?_toArray, List.getElem?_cons_succ, List.getElem?_cons_zero, Option.bind_some]
                iterate 3 ((refine vm_op ?_); intro r hr; simp only [go_sem, seval]; subst hr)
                (refine vm_op ?_); intro r hr; simp only [go_sem, seval]
                refine look56 rfl ?_
                rw [x1]
                subst hr
                (refine vm_op ?_); intro r hr; simp only [go_sem, seval]; subst hr
                iterate 3 ((first | refine vm_if rfl ?_ | refine vm_no rfl ?_ | refine vm_skip rfl ?_); intro r hr; simp only [go_sem, seval]; subst hr)
                (first | refine vm_if rfl ?_ | refine vm_no rfl ?_ | refine vm_skip rfl ?_); intro r hr; simp only [go_sem, seval]
                refine look56 rfl ?_
                rw [x2]
                subst hr
                (first | refine vm_if rfl ?_ | refine vm_no rfl ?_ | refine vm_skip rfl ?_); intro r hr; simp only [go_sem, seval]; subst hr
                (refine vm_op ?_); intro r hr; simp only [go_sem, seval]; subst hr
                exact hQ
                first | refine Tr.cond (b := true) rfl (fun _ => ?_) (fun h => by cases h) | refine Tr.seq (Tr.cond (b := true) rfl (fun _ => ?_) (fun h => by cases h))
                first | refine tr_seq_region (by rw [hE]; rfl) ?_ | (refine Tr.seq ?_; refine tr_seq_region (by rw [hE]; rfl) ?_)
                repeat (refine vc_op rfl ?_; simp only [go_sem, seval])
                refine upd56 rfl ?_
                simp only [go_sem, seval]
                refine vc_nil ?_
                first | apply tr_m (by rw [hE]; rfl) | (refine Tr.seq ?_; apply tr_m (by rw [hE]; rfl))
                intro Q hQ
                simp only [List.toList_toArray, List.map_cons, List.map_nil, mo, guardSlot, Option.map_some, Option.map_none, List.getElem?_toArray, List.getElem?_cons_succ, List.getElem?_cons_zero, Option.bind_some]
                iterate 4 ((refine vm_op ?_); intro r hr; simp only [go_sem, seval]; subst hr)
                (refine vm_op ?_); intro r hr; simp only [go_sem, seval]
                refine ⟨by omega, by omega, ?_⟩
                simp only [List.filter_cons, List.filter_nil, Bool.not_false, Bool.not_true, if_true, Bool.false_eq_true, if_false, go_sem, seval]
                subst hr
                (refine vm_op ?_); intro r hr; simp only [go_sem, seval]; subst hr
                exact hQ
                refine Tr.exit ?_
                try simp only [blockK, thenK, ↓reduceIte]
                refine ⟨(out ++ [a.t], insC es a.t), ⟨fun x => ?_, hs.symm.trans hsame, by simp only [List.length_append, List.length_singleton]; omega⟩, hlt, ?_⟩
                · simp only [insC_mem, hes, List.mem_append, List.mem_singleton]
                · simp only [stK, List.map_append, List.length_append, List.length_singleton, List.map_cons, List.map_nil]
                  refine wk_ren (fun | 2 => 388 | n => n) ?_ ?_ rfl rfl rfl
                  · repeat' (first | exact rfl | exact trivial | constructor)
                  · repeat' (first | exact rfl | exact trivial | constructor)
              · rw [x1, x2] at hg
                first | apply tr_m (by rw [hE]; rfl) | (refine Tr.seq ?_; apply tr_m (by rw [hE]; rfl))
                intro Q hQ
                simp only [List.toList_toArray, List.map_cons, List.map_nil, mo, guardSlot, Option.map_some, Option.map_none, List.getElem?_toArray, List.getElem?_cons_succ, List.getElem?_cons_zero, Option.bind_some]
                iterate 3 ((refine vm_op ?_); intro r hr; simp only [go_sem, seval]; subst hr)
                (refine vm_op ?_); intro r hr; simp only [go_sem, seval]
                refine look56 rfl ?_
                rw [x1]
                subst hr
                (refine vm_op ?_); intro r hr; simp only [go_sem, seval]; subst hr
                iterate 3 ((first | refine vm_if rfl ?_ | refine vm_no rfl ?_ | refine vm_skip rfl ?_); intro r hr; simp only [go_sem, seval]; subst hr)
                (first | refine vm_if rfl ?_ | refine vm_no rfl ?_ | refine vm_skip rfl ?_); intro r hr; simp only [go_sem, seval]
                refine look56 rfl ?_
                rw [x2]
                subst hr
                (first | refine vm_if rfl ?_ | refine vm_no rfl ?_ | refine vm_skip rfl ?_); intro r hr; simp only [go_sem, seval]; subst hr
                (refine vm_op ?_); intro r hr; simp only [go_sem, seval]; subst hr
                exact hQ
                first | refine Tr.cond (b := false) rfl (fun h => by cases h) (fun _ => ?_) | refine Tr.seq (Tr.cond (b := false) rfl (fun h => by cases h) (fun _ => ?_))
                refine Tr.skip ?_
                try simp only [blockK, thenK, ↓reduceIte]
                refine tr_region (by rw [hE]; rfl) ?_
                repeat (refine vc_op rfl ?_; simp only [go_sem, seval])
                refine vc_nil ?_
                rw [hw2]
                try simp only [blockK, thenK, ↓reduceIte]
                refine ⟨k + 1, ⟨hkl, hno hg⟩, by omega, ?_⟩
                refine wk_ren (fun n => n) ?_ ?_ rfl rfl rfl
                · repeat' (first | exact rfl | exact trivial | constructor)
                · repeat' (first | exact rfl | exact trivial | constructor)
          · have e2 : decide ((k : Int) < (ls.length : Int)) = false := decide_eq_false (by omega)
            have hnone : ls.find? (goB out) = none := by
              rw [List.find?_eq_none]
              intro x hx
              obtain ⟨j, hj, rfl⟩ := List.mem_iff_getElem.1 hx
              simp [hall j hj (by omega)]
            have er2 := moreF_none hnone
            rw [er, ← hsame, er2]
            have hlen2 : out.length = (out.map Check.av).length := by simp
            first | refine tr_seq_region (by rw [hE]; rfl) ?_ | (refine Tr.seq ?_; refine tr_seq_region (by rw [hE]; rfl) ?_)
            repeat (refine vc_op rfl ?_; simp only [e2, go_sem, seval])
            refine vc_nil ?_
            first | refine Tr.cond (b := false) rfl (fun h => by cases h) (fun _ => ?_) | refine Tr.seq (Tr.cond (b := false) rfl (fun h => by cases h) (fun _ => ?_))
            refine Tr.exit ?_
            try simp only [blockK, thenK, ↓reduceIte]
            first | refine tr_seq_region (by rw [hE]; rfl) ?_ | (refine Tr.seq ?_; refine tr_seq_region (by rw [hE]; rfl) ?_)
            repeat (refine vc_op rfl ?_; simp only [go_sem, seval])
            refine vc_nil ?_
            refine Tr.ret ?_
            simp only [blockK, thenK, noGoto]
            simp only [Tryd.f12, go_sem, seval]
            refine ⟨fun n => n, ?_, ⟨⟨rfl, rfl, rfl⟩, trivial⟩, rfl, fun _ _ => rfl⟩
            simp only [Bool.or_false, Bool.false_or, Bool.or_true, Bool.or_self, checks, List.filter_cons, List.filter_nil, Bool.not_false, Bool.not_true, if_true, Bool.false_eq_true, if_false, ← hlen2, go_sem, seval]

/- The best children of all. -/
import Derived.Test.YtgnidooihignfaaGreatDoorP3
import Derived.Test.YtgnidooihignfaaGreatDoorAbFour
set_option linter.unusedSimpArgs false
set_option maxRecDepth 10000
namespace Go.Proofs.YtgnidooihignfaaGreatDoor
open Go Go.Ab

def rowI (f : Nat → Int) (n : Nat) : List AV := (List.range n).map fun i => iav (f i)
theorem rowI_len (f : Nat → Int) (n : Nat) : (rowI f n).length = n := by simp [rowI]
theorem rowI_get (f : Nat → Int) {n i : Nat} (h : i < n) : (rowI f n)[i]? = some (.int .i64 (f i)) := by simp [rowI, h, iav]
theorem rowI_congr {f g : Nat → Int} {n : Nat} (h : ∀ i, i < n → f i = g i) : rowI f n = rowI g n := by
  apply List.ext_getElem?
  intro i
  by_cases hi : i < n
  · rw [rowI_get f hi, rowI_get g hi, h i hi]
  · rw [List.getElem?_eq_none (by rw [rowI_len]; omega), List.getElem?_eq_none (by rw [rowI_len]; omega)]
theorem rowI_set (f : Nat → Int) (n p : Nat) (v : Int) (g : Nat → Int) (h : ∀ i, i < n → g i = if i = p then v else f i) : (rowI f n).set p (.int .i64 v) = rowI g n := by
  apply List.ext_getElem?
  intro i
  by_cases hi : i < n
  · rw [rowI_get g hi, List.getElem?_set, h i hi]
    by_cases hp : p = i
    · subst hp; simp [rowI_len, hi]
    · rw [if_neg hp, if_neg (fun e => hp e.symm), rowI_get f hi]
  · rw [List.getElem?_eq_none (by rw [List.length_set, rowI_len]; omega), List.getElem?_eq_none (by rw [rowI_len]; omega)]
theorem rowI_repl (n : Nat) : List.replicate n (AV.int .i64 0) = rowI (fun _ => 0) n := by
  apply List.ext_getElem?
  intro i
  by_cases hi : i < n
  · rw [rowI_get _ hi]; simp [hi]
  · rw [List.getElem?_eq_none (by simp; omega), List.getElem?_eq_none (by rw [rowI_len]; omega)]
def bstep (t : List Node) (w : List Int) (ld : List Bool) (i best : Int) (k : Nat) : Int :=
  if (t.getD k zNode).parent ≠ i ∨ ld.getD k false = false then best else if wbetterB t w k best then k else best
def kidTo (t : List Node) (w : List Int) (ld : List Bool) (i : Int) : Nat → Int
  | 0 => -1
  | k + 1 => bstep t w ld i (kidTo t w ld i k) k
def kidF (t : List Node) (w : List Int) (ld : List Bool) (i : Int) : Int := kidTo t w ld i t.length

theorem kidTo_range (t : List Node) (w : List Int) (ld : List Bool) (i : Int) : ∀ k, kidTo t w ld i k = -1 ∨ (0 ≤ kidTo t w ld i k ∧ kidTo t w ld i k < k)
  | 0 => .inl rfl
  | k + 1 => by
    have ih := kidTo_range t w ld i k
    rw [kidTo, bstep]
    split
    · rcases ih with h | h
      · exact .inl h
      · exact .inr ⟨h.1, by omega⟩
    · split
      · exact .inr ⟨by omega, by omega⟩
      · rcases ih with h | h
        · exact .inl h
        · exact .inr ⟨h.1, by omega⟩
def st52_0 (t : List Node) (w : List Int) (ld : List Bool) (i : Nat) : S where
  fr := [(2, .sl (ld.map .bool) false), (3, .ptr 0 [] 0), (4, .ptr 1 [] 0), (7, .ms 2 1 t.length), (17, .int .i64 t.length), (18, .int .i64 i)]
  hp := [(0, .var (tav t)), (1, .var (.sl (w.map uav) false)), (2, .row 1 (rowI (fun j => if j < i then -1 else 0) t.length))]
  nx := 3
def st52_1 (t : List Node) (w : List Int) (ld : List Bool) (k : Nat) : S where
  fr := [(2, .sl (ld.map .bool) false), (7, .ms 2 1 t.length), (9, .fn (.func 218) [] [.ptr 1 [] 0, .ptr 0 [] 0]), (27, .sl (t.map Node.av) false), (28, .int .i64 t.length), (29, .int .i64 k)]
  hp := [(0, .var (tav t)), (1, .var (.sl (w.map uav) false)), (2, .row 1 (rowI (fun j => kidTo t w ld j k) t.length))]
  nx := 3

set_option maxRecDepth 10000 in
theorem kids_pure (t : List Node) (w : List Int) (ld : List Bool) (h : toldB t w ld = true) : Pure Tryz.prog 175 [tav t, .sl (w.map uav) false, .sl (ld.map .bool) false] (.sl (rowI (fun j => kidF t w ld j) t.length) false) := by
  have hm : mayB t = true := by simp [toldB] at h; exact h.1.1
  have hwl : w.length = t.length := by simp [toldB] at h; exact h.1.2
  have hdl : ld.length = t.length := by simp [toldB] at h; exact h.2
  obtain ⟨hl1, hl2⟩ := may_len hm
  clear h
  refine pure_of_tr Tryz.func175 rfl (Nat.le_of_ble_eq_true rfl) rfl fun E hE hP => ?_
  refine mr ?_
  first | apply tr_m (by rw [hE]; rfl) | (refine Tr.seq ?_; apply tr_m (by rw [hE]; rfl))
  intro Q hQ
  simp only [go_sem, seval]
  iterate 3 refine mV ?_
  (refine vm_op ?_); intro r hr; simp only [go_sem, seval]
  refine ⟨by omega, by omega, by omega, ?_⟩
  simp only [Int.toNat_natCast, rowI_repl, go_sem, seval]
  subst hr
  refine mV ?_
  exact hQ
  refine mr ?_
  refine mBk ?_
  refine Tr.loop (st52_0 t w ld) (fun i => i ≤ t.length) (fun i => t.length - i) 0 (Nat.zero_le _) ?_ ?_
  · refine wk_ren (fun | 1 => 16 | 2 => 96 | n => n) mB mB rfl rfl rfl
  · intro i hi
    unfold st52_0
    refine mr ?_
    first | refine Tr.cond rfl (fun h1 => ?_) (fun h1 => ?_) | refine Tr.seq (Tr.cond rfl (fun h1 => ?_) (fun h1 => ?_))
    · refine Tr.skip ?_
      try simp only [blockK, thenK, ↓reduceIte]
      have hlt : i < t.length := by have := of_decide_eq_true h1; omega
      have hw := wrap_next (n := i) (by omega)
      have hset := rowI_set (fun j => if j < i then -1 else 0) t.length i (-1) (fun j => if j < i + 1 then -1 else 0) (fun j _ => by by_cases h1 : j < i <;> by_cases h2 : j = i <;> by_cases h3 : j < i + 1 <;> simp [h1, h2, h3] <;> omega)
      refine mBk ?_
      refine mr ?_
      apply tr_ml (by rw [hE]; rfl)
      intro Q hQ
      simp only [go_sem, seval]
      iterate 2 refine mV ?_
      (refine vm_op ?_); intro r hr; simp only [go_sem, seval]
      refine ⟨by omega, by omega, ?_⟩
      simp only [Int.toNat_natCast, go_sem, seval]
      subst hr
      have hget := rowI_get (fun j => if j < i then -1 else 0) hlt
      (refine vm_op ?_); intro r hr; simp only [hget, hset, go_sem, seval]; subst hr
      exact hQ
      try simp only [blockK, thenK, ↓reduceIte]
      refine tr_region (by rw [hE]; rfl) ?_
      refine mO ?_
      refine vc_nil ?_
      rw [hw]
      try simp only [blockK, thenK, ↓reduceIte]
      refine ⟨i + 1, hlt, by omega, ?_⟩
      refine wk_ren (fun n => n) mB mB rfl rfl rfl
    · refine Tr.exit ?_
      try simp only [blockK, thenK, ↓reduceIte]
      have hil : i = t.length := by have := of_decide_eq_false h1; omega
      subst hil
      refine mr ?_
      refine mr ?_
      refine mBk ?_
      refine Tr.loop (st52_1 t w ld) (fun k => k ≤ t.length) (fun k => t.length - k) 0 (Nat.zero_le _) ?_ ?_
      · have e : rowI (fun j => if j < t.length then -1 else 0) t.length = rowI (fun j => kidTo t w ld j 0) t.length := rowI_congr fun j hj => by simp [hj, kidTo]
        rw [e]
        refine wk_ren (fun n => n) mB mB rfl rfl rfl
      · intro k hk
        unfold st52_1
        refine mr ?_
        first | refine Tr.cond rfl (fun g1 => ?_) (fun g1 => ?_) | refine Tr.seq (Tr.cond rfl (fun g1 => ?_) (fun g1 => ?_))
        · refine Tr.skip ?_
          try simp only [blockK, thenK, ↓reduceIte]
          have hlt : k < t.length := by have := of_decide_eq_true g1; omega
          have hw := wrap_next (n := k) (by omega)
          have nn := nth_node hlt
          have nl := nth_l (ld := ld) (k := k) (by omega)
          have hst : ∀ i : Int, kidTo t w ld i (k + 1) = bstep t w ld i (kidTo t w ld i k) k := fun i => rfl
          have hpar := may_parent hm hlt
          refine mBk ?_
          generalize hn : t.getD k zNode = n at nn hpar
          generalize hlk : ld.getD k false = lk at nl
          first | refine tr_seq_region (by rw [hE]; rfl) ?_ | (refine Tr.seq ?_; refine tr_seq_region (by rw [hE]; rfl) ?_)
          repeat (refine vc_op rfl ?_; simp only [nn, go_sem, seval])
          refine vc_nil ?_
          have same : (∀ j : Nat, j < t.length → kidTo t w ld j (k + 1) = kidTo t w ld j k) → rowI (fun j => kidTo t w ld j (k + 1)) t.length = rowI (fun j => kidTo t w ld j k) t.length := fun h => rowI_congr h
          rcases hpar with ⟨hp, h0⟩ | ⟨hp0, hp1⟩
          · have ep : (n.parent != -1) = false := by simp [hp]
            have hs := same fun j _ => by rw [hst, bstep, hn, if_pos (.inl (by omega))]
            first | apply tr_m (by rw [hE]; rfl) | (refine Tr.seq ?_; apply tr_m (by rw [hE]; rfl))
            intro Q hQ
            simp only [go_sem, seval]
            iterate 4 ((refine vm_op ?_); intro r hr; simp only [ep, go_sem, seval]; subst hr)
            iterate 4 ((first | refine vm_if rfl ?_ | refine vm_no rfl ?_ | refine vm_skip rfl ?_); intro r hr; simp only [ep, go_sem, seval]; subst hr)
            iterate 2 ((refine vm_op ?_); intro r hr; simp only [ep, go_sem, seval]; subst hr)
            iterate 8 ((first | refine vm_if rfl ?_ | refine vm_no rfl ?_ | refine vm_skip rfl ?_); intro r hr; simp only [ep, go_sem, seval]; subst hr)
            (refine vm_op ?_); intro r hr; simp only [ep, go_sem, seval]; subst hr
            exact hQ
            refine mNot ?_
            refine Tr.skip ?_
            try simp only [blockK, thenK, ↓reduceIte]
            refine tr_region (by rw [hE]; rfl) ?_
            refine mO ?_
            refine vc_nil ?_
            rw [hw]
            try simp only [blockK, thenK, ↓reduceIte]
            refine ⟨k + 1, hlt, by omega, ?_⟩
            rw [hs]
            refine wk_ren (fun n => n) mB mB rfl rfl rfl
          · obtain ⟨p, hp⟩ : ∃ p : Nat, n.parent = p := ⟨n.parent.toNat, by omega⟩
            have ep : ((p : Int) != -1) = true := by rw [int_bne, decide_eq_false (by omega)]; rfl
            cases lk with
            | false =>
              have hs := same fun j _ => by rw [hst, bstep, hlk, if_pos (.inr rfl)]
              first | apply tr_m (by rw [hE]; rfl) | (refine Tr.seq ?_; apply tr_m (by rw [hE]; rfl))
              intro Q hQ
              simp only [go_sem, seval]
              iterate 4 ((refine vm_op ?_); intro r hr; simp only [hp, ep, nl, go_sem, seval]; subst hr)
              iterate 4 ((first | refine vm_if rfl ?_ | refine vm_no rfl ?_ | refine vm_skip rfl ?_); intro r hr; simp only [hp, ep, nl, go_sem, seval]; subst hr)
              iterate 2 ((refine vm_op ?_); intro r hr; simp only [hp, ep, nl, go_sem, seval]; subst hr)
              iterate 8 ((first | refine vm_if rfl ?_ | refine vm_no rfl ?_ | refine vm_skip rfl ?_); intro r hr; simp only [hp, ep, nl, go_sem, seval]; subst hr)
              (refine vm_op ?_); intro r hr; simp only [hp, ep, nl, go_sem, seval]; subst hr
              exact hQ
              refine mNot ?_
              refine Tr.skip ?_
              try simp only [blockK, thenK, ↓reduceIte]
              refine tr_region (by rw [hE]; rfl) ?_
              refine mO ?_
              refine vc_nil ?_
              rw [hw]
              try simp only [blockK, thenK, ↓reduceIte]
              refine ⟨k + 1, hlt, by omega, ?_⟩
              rw [hs]
              refine wk_ren (fun n => n) mB mB rfl rfl rfl
            | true =>
              have hpl : p < t.length := by omega
              have hr := kidTo_range t w ld p k
              have bp := wbetter_pure t w k (kidTo t w ld p k) hwl hlt (hr.imp_right fun h => ⟨h.1, by omega⟩)
              cases hb : wbetterB t w k (kidTo t w ld p k) with
              | false =>
                rw [hb] at bp
                have hs := same fun j hj => by
                  rw [hst, bstep, hn, hlk]
                  by_cases hjp : n.parent = j
                  · rw [if_neg (by simp [hjp]), show (j : Int) = p by omega, hb]; rfl
                  · rw [if_pos (.inl hjp)]
                first | apply tr_m (by rw [hE]; rfl) | (refine Tr.seq ?_; apply tr_m (by rw [hE]; rfl))
                intro Q hQ
                simp only [go_sem, seval]
                iterate 4 ((refine vm_op ?_); intro r hr; simp only [hp, ep, nl, go_sem, seval]; subst hr)
                iterate 4 ((first | refine vm_if rfl ?_ | refine vm_no rfl ?_ | refine vm_skip rfl ?_); intro r hr; simp only [hp, ep, nl, go_sem, seval]; subst hr)
                iterate 2 ((refine vm_op ?_); intro r hr; simp only [hp, ep, nl, go_sem, seval]; subst hr)
                iterate 5 ((first | refine vm_if rfl ?_ | refine vm_no rfl ?_ | refine vm_skip rfl ?_); intro r hr; simp only [hp, ep, nl, go_sem, seval]; subst hr)
                (first | refine vm_if rfl ?_ | refine vm_no rfl ?_ | refine vm_skip rfl ?_); intro r hr; simp only [hp, ep, nl, go_sem, seval]
                refine ⟨by omega, by omega, ?_⟩
                simp only [Int.toNat_natCast, go_sem, seval]
                subst hr
                have hget := rowI_get (fun j : Nat => kidTo t w ld j k) hpl
                (first | refine vm_if rfl ?_ | refine vm_no rfl ?_ | refine vm_skip rfl ?_); intro r hr; simp only [hget, go_sem, seval]; subst hr
                (first | refine vm_if rfl ?_ | refine vm_no rfl ?_ | refine vm_skip rfl ?_); intro r hr; simp only [go_sem, seval]
                refine call_fn rfl rfl rfl rfl (enters_of Tryz.func218 (by kernel_rfl) rfl) (bp) rfl rfl rfl ?_
                simp only [go_sem, seval]
                subst hr
                refine mV ?_
                exact hQ
                refine mNot ?_
                refine Tr.skip ?_
                try simp only [blockK, thenK, ↓reduceIte]
                refine tr_region (by rw [hE]; rfl) ?_
                refine mO ?_
                refine vc_nil ?_
                rw [hw]
                try simp only [blockK, thenK, ↓reduceIte]
                refine ⟨k + 1, hlt, by omega, ?_⟩
                rw [hs]
                refine wk_ren (fun n => n) mB mB rfl rfl rfl
              | true =>
                rw [hb] at bp
                have hs := rowI_set (fun j : Nat => kidTo t w ld j k) t.length p k (fun j : Nat => kidTo t w ld j (k + 1)) fun j hj => by
                  show kidTo t w ld j (k + 1) = _
                  rw [hst, bstep, hn, hlk]
                  by_cases hjp : j = p
                  · rw [if_neg (by simp; omega), if_pos hjp, hjp, hb]; rfl
                  · rw [if_pos (.inl (by omega)), if_neg hjp]
                first | apply tr_m (by rw [hE]; rfl) | (refine Tr.seq ?_; apply tr_m (by rw [hE]; rfl))
                intro Q hQ
                simp only [go_sem, seval]
                iterate 4 ((refine vm_op ?_); intro r hr; simp only [hp, ep, nl, go_sem, seval]; subst hr)
                iterate 4 ((first | refine vm_if rfl ?_ | refine vm_no rfl ?_ | refine vm_skip rfl ?_); intro r hr; simp only [hp, ep, nl, go_sem, seval]; subst hr)
                iterate 2 ((refine vm_op ?_); intro r hr; simp only [hp, ep, nl, go_sem, seval]; subst hr)
                iterate 5 ((first | refine vm_if rfl ?_ | refine vm_no rfl ?_ | refine vm_skip rfl ?_); intro r hr; simp only [hp, ep, nl, go_sem, seval]; subst hr)
                (first | refine vm_if rfl ?_ | refine vm_no rfl ?_ | refine vm_skip rfl ?_); intro r hr; simp only [hp, ep, nl, go_sem, seval]
                refine ⟨by omega, by omega, ?_⟩
                simp only [Int.toNat_natCast, go_sem, seval]
                subst hr
                have hget := rowI_get (fun j : Nat => kidTo t w ld j k) hpl
                (first | refine vm_if rfl ?_ | refine vm_no rfl ?_ | refine vm_skip rfl ?_); intro r hr; simp only [hget, go_sem, seval]; subst hr
                (first | refine vm_if rfl ?_ | refine vm_no rfl ?_ | refine vm_skip rfl ?_); intro r hr; simp only [go_sem, seval]
                refine call_fn rfl rfl rfl rfl (enters_of Tryz.func218 (by kernel_rfl) rfl) (bp) rfl rfl rfl ?_
                simp only [go_sem, seval]
                subst hr
                refine mV ?_
                exact hQ
                refine mYes ?_
                have hget := rowI_get (fun j : Nat => kidTo t w ld j k) hpl
                apply tr_ml (by rw [hE]; rfl)
                intro Q hQ
                simp only [go_sem, seval]
                iterate 4 ((refine vm_op ?_); intro r hr; simp only [hp, go_sem, seval]; subst hr)
                (refine vm_op ?_); intro r hr; simp only [hp, go_sem, seval]
                refine ⟨by omega, by omega, ?_⟩
                simp only [Int.toNat_natCast, go_sem, seval]
                subst hr
                (refine vm_op ?_); intro r hr; simp only [hget, hs, go_sem, seval]; subst hr
                exact hQ
                try simp only [blockK, thenK, ↓reduceIte]
                refine tr_region (by rw [hE]; rfl) ?_
                refine mO ?_
                refine vc_nil ?_
                rw [hw]
                try simp only [blockK, thenK, ↓reduceIte]
                refine ⟨k + 1, hlt, by omega, ?_⟩
                refine wk_ren (fun n => n) mB mB rfl rfl rfl
        · refine Tr.exit ?_
          try simp only [blockK, thenK, ↓reduceIte]
          have hkl : k = t.length := by have := of_decide_eq_false g1; omega
          subst hkl
          refine mr ?_
          refine Tr.ret ?_
          simp only [rowI_len, Tryz.f175, go_sem, seval]
          rfl

theorem told_facts {t : List Node} {w : List Int} {ld : List Bool} (h : toldB t w ld = true) : mayB t = true ∧ w.length = t.length ∧ ld.length = t.length := by
  simp [toldB] at h; exact ⟨h.1.1, h.1.2, h.2⟩
theorem nth_row (f : Nat → Int) {n i : Nat} (h : i < n) : nth (rowI f n) (i : Int) = some (.int .i64 (f i)) := by
  have := rowI_get f h
  unfold nth
  simpa using this

def downL (f : Int → Int) : Nat → Int → List Int
  | 0, _ => []
  | n + 1, i => if i = -1 then [] else i :: downL f n (f i)
def lineF (t : List Node) (w : List Int) (ld : List Bool) (i : Int) : List Int := downL (kidF t w ld) ((t.length : Int) - i).toNat i
def lineR (t : List Node) (w : List Int) (ld : List Bool) (i : Int) : List Int := if toldB t w ld = true ∧ 0 ≤ i ∧ i < t.length then lineF t w ld i else []

theorem kid_above {t : List Node} {w : List Int} {ld : List Bool} (hm : mayB t = true) {i : Int} : ∀ k, k ≤ t.length → kidTo t w ld i k = -1 ∨ i < kidTo t w ld i k
  | 0, _ => .inl rfl
  | k + 1, hk => by
    have ih := kid_above (w := w) (ld := ld) (i := i) hm k (by omega)
    have hp := may_parent hm (k := k) (by omega)
    rw [kidTo, bstep]
    split
    · exact ih
    · rename_i h
      split
      · right
        have : (t.getD k zNode).parent = i := Classical.not_not.1 fun e => h (.inl e)
        rcases hp with h' | h' <;> omega
      · exact ih
theorem kidF_range {t : List Node} {w : List Int} {ld : List Bool} (hm : mayB t = true) (i : Int) (_hi : 0 ≤ i) : kidF t w ld i = -1 ∨ (i < kidF t w ld i ∧ kidF t w ld i < t.length) := by
  have h1 := kid_above (w := w) (ld := ld) (i := i) hm t.length (Nat.le_refl _)
  have h2 := kidTo_range t w ld i t.length
  unfold kidF
  omega
theorem downL_none (f : Int → Int) (m : Nat) : downL f m (-1) = [] := by cases m <;> simp [downL]
theorem downL_fuel (f : Int → Int) (n : Int) (hf : ∀ i, 0 ≤ i → i < n → f i = -1 ∨ (i < f i ∧ f i < n)) : ∀ (m m' : Nat) (i : Int), 0 ≤ i → i < n → n - i ≤ m → n - i ≤ m' → downL f m i = downL f m' i
  | 0, _, i, _, h1, h2, _ => by omega
  | _, 0, i, _, h1, _, h2 => by omega
  | m + 1, m' + 1, i, h0, h1, h2, h3 => by
    simp only [downL, if_neg (show ¬ i = -1 by omega)]
    rcases hf i h0 h1 with h | ⟨h4, h5⟩
    · rw [h, downL_none, downL_none]
    · rw [downL_fuel f n hf m m' (f i) (by omega) h5 (by omega) (by omega)]
theorem lineF_none (t : List Node) (w : List Int) (ld : List Bool) : lineF t w ld (-1) = [] := downL_none _ _
theorem lineF_next {t : List Node} {w : List Int} {ld : List Bool} (hm : mayB t = true) {i : Int} (h0 : 0 ≤ i) (h1 : i < t.length) : lineF t w ld i = i :: lineF t w ld (kidF t w ld i) := by
  obtain ⟨m, hmm⟩ : ∃ m, ((t.length : Int) - i).toNat = m + 1 := ⟨((t.length : Int) - i).toNat - 1, by omega⟩
  rw [lineF, hmm, downL, if_neg (by omega)]
  congr 1
  rcases kidF_range (w := w) (ld := ld) hm i h0 with h | ⟨h4, h5⟩
  · rw [h, downL_none, lineF_none]
  · exact downL_fuel _ t.length (fun j hj _ => kidF_range hm j hj) _ _ _ (by omega) h5 (by omega) (by omega)
theorem lineF_len {t : List Node} {w : List Int} {ld : List Bool} (i : Int) (h0 : 0 ≤ i) : (lineF t w ld i).length ≤ t.length := by
  have : ∀ (m : Nat) (j : Int), (downL (kidF t w ld) m j).length ≤ m := fun m => by
    induction m with
    | zero => intro j; simp [downL]
    | succ m ih => intro j; simp only [downL]; split <;> simp; exact ih _
  have := this ((t.length : Int) - i).toNat i
  unfold lineF
  omega

theorem down_own (xs : List AV) (i : Int) : Own Tryz.prog 174 [.sl xs false, .int .i64 i] (.fn (.func 217) [] [.ptr 0 [] 0, .ptr 1 [] 0]) [(0, .var (.int .i64 i)), (1, .var (.sl xs false))] := by
  refine own_of_tr Tryz.func174 rfl (Nat.le_of_ble_eq_true rfl) rfl fun E hE hP => ?_
  refine mr ?_
  refine mr ?_
  refine Tr.ret ?_
  simp only [Tryz.f174, go_sem, seval]
  exact ⟨fun | 0 => 16 | 1 => 0 | n => n, rfl, ⟨⟨rfl, rfl, rfl⟩, ⟨rfl, rfl, rfl⟩, trivial⟩, rfl⟩

def st25 (t : List Node) (w : List Int) (ld : List Bool) (i : Int) : S where
  fr := [(9, .ptr 0 [] 0), (32, .fn (.func 217) [] [.ptr 1 [] 0, .ptr 2 [] 0])]
  hp := [(0, .var (.ms 3 1 0)), (1, .var (.int .i64 i)), (2, .var (.sl (rowI (fun j => kidF t w ld j) t.length) false)), (3, .row 1 [])]
  nx := 4
def st60 (t : List Node) (w : List Int) (ld : List Bool) (l : Nat) (b : LB) (p : List Int × Int) : S where
  fr := [(0, .fn (.yield l) [] []), (1, .ptr 1 [] 0), (2, .ptr 2 [] 0)]
  hp := [(5, .lp b .ready none), (4, .dfr), (0, .var (.ms 6 1 p.1.length)), (1, .var (.int .i64 p.2)), (2, .var (.sl (rowI (fun j => kidF t w ld j) t.length) false)), (6, .row 1 (p.1.map iav))]
  nx := 7

set_option maxRecDepth 10000 in
theorem line_pure (t : List Node) (w : List Int) (ld : List Bool) (i : Int) : Pure Tryz.prog 102 [tav t, .sl (w.map uav) false, .sl (ld.map .bool) false, .int .i64 i] (.sl ((lineR t w ld i).map iav) false) := by
  refine pure_of_trM Tryz.func102 rfl (Nat.le_of_ble_eq_true rfl) rfl fun E hE hP => ?_
  refine mr ?_
  by_cases ht : toldB t w ld = true
  · by_cases h0 : i < 0
    · have e0 : decide (i < 0) = true := decide_eq_true h0
      have er : lineR t w ld i = [] := by unfold lineR; rw [if_neg (by omega)]
      have ff := And.intro ht e0
      have c1 := And.intro (enters_of Tryz.func173 (by kernel_rfl) rfl) (btold_pure t w ld)
      refine mr ?_
      refine mYes ?_
      refine mr ?_
      refine Tr.ret ?_
      rw [er]
      refine ⟨List.nodup_nil, fun o ho => (by cases ho), ?_⟩
      simp only [drop_none,  Tryz.f102, go_sem, seval]
    · have e0 : decide (i < 0) = false := decide_eq_false h0
      by_cases h1 : t.length ≤ i
      · have e1 : decide ((t.length : Int) ≤ i) = true := decide_eq_true h1
        have er : lineR t w ld i = [] := by unfold lineR; rw [if_neg (by omega)]
        have ff := And.intro ht (And.intro e0 e1)
        have c1 := And.intro (enters_of Tryz.func173 (by kernel_rfl) rfl) (btold_pure t w ld)
        refine mr ?_
        refine mYes ?_
        refine mr ?_
        refine Tr.ret ?_
        rw [er]
        refine ⟨List.nodup_nil, fun o ho => (by cases ho), ?_⟩
        simp only [drop_none,  Tryz.f102, go_sem, seval]
      · have e1 : decide ((t.length : Int) ≤ i) = false := decide_eq_false h1
        have er : lineR t w ld i = lineF t w ld i := by unfold lineR; rw [if_pos ⟨ht, by omega, by omega⟩]
        obtain ⟨hm, hwl, hdl⟩ := told_facts ht
        have ff := And.intro ht (And.intro e0 e1)
        have c1 := And.intro (enters_of Tryz.func173 (by kernel_rfl) rfl) (btold_pure t w ld)
        refine mr ?_
        refine mNot ?_
        refine Tr.skip ?_
        try simp only [blockK, thenK, ↓reduceIte]
        refine mr ?_
        have c1 := And.intro (enters_of Tryz.func175 (by kernel_rfl) rfl) (kids_pure t w ld ht)
        have o1 := And.intro (enters_of Tryz.func174 (by kernel_rfl) rfl) (down_own (rowI (fun j => kidF t w ld j) t.length) i)
        refine mr ?_
        refine Tr.wk (Wk.trans (Wk.nilVar 288 1 rfl) (s'' := st25 t w ld i) ?_) ?_
        · refine wk_ren (fun | 0 => 288 | 1 => 384 | 2 => 385 | 3 => 400 | n => n) mB mB rfl rfl rfl
        · unfold st25
          refine Tr.block ?_
          refine Tr.range (fid := 217) (fn := Tryz.f217) rfl (enters_of Tryz.func217 (by kernel_rfl) rfl) Tryz.func217 rfl rfl (Nat.le_of_ble_eq_true rfl) ?_
          have hE0 := hE
          intro E' l b hE hP' sd
          have hP : E'.pn = 6 := hP'
          refine mBk ?_
          refine Tr.loop (st60 t w ld l b) (fun p => (p.2 = -1 ∨ (0 ≤ p.2 ∧ p.2 < t.length)) ∧ p.1 ++ lineF t w ld p.2 = lineF t w ld i) (fun p => (lineF t w ld p.2).length) ([], i) ⟨.inr ⟨by omega, by omega⟩, rfl⟩ ?_ ?_
          · refine wk_ren (fun | 6 => 3 | n => n) mB mB rfl rfl rfl
          · rintro ⟨d, c⟩ ⟨hc, hline⟩
            unfold st60
            rcases hc with hc | ⟨hc0, hc1⟩
            · simp only at hc
              subst hc
              first | refine tr_seq_y 5 sd (by rw [hE]; rfl) rfl rfl rfl ?_ | (refine Tr.seq ?_; refine tr_seq_y 5 sd (by rw [hE]; rfl) rfl rfl rfl ?_)
              simp only [List.toList_toArray, List.take_succ_cons, List.take_zero]
              refine mG ?_
              refine vc_nil ?_
              refine gy_no rfl rfl rfl ?_
              simp only [go_sem, seval]
              refine mO ?_
              refine vc_nil ?_
              refine mNo ?_
              refine Tr.exit ?_
              try simp only [blockK, thenK, ↓reduceIte]
              have hE := hE0
              refine ⟨rfl, _, _, rfl, by simp, rfl, ?_⟩
              simp only [goOn]
              simp only [HP.del, List.filter_cons, List.filter_nil, Bool.not_false, Bool.not_true, if_true, Bool.false_eq_true, if_false, go_sem, seval]
              have hd : d = lineF t w ld i := by
                have h := hline
                simp only [lineF_none, List.append_nil] at h
                exact h
              have hlen : d.length = (d.map iav).length := by simp
              rw [er, ← hd]
              refine mr ?_
              refine Tr.ret ?_
              refine ⟨by simp, fun o ho => by rw [List.mem_singleton.1 ho]; rfl, ?_⟩
              simp only [HP.drop, List.contains_cons, List.contains_nil, Bool.or_false, Bool.false_or, Bool.or_true, List.filter_cons, List.filter_nil, Bool.not_false, Bool.not_true, if_true, Bool.false_eq_true, if_false, ← hlen, Tryz.f102, go_sem, seval]
            · obtain ⟨j, rfl⟩ : ∃ j : Nat, c = j := ⟨c.toNat, by simp only at hc0; omega⟩
              have ej : ((j : Int) != -1) = true := by rw [int_bne, decide_eq_false (by omega)]; rfl
              first | refine tr_seq_y 5 sd (by rw [hE]; rfl) rfl rfl rfl ?_ | (refine Tr.seq ?_; refine tr_seq_y 5 sd (by rw [hE]; rfl) rfl rfl rfl ?_)
              simp only [List.toList_toArray, List.take_succ_cons, List.take_zero]
              repeat (first | (refine vc_op rfl ?_; simp only [ej, go_sem, seval]) | (refine vc_go rfl rfl rfl ?_; simp only [ej, go_sem, seval]) | (refine vc_no rfl rfl rfl ?_; simp only [ej, go_sem, seval]) | (refine vc_skip rfl rfl rfl ?_; simp only [ej, go_sem, seval]))
              refine vc_nil ?_
              have hE1 := hE
              have hP1 := hP
              refine gy_if rfl rfl rfl ?_
              refine ⟨_, rfl, rfl, rfl, rfl, by rw [hE0]; rfl, rfl, ?_⟩
              intro Er hE hP
              rw [hE0] at hE
              simp only [frPut, List.zip_cons_cons, List.zip_nil_left, List.zip_nil_right, List.foldl_cons, List.foldl_nil, List.toList_toArray, List.map_cons, List.map_nil, go_sem, seval]
              refine tr_region (by rw [hE]; rfl) ?_
              refine mO ?_
              refine vc_nil ?_
              refine ⟨rfl, ?_⟩
              simp only [go_sem, seval]
              refine mBk ?_
              have hline : d ++ lineF t w ld j = lineF t w ld i := hline
              have hd12 : d.length ≤ 12 := by
                have h1 := congrArg List.length hline
                have h2 := lineF_len (t := t) (w := w) (ld := ld) i (by omega)
                rw [List.length_append] at h1
                have := (may_len hm).2
                omega
              apply tr_ml (by rw [hE]; rfl)
              intro Q hQ
              simp only [go_sem, seval]
              iterate 3 refine mV ?_
              (refine vm_op ?_); intro r hr; simp only [go_sem, seval]
              refine ⟨by omega, by omega, ?_⟩
              simp only [List.filter_cons, List.filter_nil, Bool.not_false, Bool.not_true, if_true, Bool.false_eq_true, if_false, go_sem, seval]
              subst hr
              refine mV ?_
              exact hQ
              try simp only [blockK, thenK, ↓reduceIte]
              refine ⟨rfl, ?_⟩
              simp only [go_sem, seval]
              refine mO ?_
              refine vc_nil ?_
              have hE := hE1
              have hP := hP1
              refine mYes ?_
              refine Tr.skip ?_
              try simp only [blockK, thenK, ↓reduceIte]
              have hn := nth_row (fun j => kidF t w ld j) (n := t.length) (i := j) (by omega)
              refine mBk ?_
              have ff := hn
              refine mr ?_
              try simp only [blockK, thenK, ↓reduceIte]
              have hnext := lineF_next (w := w) (ld := ld) hm (i := j) (by omega) (by omega)
              have hkr := kidF_range (w := w) (ld := ld) hm j (by omega)
              refine ⟨(d ++ [(j : Int)], kidF t w ld j), ⟨by omega, ?_⟩, ?_, ?_⟩
              · rw [List.append_assoc, List.singleton_append, ← hnext]; exact hline
              · show (lineF t w ld (kidF t w ld j)).length < (lineF t w ld j).length
                rw [hnext]; simp
              · simp only [st60, List.map_append, List.length_append, List.length_singleton, List.map_cons, List.map_nil]
                refine wk_ren (fun | 6 => 151 | n => n) mB mB rfl rfl rfl
  · have ht : toldB t w ld = false := by simpa using ht
    have er : lineR t w ld i = [] := by unfold lineR; rw [if_neg (by simp [ht])]
    have ff := ht
    have c1 := And.intro (enters_of Tryz.func173 (by kernel_rfl) rfl) (btold_pure t w ld)
    refine mr ?_
    refine mYes ?_
    refine mr ?_
    refine Tr.ret ?_
    rw [er]
    refine ⟨List.nodup_nil, fun o ho => (by cases ho), ?_⟩
    simp only [drop_none,  Tryz.f102, go_sem, seval]

def headR (t : List Node) (w : List Int) (ld : List Bool) (i : Int) : Int := (lineR t w ld i).getLastD (-1)

theorem lineR_len (t : List Node) (w : List Int) (ld : List Bool) (i : Int) : (lineR t w ld i).length ≤ 12 := by
  unfold lineR
  split
  · rename_i h
    exact Nat.le_trans (lineF_len i h.2.1) (may_len (told_facts h.1).1).2
  · simp

def st32 (l : List Int) (k : Nat) : S where
  fr := [(9, .int .i64 ((l.take k).getLastD (-1))), (16, .sl (l.map iav) false), (17, .int .i64 l.length), (18, .int .i64 k)]
  hp := []
  nx := 0

theorem take_last {l : List Int} {k : Nat} (h : k < l.length) : (l.take (k + 1)).getLastD (-1) = l[k] := by
  rw [take_next h rfl, List.getLastD_concat]

set_option maxRecDepth 10000 in
theorem head_pure (t : List Node) (w : List Int) (ld : List Bool) (i : Int) : Pure Tryz.prog 44 [tav t, .sl (w.map uav) false, .sl (ld.map .bool) false, .int .i64 i] (.int .i64 (headR t w ld i)) := by
  have hll := lineR_len t w ld i
  have hlp := line_pure t w ld i
  have hr : headR t w ld i = (lineR t w ld i).getLastD (-1) := rfl
  generalize lineR t w ld i = l at hll hlp hr
  rw [hr]
  refine pure_of_tr Tryz.func44 rfl (Nat.le_of_ble_eq_true rfl) rfl fun E hE hP => ?_
  refine mr ?_
  refine mr ?_
  first | apply tr_m (by rw [hE]; rfl) | (refine Tr.seq ?_; apply tr_m (by rw [hE]; rfl))
  intro Q hQ
  simp only [go_sem, seval]
  iterate 4 refine mV ?_
  (refine vm_op ?_); intro r hr; simp only [go_sem, seval]
  refine call_fn rfl rfl rfl rfl (enters_of Tryz.func102 (by kernel_rfl) rfl) (hlp) rfl rfl rfl ?_
  simp only [go_sem, seval]
  subst hr
  iterate 2 ((refine vm_op ?_); intro r hr; simp only [List.length_map, go_sem, seval]; subst hr)
  exact hQ
  refine mBk ?_
  refine Tr.loop (st32 l) (fun k => k ≤ l.length) (fun k => l.length - k) 0 (Nat.zero_le _) ?_ ?_
  · refine wk_ren (fun n => n) mB mB rfl rfl rfl
  · intro k hk
    unfold st32
    refine mr ?_
    first | refine Tr.cond rfl (fun h1 => ?_) (fun h1 => ?_) | refine Tr.seq (Tr.cond rfl (fun h1 => ?_) (fun h1 => ?_))
    · refine Tr.skip ?_
      try simp only [blockK, thenK, ↓reduceIte]
      have hlt : k < l.length := by have := of_decide_eq_true h1; omega
      have ha := nth_map_lt iav l k hlt
      simp only [iav] at ha
      have hw := wrap_next (n := k) (by omega)
      have ht := take_last hlt
      refine mBk ?_
      first | refine tr_seq_region (by rw [hE]; rfl) ?_ | (refine Tr.seq ?_; refine tr_seq_region (by rw [hE]; rfl) ?_)
      repeat (refine vc_op rfl ?_; simp only [iav, ha, go_sem, seval])
      refine vc_nil ?_
      refine tr_region (by rw [hE]; rfl) ?_
      refine mO ?_
      refine vc_nil ?_
      try simp only [blockK, thenK, ↓reduceIte]
      refine tr_region (by rw [hE]; rfl) ?_
      refine mO ?_
      refine vc_nil ?_
      rw [hw]
      try simp only [blockK, thenK, ↓reduceIte]
      refine ⟨k + 1, hlt, by omega, ?_⟩
      rw [ht]
      refine wk_ren (fun n => n) mB mB rfl rfl rfl
    · refine Tr.exit ?_
      try simp only [blockK, thenK, ↓reduceIte]
      have hkl : k = l.length := by have := of_decide_eq_false h1; omega
      have er : (l.take k).getLastD (-1) = l.getLastD (-1) := by rw [hkl, List.take_length]
      refine mr ?_
      refine Tr.ret ?_
      simp only [er, Tryz.f44, go_sem, seval]

@[go_sem] theorem xS1 : tSize Tryz.prog 1 = some 1 := by kernel_rfl
@[go_sem] theorem xA1 : tAgg Tryz.prog 1 = some false := by kernel_rfl
@[go_sem] theorem xZ1 : tZero Tryz.prog 1 = some (.nilf) := by kernel_rfl
@[go_sem] theorem xS2 : tSize Tryz.prog 2 = some 1 := by kernel_rfl
@[go_sem] theorem xA2 : tAgg Tryz.prog 2 = some false := by kernel_rfl
@[go_sem] theorem xZ2 : tZero Tryz.prog 2 = some (.int .i64 0) := by kernel_rfl
@[go_sem] theorem xU2 : Tryz.prog.underlying 2 = some (.int .i64) := Tryz.underlying2
@[go_sem] theorem xS3 : tSize Tryz.prog 3 = some 1 := by kernel_rfl
@[go_sem] theorem xA3 : tAgg Tryz.prog 3 = some false := by kernel_rfl
@[go_sem] theorem xB3 : tBytes Tryz.prog 3 = some 8 := by kernel_rfl
@[go_sem] theorem xZ3 : tZero Tryz.prog 3 = some (.int .i64 0) := by kernel_rfl
@[go_sem] theorem xU3 : Tryz.prog.underlying 3 = some (.int .i64) := Tryz.underlying3
@[go_sem] theorem xS4 : tSize Tryz.prog 4 = some 1 := by kernel_rfl
@[go_sem] theorem xA4 : tAgg Tryz.prog 4 = some false := by kernel_rfl
@[go_sem] theorem xB4 : tBytes Tryz.prog 4 = some 1 := by kernel_rfl
@[go_sem] theorem xZ4 : tZero Tryz.prog 4 = some (.bool false) := by kernel_rfl
@[go_sem] theorem xU4 : Tryz.prog.underlying 4 = some .bool := Tryz.underlying4
@[go_sem] theorem xS5 : tSize Tryz.prog 5 = some 1 := by kernel_rfl
@[go_sem] theorem xA5 : tAgg Tryz.prog 5 = some false := by kernel_rfl
@[go_sem] theorem xB5 : tBytes Tryz.prog 5 = some 1 := by kernel_rfl
@[go_sem] theorem xZ5 : tZero Tryz.prog 5 = some (.int .u8 0) := by kernel_rfl
@[go_sem] theorem xU5 : Tryz.prog.underlying 5 = some (.int .u8) := Tryz.underlying5
@[go_sem] theorem xS9 : tSize Tryz.prog 9 = some 1 := by kernel_rfl
@[go_sem] theorem xA9 : tAgg Tryz.prog 9 = some false := by kernel_rfl
@[go_sem] theorem xS22 : tSize Tryz.prog 22 = some 1 := by kernel_rfl
@[go_sem] theorem xA22 : tAgg Tryz.prog 22 = some false := by kernel_rfl
@[go_sem] theorem xZ22 : tZero Tryz.prog 22 = some (.sl [] true) := by kernel_rfl
@[go_sem] theorem xE22 : tElem Tryz.prog 22 = some 65 := by kernel_rfl
@[go_sem] theorem xU22 : Tryz.prog.underlying 22 = some (.slice 65) := Tryz.underlying22
@[go_sem] theorem xS24 : tSize Tryz.prog 24 = some 1 := by kernel_rfl
@[go_sem] theorem xA24 : tAgg Tryz.prog 24 = some true := by kernel_rfl
@[go_sem] theorem xS25 : tSize Tryz.prog 25 = some 1 := by kernel_rfl
@[go_sem] theorem xA25 : tAgg Tryz.prog 25 = some false := by kernel_rfl
@[go_sem] theorem xZ25 : tZero Tryz.prog 25 = some (.sl [] true) := by kernel_rfl
@[go_sem] theorem xE25 : tElem Tryz.prog 25 = some 27 := by kernel_rfl
@[go_sem] theorem xU25 : Tryz.prog.underlying 25 = some (.slice 27) := Tryz.underlying25
@[go_sem] theorem xS26 : tSize Tryz.prog 26 = some 1 := by kernel_rfl
@[go_sem] theorem xA26 : tAgg Tryz.prog 26 = some false := by kernel_rfl
@[go_sem] theorem xZ26 : tZero Tryz.prog 26 = some (.sl [] true) := by kernel_rfl
@[go_sem] theorem xE26 : tElem Tryz.prog 26 = some 146 := by kernel_rfl
@[go_sem] theorem xU26 : Tryz.prog.underlying 26 = some (.slice 146) := Tryz.underlying26
@[go_sem] theorem xS27 : tSize Tryz.prog 27 = some 1 := by kernel_rfl
@[go_sem] theorem xA27 : tAgg Tryz.prog 27 = some false := by kernel_rfl
@[go_sem] theorem xB27 : tBytes Tryz.prog 27 = some 8 := by kernel_rfl
@[go_sem] theorem xZ27 : tZero Tryz.prog 27 = some (.int .u64 0) := by kernel_rfl
@[go_sem] theorem xU27 : Tryz.prog.underlying 27 = some (.int .u64) := Tryz.underlying27
@[go_sem] theorem xS29 : tSize Tryz.prog 29 = some 2 := by kernel_rfl
@[go_sem] theorem xA29 : tAgg Tryz.prog 29 = some true := by kernel_rfl
@[go_sem] theorem xS30 : tSize Tryz.prog 30 = some 1 := by kernel_rfl
@[go_sem] theorem xA30 : tAgg Tryz.prog 30 = some false := by kernel_rfl
@[go_sem] theorem xZ30 : tZero Tryz.prog 30 = some (.sl [] true) := by kernel_rfl
@[go_sem] theorem xE30 : tElem Tryz.prog 30 = some 76 := by kernel_rfl
@[go_sem] theorem xU30 : Tryz.prog.underlying 30 = some (.slice 76) := Tryz.underlying30
@[go_sem] theorem xS31 : tSize Tryz.prog 31 = some 1 := by kernel_rfl
@[go_sem] theorem xA31 : tAgg Tryz.prog 31 = some false := by kernel_rfl
@[go_sem] theorem xZ31 : tZero Tryz.prog 31 = some (.sl [] true) := by kernel_rfl
@[go_sem] theorem xE31 : tElem Tryz.prog 31 = some 149 := by kernel_rfl
@[go_sem] theorem xU31 : Tryz.prog.underlying 31 = some (.slice 149) := Tryz.underlying31
@[go_sem] theorem xS32 : tSize Tryz.prog 32 = some 1 := by kernel_rfl
@[go_sem] theorem xA32 : tAgg Tryz.prog 32 = some false := by kernel_rfl
@[go_sem] theorem xZ32 : tZero Tryz.prog 32 = some (.sl [] true) := by kernel_rfl
@[go_sem] theorem xE32 : tElem Tryz.prog 32 = some 36 := by kernel_rfl
@[go_sem] theorem xU32 : Tryz.prog.underlying 32 = some (.slice 36) := Tryz.underlying32
@[go_sem] theorem xS33 : tSize Tryz.prog 33 = some 32 := by kernel_rfl
@[go_sem] theorem xA33 : tAgg Tryz.prog 33 = some true := by kernel_rfl
@[go_sem] theorem xZ33 : tZero Tryz.prog 33 = some (.root zroot) := by kernel_rfl
@[go_sem] theorem xS34 : tSize Tryz.prog 34 = some 32 := by kernel_rfl
@[go_sem] theorem xA34 : tAgg Tryz.prog 34 = some true := by kernel_rfl
@[go_sem] theorem xB34 : tBytes Tryz.prog 34 = some 32 := by kernel_rfl
@[go_sem] theorem xZ34 : tZero Tryz.prog 34 = some (.root zroot) := by kernel_rfl
@[go_sem] theorem xS36 : tSize Tryz.prog 36 = some 33 := by kernel_rfl
@[go_sem] theorem xA36 : tAgg Tryz.prog 36 = some true := by kernel_rfl
@[go_sem] theorem xB36 : tBytes Tryz.prog 36 = some 40 := by kernel_rfl
@[go_sem] theorem xS38 : tSize Tryz.prog 38 = some 42 := by kernel_rfl
@[go_sem] theorem xA38 : tAgg Tryz.prog 38 = some true := by kernel_rfl
@[go_sem] theorem xS40 : tSize Tryz.prog 40 = some 100 := by kernel_rfl
@[go_sem] theorem xA40 : tAgg Tryz.prog 40 = some true := by kernel_rfl
@[go_sem] theorem xS41 : tSize Tryz.prog 41 = some 1 := by kernel_rfl
@[go_sem] theorem xA41 : tAgg Tryz.prog 41 = some false := by kernel_rfl
@[go_sem] theorem xZ41 : tZero Tryz.prog 41 = some (.sl [] true) := by kernel_rfl
@[go_sem] theorem xE41 : tElem Tryz.prog 41 = some 5 := by kernel_rfl
@[go_sem] theorem xU41 : Tryz.prog.underlying 41 = some (.slice 5) := Tryz.underlying41
@[go_sem] theorem xS43 : tSize Tryz.prog 43 = some 67 := by kernel_rfl
@[go_sem] theorem xA43 : tAgg Tryz.prog 43 = some true := by kernel_rfl
@[go_sem] theorem xS44 : tSize Tryz.prog 44 = some 1 := by kernel_rfl
@[go_sem] theorem xA44 : tAgg Tryz.prog 44 = some false := by kernel_rfl
@[go_sem] theorem xZ44 : tZero Tryz.prog 44 = some (.nilf) := by kernel_rfl
@[go_sem] theorem xS45 : tSize Tryz.prog 45 = some 1 := by kernel_rfl
@[go_sem] theorem xA45 : tAgg Tryz.prog 45 = some false := by kernel_rfl
@[go_sem] theorem xZ45 : tZero Tryz.prog 45 = some (.nilf) := by kernel_rfl
@[go_sem] theorem xS46 : tSize Tryz.prog 46 = some 1 := by kernel_rfl
@[go_sem] theorem xA46 : tAgg Tryz.prog 46 = some false := by kernel_rfl
@[go_sem] theorem xZ46 : tZero Tryz.prog 46 = some (.nilf) := by kernel_rfl
@[go_sem] theorem xS47 : tSize Tryz.prog 47 = some 1 := by kernel_rfl
@[go_sem] theorem xA47 : tAgg Tryz.prog 47 = some false := by kernel_rfl
@[go_sem] theorem xZ47 : tZero Tryz.prog 47 = some (.nilf) := by kernel_rfl
@[go_sem] theorem xS48 : tSize Tryz.prog 48 = some 1 := by kernel_rfl
@[go_sem] theorem xA48 : tAgg Tryz.prog 48 = some false := by kernel_rfl
@[go_sem] theorem xZ48 : tZero Tryz.prog 48 = some (.nilf) := by kernel_rfl
@[go_sem] theorem xS49 : tSize Tryz.prog 49 = some 1 := by kernel_rfl
@[go_sem] theorem xA49 : tAgg Tryz.prog 49 = some false := by kernel_rfl
@[go_sem] theorem xZ49 : tZero Tryz.prog 49 = some (.int .i64 0) := by kernel_rfl
@[go_sem] theorem xU49 : Tryz.prog.underlying 49 = some (.int .i64) := Tryz.underlying49
@[go_sem] theorem xS51 : tSize Tryz.prog 51 = some 67 := by kernel_rfl
@[go_sem] theorem xA51 : tAgg Tryz.prog 51 = some true := by kernel_rfl
@[go_sem] theorem xS52 : tSize Tryz.prog 52 = some 1 := by kernel_rfl
@[go_sem] theorem xA52 : tAgg Tryz.prog 52 = some false := by kernel_rfl
@[go_sem] theorem xZ52 : tZero Tryz.prog 52 = some (.nilf) := by kernel_rfl
@[go_sem] theorem xS54 : tSize Tryz.prog 54 = some 66 := by kernel_rfl
@[go_sem] theorem xA54 : tAgg Tryz.prog 54 = some true := by kernel_rfl
@[go_sem] theorem xS55 : tSize Tryz.prog 55 = some 1 := by kernel_rfl
@[go_sem] theorem xA55 : tAgg Tryz.prog 55 = some false := by kernel_rfl
@[go_sem] theorem xZ55 : tZero Tryz.prog 55 = some (.nilf) := by kernel_rfl
@[go_sem] theorem xS56 : tSize Tryz.prog 56 = some 1 := by kernel_rfl
@[go_sem] theorem xA56 : tAgg Tryz.prog 56 = some false := by kernel_rfl
@[go_sem] theorem xZ56 : tZero Tryz.prog 56 = some (.nilf) := by kernel_rfl
@[go_sem] theorem xS58 : tSize Tryz.prog 58 = some 66 := by kernel_rfl
@[go_sem] theorem xA58 : tAgg Tryz.prog 58 = some true := by kernel_rfl
@[go_sem] theorem xS60 : tSize Tryz.prog 60 = some 1 := by kernel_rfl
@[go_sem] theorem xA60 : tAgg Tryz.prog 60 = some false := by kernel_rfl
@[go_sem] theorem xZ60 : tZero Tryz.prog 60 = some (.nilf) := by kernel_rfl
@[go_sem] theorem xS61 : tSize Tryz.prog 61 = some 1 := by kernel_rfl
@[go_sem] theorem xA61 : tAgg Tryz.prog 61 = some false := by kernel_rfl
@[go_sem] theorem xZ61 : tZero Tryz.prog 61 = some (.nilf) := by kernel_rfl
@[go_sem] theorem xS62 : tSize Tryz.prog 62 = some 1 := by kernel_rfl
@[go_sem] theorem xA62 : tAgg Tryz.prog 62 = some false := by kernel_rfl
@[go_sem] theorem xZ62 : tZero Tryz.prog 62 = some (.nilf) := by kernel_rfl
@[go_sem] theorem xS63 : tSize Tryz.prog 63 = some 1 := by kernel_rfl
@[go_sem] theorem xA63 : tAgg Tryz.prog 63 = some false := by kernel_rfl
@[go_sem] theorem xZ63 : tZero Tryz.prog 63 = some (.nilf) := by kernel_rfl
@[go_sem] theorem xS65 : tSize Tryz.prog 65 = some 35 := by kernel_rfl
@[go_sem] theorem xA65 : tAgg Tryz.prog 65 = some true := by kernel_rfl
@[go_sem] theorem xB65 : tBytes Tryz.prog 65 = some 56 := by kernel_rfl
@[go_sem] theorem xS66 : tSize Tryz.prog 66 = some 1 := by kernel_rfl
@[go_sem] theorem xA66 : tAgg Tryz.prog 66 = some false := by kernel_rfl
@[go_sem] theorem xZ66 : tZero Tryz.prog 66 = some (.nilf) := by kernel_rfl
@[go_sem] theorem xS68 : tSize Tryz.prog 68 = some 1 := by kernel_rfl
@[go_sem] theorem xA68 : tAgg Tryz.prog 68 = some false := by kernel_rfl
@[go_sem] theorem xZ68 : tZero Tryz.prog 68 = some (.nilf) := by kernel_rfl
@[go_sem] theorem xS69 : tSize Tryz.prog 69 = some 1 := by kernel_rfl
@[go_sem] theorem xA69 : tAgg Tryz.prog 69 = some false := by kernel_rfl
@[go_sem] theorem xZ69 : tZero Tryz.prog 69 = some (.nilf) := by kernel_rfl
@[go_sem] theorem xS70 : tSize Tryz.prog 70 = some 1 := by kernel_rfl
@[go_sem] theorem xA70 : tAgg Tryz.prog 70 = some false := by kernel_rfl
@[go_sem] theorem xZ70 : tZero Tryz.prog 70 = some (.nilf) := by kernel_rfl
@[go_sem] theorem xS71 : tSize Tryz.prog 71 = some 1 := by kernel_rfl
@[go_sem] theorem xA71 : tAgg Tryz.prog 71 = some false := by kernel_rfl
@[go_sem] theorem xZ71 : tZero Tryz.prog 71 = some (.nilf) := by kernel_rfl
@[go_sem] theorem xS73 : tSize Tryz.prog 73 = some 1 := by kernel_rfl
@[go_sem] theorem xA73 : tAgg Tryz.prog 73 = some false := by kernel_rfl
@[go_sem] theorem xZ73 : tZero Tryz.prog 73 = some (.nilf) := by kernel_rfl
@[go_sem] theorem xS74 : tSize Tryz.prog 74 = some 1 := by kernel_rfl
@[go_sem] theorem xA74 : tAgg Tryz.prog 74 = some false := by kernel_rfl
@[go_sem] theorem xZ74 : tZero Tryz.prog 74 = some (.nilf) := by kernel_rfl
@[go_sem] theorem xS76 : tSize Tryz.prog 76 = some 100 := by kernel_rfl
@[go_sem] theorem xA76 : tAgg Tryz.prog 76 = some true := by kernel_rfl
@[go_sem] theorem xB76 : tBytes Tryz.prog 76 = some 128 := by kernel_rfl
@[go_sem] theorem xS77 : tSize Tryz.prog 77 = some 1 := by kernel_rfl
@[go_sem] theorem xA77 : tAgg Tryz.prog 77 = some false := by kernel_rfl
@[go_sem] theorem xZ77 : tZero Tryz.prog 77 = some (.nilf) := by kernel_rfl
@[go_sem] theorem xS78 : tSize Tryz.prog 78 = some 1 := by kernel_rfl
@[go_sem] theorem xA78 : tAgg Tryz.prog 78 = some false := by kernel_rfl
@[go_sem] theorem xZ78 : tZero Tryz.prog 78 = some (.nilf) := by kernel_rfl
@[go_sem] theorem xS79 : tSize Tryz.prog 79 = some 1 := by kernel_rfl
@[go_sem] theorem xA79 : tAgg Tryz.prog 79 = some false := by kernel_rfl
@[go_sem] theorem xZ79 : tZero Tryz.prog 79 = some (.nilf) := by kernel_rfl
@[go_sem] theorem xS80 : tSize Tryz.prog 80 = some 1 := by kernel_rfl
@[go_sem] theorem xA80 : tAgg Tryz.prog 80 = some false := by kernel_rfl
@[go_sem] theorem xZ80 : tZero Tryz.prog 80 = some (.nilf) := by kernel_rfl
@[go_sem] theorem xS81 : tSize Tryz.prog 81 = some 1 := by kernel_rfl
@[go_sem] theorem xA81 : tAgg Tryz.prog 81 = some false := by kernel_rfl
@[go_sem] theorem xZ81 : tZero Tryz.prog 81 = some (.sl [] true) := by kernel_rfl
@[go_sem] theorem xE81 : tElem Tryz.prog 81 = some 3 := by kernel_rfl
@[go_sem] theorem xU81 : Tryz.prog.underlying 81 = some (.slice 3) := Tryz.underlying81
@[go_sem] theorem xS82 : tSize Tryz.prog 82 = some 1 := by kernel_rfl
@[go_sem] theorem xA82 : tAgg Tryz.prog 82 = some false := by kernel_rfl
@[go_sem] theorem xZ82 : tZero Tryz.prog 82 = some (.nilf) := by kernel_rfl
@[go_sem] theorem xS83 : tSize Tryz.prog 83 = some 1 := by kernel_rfl
@[go_sem] theorem xA83 : tAgg Tryz.prog 83 = some false := by kernel_rfl
@[go_sem] theorem xZ83 : tZero Tryz.prog 83 = some (.nilf) := by kernel_rfl
@[go_sem] theorem xS84 : tSize Tryz.prog 84 = some 1 := by kernel_rfl
@[go_sem] theorem xA84 : tAgg Tryz.prog 84 = some false := by kernel_rfl
@[go_sem] theorem xZ84 : tZero Tryz.prog 84 = some (.nilf) := by kernel_rfl
@[go_sem] theorem xS85 : tSize Tryz.prog 85 = some 1 := by kernel_rfl
@[go_sem] theorem xA85 : tAgg Tryz.prog 85 = some false := by kernel_rfl
@[go_sem] theorem xZ85 : tZero Tryz.prog 85 = some (.nilf) := by kernel_rfl
@[go_sem] theorem xS86 : tSize Tryz.prog 86 = some 1 := by kernel_rfl
@[go_sem] theorem xA86 : tAgg Tryz.prog 86 = some false := by kernel_rfl
@[go_sem] theorem xZ86 : tZero Tryz.prog 86 = some (.nilf) := by kernel_rfl
@[go_sem] theorem xS87 : tSize Tryz.prog 87 = some 1 := by kernel_rfl
@[go_sem] theorem xA87 : tAgg Tryz.prog 87 = some false := by kernel_rfl
@[go_sem] theorem xZ87 : tZero Tryz.prog 87 = some (.nilf) := by kernel_rfl
@[go_sem] theorem xS88 : tSize Tryz.prog 88 = some 1 := by kernel_rfl
@[go_sem] theorem xA88 : tAgg Tryz.prog 88 = some false := by kernel_rfl
@[go_sem] theorem xZ88 : tZero Tryz.prog 88 = some (.nilf) := by kernel_rfl
@[go_sem] theorem xS89 : tSize Tryz.prog 89 = some 1 := by kernel_rfl
@[go_sem] theorem xA89 : tAgg Tryz.prog 89 = some false := by kernel_rfl
@[go_sem] theorem xZ89 : tZero Tryz.prog 89 = some (.sl [] true) := by kernel_rfl
@[go_sem] theorem xE89 : tElem Tryz.prog 89 = some 4 := by kernel_rfl
@[go_sem] theorem xU89 : Tryz.prog.underlying 89 = some (.slice 4) := Tryz.underlying89
@[go_sem] theorem xS90 : tSize Tryz.prog 90 = some 1 := by kernel_rfl
@[go_sem] theorem xA90 : tAgg Tryz.prog 90 = some false := by kernel_rfl
@[go_sem] theorem xZ90 : tZero Tryz.prog 90 = some (.nilf) := by kernel_rfl
@[go_sem] theorem xS91 : tSize Tryz.prog 91 = some 1 := by kernel_rfl
@[go_sem] theorem xA91 : tAgg Tryz.prog 91 = some false := by kernel_rfl
@[go_sem] theorem xZ91 : tZero Tryz.prog 91 = some (.nilf) := by kernel_rfl
@[go_sem] theorem xS92 : tSize Tryz.prog 92 = some 1 := by kernel_rfl
@[go_sem] theorem xA92 : tAgg Tryz.prog 92 = some false := by kernel_rfl
@[go_sem] theorem xZ92 : tZero Tryz.prog 92 = some (.nilf) := by kernel_rfl
@[go_sem] theorem xS93 : tSize Tryz.prog 93 = some 1 := by kernel_rfl
@[go_sem] theorem xA93 : tAgg Tryz.prog 93 = some false := by kernel_rfl
@[go_sem] theorem xZ93 : tZero Tryz.prog 93 = some (.nilf) := by kernel_rfl
@[go_sem] theorem xS95 : tSize Tryz.prog 95 = some 1 := by kernel_rfl
@[go_sem] theorem xA95 : tAgg Tryz.prog 95 = some false := by kernel_rfl
@[go_sem] theorem xS96 : tSize Tryz.prog 96 = some 1 := by kernel_rfl
@[go_sem] theorem xA96 : tAgg Tryz.prog 96 = some false := by kernel_rfl
@[go_sem] theorem xZ96 : tZero Tryz.prog 96 = some (.nilf) := by kernel_rfl
@[go_sem] theorem xS97 : tSize Tryz.prog 97 = some 1 := by kernel_rfl
@[go_sem] theorem xA97 : tAgg Tryz.prog 97 = some false := by kernel_rfl
@[go_sem] theorem xZ97 : tZero Tryz.prog 97 = some (.nilf) := by kernel_rfl
@[go_sem] theorem xS98 : tSize Tryz.prog 98 = some 1 := by kernel_rfl
@[go_sem] theorem xA98 : tAgg Tryz.prog 98 = some false := by kernel_rfl
@[go_sem] theorem xZ98 : tZero Tryz.prog 98 = some (.nilf) := by kernel_rfl
@[go_sem] theorem xS99 : tSize Tryz.prog 99 = some 1 := by kernel_rfl
@[go_sem] theorem xA99 : tAgg Tryz.prog 99 = some false := by kernel_rfl
@[go_sem] theorem xZ99 : tZero Tryz.prog 99 = some (.nilf) := by kernel_rfl
@[go_sem] theorem xS100 : tSize Tryz.prog 100 = some 1 := by kernel_rfl
@[go_sem] theorem xA100 : tAgg Tryz.prog 100 = some false := by kernel_rfl
@[go_sem] theorem xZ100 : tZero Tryz.prog 100 = some (.nilf) := by kernel_rfl
@[go_sem] theorem xS102 : tSize Tryz.prog 102 = some 1 := by kernel_rfl
@[go_sem] theorem xA102 : tAgg Tryz.prog 102 = some false := by kernel_rfl
@[go_sem] theorem xZ102 : tZero Tryz.prog 102 = some (.nilf) := by kernel_rfl
@[go_sem] theorem xS103 : tSize Tryz.prog 103 = some 1 := by kernel_rfl
@[go_sem] theorem xA103 : tAgg Tryz.prog 103 = some false := by kernel_rfl
@[go_sem] theorem xZ103 : tZero Tryz.prog 103 = some (.nilf) := by kernel_rfl
@[go_sem] theorem xS104 : tSize Tryz.prog 104 = some 1 := by kernel_rfl
@[go_sem] theorem xA104 : tAgg Tryz.prog 104 = some false := by kernel_rfl
@[go_sem] theorem xZ104 : tZero Tryz.prog 104 = some (.sl [] true) := by kernel_rfl
@[go_sem] theorem xE104 : tElem Tryz.prog 104 = some 34 := by kernel_rfl
@[go_sem] theorem xU104 : Tryz.prog.underlying 104 = some (.slice 34) := Tryz.underlying104
@[go_sem] theorem xS105 : tSize Tryz.prog 105 = some 1 := by kernel_rfl
@[go_sem] theorem xA105 : tAgg Tryz.prog 105 = some false := by kernel_rfl
@[go_sem] theorem xZ105 : tZero Tryz.prog 105 = some (.nilf) := by kernel_rfl
@[go_sem] theorem xS106 : tSize Tryz.prog 106 = some 1 := by kernel_rfl
@[go_sem] theorem xA106 : tAgg Tryz.prog 106 = some false := by kernel_rfl
@[go_sem] theorem xZ106 : tZero Tryz.prog 106 = some (.nilf) := by kernel_rfl
@[go_sem] theorem xS107 : tSize Tryz.prog 107 = some 1 := by kernel_rfl
@[go_sem] theorem xA107 : tAgg Tryz.prog 107 = some false := by kernel_rfl
@[go_sem] theorem xS108 : tSize Tryz.prog 108 = some 1 := by kernel_rfl
@[go_sem] theorem xA108 : tAgg Tryz.prog 108 = some false := by kernel_rfl
@[go_sem] theorem xZ108 : tZero Tryz.prog 108 = some (.nilf) := by kernel_rfl
@[go_sem] theorem xS109 : tSize Tryz.prog 109 = some 1 := by kernel_rfl
@[go_sem] theorem xA109 : tAgg Tryz.prog 109 = some false := by kernel_rfl
@[go_sem] theorem xZ109 : tZero Tryz.prog 109 = some (.nilf) := by kernel_rfl
@[go_sem] theorem xS110 : tSize Tryz.prog 110 = some 1 := by kernel_rfl
@[go_sem] theorem xA110 : tAgg Tryz.prog 110 = some false := by kernel_rfl
@[go_sem] theorem xZ110 : tZero Tryz.prog 110 = some (.nilf) := by kernel_rfl
@[go_sem] theorem xS112 : tSize Tryz.prog 112 = some 275 := by kernel_rfl
@[go_sem] theorem xA112 : tAgg Tryz.prog 112 = some true := by kernel_rfl
@[go_sem] theorem xS113 : tSize Tryz.prog 113 = some 1 := by kernel_rfl
@[go_sem] theorem xA113 : tAgg Tryz.prog 113 = some false := by kernel_rfl
@[go_sem] theorem xZ113 : tZero Tryz.prog 113 = some (.nilf) := by kernel_rfl
@[go_sem] theorem xS114 : tSize Tryz.prog 114 = some 1 := by kernel_rfl
@[go_sem] theorem xA114 : tAgg Tryz.prog 114 = some false := by kernel_rfl
@[go_sem] theorem xZ114 : tZero Tryz.prog 114 = some (.nilf) := by kernel_rfl
@[go_sem] theorem xS115 : tSize Tryz.prog 115 = some 1 := by kernel_rfl
@[go_sem] theorem xA115 : tAgg Tryz.prog 115 = some false := by kernel_rfl
@[go_sem] theorem xZ115 : tZero Tryz.prog 115 = some (.nilp) := by kernel_rfl
@[go_sem] theorem xS116 : tSize Tryz.prog 116 = some 1 := by kernel_rfl
@[go_sem] theorem xA116 : tAgg Tryz.prog 116 = some false := by kernel_rfl
@[go_sem] theorem xZ116 : tZero Tryz.prog 116 = some (.nilf) := by kernel_rfl
@[go_sem] theorem xS117 : tSize Tryz.prog 117 = some 1 := by kernel_rfl
@[go_sem] theorem xA117 : tAgg Tryz.prog 117 = some false := by kernel_rfl
@[go_sem] theorem xS119 : tSize Tryz.prog 119 = some 1 := by kernel_rfl
@[go_sem] theorem xA119 : tAgg Tryz.prog 119 = some false := by kernel_rfl
@[go_sem] theorem xZ119 : tZero Tryz.prog 119 = some (.nilf) := by kernel_rfl
@[go_sem] theorem xS121 : tSize Tryz.prog 121 = some 1 := by kernel_rfl
@[go_sem] theorem xA121 : tAgg Tryz.prog 121 = some false := by kernel_rfl
@[go_sem] theorem xZ121 : tZero Tryz.prog 121 = some (.nilf) := by kernel_rfl
@[go_sem] theorem xS123 : tSize Tryz.prog 123 = some 1 := by kernel_rfl
@[go_sem] theorem xA123 : tAgg Tryz.prog 123 = some false := by kernel_rfl
@[go_sem] theorem xZ123 : tZero Tryz.prog 123 = some (.nilf) := by kernel_rfl
@[go_sem] theorem xS125 : tSize Tryz.prog 125 = some 1 := by kernel_rfl
@[go_sem] theorem xA125 : tAgg Tryz.prog 125 = some false := by kernel_rfl
@[go_sem] theorem xZ125 : tZero Tryz.prog 125 = some (.nilf) := by kernel_rfl
@[go_sem] theorem xS126 : tSize Tryz.prog 126 = some 1 := by kernel_rfl
@[go_sem] theorem xA126 : tAgg Tryz.prog 126 = some false := by kernel_rfl
@[go_sem] theorem xZ126 : tZero Tryz.prog 126 = some (.nilf) := by kernel_rfl
@[go_sem] theorem xS127 : tSize Tryz.prog 127 = some 1 := by kernel_rfl
@[go_sem] theorem xA127 : tAgg Tryz.prog 127 = some false := by kernel_rfl
@[go_sem] theorem xZ127 : tZero Tryz.prog 127 = some (.nilf) := by kernel_rfl
@[go_sem] theorem xS128 : tSize Tryz.prog 128 = some 1 := by kernel_rfl
@[go_sem] theorem xA128 : tAgg Tryz.prog 128 = some false := by kernel_rfl
@[go_sem] theorem xZ128 : tZero Tryz.prog 128 = some (.nilf) := by kernel_rfl
@[go_sem] theorem xS129 : tSize Tryz.prog 129 = some 1 := by kernel_rfl
@[go_sem] theorem xA129 : tAgg Tryz.prog 129 = some false := by kernel_rfl
@[go_sem] theorem xZ129 : tZero Tryz.prog 129 = some (.nilf) := by kernel_rfl
@[go_sem] theorem xS130 : tSize Tryz.prog 130 = some 1 := by kernel_rfl
@[go_sem] theorem xA130 : tAgg Tryz.prog 130 = some false := by kernel_rfl
@[go_sem] theorem xZ130 : tZero Tryz.prog 130 = some (.nilf) := by kernel_rfl
@[go_sem] theorem xS131 : tSize Tryz.prog 131 = some 1 := by kernel_rfl
@[go_sem] theorem xA131 : tAgg Tryz.prog 131 = some false := by kernel_rfl
@[go_sem] theorem xZ131 : tZero Tryz.prog 131 = some (.nilf) := by kernel_rfl
@[go_sem] theorem xS132 : tSize Tryz.prog 132 = some 4 := by kernel_rfl
@[go_sem] theorem xA132 : tAgg Tryz.prog 132 = some true := by kernel_rfl
@[go_sem] theorem xS133 : tSize Tryz.prog 133 = some 1 := by kernel_rfl
@[go_sem] theorem xA133 : tAgg Tryz.prog 133 = some false := by kernel_rfl
@[go_sem] theorem xZ133 : tZero Tryz.prog 133 = some (.nilf) := by kernel_rfl
@[go_sem] theorem xS134 : tSize Tryz.prog 134 = some 1 := by kernel_rfl
@[go_sem] theorem xA134 : tAgg Tryz.prog 134 = some false := by kernel_rfl
@[go_sem] theorem xZ134 : tZero Tryz.prog 134 = some (.nilf) := by kernel_rfl
@[go_sem] theorem xS135 : tSize Tryz.prog 135 = some 1 := by kernel_rfl
@[go_sem] theorem xA135 : tAgg Tryz.prog 135 = some false := by kernel_rfl
@[go_sem] theorem xZ135 : tZero Tryz.prog 135 = some (.nilf) := by kernel_rfl
@[go_sem] theorem xS136 : tSize Tryz.prog 136 = some 1 := by kernel_rfl
@[go_sem] theorem xA136 : tAgg Tryz.prog 136 = some false := by kernel_rfl
@[go_sem] theorem xZ136 : tZero Tryz.prog 136 = some (.nilf) := by kernel_rfl
@[go_sem] theorem xS137 : tSize Tryz.prog 137 = some 1 := by kernel_rfl
@[go_sem] theorem xA137 : tAgg Tryz.prog 137 = some false := by kernel_rfl
@[go_sem] theorem xZ137 : tZero Tryz.prog 137 = some (.nilf) := by kernel_rfl
@[go_sem] theorem xS138 : tSize Tryz.prog 138 = some 1 := by kernel_rfl
@[go_sem] theorem xA138 : tAgg Tryz.prog 138 = some false := by kernel_rfl
@[go_sem] theorem xZ138 : tZero Tryz.prog 138 = some (.nilf) := by kernel_rfl
@[go_sem] theorem xS139 : tSize Tryz.prog 139 = some 1 := by kernel_rfl
@[go_sem] theorem xA139 : tAgg Tryz.prog 139 = some false := by kernel_rfl
@[go_sem] theorem xZ139 : tZero Tryz.prog 139 = some (.nilf) := by kernel_rfl
@[go_sem] theorem xS140 : tSize Tryz.prog 140 = some 1 := by kernel_rfl
@[go_sem] theorem xA140 : tAgg Tryz.prog 140 = some false := by kernel_rfl
@[go_sem] theorem xZ140 : tZero Tryz.prog 140 = some (.nilf) := by kernel_rfl
@[go_sem] theorem xS141 : tSize Tryz.prog 141 = some 1 := by kernel_rfl
@[go_sem] theorem xA141 : tAgg Tryz.prog 141 = some false := by kernel_rfl
@[go_sem] theorem xZ141 : tZero Tryz.prog 141 = some (.nilf) := by kernel_rfl
@[go_sem] theorem xS142 : tSize Tryz.prog 142 = some 1 := by kernel_rfl
@[go_sem] theorem xA142 : tAgg Tryz.prog 142 = some false := by kernel_rfl
@[go_sem] theorem xZ142 : tZero Tryz.prog 142 = some (.nilf) := by kernel_rfl
@[go_sem] theorem xS143 : tSize Tryz.prog 143 = some 1 := by kernel_rfl
@[go_sem] theorem xA143 : tAgg Tryz.prog 143 = some false := by kernel_rfl
@[go_sem] theorem xZ143 : tZero Tryz.prog 143 = some (.nilf) := by kernel_rfl
@[go_sem] theorem xS144 : tSize Tryz.prog 144 = some 1 := by kernel_rfl
@[go_sem] theorem xA144 : tAgg Tryz.prog 144 = some false := by kernel_rfl
@[go_sem] theorem xZ144 : tZero Tryz.prog 144 = some (.nilf) := by kernel_rfl
@[go_sem] theorem xS146 : tSize Tryz.prog 146 = some 34 := by kernel_rfl
@[go_sem] theorem xA146 : tAgg Tryz.prog 146 = some true := by kernel_rfl
@[go_sem] theorem xB146 : tBytes Tryz.prog 146 = some 48 := by kernel_rfl
@[go_sem] theorem xS147 : tSize Tryz.prog 147 = some 1 := by kernel_rfl
@[go_sem] theorem xA147 : tAgg Tryz.prog 147 = some false := by kernel_rfl
@[go_sem] theorem xZ147 : tZero Tryz.prog 147 = some (.nilf) := by kernel_rfl
@[go_sem] theorem xS149 : tSize Tryz.prog 149 = some 67 := by kernel_rfl
@[go_sem] theorem xA149 : tAgg Tryz.prog 149 = some true := by kernel_rfl
@[go_sem] theorem xB149 : tBytes Tryz.prog 149 = some 88 := by kernel_rfl
@[go_sem] theorem xS150 : tSize Tryz.prog 150 = some 1 := by kernel_rfl
@[go_sem] theorem xA150 : tAgg Tryz.prog 150 = some false := by kernel_rfl
@[go_sem] theorem xZ150 : tZero Tryz.prog 150 = some (.nilf) := by kernel_rfl
@[go_sem] theorem xS151 : tSize Tryz.prog 151 = some 1 := by kernel_rfl
@[go_sem] theorem xA151 : tAgg Tryz.prog 151 = some false := by kernel_rfl
@[go_sem] theorem xZ151 : tZero Tryz.prog 151 = some (.nilf) := by kernel_rfl
@[go_sem] theorem xS152 : tSize Tryz.prog 152 = some 1 := by kernel_rfl
@[go_sem] theorem xA152 : tAgg Tryz.prog 152 = some false := by kernel_rfl
@[go_sem] theorem xZ152 : tZero Tryz.prog 152 = some (.nilf) := by kernel_rfl
@[go_sem] theorem xS153 : tSize Tryz.prog 153 = some 1 := by kernel_rfl
@[go_sem] theorem xA153 : tAgg Tryz.prog 153 = some false := by kernel_rfl
@[go_sem] theorem xZ153 : tZero Tryz.prog 153 = some (.nilf) := by kernel_rfl
@[go_sem] theorem xS154 : tSize Tryz.prog 154 = some 1 := by kernel_rfl
@[go_sem] theorem xA154 : tAgg Tryz.prog 154 = some false := by kernel_rfl
@[go_sem] theorem xZ154 : tZero Tryz.prog 154 = some (.nilf) := by kernel_rfl
@[go_sem] theorem xS155 : tSize Tryz.prog 155 = some 1 := by kernel_rfl
@[go_sem] theorem xA155 : tAgg Tryz.prog 155 = some false := by kernel_rfl
@[go_sem] theorem xZ155 : tZero Tryz.prog 155 = some (.nilf) := by kernel_rfl
@[go_sem] theorem xS156 : tSize Tryz.prog 156 = some 1 := by kernel_rfl
@[go_sem] theorem xA156 : tAgg Tryz.prog 156 = some false := by kernel_rfl
@[go_sem] theorem xZ156 : tZero Tryz.prog 156 = some (.nilf) := by kernel_rfl
@[go_sem] theorem xS157 : tSize Tryz.prog 157 = some 1 := by kernel_rfl
@[go_sem] theorem xA157 : tAgg Tryz.prog 157 = some false := by kernel_rfl
@[go_sem] theorem xS158 : tSize Tryz.prog 158 = some 1 := by kernel_rfl
@[go_sem] theorem xA158 : tAgg Tryz.prog 158 = some false := by kernel_rfl
@[go_sem] theorem xZ158 : tZero Tryz.prog 158 = some (.nilf) := by kernel_rfl
@[go_sem] theorem xS159 : tSize Tryz.prog 159 = some 1 := by kernel_rfl
@[go_sem] theorem xA159 : tAgg Tryz.prog 159 = some false := by kernel_rfl
@[go_sem] theorem xZ159 : tZero Tryz.prog 159 = some (.nilf) := by kernel_rfl
@[go_sem] theorem xS160 : tSize Tryz.prog 160 = some 1 := by kernel_rfl
@[go_sem] theorem xA160 : tAgg Tryz.prog 160 = some false := by kernel_rfl
@[go_sem] theorem xZ160 : tZero Tryz.prog 160 = some (.nilf) := by kernel_rfl
@[go_sem] theorem xS161 : tSize Tryz.prog 161 = some 1 := by kernel_rfl
@[go_sem] theorem xA161 : tAgg Tryz.prog 161 = some false := by kernel_rfl
@[go_sem] theorem xZ161 : tZero Tryz.prog 161 = some (.nilf) := by kernel_rfl
@[go_sem] theorem xS162 : tSize Tryz.prog 162 = some 1 := by kernel_rfl
@[go_sem] theorem xA162 : tAgg Tryz.prog 162 = some false := by kernel_rfl
@[go_sem] theorem xZ162 : tZero Tryz.prog 162 = some (.nilf) := by kernel_rfl
@[go_sem] theorem xS163 : tSize Tryz.prog 163 = some 1 := by kernel_rfl
@[go_sem] theorem xA163 : tAgg Tryz.prog 163 = some false := by kernel_rfl
@[go_sem] theorem xZ163 : tZero Tryz.prog 163 = some (.nilf) := by kernel_rfl
@[go_sem] theorem xS164 : tSize Tryz.prog 164 = some 1 := by kernel_rfl
@[go_sem] theorem xA164 : tAgg Tryz.prog 164 = some false := by kernel_rfl
@[go_sem] theorem xZ164 : tZero Tryz.prog 164 = some (.nilf) := by kernel_rfl
@[go_sem] theorem xS165 : tSize Tryz.prog 165 = some 1 := by kernel_rfl
@[go_sem] theorem xA165 : tAgg Tryz.prog 165 = some false := by kernel_rfl
@[go_sem] theorem xZ165 : tZero Tryz.prog 165 = some (.nilf) := by kernel_rfl
@[go_sem] theorem xS166 : tSize Tryz.prog 166 = some 1 := by kernel_rfl
@[go_sem] theorem xA166 : tAgg Tryz.prog 166 = some false := by kernel_rfl
@[go_sem] theorem xZ166 : tZero Tryz.prog 166 = some (.nilf) := by kernel_rfl
@[go_sem] theorem xS167 : tSize Tryz.prog 167 = some 1 := by kernel_rfl
@[go_sem] theorem xA167 : tAgg Tryz.prog 167 = some false := by kernel_rfl
@[go_sem] theorem xZ167 : tZero Tryz.prog 167 = some (.nilf) := by kernel_rfl
@[go_sem] theorem xS168 : tSize Tryz.prog 168 = some 1 := by kernel_rfl
@[go_sem] theorem xA168 : tAgg Tryz.prog 168 = some false := by kernel_rfl
@[go_sem] theorem xZ168 : tZero Tryz.prog 168 = some (.nilf) := by kernel_rfl
@[go_sem] theorem xS170 : tSize Tryz.prog 170 = some 1 := by kernel_rfl
@[go_sem] theorem xA170 : tAgg Tryz.prog 170 = some false := by kernel_rfl
@[go_sem] theorem xZ170 : tZero Tryz.prog 170 = some (.nilf) := by kernel_rfl
@[go_sem] theorem xS171 : tSize Tryz.prog 171 = some 1 := by kernel_rfl
@[go_sem] theorem xA171 : tAgg Tryz.prog 171 = some false := by kernel_rfl
@[go_sem] theorem xZ171 : tZero Tryz.prog 171 = some (.nilf) := by kernel_rfl
@[go_sem] theorem xS172 : tSize Tryz.prog 172 = some 1 := by kernel_rfl
@[go_sem] theorem xA172 : tAgg Tryz.prog 172 = some false := by kernel_rfl
@[go_sem] theorem xZ172 : tZero Tryz.prog 172 = some (.nilf) := by kernel_rfl
@[go_sem] theorem xS173 : tSize Tryz.prog 173 = some 1 := by kernel_rfl
@[go_sem] theorem xA173 : tAgg Tryz.prog 173 = some false := by kernel_rfl
@[go_sem] theorem xZ173 : tZero Tryz.prog 173 = some (.nilf) := by kernel_rfl
@[go_sem] theorem xS174 : tSize Tryz.prog 174 = some 1 := by kernel_rfl
@[go_sem] theorem xA174 : tAgg Tryz.prog 174 = some false := by kernel_rfl
@[go_sem] theorem xZ174 : tZero Tryz.prog 174 = some (.nilf) := by kernel_rfl
@[go_sem] theorem xS175 : tSize Tryz.prog 175 = some 1 := by kernel_rfl
@[go_sem] theorem xA175 : tAgg Tryz.prog 175 = some false := by kernel_rfl
@[go_sem] theorem xZ175 : tZero Tryz.prog 175 = some (.nilf) := by kernel_rfl
@[go_sem] theorem xS176 : tSize Tryz.prog 176 = some 1 := by kernel_rfl
@[go_sem] theorem xA176 : tAgg Tryz.prog 176 = some false := by kernel_rfl
@[go_sem] theorem xZ176 : tZero Tryz.prog 176 = some (.nilf) := by kernel_rfl
@[go_sem] theorem xS177 : tSize Tryz.prog 177 = some 1 := by kernel_rfl
@[go_sem] theorem xA177 : tAgg Tryz.prog 177 = some false := by kernel_rfl
@[go_sem] theorem xZ177 : tZero Tryz.prog 177 = some (.nilf) := by kernel_rfl
@[go_sem] theorem xS178 : tSize Tryz.prog 178 = some 1 := by kernel_rfl
@[go_sem] theorem xA178 : tAgg Tryz.prog 178 = some false := by kernel_rfl
@[go_sem] theorem xZ178 : tZero Tryz.prog 178 = some (.nilf) := by kernel_rfl
@[go_sem] theorem xS179 : tSize Tryz.prog 179 = some 1 := by kernel_rfl
@[go_sem] theorem xA179 : tAgg Tryz.prog 179 = some false := by kernel_rfl
@[go_sem] theorem xZ179 : tZero Tryz.prog 179 = some (.nilp) := by kernel_rfl
@[go_sem] theorem xS181 : tSize Tryz.prog 181 = some 1 := by kernel_rfl
@[go_sem] theorem xA181 : tAgg Tryz.prog 181 = some true := by kernel_rfl
@[go_sem] theorem xS182 : tSize Tryz.prog 182 = some 1 := by kernel_rfl
@[go_sem] theorem xA182 : tAgg Tryz.prog 182 = some false := by kernel_rfl
@[go_sem] theorem xZ182 : tZero Tryz.prog 182 = some (.nilf) := by kernel_rfl
@[go_sem] theorem xS183 : tSize Tryz.prog 183 = some 1 := by kernel_rfl
@[go_sem] theorem xA183 : tAgg Tryz.prog 183 = some false := by kernel_rfl
@[go_sem] theorem xZ183 : tZero Tryz.prog 183 = some (.nilf) := by kernel_rfl
@[go_sem] theorem xS184 : tSize Tryz.prog 184 = some 1 := by kernel_rfl
@[go_sem] theorem xA184 : tAgg Tryz.prog 184 = some false := by kernel_rfl
@[go_sem] theorem xZ184 : tZero Tryz.prog 184 = some (.nilf) := by kernel_rfl
@[go_sem] theorem xS185 : tSize Tryz.prog 185 = some 1 := by kernel_rfl
@[go_sem] theorem xA185 : tAgg Tryz.prog 185 = some false := by kernel_rfl
@[go_sem] theorem xZ185 : tZero Tryz.prog 185 = some (.nilf) := by kernel_rfl
@[go_sem] theorem xS187 : tSize Tryz.prog 187 = some 1 := by kernel_rfl
@[go_sem] theorem xA187 : tAgg Tryz.prog 187 = some false := by kernel_rfl
@[go_sem] theorem xZ187 : tZero Tryz.prog 187 = some (.nilf) := by kernel_rfl
@[go_sem] theorem xS189 : tSize Tryz.prog 189 = some 1 := by kernel_rfl
@[go_sem] theorem xA189 : tAgg Tryz.prog 189 = some false := by kernel_rfl
@[go_sem] theorem xZ189 : tZero Tryz.prog 189 = some (.nilf) := by kernel_rfl
@[go_sem] theorem xS191 : tSize Tryz.prog 191 = some 1 := by kernel_rfl
@[go_sem] theorem xA191 : tAgg Tryz.prog 191 = some false := by kernel_rfl
@[go_sem] theorem xZ191 : tZero Tryz.prog 191 = some (.nilf) := by kernel_rfl
@[go_sem] theorem xS192 : tSize Tryz.prog 192 = some 1 := by kernel_rfl
@[go_sem] theorem xA192 : tAgg Tryz.prog 192 = some false := by kernel_rfl
@[go_sem] theorem xZ192 : tZero Tryz.prog 192 = some (.nilf) := by kernel_rfl
@[go_sem] theorem xS193 : tSize Tryz.prog 193 = some 1 := by kernel_rfl
@[go_sem] theorem xA193 : tAgg Tryz.prog 193 = some false := by kernel_rfl
@[go_sem] theorem xZ193 : tZero Tryz.prog 193 = some (.nilf) := by kernel_rfl
@[go_sem] theorem xS194 : tSize Tryz.prog 194 = some 1 := by kernel_rfl
@[go_sem] theorem xA194 : tAgg Tryz.prog 194 = some false := by kernel_rfl
@[go_sem] theorem xZ194 : tZero Tryz.prog 194 = some (.nilf) := by kernel_rfl
@[go_sem] theorem xS195 : tSize Tryz.prog 195 = some 1 := by kernel_rfl
@[go_sem] theorem xA195 : tAgg Tryz.prog 195 = some false := by kernel_rfl
@[go_sem] theorem xZ195 : tZero Tryz.prog 195 = some (.nilf) := by kernel_rfl
@[go_sem] theorem xS196 : tSize Tryz.prog 196 = some 1 := by kernel_rfl
@[go_sem] theorem xA196 : tAgg Tryz.prog 196 = some false := by kernel_rfl
@[go_sem] theorem xZ196 : tZero Tryz.prog 196 = some (.nilf) := by kernel_rfl
@[go_sem] theorem xS197 : tSize Tryz.prog 197 = some 1 := by kernel_rfl
@[go_sem] theorem xA197 : tAgg Tryz.prog 197 = some false := by kernel_rfl
@[go_sem] theorem xZ197 : tZero Tryz.prog 197 = some (.nilf) := by kernel_rfl
@[go_sem] theorem xS198 : tSize Tryz.prog 198 = some 1 := by kernel_rfl
@[go_sem] theorem xA198 : tAgg Tryz.prog 198 = some false := by kernel_rfl
@[go_sem] theorem xZ198 : tZero Tryz.prog 198 = some (.nilf) := by kernel_rfl
@[go_sem] theorem xS199 : tSize Tryz.prog 199 = some 1 := by kernel_rfl
@[go_sem] theorem xA199 : tAgg Tryz.prog 199 = some false := by kernel_rfl
@[go_sem] theorem xZ199 : tZero Tryz.prog 199 = some (.nilf) := by kernel_rfl
@[go_sem] theorem xS200 : tSize Tryz.prog 200 = some 1 := by kernel_rfl
@[go_sem] theorem xA200 : tAgg Tryz.prog 200 = some false := by kernel_rfl
@[go_sem] theorem xZ200 : tZero Tryz.prog 200 = some (.nilf) := by kernel_rfl
@[go_sem] theorem xS201 : tSize Tryz.prog 201 = some 1 := by kernel_rfl
@[go_sem] theorem xA201 : tAgg Tryz.prog 201 = some false := by kernel_rfl
@[go_sem] theorem xZ201 : tZero Tryz.prog 201 = some (.nilf) := by kernel_rfl
@[go_sem] theorem xS202 : tSize Tryz.prog 202 = some 1 := by kernel_rfl
@[go_sem] theorem xA202 : tAgg Tryz.prog 202 = some false := by kernel_rfl
@[go_sem] theorem xZ202 : tZero Tryz.prog 202 = some (.nilf) := by kernel_rfl
@[go_sem] theorem xS203 : tSize Tryz.prog 203 = some 1 := by kernel_rfl
@[go_sem] theorem xA203 : tAgg Tryz.prog 203 = some false := by kernel_rfl
@[go_sem] theorem xZ203 : tZero Tryz.prog 203 = some (.nilp) := by kernel_rfl
@[go_sem] theorem xS205 : tSize Tryz.prog 205 = some 2 := by kernel_rfl
@[go_sem] theorem xA205 : tAgg Tryz.prog 205 = some true := by kernel_rfl
@[go_sem] theorem xS207 : tSize Tryz.prog 207 = some 1 := by kernel_rfl
@[go_sem] theorem xA207 : tAgg Tryz.prog 207 = some false := by kernel_rfl
@[go_sem] theorem xZ207 : tZero Tryz.prog 207 = some (.nilf) := by kernel_rfl
@[go_sem] theorem xS208 : tSize Tryz.prog 208 = some 1 := by kernel_rfl
@[go_sem] theorem xA208 : tAgg Tryz.prog 208 = some false := by kernel_rfl
@[go_sem] theorem xZ208 : tZero Tryz.prog 208 = some (.nilf) := by kernel_rfl
@[go_sem] theorem xS209 : tSize Tryz.prog 209 = some 1 := by kernel_rfl
@[go_sem] theorem xA209 : tAgg Tryz.prog 209 = some false := by kernel_rfl
@[go_sem] theorem xZ209 : tZero Tryz.prog 209 = some (.nilf) := by kernel_rfl
@[go_sem] theorem xS210 : tSize Tryz.prog 210 = some 1 := by kernel_rfl
@[go_sem] theorem xA210 : tAgg Tryz.prog 210 = some false := by kernel_rfl
@[go_sem] theorem xZ210 : tZero Tryz.prog 210 = some (.nilf) := by kernel_rfl
@[go_sem] theorem xS211 : tSize Tryz.prog 211 = some 1 := by kernel_rfl
@[go_sem] theorem xA211 : tAgg Tryz.prog 211 = some false := by kernel_rfl
@[go_sem] theorem xZ211 : tZero Tryz.prog 211 = some (.nilf) := by kernel_rfl
@[go_sem] theorem xS212 : tSize Tryz.prog 212 = some 1 := by kernel_rfl
@[go_sem] theorem xA212 : tAgg Tryz.prog 212 = some false := by kernel_rfl
@[go_sem] theorem xZ212 : tZero Tryz.prog 212 = some (.nilf) := by kernel_rfl
@[go_sem] theorem xS213 : tSize Tryz.prog 213 = some 1 := by kernel_rfl
@[go_sem] theorem xA213 : tAgg Tryz.prog 213 = some false := by kernel_rfl
@[go_sem] theorem xZ213 : tZero Tryz.prog 213 = some (.nilf) := by kernel_rfl
@[go_sem] theorem xS214 : tSize Tryz.prog 214 = some 1 := by kernel_rfl
@[go_sem] theorem xA214 : tAgg Tryz.prog 214 = some false := by kernel_rfl
@[go_sem] theorem xZ214 : tZero Tryz.prog 214 = some (.nilf) := by kernel_rfl
@[go_sem] theorem xS215 : tSize Tryz.prog 215 = some 1 := by kernel_rfl
@[go_sem] theorem xA215 : tAgg Tryz.prog 215 = some false := by kernel_rfl
@[go_sem] theorem xZ215 : tZero Tryz.prog 215 = some (.nilf) := by kernel_rfl
@[go_sem] theorem xS216 : tSize Tryz.prog 216 = some 1 := by kernel_rfl
@[go_sem] theorem xA216 : tAgg Tryz.prog 216 = some false := by kernel_rfl
@[go_sem] theorem xZ216 : tZero Tryz.prog 216 = some (.nilf) := by kernel_rfl
@[go_sem] theorem xS217 : tSize Tryz.prog 217 = some 1 := by kernel_rfl
@[go_sem] theorem xA217 : tAgg Tryz.prog 217 = some false := by kernel_rfl
@[go_sem] theorem xZ217 : tZero Tryz.prog 217 = some (.nilf) := by kernel_rfl
@[go_sem] theorem xS218 : tSize Tryz.prog 218 = some 1 := by kernel_rfl
@[go_sem] theorem xA218 : tAgg Tryz.prog 218 = some false := by kernel_rfl
@[go_sem] theorem xZ218 : tZero Tryz.prog 218 = some (.nilf) := by kernel_rfl
@[go_sem] theorem xS220 : tSize Tryz.prog 220 = some 66 := by kernel_rfl
@[go_sem] theorem xA220 : tAgg Tryz.prog 220 = some true := by kernel_rfl
@[go_sem] theorem xS221 : tSize Tryz.prog 221 = some 1 := by kernel_rfl
@[go_sem] theorem xA221 : tAgg Tryz.prog 221 = some false := by kernel_rfl
@[go_sem] theorem xZ221 : tZero Tryz.prog 221 = some (.nilf) := by kernel_rfl
@[go_sem] theorem xS222 : tSize Tryz.prog 222 = some 1 := by kernel_rfl
@[go_sem] theorem xA222 : tAgg Tryz.prog 222 = some false := by kernel_rfl
@[go_sem] theorem xZ222 : tZero Tryz.prog 222 = some (.nilf) := by kernel_rfl
@[go_sem] theorem xS223 : tSize Tryz.prog 223 = some 1 := by kernel_rfl
@[go_sem] theorem xA223 : tAgg Tryz.prog 223 = some false := by kernel_rfl
@[go_sem] theorem xZ223 : tZero Tryz.prog 223 = some (.nilf) := by kernel_rfl
@[go_sem] theorem xS224 : tSize Tryz.prog 224 = some 1 := by kernel_rfl
@[go_sem] theorem xA224 : tAgg Tryz.prog 224 = some false := by kernel_rfl
@[go_sem] theorem xZ224 : tZero Tryz.prog 224 = some (.nilf) := by kernel_rfl
@[go_sem] theorem xS225 : tSize Tryz.prog 225 = some 1 := by kernel_rfl
@[go_sem] theorem xA225 : tAgg Tryz.prog 225 = some false := by kernel_rfl
@[go_sem] theorem xS226 : tSize Tryz.prog 226 = some 1 := by kernel_rfl
@[go_sem] theorem xA226 : tAgg Tryz.prog 226 = some false := by kernel_rfl
@[go_sem] theorem xZ226 : tZero Tryz.prog 226 = some (.nilf) := by kernel_rfl
@[go_sem] theorem xS227 : tSize Tryz.prog 227 = some 1 := by kernel_rfl
@[go_sem] theorem xA227 : tAgg Tryz.prog 227 = some false := by kernel_rfl
@[go_sem] theorem xZ227 : tZero Tryz.prog 227 = some (.nilf) := by kernel_rfl
@[go_sem] theorem xS228 : tSize Tryz.prog 228 = some 1 := by kernel_rfl
@[go_sem] theorem xA228 : tAgg Tryz.prog 228 = some false := by kernel_rfl
@[go_sem] theorem xS229 : tSize Tryz.prog 229 = some 1 := by kernel_rfl
@[go_sem] theorem xA229 : tAgg Tryz.prog 229 = some false := by kernel_rfl
@[go_sem] theorem xZ229 : tZero Tryz.prog 229 = some (.nilf) := by kernel_rfl
@[go_sem] theorem xS230 : tSize Tryz.prog 230 = some 1 := by kernel_rfl
@[go_sem] theorem xA230 : tAgg Tryz.prog 230 = some false := by kernel_rfl
@[go_sem] theorem xZ230 : tZero Tryz.prog 230 = some (.nilf) := by kernel_rfl
@[go_sem] theorem xS231 : tSize Tryz.prog 231 = some 1 := by kernel_rfl
@[go_sem] theorem xA231 : tAgg Tryz.prog 231 = some false := by kernel_rfl
@[go_sem] theorem xZ231 : tZero Tryz.prog 231 = some (.nilf) := by kernel_rfl
@[go_sem] theorem xS232 : tSize Tryz.prog 232 = some 1 := by kernel_rfl
@[go_sem] theorem xA232 : tAgg Tryz.prog 232 = some false := by kernel_rfl
@[go_sem] theorem xZ232 : tZero Tryz.prog 232 = some (.nilp) := by kernel_rfl
@[go_sem] theorem xS234 : tSize Tryz.prog 234 = some 1 := by kernel_rfl
@[go_sem] theorem xA234 : tAgg Tryz.prog 234 = some false := by kernel_rfl
@[go_sem] theorem xZ234 : tZero Tryz.prog 234 = some (.nilf) := by kernel_rfl
@[go_sem] theorem xS235 : tSize Tryz.prog 235 = some 1 := by kernel_rfl
@[go_sem] theorem xA235 : tAgg Tryz.prog 235 = some false := by kernel_rfl
@[go_sem] theorem xZ235 : tZero Tryz.prog 235 = some (.nilf) := by kernel_rfl
@[go_sem] theorem xS237 : tSize Tryz.prog 237 = some 1 := by kernel_rfl
@[go_sem] theorem xA237 : tAgg Tryz.prog 237 = some false := by kernel_rfl
@[go_sem] theorem xZ237 : tZero Tryz.prog 237 = some (.nilf) := by kernel_rfl
@[go_sem] theorem xS238 : tSize Tryz.prog 238 = some 1 := by kernel_rfl
@[go_sem] theorem xA238 : tAgg Tryz.prog 238 = some false := by kernel_rfl
@[go_sem] theorem xZ238 : tZero Tryz.prog 238 = some (.nilf) := by kernel_rfl
@[go_sem] theorem xS240 : tSize Tryz.prog 240 = some 1 := by kernel_rfl
@[go_sem] theorem xA240 : tAgg Tryz.prog 240 = some false := by kernel_rfl
@[go_sem] theorem xZ240 : tZero Tryz.prog 240 = some (.nilf) := by kernel_rfl
@[go_sem] theorem xS242 : tSize Tryz.prog 242 = some 1 := by kernel_rfl
@[go_sem] theorem xA242 : tAgg Tryz.prog 242 = some false := by kernel_rfl
@[go_sem] theorem xZ242 : tZero Tryz.prog 242 = some (.nilf) := by kernel_rfl
@[go_sem] theorem xS244 : tSize Tryz.prog 244 = some 1 := by kernel_rfl
@[go_sem] theorem xA244 : tAgg Tryz.prog 244 = some false := by kernel_rfl
@[go_sem] theorem xZ244 : tZero Tryz.prog 244 = some (.nilf) := by kernel_rfl
@[go_sem] theorem xS245 : tSize Tryz.prog 245 = some 1 := by kernel_rfl
@[go_sem] theorem xA245 : tAgg Tryz.prog 245 = some false := by kernel_rfl
@[go_sem] theorem xZ245 : tZero Tryz.prog 245 = some (.nilf) := by kernel_rfl
@[go_sem] theorem xS246 : tSize Tryz.prog 246 = some 1 := by kernel_rfl
@[go_sem] theorem xA246 : tAgg Tryz.prog 246 = some false := by kernel_rfl
@[go_sem] theorem xZ246 : tZero Tryz.prog 246 = some (.nilf) := by kernel_rfl
@[go_sem] theorem xS247 : tSize Tryz.prog 247 = some 1 := by kernel_rfl
@[go_sem] theorem xA247 : tAgg Tryz.prog 247 = some false := by kernel_rfl
@[go_sem] theorem xZ247 : tZero Tryz.prog 247 = some (.nilf) := by kernel_rfl
@[go_sem] theorem xS248 : tSize Tryz.prog 248 = some 1 := by kernel_rfl
@[go_sem] theorem xA248 : tAgg Tryz.prog 248 = some false := by kernel_rfl
@[go_sem] theorem xZ248 : tZero Tryz.prog 248 = some (.nilf) := by kernel_rfl
@[go_sem] theorem xS249 : tSize Tryz.prog 249 = some 1 := by kernel_rfl
@[go_sem] theorem xA249 : tAgg Tryz.prog 249 = some false := by kernel_rfl
@[go_sem] theorem xZ249 : tZero Tryz.prog 249 = some (.nilf) := by kernel_rfl
@[go_sem] theorem xS250 : tSize Tryz.prog 250 = some 1 := by kernel_rfl
@[go_sem] theorem xA250 : tAgg Tryz.prog 250 = some false := by kernel_rfl
@[go_sem] theorem xZ250 : tZero Tryz.prog 250 = some (.nilf) := by kernel_rfl
@[go_sem] theorem xS251 : tSize Tryz.prog 251 = some 1 := by kernel_rfl
@[go_sem] theorem xA251 : tAgg Tryz.prog 251 = some false := by kernel_rfl
@[go_sem] theorem xZ251 : tZero Tryz.prog 251 = some (.nilf) := by kernel_rfl
@[go_sem] theorem xS252 : tSize Tryz.prog 252 = some 1 := by kernel_rfl
@[go_sem] theorem xA252 : tAgg Tryz.prog 252 = some false := by kernel_rfl
@[go_sem] theorem xZ252 : tZero Tryz.prog 252 = some (.nilf) := by kernel_rfl
@[go_sem] theorem xS253 : tSize Tryz.prog 253 = some 1 := by kernel_rfl
@[go_sem] theorem xA253 : tAgg Tryz.prog 253 = some false := by kernel_rfl
@[go_sem] theorem xZ253 : tZero Tryz.prog 253 = some (.nilf) := by kernel_rfl
@[go_sem] theorem xS254 : tSize Tryz.prog 254 = some 1 := by kernel_rfl
@[go_sem] theorem xA254 : tAgg Tryz.prog 254 = some false := by kernel_rfl
@[go_sem] theorem xZ254 : tZero Tryz.prog 254 = some (.nilf) := by kernel_rfl
@[go_sem] theorem xS255 : tSize Tryz.prog 255 = some 1 := by kernel_rfl
@[go_sem] theorem xA255 : tAgg Tryz.prog 255 = some false := by kernel_rfl
@[go_sem] theorem xZ255 : tZero Tryz.prog 255 = some (.nilf) := by kernel_rfl
@[go_sem] theorem xS256 : tSize Tryz.prog 256 = some 1 := by kernel_rfl
@[go_sem] theorem xA256 : tAgg Tryz.prog 256 = some false := by kernel_rfl
@[go_sem] theorem xZ256 : tZero Tryz.prog 256 = some (.nilf) := by kernel_rfl
@[go_sem] theorem xS257 : tSize Tryz.prog 257 = some 1 := by kernel_rfl
@[go_sem] theorem xA257 : tAgg Tryz.prog 257 = some false := by kernel_rfl
@[go_sem] theorem xZ257 : tZero Tryz.prog 257 = some (.nilf) := by kernel_rfl
@[go_sem] theorem xS258 : tSize Tryz.prog 258 = some 1 := by kernel_rfl
@[go_sem] theorem xA258 : tAgg Tryz.prog 258 = some false := by kernel_rfl
@[go_sem] theorem xZ258 : tZero Tryz.prog 258 = some (.nilf) := by kernel_rfl
@[go_sem] theorem xS259 : tSize Tryz.prog 259 = some 1 := by kernel_rfl
@[go_sem] theorem xA259 : tAgg Tryz.prog 259 = some false := by kernel_rfl
@[go_sem] theorem xZ259 : tZero Tryz.prog 259 = some (.nilf) := by kernel_rfl
@[go_sem] theorem xS260 : tSize Tryz.prog 260 = some 1 := by kernel_rfl
@[go_sem] theorem xA260 : tAgg Tryz.prog 260 = some false := by kernel_rfl
@[go_sem] theorem xZ260 : tZero Tryz.prog 260 = some (.nilf) := by kernel_rfl
@[go_sem] theorem xS261 : tSize Tryz.prog 261 = some 1 := by kernel_rfl
@[go_sem] theorem xA261 : tAgg Tryz.prog 261 = some false := by kernel_rfl
@[go_sem] theorem xZ261 : tZero Tryz.prog 261 = some (.nilf) := by kernel_rfl
@[go_sem] theorem xS263 : tSize Tryz.prog 263 = some 2 := by kernel_rfl
@[go_sem] theorem xA263 : tAgg Tryz.prog 263 = some true := by kernel_rfl
@[go_sem] theorem xS264 : tSize Tryz.prog 264 = some 1 := by kernel_rfl
@[go_sem] theorem xA264 : tAgg Tryz.prog 264 = some false := by kernel_rfl
@[go_sem] theorem xZ264 : tZero Tryz.prog 264 = some (.nilf) := by kernel_rfl
@[go_sem] theorem xS265 : tSize Tryz.prog 265 = some 2 := by kernel_rfl
@[go_sem] theorem xA265 : tAgg Tryz.prog 265 = some true := by kernel_rfl
@[go_sem] theorem xS267 : tSize Tryz.prog 267 = some 1 := by kernel_rfl
@[go_sem] theorem xA267 : tAgg Tryz.prog 267 = some false := by kernel_rfl
@[go_sem] theorem xZ267 : tZero Tryz.prog 267 = some (.nilf) := by kernel_rfl
@[go_sem] theorem xS268 : tSize Tryz.prog 268 = some 1 := by kernel_rfl
@[go_sem] theorem xA268 : tAgg Tryz.prog 268 = some false := by kernel_rfl
@[go_sem] theorem xZ268 : tZero Tryz.prog 268 = some (.nilf) := by kernel_rfl
@[go_sem] theorem xS269 : tSize Tryz.prog 269 = some 1 := by kernel_rfl
@[go_sem] theorem xA269 : tAgg Tryz.prog 269 = some false := by kernel_rfl
@[go_sem] theorem xZ269 : tZero Tryz.prog 269 = some (.nilf) := by kernel_rfl
@[go_sem] theorem xS271 : tSize Tryz.prog 271 = some 1 := by kernel_rfl
@[go_sem] theorem xA271 : tAgg Tryz.prog 271 = some false := by kernel_rfl
@[go_sem] theorem xZ271 : tZero Tryz.prog 271 = some (.nilf) := by kernel_rfl
@[go_sem] theorem xS272 : tSize Tryz.prog 272 = some 1 := by kernel_rfl
@[go_sem] theorem xA272 : tAgg Tryz.prog 272 = some false := by kernel_rfl
@[go_sem] theorem xZ272 : tZero Tryz.prog 272 = some (.nilf) := by kernel_rfl
@[go_sem] theorem xS273 : tSize Tryz.prog 273 = some 1 := by kernel_rfl
@[go_sem] theorem xA273 : tAgg Tryz.prog 273 = some false := by kernel_rfl
@[go_sem] theorem xZ273 : tZero Tryz.prog 273 = some (.nilf) := by kernel_rfl
@[go_sem] theorem xS274 : tSize Tryz.prog 274 = some 1 := by kernel_rfl
@[go_sem] theorem xA274 : tAgg Tryz.prog 274 = some false := by kernel_rfl
@[go_sem] theorem xZ274 : tZero Tryz.prog 274 = some (.nilf) := by kernel_rfl
@[go_sem] theorem xS275 : tSize Tryz.prog 275 = some 1 := by kernel_rfl
@[go_sem] theorem xA275 : tAgg Tryz.prog 275 = some false := by kernel_rfl
@[go_sem] theorem xZ275 : tZero Tryz.prog 275 = some (.nilf) := by kernel_rfl
@[go_sem] theorem xS276 : tSize Tryz.prog 276 = some 64 := by kernel_rfl
@[go_sem] theorem xA276 : tAgg Tryz.prog 276 = some true := by kernel_rfl
@[go_sem] theorem xS277 : tSize Tryz.prog 277 = some 1 := by kernel_rfl
@[go_sem] theorem xA277 : tAgg Tryz.prog 277 = some false := by kernel_rfl
@[go_sem] theorem xZ277 : tZero Tryz.prog 277 = some (.nilf) := by kernel_rfl
@[go_sem] theorem xS283 : tSize Tryz.prog 283 = some 1 := by kernel_rfl
@[go_sem] theorem xA283 : tAgg Tryz.prog 283 = some false := by kernel_rfl
@[go_sem] theorem xZ283 : tZero Tryz.prog 283 = some (.nilf) := by kernel_rfl
@[go_sem] theorem xS288 : tSize Tryz.prog 288 = some 1 := by kernel_rfl
@[go_sem] theorem xA288 : tAgg Tryz.prog 288 = some false := by kernel_rfl
@[go_sem] theorem xZ288 : tZero Tryz.prog 288 = some (.nilp) := by kernel_rfl
@[go_sem] theorem xS293 : tSize Tryz.prog 293 = some 1 := by kernel_rfl
@[go_sem] theorem xA293 : tAgg Tryz.prog 293 = some false := by kernel_rfl
@[go_sem] theorem xZ293 : tZero Tryz.prog 293 = some (.nilf) := by kernel_rfl

attribute [go_sem] Int.toNat_natCast
attribute [go_sem] u64s checks links
end Go.Proofs.YtgnidooihignfaaGreatDoor

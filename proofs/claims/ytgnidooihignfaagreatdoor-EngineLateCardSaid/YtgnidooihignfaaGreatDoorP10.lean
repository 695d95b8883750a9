/- Engines that are what they say: arguments in their ranges; votes stay votes. -/
import Derived.Test.YtgnidooihignfaaGreatDoorP9
import Derived.Test.YtgnidooihignfaaGreatDoorSnEDec
import Derived.Test.YtgnidooihignfaaGreatDoorP8
set_option linter.unusedSimpArgs false
set_option maxRecDepth 10000
namespace Go.Proofs.YtgnidooihignfaaGreatDoor
open Go Go.Ab Go.ChangeShapes Go.WideShapes Go.ChangeAt Go.RowKit

structure Eng.wf (e : Eng) : Prop where
  ok : e.ok
  o : 0 ≤ e.o
  late : ∀ a ∈ e.late, a.wf
  now : 0 ≤ e.now
theorem eng_of2 {m : Nat} {x : AV} (h : hasT Tryz.prog (m + 6) 38 x) : ∃ e : Eng, x = e.av ∧ e.wf := by
  unfold hasT at h
  rw [Tryz.underlying38] at h
  obtain ⟨xs, rfl, hl, hf⟩ := h
  match xs, hl with
  | [t, b, v, w, a, k, j, f, n], _ =>
    obtain ⟨t, rfl, _⟩ := tree_of (hf 0 _ t rfl rfl)
    obtain ⟨b, rfl, hb⟩ := bal_of (hf 1 _ b rfl rfl)
    obtain ⟨vl, o, rfl, _, ho⟩ := votes_of (hf 2 _ v rfl rfl)
    obtain ⟨w, rfl, _⟩ := bal_of (hf 3 _ w rfl rfl)
    obtain ⟨a, rfl, ha⟩ := atts_of (hf 4 _ a rfl rfl)
    obtain ⟨k, rfl, hk⟩ := links_of (hf 5 _ k rfl rfl)
    obtain ⟨j, rfl⟩ := checks_of (hf 6 _ j rfl rfl)
    obtain ⟨f, rfl, _⟩ := check_of (hf 7 _ f rfl rfl)
    obtain ⟨n, rfl, hn⟩ := u64_of (hf 8 _ n rfl rfl)
    exact ⟨⟨t, b, vl, o, w, a, k, j, f, n⟩, rfl, ⟨hb, hk.1, hk.2⟩, ho.1, ha, hn.1⟩

def hasB (n : Int) (k : Nat) : Bool := (bv n).getLsbD k
theorem orU_eq (a b : Int) : orU a b = ((bv a ||| bv b).toNat : Int) := by
  unfold orU bitsI
  exact wrapU (bv a ||| bv b).isLt
theorem has_or (a b : Int) (k : Nat) : hasB (orU a b) k = (hasB a k || hasB b k) := by
  unfold hasB; rw [orU_eq, bv_nat]; simp
theorem has_and (a b : Int) (k : Nat) : hasB (andU a b) k = (hasB a k && hasB b k) := by
  unfold hasB; rw [andU_eq, bv_nat]; simp
theorem eq_of_has {a b : Int} (ha : inU a) (hb : inU b) (h : ∀ k, hasB a k = hasB b k) : a = b := by
  rw [← bv_back ha, ← bv_back hb]
  congr 2
  exact BitVec.eq_of_getLsbD_eq fun k _ => h k
theorem has_zero (k : Nat) : hasB 0 k = false := by simp [hasB, bv]
theorem has_high (n : Int) (k : Nat) (h : 64 ≤ k) : hasB n k = false := BitVec.getLsbD_of_ge _ _ h
theorem has_bit_low : ∀ i : Nat, i < 8 → ∀ k : Nat, k < 64 → hasB (bit i) k = decide (k = i) := by decide +kernel
theorem has_bit (i : Nat) (hi : i < 8) (k : Nat) : hasB (bit i) k = decide (k = i) := by
  by_cases h : k < 64
  · exact has_bit_low i hi k h
  · rw [has_high _ _ (by omega)]
    exact (decide_eq_false (by omega)).symm
theorem and_bit (x : Int) (i : Nat) (hi : i < 8) : andU x (bit i) = 0 ↔ hasB x i = false := by
  constructor
  · intro h
    have h1 := has_and x (bit i) i
    rw [h, has_zero, has_bit i hi, decide_eq_true rfl, Bool.and_true] at h1
    exact h1.symm
  · intro h
    refine eq_of_has (inU_and _ _) ⟨by omega, by omega⟩ fun k => ?_
    rw [has_and, has_zero, has_bit i hi]
    by_cases hk : k = i
    · rw [hk, h, Bool.false_and]
    · rw [decide_eq_false hk, Bool.and_false]
theorem or_lt {o : Int} {v L : Nat} (h0 : 0 ≤ o) (ho : o < bit L) (hv : v < L) (hL : L ≤ 8) : orU o (bit v) < bit L ∧ 0 ≤ orU o (bit v) := by
  have hb : ∀ i : Nat, i < 9 → bit i = ((2 ^ i : Nat) : Int) := by decide +kernel
  rw [orU_eq]
  refine ⟨?_, by omega⟩
  have p8 : 2 ^ L ≤ 2 ^ 8 := Nat.pow_le_pow_right (by omega) hL
  have pv : 2 ^ v < 2 ^ L := Nat.pow_lt_pow_right (by omega) hv
  rw [hb L (by omega)] at ho ⊢
  rw [hb v (by omega), BitVec.toNat_or]
  have h1 : (bv o).toNat < 2 ^ L := by
    have := bv_back (n := o) ⟨h0, by omega⟩
    omega
  have h2 : (bv ((2 ^ v : Nat) : Int)).toNat < 2 ^ L := by
    have hq : (2 ^ v : Nat) < 2 ^ 8 := Nat.lt_of_lt_of_le pv p8
    generalize 2 ^ v = q at pv hq ⊢
    have := bv_back (n := (q : Int)) ⟨by omega, by omega⟩
    omega
  have := Nat.or_lt_two_pow h1 h2
  omega

theorem vmay_spec {l : List Latest} {o : Int} (h : vmayB l o = true) : 1 ≤ l.length ∧ l.length ≤ 8 ∧ o < bit l.length ∧ ∀ i, i < l.length → vbad o i (l.getD i zLatest) = false := by
  simp only [vmayB, Bool.and_eq_true, decide_eq_true_eq, List.all_eq_true, Bool.not_eq_true'] at h
  exact ⟨h.1, h.2.1, h.2.2.1, fun i hi => h.2.2.2 i (List.mem_range.2 hi)⟩
theorem vmay_of {l : List Latest} {o : Int} (h : 1 ≤ l.length ∧ l.length ≤ 8 ∧ o < bit l.length ∧ ∀ i, i < l.length → vbad o i (l.getD i zLatest) = false) : vmayB l o = true := by
  simp only [vmayB, Bool.and_eq_true, decide_eq_true_eq, List.all_eq_true, Bool.not_eq_true']
  exact ⟨h.1, h.2.1, h.2.2.1, fun i hi => h.2.2.2 i (List.mem_range.1 hi)⟩
theorem getD_setL (l : List Latest) (k j : Nat) (x : Latest) : (l.set k x).getD j zLatest = if k = j ∧ k < l.length then x else l.getD j zLatest := by
  simp only [List.getD_eq_getElem?_getD, List.getElem?_set]
  by_cases h : k = j
  · subst h
    by_cases hk : k < l.length
    · simp [hk]
    · simp [hk]
  · simp [h]
theorem vput_may {vl : List Latest} {o : Int} {v : Nat} {r : Root} {ep : Int} (h : vmayB vl o = true) (ho : 0 ≤ o) (hv : v < vl.length) : vmayB (vputR vl o v r ep).1 (vputR vl o v r ep).2 = true ∧ 0 ≤ (vputR vl o v r ep).2 ∧ (vputR vl o v r ep).1.length = vl.length := by
  obtain ⟨h1, h8, hb, hall⟩ := vmay_spec h
  unfold vputR
  by_cases h0 : howR vl o v r ep = 0
  · rw [if_pos h0]
    refine ⟨vmay_of ?_, ho, List.length_set⟩
    simp only [List.length_set]
    refine ⟨h1, h8, hb, fun i hi => ?_⟩
    rw [getD_setL]
    split
    · next hh =>
      have hz : andU o (bit v) = 0 := by
        unfold howR at h0
        split at h0
        · cases h0
        · next hz => exact Decidable.not_not.1 hz
      have e : vbad o i ⟨true, r, ep⟩ = ((false || decide (¬ andU o (bit i) = 0)) && !decide ((⟨true, r, ep⟩ : Latest) = zLatest)) := rfl
      rw [e, ← hh.1, decide_eq_false (fun h => h hz), Bool.or_false, Bool.false_and]
    · exact hall i hi
  · rw [if_neg h0]
    by_cases h2 : howR vl o v r ep = 2
    · rw [if_pos h2]
      have hor := or_lt ho hb hv h8
      refine ⟨vmay_of ?_, hor.2, List.length_set⟩
      simp only [List.length_set]
      refine ⟨h1, h8, hor.1, fun i hi => ?_⟩
      rw [getD_setL]
      split
      · next hh =>
        unfold vbad
        rw [decide_eq_true rfl, Bool.not_true, Bool.and_false]
      · next hh =>
        have hne : v ≠ i := fun h => hh ⟨h, hv⟩
        have ha : (andU (orU o (bit v)) (bit i) = 0) ↔ (andU o (bit i) = 0) := by
          rw [and_bit _ i (by omega), and_bit _ i (by omega), has_or, has_bit v (by omega), decide_eq_false (fun h => hne h.symm), Bool.or_false]
        have hx := hall i hi
        unfold vbad at hx ⊢
        rw [decide_eq_decide.2 (not_congr ha)]
        exact hx
    · rw [if_neg h2]
      exact ⟨h, ho, rfl⟩
end Go.Proofs.YtgnidooihignfaaGreatDoor

/- Engines: what counting comes to. -/
set_option linter.unusedSimpArgs false
set_option maxRecDepth 10000
namespace Go.Proofs.YtgnidooihignfaaGreatDoor
open Go Go.Ab

structure Good (e : Eng) : Prop where
  wf : e.wf
  fit : fitB e.t e.vl e.o e.b = true
  w : weights e.t e.vl e.b = e.w
  k : e.k.length ≤ 40
  j : e.j.length ≤ 40
def voteR (e : Eng) (a : Att) : List Latest × Int := vputR e.vl e.o a.val.toNat a.head a.target.epoch
def linkR (e : Eng) (a : Att) : List Link × Int := kputR e.k a.source a.target a.val
def countE (e : Eng) (a : Att) : Eng :=
  eV e (weights e.t (voteR e a).1 e.b) (linkR e a).1 (voteR e a).1 (voteR e a).2 (moreR e.t (linkR e a).1 e.b e.j) (nextR e.t (linkR e a).1 e.b (moreR e.t (linkR e a).1 e.b e.j) e.fin)
def countR (e : Eng) (a : Att) : Eng × Int := if (linkR e a).2 = 0 then (countE e a, 0) else (e, (linkR e a).2)
theorem fits_val {e : Eng} {a : Att} (h : fitsR e a = 0) : 0 ≤ a.val ∧ a.val < e.b.length := by
  unfold fitsR at h
  split at h
  · cases h
  · next hh => rw [not_or] at hh; omega
theorem kput_ok {l : List Link} {s t : Check} {v : Int} (h : (kputR l s t v).2 = 0) : lmayB l = true ∧ 0 ≤ v ∧ v < 8 ∧ s.epoch < t.epoch ∧
    ((∃ i, llook (places l) ⟨s, t⟩ = some i ∧ (kputR l s t v).1 = l.set i { l.getD i zLink with mask := orU (l.getD i zLink).mask (bit v) }) ∨ llook (places l) ⟨s, t⟩ = none ∧ l.length ≠ 16 ∧ (kputR l s t v).1 = l ++ [⟨s, t, bit v⟩]) := by
  unfold kputR at h ⊢
  split at h
  · cases h
  · next h1 =>
    rw [if_neg h1]
    split at h
    · cases h
    · next h2 =>
      rw [if_neg h2]
      split at h
      · cases h
      · next h3 =>
        rw [if_neg h3]
        refine ⟨by simpa using h1, by omega, by omega, by omega, ?_⟩
        split at h
        · next i hk => exact .inl ⟨i, hk, rfl⟩
        · next hk =>
          split at h
          · cases h
          · next h4 => exact .inr ⟨hk, h4, by rw [if_neg h4]⟩
theorem kput_len {l : List Link} {s t : Check} {v : Int} (h : (kputR l s t v).2 = 0) : (kputR l s t v).1.length ≤ 16 := by
  obtain ⟨h1, _, _, _, h5⟩ := kput_ok h
  have := (may_spec h1).1
  rcases h5 with ⟨i, _, h6⟩ | ⟨_, h6, h7⟩
  · rw [h6, List.length_set]
    exact this
  · rw [h7, List.length_append, List.length_singleton]
    omega
theorem getD_link {l : List Link} {i : Nat} (h : i < l.length) : l.getD i zLink ∈ l := by
  rw [List.getD_eq_getElem?_getD, List.getElem?_eq_getElem h]
  exact List.getElem_mem h
theorem bit_in (v : Int) (h0 : 0 ≤ v) (h8 : v < 8) : 0 < bit v ∧ bit v < 256 := by
  have := bit_range v.toNat (by omega)
  rwa [Int.toNat_of_nonneg h0] at this
theorem kput_okL {l : List Link} {s t : Check} {v : Int} (h : (kputR l s t v).2 = 0) (hl : okL l) : okL (kputR l s t v).1 := fun a ha => by
  obtain ⟨_, h2, h3, _, h5⟩ := kput_ok h
  rcases h5 with ⟨i, _, h6⟩ | ⟨_, _, h7⟩
  · rw [h6] at ha
    rcases List.mem_or_eq_of_mem_set ha with h | h
    · exact hl a h
    · rw [h]
      show 0 ≤ orU _ _ ∧ orU _ _ < _
      rw [orU_eq]
      exact inU_nat _
  · rw [h7] at ha
    rcases List.mem_append.1 ha with h | h
    · exact hl a h
    · rw [List.mem_singleton.1 h]
      have := bit_in v h2 h3
      show 0 ≤ bit v ∧ bit v < _
      omega
theorem kput_okC {l : List Link} {s t : Check} {v : Int} (h : (kputR l s t v).2 = 0) (hl : okC l) (hs : 0 ≤ s.epoch ∧ s.epoch < 18446744073709551616) (ht : 0 ≤ t.epoch ∧ t.epoch < 18446744073709551616) : okC (kputR l s t v).1 := fun a ha => by
  obtain ⟨_, h2, h3, _, h5⟩ := kput_ok h
  rcases h5 with ⟨i, hk, h6⟩ | ⟨_, _, h7⟩
  · rw [h6] at ha
    rcases List.mem_or_eq_of_mem_set ha with h | h
    · exact hl a h
    · rw [h]
      have hh := hl (l.getD i zLink) (getD_link (look_spec hk).1)
      exact hh
  · rw [h7] at ha
    rcases List.mem_append.1 ha with h | h
    · exact hl a h
    · rw [List.mem_singleton.1 h]
      exact ⟨hs.1, ht.1, hs.2, ht.2⟩
theorem moreN_len (ls : List Link) : ∀ n out, (moreN ls n out).length ≤ out.length + n
  | 0, out => Nat.le_refl _
  | n + 1, out => by
    rw [moreN]
    split
    · omega
    · next a _ =>
      have := moreN_len ls n (out ++ [a.t])
      rw [List.length_append, List.length_singleton] at this
      omega
theorem countL_len (t : List Node) (l : List Link) (b : List Int) : (countL t l b).length ≤ l.length := by
  unfold countL
  split
  · exact List.length_filter_le _ _
  · exact Nat.zero_le _
theorem moreR_len (t : List Node) (l : List Link) (b : List Int) (js : List Check) : (moreR t l b js).length ≤ js.length + l.length := by
  have h1 := moreN_len (countL t l b) (leftN (countL t l b) js) js
  have h2 := leftN_len (countL t l b) js
  have h3 := countL_len t l b
  unfold moreR moreF
  omega
theorem small_w {t : List Node} {vl : List Latest} {o : Int} {b : List Int} (hb : okB b) (h : fitB t vl o b = true) (j : Nat) : 0 ≤ (weights t vl b).getD j 0 ∧ (weights t vl b).getD j 0 ≤ 4611686018427387904 := by
  obtain ⟨hm, hv, hS, hl⟩ := fit_spec h
  have hml := may_len hm
  have h1 := small_sub (t := t) (small_own (t := t) hb hS hl) t.length j
  have h2 : (2 : Int) ^ t.length ≤ 2 ^ 12 := pow12 _ (by omega)
  have h3 : (2 : Int) ^ t.length * 1125899906842624 ≤ 2 ^ 12 * 1125899906842624 := Int.mul_le_mul_of_nonneg_right h2 (by decide)
  unfold weights subW
  omega
theorem small_p {t : List Node} {vl bl : List Latest} {b : List Int} (hb : okB b) (hS : mayS b = true) (hl : vl.length = b.length) : small 1125899906842624 (votTo t vl bl b vl.length) := fun j => by
  have h8 := (mayS_spec hS).2.1
  have := small_vot (t := t) (vl := vl) (bl := bl) hb hS vl.length (by omega) j
  omega
theorem small_s {t : List Node} {p : List Int} (hm : mayB t = true) (h : small 1125899906842624 p) (j : Nat) : 0 ≤ (subW t p).getD j 0 ∧ (subW t p).getD j 0 ≤ 4611686018427387904 := by
  have hml := may_len hm
  have h1 := small_sub (t := t) h t.length j
  have h2 : (2 : Int) ^ t.length ≤ 2 ^ 12 := pow12 _ (by omega)
  have h3 : (2 : Int) ^ t.length * 1125899906842624 ≤ 2 ^ 12 * 1125899906842624 := Int.mul_le_mul_of_nonneg_right h2 (by decide)
  unfold subW
  omega
theorem pass_c {t : List Node} {vl wl : List Latest} {o p : Int} {b : List Int} (hb : okB b) (h1 : fitB t vl o b = true) (h2 : fitB t wl p b = true) : Cal Tryz.prog 212 [tav t, u64s (weights t vl b), u64s (votTo t wl vl b wl.length), u64s (votTo t vl wl b vl.length)] (.tup [u64s (weights t wl b), .bool true]) := by
  obtain ⟨hm, hv, hS, hl⟩ := fit_spec h1
  obtain ⟨_, hv2, _, hl2⟩ := fit_spec h2
  have hml := may_len hm
  have sp := small_p (t := t) (bl := vl) hb hS hl2
  have sm := small_p (t := t) (bl := wl) hb hS hl
  have c1 := sub_c t _ hm (votTo_len t wl vl b wl.length) sp
  have c2 := sub_c t _ hm (votTo_len t vl wl b vl.length) sm
  have hw := weights_len t vl b
  refine pass_w t _ _ _ _ _ _ c1 c2 (by omega) ?_ ?_ ?_ fun j => ?_
  · rw [hw, subW, subTo_len, votTo_len]
  · rw [hw, subW, subTo_len, votTo_len]
  · rw [hw, weights_len]
  · have a1 := small_w hb h1 j
    have a2 := small_w hb h2 j
    have a3 := small_s hm sp j
    have a4 := small_s hm sm j
    have a5 := weights_lin (t := t) (vl := vl) (wl := wl) hb hS (by omega) (by have := (mayS_spec hS).2.1; omega) j
    exact ⟨a1.1, a3.1, a4.1, by omega, a2.1, a5⟩
theorem vote_fit {e : Eng} {a : Att} (hg : Good e) (hf : fitsR e a = 0) : fitB e.t (voteR e a).1 (voteR e a).2 e.b = true ∧ 0 ≤ (voteR e a).2 := by
  obtain ⟨hm, hv, hS, hl⟩ := fit_spec hg.fit
  obtain ⟨h0, h1⟩ := fits_val hf
  obtain ⟨k1, k2, k3⟩ := vput_may (r := a.head) (ep := a.target.epoch) hv hg.wf.o (show a.val.toNat < e.vl.length by omega)
  refine ⟨?_, k2⟩
  unfold fitB
  rw [hm, hS, show vmayB (voteR e a).1 (voteR e a).2 = true from k1, decide_eq_true (show (voteR e a).1.length = e.b.length by rw [show (voteR e a).1.length = e.vl.length from k3, hl])]
  rfl
theorem count_e (e : Eng) (b : Block) (x : Att) (c : Ask) (a : Att) (hg : Good e) (ha : a.wf) (hf : fitsR e a = 0) : CalE Tryz.prog 156 [.ptr 1 [] 0, a.av] 2 (wH e b x c) (.int .i64 (countR e a).2) (wH (countR e a).1 b x c) := by
  have hk := hg.k
  have c1 := kput_c e.k a.source a.target a.val (by omega)
  unfold countR
  by_cases h : (linkR e a).2 = 0
  · rw [if_pos h]
    have h' : (kputR e.k a.source a.target a.val).2 = 0 := h
    rw [h'] at c1
    obtain ⟨h0, h1⟩ := fits_val hf
    obtain ⟨hm, hv, hS, hl⟩ := fit_spec hg.fit
    obtain ⟨hv1, hv2⟩ := vote_fit hg hf
    obtain ⟨i, d2⟩ := vput_c e.vl e.o a.val.toNat (by omega) a.head a.target.epoch hv
    rw [Int.toNat_of_nonneg h0] at d2
    have d3 := of_c e.t e.vl (voteR e a).1 e.o (voteR e a).2 e.b hg.fit hv1
    have d4 := pass_c hg.wf.ok.b hg.fit hv1
    rw [hg.w] at d4
    have hK := kput_len h'
    have kL := kput_okL h' hg.wf.ok.kL
    have kC := kput_okC h' hg.wf.ok.kC ha.2.1 ha.2.2
    have hj := hg.j
    have hJ := moreR_len e.t (linkR e a).1 e.b e.j
    have hK2 : (linkR e a).1.length ≤ 16 := hK
    have d5 := more_T e.t (linkR e a).1 e.b e.j (by omega) hj hg.wf.ok.b kL
    have d6 := next_T e.t (linkR e a).1 e.b (moreR e.t (linkR e a).1 e.b e.j) e.fin (by omega) (by omega) hg.wf.ok.b kL kC
    exact count_w e b x c a (linkR e a).1 (voteR e a).1 (voteR e a).2 i _ _ _ _ _ c1 d2 d3 d4 ⟨enters_of Tryz.func66 (by kernel_rfl) rfl, d5⟩ ⟨enters_of Tryz.func67 (by kernel_rfl) rfl, d6⟩
  · rw [if_neg h]
    exact count_no e b x c a (linkR e a).1 (linkR e a).2 c1 (decide_eq_false h)

def waitE (e : Eng) (a : Att) : Eng := ⟨e.t, e.b, e.vl, e.o, e.w, (lputR e.late a).1, e.k, e.j, e.fin, e.now⟩
def attW (e : Eng) (a : Att) : Eng × Int := if fitsR e a ≠ 0 then (e, fitsR e a) else if a.slot < e.now then countR e a else (waitE e a, (lputR e.late a).2)
theorem att_w1 (e : Eng) (b : Block) (c : Ask) (a : Att) (i : Int) (y1 : CalE Tryz.prog 155 [.ptr 1 [] 0, a.av] 2 (wH e b a c) (.int .i64 i) (wH e b a c)) (h : decide (i = 0) = false) : CalE Tryz.prog 97 [.ptr 1 [] 0] 2 (wH e b a c) (.int .i64 i) (wH e b a c) := by
  have ff := h
  unfold wH at y1 ⊢
  have hR : Tryz.f97.results.toList = [.tmp 2] := rfl
  refine calE_tr Tryz.func97 rfl fun E hE hP => ?_
  exact mX
theorem att_w2 (e f : Eng) (b : Block) (c : Ask) (a : Att) (i : Int) (y1 : CalE Tryz.prog 155 [.ptr 1 [] 0, a.av] 2 (wH e b a c) (.int .i64 0) (wH e b a c)) (y2 : CalE Tryz.prog 156 [.ptr 1 [] 0, a.av] 2 (wH e b a c) (.int .i64 i) (wH f b a c)) (h : decide (a.slot < e.now) = true) : CalE Tryz.prog 97 [.ptr 1 [] 0] 2 (wH e b a c) (.int .i64 i) (wH f b a c) := by
  have ff := h
  unfold wH at y1 y2 ⊢
  have hR : Tryz.f97.results.toList = [.tmp 2] := rfl
  refine calE_tr Tryz.func97 rfl fun E hE hP => ?_
  exact mX
theorem att_w3 (e : Eng) (b : Block) (c : Ask) (a : Att) (y1 : CalE Tryz.prog 155 [.ptr 1 [] 0, a.av] 2 (wH e b a c) (.int .i64 0) (wH e b a c)) (h : decide (a.slot < e.now) = false) (hl : e.late.length ≤ 1000) : CalE Tryz.prog 97 [.ptr 1 [] 0] 2 (wH e b a c) (.int .i64 (lputR e.late a).2) (wH (waitE e a) b a c) := by
  have c1 := lput_c e.late a hl
  unfold waitE
  generalize lputR e.late a = X at c1 ⊢
  have ff := h
  unfold wH at y1 ⊢
  have hR : Tryz.f97.results.toList = [.tmp 2] := rfl
  refine calE_tr Tryz.func97 rfl fun E hE hP => ?_
  exact mX
theorem att_e (e : Eng) (b : Block) (c : Ask) (a : Att) (hg : Good e) (ha : a.wf) (hl : e.late.length ≤ 1000) : CalE Tryz.prog 97 [.ptr 1 [] 0] 2 (wH e b a c) (.int .i64 (attW e a).2) (wH (attW e a).1 b a c) := by
  have y1 := fits_e e b a c a
  unfold attW
  by_cases h : fitsR e a = 0
  · rw [if_neg (fun hh => hh h)]
    have y2 := count_e e b a c a hg ha h
    rw [h] at y1
    by_cases hs : a.slot < e.now
    · rw [if_pos hs]
      exact att_w2 e _ b c a _ y1 y2 (decide_eq_true hs)
    · rw [if_neg hs]
      exact att_w3 e b c a y1 (decide_eq_false hs) hl
  · rw [if_pos h]
    exact att_w1 e b c a _ y1 (decide_eq_false h)
theorem do_a0 (e f : Eng) (b : Block) (a : Att) (c : Ask) (he : e.few) (ho : e.ok) (hm : mayE e = true) (y : CalE Tryz.prog 97 [.ptr 1 [] 0] 2 (wH e b a c) (.int .i64 0) (wH f b a c)) : CalT Tryz.prog 0 tabV 68 [workA e b a c, .fn (.func 97) [] []] (.tup [f.av, .int .i64 0]) := by
  have x1 := may_t e he ho
  rw [hm] at x1
  have c1 := own_p e he
  unfold wH at y
  have hR : Tryz.f68.results.toList = [.cell 4 38, .tmp 5] := rfl
  refine calE_tr Tryz.func68 rfl fun E hE hP => ?_
  refine mr ?_
  refine mr ?_
  refine mr ?_
  refine mr ?_
  refine mC ?_
  refine mC ?_
  first | apply tr_m (by rw [hE]; rfl) | (refine Tr.seq ?_; apply tr_m (by rw [hE]; rfl))
  intro Q hQ
  simp only [go_sem, seval]
  refine mV ?_
  (refine vm_op ?_); intro r hr; simp only [go_sem, seval]
  refine call_eff (fun n => n) [false] [] rfl rfl rfl rfl (enters_of Tryz.func97 (by kernel_rfl) rfl) (y.2) rfl rfl (by repeat' (first | exact rfl | exact trivial | constructor)) rfl rfl rfl ?_
  simp only [renH_nil, renH_cons, effR, go_sem, seval]
  subst hr
  refine mV ?_
  exact hQ
  exact mX
theorem do_ai (e f : Eng) (b : Block) (a : Att) (c : Ask) (i : Int) (hi : decide (i = 0) = false) (he : e.few) (ho : e.ok) (hm : mayE e = true) (y : CalE Tryz.prog 97 [.ptr 1 [] 0] 2 (wH e b a c) (.int .i64 i) (wH f b a c)) : CalT Tryz.prog 0 tabV 68 [workA e b a c, .fn (.func 97) [] []] (.tup [e.av, .int .i64 i]) := by
  have ff := hi
  have x1 := may_t e he ho
  rw [hm] at x1
  have c1 := own_p e he
  unfold wH at y
  have hR : Tryz.f68.results.toList = [.cell 4 38, .tmp 5] := rfl
  refine calE_tr Tryz.func68 rfl fun E hE hP => ?_
  refine mr ?_
  refine mr ?_
  refine mr ?_
  refine mr ?_
  refine mC ?_
  refine mC ?_
  first | apply tr_m (by rw [hE]; rfl) | (refine Tr.seq ?_; apply tr_m (by rw [hE]; rfl))
  intro Q hQ
  simp only [go_sem, seval]
  refine mV ?_
  (refine vm_op ?_); intro r hr; simp only [go_sem, seval]
  refine call_eff (fun n => n) [false] [] rfl rfl rfl rfl (enters_of Tryz.func97 (by kernel_rfl) rfl) (y.2) rfl rfl (by repeat' (first | exact rfl | exact trivial | constructor)) rfl rfl rfl ?_
  simp only [renH_nil, renH_cons, effR, go_sem, seval]
  subst hr
  refine mV ?_
  exact hQ
  exact mX
theorem do_b0 (e f : Eng) (b : Block) (a : Att) (c : Ask) (he : e.few) (ho : e.ok) (hm : mayE e = true) (y : CalE Tryz.prog 88 [.ptr 1 [] 0] 2 (wH e b a c) (.int .i64 0) (wH f b a c)) : CalT Tryz.prog 0 tabV 68 [workA e b a c, .fn (.func 88) [] []] (.tup [f.av, .int .i64 0]) := by
  have x1 := may_t e he ho
  rw [hm] at x1
  have c1 := own_p e he
  unfold wH at y
  have hR : Tryz.f68.results.toList = [.cell 4 38, .tmp 5] := rfl
  refine calE_tr Tryz.func68 rfl fun E hE hP => ?_
  refine mr ?_
  refine mr ?_
  refine mr ?_
  refine mr ?_
  refine mC ?_
  refine mC ?_
  first | apply tr_m (by rw [hE]; rfl) | (refine Tr.seq ?_; apply tr_m (by rw [hE]; rfl))
  intro Q hQ
  simp only [go_sem, seval]
  refine mV ?_
  (refine vm_op ?_); intro r hr; simp only [go_sem, seval]
  refine call_eff (fun n => n) [false] [] rfl rfl rfl rfl (enters_of Tryz.func88 (by kernel_rfl) rfl) (y.2) rfl rfl (by repeat' (first | exact rfl | exact trivial | constructor)) rfl rfl rfl ?_
  simp only [renH_nil, renH_cons, effR, go_sem, seval]
  subst hr
  refine mV ?_
  exact hQ
  exact mX
def attE (e : Eng) (a : Att) : Eng × Int := if mayE e = false then (e, 1) else if (attW e a).2 = 0 then ((attW e a).1, 0) else (e, (attW e a).2)
theorem may_good {e : Eng} (he : e.few) (hw : e.wf) (hm : mayE e = true) : Good e := by
  obtain ⟨h1, h2, _, _⟩ := mayE_fit hm
  exact ⟨hw, h1, h2, he.k, he.j⟩
theorem do_att (e : Eng) (a : Att) (he : e.few) (hw : e.wf) (ha : a.wf) : CalT Tryz.prog 0 tabV 68 [workA e zBlock a cz0, .fn (.func 97) [] []] (.tup [(attE e a).1.av, .int .i64 (attE e a).2]) := by
  unfold attE
  cases hm : mayE e
  · rw [if_pos rfl]
    exact do_no e zBlock a cz0 97 he hw.ok hm
  · rw [if_neg (by decide)]
    have y := att_e e zBlock cz0 a (may_good he hw hm) ha (by have := he.late; omega)
    by_cases h : (attW e a).2 = 0
    · rw [if_pos h]
      rw [h] at y
      exact do_a0 e _ zBlock a cz0 he hw.ok hm y
    · rw [if_neg h]
      exact do_ai e _ zBlock a cz0 _ (decide_eq_false h) he hw.ok hm y
theorem att_t (e : Eng) (a : Att) (he : e.few) (hw : e.wf) (ha : a.wf) : CalT Tryz.prog 0 tabV 36 [e.av, a.av] (.tup [(attE e a).1.av, .int .i64 (attE e a).2]) := by
  have x1 := do_att e a he hw ha
  generalize attE e a = X at x1
  have hR : Tryz.f36.results.toList = [.cell 4 38, .tmp 5] := rfl
  refine calE_tr Tryz.func36 rfl fun E hE hP => ?_
  exact mX

def stepE (e : Eng) (a : Att) : Eng := if fitsR e a = 0 then (countR e a).1 else e
def runE (e : Eng) (l : List Att) : Eng := l.foldl stepE e
def overE (e : Eng) : Eng := ⟨e.t, e.b, e.vl, e.o, e.w, restR e.late (e.now + 1), e.k, e.j, e.fin, e.now + 1⟩
def dueE (e : Eng) : List Att := dueR e.late (e.now + 1)
def tickW (e : Eng) : Eng := runE (overE e) (dueE e)
theorem run_next {e : Eng} {l : List Att} {i : Nat} (h : i < l.length) : runE e (l.take (i + 1)) = stepE (runE e (l.take i)) l[i] := by
  unfold runE
  exact foldl_next stepE e h
set_option maxHeartbeats 1000000 in
theorem tick_w (e : Eng) (b : Block) (x : Att) (c : Ask) (hl : e.late.length ≤ 1000) (hn : decide (e.now = 1099511627776) = false) (hw : IntKind.u64.wrap (e.now + 1) = e.now + 1) (hd : ∀ a ∈ dueE e, a.wf) (hg : ∀ i, i < (dueE e).length → Good (runE (overE e) ((dueE e).take i))) : CalE Tryz.prog 88 [.ptr 1 [] 0] 2 (wH e b x c) (.int .i64 0) (wH (tickW e) b x c) := by
  have c1 := due_c e.late (e.now + 1) hl
  have hD : (dueE e).length ≤ 1000 := Nat.le_trans (List.length_filter_le _ _) hl
  have ho : overE e = ⟨e.t, e.b, e.vl, e.o, e.w, restR e.late (e.now + 1), e.k, e.j, e.fin, e.now + 1⟩ := rfl
  have hdd : dueR e.late (e.now + 1) = dueE e := rfl
  unfold tickW
  rw [hdd] at c1
  generalize dueE e = D at *
  generalize overE e = f at *
  generalize restR e.late (e.now + 1) = R at *
  have ff := And.intro hn hw
  unfold wH
  have hR : Tryz.f88.results.toList = [.tmp 2] := rfl
  refine calE_tr Tryz.func88 rfl fun E hE hP => ?_
  refine mW ?_
  refine Tr.loop (fun i : Nat => (⟨[(0, .ptr 1 [] 0), (41, .sl (D.map Att.av) false), (42, .int .i64 D.length), (43, .int .i64 i)], [(0, .tab 0 tabV), (1, .var (workA (runE f (D.take i)) b x c))], 2, []⟩ : S)) (fun i => i ≤ D.length) (fun i => D.length - i) 0 (Nat.zero_le _) ?_ ?_
  · have e0 : runE f (D.take 0) = f := rfl
    rw [e0, ho]
    refine wk_ren (fun n => n) mB mB rfl rfl rfl
  · intro i hi
    by_cases hlt : i < D.length
    · have e1 : decide ((i : Int) < (D.length : Int)) = true := decide_eq_true (by omega)
      have hn := nth_map_lt Att.av D i hlt
      have hw := wrap_next (n := i) (by omega)
      have hnx := run_next (e := f) hlt
      have g := hg i hlt
      have hwf := hd D[i] (List.getElem_mem hlt)
      generalize runE f (D.take i) = u at hnx g
      generalize D[i] = a at hn hnx hwf
      have y1 := fits_e u b x c a
      unfold wH at y1
      by_cases hf : fitsR u a = 0
      · have y2 := count_e u b x c a g hwf hf
        unfold wH at y2
        rw [stepE, if_pos hf] at hnx
        rw [hf] at y1
        generalize countR u a = X at hnx y2
        have ff := And.intro e1 (And.intro hn hw)
        refine mW ?_
        refine ⟨i + 1, hlt, by omega, ?_⟩
        rw [hnx]
        refine wk_ren (fun n => n) mB mB rfl rfl rfl
      · rw [stepE, if_neg hf] at hnx
        have e2 : decide (fitsR u a = 0) = false := decide_eq_false hf
        generalize fitsR u a = X at y1 e2
        have ff := And.intro e1 (And.intro hn (And.intro hw e2))
        refine mW ?_
        refine ⟨i + 1, hlt, by omega, ?_⟩
        rw [hnx]
        refine wk_ren (fun n => n) mB mB rfl rfl rfl
    · have e1 : decide ((i : Int) < (D.length : Int)) = false := decide_eq_false (by omega)
      have hil : i = D.length := by omega
      subst hil
      rw [List.take_length]
      have ff := e1
      exact mX

section
variable {t : List Node} {n : Node}
end
/-- Another list of what waits, and another slot. -/
def lateE (e : Eng) (l : List Att) (n : Int) : Eng := ⟨e.t, e.b, e.vl, e.o, e.w, l, e.k, e.j, e.fin, n⟩
theorem may_late {e : Eng} {l : List Att} {n : Int} (h : mayE e = true) (hl : lmayA l = true) (hn : n ≤ 1099511627776) (hs : ((nextA l).2 && decide ((nextA l).1 < n)) = false) : mayE (lateE e l n) = true := by
  simp only [mayE, fitB, Bool.and_eq_true, decide_eq_true_eq, Bool.not_eq_true'] at h ⊢
  obtain ⟨h0, h1, h2, h3, h4, h5, h6, h7, h8, h9, h10⟩ := h
  exact ⟨h0, h1, hl, h3, hn, h5, hs, h7, h8, h9, h10⟩
theorem late_fits (e : Eng) (l : List Att) (n : Int) (a : Att) : fitsR (lateE e l n) a = fitsR e a := rfl
theorem late_good {e : Eng} {l : List Att} {n : Int} (h : Good e) (hl : ∀ a ∈ l, a.wf) (hn : 0 ≤ n) : Good (lateE e l n) := ⟨⟨⟨h.wf.ok.b, h.wf.ok.kL, h.wf.ok.kC⟩, h.wf.o, hl, hn⟩, h.fit, h.w, h.k, h.j⟩
theorem tick_g (e : Eng) (he : e.few) (hw : e.wf) (hm : mayE e = true) (hn : e.now < 1099511627776) (hg : ∀ i, i < (dueE e).length → Good (runE (overE e) ((dueE e).take i))) : CalT Tryz.prog 0 tabV 37 [e.av] (.tup [(tickW e).av, .int .i64 0]) := by
  have h0 := hw.now
  have y := tick_w e zBlock zAtt cz0 (by have := he.late; omega) (decide_eq_false (by omega)) (wrapU_lt (by omega) (by omega)) (fun a ha => hw.late a (List.mem_filter.1 ha).1) hg
  have x1 := do_b0 e _ zBlock zAtt cz0 he hw.ok hm y
  generalize tickW e = f at x1
  have hR : Tryz.f37.results.toList = [.cell 2 38, .tmp 3] := rfl
  refine calE_tr Tryz.func37 rfl fun E hE hP => ?_
  exact mX
theorem count_few {e : Eng} {a : Att} (he : e.few) (h : fewE e = true) (hv : 0 ≤ a.val ∧ a.val < e.vl.length) (hm : vmayB e.vl e.o = true) (ho : 0 ≤ e.o) : (countR e a).1.few := by
  unfold countR
  split
  · next hk =>
    have h1 : (linkR e a).1.length ≤ 16 := kput_len hk
    have h2 := moreR_len e.t (linkR e a).1 e.b e.j
    have h3 := (vput_may (r := a.head) (ep := a.target.epoch) hm ho (show a.val.toNat < e.vl.length by omega)).2.2
    have h4 : e.j.length ≤ 24 := by
      simp only [fewE, Bool.and_eq_true, decide_eq_true_eq] at h
      omega
    have ht := he.t
    have hb := he.b
    have hl := he.late
    have hvl := he.vl
    exact ⟨ht, hb, by show (voteR e a).1.length ≤ 100; rw [show (voteR e a).1.length = e.vl.length from h3]; exact hvl, by show (weights _ _ _).length ≤ 100; rw [weights_len]; exact ht, hl, by show (linkR e a).1.length ≤ 40; omega, by show (moreR _ _ _ _).length ≤ 40; omega⟩
  · exact he

theorem elate_no (e : Eng) (he : fewE e = false ∨ e.ok) (a : Att) (h : fewE e = false ∨ (fewE e = true ∧ (mayE e = false ∨ (mayE e = true ∧ (0 < e.late.length ∨ (e.late.length = 0 ∧ (1099511627776 ≤ e.now ∨ (e.now < 1099511627776 ∧ a.slot ≠ e.now)))))))) : CalT Tryz.prog 0 tabV 9 [e.av, a.av] (.bool true) := by
  have x1 := awake17_t
  have c1 := few_c e
  rcases h with h | ⟨h1, h⟩
  · rw [h] at c1
    have hR : Tryz.f9.results.toList = [.tmp 4] := rfl
    refine calE_tr Tryz.func9 rfl fun E hE hP => ?_
    exact mX
  · have ho := he.resolve_left (by rw [h1]; decide)
    have x2 := may_t e (fewE_few h1) ho
    rw [h1] at c1
    rcases h with h2 | ⟨h2, h⟩
    · rw [h2] at x2
      have hR : Tryz.f9.results.toList = [.tmp 4] := rfl
      refine calE_tr Tryz.func9 rfl fun E hE hP => ?_
      exact mX
    · rw [h2] at x2
      rcases h with h3 | ⟨h3, h⟩
      · have e1 : decide ((0 : Int) < (e.late.length : Int)) = true := decide_eq_true (by omega)
        have ff := e1
        have hR : Tryz.f9.results.toList = [.tmp 4] := rfl
        refine calE_tr Tryz.func9 rfl fun E hE hP => ?_
        exact mX
      · have e1 : decide ((0 : Int) < (e.late.length : Int)) = false := decide_eq_false (by omega)
        rcases h with h4 | ⟨h4, h5⟩
        · have e2 : decide (1099511627776 ≤ e.now) = true := decide_eq_true h4
          have ff := And.intro e1 e2
          have hR : Tryz.f9.results.toList = [.tmp 4] := rfl
          refine calE_tr Tryz.func9 rfl fun E hE hP => ?_
          exact mX
        · have e2 : decide (1099511627776 ≤ e.now) = false := decide_eq_false (by omega)
          have e3 : decide (a.slot = e.now) = false := decide_eq_false h5
          have ff := And.intro e1 (And.intro e2 e3)
          have hR : Tryz.f9.results.toList = [.tmp 4] := rfl
          refine calE_tr Tryz.func9 rfl fun E hE hP => ?_
          exact mX
theorem elate_e (e : Eng) (he : e.few) (a : Att) (i : Int) (h1 : decide ((0 : Int) < (e.late.length : Int)) = false) (h2 : decide (1099511627776 ≤ e.now) = false) (h3 : decide (a.slot = e.now) = true) (c1 : Cal Tryz.prog 14 [e.av] (.bool true)) (x2 : CalT Tryz.prog 0 tabV 24 [e.av] (.bool true)) (x3 : CalT Tryz.prog 0 tabV 36 [e.av, a.av] (.tup [e.av, .int .i64 i])) (hi : decide (i = 0) = false) : CalT Tryz.prog 0 tabV 9 [e.av, a.av] (.bool true) := by
  have x1 := awake17_t
  have c2 := esame_c e he
  have ff := And.intro h1 (And.intro h2 (And.intro h3 hi))
  have hR : Tryz.f9.results.toList = [.tmp 4] := rfl
  refine calE_tr Tryz.func9 rfl fun E hE hP => ?_
  exact mX
set_option maxHeartbeats 2000000 in
theorem elate_w (e f u v : Eng) (a : Att) (i : Int) (h1 : decide ((0 : Int) < (e.late.length : Int)) = false) (h2 : decide (1099511627776 ≤ e.now) = false) (h3 : decide (a.slot = e.now) = true) (hf : f = lateE e [a] e.now) (hl : e.late = []) (c1 : Cal Tryz.prog 14 [e.av] (.bool true)) (x2 : CalT Tryz.prog 0 tabV 24 [e.av] (.bool true)) (x3 : CalT Tryz.prog 0 tabV 36 [e.av, a.av] (.tup [f.av, .int .i64 0]))
    (x4 : CalT Tryz.prog 0 tabV 37 [f.av] (.tup [v.av, .int .i64 0])) (x5 : CalT Tryz.prog 0 tabV 37 [e.av] (.tup [u.av, .int .i64 0])) (x6 : CalT Tryz.prog 0 tabV 36 [u.av, a.av] (.tup [v.av, .int .i64 i])) (hi : i = 0 ∨ u = v) (c2 : Cal Tryz.prog 33 [e.av, e.av] (.bool true)) (c3 : Cal Tryz.prog 33 [v.av, v.av] (.bool true)) : CalT Tryz.prog 0 tabV 9 [e.av, a.av] (.bool true) := by
  have x1 := awake17_t
  obtain ⟨t, bl, vl, o, w, late, k, j, fin, now⟩ := e
  simp only at hl
  subst hl
  by_cases h0 : i = 0
  · subst h0
    subst hf
    unfold lateE at x3 x4
    have ff := And.intro h1 (And.intro h2 h3)
    have hR : Tryz.f9.results.toList = [.tmp 4] := rfl
    refine calE_tr Tryz.func9 rfl fun E hE hP => ?_
    exact mX
  · have e4 : decide (i = 0) = false := decide_eq_false h0
    have hu := hi.resolve_left h0
    subst hu
    subst hf
    unfold lateE at x3 x4
    have ff := And.intro h1 (And.intro h2 (And.intro h3 e4))
    have hR : Tryz.f9.results.toList = [.tmp 4] := rfl
    refine calE_tr Tryz.func9 rfl fun E hE hP => ?_
    exact mX
theorem elate_t (e : Eng) (hw : e.wf) (a : Att) (ha : a.wf) : CalT Tryz.prog 0 tabV 9 [e.av, a.av] (.bool true) := by
  cases h1 : fewE e
  · exact elate_no e (.inl h1) a (.inl h1)
  cases h2 : mayE e
  · exact elate_no e (.inr hw.ok) a (.inr ⟨h1, .inl h2⟩)
  by_cases h3 : 0 < e.late.length
  · exact elate_no e (.inr hw.ok) a (.inr ⟨h1, .inr ⟨h2, .inl h3⟩⟩)
  by_cases h4 : 1099511627776 ≤ e.now
  · exact elate_no e (.inr hw.ok) a (.inr ⟨h1, .inr ⟨h2, .inr ⟨by omega, .inl h4⟩⟩⟩)
  by_cases h5 : a.slot ≠ e.now
  · exact elate_no e (.inr hw.ok) a (.inr ⟨h1, .inr ⟨h2, .inr ⟨by omega, .inr ⟨by omega, h5⟩⟩⟩⟩)
  rw [ne_eq, Decidable.not_not] at h5
  have hl : e.late = [] := List.eq_nil_of_length_eq_zero (by omega)
  have he := fewE_few h1
  have hn0 := hw.now
  have g := may_good he hw h2
  have c1 := few_c e
  rw [h1] at c1
  have x2 := may_t e he hw.ok
  rw [h2] at x2
  have x3 := att_t e a he hw ha
  by_cases hf : fitsR e a ≠ 0
  · have ea : attE e a = (e, fitsR e a) := by
      have ew : attW e a = (e, fitsR e a) := by rw [attW, if_pos hf]
      rw [attE, h2, if_neg (by decide), ew, if_neg hf]
    rw [ea] at x3
    exact elate_e e he a (fitsR e a) (decide_eq_false (by omega)) (decide_eq_false h4) (decide_eq_true h5) c1 x2 x3 (decide_eq_false hf)
  rw [ne_eq, Decidable.not_not] at hf
  have hlp : lputR e.late a = ([a], 0) := by
    have hfar : isFar a = false := decide_eq_false (by omega)
    rw [hl, lputR, hfar, if_neg (by decide)]
    rfl
  have ea : attE e a = (lateE e [a] e.now, 0) := by
    have ew : attW e a = (lateE e [a] e.now, 0) := by
      rw [attW, if_neg (fun h => h hf), if_neg (by omega), waitE, hlp]
      rfl
    rw [attE, h2, if_neg (by decide), ew, if_pos rfl]
  rw [ea] at x3
  have mf : mayE (lateE e [a] e.now) = true := by
    refine may_late h2 ?_ (by omega) ?_
    · unfold lmayA
      have hfar : isFar a = false := decide_eq_false (by omega)
      rw [List.any_cons, hfar]
      rfl
    · have hn : nextA [a] = (a.slot, true) := by simp [nextA, least]
      rw [hn]
      show (true && decide (a.slot < e.now)) = false
      rw [decide_eq_false (by omega)]
      rfl
  have mu : mayE (lateE e [] (e.now + 1)) = true := may_late h2 rfl (by omega) rfl
  have fu : (lateE e [] (e.now + 1)).few := ⟨he.t, he.b, he.vl, he.w, by show 0 ≤ 100; omega, he.k, he.j⟩
  have ff : (lateE e [a] e.now).few := ⟨he.t, he.b, he.vl, he.w, by show 1 ≤ 100; omega, he.k, he.j⟩
  have gu : Good (lateE e [] (e.now + 1)) := late_good g (fun a ha => (by cases ha)) (by omega)
  have gf : Good (lateE e [a] e.now) := late_good g (fun x hx => by rw [List.mem_singleton.1 hx]; exact ha) hn0
  have dB : dueB (e.now + 1) a = true := decide_eq_true (by omega)
  have du : dueE (lateE e [a] e.now) = [a] := by
    show List.filter (dueB (e.now + 1)) [a] = [a]
    rw [List.filter_cons, dB]
    rfl
  have ov : overE (lateE e [a] e.now) = lateE e [] (e.now + 1) := by
    have : restR [a] (e.now + 1) = [] := by
      unfold restR
      rw [List.filter_cons, dB]
      rfl
    show (⟨e.t, e.b, e.vl, e.o, e.w, restR [a] (e.now + 1), e.k, e.j, e.fin, e.now + 1⟩ : Eng) = _
    rw [this]
    rfl
  have x4 := tick_g (lateE e [a] e.now) ff gf.wf mf (by show e.now < _; omega) (fun i hi => by
    rw [du] at hi
    have : i = 0 := by simp at hi; omega
    subst this
    rw [ov]
    exact gu)
  have tw : tickW (lateE e [a] e.now) = (countR (lateE e [] (e.now + 1)) a).1 := by
    rw [tickW, du, ov]
    show stepE (lateE e [] (e.now + 1)) a = _
    rw [stepE, late_fits, if_pos hf]
  rw [tw] at x4
  have x5 := tick_t e he hw.ok h2 hl (decide_eq_false (by omega)) (wrapU_lt (by omega) (by omega))
  have tu : tickE e = lateE e [] (e.now + 1) := rfl
  rw [tu] at x5
  have x6 := att_t (lateE e [] (e.now + 1)) a fu gu.wf ha
  have c2 := esame_c e he
  obtain ⟨hm, hv, hS, hlen⟩ := fit_spec g.fit
  have hval := fits_val hf
  have c3 := esame_c (countR (lateE e [] (e.now + 1)) a).1 (count_few fu (by
    simp only [fewE, Bool.and_eq_true, decide_eq_true_eq] at h1 ⊢
    exact ⟨h1.1, h1.2.1, h1.2.2.1, h1.2.2.2.1, by show 0 ≤ 10; omega, h1.2.2.2.2.2.1, h1.2.2.2.2.2.2⟩) (by show 0 ≤ a.val ∧ a.val < (e.vl.length : Int); omega) hv hw.o)
  have aw : attW (lateE e [] (e.now + 1)) a = countR (lateE e [] (e.now + 1)) a := by
    rw [attW, if_neg (fun h => h (by rw [late_fits]; exact hf)), if_pos (show a.slot < (lateE e [] (e.now + 1)).now from (by show a.slot < e.now + 1; omega))]
  have ae : attE (lateE e [] (e.now + 1)) a = countR (lateE e [] (e.now + 1)) a := by
    rw [attE, mu, if_neg (by decide), aw]
    unfold countR
    split
    · rfl
    · rfl
  rw [ae] at x6
  have hi : (countR (lateE e [] (e.now + 1)) a).2 = 0 ∨ lateE e [] (e.now + 1) = (countR (lateE e [] (e.now + 1)) a).1 := by
    unfold countR
    split
    · exact .inl rfl
    · exact .inr rfl
  exact elate_w e _ _ _ a _ (decide_eq_false (by omega)) (decide_eq_false h4) (decide_eq_true h5) rfl hl c1 x2 x3 x4 x5 x6 hi c2 c3
end Go.Proofs.YtgnidooihignfaaGreatDoor

/- Which blocks may be a head: children, leaves. -/
import Derived.Test.YtgnidooihignfaaGreatDoorP5
set_option linter.unusedSimpArgs false
set_option maxRecDepth 10000
namespace Go.Proofs.YtgnidooihignfaaGreatDoor
open Go Go.Ab

theorem tsame_c (t k : List Node) (hl : t.length ≤ 1000) : Cal Tryz.prog 55 [tav t, tav k] (.bool (decide (t = k))) := by
  have c1 := nequal_c t k hl
  have hR : Tryz.f55.results.toList = [.tmp 4] := rfl
  refine cal_tr Tryz.func55 rfl fun E hE hP => ?_
  exact mX
def bools (l : List Bool) : AV := .sl (l.map AV.bool) false
attribute [go_sem] bools
def slotI (t : List Node) (a : Int) : Int := (t.getD a.toNat zNode).slot
def atN (t : List Node) (s : Int) : Nat → Int → Int
  | 0, _ => -1
  | n + 1, a => if a = -1 then -1 else if slotI t a ≤ s then a else atN t s n (parI t a)
def atF (t : List Node) (s a : Int) : Int := atN t s (a + 1).toNat a
def atR (t : List Node) (i s : Int) : Int := if isB t [i] then atF t s i else -1
structure Snap where
  ver : Int
  t : List Node
  head : Root
  just : Check
  fin : Check
  deriving DecidableEq
def Snap.av (s : Snap) : AV := .st [.int .i64 s.ver, tav s.t, .root s.head, s.just.av, s.fin.av]
attribute [go_sem] Snap.av
structure Ask where
  kind : Int
  vals : List UInt8
  a : Root
  b : Root
  slot : Int
  deriving DecidableEq
def Ask.av (c : Ask) : AV := .st [.int .i64 c.kind, .sl (c.vals.map bav) false, .root c.a, .root c.b, .int .u64 c.slot]
attribute [go_sem] Ask.av

@[go_sem] theorem sbuild51_0 (e : Int) (K : AV → Prop) : buildK Tryz.prog 51 [(0, .int .i64 e)] K = K (Resp.mk e zroot false ⟨0, zroot⟩).av := build_struct Tryz.underlying51 stZero51 rfl (by kernel_rfl) rfl K
@[go_sem] theorem sbuild51_1 (r : Root) (K : AV → Prop) : buildK Tryz.prog 51 [(1, .root r)] K = K (Resp.mk 0 r false ⟨0, zroot⟩).av := build_struct Tryz.underlying51 stZero51 rfl (by kernel_rfl) rfl K
@[go_sem] theorem sbuild51_2 (b : Bool) (K : AV → Prop) : buildK Tryz.prog 51 [(2, .bool b)] K = K (Resp.mk 0 zroot b ⟨0, zroot⟩).av := build_struct Tryz.underlying51 stZero51 rfl (by kernel_rfl) rfl K
@[go_sem] theorem sbuild51_3 (c : Check) (K : AV → Prop) : buildK Tryz.prog 51 [(3, c.av)] K = K (Resp.mk 0 zroot false c).av := build_struct Tryz.underlying51 stZero51 rfl (by kernel_rfl) rfl K
theorem fits3 (k : Int) : fits Tryz.prog (.int .i64 k) 3 = true := by kernel_rfl
theorem mayE_fit {e : Eng} (h : mayE e = true) : fitB e.t e.vl e.o e.b = true ∧ weights e.t e.vl e.b = e.w ∧ e.fin ∈ e.j ∧ (rootsL e).any (lostB e) = false := by
  simp only [mayE, Bool.and_eq_true, decide_eq_true_eq, Bool.not_eq_true'] at h
  exact ⟨h.1, h.2.1, h.2.2.2.2.2.1, h.2.2.2.2.2.2.2.1⟩
theorem weights_len (t : List Node) (vl : List Latest) (b : List Int) : (weights t vl b).length = t.length := by
  unfold weights subW ownW
  rw [subTo_len, votTo_len]
theorem mayB_of {e : Eng} (h : mayE e = true) : mayB e.t = true := (fit_spec (mayE_fit h).1).1
@[go_sem] theorem sbuild24m (o sz n : Nat) (K : AV → Prop) : buildK Tryz.prog 24 [(0, .ms o sz n)] K = K (.st [.ms o sz n]) := build_struct Tryz.underlying24 tZero47 rfl (by kernel_rfl) rfl K
@[go_sem] theorem sfv51_0 (a : Resp) (K : AV → Prop) : fieldK Tryz.prog 51 a.av 0 K = K (.int .i64 a.e) := by simp only [fieldK, stField51_0]; exact propext ⟨fun h => h.2.2.2, fun h => ⟨rfl, rfl, rfl, h⟩⟩
@[go_sem] theorem sfv51_1 (a : Resp) (K : AV → Prop) : fieldK Tryz.prog 51 a.av 1 K = K (.root a.r) := by simp only [fieldK, stField51_1]; exact propext ⟨fun h => h.2.2.2, fun h => ⟨rfl, rfl, rfl, h⟩⟩
@[go_sem] theorem sfv51_2 (a : Resp) (K : AV → Prop) : fieldK Tryz.prog 51 a.av 2 K = K (.bool a.is) := by simp only [fieldK, stField51_2]; exact propext ⟨fun h => h.2.2.2, fun h => ⟨rfl, rfl, rfl, h⟩⟩
@[go_sem] theorem sfv54_0 (a : Note) (K : AV → Prop) : fieldK Tryz.prog 54 a.av 0 K = K (.int .i64 a.ver) := by simp only [fieldK, stField54_0]; exact propext ⟨fun h => h.2.2.2, fun h => ⟨rfl, rfl, rfl, h⟩⟩
def rootN (n : Int) : Root := rootSet zroot 0 n
theorem build34 (n : Int) (h0 : 0 ≤ n) (h1 : n < 256) (K : AV → Prop) : buildK Tryz.prog 34 [(0, .int .u8 n)] K = K (.root (rootN n)) := by
  simp [buildK, Tryz.underlying34, tZero23, tSize5, h0, h1, rootN]
@[go_sem] theorem build34_1 (K : AV → Prop) : buildK Tryz.prog 34 [(0, .int .u8 1)] K = K (.root (rootN 1)) := build34 1 (by decide) (by decide) K
def e0 : Eng := newE (rootN 1) [1]
def s0 : Snap := ⟨3, one (rootN 1), rootN 1, ⟨0, rootN 1⟩, ⟨0, rootN 1⟩⟩
def c0 : Ask := ⟨5, [], zroot, zroot, 0⟩
theorem getD_lt {t : List Node} {k : Nat} (hk : k < t.length) : t.getD k zNode = t[k] := by simp [List.getD_eq_getElem?_getD, hk]
theorem find_self {t : List Node} (hm : mayB t = true) {k : Nat} (hk : k < t.length) : findR t (t.getD k zNode).root = k := by
  have hn := may_once hm
  rw [findR, if_pos hm, getD_lt hk]
  refine findI_at hk (fun j hj => ?_) ?_
  · unfold isR
    rw [decide_eq_false_iff_not]
    intro he
    have := List.pairwise_iff_getElem.1 hn j k (by rw [List.length_map]; omega) (by rw [List.length_map]; omega) hj
    rw [List.getElem_map, List.getElem_map] at this
    exact this he
  · unfold isR
    exact decide_eq_true rfl
theorem isB_one {t : List Node} (hm : mayB t = true) {k : Nat} (hk : k < t.length) : isB t [(k : Int)] = true := by
  have h := above_self (i := (k : Int)) hm (by omega) (by omega)
  unfold aboveR at h
  rw [isB_two] at h
  simp only [Bool.and_eq_true] at h
  exact h.1.1
theorem getD_app {t : List Node} {n : Node} {k : Nat} (h : k < t.length) : (t ++ [n]).getD k zNode = t.getD k zNode := by
  rw [List.getD_eq_getElem?_getD, List.getD_eq_getElem?_getD, List.getElem?_append_left h]
theorem getD_last {t : List Node} {n : Node} : (t ++ [n]).getD t.length zNode = n := by
  rw [List.getD_eq_getElem?_getD, List.getElem?_append_right (Nat.le_refl _)]
  simp
theorem mayT_spec {t : List Node} : mayB t = true ↔ (1 ≤ t.length ∧ t.length ≤ 12) ∧ (∀ k, k < t.length → fitsB t k = true) ∧ (t.map Node.root).Nodup := by
  unfold mayB onceB
  simp only [Bool.and_eq_true, decide_eq_true_eq, List.all_eq_true, List.mem_range]
  exact ⟨fun h => ⟨h.1.1, h.1.2, h.2⟩, fun h => ⟨⟨h.1, h.2.1⟩, h.2.2⟩⟩
theorem fits_at {t : List Node} {k : Nat} (h : k < t.length) : fitsB t k = if k = 0 then decide ((t.getD k zNode).parent = -1) && decide ((t.getD k zNode).slot ≤ 1099511627776)
    else decide (0 ≤ (t.getD k zNode).parent) && decide ((t.getD k zNode).parent < k) && decide ((t.getD k zNode).slot ≤ 1099511627776) && decide ((t.getD (t.getD k zNode).parent.toNat zNode).slot < (t.getD k zNode).slot) := by
  unfold fitsB
  rw [List.getElem?_eq_getElem h, getD_lt h]
/-- A node that may be put. -/
def canB (t : List Node) (n : Node) : Prop := mayB t = true ∧ t.length < 12 ∧ n.root ∉ t.map Node.root ∧ (0 ≤ n.parent ∧ n.parent < t.length) ∧ n.slot ≤ 1099511627776 ∧ (t.getD n.parent.toNat zNode).slot < n.slot
theorem can_may {t : List Node} {n : Node} (h : canB t n) : mayB (t ++ [n]) = true := by
  obtain ⟨hm, hl, hr, ⟨hp0, hp1⟩, hs, hsl⟩ := h
  obtain ⟨h1, h2, h3⟩ := mayT_spec.1 hm
  refine mayT_spec.2 ⟨by rw [List.length_append, List.length_singleton]; omega, fun k hk => ?_, ?_⟩
  · rw [List.length_append, List.length_singleton] at hk
    by_cases hkt : k < t.length
    · have := h2 k hkt
      rw [fits_at hkt] at this
      rw [fits_at (by rw [List.length_append]; omega), getD_app hkt]
      by_cases h0 : k = 0
      · rw [if_pos h0] at this ⊢; exact this
      · rw [if_neg h0] at this ⊢
        have hlt : (t.getD k zNode).parent < k ∧ 0 ≤ (t.getD k zNode).parent := by
          simp only [Bool.and_eq_true, decide_eq_true_eq] at this
          exact ⟨this.1.1.2, this.1.1.1⟩
        rw [getD_app (by omega)]
        exact this
    · have hkl : k = t.length := by omega
      subst hkl
      rw [fits_at (by rw [List.length_append, List.length_singleton]; omega), getD_last, if_neg (by omega), getD_app (by omega), decide_eq_true hp0, decide_eq_true hp1, decide_eq_true hs, decide_eq_true hsl]
      rfl
  · rw [List.map_append, List.map_cons, List.map_nil]
    refine List.nodup_append.2 ⟨h3, List.nodup_cons.2 ⟨List.not_mem_nil, List.nodup_nil⟩, fun a ha b hb => ?_⟩
    rw [List.mem_singleton] at hb
    subst hb
    intro he
    subst he
    exact hr ha
theorem findI_app (t : List Node) (n : Node) (r : Root) : findI (t ++ [n]) r = if 0 ≤ findI t r then findI t r else if n.root = r then t.length else -1 := by
  unfold findI
  rw [List.findIdx?_append]
  cases h : t.findIdx? (isR r) with
  | some i => simp
  | none =>
    by_cases hn : n.root = r
    · simp [isR, hn, List.findIdx?_cons]
    · simp [isR, hn, List.findIdx?_cons]
theorem find_mem {t : List Node} (hm : mayB t = true) {r : Root} : 0 ≤ findR t r ↔ r ∈ t.map Node.root := by
  constructor
  · intro h
    have hr := (findR_range t r).resolve_left (by omega)
    have h2 : ((t.getD (findR t r).toNat zNode).root) = r := by
      unfold findR at h ⊢
      rw [if_pos hm] at h ⊢
      unfold findI at h ⊢
      cases hf : t.findIdx? (isR r) with
      | none => rw [hf] at h; simp only at h; omega
      | some i =>
        simp only [Int.toNat_natCast]
        obtain ⟨hi, hr, _⟩ := List.findIdx?_eq_some_iff_getElem.1 hf
        rw [getD_lt hi]
        exact of_decide_eq_true hr
    rw [← h2, getD_lt (by omega)]
    exact List.mem_map.2 ⟨_, List.getElem_mem _, rfl⟩
  · intro h
    obtain ⟨x, hx, rfl⟩ := List.mem_map.1 h
    obtain ⟨k, hk, rfl⟩ := List.mem_iff_getElem.1 hx
    have := find_self hm hk
    rw [getD_lt hk] at this
    omega
section
variable {t : List Node} {n : Node}
theorem find_app (h : canB t n) (r : Root) : findR (t ++ [n]) r = if n.root = r then (t.length : Int) else findR t r := by
  have hm := can_may h
  rw [findR, if_pos hm, findI_app]
  by_cases hr : n.root = r
  · subst hr
    have : ¬ 0 ≤ findR t n.root := fun h0 => h.2.2.1 ((find_mem h.1).1 h0)
    unfold findR at this
    rw [if_pos h.1] at this
    rw [if_neg this, if_pos rfl, if_pos rfl]
  · rw [if_neg hr, if_neg hr]
    unfold findR
    rw [if_pos h.1]
    rcases findI_range t r with h2 | h2
    · rw [h2]; rfl
    · rw [if_pos h2.1]
theorem par_app {a : Int} (h0 : 0 ≤ a) (h1 : a < t.length) : parI (t ++ [n]) a = parI t a := by
  unfold parI
  rw [getD_app (by omega)]
theorem aboveN_app (hm : mayB t = true) (i : Int) : ∀ (m : Nat) (a : Int), (a = -1 ∨ (0 ≤ a ∧ a < t.length)) → aboveN (t ++ [n]) i m a = aboveN t i m a
  | 0, _, _ => rfl
  | m + 1, a, h => by
    simp only [aboveN]
    split
    · rfl
    · rename_i h1
      have h2 := h.resolve_left h1
      split
      · rfl
      · split
        · rfl
        · rw [par_app h2.1 h2.2, aboveN_app hm i m]
          rcases par_range hm h2.1 h2.2 with h3 | h3
          · exact .inl h3
          · exact .inr ⟨h3.1, by omega⟩
theorem isB_in {t : List Node} (hm : mayB t = true) {i k : Int} : isB t [i, k] = (decide (0 ≤ i ∧ i < t.length) && decide (0 ≤ k ∧ k < t.length)) := by
  unfold isB
  rw [hm, Bool.true_and]
  have e : ∀ x : Int, badI t x = !decide (0 ≤ x ∧ x < t.length) := fun x => by
    unfold badI
    by_cases h1 : x < 0 <;> by_cases h2 : (t.length : Int) ≤ x <;> simp [h1, h2] <;> omega
  simp only [List.any_cons, List.any_nil, Bool.or_false, e, Bool.not_or, Bool.not_not]
theorem above_app (h : canB t n) {i k : Int} (hi : i < t.length) (hk : k < t.length) : aboveR (t ++ [n]) i k = aboveR t i k := by
  have hm := can_may h
  unfold aboveR
  rw [isB_in hm, isB_in h.1, List.length_append, List.length_singleton]
  by_cases h0 : 0 ≤ i
  · by_cases h1 : 0 ≤ k
    · rw [decide_eq_true (show 0 ≤ i ∧ i < ((t.length + 1 : Nat) : Int) by omega), decide_eq_true (show 0 ≤ k ∧ k < ((t.length + 1 : Nat) : Int) by omega), decide_eq_true (show 0 ≤ i ∧ i < (t.length : Int) by omega), decide_eq_true (show 0 ≤ k ∧ k < (t.length : Int) by omega)]
      congr 1
      exact aboveN_app h.1 i _ k (.inr ⟨h1, hk⟩)
    · have e1 : ∀ L : Nat, decide (0 ≤ k ∧ k < (L : Int)) = false := fun L => decide_eq_false fun hh => h1 hh.1
      rw [e1 (t.length + 1), e1 t.length, Bool.and_false, Bool.and_false, Bool.false_and, Bool.false_and]
  · have e1 : ∀ L : Nat, decide (0 ≤ i ∧ i < (L : Int)) = false := fun L => decide_eq_false fun hh => h0 hh.1
    rw [e1 (t.length + 1), e1 t.length, Bool.false_and, Bool.false_and, Bool.false_and, Bool.false_and]
theorem behind_app (h : canB t n) {c f : Check} (hc : n.root ≠ c.root) (hf : n.root ≠ f.root) : behindB (t ++ [n]) c f = behindB t c f := by
  unfold behindB
  rw [find_app h, find_app h, if_neg hc, if_neg hf]
  have h1 := findR_range t c.root
  have h2 := findR_range t f.root
  have hl := may_len h.1
  exact above_app h (by omega) (by omega)
theorem count_app (h : canB t n) {b : List Int} {a : Link} (hs : n.root ≠ a.s.root) (ht : n.root ≠ a.t.root) : countB (t ++ [n]) b a = countB t b a := by
  unfold countB
  rw [behind_app h ht hs]
theorem told_app (h : canB t n) (l : List Link) (b : List Int) : toldR (t ++ [n]) l b = toldR t l b := by
  unfold toldR
  rw [can_may h, h.1]
theorem countL_app (h : canB t n) {l : List Link} (hl : ∀ a ∈ l, n.root ≠ a.s.root ∧ n.root ≠ a.t.root) (b : List Int) : countL (t ++ [n]) l b = countL t l b := by
  unfold countL
  rw [told_app h]
  split
  · exact List.filter_congr fun a ha => count_app h (hl a ha).1 (hl a ha).2
  · rfl
theorem foldl_next_app (h : canB t n) (fin : Check) (hf : n.root ≠ fin.root) : ∀ (js : List Check) (c : Check), (∀ x ∈ js, n.root ≠ x.root) → js.foldl (nextS (t ++ [n]) fin) c = js.foldl (nextS t fin) c
  | [], _, _ => rfl
  | d :: js, c, hj => by
    rw [List.foldl_cons, List.foldl_cons]
    have e : nextS (t ++ [n]) fin c d = nextS t fin c d := by
      unfold nextS
      rw [behind_app h (hj d (by simp)) hf]
    rw [e]
    exact foldl_next_app h fin hf js _ fun x hx => hj x (by simp [hx])
theorem addAt_app (l : List Int) (k : Nat) (x : Int) (hk : k < l.length) : addAt (l ++ [0]) k x = addAt l k x ++ [0] := by
  unfold addAt
  rw [List.set_append_left _ _ hk, List.getD_eq_getElem?_getD, List.getD_eq_getElem?_getD, List.getElem?_append_left hk]
theorem votTo_app (h : canB t n) (vl : List Latest) (b : List Int) (hv : ∀ i, i < vl.length → (vl.getD i zLatest).has = true → n.root ≠ (vl.getD i zLatest).root) : ∀ i, i ≤ vl.length → votTo (t ++ [n]) vl [] b i = votTo t vl [] b i ++ [0]
  | 0, _ => by
    simp only [votTo, List.length_append, List.length_singleton]
    rw [List.replicate_succ', ]
  | i + 1, hi => by
    have ih := votTo_app h vl b hv i (by omega)
    have hlen := votTo_len t vl [] b i
    rw [votTo, votTo, ih]
    unfold votS
    split
    · rfl
    · rename_i hs
      have hh : (vl.getD i zLatest).has = true := by
        unfold skipB at hs
        cases hq : (vl.getD i zLatest).has
        · rw [hq] at hs; simp at hs
        · rfl
      rw [find_app h, if_neg (hv i (by omega) hh)]
      split
      · rfl
      · have hr := findR_range t (vl.getD i zLatest).root
        rw [addAt_app _ _ _ (by rw [hlen]; omega)]
theorem upW_app (h : canB t n) (w : List Int) (hw : w.length = t.length) {i : Nat} (hi : i < t.length) : upW (t ++ [n]) (w ++ [0]) i = upW t w i ++ [0] := by
  have hp := par_range h.1 (a := (i : Int)) (by omega) (by omega)
  unfold upW
  rw [par_app (by omega) (by omega)]
  split
  · rfl
  · rw [List.set_append_left _ _ (by omega), List.getD_eq_getElem?_getD, List.getD_eq_getElem?_getD, List.getD_eq_getElem?_getD, List.getD_eq_getElem?_getD, List.getElem?_append_left (by omega), List.getElem?_append_left (by omega)]
theorem upW_last (h : canB t n) (w : List Int) (hw : w.length = t.length) : upW (t ++ [n]) (w ++ [0]) t.length = w ++ [0] := by
  have hpar : parI (t ++ [n]) (t.length : Int) = n.parent := by
    unfold parI
    rw [Int.toNat_natCast, getD_last]
  obtain ⟨_, _, _, ⟨h0, h1⟩, _⟩ := h
  unfold upW
  rw [hpar, if_neg (by omega)]
  have e0 : (w ++ [0]).getD t.length 0 = 0 := by
    rw [List.getD_eq_getElem?_getD, ← hw, List.getElem?_append_right (Nat.le_refl _)]
    simp
  rw [e0, Int.add_zero]
  refine List.ext_getElem (by rw [List.length_set]) fun j hj hj2 => ?_
  rw [List.getElem_set]
  split
  · rename_i he
    subst he
    rw [List.getD_eq_getElem?_getD, List.getElem?_eq_getElem hj2]
    rfl
  · rfl
theorem subTo_app (h : canB t n) (w : List Int) (hw : w.length = t.length) : ∀ m, m ≤ t.length → subTo (t ++ [n]) (w ++ [0]) (m + 1) = subTo t w m ++ [0]
  | 0, _ => by
    rw [subTo, subTo, subTo, List.length_append, List.length_singleton]
    rw [show t.length + 1 - 1 - 0 = t.length by omega]
    exact upW_last h w hw
  | m + 1, hm => by
    rw [subTo, subTo_app h w hw m (by omega), subTo, List.length_append, List.length_singleton, show t.length + 1 - 1 - (m + 1) = t.length - 1 - m by omega]
    exact upW_app h _ (by rw [subTo_len]; exact hw) (by omega)
theorem weights_app (h : canB t n) (vl : List Latest) (b : List Int) (hv : ∀ i, i < vl.length → (vl.getD i zLatest).has = true → n.root ≠ (vl.getD i zLatest).root) : weights (t ++ [n]) vl b = weights t vl b ++ [0] := by
  unfold weights ownW subW
  rw [votTo_app h vl b hv _ (Nat.le_refl _), List.length_append, List.length_singleton]
  exact subTo_app h _ (votTo_len t vl [] b vl.length) t.length (Nat.le_refl _)
end

/-- What may be stays so when a block is put. -/
def putE (e : Eng) (n : Node) : Eng := ⟨e.t ++ [n], e.b, e.vl, e.o, e.w ++ [0], e.late, e.k, e.j, e.fin, e.now⟩
theorem roots_found {e : Eng} (h : mayE e = true) : ∀ r ∈ rootsL e, r ∈ e.t.map Node.root := fun r hr => by
  have h1 := (mayE_fit h).2.2.2
  rw [List.any_eq_false] at h1
  have h2 := h1 r hr
  refine (find_mem (mayB_of h)).1 ?_
  unfold lostB at h2
  simp only [decide_eq_true_eq] at h2
  omega
theorem other_roots {e : Eng} {n : Node} (h : mayE e = true) (hc : canB e.t n) : (∀ c ∈ e.j, n.root ≠ c.root) ∧ (∀ a ∈ e.k, n.root ≠ a.s.root ∧ n.root ≠ a.t.root) ∧ (∀ i, i < e.vl.length → (e.vl.getD i zLatest).has = true → n.root ≠ (e.vl.getD i zLatest).root) ∧ n.root ≠ e.fin.root := by
  have hr := roots_found h
  have key : ∀ r ∈ rootsL e, n.root ≠ r := fun r hr2 he => hc.2.2.1 (by rw [he]; exact hr r hr2)
  have hj : ∀ c ∈ e.j, n.root ≠ c.root := fun c hcj => key _ (List.mem_append.2 (.inl (List.mem_append.2 (.inl (List.mem_map.2 ⟨c, hcj, rfl⟩)))))
  refine ⟨hj, fun a ha => ⟨key _ ?_, key _ ?_⟩, fun i hi hh => key _ ?_, hj _ (mayE_fit h).2.2.1⟩
  · exact List.mem_append.2 (.inl (List.mem_append.2 (.inr (List.mem_flatMap.2 ⟨a, ha, by simp⟩))))
  · exact List.mem_append.2 (.inl (List.mem_append.2 (.inr (List.mem_flatMap.2 ⟨a, ha, by simp⟩))))
  · refine List.mem_append.2 (.inr (List.mem_map.2 ⟨e.vl.getD i zLatest, List.mem_filter.2 ⟨?_, hh⟩, rfl⟩))
    rw [List.getD_eq_getElem?_getD, List.getElem?_eq_getElem hi]
    exact List.getElem_mem hi
theorem may_put {e : Eng} {n : Node} (h : mayE e = true) (hc : canB e.t n) : mayE (putE e n) = true := by
  obtain ⟨hj, hk, hv, hf⟩ := other_roots h hc
  have hm := can_may hc
  have h0 := h
  have hlost : ∀ r ∈ rootsL e, lostB (putE e n) r = false := fun r hr => by
    have h1 := roots_found h r hr
    unfold lostB
    have h2 := (find_mem hc.1).2 h1
    have : n.root ≠ r := fun he => hc.2.2.1 (by rw [he]; exact h1)
    show decide (findR (e.t ++ [n]) r < 0) = false
    rw [find_app hc, if_neg this]
    exact decide_eq_false (by omega)
  have hcl := countL_app hc hk e.b
  simp only [mayE, fitB, Bool.and_eq_true, decide_eq_true_eq, Bool.not_eq_true'] at h ⊢
  obtain ⟨⟨_, h1⟩, h2, h3, h4, h5, h6, h7, h8, h9, h10, h11⟩ := h
  refine ⟨⟨hm, h1⟩, ?_, h3, h4, h5, h6, h7, ?_, h9, ?_, ?_⟩
  · show weights (e.t ++ [n]) e.vl e.b = e.w ++ [0]
    rw [weights_app hc e.vl e.b hv, h2]
  · exact List.any_eq_false.2 fun r hr => by rw [hlost r hr]; decide
  · show (moreR (e.t ++ [n]) e.k e.b e.j).length = e.j.length
    rw [moreR, hcl]
    exact h10
  · show nextR (e.t ++ [n]) e.k e.b e.j e.fin = e.fin
    have hfin : finalsR (e.t ++ [n]) e.k e.b e.j = finalsR e.t e.k e.b e.j := by
      unfold finalsR finB
      rw [hcl]
    have hx : ∀ x ∈ finalsR e.t e.k e.b e.j, n.root ≠ x.root := fun x hx => hj x (by unfold finalsR at hx; exact (List.mem_filter.1 hx).1)
    rw [nextR, hfin, foldl_next_app hc e.fin hf (finalsR e.t e.k e.b e.j) _ hx]
    exact h11

def frzA (k : HP) : AO → AO
  | .var x => .var (x.frz k)
  | y => y
def frzHP (k : HP) (hp : HP) : HP := hp.map fun p => (p.1, frzA k p.2)
theorem frzHP_get (k hp : HP) (o : Nat) : HP.get (frzHP k hp) o = (HP.get hp o).map (frzA k) := by
  induction hp with
  | nil => rfl
  | cons p hp ih =>
    show HP.get ((p.1, frzA k p.2) :: frzHP k hp) o = _
    rw [HP.get_cons, HP.get_cons, ih]
    split <;> rfl
theorem frzA_real (k : HP) (x : AO) : (frzA k x).real = x.real := by cases x <;> rfl
theorem Wk.frzH {E : Env} {s : S} (F : List Nat) : Wk E s { s with fr := s.fr.map fun p => (p.1, p.2.frz (HP.keep F s.hp)), hp := frzHP (HP.keep F s.hp) (HP.drop F s.hp) } := by
  rintro a w ⟨ι, dom, im, h1, h2, h3, h4, h5⟩
  let im2 : Nat → Prop := fun b => im b ∨ ∃ o ob, HP.get (HP.keep F s.hp) o = some ob ∧ ob.real ∧ ι o = b
  have hk : HInv E (HP.keep F s.hp) ι dom im w := (h2.step (Go.RowKit.Below.refl _ _) (fun o ob hg => HP.get_keep _ _ _ _ hg) (fun _ h => h) (fun o ob hg => h2.nim o ob (HP.get_keep _ _ _ _ hg)) h2.imlt h2.imsub).1
  have hm2 : ∀ b, im b → im2 b := fun b hb => .inl hb
  have ho2 : ∀ o ob, HP.get (HP.keep F s.hp) o = some ob → ob.real → im2 (ι o) := fun o ob hg hr => .inr ⟨o, ob, hg, hr, rfl⟩
  have hd := (h2.step (hp2 := HP.drop F s.hp) (im2 := im2) (Go.RowKit.Below.refl _ _) (fun o ob hg => (HP.get_drop _ _ _ _ hg).1) (fun b hb => .inl hb) (fun o ob hg hr => by
      rintro (h | ⟨o', ob', l1, l2, l3⟩)
      · exact h2.nim o ob (HP.get_drop _ _ _ _ hg).1 hr h
      · have := h2.inj _ _ _ _ (HP.get_keep _ _ _ _ l1) (HP.get_drop _ _ _ _ hg).1 l2 hr l3
        subst this
        have m1 := HP.keep_mem l1
        have m2 := (HP.get_drop _ _ _ _ hg).2
        rw [m1] at m2; cases m2)
    (fun b hb => by
      rcases hb with h | ⟨o, ob, l1, l2, rfl⟩
      · exact h2.imlt b h
      · exact h2.lt o ob (HP.get_keep _ _ _ _ l1) l2)
    (fun b hb => by
      rcases hb with h | ⟨o, ob, l1, l2, rfl⟩
      · exact h2.imsub b h
      · exact .inr (h2.loc o ob (HP.get_keep _ _ _ _ l1) l2))).1
  have hg0 : ∀ o ob, HP.get (frzHP (HP.keep F s.hp) (HP.drop F s.hp)) o = some ob → ∃ ob', HP.get (HP.drop F s.hp) o = some ob' ∧ ob = frzA (HP.keep F s.hp) ob' := fun o ob hg => by
    rw [frzHP_get] at hg
    obtain ⟨ob', e1, e2⟩ := Option.map_eq_some_iff.1 hg
    exact ⟨ob', e1, e2.symm⟩
  have hf : HInv E (frzHP (HP.keep F s.hp) (HP.drop F s.hp)) ι dom im2 w := by
    refine { hd with own := fun o ob hg => ?_, dm := fun o ob hg => ?_, lt := fun o ob hg hr => ?_, nim := fun o ob hg hr => ?_, inj := fun o o' ob ob' hg hg' hr hr' he => ?_, loc := fun o ob hg hr => ?_ }
    · obtain ⟨ob', e1, rfl⟩ := hg0 o ob hg
      have hw := hd.own o ob' e1
      cases ob' with
      | var x =>
        obtain ⟨cs, e, q1, q2⟩ := h2.own o _ (HP.get_drop _ _ _ _ e1).1
        exact ⟨cs, e, q1, Rep.frz hk hm2 ho2 x _ q2⟩
      | row _ _ => exact hw
      | amap _ => exact hw
      | obj _ => exact hw
      | tab _ _ => exact hw
    · obtain ⟨ob', e1, rfl⟩ := hg0 o ob hg
      exact hd.dm o ob' e1
    · obtain ⟨ob', e1, rfl⟩ := hg0 o ob hg
      rw [frzA_real] at hr
      exact hd.lt o ob' e1 hr
    · obtain ⟨ob', e1, rfl⟩ := hg0 o ob hg
      rw [frzA_real] at hr
      exact hd.nim o ob' e1 hr
    · obtain ⟨x, e1, rfl⟩ := hg0 o ob hg
      obtain ⟨y, e2, rfl⟩ := hg0 o' ob' hg'
      rw [frzA_real] at hr hr'
      exact hd.inj o o' x y e1 e2 hr hr' he
    · obtain ⟨ob', e1, rfl⟩ := hg0 o ob hg
      rw [frzA_real] at hr
      exact hd.loc o ob' e1 hr
  refine ⟨ι, dom, im2, h1, hf, ⟨h3.1, fun t => ?_⟩, h4, h5⟩
  have hget : ∀ (fr : FR), FR.get (fr.map fun p => (p.1, p.2.frz (HP.keep F s.hp))) t = (FR.get fr t).frz (HP.keep F s.hp) := fun fr => by
    induction fr with
    | nil => rfl
    | cons p fr ih =>
      rw [List.map_cons, FR.get_cons, FR.get_cons, ih]
      split <;> rfl
  show RepT _ (FR.get (s.fr.map _) t) _
  rw [hget]
  rcases h3.2 t with ⟨u, hu, hu2⟩ | h
  · exact .inl ⟨u, by rw [hu]; rfl, hu2⟩
  · exact .inr (RepS.frz hk hm2 ho2 h)

theorem lclone_c (l : List Latest) (hl : l.length ≤ 1000) : CalO Tryz.prog 157 [.sl (l.map Latest.av) false] (.ms 0 34 l.length) [(0, .row 34 (l.map Latest.av))] := by
  have hR : Tryz.f157.results.toList = [.tmp 2] := rfl
  refine calO_tr Tryz.func157 rfl fun E hE hP => ?_
  refine mr ?_
  first | refine tr_seq_region (by rw [hE]; rfl) ?_ | (refine Tr.seq ?_; refine tr_seq_region (by rw [hE]; rfl) ?_)
  refine mO ?_
  refine ⟨fun hz c => ?_, fun hz => ?_⟩
  · have hz' : l = [] := List.eq_nil_of_length_eq_zero hz
    subst hz'
    refine vc_nil ?_
    refine Tr.cond rfl (fun hc => ?_) (fun hc => ?_)
    · refine mr ?_
      refine Tr.wk (Wk.nil 2 34 rfl) ?_
      refine Tr.ret ?_
      simp only [hR, go_sem, seval]
      exact ⟨fun n => 64 + n, rfl, ⟨⟨rfl, rfl, rfl⟩, trivial⟩, rfl⟩
    · refine mW ?_
      refine Tr.ret ?_
      simp only [hR, go_sem, seval]
      exact ⟨fun n => 80 + n, rfl, ⟨⟨rfl, rfl, rfl⟩, trivial⟩, rfl⟩
  · refine vc_nil ?_
    refine mW ?_
    refine Tr.ret ?_
    simp only [hR, go_sem, seval]
    exact ⟨fun n => 80 + n, rfl, ⟨⟨rfl, rfl, rfl⟩, trivial⟩, rfl⟩
theorem aclone_c (l : List Att) (hl : l.length ≤ 1000) : CalO Tryz.prog 158 [.sl (l.map Att.av) false] (.ms 0 100 l.length) [(0, .row 100 (l.map Att.av))] := by
  have hR : Tryz.f158.results.toList = [.tmp 2] := rfl
  refine calO_tr Tryz.func158 rfl fun E hE hP => ?_
  refine mr ?_
  first | refine tr_seq_region (by rw [hE]; rfl) ?_ | (refine Tr.seq ?_; refine tr_seq_region (by rw [hE]; rfl) ?_)
  refine mO ?_
  refine ⟨fun hz c => ?_, fun hz => ?_⟩
  · have hz' : l = [] := List.eq_nil_of_length_eq_zero hz
    subst hz'
    refine vc_nil ?_
    refine Tr.cond rfl (fun hc => ?_) (fun hc => ?_)
    · refine mr ?_
      refine Tr.wk (Wk.nil 2 100 rfl) ?_
      refine Tr.ret ?_
      simp only [hR, go_sem, seval]
      exact ⟨fun n => 64 + n, rfl, ⟨⟨rfl, rfl, rfl⟩, trivial⟩, rfl⟩
    · refine mW ?_
      refine Tr.ret ?_
      simp only [hR, go_sem, seval]
      exact ⟨fun n => 80 + n, rfl, ⟨⟨rfl, rfl, rfl⟩, trivial⟩, rfl⟩
  · refine vc_nil ?_
    refine mW ?_
    refine Tr.ret ?_
    simp only [hR, go_sem, seval]
    exact ⟨fun n => 80 + n, rfl, ⟨⟨rfl, rfl, rfl⟩, trivial⟩, rfl⟩
theorem kclone_c (l : List Link) (hl : l.length ≤ 1000) : CalO Tryz.prog 159 [.sl (l.map Link.av) false] (.ms 0 67 l.length) [(0, .row 67 (l.map Link.av))] := by
  have hR : Tryz.f159.results.toList = [.tmp 2] := rfl
  refine calO_tr Tryz.func159 rfl fun E hE hP => ?_
  refine mr ?_
  first | refine tr_seq_region (by rw [hE]; rfl) ?_ | (refine Tr.seq ?_; refine tr_seq_region (by rw [hE]; rfl) ?_)
  refine mO ?_
  refine ⟨fun hz c => ?_, fun hz => ?_⟩
  · have hz' : l = [] := List.eq_nil_of_length_eq_zero hz
    subst hz'
    refine vc_nil ?_
    refine Tr.cond rfl (fun hc => ?_) (fun hc => ?_)
    · refine mr ?_
      refine Tr.wk (Wk.nil 2 67 rfl) ?_
      refine Tr.ret ?_
      simp only [hR, go_sem, seval]
      exact ⟨fun n => 64 + n, rfl, ⟨⟨rfl, rfl, rfl⟩, trivial⟩, rfl⟩
    · refine mW ?_
      refine Tr.ret ?_
      simp only [hR, go_sem, seval]
      exact ⟨fun n => 80 + n, rfl, ⟨⟨rfl, rfl, rfl⟩, trivial⟩, rfl⟩
  · refine vc_nil ?_
    refine mW ?_
    refine Tr.ret ?_
    simp only [hR, go_sem, seval]
    exact ⟨fun n => 80 + n, rfl, ⟨⟨rfl, rfl, rfl⟩, trivial⟩, rfl⟩
theorem jclone_c (l : List Check) (hl : l.length ≤ 1000) : CalO Tryz.prog 133 [.sl (l.map Check.av) false] (.ms 0 33 l.length) [(0, .row 33 (l.map Check.av))] := by
  have hR : Tryz.f133.results.toList = [.tmp 2] := rfl
  refine calO_tr Tryz.func133 rfl fun E hE hP => ?_
  refine mr ?_
  first | refine tr_seq_region (by rw [hE]; rfl) ?_ | (refine Tr.seq ?_; refine tr_seq_region (by rw [hE]; rfl) ?_)
  refine mO ?_
  refine ⟨fun hz c => ?_, fun hz => ?_⟩
  · have hz' : l = [] := List.eq_nil_of_length_eq_zero hz
    subst hz'
    refine vc_nil ?_
    refine Tr.cond rfl (fun hc => ?_) (fun hc => ?_)
    · refine mr ?_
      refine Tr.wk (Wk.nil 2 33 rfl) ?_
      refine Tr.ret ?_
      simp only [hR, go_sem, seval]
      exact ⟨fun n => 64 + n, rfl, ⟨⟨rfl, rfl, rfl⟩, trivial⟩, rfl⟩
    · refine mW ?_
      refine Tr.ret ?_
      simp only [hR, go_sem, seval]
      exact ⟨fun n => 80 + n, rfl, ⟨⟨rfl, rfl, rfl⟩, trivial⟩, rfl⟩
  · refine vc_nil ?_
    refine mW ?_
    refine Tr.ret ?_
    simp only [hR, go_sem, seval]
    exact ⟨fun n => 80 + n, rfl, ⟨⟨rfl, rfl, rfl⟩, trivial⟩, rfl⟩
theorem tclone_c (t : List Node) (hl : t.length ≤ 1000) : CalO Tryz.prog 197 [tav t] (.st [.ms 0 35 t.length]) [(0, .row 35 (t.map Node.av))] := by
  have o1 := nclone_c t hl
  have hR : Tryz.f197.results.toList = [.cell 2 24] := rfl
  refine calO_tr Tryz.func197 rfl fun E hE hP => ?_
  refine mW ?_
  refine Tr.ret ?_
  simp only [hR, go_sem, seval]
  exact ⟨fun n => 64 + n, rfl, (by repeat' (first | exact rfl | exact trivial | constructor)), rfl⟩
@[go_sem] theorem tav_upd (t : List Node) (x : AV) : (tav t).upd [0] x = some (.st [x]) := rfl
/-- An engine whose lists are so. -/
def engX (e : Eng) (T B V W A K J : AV) : AV := .st [.st [T], B, .st [V, .int .u64 e.o], W, A, K, J, e.fin.av, .int .u64 e.now]
attribute [go_sem] engX
def ownH (e : Eng) : HP := [(0, .row 35 (e.t.map Node.av)), (1, .row 1 (e.b.map uav)), (2, .row 34 (e.vl.map Latest.av)), (3, .row 1 (e.w.map uav)), (4, .row 100 (e.late.map Att.av)), (5, .row 67 (e.k.map Link.av)), (6, .row 33 (e.j.map Check.av))]
def ownV (e : Eng) : AV := engX e (.ms 0 35 e.t.length) (.ms 1 1 e.b.length) (.ms 2 34 e.vl.length) (.ms 3 1 e.w.length) (.ms 4 100 e.late.length) (.ms 5 67 e.k.length) (.ms 6 33 e.j.length)
set_option maxHeartbeats 1000000 in
theorem own_o (e : Eng) (he : e.few) : CalO Tryz.prog 89 [e.av] (ownV e) (ownH e) := by
  have o1 := nclone_c e.t (by have := he.t; omega)
  have o2 := uclone_c e.b (by have := he.b; omega)
  have o3 := lclone_c e.vl (by have := he.vl; omega)
  have o4 := uclone_c e.w (by have := he.w; omega)
  have o5 := aclone_c e.late (by have := he.late; omega)
  have o6 := kclone_c e.k (by have := he.k; omega)
  have o7 := jclone_c e.j (by have := he.j; omega)
  have hR : Tryz.f89.results.toList = [.cell 2 38] := rfl
  refine calO_tr Tryz.func89 rfl fun E hE hP => ?_
  refine mr ?_
  first | refine tr_seq_drawn mixed _ (keepAll _) (by rw [hE]; rfl) (by kernel_rfl) ?_ | (refine Tr.seq ?_; refine tr_seq_drawn mixed _ (keepAll _) (by rw [hE]; rfl) (by kernel_rfl) ?_)
  simp only [List.map_cons, List.map_nil]
  iterate 3 refine vP ?_
  refine vd_x rfl rfl ?_; simp only [go_sem, seval]
  refine call_own rfl rfl rfl rfl (enters_of Tryz.func47 (by kernel_rfl) rfl) (o1.2) rfl rfl ?_
  simp only [go_sem, seval]
  iterate 2 refine vP ?_
  refine vd_x rfl rfl ?_; simp only [go_sem, seval]
  refine call_own rfl rfl rfl rfl (enters_of Tryz.func77 (by kernel_rfl) rfl) (o2.2) rfl rfl ?_
  simp only [go_sem, seval]
  iterate 2 refine vP ?_
  refine vd_x rfl rfl ?_; simp only [go_sem, seval]
  refine call_own rfl rfl rfl rfl (enters_of Tryz.func77 (by kernel_rfl) rfl) (o4.2) rfl rfl ?_
  simp only [go_sem, seval]
  iterate 3 refine vP ?_
  refine vd_x rfl rfl ?_; simp only [go_sem, seval]
  refine call_own rfl rfl rfl rfl (enters_of Tryz.func157 (by kernel_rfl) rfl) (o3.2) rfl rfl ?_
  simp only [go_sem, seval]
  iterate 2 refine vP ?_
  refine vd_w rfl rfl (by kernel_rfl) ?_; simp only [go_sem, seval]
  refine vP ?_
  refine vd_w rfl rfl (by kernel_rfl) ?_; simp only [go_sem, seval]
  refine vP ?_
  refine vd_w rfl rfl (by kernel_rfl) ?_; simp only [go_sem, seval]
  iterate 2 refine vP ?_
  refine vd_w rfl rfl (by kernel_rfl) ?_; simp only [go_sem, seval]
  refine vd_nil ?_
  first | refine tr_seq_drawn mixed _ (keepAll _) (by rw [hE]; rfl) (by kernel_rfl) ?_ | (refine Tr.seq ?_; refine tr_seq_drawn mixed _ (keepAll _) (by rw [hE]; rfl) (by kernel_rfl) ?_)
  simp only [List.map_cons, List.map_nil]
  iterate 2 refine vP ?_
  refine vd_x rfl rfl ?_; simp only [go_sem, seval]
  refine call_own rfl rfl rfl rfl (enters_of Tryz.func158 (by kernel_rfl) rfl) (o5.2) rfl rfl ?_
  simp only [go_sem, seval]
  iterate 2 refine vP ?_
  refine vd_x rfl rfl ?_; simp only [go_sem, seval]
  refine call_own rfl rfl rfl rfl (enters_of Tryz.func159 (by kernel_rfl) rfl) (o6.2) rfl rfl ?_
  simp only [go_sem, seval]
  iterate 2 refine vP ?_
  refine vd_x rfl rfl ?_; simp only [go_sem, seval]
  refine call_own rfl rfl rfl rfl (enters_of Tryz.func133 (by kernel_rfl) rfl) (o7.2) rfl rfl ?_
  simp only [go_sem, seval]
  refine vP ?_
  refine vd_w rfl rfl (by kernel_rfl) ?_; simp only [go_sem, seval]
  refine vP ?_
  refine vd_w rfl rfl (by kernel_rfl) ?_; simp only [go_sem, seval]
  refine vP ?_
  refine vd_w rfl rfl (by kernel_rfl) ?_; simp only [go_sem, seval]
  refine vd_nil ?_
  refine mr ?_
  refine Tr.ret ?_
  simp only [hR, go_sem, seval]
  exact ⟨fun | 0 => 80 | 1 => 128 | 2 => 240 | 3 => 176 | 4 => 448 | 5 => 496 | 6 => 544 | n => n, rfl, (by repeat' (first | exact rfl | exact trivial | constructor)), rfl⟩
set_option maxHeartbeats 1000000 in
theorem own_p (e : Eng) (he : e.few) : Cal Tryz.prog 89 [e.av] e.av := by
  have o1 := nclone_c e.t (by have := he.t; omega)
  have o2 := uclone_c e.b (by have := he.b; omega)
  have o3 := lclone_c e.vl (by have := he.vl; omega)
  have o4 := uclone_c e.w (by have := he.w; omega)
  have o5 := aclone_c e.late (by have := he.late; omega)
  have o6 := kclone_c e.k (by have := he.k; omega)
  have o7 := jclone_c e.j (by have := he.j; omega)
  have hR : Tryz.f89.results.toList = [.cell 2 38] := rfl
  refine cal_tr Tryz.func89 rfl fun E hE hP => ?_
  refine mr ?_
  first | refine tr_seq_drawn mixed _ (keepAll _) (by rw [hE]; rfl) (by kernel_rfl) ?_ | (refine Tr.seq ?_; refine tr_seq_drawn mixed _ (keepAll _) (by rw [hE]; rfl) (by kernel_rfl) ?_)
  simp only [List.map_cons, List.map_nil]
  iterate 3 refine vP ?_
  refine vd_x rfl rfl ?_; simp only [go_sem, seval]
  refine call_own rfl rfl rfl rfl (enters_of Tryz.func47 (by kernel_rfl) rfl) (o1.2) rfl rfl ?_
  simp only [go_sem, seval]
  iterate 2 refine vP ?_
  refine vd_x rfl rfl ?_; simp only [go_sem, seval]
  refine call_own rfl rfl rfl rfl (enters_of Tryz.func77 (by kernel_rfl) rfl) (o2.2) rfl rfl ?_
  simp only [go_sem, seval]
  iterate 2 refine vP ?_
  refine vd_x rfl rfl ?_; simp only [go_sem, seval]
  refine call_own rfl rfl rfl rfl (enters_of Tryz.func77 (by kernel_rfl) rfl) (o4.2) rfl rfl ?_
  simp only [go_sem, seval]
  iterate 3 refine vP ?_
  refine vd_x rfl rfl ?_; simp only [go_sem, seval]
  refine call_own rfl rfl rfl rfl (enters_of Tryz.func157 (by kernel_rfl) rfl) (o3.2) rfl rfl ?_
  simp only [go_sem, seval]
  iterate 2 refine vP ?_
  refine vd_w rfl rfl (by kernel_rfl) ?_; simp only [go_sem, seval]
  refine vP ?_
  refine vd_w rfl rfl (by kernel_rfl) ?_; simp only [go_sem, seval]
  refine vP ?_
  refine vd_w rfl rfl (by kernel_rfl) ?_; simp only [go_sem, seval]
  iterate 2 refine vP ?_
  refine vd_w rfl rfl (by kernel_rfl) ?_; simp only [go_sem, seval]
  refine vd_nil ?_
  first | refine tr_seq_drawn mixed _ (keepAll _) (by rw [hE]; rfl) (by kernel_rfl) ?_ | (refine Tr.seq ?_; refine tr_seq_drawn mixed _ (keepAll _) (by rw [hE]; rfl) (by kernel_rfl) ?_)
  simp only [List.map_cons, List.map_nil]
  iterate 2 refine vP ?_
  refine vd_x rfl rfl ?_; simp only [go_sem, seval]
  refine call_own rfl rfl rfl rfl (enters_of Tryz.func158 (by kernel_rfl) rfl) (o5.2) rfl rfl ?_
  simp only [go_sem, seval]
  iterate 2 refine vP ?_
  refine vd_x rfl rfl ?_; simp only [go_sem, seval]
  refine call_own rfl rfl rfl rfl (enters_of Tryz.func159 (by kernel_rfl) rfl) (o6.2) rfl rfl ?_
  simp only [go_sem, seval]
  iterate 2 refine vP ?_
  refine vd_x rfl rfl ?_; simp only [go_sem, seval]
  refine call_own rfl rfl rfl rfl (enters_of Tryz.func133 (by kernel_rfl) rfl) (o7.2) rfl rfl ?_
  simp only [go_sem, seval]
  refine vP ?_
  refine vd_w rfl rfl (by kernel_rfl) ?_; simp only [go_sem, seval]
  refine vP ?_
  refine vd_w rfl rfl (by kernel_rfl) ?_; simp only [go_sem, seval]
  refine vP ?_
  refine vd_w rfl rfl (by kernel_rfl) ?_; simp only [go_sem, seval]
  refine vd_nil ?_
  refine mr ?_
  refine Tr.wk (Wk.frzH [80, 128, 176, 240, 448, 496, 544]) ?_
  simp only [frzHP, frzA, AV.frz, AV.frzL, List.map_cons, List.map_nil, go_sem, seval]
  exact mX
end Go.Proofs.YtgnidooihignfaaGreatDoor

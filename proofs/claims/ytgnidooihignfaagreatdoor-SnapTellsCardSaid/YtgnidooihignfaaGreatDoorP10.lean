/- Engines that are what they say: arguments in their ranges; votes stay votes. -/
import Derived.Test.YtgnidooihignfaaGreatDoorP9
import Derived.Test.YtgnidooihignfaaGreatDoorSnEDec
import Derived.Test.YtgnidooihignfaaGreatDoorP8
import Derived.Test.YtgnidooihignfaaGreatDoorAbFour
set_option linter.unusedSimpArgs false
set_option maxRecDepth 10000
namespace Go.Proofs.YtgnidooihignfaaGreatDoor
open Go Go.Ab Go.ChangeShapes Go.WideShapes Go.ChangeAt Go.RowKit
structure Eng.wf (e : Eng) : Prop where
 ok : e.ok
 o : 0 ≤ e.o
 late : ∀ a ∈ e.late, a.wf
 now : 0 ≤ e.now
def hasB (n : Int) (k : Nat) : Bool := (bv n).getLsbD k
theorem has_and (a b : Int) (k : Nat) : hasB (andU a b) k = (hasB a k && hasB b k) := by
 unfold hasB; rw [andU_eq, bv_nat]; simp
theorem eq_of_has {a b : Int} (ha : inU a) (hb : inU b) (h : ∀ k, hasB a k = hasB b k) : a = b := by
 rw [← bv_back ha, ← bv_back hb]
 congr 2
 exact BitVec.eq_of_getLsbD_eq fun k _ => h k
theorem has_zero (k : Nat) : hasB 0 k = false := by simp [hasB, bv]
theorem has_high (n : Int) (k : Nat) (h : 64 ≤ k) : hasB n k = false := BitVec.getLsbD_of_ge _ _ h
theorem has_bit_low : ∀ i : Nat, i < 8 → ∀ k : Nat, k < 64 → hasB (bit i) k = decide (k = i) := by decide +kernel
theorem has_bit (i : Nat) (hi : i < 8) (k : Nat) : hasB (bit i) k = decide (k = i) := by
 by_cases h : k < 64
 · exact has_bit_low i hi k h
 · rw [has_high _ _ (by omega)]
   exact (dfO).symm
theorem and_bit (x : Int) (i : Nat) (hi : i < 8) : andU x (bit i) = 0 ↔ hasB x i = false := by
 constructor
 · intro h
   have h1 := has_and x (bit i) i
   rw [h, has_zero, has_bit i hi, decide_eq_true rfl, Bool.and_true] at h1
   exact h1.symm
 · intro h
   refine eq_of_has (inU_and _ _) ⟨by omega, by omega⟩ fun k => ?_
   rw [has_and, has_zero, has_bit i hi]
   by_cases hk : k = i
   · rw [hk, h, Bool.false_and]
   · rw [decide_eq_false hk, Bool.and_false]
theorem vmay_spec {l : List Latest} {o : Int} (h : vmayB l o = true) : 1 ≤ l.length ∧ l.length ≤ 8 ∧ o < bit l.length ∧ ∀ i, i < l.length → vbad o i (l.getD i zLatest) = false := by
 simp only [vmayB, Bool.and_eq_true, decide_eq_true_eq, List.all_eq_true, Bool.not_eq_true'] at h
 exact ⟨h.1, h.2.1, h.2.2.1, fun i hi => h.2.2.2 i (List.mem_range.2 hi)⟩
theorem vmay_of {l : List Latest} {o : Int} (h : 1 ≤ l.length ∧ l.length ≤ 8 ∧ o < bit l.length ∧ ∀ i, i < l.length → vbad o i (l.getD i zLatest) = false) : vmayB l o = true := by
 simp only [vmayB, Bool.and_eq_true, decide_eq_true_eq, List.all_eq_true, Bool.not_eq_true']
 exact ⟨h.1, h.2.1, h.2.2.1, fun i hi => h.2.2.2 i (List.mem_range.1 hi)⟩
end Go.Proofs.YtgnidooihignfaaGreatDoor
set_option linter.unusedSimpArgs false
set_option maxRecDepth 10000
namespace Go.Proofs.YtgnidooihignfaaGreatDoor
open Go Go.Ab
def resW (t : List Node) (i : Int) (w : List Int) : List Int := (keptL t i t.length).map fun k => w.getD k 0
section
variable {t : List Node} {i : Int}
theorem CutAt.resLen (h : CutAt t i) (w : List Int) : (resW t i w).length = (cutR t i).length := by rw [resW, List.length_map, h.len]
theorem resW_at (w : List Int) {k : Nat} (hk : k < t.length) (ha : aboveF t i k = true) : (resW t i w).getD (phi t i k) 0 = w.getD k 0 := by
 obtain ⟨h1, h2⟩ := keptL_at hk ha
 unfold resW
 rw [List.getD_eq_getElem?_getD, List.getElem?_map, h1]
 rfl
theorem resW_ext {w v : List Int} (h : ∀ k, k < t.length → aboveF t i k = true → w.getD k 0 = v.getD k 0) : resW t i w = resW t i v := by
 unfold resW
 refine List.map_congr_left fun k hk => ?_
 obtain ⟨h1, h2⟩ := keptL_mem.1 hk
 exact h k h1 h2
theorem resW_eq (h : CutAt t i) {w : List Int} {l : List Int} (hl : l.length = (cutR t i).length) (he : ∀ k, k < t.length → aboveF t i k = true → l.getD (phi t i k) 0 = w.getD k 0) : l = resW t i w := by
 refine List.ext_getElem (by rw [hl, h.resLen]) fun j h1 h2 => ?_
 obtain ⟨k, h3, h4, rfl⟩ := h.back (show j < (cutR t i).length by omega)
 have h5 := he k h3 h4
 rw [← resW_at w h3 h4] at h5
 rw [List.getD_eq_getElem?_getD, List.getD_eq_getElem?_getD, List.getElem?_eq_getElem h1, List.getElem?_eq_getElem h2] at h5
 exact h5
theorem getD_add (l : List Int) (k j : Nat) (x : Int) : (addAt l k x).getD j 0 = if k = j ∧ k < l.length then IntKind.u64.wrap (l.getD k 0 + x) else l.getD j 0 := by
 unfold addAt
 rw [getD_set]
theorem addAt_len (l : List Int) (k : Nat) (x : Int) : (addAt l k x).length = l.length := by unfold addAt; rw [List.length_set]
theorem CutAt.add (h : CutAt t i) {l : List Int} (hl : l.length = t.length) {k : Nat} (hk : k < t.length) (ha : aboveF t i k = true) (x : Int) : addAt (resW t i l) (phi t i k) x = resW t i (addAt l k x) := by
 have h1 := (h.at hk ha).1
 refine resW_eq h (by rw [addAt_len, h.resLen]) fun j hj hja => ?_
 rw [getD_add, getD_add, resW_at l hk ha, resW_at l hj hja, h.resLen]
 by_cases hkj : k = j
 · subst hkj
   rw [if_pos ⟨rfl, h1⟩, if_pos ⟨rfl, by omega⟩]
 · rw [if_neg (fun hh => hkj ((phi_inj ha hja).1 hh.1)), if_neg (fun hh => hkj hh.1)]
theorem CutAt.addOff (_ : CutAt t i) {l : List Int} {k : Nat} (ha : aboveF t i k = false) (x : Int) : resW t i (addAt l k x) = resW t i l :=
 resW_ext fun j _ hja => by
  rw [getD_add, if_neg]
  rintro ⟨rfl, _⟩
  rw [ha] at hja
  cases hja
theorem votTo_drop (h : CutAt t i) (vl : List Latest) (b : List Int) : ∀ m, m ≤ vl.length → votTo (cutR t i) (dropL ((cutR t i).map Node.root) vl) [] b m = resW t i (votTo t vl [] b m)
 | 0, _ => by
   refine resW_eq h (by rw [votTo_len]) fun k hk ha => ?_
   have h1 := (h.at hk ha).1
   simp only [votTo]
   rw [List.getD_eq_getElem?_getD, List.getD_eq_getElem?_getD, List.getElem?_replicate, List.getElem?_replicate, if_pos h1, if_pos hk]
 | m + 1, hm => by
   have ih := votTo_drop h vl b m (by omega)
   have hlen := votTo_len t vl [] b m
   have hx : (dropL ((cutR t i).map Node.root) vl).getD m zLatest = dropX ((cutR t i).map Node.root) (vl.getD m zLatest) := by
    unfold dropL
    rw [List.getD_eq_getElem?_getD, List.getD_eq_getElem?_getD, List.getElem?_map, List.getElem?_eq_getElem (by omega)]
    rfl
   rw [votTo, votTo, ih, hx]
   generalize votTo t vl [] b m = l at hlen
   generalize vl.getD m zLatest = x
   have hin := h.in_roots x.root
   unfold dropX
   by_cases hr : x.root ∈ (cutR t i).map Node.root
   · rw [if_pos hr]
     have hc := hin.1 hr
     obtain ⟨k, h1, h2, h3⟩ := inC_spec hc
     unfold votS
     split
     · rfl
     · rw [h.find', hc, if_pos rfl, h1]
       simp only [Int.toNat_natCast]
       rw [if_neg (by omega), if_neg (by omega)]
       exact h.add hlen h2 h3 _
   · rw [if_neg hr]
     have hc : inC t i x.root = false := by
      cases hh : inC t i x.root
      · rfl
      · exact absurd (hin.2 hh) hr
     have e1 : votS (cutR t i) [] b (resW t i l) m zLatest = resW t i l := by
      unfold votS
      exact if_pos rfl
     rw [e1]
     unfold votS
     split
     · rfl
     · split
       · rfl
       · next hk =>
         refine (h.addOff ?_ _).symm
         unfold inC at hc
         rw [decide_eq_true (show 0 ≤ findR t x.root by omega), Bool.true_and] at hc
         rwa [Int.toNat_of_nonneg (by omega)]
theorem CutAt.set (h : CutAt t i) {l : List Int} (hl : l.length = t.length) {k : Nat} (hk : k < t.length) (ha : aboveF t i k = true) (x : Int) : (resW t i l).set (phi t i k) x = resW t i (l.set k x) := by
 have h1 := (h.at hk ha).1
 refine resW_eq h (by rw [List.length_set, h.resLen]) fun j hj hja => ?_
 rw [getD_set, getD_set, resW_at l hj hja, h.resLen]
 by_cases hkj : k = j
 · subst hkj
   rw [if_pos ⟨rfl, h1⟩, if_pos ⟨rfl, by omega⟩]
 · rw [if_neg (fun hh => hkj ((phi_inj ha hja).1 hh.1)), if_neg (fun hh => hkj hh.1)]
theorem CutAt.setOff (_ : CutAt t i) {l : List Int} {k : Nat} (ha : aboveF t i k = false) (x : Int) : resW t i (l.set k x) = resW t i l :=
 resW_ext fun j _ hja => by
  rw [getD_set, if_neg]
  rintro ⟨rfl, _⟩
  rw [ha] at hja
  cases hja
theorem CutAt.up (h : CutAt t i) {v : List Int} (hl : v.length = t.length) {k : Nat} (hk : k < t.length) : resW t i (upW t v k) = if aboveF t i k = true then upW (cutR t i) (resW t i v) (phi t i k) else resW t i v := by
 have hp := par_range h.may (a := (k : Int)) (by omega) (by omega)
 have off : aboveF t i (parI t k).toNat = false → resW t i (upW t v k) = resW t i v := fun hf => by
  unfold upW
  split
  · rfl
  · exact h.setOff hf _
 split
 · next ha =>
   by_cases hki : (k : Int) = i
   · have h1 : upW (cutR t i) (resW t i v) (phi t i k) = resW t i v := by
      unfold upW
      rw [h.par hk ha, if_pos hki, if_pos (by omega)]
     rw [h1]
     rcases hp with hp | hp
     · unfold upW
       rw [if_pos (by omega)]
     · refine off ?_
       cases hh : aboveF t i (parI t k).toNat
       · rfl
       · have := aboveF_ge h.may (a := ((parI t k).toNat : Int)) (by omega) (by omega) hh
         omega
   · obtain ⟨p0, p1, p2⟩ := h.kept_par hk ha hki
     unfold upW
     rw [h.par hk ha, if_neg hki, if_neg (by omega), if_neg (by omega), Int.toNat_natCast, resW_at v (by omega) p2, resW_at v hk ha]
     exact (h.set hl (by omega) p2 _).symm
 · next ha =>
   have hki : (k : Int) ≠ i := fun hh => ha (by rw [hh]; exact h.self)
   rcases hp with hp | hp
   · unfold upW
     rw [if_pos (by omega)]
   · refine off ?_
     cases hh : aboveF t i (parI t k).toNat
     · rfl
     · exact absurd ((par_kept h.may hk hki).2 ⟨hp.1, keptL_mem.2 ⟨by omega, hh⟩⟩) ha
theorem phi_succ (t : List Node) (i : Int) (k : Nat) : phi t i (k + 1) = phi t i k + if aboveF t i k = true then 1 else 0 := by
 unfold phi
 rw [keptL_succ, List.length_append]
 split <;> rfl
theorem phi_le (t : List Node) (i : Int) {a b : Nat} (h : a ≤ b) : phi t i a ≤ phi t i b := by
 induction b with
 | zero => have : a = 0 := by omega
           subst this; exact Nat.le_refl _
 | succ b ih =>
   rcases Nat.eq_or_lt_of_le h with h1 | h1
   · subst h1; exact Nat.le_refl _
   · have := ih (by omega)
     rw [phi_succ]
     omega
theorem CutAt.subTo (h : CutAt t i) {w : List Int} (hw : w.length = t.length) : ∀ m, m ≤ t.length → resW t i (subTo t w m) = Go.Proofs.YtgnidooihignfaaGreatDoor.subTo (cutR t i) (resW t i w) ((cutR t i).length - phi t i (t.length - m))
 | 0, _ => by
   have : (cutR t i).length = phi t i t.length := h.len
   rw [Nat.sub_zero, this, Nat.sub_self]
   rfl
 | m + 1, hm => by
   have ih := h.subTo hw m (by omega)
   have hlen : (cutR t i).length = phi t i t.length := h.len
   have hk : t.length - 1 - m < t.length := by omega
   have e1 : t.length - m = (t.length - 1 - m) + 1 := by omega
   have e2 : t.length - (m + 1) = t.length - 1 - m := by omega
   have hle := phi_le t i (show t.length - m ≤ t.length by omega)
   rw [e1] at ih hle
   rw [e2]
   show resW t i (upW t (Go.Proofs.YtgnidooihignfaaGreatDoor.subTo t w m) (t.length - 1 - m)) = _
   rw [h.up (by rw [subTo_len]; exact hw) hk]
   generalize t.length - 1 - m = k at *
   rw [phi_succ] at ih hle
   split
   · next ha =>
     rw [if_pos ha] at ih hle
     have e3 : (cutR t i).length - phi t i k = ((cutR t i).length - (phi t i k + 1)) + 1 := by omega
     rw [e3, Go.Proofs.YtgnidooihignfaaGreatDoor.subTo, ih]
     congr 1
     omega
   · next ha =>
     rw [if_neg ha] at ih
     exact ih
theorem CutAt.weights (h : CutAt t i) (vl : List Latest) (b : List Int) : weights (cutR t i) (dropL ((cutR t i).map Node.root) vl) b = resW t i (Go.Proofs.YtgnidooihignfaaGreatDoor.weights t vl b) := by
 unfold Go.Proofs.YtgnidooihignfaaGreatDoor.weights ownW subW
 have hl : (dropL ((cutR t i).map Node.root) vl).length = vl.length := by rw [dropL, List.length_map]
 rw [hl, votTo_drop h vl b vl.length (Nat.le_refl _), h.subTo (votTo_len t vl [] b vl.length) t.length (Nat.le_refl _), Nat.sub_self]
 congr 1
end
def keepG (keep : List Root) : AV := .ref (.fn (.func 140) [] [.ref (.sl (rv keep) false)])
def pruA (e : Eng) (b : Block) (x : Att) (c : Ask) (K J : AV) : AV := .st [engX e (.sl (e.t.map Node.av) false) (u64s e.b) (.sl (e.vl.map Latest.av) false) (u64s e.w) (atts e.late) K J, b.av, x.av, c.av]
attribute [go_sem] pruA keepG
section
variable {α : Type}
def delTo (p : α → Bool) (l : List α) (j : Nat) : List α := (l.take j).filter fun a => !p a
def delL (p : α → Bool) (l : List α) : List α := l.filter fun a => !p a
theorem delTo_next {p : α → Bool} {l : List α} {j : Nat} (h : j < l.length) : delTo p l (j + 1) = delTo p l j ++ (if p l[j] then [] else [l[j]]) := by
 unfold delTo
 rw [List.take_add_one, List.getElem?_eq_getElem h, Option.toList_some, List.filter_append]
 cases hp : p l[j] <;> simp [hp]
structure Del (p : α → Bool) (l : List α) (j : Nat) (L : List α) : Prop where
 le : j ≤ l.length
 len : L.length = l.length
 kept : L.take (delTo p l j).length = delTo p l j
 rest : L.drop j = l.drop j
 lt : (delTo p l j).length < j
theorem Del.at {p : α → Bool} {l L : List α} {j : Nat} (h : Del p l j L) (hj : j < l.length) : L[j]? = some l[j] := by
 have h1 := congrArg List.head? h.rest
 rw [List.head?_drop, List.head?_drop, List.getElem?_eq_getElem hj] at h1
 exact h1
theorem Del.skip {p : α → Bool} {l L : List α} {j : Nat} (h : Del p l j L) (hj : j < l.length) (hp : p l[j] = true) : Del p l (j + 1) L := by
 have e : delTo p l (j + 1) = delTo p l j := by rw [delTo_next hj, hp, if_pos rfl, List.append_nil]
 refine ⟨hj, h.len, by rw [e]; exact h.kept, ?_, by rw [e]; have := h.lt; omega⟩
 have := congrArg (List.drop 1) h.rest
 rwa [List.drop_drop, List.drop_drop] at this
theorem Del.keep {p : α → Bool} {l L : List α} {j : Nat} (h : Del p l j L) (hj : j < l.length) (hp : p l[j] = false) : Del p l (j + 1) (L.set (delTo p l j).length l[j]) := by
 have e : delTo p l (j + 1) = delTo p l j ++ [l[j]] := by rw [delTo_next hj, hp, if_neg (by decide)]
 have hlt := h.lt
 have hlen := h.len
 refine ⟨hj, by rw [List.length_set]; exact h.len, ?_, ?_, by rw [e, List.length_append, List.length_singleton]; omega⟩
 · rw [e, List.length_append, List.length_singleton, List.take_add_one, List.take_set_of_le (Nat.le_refl _), h.kept, List.getElem?_set, if_pos rfl, if_pos (by omega)]
   rfl
 · rw [List.drop_set_of_lt (by omega)]
   have := congrArg (List.drop 1) h.rest
   rwa [List.drop_drop, List.drop_drop] at this
theorem Del.done {p : α → Bool} {l L : List α} (h : Del p l l.length L) : L.take (delL p l).length = delL p l := by
 have := h.kept
 unfold delTo at this
 rwa [List.take_length] at this
end
structure Good (e : Eng) : Prop where
 wf : e.wf
 fit : fitB e.t e.vl e.o e.b = true
 w : weights e.t e.vl e.b = e.w
 k : e.k.length ≤ 40
 j : e.j.length ≤ 40
section
variable {t : List Node} {n : Node}
end
theorem mayE_all {e : Eng} : mayE e = true ↔ fitB e.t e.vl e.o e.b = true ∧ weights e.t e.vl e.b = e.w ∧ lmayA e.late = true ∧ lmayB e.k = true ∧ e.now ≤ 1099511627776 ∧ e.fin ∈ e.j ∧ ((nextA e.late).2 && decide ((nextA e.late).1 < e.now)) = false ∧
 (rootsL e).any (lostB e) = false ∧ e.j.Nodup ∧ (moreR e.t e.k e.b e.j).length = e.j.length ∧ nextR e.t e.k e.b e.j e.fin = e.fin := by
 simp only [mayE, Bool.and_eq_true, decide_eq_true_eq, Bool.not_eq_true']
structure Live (e : Eng) : Prop where
 may : mayE e = true
 wf : e.wf
 few : e.few
 free : (e.j.filter fun c => !decide (c ∈ e.k.map Link.t)).length ≤ 24
end Go.Proofs.YtgnidooihignfaaGreatDoor

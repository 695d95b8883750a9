/- Engines that are what they say: arguments in their ranges; votes stay votes. -/
import Derived.Test.YtekjdikofhdcpaaGreatDoorP9
import Derived.Test.YtekjdikofhdcpaaGreatDoorSnEDec
import Derived.Test.YtekjdikofhdcpaaGreatDoorP8
import Derived.Test.YtekjdikofhdcpaaGreatDoorAbFour
import Derived.Test.YtekjdikofhdcpaaGreatDoorP7
set_option linter.unusedSimpArgs false
set_option maxRecDepth 10000
namespace Go.Proofs.YtekjdikofhdcpaaGreatDoor
open Go Go.Ab Go.ChangeShapes Go.WideShapes Go.ChangeAt Go.RowKit
structure Eng.wf (e : Eng) : Prop where
 ok : e.ok
 o : 0 ≤ e.o
 late : ∀ a ∈ e.late, a.wf
 now : 0 ≤ e.now
theorem eng_of2 {m : Nat} {x : AV} (h : hasT Tryz.prog (m + 6) 38 x) : ∃ e : Eng, x = e.av ∧ e.wf := by
 unfold hasT at h
 rw [Tryz.underlying38] at h
 obtain ⟨xs, rfl, hl, hf⟩ := h
 match xs, hl with
 | [t, b, v, w, a, k, j, f, n], _ =>
   obtain ⟨t, rfl, _⟩ := tree_of (hf 0 _ t rfl rfl)
   obtain ⟨b, rfl, hb⟩ := bal_of (hf 1 _ b rfl rfl)
   obtain ⟨vl, o, rfl, _, ho⟩ := votes_of (hf 2 _ v rfl rfl)
   obtain ⟨w, rfl, _⟩ := bal_of (hf 3 _ w rfl rfl)
   obtain ⟨a, rfl, ha⟩ := atts_of (hf 4 _ a rfl rfl)
   obtain ⟨k, rfl, hk⟩ := links_of (hf 5 _ k rfl rfl)
   obtain ⟨j, rfl⟩ := checks_of (hf 6 _ j rfl rfl)
   obtain ⟨f, rfl, _⟩ := check_of (hf 7 _ f rfl rfl)
   obtain ⟨n, rfl, hn⟩ := u64_of (hf 8 _ n rfl rfl)
   exact ⟨⟨t, b, vl, o, w, a, k, j, f, n⟩, rfl, ⟨hb, hk.1, hk.2⟩, ho.1, ha, hn.1⟩
def hasB (n : Int) (k : Nat) : Bool := (bv n).getLsbD k
theorem orU_eq (a b : Int) : orU a b = ((bv a ||| bv b).toNat : Int) := by
 unfold orU bitsI
 exact wrapU (bv a ||| bv b).isLt
theorem has_or (a b : Int) (k : Nat) : hasB (orU a b) k = (hasB a k || hasB b k) := by
 unfold hasB; rw [orU_eq, bv_nat]; simp
theorem has_and (a b : Int) (k : Nat) : hasB (andU a b) k = (hasB a k && hasB b k) := by
 unfold hasB; rw [andU_eq, bv_nat]; simp
theorem eq_of_has {a b : Int} (ha : inU a) (hb : inU b) (h : ∀ k, hasB a k = hasB b k) : a = b := by
 rw [← bv_back ha, ← bv_back hb]
 congr 2
 exact BitVec.eq_of_getLsbD_eq fun k _ => h k
theorem has_zero (k : Nat) : hasB 0 k = false := by simp [hasB, bv]
theorem has_high (n : Int) (k : Nat) (h : 64 ≤ k) : hasB n k = false := BitVec.getLsbD_of_ge _ _ h
theorem has_bit_low : ∀ i : Nat, i < 8 → ∀ k : Nat, k < 64 → hasB (bit i) k = decide (k = i) := by decide +kernel
theorem has_bit (i : Nat) (hi : i < 8) (k : Nat) : hasB (bit i) k = decide (k = i) := by
 by_cases h : k < 64
 · exact has_bit_low i hi k h
 · rw [has_high _ _ (by omega)]
   exact (dfO).symm
theorem and_bit (x : Int) (i : Nat) (hi : i < 8) : andU x (bit i) = 0 ↔ hasB x i = false := by
 constructor
 · intro h
   have h1 := has_and x (bit i) i
   rw [h, has_zero, has_bit i hi, decide_eq_true rfl, Bool.and_true] at h1
   exact h1.symm
 · intro h
   refine eq_of_has (inU_and _ _) ⟨by omega, by omega⟩ fun k => ?_
   rw [has_and, has_zero, has_bit i hi]
   by_cases hk : k = i
   · rw [hk, h, Bool.false_and]
   · rw [decide_eq_false hk, Bool.and_false]
theorem or_lt {o : Int} {v L : Nat} (h0 : 0 ≤ o) (ho : o < bit L) (hv : v < L) (hL : L ≤ 8) : orU o (bit v) < bit L ∧ 0 ≤ orU o (bit v) := by
 have hb : ∀ i : Nat, i < 9 → bit i = ((2 ^ i : Nat) : Int) := by decide +kernel
 rw [orU_eq]
 refine ⟨?_, by omega⟩
 have p8 : 2 ^ L ≤ 2 ^ 8 := Nat.pow_le_pow_right (by omega) hL
 have pv : 2 ^ v < 2 ^ L := Nat.pow_lt_pow_right (by omega) hv
 rw [hb L (by omega)] at ho ⊢
 rw [hb v (by omega), BitVec.toNat_or]
 have h1 : (bv o).toNat < 2 ^ L := by
  have := bv_back (n := o) ⟨h0, by omega⟩
  omega
 have h2 : (bv ((2 ^ v : Nat) : Int)).toNat < 2 ^ L := by
  have hq : (2 ^ v : Nat) < 2 ^ 8 := Nat.lt_of_lt_of_le pv p8
  generalize 2 ^ v = q at pv hq ⊢
  have := bv_back (n := (q : Int)) ⟨by omega, by omega⟩
  omega
 have := Nat.or_lt_two_pow h1 h2
 omega
theorem vmay_spec {l : List Latest} {o : Int} (h : vmayB l o = true) : 1 ≤ l.length ∧ l.length ≤ 8 ∧ o < bit l.length ∧ ∀ i, i < l.length → vbad o i (l.getD i zLatest) = false := by
 simp only [vmayB, Bool.and_eq_true, decide_eq_true_eq, List.all_eq_true, Bool.not_eq_true'] at h
 exact ⟨h.1, h.2.1, h.2.2.1, fun i hi => h.2.2.2 i (List.mem_range.2 hi)⟩
theorem vmay_of {l : List Latest} {o : Int} (h : 1 ≤ l.length ∧ l.length ≤ 8 ∧ o < bit l.length ∧ ∀ i, i < l.length → vbad o i (l.getD i zLatest) = false) : vmayB l o = true := by
 simp only [vmayB, Bool.and_eq_true, decide_eq_true_eq, List.all_eq_true, Bool.not_eq_true']
 exact ⟨h.1, h.2.1, h.2.2.1, fun i hi => h.2.2.2 i (List.mem_range.1 hi)⟩
theorem getD_setL (l : List Latest) (k j : Nat) (x : Latest) : (l.set k x).getD j zLatest = if k = j ∧ k < l.length then x else l.getD j zLatest := by
 simp only [List.getD_eq_getElem?_getD, List.getElem?_set]
 by_cases h : k = j
 · subst h
   by_cases hk : k < l.length
   · simp [hk]
   · simp [hk]
 · simp [h]
theorem vput_may {vl : List Latest} {o : Int} {v : Nat} {r : Root} {ep : Int} (h : vmayB vl o = true) (ho : 0 ≤ o) (hv : v < vl.length) : vmayB (vputR vl o v r ep).1 (vputR vl o v r ep).2 = true ∧ 0 ≤ (vputR vl o v r ep).2 ∧ (vputR vl o v r ep).1.length = vl.length := by
 obtain ⟨h1, h8, hb, hall⟩ := vmay_spec h
 unfold vputR
 by_cases h0 : howR vl o v r ep = 0
 · rw [if_pos h0]
   refine ⟨vmay_of ?_, ho, List.length_set⟩
   simp only [List.length_set]
   refine ⟨h1, h8, hb, fun i hi => ?_⟩
   rw [getD_setL]
   split
   · next hh =>
     have hz : andU o (bit v) = 0 := by
      unfold howR at h0
      split at h0
      · cases h0
      · next hz => exact Decidable.not_not.1 hz
     have e : vbad o i ⟨true, r, ep⟩ = ((false || decide (¬ andU o (bit i) = 0)) && !decide ((⟨true, r, ep⟩ : Latest) = zLatest)) := rfl
     rw [e, ← hh.1, decide_eq_false (fun h => h hz), Bool.or_false, Bool.false_and]
   · exact hall i hi
 · rw [if_neg h0]
   by_cases h2 : howR vl o v r ep = 2
   · rw [if_pos h2]
     have hor := or_lt ho hb hv h8
     refine ⟨vmay_of ?_, hor.2, List.length_set⟩
     simp only [List.length_set]
     refine ⟨h1, h8, hor.1, fun i hi => ?_⟩
     rw [getD_setL]
     split
     · next hh =>
       unfold vbad
       rw [decide_eq_true rfl, Bool.not_true, Bool.and_false]
     · next hh =>
       have hne : v ≠ i := fun h => hh ⟨h, hv⟩
       have ha : (andU (orU o (bit v)) (bit i) = 0) ↔ (andU o (bit i) = 0) := by
        rw [and_bit _ i (by omega), and_bit _ i (by omega), has_or, has_bit v (by omega), decide_eq_false (fun h => hne h.symm), Bool.or_false]
       have hx := hall i hi
       unfold vbad at hx ⊢
       rw [decide_eq_decide.2 (not_congr ha)]
       exact hx
   · rw [if_neg h2]
     exact ⟨h, ho, rfl⟩
end Go.Proofs.YtekjdikofhdcpaaGreatDoor
set_option linter.unusedSimpArgs false
set_option maxRecDepth 10000
namespace Go.Proofs.YtekjdikofhdcpaaGreatDoor
open Go Go.Ab
def resW (t : List Node) (i : Int) (w : List Int) : List Int := (keptL t i t.length).map fun k => w.getD k 0
section
variable {t : List Node} {i : Int}
theorem CutAt.resLen (h : CutAt t i) (w : List Int) : (resW t i w).length = (cutR t i).length := by rw [resW, List.length_map, h.len]
theorem resW_at (w : List Int) {k : Nat} (hk : k < t.length) (ha : aboveF t i k = true) : (resW t i w).getD (phi t i k) 0 = w.getD k 0 := by
 obtain ⟨h1, h2⟩ := keptL_at hk ha
 unfold resW
 rw [List.getD_eq_getElem?_getD, List.getElem?_map, h1]
 rfl
theorem resW_ext {w v : List Int} (h : ∀ k, k < t.length → aboveF t i k = true → w.getD k 0 = v.getD k 0) : resW t i w = resW t i v := by
 unfold resW
 refine List.map_congr_left fun k hk => ?_
 obtain ⟨h1, h2⟩ := keptL_mem.1 hk
 exact h k h1 h2
theorem resW_eq (h : CutAt t i) {w : List Int} {l : List Int} (hl : l.length = (cutR t i).length) (he : ∀ k, k < t.length → aboveF t i k = true → l.getD (phi t i k) 0 = w.getD k 0) : l = resW t i w := by
 refine List.ext_getElem (by rw [hl, h.resLen]) fun j h1 h2 => ?_
 obtain ⟨k, h3, h4, rfl⟩ := h.back (show j < (cutR t i).length by omega)
 have h5 := he k h3 h4
 rw [← resW_at w h3 h4] at h5
 rw [List.getD_eq_getElem?_getD, List.getD_eq_getElem?_getD, List.getElem?_eq_getElem h1, List.getElem?_eq_getElem h2] at h5
 exact h5
theorem getD_add (l : List Int) (k j : Nat) (x : Int) : (addAt l k x).getD j 0 = if k = j ∧ k < l.length then IntKind.u64.wrap (l.getD k 0 + x) else l.getD j 0 := by
 unfold addAt
 rw [getD_set]
theorem addAt_len (l : List Int) (k : Nat) (x : Int) : (addAt l k x).length = l.length := by unfold addAt; rw [List.length_set]
theorem CutAt.add (h : CutAt t i) {l : List Int} (hl : l.length = t.length) {k : Nat} (hk : k < t.length) (ha : aboveF t i k = true) (x : Int) : addAt (resW t i l) (phi t i k) x = resW t i (addAt l k x) := by
 have h1 := (h.at hk ha).1
 refine resW_eq h (by rw [addAt_len, h.resLen]) fun j hj hja => ?_
 rw [getD_add, getD_add, resW_at l hk ha, resW_at l hj hja, h.resLen]
 by_cases hkj : k = j
 · subst hkj
   rw [if_pos ⟨rfl, h1⟩, if_pos ⟨rfl, by omega⟩]
 · rw [if_neg (fun hh => hkj ((phi_inj ha hja).1 hh.1)), if_neg (fun hh => hkj hh.1)]
theorem CutAt.addOff (_ : CutAt t i) {l : List Int} {k : Nat} (ha : aboveF t i k = false) (x : Int) : resW t i (addAt l k x) = resW t i l :=
 resW_ext fun j _ hja => by
  rw [getD_add, if_neg]
  rintro ⟨rfl, _⟩
  rw [ha] at hja
  cases hja
theorem votTo_drop (h : CutAt t i) (vl : List Latest) (b : List Int) : ∀ m, m ≤ vl.length → votTo (cutR t i) (dropL ((cutR t i).map Node.root) vl) [] b m = resW t i (votTo t vl [] b m)
 | 0, _ => by
   refine resW_eq h (by rw [votTo_len]) fun k hk ha => ?_
   have h1 := (h.at hk ha).1
   simp only [votTo]
   rw [List.getD_eq_getElem?_getD, List.getD_eq_getElem?_getD, List.getElem?_replicate, List.getElem?_replicate, if_pos h1, if_pos hk]
 | m + 1, hm => by
   have ih := votTo_drop h vl b m (by omega)
   have hlen := votTo_len t vl [] b m
   have hx : (dropL ((cutR t i).map Node.root) vl).getD m zLatest = dropX ((cutR t i).map Node.root) (vl.getD m zLatest) := by
    unfold dropL
    rw [List.getD_eq_getElem?_getD, List.getD_eq_getElem?_getD, List.getElem?_map, List.getElem?_eq_getElem (by omega)]
    rfl
   rw [votTo, votTo, ih, hx]
   generalize votTo t vl [] b m = l at hlen
   generalize vl.getD m zLatest = x
   have hin := h.in_roots x.root
   unfold dropX
   by_cases hr : x.root ∈ (cutR t i).map Node.root
   · rw [if_pos hr]
     have hc := hin.1 hr
     obtain ⟨k, h1, h2, h3⟩ := inC_spec hc
     unfold votS
     split
     · rfl
     · rw [h.find', hc, if_pos rfl, h1]
       simp only [Int.toNat_natCast]
       rw [if_neg (by omega), if_neg (by omega)]
       exact h.add hlen h2 h3 _
   · rw [if_neg hr]
     have hc : inC t i x.root = false := by
      cases hh : inC t i x.root
      · rfl
      · exact absurd (hin.2 hh) hr
     have e1 : votS (cutR t i) [] b (resW t i l) m zLatest = resW t i l := by
      unfold votS
      exact if_pos rfl
     rw [e1]
     unfold votS
     split
     · rfl
     · split
       · rfl
       · next hk =>
         refine (h.addOff ?_ _).symm
         unfold inC at hc
         rw [decide_eq_true (show 0 ≤ findR t x.root by omega), Bool.true_and] at hc
         rwa [Int.toNat_of_nonneg (by omega)]
theorem CutAt.set (h : CutAt t i) {l : List Int} (hl : l.length = t.length) {k : Nat} (hk : k < t.length) (ha : aboveF t i k = true) (x : Int) : (resW t i l).set (phi t i k) x = resW t i (l.set k x) := by
 have h1 := (h.at hk ha).1
 refine resW_eq h (by rw [List.length_set, h.resLen]) fun j hj hja => ?_
 rw [getD_set, getD_set, resW_at l hj hja, h.resLen]
 by_cases hkj : k = j
 · subst hkj
   rw [if_pos ⟨rfl, h1⟩, if_pos ⟨rfl, by omega⟩]
 · rw [if_neg (fun hh => hkj ((phi_inj ha hja).1 hh.1)), if_neg (fun hh => hkj hh.1)]
theorem CutAt.setOff (_ : CutAt t i) {l : List Int} {k : Nat} (ha : aboveF t i k = false) (x : Int) : resW t i (l.set k x) = resW t i l :=
 resW_ext fun j _ hja => by
  rw [getD_set, if_neg]
  rintro ⟨rfl, _⟩
  rw [ha] at hja
  cases hja
theorem CutAt.up (h : CutAt t i) {v : List Int} (hl : v.length = t.length) {k : Nat} (hk : k < t.length) : resW t i (upW t v k) = if aboveF t i k = true then upW (cutR t i) (resW t i v) (phi t i k) else resW t i v := by
 have hp := par_range h.may (a := (k : Int)) (by omega) (by omega)
 have off : aboveF t i (parI t k).toNat = false → resW t i (upW t v k) = resW t i v := fun hf => by
  unfold upW
  split
  · rfl
  · exact h.setOff hf _
 split
 · next ha =>
   by_cases hki : (k : Int) = i
   · have h1 : upW (cutR t i) (resW t i v) (phi t i k) = resW t i v := by
      unfold upW
      rw [h.par hk ha, if_pos hki, if_pos (by omega)]
     rw [h1]
     rcases hp with hp | hp
     · unfold upW
       rw [if_pos (by omega)]
     · refine off ?_
       cases hh : aboveF t i (parI t k).toNat
       · rfl
       · have := aboveF_ge h.may (a := ((parI t k).toNat : Int)) (by omega) (by omega) hh
         omega
   · obtain ⟨p0, p1, p2⟩ := h.kept_par hk ha hki
     unfold upW
     rw [h.par hk ha, if_neg hki, if_neg (by omega), if_neg (by omega), Int.toNat_natCast, resW_at v (by omega) p2, resW_at v hk ha]
     exact (h.set hl (by omega) p2 _).symm
 · next ha =>
   have hki : (k : Int) ≠ i := fun hh => ha (by rw [hh]; exact h.self)
   rcases hp with hp | hp
   · unfold upW
     rw [if_pos (by omega)]
   · refine off ?_
     cases hh : aboveF t i (parI t k).toNat
     · rfl
     · exact absurd ((par_kept h.may hk hki).2 ⟨hp.1, keptL_mem.2 ⟨by omega, hh⟩⟩) ha
theorem phi_succ (t : List Node) (i : Int) (k : Nat) : phi t i (k + 1) = phi t i k + if aboveF t i k = true then 1 else 0 := by
 unfold phi
 rw [keptL_succ, List.length_append]
 split <;> rfl
theorem phi_le (t : List Node) (i : Int) {a b : Nat} (h : a ≤ b) : phi t i a ≤ phi t i b := by
 induction b with
 | zero => have : a = 0 := by omega
           subst this; exact Nat.le_refl _
 | succ b ih =>
   rcases Nat.eq_or_lt_of_le h with h1 | h1
   · subst h1; exact Nat.le_refl _
   · have := ih (by omega)
     rw [phi_succ]
     omega
theorem CutAt.subTo (h : CutAt t i) {w : List Int} (hw : w.length = t.length) : ∀ m, m ≤ t.length → resW t i (subTo t w m) = Go.Proofs.YtekjdikofhdcpaaGreatDoor.subTo (cutR t i) (resW t i w) ((cutR t i).length - phi t i (t.length - m))
 | 0, _ => by
   have : (cutR t i).length = phi t i t.length := h.len
   rw [Nat.sub_zero, this, Nat.sub_self]
   rfl
 | m + 1, hm => by
   have ih := h.subTo hw m (by omega)
   have hlen : (cutR t i).length = phi t i t.length := h.len
   have hk : t.length - 1 - m < t.length := by omega
   have e1 : t.length - m = (t.length - 1 - m) + 1 := by omega
   have e2 : t.length - (m + 1) = t.length - 1 - m := by omega
   have hle := phi_le t i (show t.length - m ≤ t.length by omega)
   rw [e1] at ih hle
   rw [e2]
   show resW t i (upW t (Go.Proofs.YtekjdikofhdcpaaGreatDoor.subTo t w m) (t.length - 1 - m)) = _
   rw [h.up (by rw [subTo_len]; exact hw) hk]
   generalize t.length - 1 - m = k at *
   rw [phi_succ] at ih hle
   split
   · next ha =>
     rw [if_pos ha] at ih hle
     have e3 : (cutR t i).length - phi t i k = ((cutR t i).length - (phi t i k + 1)) + 1 := by omega
     rw [e3, Go.Proofs.YtekjdikofhdcpaaGreatDoor.subTo, ih]
     congr 1
     omega
   · next ha =>
     rw [if_neg ha] at ih
     exact ih
theorem CutAt.weights (h : CutAt t i) (vl : List Latest) (b : List Int) : weights (cutR t i) (dropL ((cutR t i).map Node.root) vl) b = resW t i (Go.Proofs.YtekjdikofhdcpaaGreatDoor.weights t vl b) := by
 unfold Go.Proofs.YtekjdikofhdcpaaGreatDoor.weights ownW subW
 have hl : (dropL ((cutR t i).map Node.root) vl).length = vl.length := by rw [dropL, List.length_map]
 rw [hl, votTo_drop h vl b vl.length (Nat.le_refl _), h.subTo (votTo_len t vl [] b vl.length) t.length (Nat.le_refl _), Nat.sub_self]
 congr 1
theorem dropL_may {rs : List Root} {vl : List Latest} {o : Int} (h : vmayB vl o = true) : vmayB (dropL rs vl) o = true := by
 obtain ⟨h1, h2, h3, h4⟩ := vmay_spec h
 have hl : (dropL rs vl).length = vl.length := by rw [dropL, List.length_map]
 refine vmay_of ?_
 rw [hl]
 refine ⟨h1, h2, h3, fun j hj => ?_⟩
 have hx : (dropL rs vl).getD j zLatest = dropX rs (vl.getD j zLatest) := by
  unfold dropL
  rw [List.getD_eq_getElem?_getD, List.getD_eq_getElem?_getD, List.getElem?_map, List.getElem?_eq_getElem hj]
  rfl
 rw [hx]
 unfold dropX
 split
 · exact h4 j hj
 · unfold vbad
   rw [decide_eq_true rfl, Bool.not_true, Bool.and_false]
end
theorem root198_c (l : List Root) (r : Root) (hl : l.length ≤ 100000) : Cal Tryz.prog 193 [.sl (rv l) false, .root r] (.int .i64 (fidx (fun x => decide (r = x)) l)) := by
 unfold rv
 have hR : Tryz.f193.results.toList = [.tmp 4] := rfl
 refine cal_tr Tryz.func193 rfl fun E hE hP => ?_
 refine mW ?_
 refine Tr.loop (fun i : Nat => (⟨[(0, .sl (l.map AV.root) false), (3, .ptr 0 [] 0), (7, .int .i64 l.length), (8, .int .i64 i)], [(0, .var (.root r))], 1, []⟩ : S)) (fun i => i ≤ l.length ∧ ∀ j (hj : j < l.length), j < i → decide (r = l[j]) = false) (fun i => l.length - i) 0 ⟨Nat.zero_le _, fun _ _ h => by omega⟩ ?_ ?_
 · exact mK
 · intro i ⟨hi, hall⟩
   by_cases hlt : i < l.length
   · have e1 : decide ((i : Int) < (l.length : Int)) = true := dtO
     have hn := nth_map_lt AV.root l i hlt
     have hw := wN i
     cases hp : decide (r = l[i])
     · have ff := And.intro e1 (And.intro hn (And.intro hw hp))
       refine mW ?_
       refine ⟨i + 1, ⟨hlt, fun j hj hji => ?_⟩, by omega, ?_⟩
       · rcases Nat.lt_or_ge j i with h | h
         · exact hall j hj h
         · have : j = i := by omega
           subst this; exact hp
       · exact mK
     · have er := fidx_at (p := fun x => decide (r = x)) hlt (fun j hj => hall j (by omega) hj) hp
       have ff := And.intro e1 (And.intro hn (And.intro hw (And.intro hp er)))
       exact mWE
   · have e1 : decide ((i : Int) < (l.length : Int)) = false := dfO
     have er := fidx_none (p := fun x => decide (r = x)) (l := l) fun j hj => hall j hj (by omega)
     have ff := And.intro e1 er
     exact mWE
theorem root141_c (l : List Root) (r : Root) (hl : l.length ≤ 100000) : Cal Tryz.prog 126 [.sl (rv l) false, .root r] (.bool (decide (r ∈ l))) := by
 have c1 := root198_c l r hl
 have er : decide (0 ≤ fidx (fun x => decide (r = x)) l) = decide (r ∈ l) := by
  rw [fidx_any]
  by_cases h : r ∈ l
  · rw [decide_eq_true h, List.any_eq_true]
    exact ⟨r, h, by simp⟩
  · rw [decide_eq_false h, List.any_eq_false]
    intro x hx hh
    exact h (of_decide_eq_true hh ▸ hx)
 have ff := er
 have hR : Tryz.f126.results.toList = [.tmp 4] := rfl
 refine cal_tr Tryz.func126 rfl fun E hE hP => ?_
 exact mX
def goneB (keep : List Root) (c : Check) : Bool := !decide (c.root ∈ keep)
theorem gone_c (keep : List Root) (c : Check) (hl : keep.length ≤ 100000) : Cal Tryz.prog 125 [c.av, .ref (.sl (rv keep) false)] (.bool (goneB keep c)) := by
 have c1 := root141_c keep c.root hl
 unfold goneB
 have hR : Tryz.f125.results.toList = [.tmp 3] := rfl
 refine cal_tr Tryz.func125 rfl fun E hE hP => ?_
 exact mX
def keepG (keep : List Root) : AV := .ref (.fn (.func 125) [] [.ref (.sl (rv keep) false)])
def pruA (e : Eng) (b : Block) (x : Att) (c : Ask) (K J : AV) : AV := .st [engX e (.sl (e.t.map Node.av) false) (u64s e.b) (.sl (e.vl.map Latest.av) false) (u64s e.w) (atts e.late) K J, b.av, x.av, c.av]
attribute [go_sem] pruA keepG
def linkGone (keep : List Root) (f : Int) (a : Link) : Bool := goneB keep a.s || (goneB keep a.t || decide (a.t.epoch ≤ f))
def pru4 (e : Eng) (b : Block) (x : Att) (c : Ask) (n m : Nat) (L M : List AV) : HP := [(0, .var (pruA e b x c (.ms 2 67 n) (.ms 3 33 m))), (1, .var (.ptr 0 [] 0)), (2, .row 67 L), (3, .row 33 M)]
theorem f144_c (e : Eng) (b : Block) (x : Att) (c : Ask) (n m : Nat) (L M : List AV) (keep : List Root) (hl : keep.length ≤ 100000) (a : Link) : CalE Tryz.prog 129 [a.av, keepG keep, .ptr 1 [] 0] 4 (pru4 e b x c n m L M) (.bool (linkGone keep e.fin.epoch a)) (pru4 e b x c n m L M) := by
 have c1 := gone_c keep a.s hl
 have c2 := gone_c keep a.t hl
 unfold pru4
 cases h1 : goneB keep a.s
 · cases h2 : goneB keep a.t
   · have er : linkGone keep e.fin.epoch a = decide (a.t.epoch ≤ e.fin.epoch) := by rw [linkGone, h1, h2]; rfl
     rw [h1] at c1
     rw [h2] at c2
     rw [er]
     have hR : Tryz.f129.results.toList = [.tmp 4] := rfl
     refine calE_tr Tryz.func129 rfl fun E hE hP => ?_
     exact mX
   · have er : linkGone keep e.fin.epoch a = true := by rw [linkGone, h1, h2]; rfl
     rw [h1] at c1
     rw [h2] at c2
     rw [er]
     have hR : Tryz.f129.results.toList = [.tmp 4] := rfl
     refine calE_tr Tryz.func129 rfl fun E hE hP => ?_
     exact mX
 · have er : linkGone keep e.fin.epoch a = true := by rw [linkGone, h1]; rfl
   rw [h1] at c1
   rw [er]
   have hR : Tryz.f129.results.toList = [.tmp 4] := rfl
   refine calE_tr Tryz.func129 rfl fun E hE hP => ?_
   exact mX
theorem lidx189 (e : Eng) (b : Block) (x : Att) (c : Ask) (m : Nat) (M : List AV) (keep : List Root) (hk : keep.length ≤ 100000) (l : List Link) (hl : l.length ≤ 100000) : CalE Tryz.prog 196 [.ms 2 67 l.length, .fn (.func 129) [] [keepG keep, .ptr 1 [] 0]] 4 (pru4 e b x c l.length m (l.map Link.av) M) (.int .i64 (fidx (linkGone keep e.fin.epoch) l)) (pru4 e b x c l.length m (l.map Link.av) M) := by
 unfold pru4
 have hR : Tryz.f196.results.toList = [.tmp 4] := rfl
 refine calE_tr Tryz.func196 rfl fun E hE hP => ?_
 refine mW ?_
 refine Tr.loop (fun i : Nat => (⟨[(0, .ms 2 67 l.length), (1, .fn (.func 129) [] [keepG keep, .ptr 1 [] 0]), (7, .int .i64 l.length), (8, .int .i64 i)], pru4 e b x c l.length m (l.map Link.av) M, 4, []⟩ : S)) (fun i => i ≤ l.length ∧ ∀ j (hj : j < l.length), j < i → linkGone keep e.fin.epoch l[j] = false) (fun i => l.length - i) 0 ⟨Nat.zero_le _, fun _ _ h => by omega⟩ ?_ ?_
 · unfold pru4
   exact mK
 · intro i ⟨hi, hall⟩
   by_cases hlt : i < l.length
   · have e1 : decide ((i : Int) < (l.length : Int)) = true := dtO
     have hn : (l.map Link.av)[i]? = some l[i].av := by simp [hlt]
     have hw := wN i
     have y1 := f144_c e b x c l.length m (l.map Link.av) M keep hk l[i]
     unfold pru4 at y1 ⊢
     cases hp : linkGone keep e.fin.epoch l[i]
     · rw [hp] at y1
       have ff := And.intro e1 (And.intro hn hw)
       refine mW ?_
       refine ⟨i + 1, ⟨hlt, fun j hj hji => ?_⟩, by omega, ?_⟩
       · rcases Nat.lt_or_ge j i with h | h
         · exact hall j hj h
         · have : j = i := by omega
           subst this; exact hp
       · exact mK
     · rw [hp] at y1
       have er := fidx_at hlt (fun j hj => hall j (by omega) hj) hp
       have ff := And.intro e1 (And.intro hn (And.intro hw er))
       exact mX
   · have e1 : decide ((i : Int) < (l.length : Int)) = false := dfO
     have er := fidx_none (p := linkGone keep e.fin.epoch) (l := l) fun j hj => hall j hj (by omega)
     unfold pru4
     have ff := And.intro e1 er
     exact mX
section
variable {α : Type}
def delTo (p : α → Bool) (l : List α) (j : Nat) : List α := (l.take j).filter fun a => !p a
def delL (p : α → Bool) (l : List α) : List α := l.filter fun a => !p a
theorem delTo_next {p : α → Bool} {l : List α} {j : Nat} (h : j < l.length) : delTo p l (j + 1) = delTo p l j ++ (if p l[j] then [] else [l[j]]) := by
 unfold delTo
 rw [List.take_add_one, List.getElem?_eq_getElem h, Option.toList_some, List.filter_append]
 cases hp : p l[j] <;> simp [hp]
theorem delTo_first {p : α → Bool} {l : List α} {i : Nat} (h : i < l.length) (hb : ∀ j (hj : j < i), p (l[j]'(by omega)) = false) (hi : p l[i] = true) : delTo p l (i + 1) = l.take i := by
 rw [delTo_next h, hi, if_pos rfl, List.append_nil]
 unfold delTo
 rw [List.filter_eq_self]
 intro a ha
 obtain ⟨j, hj, rfl⟩ := List.mem_iff_getElem.1 ha
 rw [List.length_take] at hj
 rw [List.getElem_take, hb j (by omega)]
 rfl
structure Del (p : α → Bool) (l : List α) (j : Nat) (L : List α) : Prop where
 le : j ≤ l.length
 len : L.length = l.length
 kept : L.take (delTo p l j).length = delTo p l j
 rest : L.drop j = l.drop j
 lt : (delTo p l j).length < j
theorem Del.at {p : α → Bool} {l L : List α} {j : Nat} (h : Del p l j L) (hj : j < l.length) : L[j]? = some l[j] := by
 have h1 := congrArg List.head? h.rest
 rw [List.head?_drop, List.head?_drop, List.getElem?_eq_getElem hj] at h1
 exact h1
theorem Del.skip {p : α → Bool} {l L : List α} {j : Nat} (h : Del p l j L) (hj : j < l.length) (hp : p l[j] = true) : Del p l (j + 1) L := by
 have e : delTo p l (j + 1) = delTo p l j := by rw [delTo_next hj, hp, if_pos rfl, List.append_nil]
 refine ⟨hj, h.len, by rw [e]; exact h.kept, ?_, by rw [e]; have := h.lt; omega⟩
 have := congrArg (List.drop 1) h.rest
 rwa [List.drop_drop, List.drop_drop] at this
theorem Del.keep {p : α → Bool} {l L : List α} {j : Nat} (h : Del p l j L) (hj : j < l.length) (hp : p l[j] = false) : Del p l (j + 1) (L.set (delTo p l j).length l[j]) := by
 have e : delTo p l (j + 1) = delTo p l j ++ [l[j]] := by rw [delTo_next hj, hp, if_neg (by decide)]
 have hlt := h.lt
 have hlen := h.len
 refine ⟨hj, by rw [List.length_set]; exact h.len, ?_, ?_, by rw [e, List.length_append, List.length_singleton]; omega⟩
 · rw [e, List.length_append, List.length_singleton, List.take_add_one, List.take_set_of_le (Nat.le_refl _), h.kept, List.getElem?_set, if_pos rfl, if_pos (by omega)]
   rfl
 · rw [List.drop_set_of_lt (by omega)]
   have := congrArg (List.drop 1) h.rest
   rwa [List.drop_drop, List.drop_drop] at this
theorem Del.done {p : α → Bool} {l L : List α} (h : Del p l l.length L) : L.take (delL p l).length = delL p l := by
 have := h.kept
 unfold delTo at this
 rwa [List.take_length] at this
end
theorem ldel_no (e : Eng) (b : Block) (x : Att) (c : Ask) (m : Nat) (M : List AV) (keep : List Root) (hk : keep.length ≤ 100000) (l : List Link) (hl : l.length ≤ 100000) (h : ∀ j (hj : j < l.length), linkGone keep e.fin.epoch l[j] = false) :
 CalE Tryz.prog 128 [.ms 2 67 l.length, .fn (.func 129) [] [keepG keep, .ptr 1 [] 0]] 4 (pru4 e b x c l.length m (l.map Link.av) M) (.ms 2 67 l.length) (pru4 e b x c l.length m (l.map Link.av) M) := by
 have y1 := lidx189 e b x c m M keep hk l hl
 rw [fidx_none h] at y1
 unfold pru4 at y1 ⊢
 have hR : Tryz.f128.results.toList = [.tmp 4] := rfl
 refine calE_tr Tryz.func128 rfl fun E hE hP => ?_
 exact mX
set_option maxHeartbeats 1000000 in
theorem ldel_w (e : Eng) (b : Block) (x : Att) (c : Ask) (m : Nat) (M : List AV) (keep : List Root) (hk : keep.length ≤ 100000) (l : List Link) (hl : l.length ≤ 100000) (i0 : Nat) (h0 : i0 < l.length) (hb : ∀ j (hj : j < i0), linkGone keep e.fin.epoch (l[j]'(by omega)) = false) (hi0 : linkGone keep e.fin.epoch l[i0] = true) :
 CalE Tryz.prog 128 [.ms 2 67 l.length, .fn (.func 129) [] [keepG keep, .ptr 1 [] 0]] 4 (pru4 e b x c l.length m (l.map Link.av) M) (cutV 2 67 l.length (delL (linkGone keep e.fin.epoch) l).length) (pru4 e b x c l.length m ((delL (linkGone keep e.fin.epoch) l).map Link.av) M) := by
 have y1 := lidx189 e b x c m M keep hk l hl
 rw [fidx_at h0 hb hi0] at y1
 have d0 := delTo_first h0 hb hi0
 have hw0 := wN i0
 have e0 : decide ((i0 : Int) = -1) = false := dfO
 have hf : ∀ L a, CalE Tryz.prog 129 [Link.av a, keepG keep, .ptr 1 [] 0] 4 (pru4 e b x c l.length m L M) (.bool (linkGone keep e.fin.epoch a)) (pru4 e b x c l.length m L M) := fun L a => f144_c e b x c l.length m L M keep hk a
 generalize linkGone keep e.fin.epoch = p at *
 have hd0 : Del p l (i0 + 1) l := ⟨h0, rfl, by rw [d0, List.length_take, Nat.min_eq_left (by omega)], rfl, by rw [d0, List.length_take]; omega⟩
 have hL0 : (delTo p l (i0 + 1)).length = i0 := by rw [d0, List.length_take, Nat.min_eq_left (by omega)]
 unfold pru4 at y1 hf ⊢
 have ff := And.intro e0 hw0
 have hR : Tryz.f128.results.toList = [.tmp 4] := rfl
 refine ⟨enters_of Tryz.func128 kR rfl, eff_of_tr Tryz.func128 rfl nb (cutV_idsB 2 67 _ _ (by omega)) fun E hE hP => ?_⟩
 refine mW ?_
 refine Tr.loop (fun q : Nat × List Link => (⟨[(0, .ms 2 67 l.length), (1, .fn (.func 129) [] [keepG keep, .ptr 1 [] 0]), (5, .int .i64 (delTo p l q.1).length), (6, .int .i64 q.1)], [(0, .var (pruA e b x c (.ms 2 67 l.length) (.ms 3 33 m))), (1, .var (.ptr 0 [] 0)), (2, .row 67 (q.2.map Link.av)), (3, .row 33 M)], 4, []⟩ : S)) (fun q => Del p l q.1 q.2) (fun q => l.length - q.1) (i0 + 1, l) hd0 ?_ ?_
 · simp only [hL0]
   exact mK
 · rintro ⟨j, L⟩ hD
   simp only at hD
   by_cases hlt : j < l.length
   · have e1 : decide ((j : Int) < (l.length : Int)) = true := dtO
     have hx : (L.map Link.av)[j]? = some l[j].av := by rw [List.getElem?_map, hD.at hlt]; rfl
     have hw := wN j
     have y1 := hf (L.map Link.av) l[j]
     cases hp : p l[j]
     · rw [hp] at y1
       have hlt2 := hD.lt
       have hlen := hD.len
       have hK := hD.keep hlt hp
       have hnl : (delTo p l (j + 1)).length = (delTo p l j).length + 1 := by rw [delTo_next hlt, hp, if_neg (by decide), List.length_append, List.length_singleton]
       have hxi : (L.map Link.av)[(delTo p l j).length]? = some (L[(delTo p l j).length]'(by omega)).av := by rw [List.getElem?_map, List.getElem?_eq_getElem (by omega)]; rfl
       have hw2 := wrap_next (n := (delTo p l j).length) (by omega)
       have g1 : (delTo p l j).length < l.length := by omega
       generalize (L[(delTo p l j).length]'(by omega)) = y at hxi
       generalize (delTo p l j).length = i at *
       generalize l[j] = v at *
       have ff := And.intro e1 (And.intro hx (And.intro hw (And.intro hxi hw2)))
       refine mW ?_
       refine ⟨(j + 1, L.set i v), hK, by omega, ?_⟩
       simp only [hnl, List.map_set]
       exact mK
     · rw [hp] at y1
       have hnl : (delTo p l (j + 1)).length = (delTo p l j).length := by rw [delTo_next hlt, hp, if_pos rfl, List.append_nil]
       have ff := And.intro e1 (And.intro hx hw)
       refine mW ?_
       refine ⟨(j + 1, L), hD.skip hlt hp, by omega, ?_⟩
       simp only [hnl]
       exact mK
   · have e1 : decide ((j : Int) < (l.length : Int)) = false := dfO
     have hil : j = l.length := by have := hD.le; omega
     subst hil
     have hdone := hD.done
     have hlen := hD.len
     have hlt2 := hD.lt
     have hdd : delTo p l l.length = delL p l := by unfold delTo; rw [List.take_length]; rfl
     rw [hdd] at hlt2 ⊢
     have hE2 : ((L.map Link.av).take (delL p l).length ++ List.replicate ((L.map Link.av).length - (delL p l).length) zLink.av).take (delL p l).length = (delL p l).map Link.av := by
      rw [List.take_append_of_le_length (by rw [List.length_take, List.length_map]; omega), List.take_take, Nat.min_self, ← List.map_take, hdone]
     have ff := e1
     refine mW ?_
     have hgl : HP.get [(0, .var (pruA e b x c (.ms 2 67 l.length) (.ms 3 33 m))), (1, .var (.ptr 0 [] 0)), (2, .row 67 (L.map Link.av)), (3, .row 33 M)] 2 = some (AO.row 67 (L.map Link.av)) := rfl
     have hll : (L.map Link.av).length = l.length := by rw [List.length_map, hlen]
     refine Tr.wk (s' := ⟨[(0, .ms 2 67 l.length), (5, .int .i64 (delL p l).length)], [(0, .var (pruA e b x c (.ms 2 67 l.length) (.ms 3 33 m))), (1, .var (.ptr 0 [] 0)), (2, .row 67 (L.map Link.av)), (3, .row 33 M)], 4, []⟩) ?_ ?_
     · exact mK
     refine tr_clear (s1 := ⟨[(37, .int .i64 (delL p l).length), (36, .ms 2 67 l.length), (0, .ms 2 67 l.length), (5, .int .i64 (delL p l).length)], [(0, .var (pruA e b x c (.ms 2 67 l.length) (.ms 3 33 m))), (1, .var (.ptr 0 [] 0)), (2, .row 67 (L.map Link.av)), (3, .row 33 M)], 36, []⟩) 2 _ _ 31 130 38 2 (.tmp 36) (.tmp 37) _ (sz := 67) (i := (delL p l).length) (xs := L.map Link.av) (z := zLink.av) xE rfl rfl rfl rfl rfl rfl rfl rfl rfl rfl rfl ?_ (by rw [hll]; rfl) rfl (by rw [hll]; exact hlt2) hgl rfl rfl tZero59 rfl ?_
     · intro Q hQ
       refine mS ?_
       iterate 2 refine mV ?_
       exact hQ
     refine Tr.wk (Wk.rowTake 2 67 ((L.map Link.av).take (delL p l).length ++ List.replicate ((L.map Link.av).length - (delL p l).length) zLink.av) (delL p l).length rfl) ?_
     rw [hE2]
     refine Tr.wk (s' := ⟨[(0, .ms 2 67 l.length), (5, .int .i64 (delL p l).length)], [(0, .var (pruA e b x c (.ms 2 67 l.length) (.ms 3 33 m))), (1, .var (.ptr 0 [] 0)), (2, .row 67 ((delL p l).map Link.av)), (3, .row 33 M)], 4, []⟩) ?_ ?_
     · exact mK
     refine tr_cut (s1 := ⟨[(40, .int .i64 (delL p l).length), (39, .ms 2 67 l.length), (0, .ms 2 67 l.length), (5, .int .i64 (delL p l).length)], [(0, .var (pruA e b x c (.ms 2 67 l.length) (.ms 3 33 m))), (1, .var (.ptr 0 [] 0)), (2, .row 67 ((delL p l).map Link.av)), (3, .row 33 M)], 36, []⟩)
      (s2 := ⟨[(4, cutV 2 67 l.length (delL p l).length), (41, cutV 2 67 l.length (delL p l).length), (40, .int .i64 (delL p l).length), (39, .ms 2 67 l.length), (0, .ms 2 67 l.length), (5, .int .i64 (delL p l).length)], [(0, .var (pruA e b x c (.ms 2 67 l.length) (.ms 3 33 m))), (1, .var (.ptr 0 [] 0)), (2, .row 67 ((delL p l).map Link.av)), (3, .row 33 M)], 52, []⟩) 2 _ _ 31 130 41 2 (.tmp 39) (.tmp 40) (sz := 67) (m := l.length) (i := (delL p l).length) xE rfl (by decide) rfl rfl rfl ?_ rfl rfl (by omega) rfl rfl ?_ ?_
     · intro Q hQ
       refine mS ?_
       iterate 2 refine mV ?_
       exact hQ
     · intro Q hQ
       refine mS ?_
       refine mV ?_
       exact hQ
     refine Tr.ret ?_
     simp only [hR, go_sem, seval]
     exact ⟨fun n => n, cutV_frz0 _ _ _ _, mB, rfl, fun _ _ => rfl⟩
theorem ldel_c (e : Eng) (b : Block) (x : Att) (c : Ask) (m : Nat) (M : List AV) (keep : List Root) (hk : keep.length ≤ 100000) (l : List Link) (hl : l.length ≤ 100000) :
 CalE Tryz.prog 128 [.ms 2 67 l.length, .fn (.func 129) [] [keepG keep, .ptr 1 [] 0]] 4 (pru4 e b x c l.length m (l.map Link.av) M) (cutV 2 67 l.length (delL (linkGone keep e.fin.epoch) l).length) (pru4 e b x c l.length m ((delL (linkGone keep e.fin.epoch) l).map Link.av) M) := by
 cases h : l.findIdx? (linkGone keep e.fin.epoch) with
 | none =>
   have h1 : ∀ j (hj : j < l.length), linkGone keep e.fin.epoch l[j] = false := fun j hj => by simpa using List.findIdx?_eq_none_iff.1 h l[j] (List.getElem_mem hj)
   have hd : delL (linkGone keep e.fin.epoch) l = l := by
    unfold delL
    rw [List.filter_eq_self]
    intro a ha
    obtain ⟨j, hj, rfl⟩ := List.mem_iff_getElem.1 ha
    rw [h1 j hj]
    rfl
   have he : cutV 2 67 l.length l.length = .ms 2 67 l.length := if_neg (by omega)
   rw [hd, he]
   exact ldel_no e b x c m M keep hk l hl h1
 | some i =>
   obtain ⟨h1, h2, h3⟩ := List.findIdx?_eq_some_iff_getElem.1 h
   exact ldel_w e b x c m M keep hk l hl i h1 (fun j hj => by simpa using h3 j hj) h2
def checkGone (keep : List Root) (f : Int) (a : Check) : Bool := goneB keep a || decide (a.epoch < f)
def prj3 (e : Eng) (b : Block) (x : Att) (c : Ask) (n : Nat) (L : List AV) : HP := [(0, .var (pruA e b x c (links e.k) (.ms 2 33 n))), (1, .var (.ptr 0 [] 0)), (2, .row 33 L)]
theorem f146_c (e : Eng) (b : Block) (x : Att) (c : Ask) (n : Nat) (L : List AV) (keep : List Root) (hl : keep.length ≤ 100000) (a : Check) : CalE Tryz.prog 131 [a.av, keepG keep, .ptr 1 [] 0] 3 (prj3 e b x c n L) (.bool (checkGone keep e.fin.epoch a)) (prj3 e b x c n L) := by
 have c1 := gone_c keep a hl
 unfold prj3
 cases h1 : goneB keep a
 · have er : checkGone keep e.fin.epoch a = decide (a.epoch < e.fin.epoch) := by rw [checkGone, h1]; rfl
   rw [h1] at c1
   rw [er]
   have hR : Tryz.f131.results.toList = [.tmp 4] := rfl
   refine calE_tr Tryz.func131 rfl fun E hE hP => ?_
   exact mX
 · have er : checkGone keep e.fin.epoch a = true := by rw [checkGone, h1]; rfl
   rw [h1] at c1
   rw [er]
   have hR : Tryz.f131.results.toList = [.tmp 4] := rfl
   refine calE_tr Tryz.func131 rfl fun E hE hP => ?_
   exact mX
theorem jidx201 (e : Eng) (b : Block) (x : Att) (c : Ask) (keep : List Root) (hk : keep.length ≤ 100000) (l : List Check) (hl : l.length ≤ 100000) : CalE Tryz.prog 197 [.ms 2 33 l.length, .fn (.func 131) [] [keepG keep, .ptr 1 [] 0]] 3 (prj3 e b x c l.length (l.map Check.av)) (.int .i64 (fidx (checkGone keep e.fin.epoch) l)) (prj3 e b x c l.length (l.map Check.av)) := by
 unfold prj3
 have hR : Tryz.f197.results.toList = [.tmp 4] := rfl
 refine calE_tr Tryz.func197 rfl fun E hE hP => ?_
 refine mW ?_
 refine Tr.loop (fun i : Nat => (⟨[(0, .ms 2 33 l.length), (1, .fn (.func 131) [] [keepG keep, .ptr 1 [] 0]), (7, .int .i64 l.length), (8, .int .i64 i)], prj3 e b x c l.length (l.map Check.av), 3, []⟩ : S)) (fun i => i ≤ l.length ∧ ∀ j (hj : j < l.length), j < i → checkGone keep e.fin.epoch l[j] = false) (fun i => l.length - i) 0 ⟨Nat.zero_le _, fun _ _ h => by omega⟩ ?_ ?_
 · unfold prj3
   exact mK
 · intro i ⟨hi, hall⟩
   by_cases hlt : i < l.length
   · have e1 : decide ((i : Int) < (l.length : Int)) = true := dtO
     have hn : (l.map Check.av)[i]? = some l[i].av := by simp [hlt]
     have hw := wN i
     have y1 := f146_c e b x c l.length (l.map Check.av) keep hk l[i]
     unfold prj3 at y1 ⊢
     cases hp : checkGone keep e.fin.epoch l[i]
     · rw [hp] at y1
       have ff := And.intro e1 (And.intro hn hw)
       refine mW ?_
       refine ⟨i + 1, ⟨hlt, fun j hj hji => ?_⟩, by omega, ?_⟩
       · rcases Nat.lt_or_ge j i with h | h
         · exact hall j hj h
         · have : j = i := by omega
           subst this; exact hp
       · exact mK
     · rw [hp] at y1
       have er := fidx_at hlt (fun j hj => hall j (by omega) hj) hp
       have ff := And.intro e1 (And.intro hn (And.intro hw er))
       exact mX
   · have e1 : decide ((i : Int) < (l.length : Int)) = false := dfO
     have er := fidx_none (p := checkGone keep e.fin.epoch) (l := l) fun j hj => hall j hj (by omega)
     unfold prj3
     have ff := And.intro e1 er
     exact mX
theorem jdel_no (e : Eng) (b : Block) (x : Att) (c : Ask) (keep : List Root) (hk : keep.length ≤ 100000) (l : List Check) (hl : l.length ≤ 100000) (h : ∀ j (hj : j < l.length), checkGone keep e.fin.epoch l[j] = false) :
 CalE Tryz.prog 130 [.ms 2 33 l.length, .fn (.func 131) [] [keepG keep, .ptr 1 [] 0]] 3 (prj3 e b x c l.length (l.map Check.av)) (.ms 2 33 l.length) (prj3 e b x c l.length (l.map Check.av)) := by
 have y1 := jidx201 e b x c keep hk l hl
 rw [fidx_none h] at y1
 unfold prj3 at y1 ⊢
 have hR : Tryz.f130.results.toList = [.tmp 4] := rfl
 refine calE_tr Tryz.func130 rfl fun E hE hP => ?_
 exact mX
set_option maxHeartbeats 1000000 in
theorem jdel_w (e : Eng) (b : Block) (x : Att) (c : Ask) (keep : List Root) (hk : keep.length ≤ 100000) (l : List Check) (hl : l.length ≤ 100000) (i0 : Nat) (h0 : i0 < l.length) (hb : ∀ j (hj : j < i0), checkGone keep e.fin.epoch (l[j]'(by omega)) = false) (hi0 : checkGone keep e.fin.epoch l[i0] = true) :
 CalE Tryz.prog 130 [.ms 2 33 l.length, .fn (.func 131) [] [keepG keep, .ptr 1 [] 0]] 3 (prj3 e b x c l.length (l.map Check.av)) (cutV 2 33 l.length (delL (checkGone keep e.fin.epoch) l).length) (prj3 e b x c l.length ((delL (checkGone keep e.fin.epoch) l).map Check.av)) := by
 have y1 := jidx201 e b x c keep hk l hl
 rw [fidx_at h0 hb hi0] at y1
 have d0 := delTo_first h0 hb hi0
 have hw0 := wN i0
 have e0 : decide ((i0 : Int) = -1) = false := dfO
 have hf : ∀ L a, CalE Tryz.prog 131 [Check.av a, keepG keep, .ptr 1 [] 0] 3 (prj3 e b x c l.length L) (.bool (checkGone keep e.fin.epoch a)) (prj3 e b x c l.length L) := fun L a => f146_c e b x c l.length L keep hk a
 generalize checkGone keep e.fin.epoch = p at *
 have hd0 : Del p l (i0 + 1) l := ⟨h0, rfl, by rw [d0, List.length_take, Nat.min_eq_left (by omega)], rfl, by rw [d0, List.length_take]; omega⟩
 have hL0 : (delTo p l (i0 + 1)).length = i0 := by rw [d0, List.length_take, Nat.min_eq_left (by omega)]
 unfold prj3 at y1 hf ⊢
 have ff := And.intro e0 hw0
 have hR : Tryz.f130.results.toList = [.tmp 4] := rfl
 refine ⟨enters_of Tryz.func130 kR rfl, eff_of_tr Tryz.func130 rfl nb (cutV_idsB 2 33 _ _ (by omega)) fun E hE hP => ?_⟩
 refine mW ?_
 refine Tr.loop (fun q : Nat × List Check => (⟨[(0, .ms 2 33 l.length), (1, .fn (.func 131) [] [keepG keep, .ptr 1 [] 0]), (5, .int .i64 (delTo p l q.1).length), (6, .int .i64 q.1)], [(0, .var (pruA e b x c (links e.k) (.ms 2 33 l.length))), (1, .var (.ptr 0 [] 0)), (2, .row 33 (q.2.map Check.av))], 3, []⟩ : S)) (fun q => Del p l q.1 q.2) (fun q => l.length - q.1) (i0 + 1, l) hd0 ?_ ?_
 · simp only [hL0]
   exact mK
 · rintro ⟨j, L⟩ hD
   simp only at hD
   by_cases hlt : j < l.length
   · have e1 : decide ((j : Int) < (l.length : Int)) = true := dtO
     have hx : (L.map Check.av)[j]? = some l[j].av := by rw [List.getElem?_map, hD.at hlt]; rfl
     have hw := wN j
     have y1 := hf (L.map Check.av) l[j]
     cases hp : p l[j]
     · rw [hp] at y1
       have hlt2 := hD.lt
       have hlen := hD.len
       have hK := hD.keep hlt hp
       have hnl : (delTo p l (j + 1)).length = (delTo p l j).length + 1 := by rw [delTo_next hlt, hp, if_neg (by decide), List.length_append, List.length_singleton]
       have hxi : (L.map Check.av)[(delTo p l j).length]? = some (L[(delTo p l j).length]'(by omega)).av := by rw [List.getElem?_map, List.getElem?_eq_getElem (by omega)]; rfl
       have hw2 := wrap_next (n := (delTo p l j).length) (by omega)
       have g1 : (delTo p l j).length < l.length := by omega
       generalize (L[(delTo p l j).length]'(by omega)) = y at hxi
       generalize (delTo p l j).length = i at *
       generalize l[j] = v at *
       have ff := And.intro e1 (And.intro hx (And.intro hw (And.intro hxi hw2)))
       refine mW ?_
       refine ⟨(j + 1, L.set i v), hK, by omega, ?_⟩
       simp only [hnl, List.map_set]
       exact mK
     · rw [hp] at y1
       have hnl : (delTo p l (j + 1)).length = (delTo p l j).length := by rw [delTo_next hlt, hp, if_pos rfl, List.append_nil]
       have ff := And.intro e1 (And.intro hx hw)
       refine mW ?_
       refine ⟨(j + 1, L), hD.skip hlt hp, by omega, ?_⟩
       simp only [hnl]
       exact mK
   · have e1 : decide ((j : Int) < (l.length : Int)) = false := dfO
     have hil : j = l.length := by have := hD.le; omega
     subst hil
     have hdone := hD.done
     have hlen := hD.len
     have hlt2 := hD.lt
     have hdd : delTo p l l.length = delL p l := by unfold delTo; rw [List.take_length]; rfl
     rw [hdd] at hlt2 ⊢
     have hE2 : ((L.map Check.av).take (delL p l).length ++ List.replicate ((L.map Check.av).length - (delL p l).length) zCheck.av).take (delL p l).length = (delL p l).map Check.av := by
      rw [List.take_append_of_le_length (by rw [List.length_take, List.length_map]; omega), List.take_take, Nat.min_self, ← List.map_take, hdone]
     have ff := e1
     refine mW ?_
     have hgl : HP.get [(0, .var (pruA e b x c (links e.k) (.ms 2 33 l.length))), (1, .var (.ptr 0 [] 0)), (2, .row 33 (L.map Check.av))] 2 = some (AO.row 33 (L.map Check.av)) := rfl
     have hll : (L.map Check.av).length = l.length := by rw [List.length_map, hlen]
     refine Tr.wk (s' := ⟨[(0, .ms 2 33 l.length), (5, .int .i64 (delL p l).length)], [(0, .var (pruA e b x c (links e.k) (.ms 2 33 l.length))), (1, .var (.ptr 0 [] 0)), (2, .row 33 (L.map Check.av))], 3, []⟩) ?_ ?_
     · exact mK
     refine tr_clear (s1 := ⟨[(37, .int .i64 (delL p l).length), (36, .ms 2 33 l.length), (0, .ms 2 33 l.length), (5, .int .i64 (delL p l).length)], [(0, .var (pruA e b x c (links e.k) (.ms 2 33 l.length))), (1, .var (.ptr 0 [] 0)), (2, .row 33 (L.map Check.av))], 35, []⟩) 2 _ _ 32 36 38 2 (.tmp 36) (.tmp 37) _ (sz := 33) (i := (delL p l).length) (xs := L.map Check.av) (z := zCheck.av) xE rfl rfl rfl rfl rfl rfl rfl rfl rfl rfl rfl ?_ (by rw [hll]; rfl) rfl (by rw [hll]; exact hlt2) hgl rfl rfl tZero28 rfl ?_
     · intro Q hQ
       refine mS ?_
       iterate 2 refine mV ?_
       exact hQ
     refine Tr.wk (Wk.rowTake 2 33 ((L.map Check.av).take (delL p l).length ++ List.replicate ((L.map Check.av).length - (delL p l).length) zCheck.av) (delL p l).length rfl) ?_
     rw [hE2]
     refine Tr.wk (s' := ⟨[(0, .ms 2 33 l.length), (5, .int .i64 (delL p l).length)], [(0, .var (pruA e b x c (links e.k) (.ms 2 33 l.length))), (1, .var (.ptr 0 [] 0)), (2, .row 33 ((delL p l).map Check.av))], 3, []⟩) ?_ ?_
     · exact mK
     refine tr_cut (s1 := ⟨[(40, .int .i64 (delL p l).length), (39, .ms 2 33 l.length), (0, .ms 2 33 l.length), (5, .int .i64 (delL p l).length)], [(0, .var (pruA e b x c (links e.k) (.ms 2 33 l.length))), (1, .var (.ptr 0 [] 0)), (2, .row 33 ((delL p l).map Check.av))], 35, []⟩)
      (s2 := ⟨[(4, cutV 2 33 l.length (delL p l).length), (41, cutV 2 33 l.length (delL p l).length), (40, .int .i64 (delL p l).length), (39, .ms 2 33 l.length), (0, .ms 2 33 l.length), (5, .int .i64 (delL p l).length)], [(0, .var (pruA e b x c (links e.k) (.ms 2 33 l.length))), (1, .var (.ptr 0 [] 0)), (2, .row 33 ((delL p l).map Check.av))], 51, []⟩) 2 _ _ 32 36 41 2 (.tmp 39) (.tmp 40) (sz := 33) (m := l.length) (i := (delL p l).length) xE rfl (by decide) rfl rfl rfl ?_ rfl rfl (by omega) rfl rfl ?_ ?_
     · intro Q hQ
       refine mS ?_
       iterate 2 refine mV ?_
       exact hQ
     · intro Q hQ
       refine mS ?_
       refine mV ?_
       exact hQ
     refine Tr.ret ?_
     simp only [hR, go_sem, seval]
     exact ⟨fun n => n, cutV_frz0 _ _ _ _, mB, rfl, fun _ _ => rfl⟩
theorem jdel_c (e : Eng) (b : Block) (x : Att) (c : Ask) (keep : List Root) (hk : keep.length ≤ 100000) (l : List Check) (hl : l.length ≤ 100000) :
 CalE Tryz.prog 130 [.ms 2 33 l.length, .fn (.func 131) [] [keepG keep, .ptr 1 [] 0]] 3 (prj3 e b x c l.length (l.map Check.av)) (cutV 2 33 l.length (delL (checkGone keep e.fin.epoch) l).length) (prj3 e b x c l.length ((delL (checkGone keep e.fin.epoch) l).map Check.av)) := by
 cases h : l.findIdx? (checkGone keep e.fin.epoch) with
 | none =>
   have h1 : ∀ j (hj : j < l.length), checkGone keep e.fin.epoch l[j] = false := fun j hj => by simpa using List.findIdx?_eq_none_iff.1 h l[j] (List.getElem_mem hj)
   have hd : delL (checkGone keep e.fin.epoch) l = l := by
    unfold delL
    rw [List.filter_eq_self]
    intro a ha
    obtain ⟨j, hj, rfl⟩ := List.mem_iff_getElem.1 ha
    rw [h1 j hj]
    rfl
   have he : cutV 2 33 l.length l.length = .ms 2 33 l.length := if_neg (by omega)
   rw [hd, he]
   exact jdel_no e b x c keep hk l hl h1
 | some i =>
   obtain ⟨h1, h2, h3⟩ := List.findIdx?_eq_some_iff_getElem.1 h
   exact jdel_w e b x c keep hk l hl i h1 (fun j hj => by simpa using h3 j hj) h2
structure Good (e : Eng) : Prop where
 wf : e.wf
 fit : fitB e.t e.vl e.o e.b = true
 w : weights e.t e.vl e.b = e.w
 k : e.k.length ≤ 4000
 j : e.j.length ≤ 4000
def voteR (e : Eng) (a : Att) : List Latest × Int := vputR e.vl e.o a.val.toNat a.head a.target.epoch
def linkR (e : Eng) (a : Att) : List Link × Int := kputR e.k a.source a.target a.val
def countE (e : Eng) (a : Att) : Eng :=
 eV e (weights e.t (voteR e a).1 e.b) (linkR e a).1 (voteR e a).1 (voteR e a).2 (moreR e.t (linkR e a).1 e.b e.j) (nextR e.t (linkR e a).1 e.b (moreR e.t (linkR e a).1 e.b e.j) e.fin)
def countR (e : Eng) (a : Att) : Eng × Int := if (linkR e a).2 = 0 then (countE e a, 0) else (e, (linkR e a).2)
theorem fits_val {e : Eng} {a : Att} (h : fitsR e a = 0) : 0 ≤ a.val ∧ a.val < e.b.length := by
 unfold fitsR at h
 split at h
 · cases h
 · next hh => rw [not_or] at hh; omega
theorem kput_ok {l : List Link} {s t : Check} {v : Int} (h : (kputR l s t v).2 = 0) : lmayB l = true ∧ 0 ≤ v ∧ v < 8 ∧ s.epoch < t.epoch ∧
 ((∃ i, llook (places l) ⟨s, t⟩ = some i ∧ (kputR l s t v).1 = l.set i { l.getD i zLink with mask := orU (l.getD i zLink).mask (bit v) }) ∨ llook (places l) ⟨s, t⟩ = none ∧ l.length ≠ 16 ∧ (kputR l s t v).1 = l ++ [⟨s, t, bit v⟩]) := by
 unfold kputR at h ⊢
 split at h
 · cases h
 · next h1 =>
   rw [if_neg h1]
   split at h
   · cases h
   · next h2 =>
     rw [if_neg h2]
     split at h
     · cases h
     · next h3 =>
       rw [if_neg h3]
       refine ⟨by simpa using h1, by omega, by omega, by omega, ?_⟩
       split at h
       · next i hk => exact .inl ⟨i, hk, rfl⟩
       · next hk =>
         split at h
         · cases h
         · next h4 => exact .inr ⟨hk, h4, by rw [if_neg h4]⟩
theorem kput_len {l : List Link} {s t : Check} {v : Int} (h : (kputR l s t v).2 = 0) : (kputR l s t v).1.length ≤ 16 := by
 obtain ⟨h1, _, _, _, h5⟩ := kput_ok h
 have := (may_spec h1).1
 rcases h5 with ⟨i, _, h6⟩ | ⟨_, h6, h7⟩
 · rw [h6, List.length_set]
   exact this
 · rw [h7, List.length_append, List.length_singleton]
   omega
theorem getD_link {l : List Link} {i : Nat} (h : i < l.length) : l.getD i zLink ∈ l := by
 rw [List.getD_eq_getElem?_getD, List.getElem?_eq_getElem h]
 exact List.getElem_mem h
theorem bit_in (v : Int) (h0 : 0 ≤ v) (h8 : v < 8) : 0 < bit v ∧ bit v < 256 := by
 have := bit_range v.toNat (by omega)
 rwa [Int.toNat_of_nonneg h0] at this
theorem kput_okL {l : List Link} {s t : Check} {v : Int} (h : (kputR l s t v).2 = 0) (hl : okL l) : okL (kputR l s t v).1 := fun a ha => by
 obtain ⟨_, h2, h3, _, h5⟩ := kput_ok h
 rcases h5 with ⟨i, _, h6⟩ | ⟨_, _, h7⟩
 · rw [h6] at ha
   rcases List.mem_or_eq_of_mem_set ha with h | h
   · exact hl a h
   · rw [h]
     show 0 ≤ orU _ _ ∧ orU _ _ < _
     rw [orU_eq]
     exact inU_nat _
 · rw [h7] at ha
   rcases List.mem_append.1 ha with h | h
   · exact hl a h
   · rw [List.mem_singleton.1 h]
     have := bit_in v h2 h3
     show 0 ≤ bit v ∧ bit v < _
     omega
theorem kput_okC {l : List Link} {s t : Check} {v : Int} (h : (kputR l s t v).2 = 0) (hl : okC l) (hs : 0 ≤ s.epoch ∧ s.epoch < 18446744073709551616) (ht : 0 ≤ t.epoch ∧ t.epoch < 18446744073709551616) : okC (kputR l s t v).1 := fun a ha => by
 obtain ⟨_, h2, h3, _, h5⟩ := kput_ok h
 rcases h5 with ⟨i, hk, h6⟩ | ⟨_, _, h7⟩
 · rw [h6] at ha
   rcases List.mem_or_eq_of_mem_set ha with h | h
   · exact hl a h
   · rw [h]
     have hh := hl (l.getD i zLink) (getD_link (look_spec hk).1)
     exact hh
 · rw [h7] at ha
   rcases List.mem_append.1 ha with h | h
   · exact hl a h
   · rw [List.mem_singleton.1 h]
     exact ⟨hs.1, ht.1, hs.2, ht.2⟩
theorem moreN_len (ls : List Link) : ∀ n out, (moreN ls n out).length ≤ out.length + n
 | 0, out => Nat.le_refl _
 | n + 1, out => by
   rw [moreN]
   split
   · omega
   · next a _ =>
     have := moreN_len ls n (out ++ [a.t])
     rw [List.length_append, List.length_singleton] at this
     omega
theorem countL_len (t : List Node) (l : List Link) (b : List Int) : (countL t l b).length ≤ l.length := by
 unfold countL
 split
 · exact List.length_filter_le _ _
 · exact Nat.zero_le _
theorem moreR_len (t : List Node) (l : List Link) (b : List Int) (js : List Check) : (moreR t l b js).length ≤ js.length + l.length := by
 have h1 := moreN_len (countL t l b) (leftN (countL t l b) js) js
 have h2 := leftN_len (countL t l b) js
 have h3 := countL_len t l b
 unfold moreR moreF
 omega
theorem small_w {t : List Node} {vl : List Latest} {o : Int} {b : List Int} (hb : okB b) (h : fitB t vl o b = true) (j : Nat) : 0 ≤ (weights t vl b).getD j 0 ∧ (weights t vl b).getD j 0 ≤ 4611686018427387904 := by
 obtain ⟨hm, hv, hS, hl⟩ := fit_spec h
 have hml := may_len hm
 have h1 := small_sub (t := t) (small_own (t := t) hb hS hl) t.length j
 have h2 : (2 : Int) ^ t.length ≤ 2 ^ 12 := pow12 _ (by omega)
 have h3 : (2 : Int) ^ t.length * 1125899906842624 ≤ 2 ^ 12 * 1125899906842624 := Int.mul_le_mul_of_nonneg_right h2 (by decide)
 unfold weights subW
 omega
theorem small_p {t : List Node} {vl bl : List Latest} {b : List Int} (hb : okB b) (hS : mayS b = true) (hl : vl.length = b.length) : small 1125899906842624 (votTo t vl bl b vl.length) := fun j => by
 have h8 := (mayS_spec hS).2.1
 have := small_vot (t := t) (vl := vl) (bl := bl) hb hS vl.length (by omega) j
 omega
theorem small_s {t : List Node} {p : List Int} (hm : mayB t = true) (h : small 1125899906842624 p) (j : Nat) : 0 ≤ (subW t p).getD j 0 ∧ (subW t p).getD j 0 ≤ 4611686018427387904 := by
 have hml := may_len hm
 have h1 := small_sub (t := t) h t.length j
 have h2 : (2 : Int) ^ t.length ≤ 2 ^ 12 := pow12 _ (by omega)
 have h3 : (2 : Int) ^ t.length * 1125899906842624 ≤ 2 ^ 12 * 1125899906842624 := Int.mul_le_mul_of_nonneg_right h2 (by decide)
 unfold subW
 omega
theorem pass_c {t : List Node} {vl wl : List Latest} {o p : Int} {b : List Int} (hb : okB b) (h1 : fitB t vl o b = true) (h2 : fitB t wl p b = true) : Cal Tryz.prog 192 [tav t, u64s (weights t vl b), u64s (votTo t wl vl b wl.length), u64s (votTo t vl wl b vl.length)] (.tup [u64s (weights t wl b), .bool true]) := by
 obtain ⟨hm, hv, hS, hl⟩ := fit_spec h1
 obtain ⟨_, hv2, _, hl2⟩ := fit_spec h2
 have hml := may_len hm
 have sp := small_p (t := t) (bl := vl) hb hS hl2
 have sm := small_p (t := t) (bl := wl) hb hS hl
 have c1 := sub_c t _ hm (votTo_len t wl vl b wl.length) sp
 have c2 := sub_c t _ hm (votTo_len t vl wl b vl.length) sm
 have hw := weights_len t vl b
 refine pass_w t _ _ _ _ _ _ c1 c2 (by omega) ?_ ?_ ?_ fun j => ?_
 · rw [hw, subW, subTo_len, votTo_len]
 · rw [hw, subW, subTo_len, votTo_len]
 · rw [hw, weights_len]
 · have a1 := small_w hb h1 j
   have a2 := small_w hb h2 j
   have a3 := small_s hm sp j
   have a4 := small_s hm sm j
   have a5 := weights_lin (t := t) (vl := vl) (wl := wl) hb hS (by omega) (by have := (mayS_spec hS).2.1; omega) j
   exact ⟨a1.1, a3.1, a4.1, by omega, a2.1, a5⟩
theorem vote_fit {e : Eng} {a : Att} (hg : Good e) (hf : fitsR e a = 0) : fitB e.t (voteR e a).1 (voteR e a).2 e.b = true ∧ 0 ≤ (voteR e a).2 := by
 obtain ⟨hm, hv, hS, hl⟩ := fit_spec hg.fit
 obtain ⟨h0, h1⟩ := fits_val hf
 obtain ⟨k1, k2, k3⟩ := vput_may (r := a.head) (ep := a.target.epoch) hv hg.wf.o (show a.val.toNat < e.vl.length by omega)
 refine ⟨?_, k2⟩
 unfold fitB
 rw [hm, hS, show vmayB (voteR e a).1 (voteR e a).2 = true from k1, decide_eq_true (show (voteR e a).1.length = e.b.length by rw [show (voteR e a).1.length = e.vl.length from k3, hl])]
 rfl
theorem count_e (e : Eng) (b : Block) (x : Att) (c : Ask) (a : Att) (hg : Good e) (ha : a.wf) (hf : fitsR e a = 0) : CalE Tryz.prog 122 [.ptr 1 [] 0, a.av] 2 (wH e b x c) (.int .i64 (countR e a).2) (wH (countR e a).1 b x c) := by
 have hk := hg.k
 have c1 := kput_c e.k a.source a.target a.val (by omega)
 unfold countR
 by_cases h : (linkR e a).2 = 0
 · rw [if_pos h]
   have h' : (kputR e.k a.source a.target a.val).2 = 0 := h
   rw [h'] at c1
   obtain ⟨h0, h1⟩ := fits_val hf
   obtain ⟨hm, hv, hS, hl⟩ := fit_spec hg.fit
   obtain ⟨hv1, hv2⟩ := vote_fit hg hf
   obtain ⟨i, d2⟩ := vput_c e.vl e.o a.val.toNat (by omega) a.head a.target.epoch hv
   rw [Int.toNat_of_nonneg h0] at d2
   have d3 := of_c e.t e.vl (voteR e a).1 e.o (voteR e a).2 e.b hg.fit hv1
   have d4 := pass_c hg.wf.ok.b hg.fit hv1
   rw [hg.w] at d4
   have hK := kput_len h'
   have kL := kput_okL h' hg.wf.ok.kL
   have kC := kput_okC h' hg.wf.ok.kC ha.2.1 ha.2.2
   have hj := hg.j
   have hJ := moreR_len e.t (linkR e a).1 e.b e.j
   have hK2 : (linkR e a).1.length ≤ 16 := hK
   have d5 := more_T e.t (linkR e a).1 e.b e.j (by omega) hj hg.wf.ok.b kL
   have d6 := next_T e.t (linkR e a).1 e.b (moreR e.t (linkR e a).1 e.b e.j) e.fin (by omega) (by omega) hg.wf.ok.b kL kC
   exact count_w e b x c a (linkR e a).1 (voteR e a).1 (voteR e a).2 i _ _ _ _ _ c1 d2 d3 d4 ⟨enters_of Tryz.func107 kR rfl, d5⟩ ⟨enters_of Tryz.func108 kR rfl, d6⟩
 · rw [if_neg h]
   exact count_no e b x c a (linkR e a).1 (linkR e a).2 c1 (decide_eq_false h)
def rootsT (t : List Node) : List Root := t.map Node.root
def cutE (e : Eng) : List Node := cutR e.t (findR e.t e.fin.root)
def dropE (e : Eng) : List Latest := dropL (rootsT (cutE e)) e.vl
def pruneE (e : Eng) : Eng := ⟨cutE e, e.b, dropE e, e.o, weights (cutE e) (dropE e) e.b, e.late, delL (linkGone (rootsT (cutE e)) e.fin.epoch) e.k, delL (checkGone (rootsT (cutE e)) e.fin.epoch) e.j, e.fin, e.now⟩
def prH (e : Eng) (b : Block) (x : Att) (c : Ask) (n m : Nat) (L M : List AV) : HP := [(0, .var (pruA e b x c (.ms 1 67 n) (.ms 2 33 m))), (1, .row 67 L), (2, .row 33 M)]
theorem place_p (e : Eng) (b : Block) (x : Att) (c : Ask) (n m : Nat) (L M : List AV) (r : Root) : CalE Tryz.prog 124 [.ptr 0 [] 0, .root r] 3 (prH e b x c n m L M) (.int .i64 (findR e.t r)) (prH e b x c n m L M) := by
 have c1 := And.intro (en Tryz.func57) (find_pure e.t r)
 unfold prH
 have hR : Tryz.f124.results.toList = [.tmp 4] := rfl
 refine calE_tr Tryz.func124 rfl fun E hE hP => ?_
 exact mX
theorem vdrop_r (vl : List Latest) (o : Int) (rs : List Root) (hl : vl.length ≤ 100000) (hr : rs.length ≤ 100000) (hm : vmayB vl o = true) : Cal Tryz.prog 127 [vav vl o, .sl (rv rs) false] (vav (dropL rs vl) o) := vdrop_w vl o rs hl hr hm
set_option maxHeartbeats 2000000 in
theorem prune_w (e : Eng) (b : Block) (x : Att) (c : Ask) (ht : e.t.length ≤ 100000) (htc : (cutE e).length ≤ 100000) (hvl : e.vl.length ≤ 100000) (hkl : e.k.length ≤ 100000) (hjl : e.j.length ≤ 100000) (hm : vmayB e.vl e.o = true) (hb : okB e.b) (hfit : fitB (cutE e) (dropE e) e.o e.b = true) :
 CalE Tryz.prog 65 [.ptr 0 [] 0] 3 (prH e b x c e.k.length e.j.length (e.k.map Link.av) (e.j.map Check.av)) (.int .i64 0) [(0, .var (workA (pruneE e) b x c))] := by
 have y1 := place_p e b x c e.k.length e.j.length (e.k.map Link.av) (e.j.map Check.av) e.fin.root
 have c1 := cut_c e.t (findR e.t e.fin.root) ht
 rw [show cutR e.t (findR e.t e.fin.root) = cutE e from rfl] at c1
 have c2 := vdrop_r e.vl e.o (rootsT (cutE e)) hvl (by unfold rootsT; rw [List.length_map]; exact htc) hm
 rw [show dropL (rootsT (cutE e)) e.vl = dropE e from rfl] at c2
 have c3 := weights_c (cutE e) (dropE e) e.o e.b hb hfit
 unfold prH at y1 ⊢
 unfold pruneE
 generalize cutE e = T at *
 generalize dropE e = D at *
 generalize weights T D e.b = W at *
 have hkeep : (rootsT T).length ≤ 100000 := by unfold rootsT; rw [List.length_map]; exact htc
 have y2 := ldel_c ⟨T, e.b, D, e.o, W, e.late, e.k, e.j, e.fin, e.now⟩ b x c e.j.length (e.j.map Check.av) (rootsT T) hkeep e.k hkl
 have y3 := jdel_c ⟨T, e.b, D, e.o, W, e.late, delL (linkGone (rootsT T) e.fin.epoch) e.k, e.j, e.fin, e.now⟩ b x c (rootsT T) hkeep e.j hjl
 have hR : Tryz.f65.results.toList = [.tmp 2] := rfl
 refine calE_tr Tryz.func65 rfl fun E hE hP => ?_
 refine mr ?_
 refine Tr.wk (s' := ⟨[(1, .ptr 3 [] 0)], [(0, .var (pruA e b x c (.ms 1 67 e.k.length) (.ms 2 33 e.j.length))), (1, .row 67 (e.k.map Link.av)), (2, .row 33 (e.j.map Check.av)), (3, .var (.ptr 0 [] 0))], 4, []⟩) ?_ ?_
 · exact mK
 refine tr_seq_plan mixed _ (.one 0 (.one 1 (.one 2 (.one 3 (.one 4 (.one 5 (.one 6 (.one 7 (.one 8 (.one 9 (.one 10 (.one 11 (.one 12 (.one 13 (.one 14 (.one 15 (.one 16 (.one 17 (.one 18 .done))))))))))))))))))) (⟨[(1, .ptr 3 [] 0)], [(0, .var (pruA ⟨T, e.b, e.vl, e.o, e.w, e.late, e.k, e.j, e.fin, e.now⟩ b x c (.ms 1 67 e.k.length) (.ms 2 33 e.j.length))), (1, .row 67 (e.k.map Link.av)), (2, .row 33 (e.j.map Check.av)), (3, .var (.ptr 0 [] 0))], 4, []⟩) (keepAll _) xE kR ?_ ?_
 · simp only [List.map_cons, List.map_nil]
   iterate 13 refine pQ ?_
   refine pX ?_
   refine call_eff (fun n => n) [false, false] [] rfl rfl rfl rfl (en Tryz.func124) (y1.2) rfl rfl mB rfl rfl rfl ?_
   refine mR ?_
   refine pX ?_
   refine call_fn rfl rfl rfl rfl (en Tryz.func123) (c1.2) rfl rfl rfl ?_
   refine mS ?_
   iterate 3 refine pQ ?_
   apply pl_x; exact rfl
   refine st_w rfl rfl kR ?_; simp only [gA, go_sem, seval]
   refine pl_done (st := _) ?_ rfl
   exact mK
 refine mW ?_
 refine Tr.loop (fun k : Nat => (⟨[(1, .ptr 3 [] 0), (3, .ptr 4 [] 0), (30, .sl (T.map Node.av) false), (31, .int .i64 T.length), (32, .int .i64 k)], [(0, .var (pruA ⟨T, e.b, e.vl, e.o, e.w, e.late, e.k, e.j, e.fin, e.now⟩ b x c (.ms 1 67 e.k.length) (.ms 2 33 e.j.length))), (1, .row 67 (e.k.map Link.av)), (2, .row 33 (e.j.map Check.av)), (3, .var (.ptr 0 [] 0)), (4, .var (.ms 5 32 (rootsT (T.take k)).length)), (5, .row 32 (rv (rootsT (T.take k))))], 6, []⟩ : S)) (fun k => k ≤ T.length) (fun k => T.length - k) 0 (Nat.zero_le _) ?_ ?_
 · refine Wk.trans (Wk.nilVar 4 32 rfl) ?_
   have e0 : rootsT (T.take 0) = [] := rfl
   rw [e0]
   simp only [HP.set, List.map_cons, List.map_nil, List.length_nil, go_sem, seval]
   refine wk_ren (fun | 5 => 148 | n => n) mB mB rfl rfl rfl
 · intro k hk
   by_cases hlt : k < T.length
   · have e1 : decide ((k : Int) < (T.length : Int)) = true := dtO
     have hn := nth_map_lt Node.av T k hlt
     have hw := wN k
     have hL : rootsT (T.take (k + 1)) = rootsT (T.take k) ++ [T[k].root] := by unfold rootsT; rw [List.take_add_one, List.getElem?_eq_getElem hlt, Option.toList_some, List.map_append]; rfl
     have hLl : (rootsT (T.take k)).length ≤ 100000 := by unfold rootsT; rw [List.length_map, List.length_take]; omega
     generalize rootsT (T.take k) = L at hL hLl
     generalize T[k] = n at hn hL
     have ff := And.intro e1 (And.intro hn hw)
     refine mW ?_
     apply tr_ml xE
     intro Q hQ
     refine mS ?_
     iterate 4 (refine vm_op ?_; intro r hr; simp only [fB, go_sem, seval]; subst hr)
     refine vm_op ?_; intro r hr; simp only [fB, go_sem, seval]
     refine ⟨by omega, by omega, ?_⟩
     try simp only [fB, go_sem, seval]
     subst hr
     refine vm_op ?_; intro r hr; simp only [fB, go_sem, seval]; subst hr
     exact hQ
     refine mW ?_
     refine ⟨k + 1, hlt, by omega, ?_⟩
     rw [hL, List.length_append, List.length_singleton, rv_app]
     refine wk_ren (fun | 5 => 150 | n => n) mB mB rfl rfl rfl
   · have e1 : decide ((k : Int) < (T.length : Int)) = false := dfO
     have hil : k = T.length := by omega
     subst hil
     rw [List.take_length]
     generalize rootsT T = R at *
     have ff := e1
     refine mW ?_
     refine Tr.wk (Wk.frzH [5]) ?_
     simp only [frzHP, frzA, AV.frz, AV.frzL, List.map_cons, List.map_nil, rv_len, go_sem, seval]
     refine Tr.wk (Wk.frzH [4]) ?_
     refine mFz ?_
     refine Tr.wk (Wk.frzH [38]) ?_
     refine mFz ?_
     refine Tr.wk (s' := ⟨[(1, .ptr 3 [] 0), (3, .ref (.sl (rv R) false)), (6, keepG R)], [(0, .var (pruA ⟨T, e.b, e.vl, e.o, e.w, e.late, e.k, e.j, e.fin, e.now⟩ b x c (.ms 1 67 e.k.length) (.ms 2 33 e.j.length))), (1, .row 67 (e.k.map Link.av)), (2, .row 33 (e.j.map Check.av)), (3, .var (.ptr 0 [] 0))], 4, []⟩) ?_ ?_
     · exact mK
     refine tr_seq_plan mixed _ (.one 0 (.one 1 (.one 2 (.one 3 (.one 4 (.one 5 (.one 6 (.one 7 (.one 8 (.one 9 (.one 10 (.one 11 .done)))))))))))) (⟨[(1, .ptr 3 [] 0), (3, .ref (.sl (rv R) false)), (6, keepG R)], [(0, .var (pruA ⟨T, e.b, D, e.o, e.w, e.late, e.k, e.j, e.fin, e.now⟩ b x c (.ms 1 67 e.k.length) (.ms 2 33 e.j.length))), (1, .row 67 (e.k.map Link.av)), (2, .row 33 (e.j.map Check.av)), (3, .var (.ptr 0 [] 0))], 4, []⟩) (keepAll _) xE kR ?_ ?_
     · simp only [List.map_cons, List.map_nil]
       iterate 7 refine pQ ?_
       refine pX ?_
       refine call_fn rfl rfl rfl rfl (en Tryz.func127) (c2.2) rfl rfl rfl ?_
       refine mS ?_
       iterate 3 refine pQ ?_
       apply pl_x; exact rfl
       refine st_w rfl rfl kR ?_; simp only [gA, go_sem, seval]
       refine pl_done (st := _) ?_ rfl
       exact mK
     refine tr_seq_plan mixed _ (.one 0 (.one 1 (.one 2 (.one 3 (.one 4 (.one 5 (.one 6 (.one 7 (.one 8 (.one 9 (.one 10 (.one 11 (.one 12 (.one 13 (.one 14 (.one 15 (.one 16 (.one 17 (.one 18 (.one 19 (.one 20 (.one 21 (.one 22 (.one 23 .done)))))))))))))))))))))))) (⟨[(1, .ptr 3 [] 0), (3, .ref (.sl (rv R) false)), (6, keepG R)], [(0, .var (pruA ⟨T, e.b, D, e.o, W, e.late, e.k, e.j, e.fin, e.now⟩ b x c (.ms 1 67 e.k.length) (.ms 2 33 e.j.length))), (1, .row 67 (e.k.map Link.av)), (2, .row 33 (e.j.map Check.av)), (3, .var (.ptr 0 [] 0))], 4, []⟩) (keepAll _) xE kR ?_ ?_
     · simp only [List.map_cons, List.map_nil]
       iterate 16 refine pQ ?_
       refine pX ?_
       refine call_fn rfl rfl rfl rfl (en Tryz.func99) (c3.2) rfl rfl rfl ?_
       refine mS ?_
       iterate 6 refine pQ ?_
       apply pl_x; exact rfl
       refine st_w rfl rfl kR ?_; simp only [gA, go_sem, seval]
       refine pl_done (st := _) ?_ rfl
       exact mK
     unfold pru4 at y2
     unfold prj3 at y3
     refine tr_seq_plan mixed [0, 3] (.one 0 (.one 1 (.one 2 (.one 3 (.one 4 (.one 5 (.one 6 (.one 7 (.one 8 (.one 9 (.one 10 (.one 11 .done)))))))))))) (⟨[(1, .ptr 3 [] 0), (3, .ref (.sl (rv R) false)), (6, keepG R)], [(0, .var (pruA ⟨T, e.b, D, e.o, W, e.late, (delL (linkGone R e.fin.epoch) e.k), e.j, e.fin, e.now⟩ b x c (cutV 1 67 e.k.length (delL (linkGone R e.fin.epoch) e.k).length) (.ms 2 33 e.j.length))), (3, .var (.ptr 0 [] 0)), (1, .row 67 ((delL (linkGone R e.fin.epoch) e.k).map Link.av)), (2, .row 33 (e.j.map Check.av))], 4, []⟩) rfl xE kR ?_ ?_
     · simp only [List.map_cons, List.map_nil]
       iterate 7 refine pQ ?_
       refine pX ?_
       refine call_eff (fun | 1 => 3 | 2 => 1 | 3 => 2 | n => n) [false, false] [] rfl rfl rfl rfl (en Tryz.func128) (y2.2) rfl rfl mB rfl rfl rfl ?_
       refine mR ?_
       iterate 3 refine pQ ?_
       apply pl_x; exact rfl
       refine st_w rfl rfl kR ?_; simp only [gA, go_sem, seval]
       refine pl_done (st := _) ?_ rfl
       refine wk_ren (fun n => n) ?_ ?_ rfl rfl rfl
       · repeat' (first | exact rfl | exact trivial | (simp only [AO.ren, AV.ren, AV.renL, cutV_ren, AO.idsB, AV.idsB, AV.idsBL, cutV_idsB, ↓Nat.reduceLT, go_sem, seval] <;> rfl) | constructor)
       · repeat' (first | exact rfl | exact trivial | (simp only [AO.ren, AV.ren, AV.renL, cutV_ren, AO.idsB, AV.idsB, AV.idsBL, cutV_idsB, ↓Nat.reduceLT, go_sem, seval] <;> rfl) | constructor)
     have hl1 : (delL (linkGone R e.fin.epoch) e.k).length = ((delL (linkGone R e.fin.epoch) e.k).map Link.av).length := (List.length_map _).symm
     have hl2 : (delL (checkGone R e.fin.epoch) e.j).length = ((delL (checkGone R e.fin.epoch) e.j).map Check.av).length := (List.length_map _).symm
     refine Tr.wk (Wk.frzH [1]) ?_
     refine mFz ?_
     rw [cutV_frz rfl hl1]
     refine tr_seq_plan mixed [0, 3] (.one 0 (.one 1 (.one 2 (.one 3 (.one 4 (.one 5 (.one 6 (.one 7 (.one 8 (.one 9 (.one 10 (.one 11 .done)))))))))))) (⟨[(1, .ptr 3 [] 0), (3, .ref (.sl (rv R) false)), (6, keepG R)], [(0, .var (pruA ⟨T, e.b, D, e.o, W, e.late, (delL (linkGone R e.fin.epoch) e.k), (delL (checkGone R e.fin.epoch) e.j), e.fin, e.now⟩ b x c (links (delL (linkGone R e.fin.epoch) e.k)) (cutV 2 33 e.j.length (delL (checkGone R e.fin.epoch) e.j).length))), (3, .var (.ptr 0 [] 0)), (2, .row 33 ((delL (checkGone R e.fin.epoch) e.j).map Check.av))], 4, []⟩) rfl xE kR ?_ ?_
     · simp only [List.map_cons, List.map_nil]
       iterate 7 refine pQ ?_
       refine pX ?_
       refine call_eff (fun | 1 => 3 | n => n) [false, false] [] rfl rfl rfl rfl (en Tryz.func130) (y3.2) rfl rfl mB rfl rfl rfl ?_
       refine mR ?_
       iterate 3 refine pQ ?_
       apply pl_x; exact rfl
       refine st_w rfl rfl kR ?_; simp only [gA, go_sem, seval]
       refine pl_done (st := _) ?_ rfl
       refine wk_ren (fun n => n) ?_ ?_ rfl rfl rfl
       · repeat' (first | exact rfl | exact trivial | (simp only [AO.ren, AV.ren, AV.renL, cutV_ren, AO.idsB, AV.idsB, AV.idsBL, cutV_idsB, ↓Nat.reduceLT, go_sem, seval] <;> rfl) | constructor)
       · repeat' (first | exact rfl | exact trivial | (simp only [AO.ren, AV.ren, AV.renL, cutV_ren, AO.idsB, AV.idsB, AV.idsBL, cutV_idsB, ↓Nat.reduceLT, go_sem, seval] <;> rfl) | constructor)
     refine Tr.wk (Wk.frzH [2]) ?_
     refine mFz ?_
     rw [cutV_frz rfl hl2]
     exact mX
def waitE (e : Eng) (a : Att) : Eng := ⟨e.t, e.b, e.vl, e.o, e.w, (lputR e.late a).1, e.k, e.j, e.fin, e.now⟩
def attW (e : Eng) (a : Att) : Eng × Int := if fitsR e a ≠ 0 then (e, fitsR e a) else if a.slot < e.now then countR e a else (waitE e a, (lputR e.late a).2)
theorem att_w1 (e : Eng) (b : Block) (c : Ask) (a : Att) (i : Int) (y1 : CalE Tryz.prog 121 [.ptr 1 [] 0, a.av] 2 (wH e b a c) (.int .i64 i) (wH e b a c)) (h : decide (i = 0) = false) : CalE Tryz.prog 119 [.ptr 1 [] 0] 2 (wH e b a c) (.int .i64 i) (wH e b a c) := by
 have ff := h
 unfold wH at y1 ⊢
 have hR : Tryz.f119.results.toList = [.tmp 2] := rfl
 refine calE_tr Tryz.func119 rfl fun E hE hP => ?_
 exact mX
theorem att_w2 (e f : Eng) (b : Block) (c : Ask) (a : Att) (i : Int) (y1 : CalE Tryz.prog 121 [.ptr 1 [] 0, a.av] 2 (wH e b a c) (.int .i64 0) (wH e b a c)) (y2 : CalE Tryz.prog 122 [.ptr 1 [] 0, a.av] 2 (wH e b a c) (.int .i64 i) (wH f b a c)) (h : decide (a.slot < e.now) = true) : CalE Tryz.prog 119 [.ptr 1 [] 0] 2 (wH e b a c) (.int .i64 i) (wH f b a c) := by
 have ff := h
 unfold wH at y1 y2 ⊢
 have hR : Tryz.f119.results.toList = [.tmp 2] := rfl
 refine calE_tr Tryz.func119 rfl fun E hE hP => ?_
 exact mX
theorem att_w3 (e : Eng) (b : Block) (c : Ask) (a : Att) (y1 : CalE Tryz.prog 121 [.ptr 1 [] 0, a.av] 2 (wH e b a c) (.int .i64 0) (wH e b a c)) (h : decide (a.slot < e.now) = false) (hl : e.late.length ≤ 100000) : CalE Tryz.prog 119 [.ptr 1 [] 0] 2 (wH e b a c) (.int .i64 (lputR e.late a).2) (wH (waitE e a) b a c) := by
 have c1 := lput_c e.late a hl
 unfold waitE
 generalize lputR e.late a = X at c1 ⊢
 have ff := h
 unfold wH at y1 ⊢
 have hR : Tryz.f119.results.toList = [.tmp 2] := rfl
 refine calE_tr Tryz.func119 rfl fun E hE hP => ?_
 exact mX
theorem att_e (e : Eng) (b : Block) (c : Ask) (a : Att) (hg : Good e) (ha : a.wf) (hl : e.late.length ≤ 100000) : CalE Tryz.prog 119 [.ptr 1 [] 0] 2 (wH e b a c) (.int .i64 (attW e a).2) (wH (attW e a).1 b a c) := by
 have y1 := fits_e e b a c a
 unfold attW
 by_cases h : fitsR e a = 0
 · rw [if_neg (fun hh => hh h)]
   have y2 := count_e e b a c a hg ha h
   rw [h] at y1
   by_cases hs : a.slot < e.now
   · rw [if_pos hs]
     exact att_w2 e _ b c a _ y1 y2 (decide_eq_true hs)
   · rw [if_neg hs]
     exact att_w3 e b c a y1 (decide_eq_false hs) hl
 · rw [if_pos h]
   exact att_w1 e b c a _ y1 (decide_eq_false h)
theorem do_b0 (e f : Eng) (b : Block) (a : Att) (c : Ask) (he : e.few) (ho : e.ok) (hm : mayE e = true) (y : CalE Tryz.prog 64 [.ptr 1 [] 0] 2 (wH e b a c) (.int .i64 0) (wH f b a c)) : CalT Tryz.prog 0 tabV 67 [workA e b a c, .fn (.func 64) [] []] (.tup [f.av, .int .i64 0]) := by
 have x1 := may_t e he ho
 rw [hm] at x1
 have c1 := own_p e he
 unfold wH at y
 have hR : Tryz.f67.results.toList = [.cell 4 38, .tmp 5] := rfl
 refine calE_tr Tryz.func67 rfl fun E hE hP => ?_
 refine mr ?_
 refine mr ?_
 refine mr ?_
 refine mr ?_
 refine mC ?_
 refine mC ?_
 first | apply tr_m xE | (refine Tr.seq ?_; apply tr_m xE)
 intro Q hQ
 refine mS ?_
 refine mV ?_
 refine vm_op ?_; intro r hr; simp only [go_sem, seval]
 refine call_eff (fun n => n) [false] [] rfl rfl rfl rfl (en Tryz.func64) (y.2) rfl rfl mB rfl rfl rfl ?_
 refine mR ?_
 subst hr
 refine mV ?_
 exact hQ
 exact mX
theorem do_bi (e f : Eng) (b : Block) (a : Att) (c : Ask) (i : Int) (hi : decide (i = 0) = false) (he : e.few) (ho : e.ok) (hm : mayE e = true) (y : CalE Tryz.prog 64 [.ptr 1 [] 0] 2 (wH e b a c) (.int .i64 i) (wH f b a c)) : CalT Tryz.prog 0 tabV 67 [workA e b a c, .fn (.func 64) [] []] (.tup [e.av, .int .i64 i]) := by
 have ff := hi
 have x1 := may_t e he ho
 rw [hm] at x1
 have c1 := own_p e he
 unfold wH at y
 have hR : Tryz.f67.results.toList = [.cell 4 38, .tmp 5] := rfl
 refine calE_tr Tryz.func67 rfl fun E hE hP => ?_
 refine mr ?_
 refine mr ?_
 refine mr ?_
 refine mr ?_
 refine mC ?_
 refine mC ?_
 first | apply tr_m xE | (refine Tr.seq ?_; apply tr_m xE)
 intro Q hQ
 refine mS ?_
 refine mV ?_
 refine vm_op ?_; intro r hr; simp only [go_sem, seval]
 refine call_eff (fun n => n) [false] [] rfl rfl rfl rfl (en Tryz.func64) (y.2) rfl rfl mB rfl rfl rfl ?_
 refine mR ?_
 subst hr
 refine mV ?_
 exact hQ
 exact mX
def attE (e : Eng) (a : Att) : Eng × Int := if mayE e = false then (e, 1) else if (attW e a).2 = 0 then ((attW e a).1, 0) else (e, (attW e a).2)
theorem may_good {e : Eng} (he : e.few) (hw : e.wf) (hm : mayE e = true) : Good e := by
 obtain ⟨h1, h2, _, _⟩ := mayE_fit hm
 exact ⟨hw, h1, h2, he.k, he.j⟩
def stepE (e : Eng) (a : Att) : Eng := if fitsR e a = 0 then (countR e a).1 else e
def runE (e : Eng) (l : List Att) : Eng := l.foldl stepE e
def overE (e : Eng) : Eng := ⟨e.t, e.b, e.vl, e.o, e.w, restR e.late (e.now + 1), e.k, e.j, e.fin, e.now + 1⟩
def dueE (e : Eng) : List Att := dueR e.late (e.now + 1)
def tickW (e : Eng) : Eng := runE (overE e) (dueE e)
theorem tick_no (e : Eng) (b : Block) (x : Att) (c : Ask) (hn : decide (e.now = 1099511627776) = true) : CalE Tryz.prog 64 [.ptr 1 [] 0] 2 (wH e b x c) (.int .i64 3) (wH e b x c) := by
 have ff := hn
 unfold wH
 have hR : Tryz.f64.results.toList = [.tmp 2] := rfl
 refine calE_tr Tryz.func64 rfl fun E hE hP => ?_
 exact mX
theorem run_next {e : Eng} {l : List Att} {i : Nat} (h : i < l.length) : runE e (l.take (i + 1)) = stepE (runE e (l.take i)) l[i] := by
 unfold runE
 exact foldl_next stepE e h
set_option maxHeartbeats 1000000 in
theorem tick_w (e : Eng) (b : Block) (x : Att) (c : Ask) (hl : e.late.length ≤ 100000) (hn : decide (e.now = 1099511627776) = false) (hw : IntKind.u64.wrap (e.now + 1) = e.now + 1) (hd : ∀ a ∈ dueE e, a.wf) (hg : ∀ i, i < (dueE e).length → Good (runE (overE e) ((dueE e).take i))) : CalE Tryz.prog 64 [.ptr 1 [] 0] 2 (wH e b x c) (.int .i64 0) (wH (tickW e) b x c) := by
 have c1 := due_c e.late (e.now + 1) hl
 have hD : (dueE e).length ≤ 100000 := Nat.le_trans (List.length_filter_le _ _) hl
 have ho : overE e = ⟨e.t, e.b, e.vl, e.o, e.w, restR e.late (e.now + 1), e.k, e.j, e.fin, e.now + 1⟩ := rfl
 have hdd : dueR e.late (e.now + 1) = dueE e := rfl
 unfold tickW
 rw [hdd] at c1
 generalize dueE e = D at *
 generalize overE e = f at *
 generalize restR e.late (e.now + 1) = R at *
 have ff := And.intro hn hw
 unfold wH
 have hR : Tryz.f64.results.toList = [.tmp 2] := rfl
 refine calE_tr Tryz.func64 rfl fun E hE hP => ?_
 refine mW ?_
 refine Tr.loop (fun i : Nat => (⟨[(0, .ptr 1 [] 0), (41, .sl (D.map Att.av) false), (42, .int .i64 D.length), (43, .int .i64 i)], [(0, .tab 0 tabV), (1, .var (workA (runE f (D.take i)) b x c))], 2, []⟩ : S)) (fun i => i ≤ D.length) (fun i => D.length - i) 0 (Nat.zero_le _) ?_ ?_
 · have e0 : runE f (D.take 0) = f := rfl
   rw [e0, ho]
   exact mK
 · intro i hi
   by_cases hlt : i < D.length
   · have e1 : decide ((i : Int) < (D.length : Int)) = true := dtO
     have hn := nth_map_lt Att.av D i hlt
     have hw := wN i
     have hnx := run_next (e := f) hlt
     have g := hg i hlt
     have hwf := hd D[i] (List.getElem_mem hlt)
     generalize runE f (D.take i) = u at hnx g
     generalize D[i] = a at hn hnx hwf
     have y1 := fits_e u b x c a
     unfold wH at y1
     by_cases hf : fitsR u a = 0
     · have y2 := count_e u b x c a g hwf hf
       unfold wH at y2
       rw [stepE, if_pos hf] at hnx
       rw [hf] at y1
       generalize countR u a = X at hnx y2
       have ff := And.intro e1 (And.intro hn hw)
       refine mW ?_
       refine ⟨i + 1, hlt, by omega, ?_⟩
       rw [hnx]
       exact mK
     · rw [stepE, if_neg hf] at hnx
       have e2 : decide (fitsR u a = 0) = false := decide_eq_false hf
       generalize fitsR u a = X at y1 e2
       have ff := And.intro e1 (And.intro hn (And.intro hw e2))
       refine mW ?_
       refine ⟨i + 1, hlt, by omega, ?_⟩
       rw [hnx]
       exact mK
   · have e1 : decide ((i : Int) < (D.length : Int)) = false := dfO
     have hil : i = D.length := by omega
     subst hil
     rw [List.take_length]
     have ff := e1
     exact mX
section
variable {t : List Node} {n : Node}
end
theorem blockR_ok {e : Eng} {b : Block} (h : (blockR e b).2 = 0) : mayE e = true ∧ b.slot ≤ e.now ∧ canB e.t (nodeOf e.t b) ∧ (blockR e b).1 = putE e (nodeOf e.t b) ∧ aboveR (e.t ++ [nodeOf e.t b]) (findR e.t e.fin.root) (e.t.length : Int) = true := by
 unfold blockR at h ⊢
 split at h
 · cases h
 · rename_i h1
   rw [if_neg h1]
   split at h
   · cases h
   · rename_i h2
     rw [if_neg h2]
     split at h
     · rename_i h3; exact absurd h h3
     · rename_i h3
       rw [if_neg h3]
       obtain ⟨e1, e2⟩ := insR_ok (Classical.not_not.1 h3)
       split at h
       · cases h
       · rename_i h4
         rw [if_neg h4]
         rw [e1, List.length_append, List.length_singleton] at h4
         refine ⟨by simpa using h1, by omega, e2, ?_, ?_⟩
         · rw [e1]; rfl
         · simpa using h4
theorem blockR_err {e : Eng} {b : Block} (h : (blockR e b).2 ≠ 0) : (blockR e b).1 = e := by
 unfold blockR at h ⊢
 split at h
 · rename_i h1; rw [if_pos h1]
 · rename_i h1
   rw [if_neg h1]
   split at h
   · rename_i h2; rw [if_pos h2]
   · rename_i h2
     rw [if_neg h2]
     split at h
     · rename_i h3; rw [if_pos h3]
     · rename_i h3
       rw [if_neg h3]
       split at h
       · rename_i h4; rw [if_pos h4]
       · exact absurd rfl h
def lateE (e : Eng) (l : List Att) (n : Int) : Eng := ⟨e.t, e.b, e.vl, e.o, e.w, l, e.k, e.j, e.fin, n⟩
theorem may_late {e : Eng} {l : List Att} {n : Int} (h : mayE e = true) (hl : lmayA l = true) (hn : n ≤ 1099511627776) (hs : ((nextA l).2 && decide ((nextA l).1 < n)) = false) : mayE (lateE e l n) = true := by
 simp only [mayE, fitB, Bool.and_eq_true, decide_eq_true_eq, Bool.not_eq_true'] at h ⊢
 obtain ⟨h0, h1, h2, h3, h4, h5, h6, h7, h8, h9, h10⟩ := h
 exact ⟨h0, h1, hl, h3, hn, h5, hs, h7, h8, h9, h10⟩
theorem moreN_sub (ls : List Link) : ∀ (n : Nat) (out : List Check), ∀ c ∈ out, c ∈ moreN ls n out
 | 0, _, _, h => h
 | n + 1, out, c, h => by
   rw [moreN]
   split
   · exact h
   · exact moreN_sub ls n _ c (List.mem_append_left _ h)
theorem moreN_in (ls : List Link) : ∀ (n : Nat) (out : List Check), ∀ c ∈ moreN ls n out, c ∈ out ∨ ∃ a ∈ ls, a.t = c
 | 0, _, _, h => .inl h
 | n + 1, out, c, h => by
   rw [moreN] at h
   split at h
   · exact .inl h
   · next a ha =>
     rcases moreN_in ls n _ c h with h | h
     · rcases List.mem_append.1 h with h | h
       · exact .inl h
       · exact .inr ⟨a, List.mem_of_find?_eq_some ha, (List.mem_singleton.1 h).symm⟩
     · exact .inr h
theorem moreN_nodup (ls : List Link) : ∀ (n : Nat) (out : List Check), out.Nodup → (moreN ls n out).Nodup
 | 0, _, h => h
 | n + 1, out, h => by
   rw [moreN]
   split
   · exact h
   · next a ha =>
     have hg := goB_spec (List.find?_some ha)
     refine moreN_nodup ls n _ (List.nodup_append.2 ⟨h, by simp, fun x hx y hy he => ?_⟩)
     rw [List.mem_singleton.1 hy] at he
     exact hg.2 (he ▸ hx)
theorem moreN_done (ls : List Link) : ∀ (n : Nat) (out : List Check), leftN ls out ≤ n → ls.find? (goB (moreN ls n out)) = none
 | 0, out, h => by
   rw [moreN]
   cases hf : ls.find? (goB out) with
   | none => rfl
   | some a =>
     have := leftN_lt (List.mem_of_find?_eq_some hf) (goB_spec (List.find?_some hf)).2
     omega
 | n + 1, out, h => by
   rw [moreN]
   split
   · next hf => exact hf
   · next a hf =>
     have := leftN_lt (List.mem_of_find?_eq_some hf) (goB_spec (List.find?_some hf)).2
     exact moreN_done ls n _ (by omega)
theorem countL_in {t : List Node} {l : List Link} {b : List Int} {a : Link} (h : a ∈ countL t l b) : a ∈ l := by
 unfold countL at h
 split at h
 · exact (List.mem_filter.1 h).1
 · cases h
theorem more_sub {t : List Node} {l : List Link} {b : List Int} {js : List Check} {c : Check} (h : c ∈ js) : c ∈ moreR t l b js := moreN_sub _ _ _ c h
theorem more_in {t : List Node} {l : List Link} {b : List Int} {js : List Check} {c : Check} (h : c ∈ moreR t l b js) : c ∈ js ∨ ∃ a ∈ l, a.t = c :=
 (moreN_in _ _ _ c h).imp id fun ⟨a, ha, hc⟩ => ⟨a, countL_in ha, hc⟩
theorem more_nodup {t : List Node} {l : List Link} {b : List Int} {js : List Check} (h : js.Nodup) : (moreR t l b js).Nodup := moreN_nodup _ _ _ h
theorem more_twice (t : List Node) (l : List Link) (b : List Int) (js : List Check) : moreR t l b (moreR t l b js) = moreR t l b js :=
 moreF_none (moreN_done (countL t l b) (leftN (countL t l b) js) js (Nat.le_refl _))
theorem next_law (t : List Node) (fin : Check) : ∀ (js : List Check) (o : Check), js.foldl (nextS t fin) o = o ∨ (js.foldl (nextS t fin) o ∈ js ∧ behindB t (js.foldl (nextS t fin) o) fin = true ∧ fin.epoch < (js.foldl (nextS t fin) o).epoch)
 | [], o => Or.inl rfl
 | x :: js, o => by
   rw [List.foldl_cons]
   have hS : nextS t fin o x = if decide (fin.epoch < x.epoch) && (behindB t x fin && betterB o x) then x else o := rfl
   by_cases hg : (decide (fin.epoch < x.epoch) && (behindB t x fin && betterB o x)) = true
   · rw [if_pos hg] at hS
     simp only [Bool.and_eq_true, decide_eq_true_eq] at hg
     rw [hS]
     rcases next_law t fin js x with h | h
     · rw [h]; exact Or.inr ⟨List.mem_cons_self, hg.2.1, hg.1⟩
     · exact Or.inr ⟨List.mem_cons_of_mem _ h.1, h.2⟩
   · rw [if_neg hg] at hS
     rw [hS]
     rcases next_law t fin js o with h | h
     · exact Or.inl h
     · exact Or.inr ⟨List.mem_cons_of_mem _ h.1, h.2⟩
theorem next_top (t : List Node) (fin : Check) : ∀ (js : List Check) (o : Check), o.epoch ≤ (js.foldl (nextS t fin) o).epoch ∧ ∀ c ∈ js, fin.epoch < c.epoch → behindB t c fin = true → c.epoch ≤ (js.foldl (nextS t fin) o).epoch
 | [], o => ⟨Int.le_refl _, fun c hc => by cases hc⟩
 | x :: js, o => by
   have hS : nextS t fin o x = if decide (fin.epoch < x.epoch) && (behindB t x fin && betterB o x) then x else o := rfl
   have hbt : betterB o x = true → o.epoch ≤ x.epoch := fun h => by
    simp only [betterB, Bool.or_eq_true, Bool.and_eq_true, decide_eq_true_eq] at h; omega
   have hbf : betterB o x = false → x.epoch ≤ o.epoch := fun h => by
    simp only [betterB, Bool.or_eq_false_iff, decide_eq_false_iff_not] at h; omega
   rw [List.foldl_cons]
   have ih := next_top t fin js (nextS t fin o x)
   by_cases hg : (decide (fin.epoch < x.epoch) && (behindB t x fin && betterB o x)) = true
   · rw [if_pos hg] at hS
     simp only [Bool.and_eq_true, decide_eq_true_eq] at hg
     have h2 := hbt hg.2.2
     rw [hS] at ih ⊢
     refine ⟨by omega, fun c hc h3 h4 => ?_⟩
     rcases List.mem_cons.1 hc with h | h
     · rw [h]; exact ih.1
     · exact ih.2 c h h3 h4
   · rw [if_neg hg] at hS
     rw [hS] at ih ⊢
     refine ⟨ih.1, fun c hc h3 h4 => ?_⟩
     rcases List.mem_cons.1 hc with h | h
     · subst h
       rw [decide_eq_true h3, h4, Bool.true_and, Bool.true_and] at hg
       have := hbf (by simpa using hg)
       have := ih.1
       omega
     · exact ih.2 c h h3 h4
theorem foldl_id {α β : Type} {f : β → α → β} {o : β} : ∀ l : List α, (∀ c ∈ l, f o c = o) → l.foldl f o = o
 | [], _ => rfl
 | x :: l, h => by
   rw [List.foldl_cons, h x List.mem_cons_self]
   exact foldl_id l fun c hc => h c (List.mem_cons_of_mem _ hc)
theorem next_twice (t : List Node) (l : List Link) (b : List Int) (js : List Check) (fin : Check) : nextR t l b js (nextR t l b js fin) = nextR t l b js fin := by
 unfold nextR
 have h1 := next_law t fin (finalsR t l b js) fin
 have h2 := next_top t fin (finalsR t l b js) fin
 generalize (finalsR t l b js).foldl (nextS t fin) fin = g at h1 h2
 refine foldl_id _ fun c hc => ?_
 unfold nextS
 refine if_neg fun h => ?_
 simp only [Bool.and_eq_true, decide_eq_true_eq] at h
 have h3 : behindB t c fin = true := by
  rcases h1 with h1 | h1
  · rw [h1] at h; exact h.2.1
  · exact behind_trans h.2.1 h1.2.1
 have := h2.2 c hc (by omega) h3
 omega
theorem or_pos {a b : Int} (ha : 0 < a) (ha2 : a < 256) : 0 < orU a b := by
 rw [orU_eq, BitVec.toNat_or]
 have h1 := bv_back (n := a) ⟨by omega, by omega⟩
 have : (bv a).toNat ≤ (bv a).toNat ||| (bv b).toNat := Nat.left_le_or
 omega
theorem or_lt8 {a b : Int} (ha : 0 ≤ a) (ha2 : a < 256) (hb : 0 ≤ b) (hb2 : b < 256) : orU a b < 256 := by
 rw [orU_eq, BitVec.toNat_or]
 have h1 := bv_back (n := a) ⟨ha, by omega⟩
 have h2 := bv_back (n := b) ⟨hb, by omega⟩
 have := Nat.or_lt_two_pow (x := (bv a).toNat) (y := (bv b).toNat) (n := 8) (by omega) (by omega)
 omega
theorem kput_may {l : List Link} {s t : Check} {v : Int} (h : (kputR l s t v).2 = 0) (hl : okL l) : lmayB (kputR l s t v).1 = true := by
 obtain ⟨h1, h2, h3, h4, h5⟩ := kput_ok h
 obtain ⟨m1, m2, m3⟩ := may_spec h1
 have hb := bit_in v h2 h3
 rcases h5 with ⟨i, hk, h6⟩ | ⟨hk, h6, h7⟩
 · obtain ⟨hi, hil, hkey⟩ := look_spec hk
   have hg : l.getD i zLink = l[i] := by rw [List.getD_eq_getElem?_getD, List.getElem?_eq_getElem hil]; rfl
   have hin : l[i] ∈ l := List.getElem_mem hil
   have ho := odd_false.1 (m2 l[i] hin)
   have hp := (hl l[i] hin).1
   have hx : keyOf { l[i] with mask := orU l[i].mask (bit v) } = keyOf l[i] := rfl
   rw [h6, hg]
   have hd : odd { l[i] with mask := orU l[i].mask (bit v) } = false := by
    have e1 := or_pos (b := bit v) (show 0 < l[i].mask by omega) ho.2.2
    have e2 := or_lt8 (by omega) ho.2.2 (show 0 ≤ bit v by omega) hb.2
    rw [odd_false]
    exact ⟨ho.1, by show orU _ _ ≠ 0; omega, e2⟩
   generalize ({ l[i] with mask := orU l[i].mask (bit v) } : Link) = x at hx hd
   refine may_of (by rw [List.length_set]; exact m1) (fun a ha => ?_) ?_
   · rcases List.mem_or_eq_of_mem_set ha with h | h
     · exact m2 a h
     · rw [h]; exact hd
   · unfold places at m3 ⊢
     rw [List.length_set, ← m3, m3]
     rw [placesTo_congr (l := l.set i x) (l' := l) l.length fun j hj => ?_]
     · exact m3
     · rw [List.getElem?_set]
       by_cases hij : i = j
       · subst hij; simp [hil, hx]
       · simp [hij]
 · rw [h7]
   refine may_of (by rw [List.length_append, List.length_singleton]; omega) (fun a ha => ?_) ?_
   · rcases List.mem_append.1 ha with h | h
     · exact m2 a h
     · rw [List.mem_singleton.1 h, odd_false]
       exact ⟨h4, by show bit v ≠ 0; omega, hb.2⟩
   · unfold places at m3 hk ⊢
     rw [List.length_append, List.length_singleton, placesTo_next (a := ⟨s, t, bit v⟩) (by rw [List.length_append, List.length_singleton]; omega) (by simp)]
     have e : placesTo (l ++ [⟨s, t, bit v⟩]) l.length = placesTo l l.length := placesTo_congr _ fun j hj => by rw [List.getElem?_append_left hj]
     rw [e, show keyOf ⟨s, t, bit v⟩ = ⟨s, t⟩ from rfl, hk]
     simp [m3]
theorem mayE_all {e : Eng} : mayE e = true ↔ fitB e.t e.vl e.o e.b = true ∧ weights e.t e.vl e.b = e.w ∧ lmayA e.late = true ∧ lmayB e.k = true ∧ e.now ≤ 1099511627776 ∧ e.fin ∈ e.j ∧ ((nextA e.late).2 && decide ((nextA e.late).1 < e.now)) = false ∧
 (rootsL e).any (lostB e) = false ∧ e.j.Nodup ∧ (moreR e.t e.k e.b e.j).length = e.j.length ∧ nextR e.t e.k e.b e.j e.fin = e.fin := by
 simp only [mayE, Bool.and_eq_true, decide_eq_true_eq, Bool.not_eq_true']
theorem nodup_len {α : Type} [DecidableEq α] : ∀ (l m : List α), l.Nodup → (∀ x ∈ l, x ∈ m) → l.length ≤ m.length
 | [], _, _, _ => Nat.zero_le _
 | x :: l, m, h, hs => by
   have hx := hs x List.mem_cons_self
   rw [List.nodup_cons] at h
   have ih := nodup_len l (m.erase x) h.2 fun y hy => by
    have hne : y ≠ x := fun he => h.1 (he ▸ hy)
    exact (List.mem_erase_of_ne hne).2 (hs y (List.mem_cons_of_mem _ hy))
   rw [List.length_erase_of_mem hx] at ih
   have : 0 < m.length := List.length_pos_of_mem hx
   rw [List.length_cons]
   omega
theorem filter_split {α : Type} (p : α → Bool) : ∀ l : List α, l.length = (l.filter p).length + (l.filter fun x => !p x).length
 | [] => rfl
 | x :: l => by
   have := filter_split p l
   cases h : p x <;> simp [h] <;> omega
theorem kput_keys {l : List Link} {s t : Check} {v : Int} (h : (kputR l s t v).2 = 0) : (∀ x ∈ (kputR l s t v).1, (∃ y ∈ l, y.s = x.s ∧ y.t = x.t) ∨ x.s = s ∧ x.t = t) ∧ ∀ y ∈ l, ∃ x ∈ (kputR l s t v).1, x.t = y.t := by
 obtain ⟨h1, h2, h3, h4, h5⟩ := kput_ok h
 rcases h5 with ⟨i, hk, h6⟩ | ⟨hk, h6, h7⟩
 · obtain ⟨hi, hil, hkey⟩ := look_spec hk
   have hg : l.getD i zLink = l[i] := by rw [List.getD_eq_getElem?_getD, List.getElem?_eq_getElem hil]; rfl
   rw [h6, hg]
   refine ⟨fun x hx => ?_, fun y hy => ?_⟩
   · rcases List.mem_or_eq_of_mem_set hx with h | h
     · exact .inl ⟨x, h, rfl, rfl⟩
     · exact .inl ⟨l[i], List.getElem_mem hil, by rw [h], by rw [h]⟩
   · obtain ⟨j, hj, rfl⟩ := List.mem_iff_getElem.1 hy
     by_cases hij : i = j
     · subst hij
       exact ⟨_, List.mem_set hil _, rfl⟩
     · exact ⟨l[j], List.mem_iff_getElem.2 ⟨j, by rw [List.length_set]; exact hj, by rw [List.getElem_set_ne hij]⟩, rfl⟩
 · rw [h7]
   refine ⟨fun x hx => ?_, fun y hy => ⟨y, List.mem_append_left _ hy, rfl⟩⟩
   rcases List.mem_append.1 hx with h | h
   · exact .inl ⟨x, h, rfl, rfl⟩
   · rw [List.mem_singleton.1 h]
     exact .inr ⟨rfl, rfl⟩
theorem vput_in {vl : List Latest} {o : Int} {v : Nat} {r : Root} {ep : Int} : ∀ x ∈ (vputR vl o v r ep).1, x.has = true → x ∈ vl ∨ x.root = r := fun x hx hh => by
 unfold vputR at hx
 split at hx
 · rcases List.mem_or_eq_of_mem_set hx with h | h
   · exact .inl h
   · rw [h]; exact .inr rfl
 · split at hx
   · rcases List.mem_or_eq_of_mem_set hx with h | h
     · exact .inl h
     · rw [h] at hh; cases hh
   · exact .inl hx
theorem fits_found {e : Eng} {a : Att} (h : fitsR e a = 0) : 0 ≤ findR e.t a.head ∧ 0 ≤ findR e.t a.source.root ∧ 0 ≤ findR e.t a.target.root := by
 unfold fitsR at h
 split at h
 · cases h
 · split at h
   · cases h
   · next hh =>
     rw [not_or, not_or] at hh
     omega
theorem lost_all {e : Eng} : (rootsL e).any (lostB e) = false ↔ (∀ c ∈ e.j, 0 ≤ findR e.t c.root) ∧ (∀ a ∈ e.k, 0 ≤ findR e.t a.s.root ∧ 0 ≤ findR e.t a.t.root) ∧ ∀ x ∈ e.vl, x.has = true → 0 ≤ findR e.t x.root := by
 have hl : ∀ r, lostB e r = false ↔ 0 ≤ findR e.t r := fun r => by
  unfold lostB
  rw [decide_eq_false_iff_not]
  omega
 rw [List.any_eq_false]
 have hl2 : ∀ r, (¬ lostB e r = true) ↔ 0 ≤ findR e.t r := fun r => by rw [← hl r]; simp
 constructor
 · intro h
   have hj : ∀ r ∈ rootsL e, 0 ≤ findR e.t r := fun r hr => (hl2 r).1 (h r hr)
   refine ⟨fun c hc => hj _ ?_, fun a ha => ⟨hj _ ?_, hj _ ?_⟩, fun x hx hh => hj _ ?_⟩
   · exact List.mem_append.2 (.inl (List.mem_append.2 (.inl (List.mem_map.2 ⟨c, hc, rfl⟩))))
   · exact List.mem_append.2 (.inl (List.mem_append.2 (.inr (List.mem_flatMap.2 ⟨a, ha, by simp⟩))))
   · exact List.mem_append.2 (.inl (List.mem_append.2 (.inr (List.mem_flatMap.2 ⟨a, ha, by simp⟩))))
   · exact List.mem_append.2 (.inr (List.mem_map.2 ⟨x, List.mem_filter.2 ⟨hx, hh⟩, rfl⟩))
 · intro ⟨h1, h2, h3⟩ r hr
   rw [hl2]
   rcases List.mem_append.1 hr with hr | hr
   · rcases List.mem_append.1 hr with hr | hr
     · obtain ⟨c, hc, rfl⟩ := List.mem_map.1 hr
       exact h1 c hc
     · obtain ⟨a, ha, hr⟩ := List.mem_flatMap.1 hr
       have hr : r = a.s.root ∨ r = a.t.root := by simpa using hr
       rcases hr with rfl | rfl
       · exact (h2 a ha).1
       · exact (h2 a ha).2
   · obtain ⟨x, hx, rfl⟩ := List.mem_map.1 hr
     obtain ⟨hx, hh⟩ := List.mem_filter.1 hx
     exact h3 x hx hh
structure LiveN (N : Nat) (e : Eng) : Prop where
 may : mayE e = true
 wf : e.wf
 few : e.few
 free : (e.j.filter fun c => !decide (c ∈ e.k.map Link.t)).length ≤ N
 le : N ≤ 3000
abbrev Live (e : Eng) : Prop := LiveN 3000 e
theorem LiveN.mono {n m : Nat} {e : Eng} (h : LiveN n e) (h1 : n ≤ m) (h2 : m ≤ 3000) : LiveN m e := ⟨h.may, h.wf, h.few, Nat.le_trans h.free h1, h2⟩
theorem LiveN.live {n : Nat} {e : Eng} (h : LiveN n e) : Live e := h.mono h.le (Nat.le_refl _)
variable {N : Nat}
theorem LiveN.good {e : Eng} (h : LiveN N e) : Good e := may_good h.few h.wf h.may
theorem fin_in {t : List Node} {l : List Link} {b : List Int} {js : List Check} {fin : Check} (h : fin ∈ js) : nextR t l b js fin ∈ js := by
 rcases next_law t fin (finalsR t l b js) fin with h1 | h1
 · rw [nextR, h1]; exact h
 · exact (List.mem_filter.1 h1.1).1
theorem live_count {e : Eng} {a : Att} (h : LiveN N e) (ha : a.wf) (hf : fitsR e a = 0) : LiveN N (countR e a).1 := by
 unfold countR
 split
 · next hk =>
   have hk' : (kputR e.k a.source a.target a.val).2 = 0 := hk
   obtain ⟨f1, f2, f3, f4, f5, f6, f7, f8, f9, f10, f11⟩ := mayE_all.1 h.may
   obtain ⟨v0, v1⟩ := fits_val hf
   obtain ⟨hm, hv, hS, hl⟩ := fit_spec f1
   obtain ⟨g1, g2⟩ := vote_fit h.good hf
   obtain ⟨k1, k2⟩ := kput_keys hk'
   obtain ⟨r1, r2, r3⟩ := fits_found hf
   obtain ⟨q1, q2, q3⟩ := lost_all.1 f8
   have hK : (linkR e a).1.length ≤ 16 := kput_len hk'
   have hvl : (voteR e a).1.length = e.vl.length := (vput_may (r := a.head) (ep := a.target.epoch) hv h.wf.o (show a.val.toNat < e.vl.length by omega)).2.2
   have hKr : ∀ x ∈ (linkR e a).1, 0 ≤ findR e.t x.s.root ∧ 0 ≤ findR e.t x.t.root := fun x hx => by
    rcases k1 x hx with ⟨y, hy, e1, e2⟩ | ⟨e1, e2⟩
    · rw [← e1, ← e2]; exact q2 y hy
    · rw [e1, e2]; exact ⟨r2, r3⟩
   have hJ : (moreR e.t (linkR e a).1 e.b e.j).Nodup := more_nodup f9
   have hfree : ((moreR e.t (linkR e a).1 e.b e.j).filter fun c => !decide (c ∈ (linkR e a).1.map Link.t)).length ≤ N := by
    refine Nat.le_trans (nodup_len _ (e.j.filter fun c => !decide (c ∈ e.k.map Link.t)) (hJ.sublist List.filter_sublist) fun c hc => ?_) h.free
    obtain ⟨hc, hn⟩ := List.mem_filter.1 hc
    have hn : c ∉ (linkR e a).1.map Link.t := by simpa using hn
    refine List.mem_filter.2 ⟨?_, ?_⟩
    · rcases more_in hc with h | ⟨x, hx, rfl⟩
      · exact h
      · exact absurd (List.mem_map.2 ⟨x, hx, rfl⟩) hn
    · have : c ∉ e.k.map Link.t := fun hc => by
       obtain ⟨y, hy, rfl⟩ := List.mem_map.1 hc
       obtain ⟨x, hx, he⟩ := k2 y hy
       exact hn (List.mem_map.2 ⟨x, hx, he⟩)
      simpa using this
   have hJl : (moreR e.t (linkR e a).1 e.b e.j).length ≤ 4000 := by
    rw [filter_split (fun c => decide (c ∈ (linkR e a).1.map Link.t)) (moreR e.t (linkR e a).1 e.b e.j)]
    have h1 := nodup_len ((moreR e.t (linkR e a).1 e.b e.j).filter fun c => decide (c ∈ (linkR e a).1.map Link.t)) ((linkR e a).1.map Link.t) (hJ.sublist List.filter_sublist) fun c hc => by
     simpa using (List.mem_filter.1 hc).2
    rw [List.length_map] at h1
    have := h.le
    omega
   refine ⟨mayE_all.2 ⟨g1, rfl, f3, kput_may hk' h.wf.ok.kL, f5, fin_in (more_sub f6), f7, ?_, hJ, ?_, next_twice _ _ _ _ _⟩, ⟨⟨h.wf.ok.b, kput_okL hk' h.wf.ok.kL, kput_okC hk' h.wf.ok.kC ha.2.1 ha.2.2⟩, g2, h.wf.late, h.wf.now⟩, ?_, hfree, h.le⟩
   · refine lost_all.2 ⟨fun c hc => ?_, hKr, fun x hx hh => ?_⟩
     · rcases more_in hc with h | ⟨x, hx, rfl⟩
       · exact q1 c h
       · exact (hKr x hx).2
     · rcases vput_in x hx hh with h | h
       · exact q3 x h hh
       · rw [h]; exact r1
   · show (moreR e.t (linkR e a).1 e.b (moreR e.t (linkR e a).1 e.b e.j)).length = _
     rw [more_twice]
     rfl
   · refine ⟨h.few.t, h.few.b, ?_, ?_, h.few.late, ?_, hJl⟩
     · show (voteR e a).1.length ≤ 10000
       rw [hvl]; exact h.few.vl
     · show (weights _ _ _).length ≤ 10000
       rw [weights_len]; exact h.few.t
     · show (linkR e a).1.length ≤ 4000
       omega
 · exact h
theorem live_step {e : Eng} {a : Att} (h : LiveN N e) (ha : a.wf) : LiveN N (stepE e a) := by
 unfold stepE
 split
 · next hf => exact live_count h ha hf
 · exact h
theorem live_run {e : Eng} (h : LiveN N e) : ∀ l : List Att, (∀ a ∈ l, a.wf) → LiveN N (runE e l)
 | [], _ => h
 | a :: l, hl => live_run (live_step h (hl a List.mem_cons_self)) l fun x hx => hl x (List.mem_cons_of_mem _ hx)
theorem live_late {e : Eng} {l : List Att} {n : Int} (h : LiveN N e) (hw : ∀ a ∈ l, a.wf) (hl : lmayA l = true) (hn : n ≤ 1099511627776) (h0 : 0 ≤ n) (hs : ∀ a ∈ l, n ≤ a.slot) : LiveN N (lateE e l n) := by
 refine ⟨may_late h.may hl hn ?_, ⟨⟨h.wf.ok.b, h.wf.ok.kL, h.wf.ok.kC⟩, h.wf.o, hw, h0⟩, ⟨h.few.t, h.few.b, h.few.vl, h.few.w, ?_, h.few.k, h.few.j⟩, h.free, h.le⟩
 · cases l with
   | nil => rfl
   | cons a r =>
     have hle : ∀ (r : List Att) (m : Att), n ≤ m.slot → (∀ a ∈ r, n ≤ a.slot) → n ≤ (least m r).slot := fun r => by
      induction r with
      | nil => exact fun m h _ => h
      | cons x r ih =>
        intro m hm hr
        show n ≤ (least (if x.slot < m.slot then x else m) r).slot
        refine ih _ ?_ fun a ha => hr a (List.mem_cons_of_mem _ ha)
        split
        · exact hr x List.mem_cons_self
        · exact hm
     have := hle (a :: r) a (hs a List.mem_cons_self) hs
     show (true && decide ((least a (a :: r)).slot < n)) = false
     rw [Bool.true_and]
     exact dfO
 · unfold lmayA at hl
   rw [Bool.and_eq_true, decide_eq_true_eq] at hl
   show l.length ≤ 10000
   omega
theorem late_sub {l m : List Att} (h : lmayA l = true) (hl : m.length ≤ l.length) (hs : ∀ a ∈ m, a ∈ l) : lmayA m = true := by
 unfold lmayA at h ⊢
 rw [Bool.and_eq_true, decide_eq_true_eq, Bool.not_eq_true', List.any_eq_false] at h ⊢
 exact ⟨by omega, fun a ha => h.2 a (hs a ha)⟩
theorem late_next {e : Eng} (h : mayE e = true) : ∀ a ∈ e.late, e.now ≤ a.slot := by
 have h7 := (mayE_all.1 h).2.2.2.2.2.2.1
 intro a ha
 generalize e.late = l at h7 ha
 cases l with
 | nil => cases ha
 | cons x r =>
   have hle : ∀ (r : List Att) (m : Att), (least m r).slot ≤ m.slot ∧ ∀ a ∈ r, (least m r).slot ≤ a.slot := fun r => by
    induction r with
    | nil => exact fun m => ⟨Int.le_refl _, fun a ha => by cases ha⟩
    | cons x r ih =>
      intro m
      have h1 := ih (if x.slot < m.slot then x else m)
      have e1 : least m (x :: r) = least (if x.slot < m.slot then x else m) r := rfl
      rw [e1]
      have h2 : (if x.slot < m.slot then x else m).slot ≤ m.slot ∧ (if x.slot < m.slot then x else m).slot ≤ x.slot := by
       split
       · omega
       · omega
      refine ⟨by have := h1.1; omega, fun a ha => ?_⟩
      rcases List.mem_cons.1 ha with rfl | ha
      · have := h1.1; omega
      · exact h1.2 a ha
   have h1 := (hle (x :: r) x).2 a ha
   have h2 : (true && decide ((least x (x :: r)).slot < e.now)) = false := h7
   rw [Bool.true_and, decide_eq_false_iff_not] at h2
   omega
theorem live_over {e : Eng} (h : LiveN N e) (hn : e.now < 1099511627776) : LiveN N (overE e) := by
 have h3 := (mayE_all.1 h.may).2.2.1
 have h0 := h.wf.now
 refine live_late h (fun a ha => h.wf.late a (List.mem_filter.1 ha).1) (late_sub h3 (List.length_filter_le _ _) fun a ha => (List.mem_filter.1 ha).1) (by omega) (by omega) fun a ha => ?_
 have := (List.mem_filter.1 ha).2
 unfold dueB at this
 rw [Bool.not_eq_true', decide_eq_false_iff_not] at this
 omega
theorem live_tick {e : Eng} (h : LiveN N e) (hn : e.now < 1099511627776) : LiveN N (tickW e) ∧ ∀ i, i < (dueE e).length → Good (runE (overE e) ((dueE e).take i)) := by
 have ho := live_over h hn
 have hd : ∀ a ∈ dueE e, a.wf := fun a ha => h.wf.late a (List.mem_filter.1 ha).1
 exact ⟨live_run ho _ hd, fun i _ => (live_run ho _ fun a ha => hd a (List.mem_of_mem_take ha)).good⟩
theorem live_att {e : Eng} {a : Att} (h : LiveN N e) (ha : a.wf) : LiveN N (attE e a).1 := by
 unfold attE
 rw [h.may, if_neg (by decide)]
 split
 · unfold attW
   split
   · exact h
   · next hf =>
     rw [ne_eq, Decidable.not_not] at hf
     split
     · exact live_count h ha hf
     · next hs =>
       have h3 := (mayE_all.1 h.may).2.2.1
       have h5 := (mayE_all.1 h.may).2.2.2.2.1
       have key : LiveN N (lateE e (lputR e.late a).1 e.now) := by
        unfold lputR
        split
        · exact live_late h h.wf.late h3 h5 h.wf.now (late_next h.may)
        · next h1 =>
          split
          · exact live_late h h.wf.late h3 h5 h.wf.now (late_next h.may)
          · next h2 =>
            rw [not_or] at h1
            refine live_late h (fun x hx => ?_) ?_ h5 h.wf.now fun x hx => ?_
            · rcases List.mem_append.1 hx with hx | hx
              · exact h.wf.late x hx
              · rw [List.mem_singleton.1 hx]; exact ha
            · unfold lmayA at h3 ⊢
              rw [Bool.and_eq_true, decide_eq_true_eq, Bool.not_eq_true', List.any_eq_false] at h3 ⊢
              refine ⟨by rw [List.length_append, List.length_singleton]; omega, fun x hx => ?_⟩
              rcases List.mem_append.1 hx with hx | hx
              · exact h3.2 x hx
              · rw [List.mem_singleton.1 hx]; exact h1.2
            · rcases List.mem_append.1 hx with hx | hx
              · exact late_next h.may x hx
              · rw [List.mem_singleton.1 hx]; omega
       exact key
 · exact h
theorem live_few {e : Eng} (h1 : fewE e = true) (h2 : mayE e = true) (hw : e.wf) : LiveN 24 e := by
 refine ⟨h2, hw, fewE_few h1, Nat.le_trans (List.length_filter_le _ _) ?_, by decide⟩
 simp only [fewE, Bool.and_eq_true, decide_eq_true_eq] at h1
 omega
theorem live_put {e : Eng} {n : Node} (h : LiveN N e) (hc : canB e.t n) : LiveN N (putE e n) := by
 refine ⟨may_put h.may hc, ⟨⟨h.wf.ok.b, h.wf.ok.kL, h.wf.ok.kC⟩, h.wf.o, h.wf.late, h.wf.now⟩, ⟨?_, h.few.b, h.few.vl, ?_, h.few.late, h.few.k, h.few.j⟩, h.free, h.le⟩
 · have := hc.2.1
   show (e.t ++ [n]).length ≤ 10000
   rw [List.length_append, List.length_singleton]
   omega
 · have h1 := (mayE_all.1 h.may).2.1
   have := hc.2.1
   show (e.w ++ [0]).length ≤ 10000
   rw [List.length_append, List.length_singleton, ← h1, weights_len]
   omega
theorem do_pru (e f : Eng) (b : Block) (a : Att) (c : Ask) (he : e.few) (ho : e.ok) (hm : mayE e = true)
 (y : CalE Tryz.prog 65 [.ptr 0 [] 0] 3 (prH e b a c e.k.length e.j.length (e.k.map Link.av) (e.j.map Check.av)) (.int .i64 0) [(0, .var (workA f b a c))]) : CalT Tryz.prog 0 tabV 67 [workA e b a c, .fn (.func 65) [] []] (.tup [f.av, .int .i64 0]) := by
 have x1 := may_t e he ho
 rw [hm] at x1
 have o1 := own_o e he
 unfold prH at y
 unfold ownV ownH at o1
 have hR : Tryz.f67.results.toList = [.cell 4 38, .tmp 5] := rfl
 refine calE_tr Tryz.func67 rfl fun E hE hP => ?_
 refine mr ?_
 refine mr ?_
 refine mr ?_
 refine Tr.wk (Wk.frzH [145, 146, 147, 148, 149]) ?_
 refine mFz ?_
 refine mr ?_
 refine mC ?_
 refine mC ?_
 first | apply tr_m xE | (refine Tr.seq ?_; apply tr_m xE)
 intro Q hQ
 refine mS ?_
 refine mV ?_
 refine vm_op ?_; intro r hr; simp only [go_sem, seval]
 refine call_eff (fun | 0 => 1 | 1 => 150 | 2 => 151 | n => n) [false] [] rfl rfl rfl rfl (en Tryz.func65) (y.2) rfl rfl mB rfl rfl rfl ?_
 refine mR ?_
 subst hr
 refine mV ?_
 exact hQ
 exact mX
theorem rawb_no (e : Eng) (b : Block) (a : Att) (c : Ask) (h : isOf c.vals 81 1 = false) : CalE Tryz.prog 62 [.ptr 0 [] 0] 2 (workH e b a c) (.int .i64 2) (workH e b a c) := by
 have c1 : Cal Tryz.prog 116 [.sl (c.vals.map bav) false] (.tup [zBlock.av, .bool false]) := by
  have := And.intro (en Tryz.func116) (block_pure c.vals)
  rw [blkR, h] at this
  exact this
 unfold workH
 have hR : Tryz.f62.results.toList = [.tmp 2] := rfl
 refine calE_tr Tryz.func62 rfl fun E hE hP => ?_
 exact mX
theorem rawb_i (e : Eng) (b : Block) (a : Att) (c : Ask) (i : Int) (h : isOf c.vals 81 1 = true) (y1 : CalE Tryz.prog 117 [.ptr 0 [] 0] 2 (workH e (blockOf c.vals) a c) (.int .i64 i) (workH e (blockOf c.vals) a c)) : CalE Tryz.prog 62 [.ptr 0 [] 0] 2 (workH e b a c) (.int .i64 i) (workH e (blockOf c.vals) a c) := by
 have c1 : Cal Tryz.prog 116 [.sl (c.vals.map bav) false] (.tup [(blockOf c.vals).av, .bool true]) := by
  have := And.intro (en Tryz.func116) (block_pure c.vals)
  rw [blkR, h] at this
  exact this
 generalize blockOf c.vals = b2 at *
 unfold workH at y1 ⊢
 have hR : Tryz.f62.results.toList = [.tmp 2] := rfl
 refine calE_tr Tryz.func62 rfl fun E hE hP => ?_
 exact mX
theorem do_rawe (e : Eng) (b b2 : Block) (a : Att) (c : Ask) (i : Int) (hi : decide (i = 0) = false) (he : e.few) (ho : e.ok) (hm : mayE e = true)
 (y : CalE Tryz.prog 62 [.ptr 0 [] 0] 2 (workH e b a c) (.int .i64 i) (workH e b2 a c)) : CalT Tryz.prog 0 tabV 67 [workA e b a c, .fn (.func 62) [] []] (.tup [e.av, .int .i64 i]) := by
 have x1 := may_t e he ho
 rw [hm] at x1
 have o1 := own_o e he
 unfold workH at y
 unfold ownV ownH at o1
 have ff := hi
 have hR : Tryz.f67.results.toList = [.cell 4 38, .tmp 5] := rfl
 refine calE_tr Tryz.func67 rfl fun E hE hP => ?_
 refine mr ?_
 refine mr ?_
 refine mr ?_
 refine Tr.wk (Wk.frzH [145, 146, 147, 149, 150, 151]) ?_
 refine mFz ?_
 refine mr ?_
 refine mC ?_
 refine mC ?_
 first | apply tr_m xE | (refine Tr.seq ?_; apply tr_m xE)
 intro Q hQ
 refine mS ?_
 refine mV ?_
 refine vm_op ?_; intro r hr; simp only [go_sem, seval]
 refine call_eff (fun | 0 => 1 | 1 => 148 | n => n) [false] [] rfl rfl rfl rfl (en Tryz.func62) (y.2) rfl rfl mB rfl rfl rfl ?_
 refine mR ?_
 subst hr
 refine mV ?_
 exact hQ
 have c1 := own_p e he
 exact mX
theorem rawa_no (e : Eng) (b : Block) (a : Att) (c : Ask) (h : isOf c.vals 123 2 = false) : CalE Tryz.prog 63 [.ptr 1 [] 0] 2 (wH e b a c) (.int .i64 2) (wH e b a c) := by
 have c1 : Cal Tryz.prog 118 [.sl (c.vals.map bav) false] (.tup [zAtt.av, .bool false]) := by
  have := And.intro (en Tryz.func118) (att_pure c.vals)
  rw [attR, h] at this
  exact this
 unfold wH
 have hR : Tryz.f63.results.toList = [.tmp 2] := rfl
 refine calE_tr Tryz.func63 rfl fun E hE hP => ?_
 exact mX
theorem rawa_i (e f : Eng) (b : Block) (a : Att) (c : Ask) (i : Int) (h : isOf c.vals 123 2 = true) (y1 : CalE Tryz.prog 119 [.ptr 1 [] 0] 2 (wH e b (attOf c.vals) c) (.int .i64 i) (wH f b (attOf c.vals) c)) : CalE Tryz.prog 63 [.ptr 1 [] 0] 2 (wH e b a c) (.int .i64 i) (wH f b (attOf c.vals) c) := by
 have c1 : Cal Tryz.prog 118 [.sl (c.vals.map bav) false] (.tup [(attOf c.vals).av, .bool true]) := by
  have := And.intro (en Tryz.func118) (att_pure c.vals)
  rw [attR, h] at this
  exact this
 generalize attOf c.vals = a2 at *
 unfold wH at y1 ⊢
 have hR : Tryz.f63.results.toList = [.tmp 2] := rfl
 refine calE_tr Tryz.func63 rfl fun E hE hP => ?_
 exact mX
theorem do_r0 (e f : Eng) (b : Block) (a a2 : Att) (c : Ask) (he : e.few) (ho : e.ok) (hm : mayE e = true) (y : CalE Tryz.prog 63 [.ptr 1 [] 0] 2 (wH e b a c) (.int .i64 0) (wH f b a2 c)) : CalT Tryz.prog 0 tabV 67 [workA e b a c, .fn (.func 63) [] []] (.tup [f.av, .int .i64 0]) := by
 have x1 := may_t e he ho
 rw [hm] at x1
 have c1 := own_p e he
 unfold wH at y
 have hR : Tryz.f67.results.toList = [.cell 4 38, .tmp 5] := rfl
 refine calE_tr Tryz.func67 rfl fun E hE hP => ?_
 refine mr ?_
 refine mr ?_
 refine mr ?_
 refine mr ?_
 refine mC ?_
 refine mC ?_
 first | apply tr_m xE | (refine Tr.seq ?_; apply tr_m xE)
 intro Q hQ
 refine mS ?_
 refine mV ?_
 refine vm_op ?_; intro r hr; simp only [go_sem, seval]
 refine call_eff (fun n => n) [false] [] rfl rfl rfl rfl (en Tryz.func63) (y.2) rfl rfl mB rfl rfl rfl ?_
 refine mR ?_
 subst hr
 refine mV ?_
 exact hQ
 exact mX
theorem do_ri (e f : Eng) (b : Block) (a a2 : Att) (c : Ask) (i : Int) (hi : decide (i = 0) = false) (he : e.few) (ho : e.ok) (hm : mayE e = true) (y : CalE Tryz.prog 63 [.ptr 1 [] 0] 2 (wH e b a c) (.int .i64 i) (wH f b a2 c)) : CalT Tryz.prog 0 tabV 67 [workA e b a c, .fn (.func 63) [] []] (.tup [e.av, .int .i64 i]) := by
 have ff := hi
 have x1 := may_t e he ho
 rw [hm] at x1
 have c1 := own_p e he
 unfold wH at y
 have hR : Tryz.f67.results.toList = [.cell 4 38, .tmp 5] := rfl
 refine calE_tr Tryz.func67 rfl fun E hE hP => ?_
 refine mr ?_
 refine mr ?_
 refine mr ?_
 refine mr ?_
 refine mC ?_
 refine mC ?_
 first | apply tr_m xE | (refine Tr.seq ?_; apply tr_m xE)
 intro Q hQ
 refine mS ?_
 refine mV ?_
 refine vm_op ?_; intro r hr; simp only [go_sem, seval]
 refine call_eff (fun n => n) [false] [] rfl rfl rfl rfl (en Tryz.func63) (y.2) rfl rfl mB rfl rfl rfl ?_
 refine mR ?_
 subst hr
 refine mV ?_
 exact hQ
 exact mX
theorem Do_1 (e f : Eng) (i : Int) (c : Ask) (hk : c.kind = 1) (x1 : CalT Tryz.prog 0 tabV 67 [workA e zBlock zAtt c, .fn (.func 63) [] []] (.tup [f.av, .int .i64 i])) : CalT Tryz.prog 0 tabV 26 [e.av, c.av] (.tup [f.av, .int .i64 i]) := by
 obtain ⟨k, v, a, b, s⟩ := c
 simp only at hk
 subst hk
 have hR : Tryz.f26.results.toList = [.cell 4 38, .tmp 5] := rfl
 refine calE_tr Tryz.func26 rfl fun E hE hP => ?_
 refine mW ?_
 first | apply tr_md mixed [81, 17, 1] rfl xE kR | (refine Tr.seq ?_; apply tr_md mixed [81, 17, 1] rfl xE kR)
 intro Q hQ
 refine mS ?_
 iterate 7 refine mQ ?_
 refine vd2_x rfl ?_; intro r hr; simp only [go_sem, seval]
 refine call_eff (fun n => n) [true, true] [] rfl rfl rfl rfl (en Tryz.func67) (x1.2) rfl rfl mB rfl rfl rfl ?_
 refine mR ?_
 subst hr
 iterate 2 refine mQ ?_
 refine vd2_x rfl ?_; intro r hr; simp only [go_sem, seval]; subst hr
 refine mQ ?_
 exact hQ
 exact mX
theorem Do_2 (e f : Eng) (i : Int) (c : Ask) (hk : c.kind = 2) (x1 : CalT Tryz.prog 0 tabV 67 [workA e zBlock zAtt c, .fn (.func 64) [] []] (.tup [f.av, .int .i64 i])) : CalT Tryz.prog 0 tabV 26 [e.av, c.av] (.tup [f.av, .int .i64 i]) := by
 obtain ⟨k, v, a, b, s⟩ := c
 simp only at hk
 subst hk
 have hR : Tryz.f26.results.toList = [.cell 4 38, .tmp 5] := rfl
 refine calE_tr Tryz.func26 rfl fun E hE hP => ?_
 refine mW ?_
 first | apply tr_md mixed [81, 17, 1] rfl xE kR | (refine Tr.seq ?_; apply tr_md mixed [81, 17, 1] rfl xE kR)
 intro Q hQ
 refine mS ?_
 iterate 7 refine mQ ?_
 refine vd2_x rfl ?_; intro r hr; simp only [go_sem, seval]
 refine call_eff (fun n => n) [true, true] [] rfl rfl rfl rfl (en Tryz.func67) (x1.2) rfl rfl mB rfl rfl rfl ?_
 refine mR ?_
 subst hr
 iterate 2 refine mQ ?_
 refine vd2_x rfl ?_; intro r hr; simp only [go_sem, seval]; subst hr
 refine mQ ?_
 exact hQ
 exact mX
theorem Do_3 (e f : Eng) (i : Int) (c : Ask) (hk : c.kind = 3) (x1 : CalT Tryz.prog 0 tabV 67 [workA e zBlock zAtt c, .fn (.func 65) [] []] (.tup [f.av, .int .i64 i])) : CalT Tryz.prog 0 tabV 26 [e.av, c.av] (.tup [f.av, .int .i64 i]) := by
 obtain ⟨k, v, a, b, s⟩ := c
 simp only at hk
 subst hk
 have hR : Tryz.f26.results.toList = [.cell 4 38, .tmp 5] := rfl
 refine calE_tr Tryz.func26 rfl fun E hE hP => ?_
 refine mW ?_
 first | apply tr_md mixed [81, 17, 1] rfl xE kR | (refine Tr.seq ?_; apply tr_md mixed [81, 17, 1] rfl xE kR)
 intro Q hQ
 refine mS ?_
 iterate 7 refine mQ ?_
 refine vd2_x rfl ?_; intro r hr; simp only [go_sem, seval]
 refine call_eff (fun n => n) [true, true] [] rfl rfl rfl rfl (en Tryz.func67) (x1.2) rfl rfl mB rfl rfl rfl ?_
 refine mR ?_
 subst hr
 iterate 2 refine mQ ?_
 refine vd2_x rfl ?_; intro r hr; simp only [go_sem, seval]; subst hr
 refine mQ ?_
 exact hQ
 exact mX
theorem Do_x (e : Eng) (c : Ask) (he : e.few) (hk : c.kind < 0 ∨ 4 ≤ c.kind) : CalT Tryz.prog 0 tabV 26 [e.av, c.av] (.tup [e.av, .int .i64 1]) := by
 have c1 := own_p e he
 by_cases h0 : c.kind < 0
 · have e0 : decide (c.kind < 0) = true := decide_eq_true h0
   have ff := e0
   have hR : Tryz.f26.results.toList = [.cell 4 38, .tmp 5] := rfl
   refine calE_tr Tryz.func26 rfl fun E hE hP => ?_
   exact mX
 · have e0 : decide (c.kind < 0) = false := decide_eq_false h0
   have e1 : decide (4 ≤ c.kind) = true := dtO
   have ff := And.intro e0 e1
   have hR : Tryz.f26.results.toList = [.cell 4 38, .tmp 5] := rfl
   refine calE_tr Tryz.func26 rfl fun E hE hP => ?_
   exact mX
end Go.Proofs.YtekjdikofhdcpaaGreatDoor

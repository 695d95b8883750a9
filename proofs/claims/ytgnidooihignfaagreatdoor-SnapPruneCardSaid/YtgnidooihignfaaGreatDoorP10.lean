/- Engines that are what they say: arguments in their ranges; votes stay votes. -/
import Derived.Test.YtgnidooihignfaaGreatDoorP9
import Derived.Test.YtgnidooihignfaaGreatDoorSnEDec
import Derived.Test.YtgnidooihignfaaGreatDoorP8
import Derived.Test.YtgnidooihignfaaGreatDoorAbFour
set_option linter.unusedSimpArgs false
set_option maxRecDepth 10000
namespace Go.Proofs.YtgnidooihignfaaGreatDoor
open Go Go.Ab Go.ChangeShapes Go.WideShapes Go.ChangeAt Go.RowKit

structure Eng.wf (e : Eng) : Prop where
  ok : e.ok
  o : 0 ≤ e.o
  late : ∀ a ∈ e.late, a.wf
  now : 0 ≤ e.now
theorem eng_of2 {m : Nat} {x : AV} (h : hasT Tryz.prog (m + 6) 38 x) : ∃ e : Eng, x = e.av ∧ e.wf := by
  unfold hasT at h
  rw [Tryz.underlying38] at h
  obtain ⟨xs, rfl, hl, hf⟩ := h
  match xs, hl with
  | [t, b, v, w, a, k, j, f, n], _ =>
    obtain ⟨t, rfl, _⟩ := tree_of (hf 0 _ t rfl rfl)
    obtain ⟨b, rfl, hb⟩ := bal_of (hf 1 _ b rfl rfl)
    obtain ⟨vl, o, rfl, _, ho⟩ := votes_of (hf 2 _ v rfl rfl)
    obtain ⟨w, rfl, _⟩ := bal_of (hf 3 _ w rfl rfl)
    obtain ⟨a, rfl, ha⟩ := atts_of (hf 4 _ a rfl rfl)
    obtain ⟨k, rfl, hk⟩ := links_of (hf 5 _ k rfl rfl)
    obtain ⟨j, rfl⟩ := checks_of (hf 6 _ j rfl rfl)
    obtain ⟨f, rfl, _⟩ := check_of (hf 7 _ f rfl rfl)
    obtain ⟨n, rfl, hn⟩ := u64_of (hf 8 _ n rfl rfl)
    exact ⟨⟨t, b, vl, o, w, a, k, j, f, n⟩, rfl, ⟨hb, hk.1, hk.2⟩, ho.1, ha, hn.1⟩

theorem vmay_spec {l : List Latest} {o : Int} (h : vmayB l o = true) : 1 ≤ l.length ∧ l.length ≤ 8 ∧ o < bit l.length ∧ ∀ i, i < l.length → vbad o i (l.getD i zLatest) = false := by
  simp only [vmayB, Bool.and_eq_true, decide_eq_true_eq, List.all_eq_true, Bool.not_eq_true'] at h
  exact ⟨h.1, h.2.1, h.2.2.1, fun i hi => h.2.2.2 i (List.mem_range.2 hi)⟩
theorem vmay_of {l : List Latest} {o : Int} (h : 1 ≤ l.length ∧ l.length ≤ 8 ∧ o < bit l.length ∧ ∀ i, i < l.length → vbad o i (l.getD i zLatest) = false) : vmayB l o = true := by
  simp only [vmayB, Bool.and_eq_true, decide_eq_true_eq, List.all_eq_true, Bool.not_eq_true']
  exact ⟨h.1, h.2.1, h.2.2.1, fun i hi => h.2.2.2 i (List.mem_range.1 hi)⟩
end Go.Proofs.YtgnidooihignfaaGreatDoor

/- What blocks weigh behind a cut. -/
set_option linter.unusedSimpArgs false
set_option maxRecDepth 10000
namespace Go.Proofs.YtgnidooihignfaaGreatDoor
open Go Go.Ab

/-- A list of weights, of those alone that are there behind the cut. -/
def resW (t : List Node) (i : Int) (w : List Int) : List Int := (keptL t i t.length).map fun k => w.getD k 0
section
variable {t : List Node} {i : Int}
theorem CutAt.resLen (h : CutAt t i) (w : List Int) : (resW t i w).length = (cutR t i).length := by rw [resW, List.length_map, h.len]
theorem resW_at (w : List Int) {k : Nat} (hk : k < t.length) (ha : aboveF t i k = true) : (resW t i w).getD (phi t i k) 0 = w.getD k 0 := by
  obtain ⟨h1, h2⟩ := keptL_at hk ha
  unfold resW
  rw [List.getD_eq_getElem?_getD, List.getElem?_map, h1]
  rfl
theorem resW_ext {w v : List Int} (h : ∀ k, k < t.length → aboveF t i k = true → w.getD k 0 = v.getD k 0) : resW t i w = resW t i v := by
  unfold resW
  refine List.map_congr_left fun k hk => ?_
  obtain ⟨h1, h2⟩ := keptL_mem.1 hk
  exact h k h1 h2
theorem resW_eq (h : CutAt t i) {w : List Int} {l : List Int} (hl : l.length = (cutR t i).length) (he : ∀ k, k < t.length → aboveF t i k = true → l.getD (phi t i k) 0 = w.getD k 0) : l = resW t i w := by
  refine List.ext_getElem (by rw [hl, h.resLen]) fun j h1 h2 => ?_
  obtain ⟨k, h3, h4, rfl⟩ := h.back (show j < (cutR t i).length by omega)
  have h5 := he k h3 h4
  rw [← resW_at w h3 h4] at h5
  rw [List.getD_eq_getElem?_getD, List.getD_eq_getElem?_getD, List.getElem?_eq_getElem h1, List.getElem?_eq_getElem h2] at h5
  exact h5
theorem getD_add (l : List Int) (k j : Nat) (x : Int) : (addAt l k x).getD j 0 = if k = j ∧ k < l.length then IntKind.u64.wrap (l.getD k 0 + x) else l.getD j 0 := by
  unfold addAt
  rw [getD_set]
theorem addAt_len (l : List Int) (k : Nat) (x : Int) : (addAt l k x).length = l.length := by unfold addAt; rw [List.length_set]
theorem CutAt.add (h : CutAt t i) {l : List Int} (hl : l.length = t.length) {k : Nat} (hk : k < t.length) (ha : aboveF t i k = true) (x : Int) : addAt (resW t i l) (phi t i k) x = resW t i (addAt l k x) := by
  have h1 := (h.at hk ha).1
  refine resW_eq h (by rw [addAt_len, h.resLen]) fun j hj hja => ?_
  rw [getD_add, getD_add, resW_at l hk ha, resW_at l hj hja, h.resLen]
  by_cases hkj : k = j
  · subst hkj
    rw [if_pos ⟨rfl, h1⟩, if_pos ⟨rfl, by omega⟩]
  · rw [if_neg (fun hh => hkj ((phi_inj ha hja).1 hh.1)), if_neg (fun hh => hkj hh.1)]
theorem CutAt.addOff (_ : CutAt t i) {l : List Int} {k : Nat} (ha : aboveF t i k = false) (x : Int) : resW t i (addAt l k x) = resW t i l :=
  resW_ext fun j _ hja => by
    rw [getD_add, if_neg]
    rintro ⟨rfl, _⟩
    rw [ha] at hja
    cases hja
theorem votTo_drop (h : CutAt t i) (vl : List Latest) (b : List Int) : ∀ m, m ≤ vl.length → votTo (cutR t i) (dropL ((cutR t i).map Node.root) vl) [] b m = resW t i (votTo t vl [] b m)
  | 0, _ => by
    refine resW_eq h (by rw [votTo_len]) fun k hk ha => ?_
    have h1 := (h.at hk ha).1
    simp only [votTo]
    rw [List.getD_eq_getElem?_getD, List.getD_eq_getElem?_getD, List.getElem?_replicate, List.getElem?_replicate, if_pos h1, if_pos hk]
  | m + 1, hm => by
    have ih := votTo_drop h vl b m (by omega)
    have hlen := votTo_len t vl [] b m
    have hx : (dropL ((cutR t i).map Node.root) vl).getD m zLatest = dropX ((cutR t i).map Node.root) (vl.getD m zLatest) := by
      unfold dropL
      rw [List.getD_eq_getElem?_getD, List.getD_eq_getElem?_getD, List.getElem?_map, List.getElem?_eq_getElem (by omega)]
      rfl
    rw [votTo, votTo, ih, hx]
    generalize votTo t vl [] b m = l at hlen
    generalize vl.getD m zLatest = x
    have hin := h.in_roots x.root
    unfold dropX
    by_cases hr : x.root ∈ (cutR t i).map Node.root
    · rw [if_pos hr]
      have hc := hin.1 hr
      obtain ⟨k, h1, h2, h3⟩ := inC_spec hc
      unfold votS
      split
      · rfl
      · rw [h.find', hc, if_pos rfl, h1]
        simp only [Int.toNat_natCast]
        rw [if_neg (by omega), if_neg (by omega)]
        exact h.add hlen h2 h3 _
    · rw [if_neg hr]
      have hc : inC t i x.root = false := by
        cases hh : inC t i x.root
        · rfl
        · exact absurd (hin.2 hh) hr
      have e1 : votS (cutR t i) [] b (resW t i l) m zLatest = resW t i l := by
        unfold votS
        exact if_pos rfl
      rw [e1]
      unfold votS
      split
      · rfl
      · split
        · rfl
        · next hk =>
          refine (h.addOff ?_ _).symm
          unfold inC at hc
          rw [decide_eq_true (show 0 ≤ findR t x.root by omega), Bool.true_and] at hc
          rwa [Int.toNat_of_nonneg (by omega)]
theorem CutAt.set (h : CutAt t i) {l : List Int} (hl : l.length = t.length) {k : Nat} (hk : k < t.length) (ha : aboveF t i k = true) (x : Int) : (resW t i l).set (phi t i k) x = resW t i (l.set k x) := by
  have h1 := (h.at hk ha).1
  refine resW_eq h (by rw [List.length_set, h.resLen]) fun j hj hja => ?_
  rw [getD_set, getD_set, resW_at l hj hja, h.resLen]
  by_cases hkj : k = j
  · subst hkj
    rw [if_pos ⟨rfl, h1⟩, if_pos ⟨rfl, by omega⟩]
  · rw [if_neg (fun hh => hkj ((phi_inj ha hja).1 hh.1)), if_neg (fun hh => hkj hh.1)]
theorem CutAt.setOff (_ : CutAt t i) {l : List Int} {k : Nat} (ha : aboveF t i k = false) (x : Int) : resW t i (l.set k x) = resW t i l :=
  resW_ext fun j _ hja => by
    rw [getD_set, if_neg]
    rintro ⟨rfl, _⟩
    rw [ha] at hja
    cases hja
theorem CutAt.up (h : CutAt t i) {v : List Int} (hl : v.length = t.length) {k : Nat} (hk : k < t.length) : resW t i (upW t v k) = if aboveF t i k = true then upW (cutR t i) (resW t i v) (phi t i k) else resW t i v := by
  have hp := par_range h.may (a := (k : Int)) (by omega) (by omega)
  have off : aboveF t i (parI t k).toNat = false → resW t i (upW t v k) = resW t i v := fun hf => by
    unfold upW
    split
    · rfl
    · exact h.setOff hf _
  split
  · next ha =>
    by_cases hki : (k : Int) = i
    · have h1 : upW (cutR t i) (resW t i v) (phi t i k) = resW t i v := by
        unfold upW
        rw [h.par hk ha, if_pos hki, if_pos (by omega)]
      rw [h1]
      rcases hp with hp | hp
      · unfold upW
        rw [if_pos (by omega)]
      · refine off ?_
        cases hh : aboveF t i (parI t k).toNat
        · rfl
        · have := aboveF_ge h.may (a := ((parI t k).toNat : Int)) (by omega) (by omega) hh
          omega
    · obtain ⟨p0, p1, p2⟩ := h.kept_par hk ha hki
      unfold upW
      rw [h.par hk ha, if_neg hki, if_neg (by omega), if_neg (by omega), Int.toNat_natCast, resW_at v (by omega) p2, resW_at v hk ha]
      exact (h.set hl (by omega) p2 _).symm
  · next ha =>
    have hki : (k : Int) ≠ i := fun hh => ha (by rw [hh]; exact h.self)
    rcases hp with hp | hp
    · unfold upW
      rw [if_pos (by omega)]
    · refine off ?_
      cases hh : aboveF t i (parI t k).toNat
      · rfl
      · exact absurd ((par_kept h.may hk hki).2 ⟨hp.1, keptL_mem.2 ⟨by omega, hh⟩⟩) ha
theorem phi_succ (t : List Node) (i : Int) (k : Nat) : phi t i (k + 1) = phi t i k + if aboveF t i k = true then 1 else 0 := by
  unfold phi
  rw [keptL_succ, List.length_append]
  split <;> rfl
theorem phi_le (t : List Node) (i : Int) {a b : Nat} (h : a ≤ b) : phi t i a ≤ phi t i b := by
  induction b with
  | zero => have : a = 0 := by omega
            subst this; exact Nat.le_refl _
  | succ b ih =>
    rcases Nat.eq_or_lt_of_le h with h1 | h1
    · subst h1; exact Nat.le_refl _
    · have := ih (by omega)
      rw [phi_succ]
      omega
theorem CutAt.subTo (h : CutAt t i) {w : List Int} (hw : w.length = t.length) : ∀ m, m ≤ t.length → resW t i (subTo t w m) = Go.Proofs.YtgnidooihignfaaGreatDoor.subTo (cutR t i) (resW t i w) ((cutR t i).length - phi t i (t.length - m))
  | 0, _ => by
    have : (cutR t i).length = phi t i t.length := h.len
    rw [Nat.sub_zero, this, Nat.sub_self]
    rfl
  | m + 1, hm => by
    have ih := h.subTo hw m (by omega)
    have hlen : (cutR t i).length = phi t i t.length := h.len
    have hk : t.length - 1 - m < t.length := by omega
    have e1 : t.length - m = (t.length - 1 - m) + 1 := by omega
    have e2 : t.length - (m + 1) = t.length - 1 - m := by omega
    have hle := phi_le t i (show t.length - m ≤ t.length by omega)
    rw [e1] at ih hle
    rw [e2]
    show resW t i (upW t (Go.Proofs.YtgnidooihignfaaGreatDoor.subTo t w m) (t.length - 1 - m)) = _
    rw [h.up (by rw [subTo_len]; exact hw) hk]
    generalize t.length - 1 - m = k at *
    rw [phi_succ] at ih hle
    split
    · next ha =>
      rw [if_pos ha] at ih hle
      have e3 : (cutR t i).length - phi t i k = ((cutR t i).length - (phi t i k + 1)) + 1 := by omega
      rw [e3, Go.Proofs.YtgnidooihignfaaGreatDoor.subTo, ih]
      congr 1
      omega
    · next ha =>
      rw [if_neg ha] at ih
      exact ih
theorem CutAt.weights (h : CutAt t i) (vl : List Latest) (b : List Int) : weights (cutR t i) (dropL ((cutR t i).map Node.root) vl) b = resW t i (Go.Proofs.YtgnidooihignfaaGreatDoor.weights t vl b) := by
  unfold Go.Proofs.YtgnidooihignfaaGreatDoor.weights ownW subW
  have hl : (dropL ((cutR t i).map Node.root) vl).length = vl.length := by rw [dropL, List.length_map]
  rw [hl, votTo_drop h vl b vl.length (Nat.le_refl _), h.subTo (votTo_len t vl [] b vl.length) t.length (Nat.le_refl _), Nat.sub_self]
  congr 1
theorem dropL_may {rs : List Root} {vl : List Latest} {o : Int} (h : vmayB vl o = true) : vmayB (dropL rs vl) o = true := by
  obtain ⟨h1, h2, h3, h4⟩ := vmay_spec h
  have hl : (dropL rs vl).length = vl.length := by rw [dropL, List.length_map]
  refine vmay_of ?_
  rw [hl]
  refine ⟨h1, h2, h3, fun j hj => ?_⟩
  have hx : (dropL rs vl).getD j zLatest = dropX rs (vl.getD j zLatest) := by
    unfold dropL
    rw [List.getD_eq_getElem?_getD, List.getD_eq_getElem?_getD, List.getElem?_map, List.getElem?_eq_getElem hj]
    rfl
  rw [hx]
  unfold dropX
  split
  · exact h4 j hj
  · unfold vbad
    rw [decide_eq_true rfl, Bool.not_true, Bool.and_false]
end

theorem root198_c (l : List Root) (r : Root) (hl : l.length ≤ 1000) : Cal Tryz.prog 198 [.sl (rv l) false, .root r] (.int .i64 (fidx (fun x => decide (r = x)) l)) := by
  unfold rv
  have hR : Tryz.f198.results.toList = [.tmp 4] := rfl
  refine cal_tr Tryz.func198 rfl fun E hE hP => ?_
  refine mW ?_
  refine Tr.loop (fun i : Nat => (⟨[(0, .sl (l.map AV.root) false), (3, .ptr 0 [] 0), (7, .int .i64 l.length), (8, .int .i64 i)], [(0, .var (.root r))], 1, []⟩ : S)) (fun i => i ≤ l.length ∧ ∀ j (hj : j < l.length), j < i → decide (r = l[j]) = false) (fun i => l.length - i) 0 ⟨Nat.zero_le _, fun _ _ h => by omega⟩ ?_ ?_
  · refine wk_ren (fun n => n) mB mB rfl rfl rfl
  · intro i ⟨hi, hall⟩
    by_cases hlt : i < l.length
    · have e1 : decide ((i : Int) < (l.length : Int)) = true := decide_eq_true (by omega)
      have hn := nth_map_lt AV.root l i hlt
      have hw := wrap_next (n := i) (by omega)
      cases hp : decide (r = l[i])
      · have ff := And.intro e1 (And.intro hn (And.intro hw hp))
        refine mW ?_
        refine ⟨i + 1, ⟨hlt, fun j hj hji => ?_⟩, by omega, ?_⟩
        · rcases Nat.lt_or_ge j i with h | h
          · exact hall j hj h
          · have : j = i := by omega
            subst this; exact hp
        · exact mK
      · have er := fidx_at (p := fun x => decide (r = x)) hlt (fun j hj => hall j (by omega) hj) hp
        have ff := And.intro e1 (And.intro hn (And.intro hw (And.intro hp er)))
        exact mWE
    · have e1 : decide ((i : Int) < (l.length : Int)) = false := decide_eq_false (by omega)
      have er := fidx_none (p := fun x => decide (r = x)) (l := l) fun j hj => hall j hj (by omega)
      have ff := And.intro e1 er
      exact mWE
theorem root141_c (l : List Root) (r : Root) (hl : l.length ≤ 1000) : Cal Tryz.prog 141 [.sl (rv l) false, .root r] (.bool (decide (r ∈ l))) := by
  have c1 := root198_c l r hl
  have er : decide (0 ≤ fidx (fun x => decide (r = x)) l) = decide (r ∈ l) := by
    rw [fidx_any]
    by_cases h : r ∈ l
    · rw [decide_eq_true h, List.any_eq_true]
      exact ⟨r, h, by simp⟩
    · rw [decide_eq_false h, List.any_eq_false]
      intro x hx hh
      exact h (of_decide_eq_true hh ▸ hx)
  have ff := er
  have hR : Tryz.f141.results.toList = [.tmp 4] := rfl
  refine cal_tr Tryz.func141 rfl fun E hE hP => ?_
  exact mX
def goneB (keep : List Root) (c : Check) : Bool := !decide (c.root ∈ keep)
theorem gone_c (keep : List Root) (c : Check) (hl : keep.length ≤ 1000) : Cal Tryz.prog 140 [c.av, .ref (.sl (rv keep) false)] (.bool (goneB keep c)) := by
  have c1 := root141_c keep c.root hl
  unfold goneB
  have hR : Tryz.f140.results.toList = [.tmp 3] := rfl
  refine cal_tr Tryz.func140 rfl fun E hE hP => ?_
  exact mX
def keepG (keep : List Root) : AV := .ref (.fn (.func 140) [] [.ref (.sl (rv keep) false)])
/-- An engine that is pruned: its links, and what is justified, lie so. -/
def pruA (e : Eng) (b : Block) (x : Att) (c : Ask) (K J : AV) : AV := .st [engX e (.sl (e.t.map Node.av) false) (u64s e.b) (.sl (e.vl.map Latest.av) false) (u64s e.w) (atts e.late) K J, b.av, x.av, c.av]
attribute [go_sem] pruA keepG
def linkGone (keep : List Root) (f : Int) (a : Link) : Bool := goneB keep a.s || (goneB keep a.t || decide (a.t.epoch ≤ f))
def pru4 (e : Eng) (b : Block) (x : Att) (c : Ask) (n m : Nat) (L M : List AV) : HP := [(0, .var (pruA e b x c (.ms 2 67 n) (.ms 3 33 m))), (1, .var (.ptr 0 [] 0)), (2, .row 67 L), (3, .row 33 M)]
theorem f144_c (e : Eng) (b : Block) (x : Att) (c : Ask) (n m : Nat) (L M : List AV) (keep : List Root) (hl : keep.length ≤ 1000) (a : Link) : CalE Tryz.prog 144 [a.av, keepG keep, .ptr 1 [] 0] 4 (pru4 e b x c n m L M) (.bool (linkGone keep e.fin.epoch a)) (pru4 e b x c n m L M) := by
  have c1 := gone_c keep a.s hl
  have c2 := gone_c keep a.t hl
  unfold pru4
  cases h1 : goneB keep a.s
  · cases h2 : goneB keep a.t
    · have er : linkGone keep e.fin.epoch a = decide (a.t.epoch ≤ e.fin.epoch) := by rw [linkGone, h1, h2]; rfl
      rw [h1] at c1
      rw [h2] at c2
      rw [er]
      have hR : Tryz.f144.results.toList = [.tmp 4] := rfl
      refine calE_tr Tryz.func144 rfl fun E hE hP => ?_
      exact mX
    · have er : linkGone keep e.fin.epoch a = true := by rw [linkGone, h1, h2]; rfl
      rw [h1] at c1
      rw [h2] at c2
      rw [er]
      have hR : Tryz.f144.results.toList = [.tmp 4] := rfl
      refine calE_tr Tryz.func144 rfl fun E hE hP => ?_
      exact mX
  · have er : linkGone keep e.fin.epoch a = true := by rw [linkGone, h1]; rfl
    rw [h1] at c1
    rw [er]
    have hR : Tryz.f144.results.toList = [.tmp 4] := rfl
    refine calE_tr Tryz.func144 rfl fun E hE hP => ?_
    exact mX
theorem lidx189 (e : Eng) (b : Block) (x : Att) (c : Ask) (m : Nat) (M : List AV) (keep : List Root) (hk : keep.length ≤ 1000) (l : List Link) (hl : l.length ≤ 1000) : CalE Tryz.prog 189 [.ms 2 67 l.length, .fn (.func 144) [] [keepG keep, .ptr 1 [] 0]] 4 (pru4 e b x c l.length m (l.map Link.av) M) (.int .i64 (fidx (linkGone keep e.fin.epoch) l)) (pru4 e b x c l.length m (l.map Link.av) M) := by
  unfold pru4
  have hR : Tryz.f189.results.toList = [.tmp 4] := rfl
  refine calE_tr Tryz.func189 rfl fun E hE hP => ?_
  refine mW ?_
  refine Tr.loop (fun i : Nat => (⟨[(0, .ms 2 67 l.length), (1, .fn (.func 144) [] [keepG keep, .ptr 1 [] 0]), (7, .int .i64 l.length), (8, .int .i64 i)], pru4 e b x c l.length m (l.map Link.av) M, 4, []⟩ : S)) (fun i => i ≤ l.length ∧ ∀ j (hj : j < l.length), j < i → linkGone keep e.fin.epoch l[j] = false) (fun i => l.length - i) 0 ⟨Nat.zero_le _, fun _ _ h => by omega⟩ ?_ ?_
  · unfold pru4
    exact mK
  · intro i ⟨hi, hall⟩
    by_cases hlt : i < l.length
    · have e1 : decide ((i : Int) < (l.length : Int)) = true := decide_eq_true (by omega)
      have hn : (l.map Link.av)[i]? = some l[i].av := by simp [hlt]
      have hw := wrap_next (n := i) (by omega)
      have y1 := f144_c e b x c l.length m (l.map Link.av) M keep hk l[i]
      unfold pru4 at y1 ⊢
      cases hp : linkGone keep e.fin.epoch l[i]
      · rw [hp] at y1
        have ff := And.intro e1 (And.intro hn hw)
        refine mW ?_
        refine ⟨i + 1, ⟨hlt, fun j hj hji => ?_⟩, by omega, ?_⟩
        · rcases Nat.lt_or_ge j i with h | h
          · exact hall j hj h
          · have : j = i := by omega
            subst this; exact hp
        · exact mK
      · rw [hp] at y1
        have er := fidx_at hlt (fun j hj => hall j (by omega) hj) hp
        have ff := And.intro e1 (And.intro hn (And.intro hw er))
        exact mX
    · have e1 : decide ((i : Int) < (l.length : Int)) = false := decide_eq_false (by omega)
      have er := fidx_none (p := linkGone keep e.fin.epoch) (l := l) fun j hj => hall j hj (by omega)
      unfold pru4
      have ff := And.intro e1 er
      exact mX
section
variable {α : Type}
def delTo (p : α → Bool) (l : List α) (j : Nat) : List α := (l.take j).filter fun a => !p a
def delL (p : α → Bool) (l : List α) : List α := l.filter fun a => !p a
theorem delTo_next {p : α → Bool} {l : List α} {j : Nat} (h : j < l.length) : delTo p l (j + 1) = delTo p l j ++ (if p l[j] then [] else [l[j]]) := by
  unfold delTo
  rw [List.take_add_one, List.getElem?_eq_getElem h, Option.toList_some, List.filter_append]
  cases hp : p l[j] <;> simp [hp]
theorem delTo_first {p : α → Bool} {l : List α} {i : Nat} (h : i < l.length) (hb : ∀ j (hj : j < i), p (l[j]'(by omega)) = false) (hi : p l[i] = true) : delTo p l (i + 1) = l.take i := by
  rw [delTo_next h, hi, if_pos rfl, List.append_nil]
  unfold delTo
  rw [List.filter_eq_self]
  intro a ha
  obtain ⟨j, hj, rfl⟩ := List.mem_iff_getElem.1 ha
  rw [List.length_take] at hj
  rw [List.getElem_take, hb j (by omega)]
  rfl
/-- How a list that is deleted from stands meanwhile. -/
structure Del (p : α → Bool) (l : List α) (j : Nat) (L : List α) : Prop where
  le : j ≤ l.length
  len : L.length = l.length
  kept : L.take (delTo p l j).length = delTo p l j
  rest : L.drop j = l.drop j
  lt : (delTo p l j).length < j
theorem Del.at {p : α → Bool} {l L : List α} {j : Nat} (h : Del p l j L) (hj : j < l.length) : L[j]? = some l[j] := by
  have h1 := congrArg List.head? h.rest
  rw [List.head?_drop, List.head?_drop, List.getElem?_eq_getElem hj] at h1
  exact h1
theorem Del.skip {p : α → Bool} {l L : List α} {j : Nat} (h : Del p l j L) (hj : j < l.length) (hp : p l[j] = true) : Del p l (j + 1) L := by
  have e : delTo p l (j + 1) = delTo p l j := by rw [delTo_next hj, hp, if_pos rfl, List.append_nil]
  refine ⟨hj, h.len, by rw [e]; exact h.kept, ?_, by rw [e]; have := h.lt; omega⟩
  have := congrArg (List.drop 1) h.rest
  rwa [List.drop_drop, List.drop_drop] at this
theorem Del.keep {p : α → Bool} {l L : List α} {j : Nat} (h : Del p l j L) (hj : j < l.length) (hp : p l[j] = false) : Del p l (j + 1) (L.set (delTo p l j).length l[j]) := by
  have e : delTo p l (j + 1) = delTo p l j ++ [l[j]] := by rw [delTo_next hj, hp, if_neg (by decide)]
  have hlt := h.lt
  have hlen := h.len
  refine ⟨hj, by rw [List.length_set]; exact h.len, ?_, ?_, by rw [e, List.length_append, List.length_singleton]; omega⟩
  · rw [e, List.length_append, List.length_singleton, List.take_add_one, List.take_set_of_le (Nat.le_refl _), h.kept, List.getElem?_set, if_pos rfl, if_pos (by omega)]
    rfl
  · rw [List.drop_set_of_lt (by omega)]
    have := congrArg (List.drop 1) h.rest
    rwa [List.drop_drop, List.drop_drop] at this
theorem Del.done {p : α → Bool} {l L : List α} (h : Del p l l.length L) : L.take (delL p l).length = delL p l := by
  have := h.kept
  unfold delTo at this
  rwa [List.take_length] at this
end

theorem ldel_no (e : Eng) (b : Block) (x : Att) (c : Ask) (m : Nat) (M : List AV) (keep : List Root) (hk : keep.length ≤ 1000) (l : List Link) (hl : l.length ≤ 1000) (h : ∀ j (hj : j < l.length), linkGone keep e.fin.epoch l[j] = false) :
    CalE Tryz.prog 143 [.ms 2 67 l.length, .fn (.func 144) [] [keepG keep, .ptr 1 [] 0]] 4 (pru4 e b x c l.length m (l.map Link.av) M) (.ms 2 67 l.length) (pru4 e b x c l.length m (l.map Link.av) M) := by
  have y1 := lidx189 e b x c m M keep hk l hl
  rw [fidx_none h] at y1
  unfold pru4 at y1 ⊢
  have hR : Tryz.f143.results.toList = [.tmp 4] := rfl
  refine calE_tr Tryz.func143 rfl fun E hE hP => ?_
  exact mX
set_option maxHeartbeats 1000000 in
theorem ldel_w (e : Eng) (b : Block) (x : Att) (c : Ask) (m : Nat) (M : List AV) (keep : List Root) (hk : keep.length ≤ 1000) (l : List Link) (hl : l.length ≤ 1000) (i0 : Nat) (h0 : i0 < l.length) (hb : ∀ j (hj : j < i0), linkGone keep e.fin.epoch (l[j]'(by omega)) = false) (hi0 : linkGone keep e.fin.epoch l[i0] = true) :
    CalE Tryz.prog 143 [.ms 2 67 l.length, .fn (.func 144) [] [keepG keep, .ptr 1 [] 0]] 4 (pru4 e b x c l.length m (l.map Link.av) M) (cutV 2 67 l.length (delL (linkGone keep e.fin.epoch) l).length) (pru4 e b x c l.length m ((delL (linkGone keep e.fin.epoch) l).map Link.av) M) := by
  have y1 := lidx189 e b x c m M keep hk l hl
  rw [fidx_at h0 hb hi0] at y1
  have d0 := delTo_first h0 hb hi0
  have hw0 := wrap_next (n := i0) (by omega)
  have e0 : decide ((i0 : Int) = -1) = false := decide_eq_false (by omega)
  have hf : ∀ L a, CalE Tryz.prog 144 [Link.av a, keepG keep, .ptr 1 [] 0] 4 (pru4 e b x c l.length m L M) (.bool (linkGone keep e.fin.epoch a)) (pru4 e b x c l.length m L M) := fun L a => f144_c e b x c l.length m L M keep hk a
  generalize linkGone keep e.fin.epoch = p at *
  have hd0 : Del p l (i0 + 1) l := ⟨h0, rfl, by rw [d0, List.length_take, Nat.min_eq_left (by omega)], rfl, by rw [d0, List.length_take]; omega⟩
  have hL0 : (delTo p l (i0 + 1)).length = i0 := by rw [d0, List.length_take, Nat.min_eq_left (by omega)]
  unfold pru4 at y1 hf ⊢
  have ff := And.intro e0 hw0
  have hR : Tryz.f143.results.toList = [.tmp 4] := rfl
  refine ⟨enters_of Tryz.func143 (by kernel_rfl) rfl, eff_of_tr Tryz.func143 rfl (Nat.le_of_ble_eq_true rfl) (cutV_idsB 2 67 _ _ (by omega)) fun E hE hP => ?_⟩
  refine mW ?_
  refine Tr.loop (fun q : Nat × List Link => (⟨[(0, .ms 2 67 l.length), (1, .fn (.func 144) [] [keepG keep, .ptr 1 [] 0]), (5, .int .i64 (delTo p l q.1).length), (6, .int .i64 q.1)], [(0, .var (pruA e b x c (.ms 2 67 l.length) (.ms 3 33 m))), (1, .var (.ptr 0 [] 0)), (2, .row 67 (q.2.map Link.av)), (3, .row 33 M)], 4, []⟩ : S)) (fun q => Del p l q.1 q.2) (fun q => l.length - q.1) (i0 + 1, l) hd0 ?_ ?_
  · simp only [hL0]
    exact mK
  · rintro ⟨j, L⟩ hD
    simp only at hD
    by_cases hlt : j < l.length
    · have e1 : decide ((j : Int) < (l.length : Int)) = true := decide_eq_true (by omega)
      have hx : (L.map Link.av)[j]? = some l[j].av := by rw [List.getElem?_map, hD.at hlt]; rfl
      have hw := wrap_next (n := j) (by omega)
      have y1 := hf (L.map Link.av) l[j]
      cases hp : p l[j]
      · rw [hp] at y1
        have hlt2 := hD.lt
        have hlen := hD.len
        have hK := hD.keep hlt hp
        have hnl : (delTo p l (j + 1)).length = (delTo p l j).length + 1 := by rw [delTo_next hlt, hp, if_neg (by decide), List.length_append, List.length_singleton]
        have hxi : (L.map Link.av)[(delTo p l j).length]? = some (L[(delTo p l j).length]'(by omega)).av := by rw [List.getElem?_map, List.getElem?_eq_getElem (by omega)]; rfl
        have hw2 := wrap_next (n := (delTo p l j).length) (by omega)
        have g1 : (delTo p l j).length < l.length := by omega
        generalize (L[(delTo p l j).length]'(by omega)) = y at hxi
        generalize (delTo p l j).length = i at *
        generalize l[j] = v at *
        have ff := And.intro e1 (And.intro hx (And.intro hw (And.intro hxi hw2)))
        refine mW ?_
        refine ⟨(j + 1, L.set i v), hK, by omega, ?_⟩
        simp only [hnl, List.map_set]
        exact mK
      · rw [hp] at y1
        have hnl : (delTo p l (j + 1)).length = (delTo p l j).length := by rw [delTo_next hlt, hp, if_pos rfl, List.append_nil]
        have ff := And.intro e1 (And.intro hx hw)
        refine mW ?_
        refine ⟨(j + 1, L), hD.skip hlt hp, by omega, ?_⟩
        simp only [hnl]
        exact mK
    · have e1 : decide ((j : Int) < (l.length : Int)) = false := decide_eq_false (by omega)
      have hil : j = l.length := by have := hD.le; omega
      subst hil
      have hdone := hD.done
      have hlen := hD.len
      have hlt2 := hD.lt
      have hdd : delTo p l l.length = delL p l := by unfold delTo; rw [List.take_length]; rfl
      rw [hdd] at hlt2 ⊢
      have hE2 : ((L.map Link.av).take (delL p l).length ++ List.replicate ((L.map Link.av).length - (delL p l).length) zLink.av).take (delL p l).length = (delL p l).map Link.av := by
        rw [List.take_append_of_le_length (by rw [List.length_take, List.length_map]; omega), List.take_take, Nat.min_self, ← List.map_take, hdone]
      have ff := e1
      refine mW ?_
      have hgl : HP.get [(0, .var (pruA e b x c (.ms 2 67 l.length) (.ms 3 33 m))), (1, .var (.ptr 0 [] 0)), (2, .row 67 (L.map Link.av)), (3, .row 33 M)] 2 = some (AO.row 67 (L.map Link.av)) := rfl
      have hll : (L.map Link.av).length = l.length := by rw [List.length_map, hlen]
      refine Tr.wk (s' := ⟨[(0, .ms 2 67 l.length), (5, .int .i64 (delL p l).length)], [(0, .var (pruA e b x c (.ms 2 67 l.length) (.ms 3 33 m))), (1, .var (.ptr 0 [] 0)), (2, .row 67 (L.map Link.av)), (3, .row 33 M)], 4, []⟩) ?_ ?_
      · exact mK
      refine tr_clear (s1 := ⟨[(37, .int .i64 (delL p l).length), (36, .ms 2 67 l.length), (0, .ms 2 67 l.length), (5, .int .i64 (delL p l).length)], [(0, .var (pruA e b x c (.ms 2 67 l.length) (.ms 3 33 m))), (1, .var (.ptr 0 [] 0)), (2, .row 67 (L.map Link.av)), (3, .row 33 M)], 36, []⟩) 2 _ _ 31 149 38 2 (.tmp 36) (.tmp 37) _ (sz := 67) (i := (delL p l).length) (xs := L.map Link.av) (z := zLink.av) (by rw [hE]; rfl) rfl rfl rfl rfl rfl rfl rfl rfl rfl rfl rfl ?_ (by rw [hll]; rfl) rfl (by rw [hll]; exact hlt2) hgl rfl rfl tZero59 rfl ?_
      · intro Q hQ
        simp only [go_sem, seval]
        iterate 2 refine mV ?_
        exact hQ
      refine Tr.wk (Wk.rowTake 2 67 ((L.map Link.av).take (delL p l).length ++ List.replicate ((L.map Link.av).length - (delL p l).length) zLink.av) (delL p l).length rfl) ?_
      rw [hE2]
      refine Tr.wk (s' := ⟨[(0, .ms 2 67 l.length), (5, .int .i64 (delL p l).length)], [(0, .var (pruA e b x c (.ms 2 67 l.length) (.ms 3 33 m))), (1, .var (.ptr 0 [] 0)), (2, .row 67 ((delL p l).map Link.av)), (3, .row 33 M)], 4, []⟩) ?_ ?_
      · exact mK
      refine tr_cut (s1 := ⟨[(40, .int .i64 (delL p l).length), (39, .ms 2 67 l.length), (0, .ms 2 67 l.length), (5, .int .i64 (delL p l).length)], [(0, .var (pruA e b x c (.ms 2 67 l.length) (.ms 3 33 m))), (1, .var (.ptr 0 [] 0)), (2, .row 67 ((delL p l).map Link.av)), (3, .row 33 M)], 36, []⟩)
        (s2 := ⟨[(4, cutV 2 67 l.length (delL p l).length), (41, cutV 2 67 l.length (delL p l).length), (40, .int .i64 (delL p l).length), (39, .ms 2 67 l.length), (0, .ms 2 67 l.length), (5, .int .i64 (delL p l).length)], [(0, .var (pruA e b x c (.ms 2 67 l.length) (.ms 3 33 m))), (1, .var (.ptr 0 [] 0)), (2, .row 67 ((delL p l).map Link.av)), (3, .row 33 M)], 52, []⟩) 2 _ _ 31 149 41 2 (.tmp 39) (.tmp 40) (sz := 67) (m := l.length) (i := (delL p l).length) (by rw [hE]; rfl) rfl (by decide) rfl rfl rfl ?_ rfl rfl (by omega) rfl rfl ?_ ?_
      · intro Q hQ
        simp only [go_sem, seval]
        iterate 2 refine mV ?_
        exact hQ
      · intro Q hQ
        simp only [go_sem, seval]
        refine mV ?_
        exact hQ
      refine Tr.ret ?_
      simp only [hR, go_sem, seval]
      exact ⟨fun n => n, cutV_frz0 _ _ _ _, (by repeat' (first | exact rfl | exact trivial | constructor)), rfl, fun _ _ => rfl⟩
theorem ldel_c (e : Eng) (b : Block) (x : Att) (c : Ask) (m : Nat) (M : List AV) (keep : List Root) (hk : keep.length ≤ 1000) (l : List Link) (hl : l.length ≤ 1000) :
    CalE Tryz.prog 143 [.ms 2 67 l.length, .fn (.func 144) [] [keepG keep, .ptr 1 [] 0]] 4 (pru4 e b x c l.length m (l.map Link.av) M) (cutV 2 67 l.length (delL (linkGone keep e.fin.epoch) l).length) (pru4 e b x c l.length m ((delL (linkGone keep e.fin.epoch) l).map Link.av) M) := by
  cases h : l.findIdx? (linkGone keep e.fin.epoch) with
  | none =>
    have h1 : ∀ j (hj : j < l.length), linkGone keep e.fin.epoch l[j] = false := fun j hj => by simpa using List.findIdx?_eq_none_iff.1 h l[j] (List.getElem_mem hj)
    have hd : delL (linkGone keep e.fin.epoch) l = l := by
      unfold delL
      rw [List.filter_eq_self]
      intro a ha
      obtain ⟨j, hj, rfl⟩ := List.mem_iff_getElem.1 ha
      rw [h1 j hj]
      rfl
    have he : cutV 2 67 l.length l.length = .ms 2 67 l.length := if_neg (by omega)
    rw [hd, he]
    exact ldel_no e b x c m M keep hk l hl h1
  | some i =>
    obtain ⟨h1, h2, h3⟩ := List.findIdx?_eq_some_iff_getElem.1 h
    exact ldel_w e b x c m M keep hk l hl i h1 (fun j hj => by simpa using h3 j hj) h2

def checkGone (keep : List Root) (f : Int) (a : Check) : Bool := goneB keep a || decide (a.epoch < f)
def prj3 (e : Eng) (b : Block) (x : Att) (c : Ask) (n : Nat) (L : List AV) : HP := [(0, .var (pruA e b x c (links e.k) (.ms 2 33 n))), (1, .var (.ptr 0 [] 0)), (2, .row 33 L)]
theorem f146_c (e : Eng) (b : Block) (x : Att) (c : Ask) (n : Nat) (L : List AV) (keep : List Root) (hl : keep.length ≤ 1000) (a : Check) : CalE Tryz.prog 146 [a.av, keepG keep, .ptr 1 [] 0] 3 (prj3 e b x c n L) (.bool (checkGone keep e.fin.epoch a)) (prj3 e b x c n L) := by
  have c1 := gone_c keep a hl
  unfold prj3
  cases h1 : goneB keep a
  · have er : checkGone keep e.fin.epoch a = decide (a.epoch < e.fin.epoch) := by rw [checkGone, h1]; rfl
    rw [h1] at c1
    rw [er]
    have hR : Tryz.f146.results.toList = [.tmp 4] := rfl
    refine calE_tr Tryz.func146 rfl fun E hE hP => ?_
    exact mX
  · have er : checkGone keep e.fin.epoch a = true := by rw [checkGone, h1]; rfl
    rw [h1] at c1
    rw [er]
    have hR : Tryz.f146.results.toList = [.tmp 4] := rfl
    refine calE_tr Tryz.func146 rfl fun E hE hP => ?_
    exact mX
theorem jidx201 (e : Eng) (b : Block) (x : Att) (c : Ask) (keep : List Root) (hk : keep.length ≤ 1000) (l : List Check) (hl : l.length ≤ 1000) : CalE Tryz.prog 201 [.ms 2 33 l.length, .fn (.func 146) [] [keepG keep, .ptr 1 [] 0]] 3 (prj3 e b x c l.length (l.map Check.av)) (.int .i64 (fidx (checkGone keep e.fin.epoch) l)) (prj3 e b x c l.length (l.map Check.av)) := by
  unfold prj3
  have hR : Tryz.f201.results.toList = [.tmp 4] := rfl
  refine calE_tr Tryz.func201 rfl fun E hE hP => ?_
  refine mW ?_
  refine Tr.loop (fun i : Nat => (⟨[(0, .ms 2 33 l.length), (1, .fn (.func 146) [] [keepG keep, .ptr 1 [] 0]), (7, .int .i64 l.length), (8, .int .i64 i)], prj3 e b x c l.length (l.map Check.av), 3, []⟩ : S)) (fun i => i ≤ l.length ∧ ∀ j (hj : j < l.length), j < i → checkGone keep e.fin.epoch l[j] = false) (fun i => l.length - i) 0 ⟨Nat.zero_le _, fun _ _ h => by omega⟩ ?_ ?_
  · unfold prj3
    exact mK
  · intro i ⟨hi, hall⟩
    by_cases hlt : i < l.length
    · have e1 : decide ((i : Int) < (l.length : Int)) = true := decide_eq_true (by omega)
      have hn : (l.map Check.av)[i]? = some l[i].av := by simp [hlt]
      have hw := wrap_next (n := i) (by omega)
      have y1 := f146_c e b x c l.length (l.map Check.av) keep hk l[i]
      unfold prj3 at y1 ⊢
      cases hp : checkGone keep e.fin.epoch l[i]
      · rw [hp] at y1
        have ff := And.intro e1 (And.intro hn hw)
        refine mW ?_
        refine ⟨i + 1, ⟨hlt, fun j hj hji => ?_⟩, by omega, ?_⟩
        · rcases Nat.lt_or_ge j i with h | h
          · exact hall j hj h
          · have : j = i := by omega
            subst this; exact hp
        · exact mK
      · rw [hp] at y1
        have er := fidx_at hlt (fun j hj => hall j (by omega) hj) hp
        have ff := And.intro e1 (And.intro hn (And.intro hw er))
        exact mX
    · have e1 : decide ((i : Int) < (l.length : Int)) = false := decide_eq_false (by omega)
      have er := fidx_none (p := checkGone keep e.fin.epoch) (l := l) fun j hj => hall j hj (by omega)
      unfold prj3
      have ff := And.intro e1 er
      exact mX
theorem jdel_no (e : Eng) (b : Block) (x : Att) (c : Ask) (keep : List Root) (hk : keep.length ≤ 1000) (l : List Check) (hl : l.length ≤ 1000) (h : ∀ j (hj : j < l.length), checkGone keep e.fin.epoch l[j] = false) :
    CalE Tryz.prog 145 [.ms 2 33 l.length, .fn (.func 146) [] [keepG keep, .ptr 1 [] 0]] 3 (prj3 e b x c l.length (l.map Check.av)) (.ms 2 33 l.length) (prj3 e b x c l.length (l.map Check.av)) := by
  have y1 := jidx201 e b x c keep hk l hl
  rw [fidx_none h] at y1
  unfold prj3 at y1 ⊢
  have hR : Tryz.f145.results.toList = [.tmp 4] := rfl
  refine calE_tr Tryz.func145 rfl fun E hE hP => ?_
  exact mX
set_option maxHeartbeats 1000000 in
theorem jdel_w (e : Eng) (b : Block) (x : Att) (c : Ask) (keep : List Root) (hk : keep.length ≤ 1000) (l : List Check) (hl : l.length ≤ 1000) (i0 : Nat) (h0 : i0 < l.length) (hb : ∀ j (hj : j < i0), checkGone keep e.fin.epoch (l[j]'(by omega)) = false) (hi0 : checkGone keep e.fin.epoch l[i0] = true) :
    CalE Tryz.prog 145 [.ms 2 33 l.length, .fn (.func 146) [] [keepG keep, .ptr 1 [] 0]] 3 (prj3 e b x c l.length (l.map Check.av)) (cutV 2 33 l.length (delL (checkGone keep e.fin.epoch) l).length) (prj3 e b x c l.length ((delL (checkGone keep e.fin.epoch) l).map Check.av)) := by
  have y1 := jidx201 e b x c keep hk l hl
  rw [fidx_at h0 hb hi0] at y1
  have d0 := delTo_first h0 hb hi0
  have hw0 := wrap_next (n := i0) (by omega)
  have e0 : decide ((i0 : Int) = -1) = false := decide_eq_false (by omega)
  have hf : ∀ L a, CalE Tryz.prog 146 [Check.av a, keepG keep, .ptr 1 [] 0] 3 (prj3 e b x c l.length L) (.bool (checkGone keep e.fin.epoch a)) (prj3 e b x c l.length L) := fun L a => f146_c e b x c l.length L keep hk a
  generalize checkGone keep e.fin.epoch = p at *
  have hd0 : Del p l (i0 + 1) l := ⟨h0, rfl, by rw [d0, List.length_take, Nat.min_eq_left (by omega)], rfl, by rw [d0, List.length_take]; omega⟩
  have hL0 : (delTo p l (i0 + 1)).length = i0 := by rw [d0, List.length_take, Nat.min_eq_left (by omega)]
  unfold prj3 at y1 hf ⊢
  have ff := And.intro e0 hw0
  have hR : Tryz.f145.results.toList = [.tmp 4] := rfl
  refine ⟨enters_of Tryz.func145 (by kernel_rfl) rfl, eff_of_tr Tryz.func145 rfl (Nat.le_of_ble_eq_true rfl) (cutV_idsB 2 33 _ _ (by omega)) fun E hE hP => ?_⟩
  refine mW ?_
  refine Tr.loop (fun q : Nat × List Check => (⟨[(0, .ms 2 33 l.length), (1, .fn (.func 146) [] [keepG keep, .ptr 1 [] 0]), (5, .int .i64 (delTo p l q.1).length), (6, .int .i64 q.1)], [(0, .var (pruA e b x c (links e.k) (.ms 2 33 l.length))), (1, .var (.ptr 0 [] 0)), (2, .row 33 (q.2.map Check.av))], 3, []⟩ : S)) (fun q => Del p l q.1 q.2) (fun q => l.length - q.1) (i0 + 1, l) hd0 ?_ ?_
  · simp only [hL0]
    exact mK
  · rintro ⟨j, L⟩ hD
    simp only at hD
    by_cases hlt : j < l.length
    · have e1 : decide ((j : Int) < (l.length : Int)) = true := decide_eq_true (by omega)
      have hx : (L.map Check.av)[j]? = some l[j].av := by rw [List.getElem?_map, hD.at hlt]; rfl
      have hw := wrap_next (n := j) (by omega)
      have y1 := hf (L.map Check.av) l[j]
      cases hp : p l[j]
      · rw [hp] at y1
        have hlt2 := hD.lt
        have hlen := hD.len
        have hK := hD.keep hlt hp
        have hnl : (delTo p l (j + 1)).length = (delTo p l j).length + 1 := by rw [delTo_next hlt, hp, if_neg (by decide), List.length_append, List.length_singleton]
        have hxi : (L.map Check.av)[(delTo p l j).length]? = some (L[(delTo p l j).length]'(by omega)).av := by rw [List.getElem?_map, List.getElem?_eq_getElem (by omega)]; rfl
        have hw2 := wrap_next (n := (delTo p l j).length) (by omega)
        have g1 : (delTo p l j).length < l.length := by omega
        generalize (L[(delTo p l j).length]'(by omega)) = y at hxi
        generalize (delTo p l j).length = i at *
        generalize l[j] = v at *
        have ff := And.intro e1 (And.intro hx (And.intro hw (And.intro hxi hw2)))
        refine mW ?_
        refine ⟨(j + 1, L.set i v), hK, by omega, ?_⟩
        simp only [hnl, List.map_set]
        exact mK
      · rw [hp] at y1
        have hnl : (delTo p l (j + 1)).length = (delTo p l j).length := by rw [delTo_next hlt, hp, if_pos rfl, List.append_nil]
        have ff := And.intro e1 (And.intro hx hw)
        refine mW ?_
        refine ⟨(j + 1, L), hD.skip hlt hp, by omega, ?_⟩
        simp only [hnl]
        exact mK
    · have e1 : decide ((j : Int) < (l.length : Int)) = false := decide_eq_false (by omega)
      have hil : j = l.length := by have := hD.le; omega
      subst hil
      have hdone := hD.done
      have hlen := hD.len
      have hlt2 := hD.lt
      have hdd : delTo p l l.length = delL p l := by unfold delTo; rw [List.take_length]; rfl
      rw [hdd] at hlt2 ⊢
      have hE2 : ((L.map Check.av).take (delL p l).length ++ List.replicate ((L.map Check.av).length - (delL p l).length) zCheck.av).take (delL p l).length = (delL p l).map Check.av := by
        rw [List.take_append_of_le_length (by rw [List.length_take, List.length_map]; omega), List.take_take, Nat.min_self, ← List.map_take, hdone]
      have ff := e1
      refine mW ?_
      have hgl : HP.get [(0, .var (pruA e b x c (links e.k) (.ms 2 33 l.length))), (1, .var (.ptr 0 [] 0)), (2, .row 33 (L.map Check.av))] 2 = some (AO.row 33 (L.map Check.av)) := rfl
      have hll : (L.map Check.av).length = l.length := by rw [List.length_map, hlen]
      refine Tr.wk (s' := ⟨[(0, .ms 2 33 l.length), (5, .int .i64 (delL p l).length)], [(0, .var (pruA e b x c (links e.k) (.ms 2 33 l.length))), (1, .var (.ptr 0 [] 0)), (2, .row 33 (L.map Check.av))], 3, []⟩) ?_ ?_
      · exact mK
      refine tr_clear (s1 := ⟨[(37, .int .i64 (delL p l).length), (36, .ms 2 33 l.length), (0, .ms 2 33 l.length), (5, .int .i64 (delL p l).length)], [(0, .var (pruA e b x c (links e.k) (.ms 2 33 l.length))), (1, .var (.ptr 0 [] 0)), (2, .row 33 (L.map Check.av))], 35, []⟩) 2 _ _ 32 36 38 2 (.tmp 36) (.tmp 37) _ (sz := 33) (i := (delL p l).length) (xs := L.map Check.av) (z := zCheck.av) (by rw [hE]; rfl) rfl rfl rfl rfl rfl rfl rfl rfl rfl rfl rfl ?_ (by rw [hll]; rfl) rfl (by rw [hll]; exact hlt2) hgl rfl rfl tZero28 rfl ?_
      · intro Q hQ
        simp only [go_sem, seval]
        iterate 2 refine mV ?_
        exact hQ
      refine Tr.wk (Wk.rowTake 2 33 ((L.map Check.av).take (delL p l).length ++ List.replicate ((L.map Check.av).length - (delL p l).length) zCheck.av) (delL p l).length rfl) ?_
      rw [hE2]
      refine Tr.wk (s' := ⟨[(0, .ms 2 33 l.length), (5, .int .i64 (delL p l).length)], [(0, .var (pruA e b x c (links e.k) (.ms 2 33 l.length))), (1, .var (.ptr 0 [] 0)), (2, .row 33 ((delL p l).map Check.av))], 3, []⟩) ?_ ?_
      · exact mK
      refine tr_cut (s1 := ⟨[(40, .int .i64 (delL p l).length), (39, .ms 2 33 l.length), (0, .ms 2 33 l.length), (5, .int .i64 (delL p l).length)], [(0, .var (pruA e b x c (links e.k) (.ms 2 33 l.length))), (1, .var (.ptr 0 [] 0)), (2, .row 33 ((delL p l).map Check.av))], 35, []⟩)
        (s2 := ⟨[(4, cutV 2 33 l.length (delL p l).length), (41, cutV 2 33 l.length (delL p l).length), (40, .int .i64 (delL p l).length), (39, .ms 2 33 l.length), (0, .ms 2 33 l.length), (5, .int .i64 (delL p l).length)], [(0, .var (pruA e b x c (links e.k) (.ms 2 33 l.length))), (1, .var (.ptr 0 [] 0)), (2, .row 33 ((delL p l).map Check.av))], 51, []⟩) 2 _ _ 32 36 41 2 (.tmp 39) (.tmp 40) (sz := 33) (m := l.length) (i := (delL p l).length) (by rw [hE]; rfl) rfl (by decide) rfl rfl rfl ?_ rfl rfl (by omega) rfl rfl ?_ ?_
      · intro Q hQ
        simp only [go_sem, seval]
        iterate 2 refine mV ?_
        exact hQ
      · intro Q hQ
        simp only [go_sem, seval]
        refine mV ?_
        exact hQ
      refine Tr.ret ?_
      simp only [hR, go_sem, seval]
      exact ⟨fun n => n, cutV_frz0 _ _ _ _, (by repeat' (first | exact rfl | exact trivial | constructor)), rfl, fun _ _ => rfl⟩
theorem jdel_c (e : Eng) (b : Block) (x : Att) (c : Ask) (keep : List Root) (hk : keep.length ≤ 1000) (l : List Check) (hl : l.length ≤ 1000) :
    CalE Tryz.prog 145 [.ms 2 33 l.length, .fn (.func 146) [] [keepG keep, .ptr 1 [] 0]] 3 (prj3 e b x c l.length (l.map Check.av)) (cutV 2 33 l.length (delL (checkGone keep e.fin.epoch) l).length) (prj3 e b x c l.length ((delL (checkGone keep e.fin.epoch) l).map Check.av)) := by
  cases h : l.findIdx? (checkGone keep e.fin.epoch) with
  | none =>
    have h1 : ∀ j (hj : j < l.length), checkGone keep e.fin.epoch l[j] = false := fun j hj => by simpa using List.findIdx?_eq_none_iff.1 h l[j] (List.getElem_mem hj)
    have hd : delL (checkGone keep e.fin.epoch) l = l := by
      unfold delL
      rw [List.filter_eq_self]
      intro a ha
      obtain ⟨j, hj, rfl⟩ := List.mem_iff_getElem.1 ha
      rw [h1 j hj]
      rfl
    have he : cutV 2 33 l.length l.length = .ms 2 33 l.length := if_neg (by omega)
    rw [hd, he]
    exact jdel_no e b x c keep hk l hl h1
  | some i =>
    obtain ⟨h1, h2, h3⟩ := List.findIdx?_eq_some_iff_getElem.1 h
    exact jdel_w e b x c keep hk l hl i h1 (fun j hj => by simpa using h3 j hj) h2

structure Good (e : Eng) : Prop where
  wf : e.wf
  fit : fitB e.t e.vl e.o e.b = true
  w : weights e.t e.vl e.b = e.w
  k : e.k.length ≤ 40
  j : e.j.length ≤ 40
def rootsT (t : List Node) : List Root := t.map Node.root
def cutE (e : Eng) : List Node := cutR e.t (findR e.t e.fin.root)
def dropE (e : Eng) : List Latest := dropL (rootsT (cutE e)) e.vl
def pruneE (e : Eng) : Eng := ⟨cutE e, e.b, dropE e, e.o, weights (cutE e) (dropE e) e.b, e.late, delL (linkGone (rootsT (cutE e)) e.fin.epoch) e.k, delL (checkGone (rootsT (cutE e)) e.fin.epoch) e.j, e.fin, e.now⟩
def prH (e : Eng) (b : Block) (x : Att) (c : Ask) (n m : Nat) (L M : List AV) : HP := [(0, .var (pruA e b x c (.ms 1 67 n) (.ms 2 33 m))), (1, .row 67 L), (2, .row 33 M)]
theorem place_p (e : Eng) (b : Block) (x : Att) (c : Ask) (n m : Nat) (L M : List AV) (r : Root) : CalE Tryz.prog 138 [.ptr 0 [] 0, .root r] 3 (prH e b x c n m L M) (.int .i64 (findR e.t r)) (prH e b x c n m L M) := by
  have c1 := And.intro (enters_of Tryz.func27 (by kernel_rfl) rfl) (find_pure e.t r)
  unfold prH
  have hR : Tryz.f138.results.toList = [.tmp 4] := rfl
  refine calE_tr Tryz.func138 rfl fun E hE hP => ?_
  exact mX
theorem vdrop_r (vl : List Latest) (o : Int) (rs : List Root) (hl : vl.length ≤ 1000) (hr : rs.length ≤ 1000) (hm : vmayB vl o = true) : Cal Tryz.prog 142 [vav vl o, .sl (rv rs) false] (vav (dropL rs vl) o) := vdrop_w vl o rs hl hr hm
set_option maxHeartbeats 2000000 in
theorem prune_w (e : Eng) (b : Block) (x : Att) (c : Ask) (ht : e.t.length ≤ 1000) (htc : (cutE e).length ≤ 1000) (hvl : e.vl.length ≤ 1000) (hkl : e.k.length ≤ 1000) (hjl : e.j.length ≤ 1000) (hm : vmayB e.vl e.o = true) (hb : okB e.b) (hfit : fitB (cutE e) (dropE e) e.o e.b = true) :
    CalE Tryz.prog 70 [.ptr 0 [] 0] 3 (prH e b x c e.k.length e.j.length (e.k.map Link.av) (e.j.map Check.av)) (.int .i64 0) [(0, .var (workA (pruneE e) b x c))] := by
  have y1 := place_p e b x c e.k.length e.j.length (e.k.map Link.av) (e.j.map Check.av) e.fin.root
  have c1 := cut_c e.t (findR e.t e.fin.root) ht
  rw [show cutR e.t (findR e.t e.fin.root) = cutE e from rfl] at c1
  have c2 := vdrop_r e.vl e.o (rootsT (cutE e)) hvl (by unfold rootsT; rw [List.length_map]; exact htc) hm
  rw [show dropL (rootsT (cutE e)) e.vl = dropE e from rfl] at c2
  have c3 := weights_c (cutE e) (dropE e) e.o e.b hb hfit
  unfold prH at y1 ⊢
  unfold pruneE
  generalize cutE e = T at *
  generalize dropE e = D at *
  generalize weights T D e.b = W at *
  have hkeep : (rootsT T).length ≤ 1000 := by unfold rootsT; rw [List.length_map]; exact htc
  have y2 := ldel_c ⟨T, e.b, D, e.o, W, e.late, e.k, e.j, e.fin, e.now⟩ b x c e.j.length (e.j.map Check.av) (rootsT T) hkeep e.k hkl
  have y3 := jdel_c ⟨T, e.b, D, e.o, W, e.late, delL (linkGone (rootsT T) e.fin.epoch) e.k, e.j, e.fin, e.now⟩ b x c (rootsT T) hkeep e.j hjl
  have hR : Tryz.f70.results.toList = [.tmp 2] := rfl
  refine calE_tr Tryz.func70 rfl fun E hE hP => ?_
  refine mr ?_
  refine Tr.wk (s' := ⟨[(1, .ptr 3 [] 0)], [(0, .var (pruA e b x c (.ms 1 67 e.k.length) (.ms 2 33 e.j.length))), (1, .row 67 (e.k.map Link.av)), (2, .row 33 (e.j.map Check.av)), (3, .var (.ptr 0 [] 0))], 4, []⟩) ?_ ?_
  · refine wk_ren (fun n => n) mB mB rfl rfl rfl
  refine tr_seq_plan mixed _ (.one 0 (.one 1 (.one 2 (.one 3 (.one 4 (.one 5 (.one 6 (.one 7 (.one 8 (.one 9 (.one 10 (.one 11 (.one 12 (.one 13 (.one 14 (.one 15 (.one 16 (.one 17 (.one 18 .done))))))))))))))))))) (⟨[(1, .ptr 3 [] 0)], [(0, .var (pruA ⟨T, e.b, e.vl, e.o, e.w, e.late, e.k, e.j, e.fin, e.now⟩ b x c (.ms 1 67 e.k.length) (.ms 2 33 e.j.length))), (1, .row 67 (e.k.map Link.av)), (2, .row 33 (e.j.map Check.av)), (3, .var (.ptr 0 [] 0))], 4, []⟩) (keepAll _) (by rw [hE]; rfl) (by kernel_rfl) ?_ ?_
  · simp only [List.map_cons, List.map_nil]
    iterate 13 refine pQ ?_
    refine pX ?_
    refine call_eff (fun n => n) [false, false] [] rfl rfl rfl rfl (enters_of Tryz.func138 (by kernel_rfl) rfl) (y1.2) rfl rfl (by repeat' (first | exact rfl | exact trivial | constructor)) rfl rfl rfl ?_
    simp only [renH_nil, renH_cons, effR, go_sem, seval]
    refine pX ?_
    refine call_fn rfl rfl rfl rfl (enters_of Tryz.func139 (by kernel_rfl) rfl) (c1.2) rfl rfl rfl ?_
    simp only [go_sem, seval]
    iterate 3 refine pQ ?_
    apply pl_x; exact rfl
    refine st_w rfl rfl (by kernel_rfl) ?_; simp only [List.getElem_toArray, List.getElem_cons_zero, List.getElem_cons_succ, go_sem, seval]
    refine pl_done (st := _) ?_ rfl
    refine wk_ren (fun n => n) mB mB rfl rfl rfl
  refine mW ?_
  refine Tr.loop (fun k : Nat => (⟨[(1, .ptr 3 [] 0), (3, .ptr 4 [] 0), (30, .sl (T.map Node.av) false), (31, .int .i64 T.length), (32, .int .i64 k)], [(0, .var (pruA ⟨T, e.b, e.vl, e.o, e.w, e.late, e.k, e.j, e.fin, e.now⟩ b x c (.ms 1 67 e.k.length) (.ms 2 33 e.j.length))), (1, .row 67 (e.k.map Link.av)), (2, .row 33 (e.j.map Check.av)), (3, .var (.ptr 0 [] 0)), (4, .var (.ms 5 32 (rootsT (T.take k)).length)), (5, .row 32 (rv (rootsT (T.take k))))], 6, []⟩ : S)) (fun k => k ≤ T.length) (fun k => T.length - k) 0 (Nat.zero_le _) ?_ ?_
  · refine Wk.trans (Wk.nilVar 4 32 rfl) ?_
    have e0 : rootsT (T.take 0) = [] := rfl
    rw [e0]
    simp only [HP.set, List.map_cons, List.map_nil, List.length_nil, go_sem, seval]
    refine wk_ren (fun | 5 => 148 | n => n) mB mB rfl rfl rfl
  · intro k hk
    by_cases hlt : k < T.length
    · have e1 : decide ((k : Int) < (T.length : Int)) = true := decide_eq_true (by omega)
      have hn := nth_map_lt Node.av T k hlt
      have hw := wrap_next (n := k) (by omega)
      have hL : rootsT (T.take (k + 1)) = rootsT (T.take k) ++ [T[k].root] := by unfold rootsT; rw [List.take_add_one, List.getElem?_eq_getElem hlt, Option.toList_some, List.map_append]; rfl
      have hLl : (rootsT (T.take k)).length ≤ 1000 := by unfold rootsT; rw [List.length_map, List.length_take]; omega
      generalize rootsT (T.take k) = L at hL hLl
      generalize T[k] = n at hn hL
      have ff := And.intro e1 (And.intro hn hw)
      refine mW ?_
      apply tr_ml (by rw [hE]; rfl)
      intro Q hQ
      simp only [go_sem, seval]
      iterate 4 ((refine vm_op ?_); intro r hr; simp only [List.filter_cons, List.filter_nil, Bool.not_false, Bool.not_true, if_true, Bool.false_eq_true, if_false, go_sem, seval]; subst hr)
      (refine vm_op ?_); intro r hr; simp only [List.filter_cons, List.filter_nil, Bool.not_false, Bool.not_true, if_true, Bool.false_eq_true, if_false, go_sem, seval]
      refine ⟨by omega, by omega, ?_⟩
      try simp only [List.filter_cons, List.filter_nil, Bool.not_false, Bool.not_true, if_true, Bool.false_eq_true, if_false, go_sem, seval]
      subst hr
      (refine vm_op ?_); intro r hr; simp only [List.filter_cons, List.filter_nil, Bool.not_false, Bool.not_true, if_true, Bool.false_eq_true, if_false, go_sem, seval]; subst hr
      exact hQ
      refine mW ?_
      refine ⟨k + 1, hlt, by omega, ?_⟩
      rw [hL, List.length_append, List.length_singleton, rv_app]
      refine wk_ren (fun | 5 => 150 | n => n) mB mB rfl rfl rfl
    · have e1 : decide ((k : Int) < (T.length : Int)) = false := decide_eq_false (by omega)
      have hil : k = T.length := by omega
      subst hil
      rw [List.take_length]
      generalize rootsT T = R at *
      have ff := e1
      refine mW ?_
      refine Tr.wk (Wk.frzH [5]) ?_
      simp only [frzHP, frzA, AV.frz, AV.frzL, List.map_cons, List.map_nil, rv_len, go_sem, seval]
      refine Tr.wk (Wk.frzH [4]) ?_
      simp only [frzHP, frzA, AV.frz, AV.frzL, List.map_cons, List.map_nil, go_sem, seval]
      refine Tr.wk (Wk.frzH [38]) ?_
      simp only [frzHP, frzA, AV.frz, AV.frzL, List.map_cons, List.map_nil, go_sem, seval]
      refine Tr.wk (s' := ⟨[(1, .ptr 3 [] 0), (3, .ref (.sl (rv R) false)), (6, keepG R)], [(0, .var (pruA ⟨T, e.b, e.vl, e.o, e.w, e.late, e.k, e.j, e.fin, e.now⟩ b x c (.ms 1 67 e.k.length) (.ms 2 33 e.j.length))), (1, .row 67 (e.k.map Link.av)), (2, .row 33 (e.j.map Check.av)), (3, .var (.ptr 0 [] 0))], 4, []⟩) ?_ ?_
      · refine wk_ren (fun n => n) mB mB rfl rfl rfl
      refine tr_seq_plan mixed _ (.one 0 (.one 1 (.one 2 (.one 3 (.one 4 (.one 5 (.one 6 (.one 7 (.one 8 (.one 9 (.one 10 (.one 11 .done)))))))))))) (⟨[(1, .ptr 3 [] 0), (3, .ref (.sl (rv R) false)), (6, keepG R)], [(0, .var (pruA ⟨T, e.b, D, e.o, e.w, e.late, e.k, e.j, e.fin, e.now⟩ b x c (.ms 1 67 e.k.length) (.ms 2 33 e.j.length))), (1, .row 67 (e.k.map Link.av)), (2, .row 33 (e.j.map Check.av)), (3, .var (.ptr 0 [] 0))], 4, []⟩) (keepAll _) (by rw [hE]; rfl) (by kernel_rfl) ?_ ?_
      · simp only [List.map_cons, List.map_nil]
        iterate 7 refine pQ ?_
        refine pX ?_
        refine call_fn rfl rfl rfl rfl (enters_of Tryz.func142 (by kernel_rfl) rfl) (c2.2) rfl rfl rfl ?_
        simp only [go_sem, seval]
        iterate 3 refine pQ ?_
        apply pl_x; exact rfl
        refine st_w rfl rfl (by kernel_rfl) ?_; simp only [List.getElem_toArray, List.getElem_cons_zero, List.getElem_cons_succ, go_sem, seval]
        refine pl_done (st := _) ?_ rfl
        refine wk_ren (fun n => n) mB mB rfl rfl rfl
      refine tr_seq_plan mixed _ (.one 0 (.one 1 (.one 2 (.one 3 (.one 4 (.one 5 (.one 6 (.one 7 (.one 8 (.one 9 (.one 10 (.one 11 (.one 12 (.one 13 (.one 14 (.one 15 (.one 16 (.one 17 (.one 18 (.one 19 (.one 20 (.one 21 (.one 22 (.one 23 .done)))))))))))))))))))))))) (⟨[(1, .ptr 3 [] 0), (3, .ref (.sl (rv R) false)), (6, keepG R)], [(0, .var (pruA ⟨T, e.b, D, e.o, W, e.late, e.k, e.j, e.fin, e.now⟩ b x c (.ms 1 67 e.k.length) (.ms 2 33 e.j.length))), (1, .row 67 (e.k.map Link.av)), (2, .row 33 (e.j.map Check.av)), (3, .var (.ptr 0 [] 0))], 4, []⟩) (keepAll _) (by rw [hE]; rfl) (by kernel_rfl) ?_ ?_
      · simp only [List.map_cons, List.map_nil]
        iterate 16 refine pQ ?_
        refine pX ?_
        refine call_fn rfl rfl rfl rfl (enters_of Tryz.func34 (by kernel_rfl) rfl) (c3.2) rfl rfl rfl ?_
        simp only [go_sem, seval]
        iterate 6 refine pQ ?_
        apply pl_x; exact rfl
        refine st_w rfl rfl (by kernel_rfl) ?_; simp only [List.getElem_toArray, List.getElem_cons_zero, List.getElem_cons_succ, go_sem, seval]
        refine pl_done (st := _) ?_ rfl
        refine wk_ren (fun n => n) mB mB rfl rfl rfl
      unfold pru4 at y2
      unfold prj3 at y3
      refine tr_seq_plan mixed [0, 3] (.one 0 (.one 1 (.one 2 (.one 3 (.one 4 (.one 5 (.one 6 (.one 7 (.one 8 (.one 9 (.one 10 (.one 11 .done)))))))))))) (⟨[(1, .ptr 3 [] 0), (3, .ref (.sl (rv R) false)), (6, keepG R)], [(0, .var (pruA ⟨T, e.b, D, e.o, W, e.late, (delL (linkGone R e.fin.epoch) e.k), e.j, e.fin, e.now⟩ b x c (cutV 1 67 e.k.length (delL (linkGone R e.fin.epoch) e.k).length) (.ms 2 33 e.j.length))), (3, .var (.ptr 0 [] 0)), (1, .row 67 ((delL (linkGone R e.fin.epoch) e.k).map Link.av)), (2, .row 33 (e.j.map Check.av))], 4, []⟩) rfl (by rw [hE]; rfl) (by kernel_rfl) ?_ ?_
      · simp only [List.map_cons, List.map_nil]
        iterate 7 refine pQ ?_
        refine pX ?_
        refine call_eff (fun | 1 => 3 | 2 => 1 | 3 => 2 | n => n) [false, false] [] rfl rfl rfl rfl (enters_of Tryz.func143 (by kernel_rfl) rfl) (y2.2) rfl rfl (by repeat' (first | exact rfl | exact trivial | constructor)) rfl rfl rfl ?_
        simp only [renH_nil, renH_cons, effR, go_sem, seval]
        iterate 3 refine pQ ?_
        apply pl_x; exact rfl
        refine st_w rfl rfl (by kernel_rfl) ?_; simp only [List.getElem_toArray, List.getElem_cons_zero, List.getElem_cons_succ, go_sem, seval]
        refine pl_done (st := _) ?_ rfl
        refine wk_ren (fun n => n) ?_ ?_ rfl rfl rfl
        · repeat' (first | exact rfl | exact trivial | (simp only [AO.ren, AV.ren, AV.renL, cutV_ren, AO.idsB, AV.idsB, AV.idsBL, cutV_idsB, ↓Nat.reduceLT, go_sem, seval] <;> rfl) | constructor)
        · repeat' (first | exact rfl | exact trivial | (simp only [AO.ren, AV.ren, AV.renL, cutV_ren, AO.idsB, AV.idsB, AV.idsBL, cutV_idsB, ↓Nat.reduceLT, go_sem, seval] <;> rfl) | constructor)
      have hl1 : (delL (linkGone R e.fin.epoch) e.k).length = ((delL (linkGone R e.fin.epoch) e.k).map Link.av).length := (List.length_map _).symm
      have hl2 : (delL (checkGone R e.fin.epoch) e.j).length = ((delL (checkGone R e.fin.epoch) e.j).map Check.av).length := (List.length_map _).symm
      refine Tr.wk (Wk.frzH [1]) ?_
      simp only [frzHP, frzA, AV.frz, AV.frzL, List.map_cons, List.map_nil, go_sem, seval]
      rw [cutV_frz rfl hl1]
      refine tr_seq_plan mixed [0, 3] (.one 0 (.one 1 (.one 2 (.one 3 (.one 4 (.one 5 (.one 6 (.one 7 (.one 8 (.one 9 (.one 10 (.one 11 .done)))))))))))) (⟨[(1, .ptr 3 [] 0), (3, .ref (.sl (rv R) false)), (6, keepG R)], [(0, .var (pruA ⟨T, e.b, D, e.o, W, e.late, (delL (linkGone R e.fin.epoch) e.k), (delL (checkGone R e.fin.epoch) e.j), e.fin, e.now⟩ b x c (links (delL (linkGone R e.fin.epoch) e.k)) (cutV 2 33 e.j.length (delL (checkGone R e.fin.epoch) e.j).length))), (3, .var (.ptr 0 [] 0)), (2, .row 33 ((delL (checkGone R e.fin.epoch) e.j).map Check.av))], 4, []⟩) rfl (by rw [hE]; rfl) (by kernel_rfl) ?_ ?_
      · simp only [List.map_cons, List.map_nil]
        iterate 7 refine pQ ?_
        refine pX ?_
        refine call_eff (fun | 1 => 3 | n => n) [false, false] [] rfl rfl rfl rfl (enters_of Tryz.func145 (by kernel_rfl) rfl) (y3.2) rfl rfl (by repeat' (first | exact rfl | exact trivial | constructor)) rfl rfl rfl ?_
        simp only [renH_nil, renH_cons, effR, go_sem, seval]
        iterate 3 refine pQ ?_
        apply pl_x; exact rfl
        refine st_w rfl rfl (by kernel_rfl) ?_; simp only [List.getElem_toArray, List.getElem_cons_zero, List.getElem_cons_succ, go_sem, seval]
        refine pl_done (st := _) ?_ rfl
        refine wk_ren (fun n => n) ?_ ?_ rfl rfl rfl
        · repeat' (first | exact rfl | exact trivial | (simp only [AO.ren, AV.ren, AV.renL, cutV_ren, AO.idsB, AV.idsB, AV.idsBL, cutV_idsB, ↓Nat.reduceLT, go_sem, seval] <;> rfl) | constructor)
        · repeat' (first | exact rfl | exact trivial | (simp only [AO.ren, AV.ren, AV.renL, cutV_ren, AO.idsB, AV.idsB, AV.idsBL, cutV_idsB, ↓Nat.reduceLT, go_sem, seval] <;> rfl) | constructor)
      refine Tr.wk (Wk.frzH [2]) ?_
      simp only [frzHP, frzA, AV.frz, AV.frzL, List.map_cons, List.map_nil, go_sem, seval]
      rw [cutV_frz rfl hl2]
      exact mX

theorem atR_in {t : List Node} (hm : mayB t = true) {a s : Int} (h0 : 0 ≤ a) (h1 : a < t.length) : atR t a s = atF t s a := by
  obtain ⟨k, rfl⟩ : ∃ k : Nat, a = k := ⟨a.toNat, by omega⟩
  unfold atR
  rw [if_pos (isB_one hm (by omega))]
section
variable {t : List Node} {n : Node}
end
theorem head_may {e : Eng} (h : mayE e = true) (ver : Int) : smayR (ofR e ver) = true := by
  obtain ⟨p1, p2, p3, p4⟩ := head_law h
  have er : ofR e ver = ⟨ver, e.t, (e.t.getD (headE e).toNat zNode).root, justE e, e.fin⟩ := by rw [ofR, h]; rfl
  rw [er]
  unfold smayR
  simp only
  rw [p1, show findR e.t e.fin.root = finE e from rfl, p2, p3]
  rfl
theorem countL_in {t : List Node} {l : List Link} {b : List Int} {a : Link} (h : a ∈ countL t l b) : a ∈ l := by
  unfold countL at h
  split at h
  · exact (List.mem_filter.1 h).1
  · cases h
theorem next_top (t : List Node) (fin : Check) : ∀ (js : List Check) (o : Check), o.epoch ≤ (js.foldl (nextS t fin) o).epoch ∧ ∀ c ∈ js, fin.epoch < c.epoch → behindB t c fin = true → c.epoch ≤ (js.foldl (nextS t fin) o).epoch
  | [], o => ⟨Int.le_refl _, fun c hc => by cases hc⟩
  | x :: js, o => by
    have hS : nextS t fin o x = if decide (fin.epoch < x.epoch) && (behindB t x fin && betterB o x) then x else o := rfl
    have hbt : betterB o x = true → o.epoch ≤ x.epoch := fun h => by
      simp only [betterB, Bool.or_eq_true, Bool.and_eq_true, decide_eq_true_eq] at h; omega
    have hbf : betterB o x = false → x.epoch ≤ o.epoch := fun h => by
      simp only [betterB, Bool.or_eq_false_iff, decide_eq_false_iff_not] at h; omega
    rw [List.foldl_cons]
    have ih := next_top t fin js (nextS t fin o x)
    by_cases hg : (decide (fin.epoch < x.epoch) && (behindB t x fin && betterB o x)) = true
    · rw [if_pos hg] at hS
      simp only [Bool.and_eq_true, decide_eq_true_eq] at hg
      have h2 := hbt hg.2.2
      rw [hS] at ih ⊢
      refine ⟨by omega, fun c hc h3 h4 => ?_⟩
      rcases List.mem_cons.1 hc with h | h
      · rw [h]; exact ih.1
      · exact ih.2 c h h3 h4
    · rw [if_neg hg] at hS
      rw [hS] at ih ⊢
      refine ⟨ih.1, fun c hc h3 h4 => ?_⟩
      rcases List.mem_cons.1 hc with h | h
      · subst h
        rw [decide_eq_true h3, h4, Bool.true_and, Bool.true_and] at hg
        have := hbf (by simpa using hg)
        have := ih.1
        omega
      · exact ih.2 c h h3 h4
theorem foldl_id {α β : Type} {f : β → α → β} {o : β} : ∀ l : List α, (∀ c ∈ l, f o c = o) → l.foldl f o = o
  | [], _ => rfl
  | x :: l, h => by
    rw [List.foldl_cons, h x List.mem_cons_self]
    exact foldl_id l fun c hc => h c (List.mem_cons_of_mem _ hc)
theorem mayE_all {e : Eng} : mayE e = true ↔ fitB e.t e.vl e.o e.b = true ∧ weights e.t e.vl e.b = e.w ∧ lmayA e.late = true ∧ lmayB e.k = true ∧ e.now ≤ 1099511627776 ∧ e.fin ∈ e.j ∧ ((nextA e.late).2 && decide ((nextA e.late).1 < e.now)) = false ∧
    (rootsL e).any (lostB e) = false ∧ e.j.Nodup ∧ (moreR e.t e.k e.b e.j).length = e.j.length ∧ nextR e.t e.k e.b e.j e.fin = e.fin := by
  simp only [mayE, Bool.and_eq_true, decide_eq_true_eq, Bool.not_eq_true']
theorem lost_all {e : Eng} : (rootsL e).any (lostB e) = false ↔ (∀ c ∈ e.j, 0 ≤ findR e.t c.root) ∧ (∀ a ∈ e.k, 0 ≤ findR e.t a.s.root ∧ 0 ≤ findR e.t a.t.root) ∧ ∀ x ∈ e.vl, x.has = true → 0 ≤ findR e.t x.root := by
  have hl : ∀ r, lostB e r = false ↔ 0 ≤ findR e.t r := fun r => by
    unfold lostB
    rw [decide_eq_false_iff_not]
    omega
  rw [List.any_eq_false]
  have hl2 : ∀ r, (¬ lostB e r = true) ↔ 0 ≤ findR e.t r := fun r => by rw [← hl r]; simp
  constructor
  · intro h
    have hj : ∀ r ∈ rootsL e, 0 ≤ findR e.t r := fun r hr => (hl2 r).1 (h r hr)
    refine ⟨fun c hc => hj _ ?_, fun a ha => ⟨hj _ ?_, hj _ ?_⟩, fun x hx hh => hj _ ?_⟩
    · exact List.mem_append.2 (.inl (List.mem_append.2 (.inl (List.mem_map.2 ⟨c, hc, rfl⟩))))
    · exact List.mem_append.2 (.inl (List.mem_append.2 (.inr (List.mem_flatMap.2 ⟨a, ha, by simp⟩))))
    · exact List.mem_append.2 (.inl (List.mem_append.2 (.inr (List.mem_flatMap.2 ⟨a, ha, by simp⟩))))
    · exact List.mem_append.2 (.inr (List.mem_map.2 ⟨x, List.mem_filter.2 ⟨hx, hh⟩, rfl⟩))
  · intro ⟨h1, h2, h3⟩ r hr
    rw [hl2]
    rcases List.mem_append.1 hr with hr | hr
    · rcases List.mem_append.1 hr with hr | hr
      · obtain ⟨c, hc, rfl⟩ := List.mem_map.1 hr
        exact h1 c hc
      · obtain ⟨a, ha, hr⟩ := List.mem_flatMap.1 hr
        have hr : r = a.s.root ∨ r = a.t.root := by simpa using hr
        rcases hr with rfl | rfl
        · exact (h2 a ha).1
        · exact (h2 a ha).2
    · obtain ⟨x, hx, rfl⟩ := List.mem_map.1 hr
      obtain ⟨hx, hh⟩ := List.mem_filter.1 hx
      exact h3 x hx hh

/-- What may be, and goes on so. -/
structure Live (e : Eng) : Prop where
  may : mayE e = true
  wf : e.wf
  few : e.few
  free : (e.j.filter fun c => !decide (c ∈ e.k.map Link.t)).length ≤ 24
end Go.Proofs.YtgnidooihignfaaGreatDoor

/- Engines: what is called, in all its kinds. -/
import Derived.Test.YtgnidooihignfaaGreatDoorP10
import Derived.Test.YtgnidooihignfaaGreatDoorP7
import Derived.Test.YtgnidooihignfaaGreatDoorP6
set_option linter.unusedSimpArgs false
set_option maxRecDepth 10000
namespace Go.Proofs.YtgnidooihignfaaGreatDoor
open Go Go.Ab
structure Fine (e : Eng) : Prop where
 may : mayE e = true
 wf : e.wf
 few : e.few
section
variable {t : List Node} {i : Int}
theorem CutAt.slot (h : CutAt t i) {k : Nat} (hk : k < t.length) (ha : aboveF t i k = true) : slotI (cutR t i) (phi t i k : Nat) = slotI t k := by
 unfold slotI
 rw [Int.toNat_natCast, (h.at hk ha).2, Int.toNat_natCast]
 rfl
end
def closedB (t : List Node) (out : List Bool) : Prop := ∀ c : Nat, c < t.length → out.getD c false = true → 0 ≤ parI t c → out.getD (parI t c).toNat false = true
theorem markN_closed {t : List Node} (hm : mayB t = true) : ∀ (n : Nat) (a : Int) (out : List Bool), out.length = t.length → (a = -1 ∨ 0 ≤ a ∧ a < t.length) → a < n → (∀ c : Nat, c < t.length → out.getD c false = true → 0 ≤ parI t c → out.getD (parI t c).toNat false = true ∨ parI t c = a) →
 closedB t (markN t n a out) ∧ (0 ≤ a → (markN t n a out).getD a.toNat false = true) ∧ ∀ j, out.getD j false = true → (markN t n a out).getD j false = true
 | 0, a, out, hl, ha, hn, hc => by
   have ha1 : a = -1 := by omega
   subst ha1
   refine ⟨fun c h1 h2 h3 => (hc c h1 h2 h3).resolve_right (by omega), fun h => by omega, fun j h => h⟩
 | n + 1, a, out, hl, ha, hn, hc => by
   simp only [markN]
   by_cases h0 : a < 0
   · rw [if_pos h0]
     refine ⟨fun c h1 h2 h3 => (hc c h1 h2 h3).resolve_right (by omega), fun h => by omega, fun j h => h⟩
   · rw [if_neg h0]
     have ha2 := ha.resolve_left (by omega)
     by_cases h1 : out.getD a.toNat false = true
     · rw [if_pos h1]
       refine ⟨fun c g1 g2 g3 => ?_, fun _ => h1, fun j h => h⟩
       rcases hc c g1 g2 g3 with g4 | g4
       · exact g4
       · rw [g4]; exact h1
     · rw [if_neg h1]
       have hp := par_range hm ha2.1 ha2.2
       have ih := markN_closed hm n (parI t a) (out.set a.toNat true) (by rw [List.length_set]; exact hl) (by omega) (by omega) fun c g1 g2 g3 => by
        rw [getD_setB] at g2 ⊢
        split at g2
        · next hh =>
          right
          rw [← hh.1, Int.toNat_of_nonneg ha2.1]
        · rcases hc c g1 g2 g3 with g4 | g4
          · left
            split
            · rfl
            · exact g4
          · left
            rw [g4, if_pos ⟨rfl, by omega⟩]
       refine ⟨ih.1, fun _ => ih.2.2 _ ?_, fun j h => ih.2.2 _ ?_⟩
       · rw [getD_setB, if_pos ⟨rfl, by omega⟩]
       · rw [getD_setB]
         split
         · rfl
         · exact h
theorem leadsTo_closed {t : List Node} (hm : mayB t = true) : ∀ (ls : List Int) (out : List Bool), (∀ a ∈ ls, 0 ≤ a ∧ a < t.length) → out.length = t.length → closedB t out →
 closedB t (leadsTo t ls out) ∧ (∀ a ∈ ls, (leadsTo t ls out).getD a.toNat false = true) ∧ ∀ j, out.getD j false = true → (leadsTo t ls out).getD j false = true
 | [], out, _, _, h => ⟨h, ⟨fun a ha => (by cases ha), fun j h => h⟩⟩
 | a :: ls, out, ha, hl, h => by
   have h1 := ha a List.mem_cons_self
   obtain ⟨m1, m2, m3⟩ := markN_closed hm (a + 1).toNat a out hl (.inr h1) (by omega) fun c g1 g2 g3 => .inl (h c g1 g2 g3)
   obtain ⟨k1, k2, k3⟩ := leadsTo_closed hm ls (markF t a out) (fun b hb => ha b (List.mem_cons_of_mem _ hb)) (by unfold markF; rw [markN_len]; exact hl) m1
   refine ⟨k1, fun b hb => ?_, fun j hj => k3 _ (m3 j hj)⟩
   rcases List.mem_cons.1 hb with rfl | hb
   · exact k3 _ (m2 h1.1)
   · exact k2 b hb
theorem someL_in {p : Int → Bool} {n k : Nat} (hk : k < n) (hp : p k = true) : (k : Int) ∈ someL p n := by
 unfold someL
 exact List.mem_map.2 ⟨k, List.mem_filter.2 ⟨List.mem_range.2 hk, hp⟩, rfl⟩
theorem aboveF_child {t : List Node} (hm : mayB t = true) {j c : Nat} (hc : c < t.length) (hp : parI t c = j) : aboveF t j c = true := by
 have h1 := par_range hm (a := (c : Int)) (by omega) (by omega)
 rw [aboveF_step hm (by omega) (by omega), if_neg (by omega), if_neg (by omega), hp, aboveF_step hm (by omega) (by omega), if_pos rfl]
theorem leads_iff {t : List Node} (hm : mayB t = true) (just fin : Int) {k : Nat} (hk : k < t.length) : (leadsR t just fin).getD k false = true ↔ ∃ l : Nat, l < t.length ∧ leafB t just fin l = true ∧ aboveF t k l = true := by
 have hinv := leadsR_inv hm just fin
 have hcl := leadsTo_closed hm (someL (leafB t just fin) t.length) (List.replicate t.length false) (fun a ha => (someL_mem ha).1) (by rw [List.length_replicate]) (fun c g1 g2 _ => by
  rw [List.getD_eq_getElem?_getD, List.getElem?_replicate] at g2
  split at g2 <;> simp at g2)
 have hR : leadsTo t (someL (leafB t just fin) t.length) (List.replicate t.length false) = leadsR t just fin := by rw [leadsR, if_pos hm]
 rw [hR] at hcl
 have hlen : (leadsR t just fin).length = t.length := leadsR_len hm just fin
 constructor
 · have down : ∀ (n k : Nat), t.length - k < n → k < t.length → (leadsR t just fin).getD k false = true → ∃ l : Nat, l < t.length ∧ leafB t just fin l = true ∧ aboveF t k l = true := fun n => by
    induction n with
    | zero => exact fun k h => by omega
    | succ n ih =>
      intro k hn hk h
      rcases hinv k h with h1 | ⟨c, c1, c2, c3⟩
      · exact ⟨k, hk, h1, by rw [aboveF_step hm (by omega) (by omega), if_pos rfl]⟩
      · have hpar : parI t c = (k : Int) := by rw [parI_nat]; exact c2
        have hr := par_range hm (a := (c : Int)) (by omega) (by omega)
        obtain ⟨l, l1, l2, l3⟩ := ih c (by omega) c1 c3
        exact ⟨l, l1, l2, aboveF_trans hm (by omega) (by omega) (aboveF_child hm c1 hpar) (l + 1) l (by omega) (by omega) (by omega) l3⟩
   exact down (t.length - k + 1) k (by omega) hk
 · rintro ⟨l, l1, l2, l3⟩
   have up : ∀ (n a : Nat), a < n → a < t.length → (leadsR t just fin).getD a false = true → aboveF t k a = true → (leadsR t just fin).getD k false = true := fun n => by
    induction n with
    | zero => exact fun a h => by omega
    | succ n ih =>
      intro a hn ha h hab
      rw [aboveF_step hm (by omega) (by omega)] at hab
      split at hab
      · next he =>
        have : a = k := by omega
        rw [← this]; exact h
      · split at hab
        · cases hab
        · rcases par_range hm (a := (a : Int)) (by omega) (by omega) with hp | hp
          · rw [hp, aboveF_neg] at hab; cases hab
          · have hc := hcl.1 a ha h hp.1
            refine ih (parI t a).toNat (by omega) (by omega) hc ?_
            rwa [Int.toNat_of_nonneg hp.1]
   have := hcl.2.1 (l : Int) (someL_in l1 l2)
   rw [Int.toNat_natCast] at this
   exact up (l + 1) l (by omega) l1 this l3
section
variable {t : List Node} {i : Int}
theorem CutAt.kid_kept (h : CutAt t i) {c k : Nat} (hc : c < t.length) (hp : parI t c = (k : Int)) (hk : aboveF t i k = true) (hkl : k < t.length) : aboveF t i c = true ∧ (c : Int) ≠ i := by
 have hr := par_range h.may (a := (c : Int)) (by omega) (by omega)
 have h1 := aboveF_ge h.may (a := (k : Int)) (by omega) (by omega) hk
 have hci : (c : Int) ≠ i := by omega
 refine ⟨?_, hci⟩
 rw [aboveF_step h.may (by omega) (by omega), if_neg hci, if_neg (by omega), hp]
 exact hk
theorem CutAt.better (h : CutAt t i) (w : List Int) {a b : Nat} (ha : a < t.length) (hb : b < t.length) (ka : aboveF t i a = true) (kb : aboveF t i b = true) : wbetterB (cutR t i) (resW t i w) (phi t i a) (phi t i b : Nat) = wbetterB t w a b := by
 unfold wbetterB wAt rAt
 rw [Int.toNat_natCast, Int.toNat_natCast, resW_at w ha ka, resW_at w hb kb, (h.at ha ka).2, (h.at hb kb).2, decide_eq_false (show ¬ ((phi t i b : Nat) : Int) = -1 by omega), decide_eq_false (show ¬ (b : Int) = -1 by omega)]
 rfl
theorem CutAt.kidTo (h : CutAt t i) (w : List Int) (ld ld' : List Bool) (hld : ∀ k, k < t.length → aboveF t i k = true → ld'.getD (phi t i k) false = ld.getD k false) {k : Nat} (hk : k < t.length) (ha : aboveF t i k = true) : ∀ m, m ≤ t.length →
 (kidTo t w ld k m = -1 ∧ Go.Proofs.YtgnidooihignfaaGreatDoor.kidTo (cutR t i) (resW t i w) ld' (phi t i k : Nat) (phi t i m) = -1) ∨ ∃ b : Nat, b < t.length ∧ aboveF t i b = true ∧ kidTo t w ld k m = b ∧ Go.Proofs.YtgnidooihignfaaGreatDoor.kidTo (cutR t i) (resW t i w) ld' (phi t i k : Nat) (phi t i m) = (phi t i b : Nat)
 | 0, _ => .inl ⟨rfl, rfl⟩
 | m + 1, hm => by
   have ih := h.kidTo w ld ld' hld hk ha m (by omega)
   have hml : m < t.length := by omega
   rw [phi_succ]
   by_cases km : aboveF t i m = true
   · rw [if_pos km]
     have hpar : ((cutR t i).getD (phi t i m) zNode).parent = if (m : Int) = i then -1 else (phi t i (parI t m).toNat : Int) := by
      rw [← parI_nat]; exact h.par hml km
     have hp2 : (t.getD m zNode).parent = parI t m := (parI_nat t m).symm
     have hpk : ((cutR t i).getD (phi t i m) zNode).parent = (phi t i k : Nat) ↔ (t.getD m zNode).parent = (k : Int) := by
      rw [hpar, hp2]
      by_cases hmi : (m : Int) = i
      · rw [if_pos hmi]
        have h1 := aboveF_ge h.may (a := (k : Int)) (by omega) (by omega) ha
        have h2 := par_range h.may (a := (m : Int)) (by omega) (by omega)
        constructor <;> intro hh <;> omega
      · rw [if_neg hmi]
        obtain ⟨p0, p1, p2⟩ := h.kept_par hml km hmi
        constructor
        · intro hh
          have := (phi_inj p2 ha).1 (by omega)
          omega
        · intro hh
          rw [hh, Int.toNat_natCast]
     have hl := hld m hml km
     show (bstep t w ld k (Go.Proofs.YtgnidooihignfaaGreatDoor.kidTo t w ld k m) m = -1 ∧ bstep (cutR t i) (resW t i w) ld' (phi t i k : Nat) (Go.Proofs.YtgnidooihignfaaGreatDoor.kidTo (cutR t i) (resW t i w) ld' (phi t i k : Nat) (phi t i m)) (phi t i m) = -1) ∨ ∃ b : Nat, b < t.length ∧ aboveF t i b = true ∧ bstep t w ld k (Go.Proofs.YtgnidooihignfaaGreatDoor.kidTo t w ld k m) m = b ∧ bstep (cutR t i) (resW t i w) ld' (phi t i k : Nat) (Go.Proofs.YtgnidooihignfaaGreatDoor.kidTo (cutR t i) (resW t i w) ld' (phi t i k : Nat) (phi t i m)) (phi t i m) = (phi t i b : Nat)
     unfold bstep
     by_cases hskip : (t.getD m zNode).parent ≠ (k : Int) ∨ ld.getD m false = false
     · have hskip' : ((cutR t i).getD (phi t i m) zNode).parent ≠ (phi t i k : Nat) ∨ ld'.getD (phi t i m) false = false := by
        rw [hl]
        exact hskip.imp (fun hh hc => hh (hpk.1 hc)) id
       rw [if_pos hskip, if_pos hskip']
       exact ih
     · have hskip' : ¬ (((cutR t i).getD (phi t i m) zNode).parent ≠ (phi t i k : Nat) ∨ ld'.getD (phi t i m) false = false) := by
        rw [hl]
        intro hc
        exact hskip (hc.imp (fun hh hc2 => hh (hpk.2 hc2)) id)
       rw [if_neg hskip, if_neg hskip']
       right
       rcases ih with ⟨i1, i2⟩ | ⟨b, b1, b2, b3, b4⟩
       · rw [i1, i2]
         have e1 : ∀ (T : List Node) (W : List Int) (x : Nat), wbetterB T W x (-1) = true := fun T W x => by
          unfold wbetterB
          rw [decide_eq_true rfl, Bool.true_or, Bool.true_or]
         rw [e1, e1, if_pos rfl, if_pos rfl]
         exact ⟨m, hml, km, rfl, rfl⟩
       · rw [b3, b4, h.better w hml b1 km b2]
         split
         · exact ⟨m, hml, km, rfl, rfl⟩
         · exact ⟨b, b1, b2, rfl, rfl⟩
   · rw [if_neg km, Nat.add_zero]
     have e : Go.Proofs.YtgnidooihignfaaGreatDoor.kidTo t w ld k (m + 1) = Go.Proofs.YtgnidooihignfaaGreatDoor.kidTo t w ld k m := by
      show bstep t w ld k (Go.Proofs.YtgnidooihignfaaGreatDoor.kidTo t w ld k m) m = _
      unfold bstep
      refine if_pos (.inl fun hh => km ?_)
      have hp2 : parI t m = (k : Int) := by rw [parI_nat]; exact hh
      exact (h.kid_kept hml hp2 ha hk).1
     rw [e]
     exact ih
theorem CutAt.head (h : CutAt t i) (w : List Int) (ld ld' : List Bool) (hld : ∀ k, k < t.length → aboveF t i k = true → ld'.getD (phi t i k) false = ld.getD k false) : ∀ (n k : Nat), t.length - k < n → k < t.length → aboveF t i k = true →
 ∃ b : Nat, b < t.length ∧ aboveF t i b = true ∧ headF t w ld k = b ∧ headF (cutR t i) (resW t i w) ld' (phi t i k : Nat) = (phi t i b : Nat)
 | 0, k, hn, _, _ => by omega
 | n + 1, k, hn, hk, ha => by
   have hlt := (h.at hk ha).1
   have hlen : (cutR t i).length = phi t i t.length := h.len
   rw [headF_next h.may (by omega) (by omega), headF_next h.may' (by omega) (by omega)]
   have hkid := h.kidTo w ld ld' hld hk ha t.length (Nat.le_refl _)
   rw [← hlen] at hkid
   have hab := kid_above (w := w) (ld := ld) h.may (i := (k : Int)) t.length (Nat.le_refl _)
   rcases hkid with ⟨k1, k2⟩ | ⟨b, b1, b2, b3, b4⟩
   · have k1' : kidF t w ld k = -1 := k1
     have k2' : kidF (cutR t i) (resW t i w) ld' (phi t i k : Nat) = -1 := k2
     rw [if_pos k1', if_pos k2']
     exact ⟨k, hk, ha, rfl, rfl⟩
   · have b3' : kidF t w ld k = b := b3
     have b4' : kidF (cutR t i) (resW t i w) ld' (phi t i k : Nat) = (phi t i b : Nat) := b4
     rw [b3', b4', if_neg (by omega), if_neg (by omega)]
     exact h.head w ld ld' hld n b (by omega) b1 b2
end
theorem refat_c (t : List Node) (i s : Int) (hl : t.length ≤ 100) : Cal Tryz.prog 58 [tav t, .int .i64 i, .int .u64 s] (.int .i64 (atR t i s)) := by
 have c1 := And.intro (en Tryz.func117) (refis_pure t i hl)
 cases hb : isB t [i]
 · rw [hb] at c1
   have er : atR t i s = -1 := by simp [atR, hb]
   have ff := er
   have hR : Tryz.f58.results.toList = [.tmp 6] := rfl
   refine cal_tr Tryz.func58 rfl fun E hE hP => ?_
   exact mX
 · rw [hb] at c1
   obtain ⟨hm, hk⟩ := isB_spec hb
   have er : atR t i s = atF t s i := by simp [atR, hb]
   rw [er]
   have hR : Tryz.f58.results.toList = [.tmp 6] := rfl
   refine cal_tr Tryz.func58 rfl fun E hE hP => ?_
   refine mW ?_
   refine Tr.loop (fun a : Int => (⟨[(1, .int .i64 a), (2, .int .u64 s), (3, .ptr 0 [] 0)], [(0, .var (tav t))], 1, []⟩ : S)) (fun a => (a = -1 ∨ (0 ≤ a ∧ a < t.length)) ∧ atF t s a = atF t s i) (fun a => (a + 1).toNat) i ⟨.inr hk, rfl⟩ ?_ ?_
   · exact mK
   · rintro a ⟨ha, habove⟩
     rw [← habove]
     rcases ha with ha | ⟨ha0, ha1⟩
     · have e1 : decide (0 ≤ a) = false := dfO
       have er2 : atF t s a = a := by subst ha; rfl
       have ff := And.intro e1 er2
       exact mX
     · have e1 : decide (0 ≤ a) = true := decide_eq_true ha0
       have hstep := atF_step hm (s := s) ha0 ha1
       have hpr := par_range hm ha0 ha1
       obtain ⟨j, rfl⟩ : ∃ j : Nat, a = j := ⟨a.toNat, by omega⟩
       have hn := nth_node (t := t) (k := j) (by omega)
       have hsl : slotI t j = (t.getD j zNode).slot := by unfold slotI; rw [Int.toNat_natCast]
       have hpar : (t.getD j zNode).parent = parI t j := by unfold parI; rw [Int.toNat_natCast]
       rw [hsl] at hstep
       generalize t.getD j zNode = nd at hn hstep hpar
       by_cases hs : s < nd.slot
       · have e2 : decide (s < nd.slot) = true := decide_eq_true hs
         rw [if_neg (by omega)] at hstep
         have ff := And.intro e1 (And.intro hn (And.intro e2 hpar))
         refine mW ?_
         refine ⟨parI t j, ⟨by omega, hstep.symm⟩, by omega, ?_⟩
         exact mK
       · have e2 : decide (s < nd.slot) = false := decide_eq_false hs
         rw [if_pos (by omega)] at hstep
         have ff := And.intro e1 (And.intro hn (And.intro e2 hstep))
         exact mX
theorem refkids_c (t : List Node) (i : Int) (hl : t.length ≤ 100) (hb : isB t [i] = true) : Cal Tryz.prog 185 [tav t, .int .i64 i] (.sl ((kidsR t i).map iav) false) := by
 have c1 := And.intro (en Tryz.func117) (refis_pure t i hl)
 rw [hb] at c1
 have er : kidsR t i = someL (parB t i) t.length := by rw [kidsR, hb]; rfl
 rw [er]
 have hR : Tryz.f185.results.toList = [.tmp 4] := rfl
 refine cal_tr Tryz.func185 rfl fun E hE hP => ?_
 refine mW ?_
 refine Tr.wk (Wk.nil 5 1 rfl) ?_
 refine Tr.loop (fun k : Nat => (⟨[(1, .int .i64 i), (2, .ptr 0 [] 0), (5, .ms 1 1 (someL (parB t i) k).length), (6, .bool true), (7, .int .i64 k)], [(0, .var (tav t)), (1, .row 1 ((someL (parB t i) k).map iav))], 2, []⟩ : S)) (fun k => k ≤ t.length) (fun k => t.length - k) 0 (Nat.zero_le _) ?_ ?_
 · refine wk_ren (fun | 1 => 128 | n => n) mB mB rfl rfl rfl
 · intro k hk
   by_cases hlt : k < t.length
   · have e1 : decide ((k : Int) < (t.length : Int)) = true := dtO
     have hn := nth_node hlt
     have hw := wN k
     have hL := someL_next (parB t i) k
     have hLl := someL_len (parB t i) k
     have hp : parB t i (k : Int) = decide ((t.getD k zNode).parent = i) := by rw [parB, parI_nat]
     rw [hp] at hL
     generalize t.getD k zNode = n at hn hL
     generalize someL (parB t i) k = L at hL hLl
     cases hd : decide (n.parent = i)
     · rw [hd, if_neg (by simp), List.append_nil] at hL
       have ff := And.intro e1 (And.intro hn (And.intro hw hd))
       refine mW ?_
       refine ⟨k + 1, hlt, by omega, ?_⟩
       rw [hL]
       exact mK
     · rw [hd, if_pos rfl] at hL
       have ff := And.intro e1 (And.intro hn (And.intro hw hd))
       refine mW ?_
       refine ⟨k + 1, hlt, by omega, ?_⟩
       rw [hL, List.length_append, List.length_singleton, List.map_append]
       refine wk_ren (fun | 1 => 306 | n => n) mB mB rfl rfl rfl
   · have e1 : decide ((k : Int) < (t.length : Int)) = false := dfO
     have hil : k = t.length := by omega
     subst hil
     have ff := e1
     exact mX
theorem refleaf_c (t : List Node) (just fin i : Int) (hl : t.length ≤ 100) : Cal Tryz.prog 115 [tav t, .int .u64 just, .int .i64 fin, .int .i64 i] (.bool (leafB t just fin i)) := by
 have c1 := And.intro (en Tryz.func54) (refabove_pure t fin i hl)
 cases h1 : aboveR t fin i
 · rw [h1] at c1
   have er : leafB t just fin i = false := by simp [leafB, h1]
   have ff := er
   have hR : Tryz.f115.results.toList = [.tmp 8] := rfl
   refine cal_tr Tryz.func115 rfl fun E hE hP => ?_
   exact mX
 · rw [h1] at c1
   have hs := above_spec.1 h1
   have hb : isB t [i] = true := by
    unfold aboveR at h1
    rw [Bool.and_eq_true, isB_two, Bool.and_eq_true] at h1
    exact h1.1.2
   have c2 := refkids_c t i hl hb
   obtain ⟨k, rfl⟩ : ∃ k : Nat, i = k := ⟨i.toNat, by omega⟩
   have hn := nth_node (t := t) (k := k) (by omega)
   by_cases h2 : (kidsR t k).length = 0
   · have e2 : decide (((kidsR t k).length : Int) = 0) = true := dtO
     have er : leafB t just fin k = decide (just ≤ (t.getD k zNode).just) := by simp [leafB, h1, h2]
     have ff := And.intro e2 (And.intro hn er)
     have hR : Tryz.f115.results.toList = [.tmp 8] := rfl
     refine cal_tr Tryz.func115 rfl fun E hE hP => ?_
     exact mX
   · have e2 : decide (((kidsR t k).length : Int) = 0) = false := dfO
     have er : leafB t just fin k = false := by simp [leafB, h1, h2]
     have ff := And.intro e2 er
     have hR : Tryz.f115.results.toList = [.tmp 8] := rfl
     refine cal_tr Tryz.func115 rfl fun E hE hP => ?_
     exact mX
theorem reffrom_c (t : List Node) (r : Root) (fin : Int) (hl : t.length ≤ 100) : Cal Tryz.prog 53 [tav t, .root r, .int .i64 fin] (.int .i64 (fromR t r fin)) := by
 have c1 := And.intro (en Tryz.func50) (reffind_pure t r hl)
 have c2 := And.intro (en Tryz.func54) (refabove_pure t fin (findR t r) hl)
 have c3 := refmay_pure t hl
 rw [refmay_eq] at c3
 have c3 := And.intro (en Tryz.func114) (c3)
 have es : aboveR t fin fin = true ↔ mayB t = true ∧ 0 ≤ fin ∧ fin < t.length := ⟨fun h => ⟨(above_spec.1 h).1, (above_spec.1 h).2.1⟩, fun h => above_self h.1 h.2.1 h.2.2⟩
 have el : aboveR t fin (findR t r) = true → mayB t = true ∧ 0 ≤ fin ∧ fin < t.length := fun h => ⟨(above_spec.1 h).1, (above_spec.1 h).2.1⟩
 have eno : ¬ (mayB t = true ∧ 0 ≤ fin ∧ fin < t.length) → fromR t r fin = -1 := fun h => by
  unfold fromR
  rw [if_neg (fun g => h (el g)), if_neg (fun g => h (es.1 g))]
 cases hm : mayB t
 · have er : fromR t r fin = -1 := eno (by rw [hm]; simp)
   rw [hm] at c3
   have ff := er
   have hR : Tryz.f53.results.toList = [.tmp 6] := rfl
   refine cal_tr Tryz.func53 rfl fun E hE hP => ?_
   exact mX
 · rw [hm] at c3
   by_cases h0 : fin < 0
   · have e0 : decide (fin < 0) = true := decide_eq_true h0
     have er : fromR t r fin = -1 := eno (by omega)
     have ff := And.intro e0 er
     have hR : Tryz.f53.results.toList = [.tmp 6] := rfl
     refine cal_tr Tryz.func53 rfl fun E hE hP => ?_
     exact mX
   · have e0 : decide (fin < 0) = false := decide_eq_false h0
     by_cases h1 : (t.length : Int) ≤ fin
     · have e1 : decide ((t.length : Int) ≤ fin) = true := decide_eq_true h1
       have er : fromR t r fin = -1 := eno (by omega)
       have ff := And.intro e0 (And.intro e1 er)
       have hR : Tryz.f53.results.toList = [.tmp 6] := rfl
       refine cal_tr Tryz.func53 rfl fun E hE hP => ?_
       exact mX
     · have e1 : decide ((t.length : Int) ≤ fin) = false := decide_eq_false h1
       cases h2 : aboveR t fin (findR t r)
       · have er : fromR t r fin = fin := by rw [fromR, h2, if_neg (by simp), if_pos (es.2 ⟨hm, by omega, by omega⟩)]
         rw [h2] at c2
         have ff := And.intro e0 (And.intro e1 er)
         have hR : Tryz.f53.results.toList = [.tmp 6] := rfl
         refine cal_tr Tryz.func53 rfl fun E hE hP => ?_
         exact mX
       · have er : fromR t r fin = findR t r := by rw [fromR, h2, if_pos rfl]
         rw [h2] at c2
         have ff := And.intro e0 (And.intro e1 er)
         have hR : Tryz.f53.results.toList = [.tmp 6] := rfl
         refine cal_tr Tryz.func53 rfl fun E hE hP => ?_
         exact mX
theorem refsmay_c (s : Snap) (hl : s.t.length ≤ 100) : Cal Tryz.prog 18 [s.av] (.bool (smayR s)) := by
 have c1 := And.intro (en Tryz.func50) (reffind_pure s.t s.fin.root hl)
 have c2 := And.intro (en Tryz.func50) (reffind_pure s.t s.head hl)
 have c3 := And.intro (en Tryz.func50) (reffind_pure s.t s.just.root hl)
 have c4 := And.intro (en Tryz.func54) (refabove_pure s.t (findR s.t s.fin.root) (findR s.t s.head) hl)
 have c5 := And.intro (en Tryz.func54) (refabove_pure s.t (findR s.t s.fin.root) (findR s.t s.just.root) hl)
 cases h1 : aboveR s.t (findR s.t s.fin.root) (findR s.t s.head)
 · have er : smayR s = false := by rw [smayR, h1, Bool.false_and]
   rw [er]
   rw [h1] at c4
   have hR : Tryz.f18.results.toList = [.tmp 2] := rfl
   refine cal_tr Tryz.func18 rfl fun E hE hP => ?_
   exact mX
 · have er : smayR s = aboveR s.t (findR s.t s.fin.root) (findR s.t s.just.root) := by rw [smayR, h1, Bool.true_and]
   rw [er]
   rw [h1] at c4
   have hR : Tryz.f18.results.toList = [.tmp 2] := rfl
   refine cal_tr Tryz.func18 rfl fun E hE hP => ?_
   exact mX
theorem refask_no (s : Snap) (c : Ask) (hl : s.t.length ≤ 100) (hm : smayR s = false) : Cal Tryz.prog 22 [s.av, c.av] (failR 1).av := by
 have c1 := refsmay_c s hl
 rw [hm] at c1
 have hR : Tryz.f22.results.toList = [.cell 4 51] := rfl
 refine cal_tr Tryz.func22 rfl fun E hE hP => ?_
 exact mX
theorem refask_5 (s : Snap) (c : Ask) (hl : s.t.length ≤ 100) (hm : smayR s = true) (hk : decide (c.kind = 5) = true) : Cal Tryz.prog 22 [s.av, c.av] (Resp.mk 0 s.head false ⟨0, zroot⟩).av := by
 have c1 := refsmay_c s hl
 rw [hm] at c1
 have c2 := And.intro (en Tryz.func50) (reffind_pure s.t c.a hl)
 have c3 := And.intro (en Tryz.func50) (reffind_pure s.t c.b hl)
 have ff := hk
 have hR : Tryz.f22.results.toList = [.cell 4 51] := rfl
 refine cal_tr Tryz.func22 rfl fun E hE hP => ?_
 exact mX
theorem refask_8 (s : Snap) (c : Ask) (hl : s.t.length ≤ 100) (hm : smayR s = true) (h5 : decide (c.kind = 5) = false) (hk : decide (c.kind = 8) = true) : Cal Tryz.prog 22 [s.av, c.av] (Resp.mk 0 zroot false s.fin).av := by
 have c1 := refsmay_c s hl
 rw [hm] at c1
 have c2 := And.intro (en Tryz.func50) (reffind_pure s.t c.a hl)
 have c3 := And.intro (en Tryz.func50) (reffind_pure s.t c.b hl)
 have ff := And.intro h5 hk
 have hR : Tryz.f22.results.toList = [.cell 4 51] := rfl
 refine cal_tr Tryz.func22 rfl fun E hE hP => ?_
 exact mX
theorem refask_6 (s : Snap) (c : Ask) (hl : s.t.length ≤ 100) (hm : smayR s = true) (h5 : decide (c.kind = 5) = false) (h8 : decide (c.kind = 8) = false) (hk : decide (c.kind = 6) = true) : Cal Tryz.prog 22 [s.av, c.av] (ans3R s (findR s.t c.a) c.slot).av := by
 have c1 := refsmay_c s hl
 rw [hm] at c1
 have c2 := And.intro (en Tryz.func50) (reffind_pure s.t c.a hl)
 have c3 := And.intro (en Tryz.func50) (reffind_pure s.t c.b hl)
 have c4 := refat_c s.t (findR s.t c.a) c.slot hl
 generalize findR s.t c.a = a at c2 c4 ⊢
 cases h1 : decide (a < 0)
 · have h1' : ¬ a < 0 := of_decide_eq_false h1
   cases h2 : decide (atR s.t a c.slot < 0)
   · have h2' : ¬ atR s.t a c.slot < 0 := of_decide_eq_false h2
     have er : ans3R s a c.slot = ⟨0, (s.t.getD (atR s.t a c.slot).toNat zNode).root, false, ⟨0, zroot⟩⟩ := by rw [ans3R, if_neg h1', if_neg h2']
     rw [er]
     have hlt := atR_lt s.t a c.slot
     generalize atR s.t a c.slot = k at c4 h2 h2' hlt ⊢
     obtain ⟨k, rfl⟩ : ∃ n : Nat, k = n := ⟨k.toNat, by omega⟩
     have hnd := nth_node (t := s.t) (k := k) (by omega)
     rw [Int.toNat_natCast]
     have ff := And.intro h5 (And.intro h8 (And.intro hk (And.intro h1 (And.intro h2 hnd))))
     have hR : Tryz.f22.results.toList = [.cell 4 51] := rfl
     refine cal_tr Tryz.func22 rfl fun E hE hP => ?_
     exact mX
   · have er : ans3R s a c.slot = failR 8 := by rw [ans3R, if_neg h1', if_pos (of_decide_eq_true h2)]
     rw [er]
     have ff := And.intro h5 (And.intro h8 (And.intro hk (And.intro h1 h2)))
     have hR : Tryz.f22.results.toList = [.cell 4 51] := rfl
     refine cal_tr Tryz.func22 rfl fun E hE hP => ?_
     exact mX
 · have er : ans3R s a c.slot = failR 5 := by rw [ans3R, if_pos (of_decide_eq_true h1)]
   rw [er]
   have ff := And.intro h5 (And.intro h8 (And.intro hk h1))
   have hR : Tryz.f22.results.toList = [.cell 4 51] := rfl
   refine cal_tr Tryz.func22 rfl fun E hE hP => ?_
   exact mX
theorem refask_7 (s : Snap) (c : Ask) (hl : s.t.length ≤ 100) (hm : smayR s = true) (h5 : decide (c.kind = 5) = false) (h8 : decide (c.kind = 8) = false) (h6 : decide (c.kind = 6) = false) (hk : decide (c.kind = 7) = true) : Cal Tryz.prog 22 [s.av, c.av] (ans4R s (findR s.t c.a) (findR s.t c.b)).av := by
 have c1 := refsmay_c s hl
 rw [hm] at c1
 have c2 := And.intro (en Tryz.func50) (reffind_pure s.t c.a hl)
 have c3 := And.intro (en Tryz.func50) (reffind_pure s.t c.b hl)
 have c4 := And.intro (en Tryz.func54) (refabove_pure s.t (findR s.t c.a) (findR s.t c.b) hl)
 generalize findR s.t c.a = a at c2 c4 ⊢
 generalize findR s.t c.b = b at c3 c4 ⊢
 cases h1 : decide (a < 0)
 · have h1' : ¬ a < 0 := of_decide_eq_false h1
   cases h2 : decide (b < 0)
   · have h2' : ¬ b < 0 := of_decide_eq_false h2
     have er : ans4R s a b = ⟨0, zroot, aboveR s.t a b, ⟨0, zroot⟩⟩ := by rw [ans4R, if_neg (by omega)]
     rw [er]
     have ff := And.intro h5 (And.intro h8 (And.intro h6 (And.intro hk (And.intro h1 h2))))
     have hR : Tryz.f22.results.toList = [.cell 4 51] := rfl
     refine cal_tr Tryz.func22 rfl fun E hE hP => ?_
     exact mX
   · have h2' := of_decide_eq_true h2
     have er : ans4R s a b = failR 5 := by rw [ans4R, if_pos (by omega)]
     rw [er]
     have ff := And.intro h5 (And.intro h8 (And.intro h6 (And.intro hk (And.intro h1 h2))))
     have hR : Tryz.f22.results.toList = [.cell 4 51] := rfl
     refine cal_tr Tryz.func22 rfl fun E hE hP => ?_
     exact mX
 · have h1' := of_decide_eq_true h1
   have er : ans4R s a b = failR 5 := by rw [ans4R, if_pos (by omega)]
   rw [er]
   have ff := And.intro h5 (And.intro h8 (And.intro h6 (And.intro hk h1)))
   have hR : Tryz.f22.results.toList = [.cell 4 51] := rfl
   refine cal_tr Tryz.func22 rfl fun E hE hP => ?_
   exact mX
theorem refask_none (s : Snap) (c : Ask) (hl : s.t.length ≤ 100) (hm : smayR s = true) (h5 : decide (c.kind = 5) = false) (h8 : decide (c.kind = 8) = false) (h6 : decide (c.kind = 6) = false) (h7 : decide (c.kind = 7) = false) : Cal Tryz.prog 22 [s.av, c.av] (failR 1).av := by
 have c1 := refsmay_c s hl
 rw [hm] at c1
 have c2 := And.intro (en Tryz.func50) (reffind_pure s.t c.a hl)
 have c3 := And.intro (en Tryz.func50) (reffind_pure s.t c.b hl)
 have ff := And.intro h5 (And.intro h8 (And.intro h6 h7))
 have hR : Tryz.f22.results.toList = [.cell 4 51] := rfl
 refine cal_tr Tryz.func22 rfl fun E hE hP => ?_
 exact mX
theorem refask_c (s : Snap) (c : Ask) (hl : s.t.length ≤ 100) : Cal Tryz.prog 22 [s.av, c.av] (askR s c).av := by
 cases hm : smayR s
 · have er : askR s c = failR 1 := by rw [askR, hm]; rfl
   rw [er]
   exact refask_no s c hl hm
 · unfold askR
   rw [hm, if_pos rfl]
   by_cases h5 : c.kind = 5
   · rw [if_pos h5]
     exact refask_5 s c hl hm (decide_eq_true h5)
   · rw [if_neg h5]
     by_cases h8 : c.kind = 8
     · rw [if_pos h8]
       exact refask_8 s c hl hm (decide_eq_false h5) (decide_eq_true h8)
     · rw [if_neg h8]
       by_cases h6 : c.kind = 6
       · rw [if_pos h6]
         exact refask_6 s c hl hm (decide_eq_false h5) (decide_eq_false h8) (decide_eq_true h6)
       · rw [if_neg h6]
         by_cases h7 : c.kind = 7
         · rw [if_pos h7]
           exact refask_7 s c hl hm (decide_eq_false h5) (decide_eq_false h8) (decide_eq_false h6) (decide_eq_true h7)
         · rw [if_neg h7]
           exact refask_none s c hl hm (decide_eq_false h5) (decide_eq_false h8) (decide_eq_false h6) (decide_eq_false h7)
def anyTo (t : List Node) (just fin : Int) (i k : Nat) : Bool := (List.range k).any fun l => aboveR t i l && leafB t just fin l
def ledTo (t : List Node) (just fin : Int) (i : Nat) : List Bool := (List.range i).map fun j => anyTo t just fin j t.length
theorem anyTo_next (t : List Node) (just fin : Int) (i k : Nat) : anyTo t just fin i (k + 1) = (anyTo t just fin i k || (aboveR t i k && leafB t just fin k)) := by
 unfold anyTo
 rw [List.range_succ, List.any_append]
 simp
theorem ledTo_next (t : List Node) (just fin : Int) (i : Nat) : ledTo t just fin (i + 1) = ledTo t just fin i ++ [anyTo t just fin i t.length] := by
 unfold ledTo
 rw [List.range_succ, List.map_append]
 rfl
theorem ledTo_len (t : List Node) (just fin : Int) (i : Nat) : (ledTo t just fin i).length = i := by simp [ledTo]
theorem ledTo_all {t : List Node} (hm : mayB t = true) (just fin : Int) : ledTo t just fin t.length = leadsR t just fin := by
 have hlen := leadsR_len hm just fin
 refine List.ext_getElem (by rw [ledTo_len, hlen]) fun k h1 h2 => ?_
 rw [ledTo_len] at h1
 have h3 := leads_iff hm just fin h1
 have e2 : (leadsR t just fin)[k] = (leadsR t just fin).getD k false := by simp [h2]
 rw [e2, Bool.eq_iff_iff, h3]
 simp only [ledTo, anyTo, List.getElem_map, List.getElem_range]
 rw [List.any_eq_true]
 constructor
 · rintro ⟨l, g1, g2⟩
   rw [Bool.and_eq_true] at g2
   exact ⟨l, List.mem_range.1 g1, g2.2, (above_spec.1 g2.1).2.2.2⟩
 · rintro ⟨l, g1, g2, g3⟩
   refine ⟨l, List.mem_range.2 g1, ?_⟩
   rw [Bool.and_eq_true]
   exact ⟨above_spec.2 ⟨hm, ⟨by omega, by omega⟩, ⟨by omega, by omega⟩, g3⟩, g2⟩
def stLd (t : List Node) (just fin : Int) (i : Nat) : S where
 fr := [(1, .int .u64 just), (2, .int .i64 fin), (3, .ptr 0 [] 0), (7, .ms 1 1 (ledTo t just fin i).length), (8, .bool true), (9, .int .i64 i)]
 hp := [(0, .var (tav t)), (1, .row 1 ((ledTo t just fin i).map .bool))]
 nx := 2
def stLe (t : List Node) (just fin : Int) (L : List Bool) (i k : Nat) : S where
 fr := [(1, .int .u64 just), (2, .int .i64 fin), (3, .ptr 0 [] 0), (7, .ms 1 1 L.length), (8, .bool true), (9, .int .i64 i), (10, .bool (anyTo t just fin i k)), (11, .int .i64 k)]
 hp := [(0, .var (tav t)), (1, .row 1 (L.map .bool))]
 nx := 2
theorem refleads_c (t : List Node) (just fin : Int) (hl : t.length ≤ 100) : Cal Tryz.prog 51 [tav t, .int .u64 just, .int .i64 fin] (.sl ((leadsR t just fin).map .bool) false) := by
 have c1 := refmay_pure t hl
 rw [refmay_eq] at c1
 have c1 := And.intro (en Tryz.func114) (c1)
 cases hm : mayB t
 · rw [hm] at c1
   have er : leadsR t just fin = [] := by rw [leadsR, hm]; rfl
   rw [er]
   have hR : Tryz.f51.results.toList = [.tmp 6] := rfl
   refine cal_tr Tryz.func51 rfl fun E hE hP => ?_
   refine mW ?_
   refine Tr.loop (fun _ : Unit => (⟨[(1, .int .u64 just), (2, .int .i64 fin), (3, .ptr 0 [] 0), (7, .sl [] true), (8, .bool false), (9, .int .i64 0)], [(0, .var (tav t))], 1, []⟩ : S)) (fun _ => True) (fun _ => 0) () trivial ?_ ?_
   · exact mK
   · intro _ _
     cases hb0 : decide ((0 : Int) < (t.length : Int))
     · have ff := hb0
       exact mX
     · have ff := hb0
       exact mX
 · rw [hm] at c1
   rw [← ledTo_all hm]
   have hR : Tryz.f51.results.toList = [.tmp 6] := rfl
   refine cal_tr Tryz.func51 rfl fun E hE hP => ?_
   refine mW ?_
   refine Tr.wk (Wk.nil 7 1 rfl) ?_
   refine Tr.loop (stLd t just fin) (fun i => i ≤ t.length) (fun i => t.length - i) 0 (Nat.zero_le _) ?_ ?_
   · refine wk_ren (fun | 1 => 112 | n => n) mB mB rfl rfl rfl
   · intro i hi
     unfold stLd
     by_cases hlt : i < t.length
     · have e1 : decide ((i : Int) < (t.length : Int)) = true := dtO
       have hw := wN i
       have hL := ledTo_next t just fin i
       have hLl := ledTo_len t just fin i
       generalize ledTo t just fin i = L at hL hLl ⊢
       have ff := And.intro e1 hw
       refine mW ?_
       refine Tr.loop (stLe t just fin L i) (fun k => k ≤ t.length) (fun k => t.length - k) 0 (Nat.zero_le _) ?_ ?_
       · exact mK
       · intro k hk
         unfold stLe
         by_cases hkt : k < t.length
         · have e2 : decide ((k : Int) < (t.length : Int)) = true := dtO
           have hv := wN k
           have hA := anyTo_next t just fin i k
           have c2 := And.intro (en Tryz.func54) (refabove_pure t i k hl)
           have c3 := refleaf_c t just fin k hl
           generalize anyTo t just fin i k = a at hA ⊢
           generalize aboveR t i k = b at c2 hA
           generalize leafB t just fin k = c at c3 hA
           have ff := And.intro e2 hv
           cases a <;> cases b <;> cases c
           all_goals
            refine mW ?_
            refine ⟨k + 1, hkt, by omega, ?_⟩
            rw [hA]
            exact mK
         · have e2 : decide ((k : Int) < (t.length : Int)) = false := dfO
           have hkl : k = t.length := by omega
           subst hkl
           have ff := And.intro e2 hw
           refine mW ?_
           refine ⟨i + 1, hlt, by omega, ?_⟩
           rw [hL, List.length_append, List.length_singleton, List.map_append]
           refine wk_ren (fun | 1 => 130 | n => n) mB mB rfl rfl rfl
     · have e1 : decide ((i : Int) < (t.length : Int)) = false := dfO
       have hil : i = t.length := by omega
       subst hil
       have ff := e1
       exact mX
def stB6 (v i : Nat) : S where
 fr := [(4, .int .i64 i), (3, .int .u64 ((2 ^ i : Nat) : Int)), (0, .int .i64 v)]
 hp := []
 nx := 0
theorem RBit6 (v : Nat) (hv : v < 64) : Cal Tryz.prog 233 [.int .i64 v] (.int .u64 ((2 ^ v : Nat) : Int)) := by
 have e1 : decide ((v : Int) < 0) = false := dfO
 have e2 : decide (63 < (v : Int)) = false := dfO
 have ff := And.intro e1 e2
 have hR : Tryz.f233.results.toList = [.tmp 2] := rfl
 refine cal_tr Tryz.func233 rfl fun E hE hP => ?_
 refine mW ?_
 refine Tr.loop (stB6 v) (fun i => i ≤ v) (fun i => v - i) 0 (Nat.zero_le _) ?_ ?_
 · exact mK
 · intro i hi
   unfold stB6
   by_cases hlt : i < v
   · have e3 : decide ((i : Int) < (v : Int)) = true := dtO
     have hw := wN i
     have hp : 2 ^ (i + 1) ≤ 2 ^ 63 := Nat.pow_le_pow_right (by omega) (by omega)
     have hq : (2 ^ 63 : Nat) = 9223372036854775808 := by decide
     have hm : IntKind.u64.wrap (2 * ((2 ^ i : Nat) : Int)) = ((2 ^ (i + 1) : Nat) : Int) := by
      rw [show (2 * ((2 ^ i : Nat) : Int)) = ((2 ^ (i + 1) : Nat) : Int) by rw [Nat.pow_succ]; omega]
      exact wrapU (by omega)
     generalize ((2 ^ i : Nat) : Int) = p at hm ⊢
     have ff := And.intro e3 (And.intro hw hm)
     refine mW ?_
     refine ⟨i + 1, hlt, by omega, ?_⟩
     exact mK
   · have e3 : decide ((i : Int) < (v : Int)) = false := dfO
     have hil : i = v := by omega
     subst hil
     have ff := e3
     exact mX
theorem has_test (o : Int) (ho : inU o) (v : Nat) : hasB o v = decide ((((o.toNat / 2 ^ v) % 2 : Nat) : Int) = 1) := by
 have h1 : hasB o v = o.toNat.testBit v := by
  unfold hasB
  have h2 := bv_back ho
  rw [BitVec.getLsbD, show (bv o).toNat = o.toNat by omega]
 rw [h1, Nat.testBit_eq_decide_div_mod_eq]
 exact decide_eq_decide.2 (by omega)
theorem RHas6 (o : Int) (ho : inU o) (v : Nat) (hv : v < 64) : Cal Tryz.prog 219 [.int .u64 o, .int .i64 v] (.bool (hasB o v)) := by
 have c1 := RBit6 v hv
 have er := has_test o ho v
 obtain ⟨m, rfl⟩ : ∃ m : Nat, o = m := ⟨o.toNat, by have := ho.1; omega⟩
 have hm : m < 18446744073709551616 := by have := ho.2; omega
 rw [Int.toNat_natCast] at er
 have hp : 0 < 2 ^ v := Nat.pow_pos (by omega)
 generalize 2 ^ v = p at c1 er hp
 have e0 : decide ((0 : Int) < (p : Int)) = true := dtO
 have n0 : (¬ (p : Int) = 0) = True := by simp; omega
 have n2 : (¬ (2 : Int) = 0) = True := by simp
 have q1 : IntKind.u64.wrap ((m : Int).tdiv p) = ((m / p : Nat) : Int) := by
  have e : (m : Int).tdiv p = ((m / p : Nat) : Int) := rfl
  rw [e]; exact wrapU (Nat.lt_of_le_of_lt (Nat.div_le_self _ _) hm)
 have q2 : ((m / p : Nat) : Int).tmod 2 = ((m / p % 2 : Nat) : Int) := rfl
 rw [er]
 generalize ((m / p % 2 : Nat) : Int) = y at q2 ⊢
 generalize ((m / p : Nat) : Int) = x at q1 q2
 have ff := And.intro e0 (And.intro n0 (And.intro n2 (And.intro q1 q2)))
 have hR : Tryz.f219.results.toList = [.tmp 4] := rfl
 refine cal_tr Tryz.func219 rfl fun E hE hP => ?_
 exact mX
def rbad (l : List Latest) (o : Int) (i : Nat) : Bool := (hasB o i && decide (l.length ≤ i)) || (decide (i < l.length) && ((hasB o i || !(l.getD i zLatest).has) && !decide (l.getD i zLatest = zLatest)))
theorem vbad_has (o : Int) (i : Nat) (hi : i < 8) (x : Latest) : vbad o i x = ((hasB o i || !x.has) && !decide (x = zLatest)) := by
 have h := and_bit o i hi
 unfold vbad
 cases hb : hasB o i
 · have e : decide (¬ andU o (bit i) = 0) = false := decide_eq_false (not_not_intro (h.2 hb))
   rw [e, Bool.or_false, Bool.false_or]
 · have e : decide (¬ andU o (bit i) = 0) = true := decide_eq_true (fun g => by have := h.1 g; rw [hb] at this; cases this)
   rw [e, Bool.or_true, Bool.true_or]
theorem vmay_ref {l : List Latest} {o : Int} (ho : inU o) : vmayB l o = true ↔ (1 ≤ l.length ∧ l.length ≤ 8) ∧ ∀ i, i < 64 → rbad l o i = false := by
 have hb : ∀ i : Nat, i < 9 → bit i = ((2 ^ i : Nat) : Int) := by decide +kernel
 constructor
 · intro h
   obtain ⟨h1, h8, hlt, hall⟩ := vmay_spec h
   refine ⟨⟨h1, h8⟩, fun i _ => ?_⟩
   unfold rbad
   rw [Bool.or_eq_false_iff]
   constructor
   · by_cases hi : l.length ≤ i
     · rw [has_test o ho i]
       rw [hb _ (by omega)] at hlt
       have h2 : 2 ^ l.length ≤ 2 ^ i := Nat.pow_le_pow_right (by omega) hi
       have h3 : o.toNat / 2 ^ i = 0 := Nat.div_eq_of_lt (by have := ho.1; omega)
       rw [h3]
       rfl
     · rw [decide_eq_false hi, Bool.and_false]
   · by_cases hi : i < l.length
     · have := hall i hi
       rw [vbad_has o i (by omega)] at this
       rw [this, Bool.and_false]
     · rw [decide_eq_false hi, Bool.false_and]
 · rintro ⟨⟨h1, h8⟩, hall⟩
   refine vmay_of ⟨h1, h8, ?_, fun i hi => ?_⟩
   · rw [hb _ (by omega)]
     have h2 : o.toNat < 2 ^ l.length := by
      refine Nat.lt_pow_two_of_testBit _ fun i hi => ?_
      by_cases h64 : i < 64
      · have h3 := hall i h64
        unfold rbad at h3
        rw [Bool.or_eq_false_iff, decide_eq_true hi, Bool.and_true] at h3
        have h4 : hasB o i = o.toNat.testBit i := by
         rw [has_test o ho i, Nat.testBit_eq_decide_div_mod_eq]
         exact decide_eq_decide.2 (by omega)
        rw [← h4]
        exact h3.1
      · refine Nat.testBit_lt_two_pow ?_
        have h3 : 2 ^ 64 ≤ 2 ^ i := Nat.pow_le_pow_right (by omega) (by omega)
        have hq : (2 ^ 64 : Nat) = 18446744073709551616 := by decide
        have := ho.2
        omega
     have := ho.1
     omega
   · have h3 := hall i (by omega)
     unfold rbad at h3
     rw [Bool.or_eq_false_iff, decide_eq_true hi, Bool.true_and] at h3
     rw [vbad_has o i (by omega)]
     exact h3.2
set_option maxHeartbeats 1000000 in
theorem refvmay_c (l : List Latest) (o : Int) (ho : inU o) : Cal Tryz.prog 176 [vav l o] (.bool (vmayB l o)) := by
 have hr := vmay_ref (l := l) ho
 have hR : Tryz.f176.results.toList = [.tmp 2] := rfl
 refine cal_tr Tryz.func176 rfl fun E hE hP => ?_
 refine mW ?_
 refine Tr.loop (fun i : Nat => (⟨[(1, .ptr 0 [] 0), (3, .int .i64 i)], [(0, .var (vav l o))], 1, []⟩ : S)) (fun i => i ≤ 64 ∧ ∀ j, j < i → rbad l o j = false) (fun i => 64 - i) 0 ⟨Nat.zero_le _, fun _ h => by omega⟩ ?_ ?_
 · exact mK
 · intro i ⟨hi, hall⟩
   by_cases hlt : i < 64
   · have e1 : decide ((i : Int) < 64) = true := dtO
     have c1 := RHas6 o ho i hlt
     have hw := wN i
     have hv : rbad l o i = ((hasB o i && decide (l.length ≤ i)) || (decide (i < l.length) && ((hasB o i || !(l.getD i zLatest).has) && !decide (l.getD i zLatest = zLatest)))) := rfl
     have hno : rbad l o i = true → vmayB l o = false := fun h => by
      rw [← Bool.not_eq_true]
      intro g
      have := (hr.1 g).2 i hlt
      rw [h] at this
      cases this
     have hyes : rbad l o i = false → ∀ j, j < i + 1 → rbad l o j = false := fun h j hj => by
      rcases Nat.lt_or_ge j i with h1 | h1
      · exact hall j h1
      · have : j = i := by omega
        subst this; exact h
     generalize hasB o i = b at c1 hv
     by_cases hin : i < l.length
     · have e2 : decide ((i : Int) < (l.length : Int)) = true := dtO
       have e3 : decide ((l.length : Int) ≤ (i : Int)) = false := dfO
       have hn := nth_map_lt Latest.av l i hin
       have hgd : l.getD i zLatest = l[i] := by simp [List.getD_eq_getElem?_getD, hin]
       rw [dfO, decide_eq_true hin, hgd, Bool.and_false, Bool.false_or, Bool.true_and] at hv
       generalize l[i] = x at hn hv
       cases hz : decide (x = zLatest)
       · cases hh : x.has
         · have er := hno (by rw [hv, hz, hh]; cases b <;> rfl)
           have ff := And.intro e1 (And.intro e2 (And.intro e3 (And.intro hn (And.intro hh (And.intro hz er)))))
           cases b
           · exact mX
           · exact mX
         · cases b
           · have hy := hyes (by rw [hv, hz, hh]; rfl)
             have ff := And.intro e1 (And.intro e2 (And.intro e3 (And.intro hn (And.intro hh (And.intro hz hw)))))
             refine mW ?_
             refine ⟨i + 1, ⟨hlt, hy⟩, by omega, ?_⟩
             exact mK
           · have er := hno (by rw [hv, hz, hh]; rfl)
             have ff := And.intro e1 (And.intro e2 (And.intro e3 (And.intro hn (And.intro hh (And.intro hz er)))))
             exact mX
       · have hy := hyes (by rw [hv, hz, Bool.not_true, Bool.and_false])
         cases hh : x.has
         all_goals
          have ff := And.intro e1 (And.intro e2 (And.intro e3 (And.intro hn (And.intro hh (And.intro hz hw)))))
          cases b
          · refine mW ?_
            refine ⟨i + 1, ⟨hlt, hy⟩, by omega, ?_⟩
            exact mK
          · refine mW ?_
            refine ⟨i + 1, ⟨hlt, hy⟩, by omega, ?_⟩
            exact mK
     · have e2 : decide ((i : Int) < (l.length : Int)) = false := dfO
       have e3 : decide ((l.length : Int) ≤ (i : Int)) = true := dtO
       rw [dtO, decide_eq_false hin, Bool.and_true, Bool.false_and, Bool.or_false] at hv
       cases b
       · have hy := hyes hv
         have ff := And.intro e1 (And.intro e2 (And.intro e3 hw))
         refine mW ?_
         refine ⟨i + 1, ⟨hlt, hy⟩, by omega, ?_⟩
         exact mK
       · have er := hno hv
         have ff := And.intro e1 (And.intro e2 (And.intro e3 er))
         exact mX
   · have e1 : decide ((i : Int) < 64) = false := dfO
     have hil : i = 64 := by omega
     have hall : ∀ j, j < 64 → rbad l o j = false := fun j hj => hall j (by omega)
     by_cases h1 : 1 ≤ l.length
     · have e2 : decide ((1 : Int) ≤ (l.length : Int)) = true := dtO
       have er : vmayB l o = decide ((l.length : Int) ≤ 8) := by
        rw [Bool.eq_iff_iff, hr, decide_eq_true_eq]
        exact ⟨fun h => by omega, fun h => ⟨⟨h1, by omega⟩, hall⟩⟩
       have ff := And.intro e1 (And.intro e2 er)
       exact mX
     · have e2 : decide ((1 : Int) ≤ (l.length : Int)) = false := dfO
       have er : vmayB l o = false := by
        rw [← Bool.not_eq_true, hr]
        exact fun h => h1 h.1.1
       have ff := And.intro e1 (And.intro e2 er)
       exact mX
theorem reflmay_c (l : List Att) (hl : l.length ≤ 100) : Cal Tryz.prog 177 [atts l] (.bool (lmayA l)) := by
 unfold atts
 have hR : Tryz.f177.results.toList = [.tmp 2] := rfl
 refine cal_tr Tryz.func177 rfl fun E hE hP => ?_
 refine mW ?_
 refine Tr.loop (fun i : Nat => (⟨[(0, .sl (l.map Att.av) false), (3, .int .i64 i)], [], 0, []⟩ : S)) (fun i => i ≤ l.length ∧ ∀ j (hj : j < l.length), j < i → isFar l[j] = false) (fun i => l.length - i) 0 ⟨Nat.zero_le _, fun _ _ h => by omega⟩ ?_ ?_
 · exact mK
 · intro i ⟨hi, hall⟩
   by_cases hlt : i < l.length
   · have e1 : decide ((i : Int) < (l.length : Int)) = true := dtO
     have hn := nth_map_lt Att.av l i hlt
     have hw := wN i
     cases hf : isFar l[i]
     · have hf' : decide (1099511627776 < l[i].slot) = false := hf
       have ff := And.intro e1 (And.intro hn (And.intro hf' hw))
       refine mW ?_
       refine ⟨i + 1, ⟨hlt, fun j hj hjl => ?_⟩, by omega, ?_⟩
       · rcases Nat.lt_or_ge j i with h1 | h1
         · exact hall j hj h1
         · have : j = i := by omega
           subst this; exact hf
       · exact mK
     · have hf' : decide (1099511627776 < l[i].slot) = true := hf
       have er : lmayA l = false := by
        have : l.any isFar = true := List.any_eq_true.2 ⟨_, List.getElem_mem hlt, hf⟩
        rw [lmayA, this, Bool.not_true, Bool.and_false]
       have ff := And.intro e1 (And.intro hn (And.intro hf' er))
       exact mX
   · have e1 : decide ((i : Int) < (l.length : Int)) = false := dfO
     have hil : i = l.length := by omega
     have hno : l.any isFar = false := by
      rw [List.any_eq_false]
      intro x hx
      obtain ⟨j, hj, rfl⟩ := List.mem_iff_getElem.1 hx
      rw [hall j hj (by omega)]; simp
     have er : lmayA l = decide ((l.length : Int) ≤ 6) := by
      rw [lmayA, hno, Bool.not_false, Bool.and_true]
      exact decide_eq_decide.2 (by omega)
     subst hil
     have ff := And.intro e1 er
     exact mX
theorem refplace_c (e : Eng) (r : Root) (hl : e.t.length ≤ 100) : Cal Tryz.prog 109 [e.av, .root r] (.int .i64 (findR e.t r)) := by
 have c1 := And.intro (en Tryz.func50) (reffind_pure e.t r hl)
 have hR : Tryz.f109.results.toList = [.tmp 4] := rfl
 refine cal_tr Tryz.func109 rfl fun E hE hP => ?_
 exact mX
theorem refadd_c (x y : Int) (hx : 0 ≤ x) (hy : 0 ≤ y) (h : x + y < 18446744073709551616) : Cal Tryz.prog 222 [.int .u64 x, .int .u64 y] (.tup [.int .u64 (x + y), .bool true]) := by
 have e1 : IntKind.u64.wrap (18446744073709551615 - y) = 18446744073709551615 - y := wrapU_lt (by omega) (by omega)
 have e2 : decide (18446744073709551615 - y < x) = false := dfO
 have e3 : IntKind.u64.wrap (x + y) = x + y := wrapU_lt (by omega) h
 have ff := And.intro e1 (And.intro e2 e3)
 have hR : Tryz.f222.results.toList = [.tmp 4, .tmp 5] := rfl
 refine cal_tr Tryz.func222 rfl fun E hE hP => ?_
 exact mX
theorem reffit_c (t : List Node) (vl : List Latest) (o : Int) (b : List Int) (hl : t.length ≤ 100) (ho : inU o) (hb : b.length ≤ 100) (h : fitB t vl o b = true) : Cal Tryz.prog 221 [tav t, vav vl o, u64s b] (.bool true) := by
 obtain ⟨h1, h2, h3, h4⟩ := fit_spec h
 have c1 := refmay_pure t hl
 rw [refmay_eq, h1] at c1
 have c1 := And.intro (en Tryz.func114) (c1)
 have c2 := refvmay_c vl o ho
 rw [h2] at c2
 have c3 := refsmay_pure b (by omega)
 rw [h3] at c3
 have c3 := And.intro (en Tryz.func78) (c3)
 have e1 : decide ((vl.length : Int) = (b.length : Int)) = true := dtO
 have ff := e1
 have hR : Tryz.f221.results.toList = [.tmp 6] := rfl
 refine cal_tr Tryz.func221 rfl fun E hE hP => ?_
 exact mX
theorem root_find {t : List Node} (hm : mayB t = true) {j : Nat} (hj : j < t.length) (r : Root) : r = (t.getD j zNode).root ↔ findR t r = j := by
 constructor
 · rintro rfl
   exact find_self hm hj
 · intro h
   have := find_root (t := t) (r := r) (by omega)
   rw [h, Int.toNat_natCast] at this
   exact this.symm
theorem part_ref {t : List Node} (hm : mayB t = true) (b : List Int) (k : Nat) (x : Latest) {j : Nat} (hj : j < t.length) : partV t [] b k x j = if x.has && decide (x.root = (t.getD j zNode).root) then b.getD k 0 else 0 := by
 have h := root_find hm hj x.root
 unfold partV
 rw [skip_nil]
 cases x.has
 · rfl
 · rw [Bool.not_true, if_neg (by simp), Bool.true_and]
   by_cases hr : x.root = (t.getD j zNode).root
   · have h1 := h.1 hr
     rw [decide_eq_true hr, if_neg (by omega), if_pos (by omega), if_pos rfl]
   · have h1 : ¬ findR t x.root = j := fun g => hr (h.2 g)
     simp only [decide_eq_false hr, Bool.false_eq_true, if_false]
     have := findR_range t x.root
     split
     · rfl
     · rw [if_neg (by omega)]
theorem take_u (l : List Int) {i : Nat} (h : i < l.length) : (l.take (i + 1)) = l.take i ++ [l.getD i 0] := by
 rw [List.take_add_one, List.getElem?_eq_getElem h, Option.toList_some, List.getD_eq_getElem?_getD, List.getElem?_eq_getElem h]
 rfl
def stOw (t : List Node) (vl : List Latest) (o : Int) (b R : List Int) (i : Nat) : S where
 fr := [(2, .sl (b.map uav) false), (3, .ptr 0 [] 0), (4, .ptr 1 [] 0), (9, .ms 2 1 i), (10, .int .i64 i)]
 hp := [(0, .var (tav t)), (1, .var (vav vl o)), (2, .row 1 ((R.take i).map uav))]
 nx := 3
def stOx (t : List Node) (vl : List Latest) (o : Int) (b R : List Int) (i k : Nat) : S where
 fr := [(2, .sl (b.map uav) false), (3, .ptr 0 [] 0), (4, .ptr 1 [] 0), (9, .ms 2 1 i), (10, .int .i64 i), (11, .int .u64 ((votTo t vl [] b k).getD i 0)), (12, .int .i64 k)]
 hp := [(0, .var (tav t)), (1, .var (vav vl o)), (2, .row 1 (R.map uav))]
 nx := 3
set_option maxHeartbeats 1000000 in
theorem refown_c (t : List Node) (vl : List Latest) (o : Int) (b : List Int) (hl : t.length ≤ 100) (ho : inU o) (hb : okB b) (hbl : b.length ≤ 100) (h : fitB t vl o b = true) : Cal Tryz.prog 179 [tav t, vav vl o, u64s b] (.tup [u64s (ownW t vl b), .bool true]) := by
 obtain ⟨hm, _, hS, hvb⟩ := fit_spec h
 have c1 := reffit_c t vl o b hl ho hbl h
 have hol : (ownW t vl b).length = t.length := votTo_len _ _ _ _ _
 have hown : ∀ i, (ownW t vl b).getD i 0 = (votTo t vl [] b b.length).getD i 0 := fun i => by rw [ownW, hvb]
 generalize ownW t vl b = R at hol hown ⊢
 have hR : Tryz.f179.results.toList = [.tmp 6, .tmp 7] := rfl
 refine cal_tr Tryz.func179 rfl fun E hE hP => ?_
 refine mW ?_
 refine Tr.wk (Wk.nil 9 1 rfl) ?_
 refine Tr.loop (stOw t vl o b R) (fun i => i ≤ t.length) (fun i => t.length - i) 0 (Nat.zero_le _) ?_ ?_
 · refine wk_ren (fun | 2 => 208 | 1 => 16 | n => n) mB mB rfl rfl rfl
 · intro i hi
   unfold stOw
   by_cases hlt : i < t.length
   · have e1 : decide ((i : Int) < (t.length : Int)) = true := dtO
     have hn := nth_node (t := t) hlt
     have hw := wN i
     have hT := take_u R (i := i) (by omega)
     have hTl : (R.take i).length = i := by rw [List.length_take]; omega
     generalize R.take i = Q at hT hTl ⊢
     have ff := e1
     refine mW ?_
     refine Tr.loop (stOx t vl o b Q i) (fun k => k ≤ b.length) (fun k => b.length - k) 0 (Nat.zero_le _) ?_ ?_
     · have hz : (votTo t vl [] b 0).getD i 0 = 0 := by
        rw [votTo, List.getD_eq_getElem?_getD, List.getElem?_replicate]
        split <;> rfl
       unfold stOx
       rw [hz]
       exact mK
     · intro k hk
       unfold stOx
       by_cases hkb : k < b.length
       · have e2 : decide ((k : Int) < (b.length : Int)) = true := dtO
         have hv := wN k
         have hx := nth_map_lt Latest.av vl k (by omega)
         have hu := nth_uav (l := b) hkb
         have hN := vot_at (t := t) (vl := vl) (bl := []) hb hS k (by omega) i
         have hs := small_vot (t := t) (vl := vl) (bl := []) hb hS (k + 1) (by omega) i
         have hgd : vl.getD k zLatest = vl[k]'(by omega) := by simp [List.getD_eq_getElem?_getD, show k < vl.length by omega]
         rw [part_ref hm b k _ hlt, hgd] at hN
         generalize (votTo t vl [] b k).getD i 0 = n at hN ⊢
         generalize vl[k]'(by omega) = x at hx hN
         generalize t.getD i zNode = nd at hn hN
         generalize b.getD k 0 = u at hu hN
         cases h1 : x.has
         · rw [h1, Bool.false_and, if_neg (by simp), Int.add_zero] at hN
           have ff := And.intro e2 (And.intro hx (And.intro h1 hv))
           refine mW ?_
           refine ⟨k + 1, hkb, by omega, ?_⟩
           rw [hN]
           exact mK
         · cases h2 : decide (x.root = nd.root)
           · rw [h1, h2, Bool.and_false, if_neg (by simp), Int.add_zero] at hN
             have ff := And.intro e2 (And.intro hx (And.intro h1 (And.intro hn (And.intro h2 hv))))
             refine mW ?_
             refine ⟨k + 1, hkb, by omega, ?_⟩
             rw [hN]
             exact mK
           · rw [h1, h2, Bool.and_self, if_pos rfl] at hN
             have e3 : IntKind.u64.wrap (n + u) = (votTo t vl [] b (k + 1)).getD i 0 := by rw [hN]; exact wrapU_lt (by omega) (by omega)
             have ff := And.intro e2 (And.intro hx (And.intro h1 (And.intro hn (And.intro h2 (And.intro hu (And.intro e3 hv))))))
             refine mW ?_
             refine ⟨k + 1, hkb, by omega, ?_⟩
             exact mK
       · have e2 : decide ((k : Int) < (b.length : Int)) = false := dfO
         have hkl : k = b.length := by omega
         subst hkl
         rw [← hown i]
         have ff := And.intro e2 (And.intro hw hTl)
         refine mW ?_
         refine ⟨i + 1, hlt, by omega, ?_⟩
         rw [hT, List.map_append]
         refine wk_ren (fun | 2 => 115 | n => n) mB mB rfl rfl rfl
   · have e1 : decide ((i : Int) < (t.length : Int)) = false := dfO
     have hil : i = R.length := by omega
     subst hil
     have ff := e1
     rw [List.take_length]
     exact mX
def sumA (t : List Node) (w : List Int) (i : Nat) : Nat → Int
 | 0 => 0
 | k + 1 => sumA t w i k + if aboveF t i k then w.getD k 0 else 0
theorem sumA_add {t : List Node} {w v : List Int} {p : Nat} {x : Int} (h : ∀ l, v.getD l 0 = w.getD l 0 + if l = p then x else 0) (i : Nat) : ∀ k, sumA t v i k = sumA t w i k + if p < k ∧ aboveF t i p = true then x else 0
 | 0 => by simp [sumA]
 | k + 1 => by
   rw [sumA, sumA, sumA_add h i k, h k]
   by_cases hk : k = p
   · subst hk
     have e1 : (if k < k ∧ aboveF t i k = true then x else 0) = 0 := if_neg fun g => absurd g.1 (Nat.lt_irrefl _)
     rw [e1, if_pos rfl]
     cases ha : aboveF t i k
     · simp
     · simp
       omega
   · have e0 : (if k = p then x else 0) = 0 := if_neg hk
     have e1 : (if p < k + 1 ∧ aboveF t i p = true then x else 0) = if p < k ∧ aboveF t i p = true then x else 0 := by
      by_cases hp : p < k
      · simp [hp, show p < k + 1 by omega]
      · simp [hp, show ¬ p < k + 1 by omega]
     rw [e0, e1]
     cases aboveF t i k
     · simp
     · simp
       omega
theorem sumA_low {t : List Node} (hm : mayB t = true) (w : List Int) (i : Nat) : ∀ k, k ≤ i → k ≤ t.length → sumA t w i k = 0
 | 0, _, _ => rfl
 | k + 1, h, hl => by
   have ha : aboveF t i k = false := by rw [aboveF_step hm (by omega) (by omega), if_neg (by omega), if_pos (by omega)]
   rw [sumA, sumA_low hm w i k (by omega) (by omega), ha]
   rfl
theorem sumA_self {t : List Node} (hm : mayB t = true) (w : List Int) {k : Nat} (hk : k < t.length) : sumA t w k (k + 1) = w.getD k 0 := by
 have ha : aboveF t k k = true := by rw [aboveF_step hm (by omega) (by omega), if_pos rfl]
 rw [sumA, sumA_low hm w k k (Nat.le_refl _) (by omega), ha, if_pos rfl, Int.zero_add]
theorem up_at (t : List Node) (hm : mayB t = true) (w : List Int) (hw : w.length = t.length) {k : Nat} (hk : k < t.length) : parI t k = -1 ∧ upW t w k = w ∨ ∃ p : Nat, parI t k = p ∧ p < k ∧ ∀ l, (upW t w k).getD l 0 = w.getD l 0 + if l = p then w.getD k 0 else 0 := by
 rcases par_range hm (a := k) (by omega) (by omega) with h | ⟨h0, h1⟩
 · left
   exact ⟨h, by rw [upW, if_pos (by omega)]⟩
 · right
   obtain ⟨p, hp⟩ : ∃ p : Nat, parI t k = p := ⟨(parI t k).toNat, by omega⟩
   refine ⟨p, hp, by omega, fun l => ?_⟩
   rw [upW, if_neg (by omega), hp, Int.toNat_natCast, getD_set]
   by_cases hl : l = p
   · subst hl
     rw [if_pos ⟨rfl, by omega⟩, if_pos rfl]
   · rw [if_neg (fun g => hl g.1.symm), if_neg hl, Int.add_zero]
theorem sum_up {t : List Node} (hm : mayB t = true) {w : List Int} (hw : w.length = t.length) {k j : Nat} (hk : k < t.length) (hj : j < k) : sumA t (upW t w k) j k = sumA t w j (k + 1) := by
 have hs := aboveF_step hm (i := j) (a := k) (by omega) (by omega)
 rw [if_neg (by omega), if_neg (by omega)] at hs
 rw [sumA, hs]
 rcases up_at t hm w hw hk with ⟨h1, h2⟩ | ⟨p, h1, h2, h3⟩
 · have ha : aboveF t j (-1) = false := aboveN_none t j _
   rw [h2, h1, ha]
   simp
 · rw [sumA_add h3 j k, h1]
   by_cases ha : aboveF t j p = true
   · rw [if_pos ⟨h2, ha⟩, if_pos ha]
   · rw [if_neg (fun g => ha g.2), if_neg ha]
theorem sub_inv {t : List Node} (hm : mayB t = true) {w : List Int} (hw : w.length = t.length) : ∀ m, m ≤ t.length → ∀ j, j < t.length → (if j < t.length - m then sumA t (subTo t w m) j (t.length - m) else (subTo t w m).getD j 0) = sumA t w j t.length
 | 0, _, j, hj => by rw [if_pos (by omega)]; rfl
 | m + 1, h, j, hj => by
   have ih := sub_inv hm hw m (by omega) j hj
   have hl := subTo_len t w m
   rw [subTo]
   generalize subTo t w m = v at ih hl
   obtain ⟨k, hk⟩ : ∃ k, t.length - 1 - m = k := ⟨_, rfl⟩
   have e1 : t.length - m = k + 1 := by omega
   have e2 : t.length - (m + 1) = k := by omega
   rw [hk, e2]
   rw [e1] at ih
   by_cases hjk : j < k
   · rw [if_pos hjk, sum_up hm (by omega) (by omega) hjk]
     rw [if_pos (by omega)] at ih
     exact ih
   · rw [if_neg hjk]
     have hup : (upW t v k).getD j 0 = v.getD j 0 := by
      rcases up_at t hm v (by omega) (k := k) (by omega) with ⟨_, g2⟩ | ⟨p, g1, g2, g3⟩
      · rw [g2]
      · rw [g3, if_neg (by omega), Int.add_zero]
     rw [hup]
     by_cases hje : j = k
     · subst hje
       rw [if_pos (by omega), sumA_self hm v (by omega)] at ih
       exact ih
     · rw [if_neg (by omega)] at ih
       exact ih
theorem sub_at {t : List Node} (hm : mayB t = true) {w : List Int} (hw : w.length = t.length) {j : Nat} (hj : j < t.length) : (subW t w).getD j 0 = sumA t w j t.length := by
 have h := sub_inv hm hw t.length (Nat.le_refl _) j hj
 rw [if_neg (by omega)] at h
 exact h
theorem sumA_range {t : List Node} {w : List Int} {B : Int} (hs : small B w) (i : Nat) : ∀ k : Nat, 0 ≤ sumA t w i k ∧ sumA t w i k ≤ k * B
 | 0 => by simp [sumA]
 | k + 1 => by
   have ih := sumA_range hs (t := t) i k
   have h1 := hs k
   have e : ((k + 1 : Nat) : Int) * B = k * B + B := by
    rw [Int.natCast_add, Int.add_mul]
    simp
   rw [sumA, e]
   split <;> omega
def stSa (t : List Node) (w R : List Int) (i : Nat) : S where
 fr := [(1, .sl (w.map uav) false), (2, .ptr 0 [] 0), (7, .ms 1 1 i), (8, .int .i64 i)]
 hp := [(0, .var (tav t)), (1, .row 1 ((R.take i).map uav))]
 nx := 2
def stSb (t : List Node) (w R : List Int) (i k : Nat) : S where
 fr := [(1, .sl (w.map uav) false), (2, .ptr 0 [] 0), (7, .ms 1 1 i), (8, .int .i64 i), (9, .int .u64 (sumA t w i k)), (10, .int .i64 k)]
 hp := [(0, .var (tav t)), (1, .row 1 (R.map uav))]
 nx := 2
theorem refsub_c (t : List Node) (w : List Int) (hm : mayB t = true) (hw : w.length = t.length) (hs : small 1125899906842624 w) : Cal Tryz.prog 180 [tav t, u64s w] (.tup [u64s (subW t w), .bool true]) := by
 have h12 := may_len hm
 have c1 := refmay_pure t (by omega)
 rw [refmay_eq, hm] at c1
 have c1 := And.intro (en Tryz.func114) (c1)
 have hRl : (subW t w).length = t.length := (subTo_len t w _).trans hw
 have hRa : ∀ j, j < t.length → (subW t w).getD j 0 = sumA t w j t.length := fun j hj => sub_at hm hw hj
 generalize subW t w = R at hRl hRa ⊢
 have e0 : ((w.length : Int) != (t.length : Int)) = false := by rw [int_bne, dtO]; rfl
 have ff := e0
 have hR : Tryz.f180.results.toList = [.tmp 4, .tmp 5] := rfl
 refine cal_tr Tryz.func180 rfl fun E hE hP => ?_
 refine mW ?_
 refine Tr.wk (Wk.nil 7 1 rfl) ?_
 refine Tr.loop (stSa t w R) (fun i => i ≤ w.length) (fun i => w.length - i) 0 (Nat.zero_le _) ?_ ?_
 · refine wk_ren (fun | 1 => 288 | n => n) mB mB rfl rfl rfl
 · intro i hi
   unfold stSa
   by_cases hlt : i < w.length
   · have e1 : decide ((i : Int) < (w.length : Int)) = true := dtO
     have hv := wN i
     have hT := take_u R (i := i) (by omega)
     have hTl : (R.take i).length = i := by rw [List.length_take]; omega
     generalize R.take i = Q at hT hTl ⊢
     have ff := e1
     refine mW ?_
     refine Tr.loop (stSb t w Q i) (fun k => k ≤ w.length) (fun k => w.length - k) 0 (Nat.zero_le _) ?_ ?_
     · exact mK
     · intro k hk
       unfold stSb
       by_cases hkw : k < w.length
       · have e2 : decide ((k : Int) < (w.length : Int)) = true := dtO
         have hv := wN k
         have hu := nth_uav (l := w) hkw
         have c2 := And.intro (en Tryz.func54) (refabove_pure t i k (by omega))
         have er : aboveR t i k = aboveF t i k := by
          rw [Bool.eq_iff_iff, above_spec]
          exact ⟨fun h => h.2.2.2, fun h => ⟨hm, ⟨by omega, by omega⟩, ⟨by omega, by omega⟩, h⟩⟩
         have hN : sumA t w i (k + 1) = sumA t w i k + if aboveF t i k then w.getD k 0 else 0 := rfl
         have hr := sumA_range (t := t) hs i k
         have hk12 : (k : Int) * 1125899906842624 ≤ 12 * 1125899906842624 := Int.mul_le_mul_of_nonneg_right (by omega) (by omega)
         have hb := hs k
         rw [er] at c2
         generalize sumA t w i k = n at hN hr ⊢
         generalize w.getD k 0 = u at hu hN hb
         cases ha : aboveF t i k
         · rw [ha] at c2 hN
           rw [if_neg (by simp), Int.add_zero] at hN
           have ff := And.intro e2 hv
           refine mW ?_
           refine ⟨k + 1, hkw, by omega, ?_⟩
           rw [hN]
           exact mK
         · rw [ha] at c2 hN
           rw [if_pos rfl] at hN
           have c3 := refadd_c n u hr.1 hb.1 (by omega)
           rw [← hN] at c3
           have ff := And.intro e2 (And.intro hu hv)
           refine mW ?_
           refine ⟨k + 1, hkw, by omega, ?_⟩
           exact mK
       · have e2 : decide ((k : Int) < (w.length : Int)) = false := dfO
         have hkl : k = w.length := by omega
         subst hkl
         have hq := hRa i (by omega)
         rw [← hw] at hq
         rw [← hq]
         have ff := And.intro e2 (And.intro hv hTl)
         refine mW ?_
         refine ⟨i + 1, hlt, by omega, ?_⟩
         rw [hT, List.map_append]
         refine wk_ren (fun | 1 => 114 | n => n) mB mB rfl rfl rfl
   · have e1 : decide ((i : Int) < (w.length : Int)) = false := dfO
     have hil : i = R.length := by omega
     subst hil
     have ff := e1
     rw [List.take_length]
     exact mX
theorem refweights_c (t : List Node) (vl : List Latest) (o : Int) (b : List Int) (hl : t.length ≤ 100) (ho : inU o) (hb : okB b) (hbl : b.length ≤ 100) (h : fitB t vl o b = true) : Cal Tryz.prog 107 [tav t, vav vl o, u64s b] (.tup [u64s (weights t vl b), .bool true]) := by
 obtain ⟨hm, _, hS, hvb⟩ := fit_spec h
 have c1 := refown_c t vl o b hl ho hb hbl h
 have c2 := refsub_c t (ownW t vl b) hm (votTo_len _ _ _ _ _) (small_own hb hS hvb)
 have hR : Tryz.f107.results.toList = [.tmp 6, .tmp 7] := rfl
 refine cal_tr Tryz.func107 rfl fun E hE hP => ?_
 exact mX
theorem least_le : ∀ (l : List Att) (m : Att), (least m l).slot ≤ m.slot ∧ (∀ a ∈ l, (least m l).slot ≤ a.slot) ∧ (least m l = m ∨ least m l ∈ l)
 | [], m => ⟨Int.le_refl _, fun a h => (nomatch h), .inl rfl⟩
 | a :: l, m => by
   have e : least m (a :: l) = least (if a.slot < m.slot then a else m) l := rfl
   obtain ⟨h1, h2, h3⟩ := least_le l (if a.slot < m.slot then a else m)
   rw [e]
   generalize least (if a.slot < m.slot then a else m) l = x at h1 h2 h3
   by_cases h : a.slot < m.slot
   · rw [if_pos h] at h1 h3
     refine ⟨by omega, fun b hb => ?_, ?_⟩
     · rcases List.mem_cons.1 hb with rfl | hb
       · exact h1
       · exact h2 b hb
     · rcases h3 with rfl | h3
       · exact .inr List.mem_cons_self
       · exact .inr (List.mem_cons_of_mem _ h3)
   · rw [if_neg h] at h1 h3
     refine ⟨by omega, fun b hb => ?_, ?_⟩
     · rcases List.mem_cons.1 hb with rfl | hb
       · omega
       · exact h2 b hb
     · rcases h3 with rfl | h3
       · exact .inl rfl
       · exact .inr (List.mem_cons_of_mem _ h3)
theorem late_ref (l : List Att) (n : Int) : ((nextA l).2 && decide ((nextA l).1 < n)) = false ↔ ∀ a ∈ l, n ≤ a.slot := by
 match l with
 | [] => exact ⟨fun _ a h => (nomatch h), fun _ => rfl⟩
 | a :: r =>
   obtain ⟨_, h2, h3⟩ := least_le (a :: r) a
   show (true && decide ((least a (a :: r)).slot < n)) = false ↔ _
   rw [Bool.true_and, decide_eq_false_iff_not]
   constructor
   · intro h b hb
     have := h2 b hb
     omega
   · intro h
     have : least a (a :: r) ∈ a :: r := by
      rcases h3 with h3 | h3
      · rw [h3]; exact List.mem_cons_self
      · exact h3
     have := h _ this
     omega
theorem nodup_ref (l : List Check) : l.Nodup ↔ ∀ i (h : i < l.length), l[i] ∉ l.take i := by
 unfold List.Nodup
 rw [List.pairwise_iff_getElem]
 constructor
 · intro h i hi hm
   obtain ⟨j, hj, he⟩ := List.mem_iff_getElem.1 hm
   rw [List.length_take] at hj
   rw [List.getElem_take] at he
   exact h j i (by omega) hi (by omega) he
 · intro h i j hi hj hij he
   refine h j hj (List.mem_iff_getElem.2 ⟨i, by rw [List.length_take]; omega, ?_⟩)
   rw [List.getElem_take]
   exact he
theorem lost_ref (e : Eng) : (rootsL e).any (lostB e) = false ↔ (∀ c ∈ e.j, 0 ≤ findR e.t c.root) ∧ (∀ a ∈ e.k, 0 ≤ findR e.t a.s.root ∧ 0 ≤ findR e.t a.t.root) ∧ ∀ x ∈ e.vl, x.has = true → 0 ≤ findR e.t x.root := by
 have hl : ∀ r, lostB e r = false ↔ 0 ≤ findR e.t r := fun r => by unfold lostB; rw [decide_eq_false_iff_not]; omega
 rw [List.any_eq_false]
 have hl' : ∀ r, ¬ lostB e r = true ↔ 0 ≤ findR e.t r := fun r => by rw [Bool.not_eq_true]; exact hl r
 simp only [hl']
 unfold rootsL rootsJ rootsK rootsV
 constructor
 · intro h
   refine ⟨fun c hc => h _ ?_, fun a ha => ⟨h _ ?_, h _ ?_⟩, fun x hx hh => h _ ?_⟩
   · rw [List.mem_append, List.mem_append]
     exact .inl (.inl (List.mem_map.2 ⟨c, hc, rfl⟩))
   · rw [List.mem_append, List.mem_append]
     exact .inl (.inr (List.mem_flatMap.2 ⟨a, ha, List.mem_cons_self⟩))
   · rw [List.mem_append, List.mem_append]
     exact .inl (.inr (List.mem_flatMap.2 ⟨a, ha, List.mem_cons_of_mem _ List.mem_cons_self⟩))
   · rw [List.mem_append]
     exact .inr (List.mem_map.2 ⟨x, List.mem_filter.2 ⟨hx, hh⟩, rfl⟩)
 · rintro ⟨h1, h2, h3⟩ r hr
   rw [List.mem_append, List.mem_append] at hr
   rcases hr with (hr | hr) | hr
   · obtain ⟨c, hc, rfl⟩ := List.mem_map.1 hr
     exact h1 c hc
   · obtain ⟨a, ha, hr⟩ := List.mem_flatMap.1 hr
     rcases List.mem_cons.1 hr with rfl | hr
     · exact (h2 a ha).1
     · rcases List.mem_cons.1 hr with rfl | hr
       · exact (h2 a ha).2
       · cases hr
   · obtain ⟨x, hx, rfl⟩ := List.mem_map.1 hr
     exact h3 x (List.mem_filter.1 hx).1 (List.mem_filter.1 hx).2
def partsB (e : Eng) : Bool := mayB e.t && (mayS e.b && (vmayB e.vl e.o && (lmayA e.late && (lmayB e.k && (decide (e.vl.length = e.b.length) && decide (e.now ≤ 1099511627776))))))
theorem parts_fit {e : Eng} (h : partsB e = true) : fitB e.t e.vl e.o e.b = true ∧ lmayA e.late = true ∧ lmayB e.k = true ∧ e.now ≤ 1099511627776 := by
 unfold partsB at h
 unfold fitB
 simp only [Bool.and_eq_true, decide_eq_true_eq] at h ⊢
 obtain ⟨h1, h2, h3, h4, h5, h6, h7⟩ := h
 exact ⟨⟨h1, h3, h2, h6⟩, h4, h5, h7⟩
structure Said (e : Eng) : Prop where
 parts : partsB e = true
 w : weights e.t e.vl e.b = e.w
 fin : e.fin ∈ e.j
 late : ∀ a ∈ e.late, e.now ≤ a.slot
 dup : ∀ i (h : i < e.j.length), e.j[i] ∉ e.j.take i
 j : ∀ c ∈ e.j, 0 ≤ findR e.t c.root
 v : ∀ x ∈ e.vl, x.has = true → 0 ≤ findR e.t x.root
 k : ∀ a ∈ e.k, 0 ≤ findR e.t a.s.root ∧ 0 ≤ findR e.t a.t.root
 more : (moreR e.t e.k e.b e.j).length = e.j.length
 next : nextR e.t e.k e.b e.j e.fin = e.fin
theorem mayE_said {e : Eng} : mayE e = true ↔ Said e := by
 rw [mayE_all, late_ref, lost_ref, nodup_ref]
 constructor
 · rintro ⟨h1, h2, h3, h4, h5, h6, h7, ⟨h8, h9, h10⟩, h11, h12, h13⟩
   refine ⟨?_, h2, h6, h7, h11, h8, h10, h9, h12, h13⟩
   obtain ⟨f1, f2, f3, f4⟩ := fit_spec h1
   unfold partsB
   simp only [Bool.and_eq_true, decide_eq_true_eq]
   exact ⟨f1, f3, f2, h3, h4, f4, h5⟩
 · rintro ⟨h1, h2, h3, h4, h5, h6, h7, h8, h9, h10⟩
   obtain ⟨f1, f2, f3, f4⟩ := parts_fit h1
   exact ⟨f1, h2, f2, f3, f4, h3, h4, ⟨h6, h8, h7⟩, h5, h9, h10⟩
theorem slice_eq27 {l : List Check} {k : Nat} (hk : k ≤ l.length) (K : AV → Prop) : sliceK Tryz.prog 32 (.sl (l.map Check.av) false) none (some (.int .i64 k)) none K = K (.sl ((l.take k).map Check.av) false) := by
 refine propext ⟨fun h => ?_, slice_hi27 hk⟩
 simp only [sliceK, tElem27, boundOf, Int.natCast_nonneg, if_true, Int.toNat_natCast, Nat.zero_le, true_and, List.drop_zero, Bool.false_and] at h
 rw [List.map_take]
 exact h.2.2.2
theorem wsame8x_c (l k : List Int) (hl : l.length ≤ 1000) : Cal Tryz.prog 82 [.sl (l.map uav) false, .sl (k.map uav) false] (.bool (decide (l = k))) := by
 by_cases hlen : l.length = k.length
 · have e0 : decide ((l.length : Int) = (k.length : Int)) = true := dtO
   have ff := e0
   have hR : Tryz.f82.results.toList = [.tmp 4] := rfl
   refine cal_tr Tryz.func82 rfl fun E hE hP => ?_
   refine mW ?_
   refine Tr.loop (fun i : Nat => (⟨[(0, .sl (l.map uav) false), (1, .sl (k.map uav) false), (5, .int .i64 i)], [], 0, []⟩ : S)) (fun i => i ≤ l.length ∧ ∀ j, j < i → l.getD j 0 = k.getD j 0) (fun i => l.length - i) 0 ⟨Nat.zero_le _, fun j hj => absurd hj (Nat.not_lt_zero j)⟩ ?_ ?_
   · exact mK
   · rintro i ⟨hi, hall⟩
     by_cases hlt : i < l.length
     · have e1 : decide ((i : Int) < (l.length : Int)) = true := dtO
       have hn := nth_uav (l := l) hlt
       have hk := nth_uav (l := k) (i := i) (by omega)
       have hw := wN i
       by_cases he : l.getD i 0 = k.getD i 0
       · have hall2 : ∀ j, j < i + 1 → l.getD j 0 = k.getD j 0 := fun j hj => by
          by_cases hji : j = i
          · rw [hji]; exact he
          · exact hall j (by omega)
         have e2 : decide (l.getD i 0 = k.getD i 0) = true := decide_eq_true he
         generalize l.getD i 0 = x at hn e2
         generalize k.getD i 0 = y at hk e2
         have ff := And.intro e1 (And.intro hn (And.intro hk (And.intro hw e2)))
         refine mW ?_
         refine ⟨i + 1, ⟨hlt, hall2⟩, by omega, ?_⟩
         exact mK
       · have e2 : decide (l.getD i 0 = k.getD i 0) = false := decide_eq_false he
         have er : decide (l = k) = false := decide_eq_false fun h => he (by rw [h])
         rw [er]
         generalize l.getD i 0 = x at hn e2
         generalize k.getD i 0 = y at hk e2
         have ff := And.intro e1 (And.intro hn (And.intro hk e2))
         exact mX
     · have e1 : decide ((i : Int) < (l.length : Int)) = false := dfO
       have er : decide (l = k) = true := decide_eq_true (by
        refine List.ext_getElem hlen fun j h1 h2 => ?_
        have := hall j (by omega)
        rw [List.getD_eq_getElem?_getD, List.getD_eq_getElem?_getD, List.getElem?_eq_getElem h1, List.getElem?_eq_getElem h2] at this
        exact this)
       rw [er]
       have ff := e1
       exact mX
 · have e0 : decide ((l.length : Int) = (k.length : Int)) = false := dfO
   have er : decide (l = k) = false := decide_eq_false fun h => hlen (by rw [h])
   rw [er]
   have ff := e0
   have hR : Tryz.f82.results.toList = [.tmp 4] := rfl
   refine cal_tr Tryz.func82 rfl fun E hE hP => ?_
   exact mX
theorem refparts_c (e : Eng) (he : e.few) (hw : e.wf) (ho : inU e.o) : Cal Tryz.prog 106 [e.av] (.bool (partsB e)) := by
 have c1 := refmay_pure e.t he.t
 rw [refmay_eq] at c1
 have c1 := And.intro (en Tryz.func114) (c1)
 have c2 := And.intro (en Tryz.func78) (refsmay_pure e.b (by have := he.b; omega))
 have c3 := refvmay_c e.vl e.o ho
 have c4 := reflmay_c e.late he.late
 have c5 := And.intro (en Tryz.func178) (RLMay_pure e.k (by have := he.k; omega) (fun a ha => (hw.ok.kL a ha).1))
 have el : decide ((e.vl.length : Int) = (e.b.length : Int)) = decide (e.vl.length = e.b.length) := decide_eq_decide.2 (by omega)
 have er : partsB e = (mayB e.t && (mayS e.b && (vmayB e.vl e.o && (lmayA e.late && (lmayB e.k && (decide (e.vl.length = e.b.length) && decide (e.now ≤ 1099511627776))))))) := rfl
 rw [er]
 cases h1 : mayB e.t
 · rw [h1] at c1
   rw [Bool.false_and]
   have hR : Tryz.f106.results.toList = [.tmp 2] := rfl
   refine cal_tr Tryz.func106 rfl fun E hE hP => ?_
   exact mX
 · rw [h1] at c1
   rw [Bool.true_and]
   cases h2 : mayS e.b
   · rw [h2] at c2
     rw [Bool.false_and]
     have hR : Tryz.f106.results.toList = [.tmp 2] := rfl
     refine cal_tr Tryz.func106 rfl fun E hE hP => ?_
     exact mX
   · rw [h2] at c2
     rw [Bool.true_and]
     cases h3 : vmayB e.vl e.o
     · rw [h3] at c3
       rw [Bool.false_and]
       have hR : Tryz.f106.results.toList = [.tmp 2] := rfl
       refine cal_tr Tryz.func106 rfl fun E hE hP => ?_
       exact mX
     · rw [h3] at c3
       rw [Bool.true_and]
       cases h4 : lmayA e.late
       · rw [h4] at c4
         rw [Bool.false_and]
         have hR : Tryz.f106.results.toList = [.tmp 2] := rfl
         refine cal_tr Tryz.func106 rfl fun E hE hP => ?_
         exact mX
       · rw [h4] at c4
         rw [Bool.true_and]
         cases h5 : lmayB e.k
         · rw [h5] at c5
           rw [Bool.false_and]
           have hR : Tryz.f106.results.toList = [.tmp 2] := rfl
           refine cal_tr Tryz.func106 rfl fun E hE hP => ?_
           exact mX
         · rw [h5] at c5
           rw [Bool.true_and]
           cases h6 : decide (e.vl.length = e.b.length)
           · rw [h6] at el
             rw [Bool.false_and]
             have ff := el
             have hR : Tryz.f106.results.toList = [.tmp 2] := rfl
             refine cal_tr Tryz.func106 rfl fun E hE hP => ?_
             exact mX
           · rw [h6] at el
             rw [Bool.true_and]
             have ff := el
             have hR : Tryz.f106.results.toList = [.tmp 2] := rfl
             refine cal_tr Tryz.func106 rfl fun E hE hP => ?_
             exact mX
theorem not_said {e : Eng} (h : ¬ Said e) : mayE e = false := by
 rw [← Bool.not_eq_true, mayE_said]
 exact h
def lateTo (e : Eng) (i : Nat) : Prop := ∀ j (h : j < e.late.length), j < i → e.now ≤ e.late[j].slot
def jTo (e : Eng) (i : Nat) : Prop := ∀ j (h : j < e.j.length), j < i → e.j[j] ∉ e.j.take j ∧ 0 ≤ findR e.t e.j[j].root
def vTo (e : Eng) (i : Nat) : Prop := ∀ j (h : j < e.vl.length), j < i → e.vl[j].has = true → 0 ≤ findR e.t e.vl[j].root
def kTo (e : Eng) (i : Nat) : Prop := ∀ j (h : j < e.k.length), j < i → 0 ≤ findR e.t e.k[j].s.root ∧ 0 ≤ findR e.t e.k[j].t.root
def stMay (e : Eng) (a : Nat) (i : Nat) : S where
 fr := [(1, .ptr 0 [] 0), (a, .int .i64 i)]
 hp := [(0, .var e.av)]
 nx := 1
set_option maxHeartbeats 4000000 in
theorem refmay17_c (e : Eng) (he : e.few) (hwf : e.wf) (ho : inU e.o) : Cal Tryz.prog 48 [e.av] (.bool (mayE e)) := by
 have c1 := refparts_c e he hwf ho
 cases hp : partsB e
 · rw [hp] at c1
   have er := not_said (e := e) fun h => by have := h.parts; rw [hp] at this; cases this
   have ff := er
   have hR : Tryz.f48.results.toList = [.tmp 2] := rfl
   refine cal_tr Tryz.func48 rfl fun E hE hP => ?_
   exact mX
 · rw [hp] at c1
   obtain ⟨hfit, _⟩ := parts_fit hp
   have hts := he.t
   have hbs := he.b
   have c2 := refweights_c e.t e.vl e.o e.b hts ho hwf.ok.b hbs hfit
   have hwl : (weights e.t e.vl e.b).length = e.t.length := weights_len _ _ _
   have c3 := wsame8x_c (weights e.t e.vl e.b) e.w (by omega)
   have c4 := And.intro (en Tryz.func108) (has_pure e.j e.fin (by have := he.j; omega))
   cases hw : decide (weights e.t e.vl e.b = e.w)
   · have er := not_said (e := e) fun h => by have := h.w; exact of_decide_eq_false hw this
     rw [hw] at c3
     have ff := er
     have hR : Tryz.f48.results.toList = [.tmp 2] := rfl
     refine cal_tr Tryz.func48 rfl fun E hE hP => ?_
     exact mX
   · rw [hw] at c3
     cases hf : decide (e.fin ∈ e.j)
     · have er := not_said (e := e) fun h => of_decide_eq_false hf h.fin
       rw [hf] at c4
       have ff := er
       have hR : Tryz.f48.results.toList = [.tmp 2] := rfl
       refine cal_tr Tryz.func48 rfl fun E hE hP => ?_
       exact mX
     · rw [hf] at c4
       have hR : Tryz.f48.results.toList = [.tmp 2] := rfl
       refine cal_tr Tryz.func48 rfl fun E hE hP => ?_
       refine mW ?_
       clear c1 c2 c3 c4
       refine Tr.loop (stMay e 8) (fun i => i ≤ e.late.length ∧ lateTo e i) (fun i => e.late.length - i) 0 ⟨Nat.zero_le _, fun _ _ h => by omega⟩ ?_ ?_
       · exact mK
       · intro i ⟨hi, hall⟩
         unfold stMay
         by_cases hlt : i < e.late.length
         · have e1 : decide ((i : Int) < (e.late.length : Int)) = true := dtO
           have hn := nth_map_lt Att.av e.late i hlt
           have hv := wrap_next (n := i) (by have := he.late; omega)
           cases hs : decide (e.late[i].slot < e.now)
           · have ff := And.intro e1 (And.intro hn (And.intro hv hs))
             refine mW ?_
             refine ⟨i + 1, ⟨hlt, fun j hj hji => ?_⟩, by omega, ?_⟩
             · rcases Nat.lt_or_ge j i with h1 | h1
               · exact hall j hj h1
               · have : j = i := by omega
                 subst this
                 have := of_decide_eq_false hs
                 omega
             · exact mK
           · have er := not_said (e := e) fun h => by
              have h1 := h.late _ (List.getElem_mem hlt)
              have h2 := of_decide_eq_true hs
              omega
             have ff := And.intro e1 (And.intro hn (And.intro hs er))
             exact mX
         · have e1 : decide ((i : Int) < (e.late.length : Int)) = false := dfO
           have hlate : ∀ a ∈ e.late, e.now ≤ a.slot := fun a ha => by
            obtain ⟨j, hj, rfl⟩ := List.mem_iff_getElem.1 ha
            exact hall j hj (by omega)
           have ff := e1
           refine mW ?_
           refine Tr.loop (stMay e 9) (fun i => i ≤ e.j.length ∧ jTo e i) (fun i => e.j.length - i) 0 ⟨Nat.zero_le _, fun _ _ h => by omega⟩ ?_ ?_
           · exact mK
           · intro i ⟨hi, hall⟩
             unfold stMay
             by_cases hlt : i < e.j.length
             · have e1 : decide ((i : Int) < (e.j.length : Int)) = true := dtO
               have hn := nth_map_lt Check.av e.j i hlt
               have hsl := slice_eq27 (l := e.j) (k := i) (by omega)
               have hv := wrap_next (n := i) (by have := he.j; omega)
               have c1 := And.intro (en Tryz.func108) (has_pure (e.j.take i) e.j[i] (by rw [List.length_take]; have := he.j; omega))
               have c2 := And.intro (en Tryz.func50) (reffind_pure e.t e.j[i].root hts)
               cases hd : decide (e.j[i] ∈ e.j.take i)
               · rw [hd] at c1
                 cases hg : decide (findR e.t e.j[i].root < 0)
                 · have ff := And.intro e1 (And.intro hn (And.intro hsl (And.intro hv hg)))
                   refine mW ?_
                   refine ⟨i + 1, ⟨hlt, fun j hj hji => ?_⟩, by omega, ?_⟩
                   · rcases Nat.lt_or_ge j i with h1 | h1
                     · exact hall j hj h1
                     · have : j = i := by omega
                       subst this
                       have := of_decide_eq_false hg
                       exact ⟨of_decide_eq_false hd, by omega⟩
                   · exact mK
                 · have er := not_said (e := e) fun h => by
                    have h1 := h.j _ (List.getElem_mem hlt)
                    have h2 := of_decide_eq_true hg
                    omega
                   have ff := And.intro e1 (And.intro hn (And.intro hsl (And.intro hg er)))
                   exact mX
               · have er := not_said (e := e) fun h => h.dup i hlt (of_decide_eq_true hd)
                 rw [hd] at c1
                 have ff := And.intro e1 (And.intro hn (And.intro hsl er))
                 exact mX
             · have e1 : decide ((i : Int) < (e.j.length : Int)) = false := dfO
               have hdup : ∀ i (h : i < e.j.length), e.j[i] ∉ e.j.take i := fun j hj => (hall j hj (by omega)).1
               have hjf : ∀ c ∈ e.j, 0 ≤ findR e.t c.root := fun c hc => by
                obtain ⟨j, hj, rfl⟩ := List.mem_iff_getElem.1 hc
                exact (hall j hj (by omega)).2
               have ff := e1
               refine mW ?_
               refine Tr.loop (stMay e 11) (fun i => i ≤ e.vl.length ∧ vTo e i) (fun i => e.vl.length - i) 0 ⟨Nat.zero_le _, fun _ _ h => by omega⟩ ?_ ?_
               · exact mK
               · intro i ⟨hi, hall⟩
                 unfold stMay
                 by_cases hlt : i < e.vl.length
                 · have e1 : decide ((i : Int) < (e.vl.length : Int)) = true := dtO
                   have hn := nth_map_lt Latest.av e.vl i hlt
                   have hv := wrap_next (n := i) (by have := he.vl; omega)
                   have c1 := refplace_c e e.vl[i].root hts
                   cases hh : e.vl[i].has
                   · have ff := And.intro e1 (And.intro hn (And.intro hv hh))
                     refine mW ?_
                     refine ⟨i + 1, ⟨hlt, fun j hj hji => ?_⟩, by omega, ?_⟩
                     · rcases Nat.lt_or_ge j i with h1 | h1
                       · exact hall j hj h1
                       · have : j = i := by omega
                         subst this
                         intro g
                         rw [hh] at g
                         cases g
                     · exact mK
                   · cases hg : decide (findR e.t e.vl[i].root < 0)
                     · have ff := And.intro e1 (And.intro hn (And.intro hv (And.intro hh hg)))
                       refine mW ?_
                       refine ⟨i + 1, ⟨hlt, fun j hj hji => ?_⟩, by omega, ?_⟩
                       · rcases Nat.lt_or_ge j i with h1 | h1
                         · exact hall j hj h1
                         · have : j = i := by omega
                           subst this
                           intro _
                           have := of_decide_eq_false hg
                           omega
                       · exact mK
                     · have er := not_said (e := e) fun h => by
                        have h1 := h.v _ (List.getElem_mem hlt) hh
                        have h2 := of_decide_eq_true hg
                        omega
                       have ff := And.intro e1 (And.intro hn (And.intro hh (And.intro hg er)))
                       exact mX
                 · have e1 : decide ((i : Int) < (e.vl.length : Int)) = false := dfO
                   have hvf : ∀ x ∈ e.vl, x.has = true → 0 ≤ findR e.t x.root := fun x hx => by
                    obtain ⟨j, hj, rfl⟩ := List.mem_iff_getElem.1 hx
                    exact hall j hj (by omega)
                   have ff := e1
                   refine mW ?_
                   refine Tr.loop (stMay e 12) (fun i => i ≤ e.k.length ∧ kTo e i) (fun i => e.k.length - i) 0 ⟨Nat.zero_le _, fun _ _ h => by omega⟩ ?_ ?_
                   · exact mK
                   · intro i ⟨hi, hall⟩
                     unfold stMay
                     by_cases hlt : i < e.k.length
                     · have e1 : decide ((i : Int) < (e.k.length : Int)) = true := dtO
                       have hn := nth_map_lt Link.av e.k i hlt
                       have hv := wrap_next (n := i) (by have := he.k; omega)
                       have c1 := refplace_c e e.k[i].s.root hts
                       have c2 := refplace_c e e.k[i].t.root hts
                       cases hg : decide (findR e.t e.k[i].s.root < 0)
                       · cases hh : decide (findR e.t e.k[i].t.root < 0)
                         · have ff := And.intro e1 (And.intro hn (And.intro hv (And.intro hg hh)))
                           refine mW ?_
                           refine ⟨i + 1, ⟨hlt, fun j hj hji => ?_⟩, by omega, ?_⟩
                           · rcases Nat.lt_or_ge j i with h1 | h1
                             · exact hall j hj h1
                             · have : j = i := by omega
                               subst this
                               have h2 := of_decide_eq_false hg
                               have h3 := of_decide_eq_false hh
                               omega
                           · exact mK
                         · have er := not_said (e := e) fun h => by
                            have h1 := h.k _ (List.getElem_mem hlt)
                            have h2 := of_decide_eq_true hh
                            omega
                           have ff := And.intro e1 (And.intro hn (And.intro hg (And.intro hh er)))
                           exact mX
                       · have er := not_said (e := e) fun h => by
                          have h1 := h.k _ (List.getElem_mem hlt)
                          have h2 := of_decide_eq_true hg
                          omega
                         have ff := And.intro e1 (And.intro hn (And.intro hg er))
                         exact mX
                     · have e1 : decide ((i : Int) < (e.k.length : Int)) = false := dfO
                       have hkf : ∀ a ∈ e.k, 0 ≤ findR e.t a.s.root ∧ 0 ≤ findR e.t a.t.root := fun a ha => by
                        obtain ⟨j, hj, rfl⟩ := List.mem_iff_getElem.1 ha
                        exact hall j hj (by omega)
                       have c1 := And.intro (en Tryz.func110) (refmore_pure e.t e.k e.b e.j hts he.k (by omega) he.j hwf.ok.b hwf.ok.kL)
                       have c2 := And.intro (en Tryz.func111) (refnext_pure e.t e.k e.b e.j e.fin hts (by have := he.k; omega) (by omega) (by have := he.j; omega) hwf.ok.b hwf.ok.kL hwf.ok.kC)
                       by_cases hm : (moreR e.t e.k e.b e.j).length = e.j.length
                       · have em : decide (((moreR e.t e.k e.b e.j).length : Int) = (e.j.length : Int)) = true := dtO
                         have er : mayE e = decide (nextR e.t e.k e.b e.j e.fin = e.fin) := by
                          rw [Bool.eq_iff_iff, mayE_said, decide_eq_true_eq]
                          exact ⟨fun h => h.next, fun h => ⟨hp, of_decide_eq_true hw, of_decide_eq_true hf, hlate, hdup, hjf, hvf, hkf, hm, h⟩⟩
                         have ff := And.intro e1 (And.intro em er)
                         exact mX
                       · have em : decide (((moreR e.t e.k e.b e.j).length : Int) = (e.j.length : Int)) = false := dfO
                         have er := not_said (e := e) fun h => hm h.more
                         have ff := And.intro e1 (And.intro em er)
                         exact mX
theorem refof_c (e : Eng) (he : e.few) (hw : e.wf) (ho : inU e.o) (ver : Int) : Cal Tryz.prog 17 [e.av, .int .i64 ver] (ofR e ver).av := by
 have c1 := refmay17_c e he hw ho
 cases hm : mayE e
 · rw [hm] at c1
   have er : ofR e ver = zSnap := by rw [ofR, hm]; rfl
   rw [er]
   have hR : Tryz.f17.results.toList = [.cell 4 40] := rfl
   refine cal_tr Tryz.func17 rfl fun E hE hP => ?_
   exact mX
 · rw [hm] at c1
   have er : ofR e ver = ⟨ver, e.t, (e.t.getD (headE e).toNat zNode).root, justE e, e.fin⟩ := by rw [ofR, hm]; rfl
   rw [er]
   have hj := he.j
   have ht := he.t
   have c2 := And.intro (en Tryz.func49) (refbest_pure e.t e.j e.fin ht (by omega))
   have c3 := And.intro (en Tryz.func50) (reffind_pure e.t e.fin.root ht)
   have c4 := refleads_c e.t (justE e).epoch (finE e) ht
   have c5 := reffrom_c e.t (justE e).root (finE e) ht
   have c6 := And.intro (en Tryz.func52) (refhead_pure e.t e.w (leadsR e.t (justE e).epoch (finE e)) (fromR e.t (justE e).root (finE e)) ht)
   have hr := headE_range hm
   change Cal Tryz.prog 49 _ (justE e).av at c2
   change Cal Tryz.prog 50 _ (.int .i64 (finE e)) at c3
   change Cal Tryz.prog 52 _ (.int .i64 (headE e)) at c6
   generalize headE e = k at c6 hr ⊢
   generalize finE e = fin at c3 c4 c5 c6
   generalize justE e = just at c2 c4 c5 c6 ⊢
   generalize leadsR e.t just.epoch fin = ld at c4 c6
   generalize fromR e.t just.root fin = fr at c5 c6
   obtain ⟨k, rfl⟩ : ∃ n : Nat, k = n := ⟨k.toNat, by omega⟩
   have hnd := nth_node (t := e.t) (k := k) (by omega)
   rw [Int.toNat_natCast]
   have ff := hnd
   have hR : Tryz.f17.results.toList = [.cell 4 40] := rfl
   refine cal_tr Tryz.func17 rfl fun E hE hP => ?_
   refine mW ?_
   first | apply tr_md mixed [224, 0] rfl xE kR | (refine Tr.seq ?_; apply tr_md mixed [224, 0] rfl xE kR)
   intro Q hQ
   refine mS ?_
   iterate 14 ((refine vd2_q rfl ?_); intro r hr; simp only [hnd, go_sem, seval]; subst hr)
   refine vd2_x rfl ?_; intro r hr; simp only [hnd, go_sem, seval]; subst hr
   exact hQ
   exact mX
end Go.Proofs.YtgnidooihignfaaGreatDoor

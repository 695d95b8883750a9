/- Which blocks may be a head: children, leaves. -/
import Derived.Test.YtgnidooihignfaaGreatDoorP5
set_option linter.unusedSimpArgs false
set_option maxRecDepth 10000
namespace Go.Proofs.YtgnidooihignfaaGreatDoor
open Go Go.Ab
def someL (p : Int → Bool) (n : Nat) : List Int := ((List.range n).filter fun (j : Nat) => p (j : Int)).map fun (j : Nat) => (j : Int)
theorem someL_next (p : Int → Bool) (n : Nat) : someL p (n + 1) = someL p n ++ (if p (n : Int) then [(n : Int)] else []) := by
 unfold someL
 rw [List.range_succ, List.filter_append, List.map_append]
 cases h : p (n : Int) <;> simp [h]
theorem someL_len (p : Int → Bool) (n : Nat) : (someL p n).length ≤ n := by
 unfold someL
 rw [List.length_map]
 exact Nat.le_trans (List.length_filter_le _ _) (by simp)
def parB (t : List Node) (i : Int) (j : Int) : Bool := decide (parI t j = i)
def kidsR (t : List Node) (i : Int) : List Int := if isB t [i] then someL (parB t i) t.length else []
theorem parI_nat (t : List Node) (k : Nat) : parI t k = (t.getD k zNode).parent := by unfold parI; rw [Int.toNat_natCast]
theorem kids_c (t : List Node) (i : Int) : Cal Tryz.prog 40 [tav t, .int .i64 i] (.sl ((kidsR t i).map iav) false) := by
 have c1 : Cal Tryz.prog 99 [tav t, .sl [.int .i64 i] false] (.bool (isB t [i])) := And.intro (en Tryz.func99) (is_pure t [i] (by simp))
 cases hb : isB t [i]
 · rw [hb] at c1
   have er : kidsR t i = [] := by rw [kidsR, hb]; rfl
   have ff := er
   have hR : Tryz.f40.results.toList = [.tmp 4] := rfl
   refine cal_tr Tryz.func40 rfl fun E hE hP => ?_
   exact mX
 · rw [hb] at c1
   have er : kidsR t i = someL (parB t i) t.length := by rw [kidsR, hb]; rfl
   have hml := may_len (isB_spec hb).1
   rw [er]
   have hR : Tryz.f40.results.toList = [.tmp 4] := rfl
   refine cal_tr Tryz.func40 rfl fun E hE hP => ?_
   refine mW ?_
   refine Tr.wk (Wk.nil 5 1 rfl) ?_
   refine Tr.loop (fun k : Nat => (⟨[(1, .int .i64 i), (2, .ptr 0 [] 0), (5, .ms 1 1 (someL (parB t i) k).length), (14, .sl (t.map Node.av) false), (15, .int .i64 t.length), (16, .int .i64 k)], [(0, .var (tav t)), (1, .row 1 ((someL (parB t i) k).map iav))], 2, []⟩ : S)) (fun k => k ≤ t.length) (fun k => t.length - k) 0 (Nat.zero_le _) ?_ ?_
   · refine wk_ren (fun | 1 => 192 | n => n) mB mB rfl rfl rfl
   · intro k hk
     by_cases hlt : k < t.length
     · have e1 : decide ((k : Int) < (t.length : Int)) = true := dtO
       have hn := nth_node hlt
       have hw := wN k
       have hL := someL_next (parB t i) k
       have hLl := someL_len (parB t i) k
       have hp : parB t i (k : Int) = decide ((t.getD k zNode).parent = i) := by rw [parB, parI_nat]
       rw [hp] at hL
       generalize t.getD k zNode = n at hn hL
       generalize someL (parB t i) k = L at hL hLl
       cases hd : decide (n.parent = i)
       · rw [hd, if_neg (by simp), List.append_nil] at hL
         have ff := And.intro e1 (And.intro hn (And.intro hw hd))
         refine mW ?_
         refine ⟨k + 1, hlt, by omega, ?_⟩
         rw [hL]
         exact mK
       · rw [hd, if_pos rfl] at hL
         have ff := And.intro e1 (And.intro hn (And.intro hw hd))
         refine mW ?_
         refine ⟨k + 1, hlt, by omega, ?_⟩
         rw [hL, List.length_append, List.length_singleton, List.map_append]
         refine wk_ren (fun | 1 => 226 | n => n) mB mB rfl rfl rfl
     · have e1 : decide ((k : Int) < (t.length : Int)) = false := dfO
       have hil : k = t.length := by omega
       subst hil
       have ff := e1
       exact mX
def leafB (t : List Node) (just fin i : Int) : Bool := aboveR t fin i && (decide ((kidsR t i).length = 0) && decide (just ≤ (t.getD i.toNat zNode).just))
theorem leaf_c (t : List Node) (just fin i : Int) : Cal Tryz.prog 105 [tav t, .int .u64 just, .int .i64 fin, .int .i64 i] (.bool (leafB t just fin i)) := by
 have c1 := And.intro (en Tryz.func39) (above_pure t fin i)
 have c2 := kids_c t i
 cases h1 : aboveR t fin i
 · rw [h1] at c1
   have er : leafB t just fin i = false := by simp [leafB, h1]
   have ff := er
   have hR : Tryz.f105.results.toList = [.tmp 8] := rfl
   refine cal_tr Tryz.func105 rfl fun E hE hP => ?_
   exact mX
 · rw [h1] at c1
   have hs := above_spec.1 h1
   obtain ⟨k, rfl⟩ : ∃ k : Nat, i = k := ⟨i.toNat, by omega⟩
   have hn := nth_node (t := t) (k := k) (by omega)
   by_cases h2 : (kidsR t k).length = 0
   · have e2 : decide (((kidsR t k).length : Int) = 0) = true := dtO
     have er : leafB t just fin k = decide (just ≤ (t.getD k zNode).just) := by simp [leafB, h1, h2]
     have ff := And.intro e2 (And.intro hn er)
     have hR : Tryz.f105.results.toList = [.tmp 8] := rfl
     refine cal_tr Tryz.func105 rfl fun E hE hP => ?_
     exact mX
   · have e2 : decide (((kidsR t k).length : Int) = 0) = false := dfO
     have er : leafB t just fin k = false := by simp [leafB, h1, h2]
     have ff := And.intro e2 er
     have hR : Tryz.f105.results.toList = [.tmp 8] := rfl
     refine cal_tr Tryz.func105 rfl fun E hE hP => ?_
     exact mX
theorem leads1_c (t : List Node) (just fin i : Int) : Cal Tryz.prog 104 [.int .i64 i, .ref (tav t), .ref (.int .u64 just), .ref (.int .i64 fin)] (.bool (leafB t just fin i)) := by
 have c1 := leaf_c t just fin i
 have hR : Tryz.f104.results.toList = [.tmp 5] := rfl
 refine cal_tr Tryz.func104 rfl fun E hE hP => ?_
 exact mX
theorem tsame_c (t k : List Node) (hl : t.length ≤ 1000) : Cal Tryz.prog 55 [tav t, tav k] (.bool (decide (t = k))) := by
 have c1 := nequal_c t k hl
 have hR : Tryz.f55.results.toList = [.tmp 4] := rfl
 refine cal_tr Tryz.func55 rfl fun E hE hP => ?_
 exact mX
def fromR (t : List Node) (r : Root) (fin : Int) : Int := if aboveR t fin (findR t r) then findR t r else if aboveR t fin fin then fin else -1
theorem from_c (t : List Node) (r : Root) (fin : Int) : Cal Tryz.prog 46 [tav t, .root r, .int .i64 fin] (.int .i64 (fromR t r fin)) := by
 have c1 := And.intro (en Tryz.func27) (find_pure t r)
 have c2 := And.intro (en Tryz.func39) (above_pure t fin (findR t r))
 have c3 := And.intro (en Tryz.func39) (above_pure t fin fin)
 cases h1 : aboveR t fin (findR t r)
 · rw [h1] at c2
   cases h2 : aboveR t fin fin
   · rw [h2] at c3
     have er : fromR t r fin = -1 := by simp [fromR, h1, h2]
     have ff := er
     have hR : Tryz.f46.results.toList = [.tmp 6] := rfl
     refine cal_tr Tryz.func46 rfl fun E hE hP => ?_
     exact mX
   · rw [h2] at c3
     have er : fromR t r fin = fin := by simp [fromR, h1, h2]
     have ff := er
     have hR : Tryz.f46.results.toList = [.tmp 6] := rfl
     refine cal_tr Tryz.func46 rfl fun E hE hP => ?_
     exact mX
 · rw [h1] at c2
   have er : fromR t r fin = findR t r := by simp [fromR, h1]
   have ff := er
   have hR : Tryz.f46.results.toList = [.tmp 6] := rfl
   refine cal_tr Tryz.func46 rfl fun E hE hP => ?_
   exact mX
theorem some_c (t : List Node) (just fin : Int) (ht : t.length ≤ 100) : Cal Tryz.prog 103 [.sl (t.map Node.av) false, .fn (.func 104) [] [.ref (tav t), .ref (.int .u64 just), .ref (.int .i64 fin)]] (.sl ((someL (leafB t just fin) t.length).map iav) false) := by
 have hR : Tryz.f103.results.toList = [.tmp 4] := rfl
 refine cal_tr Tryz.func103 rfl fun E hE hP => ?_
 refine mW ?_
 refine Tr.wk (Wk.nil 5 1 rfl) ?_
 refine Tr.loop (fun k : Nat => (⟨[(1, .fn (.func 104) [] [.ref (tav t), .ref (.int .u64 just), .ref (.int .i64 fin)]), (5, .ms 0 1 (someL (leafB t just fin) k).length), (8, .int .i64 t.length), (9, .int .i64 k)], [(0, .row 1 ((someL (leafB t just fin) k).map iav))], 1, []⟩ : S)) (fun k => k ≤ t.length) (fun k => t.length - k) 0 (Nat.zero_le _) ?_ ?_
 · refine wk_ren (fun | 0 => 80 | n => n) mB mB rfl rfl rfl
 · intro k hk
   by_cases hlt : k < t.length
   · have e1 : decide ((k : Int) < (t.length : Int)) = true := dtO
     have hw := wN k
     have hL := someL_next (leafB t just fin) k
     have hLl := someL_len (leafB t just fin) k
     have c1 := leads1_c t just fin k
     generalize someL (leafB t just fin) k = L at hL hLl
     cases hd : leafB t just fin k
     · rw [hd, if_neg (by simp), List.append_nil] at hL
       rw [hd] at c1
       have ff := And.intro e1 hw
       refine mW ?_
       refine ⟨k + 1, hlt, by omega, ?_⟩
       rw [hL]
       exact mK
     · rw [hd, if_pos rfl] at hL
       rw [hd] at c1
       have ff := And.intro e1 hw
       refine mW ?_
       refine ⟨k + 1, hlt, by omega, ?_⟩
       rw [hL, List.length_append, List.length_singleton, List.map_append]
       refine wk_ren (fun | 0 => 145 | n => n) mB mB rfl rfl rfl
   · have e1 : decide ((k : Int) < (t.length : Int)) = false := dfO
     have hil : k = t.length := by omega
     subst hil
     have ff := e1
     exact mX
def markN (t : List Node) : Nat → Int → List Bool → List Bool
 | 0, _, out => out
 | n + 1, a, out => if a < 0 then out else if out.getD a.toNat false then out else markN t n (parI t a) (out.set a.toNat true)
def markF (t : List Node) (a : Int) (out : List Bool) : List Bool := markN t (a + 1).toNat a out
def leadsTo (t : List Node) (ls : List Int) (out : List Bool) : List Bool := ls.foldl (fun out a => markF t a out) out
def leadsR (t : List Node) (just fin : Int) : List Bool := if mayB t then leadsTo t (someL (leafB t just fin) t.length) (List.replicate t.length false) else []
theorem markN_none (t : List Node) (n : Nat) (out : List Bool) : markN t n (-1) out = out := by cases n <;> simp [markN]
theorem markN_fuel {t : List Node} (hm : mayB t = true) : ∀ (m m' : Nat) (a : Int) (out : List Bool), 0 ≤ a → a < t.length → a < m → a < m' → markN t m a out = markN t m' a out
 | 0, _, a, _, h0, _, h1, _ => by omega
 | _, 0, a, _, h0, _, _, h1 => by omega
 | m + 1, m' + 1, a, out, h0, h1, h2, h3 => by
   simp only [markN]
   split
   · rfl
   · split
     · rfl
     · rcases par_range hm h0 h1 with h | ⟨h4, h5⟩
       · rw [h, markN_none, markN_none]
       · exact markN_fuel hm m m' _ _ h4 (by omega) (by omega) (by omega)
theorem markF_step {t : List Node} (hm : mayB t = true) {a : Int} {out : List Bool} (h0 : 0 ≤ a) (h1 : a < t.length) : markF t a out = if out.getD a.toNat false then out else markF t (parI t a) (out.set a.toNat true) := by
 obtain ⟨m, hmm⟩ : ∃ m, (a + 1).toNat = m + 1 := ⟨a.toNat, by omega⟩
 unfold markF
 rw [hmm, markN, if_neg (by omega)]
 split
 · rfl
 · rcases par_range hm h0 h1 with h | ⟨h4, h5⟩
   · rw [h, markN_none, markN_none]
   · exact markN_fuel hm _ _ _ _ h4 (by omega) (by omega) (by omega)
theorem markN_len (t : List Node) : ∀ (n : Nat) (a : Int) (out : List Bool), (markN t n a out).length = out.length
 | 0, _, _ => rfl
 | n + 1, a, out => by
   unfold markN
   split
   · rfl
   · split
     · rfl
     · rw [markN_len t n, List.length_set]
theorem leadsTo_len (t : List Node) : ∀ (ls : List Int) (out : List Bool), (leadsTo t ls out).length = out.length
 | [], _ => rfl
 | a :: ls, out => by
   unfold leadsTo
   rw [List.foldl_cons]
   have := leadsTo_len t ls (markF t a out)
   unfold leadsTo at this
   rw [this, markF, markN_len]
def bools (l : List Bool) : AV := .sl (l.map AV.bool) false
attribute [go_sem] bools
theorem leads_c (t : List Node) (just fin : Int) : Cal Tryz.prog 45 [tav t, .int .u64 just, .int .i64 fin] (bools (leadsR t just fin)) := by
 have c1 := And.intro (en Tryz.func71) (may_pure t)
 cases hm : mayB t
 · rw [hm] at c1
   have er : leadsR t just fin = [] := by simp [leadsR, hm]
   have ff := er
   have hR : Tryz.f45.results.toList = [.tmp 6] := rfl
   refine cal_tr Tryz.func45 rfl fun E hE hP => ?_
   refine mr ?_
   refine Tr.scope ?_
   refine mW ?_
   refine Tr.ret ?_
   simp only [thenK, noGoto]
   simp only [ff, hR, go_sem, seval]
 · rw [hm] at c1
   have hml := may_len hm
   have er : leadsR t just fin = leadsTo t (someL (leafB t just fin) t.length) (List.replicate t.length false) := by simp [leadsR, hm]
   have c2 := some_c t just fin (by omega)
   have hll := someL_len (leafB t just fin) t.length
   have hra : ∀ a ∈ someL (leafB t just fin) t.length, 0 ≤ a ∧ a < t.length := fun a ha => by
    unfold someL at ha
    obtain ⟨j, hj, rfl⟩ := List.mem_map.1 ha
    have := List.mem_range.1 (List.mem_filter.1 hj).1
    omega
   generalize someL (leafB t just fin) t.length = L at c2 hll hra er
   have hrep : List.replicate t.length (AV.bool false) = (List.replicate t.length false).map AV.bool := List.map_replicate.symm
   have ff := hrep
   have hR : Tryz.f45.results.toList = [.tmp 6] := rfl
   refine cal_tr Tryz.func45 rfl fun E hE hP => ?_
   refine mr ?_
   refine Tr.wk (Wk.frz [0, 16, 32]) ?_
   simp only [AV.frz, AV.frzL, List.map_cons, List.map_nil, go_sem, seval]
   refine Tr.scope ?_
   refine mW ?_
   refine Tr.seq (Tr.label ?_)
   simp only [thenK]
   refine mW ?_
   refine Tr.loop (fun i : Nat => (⟨[(3, .ref (tav t)), (7, .ms 0 1 t.length), (20, .sl (L.map iav) false), (21, .int .i64 L.length), (22, .int .i64 i)], [(0, .row 1 ((leadsTo t (L.take i) (List.replicate t.length false)).map AV.bool))], 1, []⟩ : S)) (fun i => i ≤ L.length) (fun i => L.length - i) 0 (Nat.zero_le _) ?_ ?_
   · refine wk_ren (fun | 0 => 160 | n => n) mB mB rfl rfl rfl
   · intro i hi
     by_cases hlt : i < L.length
     · have e1 : decide ((i : Int) < (L.length : Int)) = true := dtO
       have hn := nth_map_lt iav L i hlt
       have hw := wN i
       have hnx : leadsTo t (L.take (i + 1)) (List.replicate t.length false) = markF t L[i] (leadsTo t (L.take i) (List.replicate t.length false)) := by
        unfold leadsTo
        rw [List.take_add_one, List.getElem?_eq_getElem hlt, Option.toList_some, List.foldl_append]
        rfl
       have hol : (leadsTo t (L.take i) (List.replicate t.length false)).length = t.length := by rw [leadsTo_len, List.length_replicate]
       have har := hra L[i] (List.getElem_mem hlt)
       generalize leadsTo t (L.take i) (List.replicate t.length false) = out0 at hnx hol
       generalize L[i] = a0 at hn hnx har
       have ff := And.intro e1 hn
       refine mW ?_
       refine Tr.loop (fun p : Int × List Bool => (⟨[(3, .ref (tav t)), (7, .ms 0 1 t.length), (20, .sl (L.map iav) false), (21, .int .i64 L.length), (22, .int .i64 i), (9, .int .i64 p.1)], [(0, .row 1 (p.2.map AV.bool))], 1, []⟩ : S)) (fun p => (p.1 = -1 ∨ (0 ≤ p.1 ∧ p.1 < t.length)) ∧ p.2.length = t.length ∧ markF t p.1 p.2 = markF t a0 out0) (fun p => (p.1 + 1).toNat) (a0, out0) ⟨Or.inr har, hol, rfl⟩ ?_ ?_
       · exact mK
       · rintro ⟨a, out⟩ ⟨hr, hl, hmk⟩
         simp only at hr hl hmk
         rcases hr with rfl | ⟨h0, h1⟩
         · have e2 : decide ((0 : Int) ≤ -1) = false := rfl
           have hme : markF t (-1) out = out := by unfold markF; exact markN_none _ _ _
           rw [hme] at hmk
           have ff := And.intro e2 hw
           refine mW ?_
           refine ⟨i + 1, hlt, by omega, ?_⟩
           rw [hnx, ← hmk]
           exact mK
         · obtain ⟨k, rfl⟩ : ∃ k : Nat, a = k := ⟨a.toNat, by omega⟩
           have e2 : decide (0 ≤ (k : Int)) = true := decide_eq_true h0
           have hkt : k < t.length := by omega
           have hst := markF_step hm (out := out) h0 h1
           rw [Int.toNat_natCast] at hst
           have hgo : (out.map AV.bool)[k]? = some (.bool (out.getD k false)) := by simp [List.getD_eq_getElem?_getD, show k < out.length by omega]
           have hset : (out.map AV.bool).set k (.bool true) = (out.set k true).map AV.bool := by rw [List.map_set]
           have hnd := nth_node hkt
           have hpi := parI_nat t k
           have hpr := par_range hm h0 h1
           generalize t.getD k zNode = nd at hnd hpi
           cases ho : out.getD k false
           · rw [ho] at hgo
             rw [ho, if_neg (by simp)] at hst
             have ff := And.intro e2 (And.intro hgo (And.intro hset (And.intro hnd Nat.mul_one)))
             refine mW ?_
             refine ⟨(nd.parent, out.set k true), ⟨by simp only; omega, by rw [List.length_set]; exact hl, by rw [← hmk, hst, hpi]⟩, by simp only; omega, ?_⟩
             exact mK
           · rw [ho] at hgo
             rw [ho, if_pos rfl] at hst
             rw [hst] at hmk
             have ff := And.intro e2 (And.intro hgo (And.intro hw Nat.mul_one))
             refine mW ?_
             refine ⟨i + 1, hlt, by omega, ?_⟩
             rw [hnx, ← hmk]
             exact mK
     · have e1 : decide ((i : Int) < (L.length : Int)) = false := dfO
       have hil : i = L.length := by omega
       subst hil
       have hlen : (leadsTo t L (List.replicate t.length false)).length = t.length := by rw [leadsTo_len, List.length_replicate]
       rw [List.take_length, ← er]
       rw [← er] at hlen
       have ff := And.intro e1 hlen
       refine mW ?_
       refine Tr.ret ?_
       simp only [thenK, noGoto]
       simp only [ff, hR, go_sem, seval]
def slotI (t : List Node) (a : Int) : Int := (t.getD a.toNat zNode).slot
def atN (t : List Node) (s : Int) : Nat → Int → Int
 | 0, _ => -1
 | n + 1, a => if a = -1 then -1 else if slotI t a ≤ s then a else atN t s n (parI t a)
def atF (t : List Node) (s a : Int) : Int := atN t s (a + 1).toNat a
def atR (t : List Node) (i s : Int) : Int := if isB t [i] then atF t s i else -1
theorem atN_none (t : List Node) (s : Int) (m : Nat) : atN t s m (-1) = -1 := by cases m <;> simp [atN]
theorem atN_fuel {t : List Node} (hm : mayB t = true) (s : Int) : ∀ (m m' : Nat) (a : Int), 0 ≤ a → a < t.length → a < m → a < m' → atN t s m a = atN t s m' a
 | 0, _, a, h0, _, h1, _ => by omega
 | _, 0, a, h0, _, _, h1 => by omega
 | m + 1, m' + 1, a, h0, h1, h2, h3 => by
   simp only [atN]
   split
   · rfl
   · split
     · rfl
     · rcases par_range hm h0 h1 with h | ⟨h4, h5⟩
       · rw [h, atN_none, atN_none]
       · exact atN_fuel hm s m m' _ h4 (by omega) (by omega) (by omega)
theorem atF_step {t : List Node} (hm : mayB t = true) {s a : Int} (h0 : 0 ≤ a) (h1 : a < t.length) : atF t s a = if slotI t a ≤ s then a else atF t s (parI t a) := by
 obtain ⟨m, hmm⟩ : ∃ m, (a + 1).toNat = m + 1 := ⟨a.toNat, by omega⟩
 unfold atF
 rw [hmm, atN, if_neg (by omega)]
 split
 · rfl
 · rcases par_range hm h0 h1 with h | ⟨h4, h5⟩
   · rw [h, atN_none, atN_none]
   · exact atN_fuel hm s _ _ _ h4 (by omega) (by omega) (by omega)
def stAt (t : List Node) (s k : Int) : S where
 fr := [(3, .ptr 0 [] 0), (5, .ptr 1 [] 0), (6, .ptr 2 [] 0), (15, .fn (.func 171) [] [.ptr 3 [] 0, .ptr 4 [] 0])]
 hp := [(0, .var (tav t)), (1, .var (.int .u64 s)), (2, .var (.int .i64 0)), (3, .var (.int .i64 k)), (4, .var (tav t))]
 nx := 5
def stAu (t : List Node) (s : Int) (l : Nat) (b : LB) (a : Int) : S where
 fr := [(0, .fn (.yield l) [] []), (1, .ptr 3 [] 0), (2, .ptr 4 [] 0)]
 hp := [(6, .lp b .ready none), (5, .dfr), (0, .var (tav t)), (1, .var (.int .u64 s)), (2, .var (.int .i64 0)), (3, .var (.int .i64 a)), (4, .var (tav t))]
 nx := 7
theorem at_c (t : List Node) (k s : Int) : Cal Tryz.prog 42 [tav t, .int .i64 k, .int .u64 s] (.int .i64 (atR t k s)) := by
 refine ⟨enters_of Tryz.func42 kR rfl, ?_⟩
 have c1 : Cal Tryz.prog 99 [tav t, .sl [.int .i64 k] false] (.bool (isB t [k])) := And.intro (en Tryz.func99) (is_pure t [k] (by simp))
 refine pure_of_trM Tryz.func42 rfl nb rfl fun E hE hP => ?_
 cases hb : isB t [k]
 · rw [hb] at c1
   have er : atR t k s = -1 := by simp [atR, hb]
   rw [er]
   refine mW ?_
   refine Tr.ret ?_
   refine ⟨List.nodup_nil, fun o ho => (by cases ho), ?_⟩
   simp only [drop_none,  Tryz.f42, go_sem, seval]
 · rw [hb] at c1
   obtain ⟨hm, hk⟩ := isB_spec hb
   have er : atR t k s = atF t s k := by simp [atR, hb]
   have o1 := And.intro (en Tryz.func100) (tline_own t k)
   refine mW ?_
   refine Tr.wk (s' := stAt t s k) ?_ ?_
   · refine wk_ren (fun | 1 => 16 | 2 => 32 | 3 => 160 | 4 => 161 | n => n) mB mB rfl rfl rfl
   · unfold stAt
     refine Tr.range (fid := 171) (fn := Tryz.f171) rfl (en Tryz.func171) Tryz.func171 rfl rfl nb ?_
     have hE0 := hE
     intro E' l b hE hP' sd
     have hP : E'.pn = 7 := hP'
     rw [er]
     refine mBk ?_
     refine Tr.loop (stAu t s l b) (fun a => (a = -1 ∨ (0 ≤ a ∧ a < t.length)) ∧ atF t s a = atF t s k) (fun a => (a + 1).toNat) k ⟨.inr hk, rfl⟩ ?_ ?_
     · exact mK
     · rintro a ⟨ha, habove⟩
       unfold stAu
       rcases ha with ha | ⟨ha0, ha1⟩
       · subst ha
         have er2 : atF t s k = -1 := by rw [← habove]; rfl
         first | refine tr_seq_y 5 sd xE rfl rfl rfl ?_ | (refine Tr.seq ?_; refine tr_seq_y 5 sd xE rfl rfl rfl ?_)
         refine mL ?_
         refine mG ?_
         refine vc_nil ?_
         refine gy_no rfl rfl rfl ?_
         refine mS ?_
         refine mO ?_
         refine vc_nil ?_
         refine mNo ?_
         refine Tr.exit ?_
         refine mU ?_
         have hE := hE0
         refine ⟨rfl, _, _, rfl, by simp, rfl, ?_⟩
         simp only [goOn]
         simp only [HP.del, fB, go_sem, seval]
         rw [er2]
         refine mr ?_
         refine Tr.ret ?_
         refine ⟨by simp, fun o ho => by rw [List.mem_singleton.1 ho]; rfl, ?_⟩
         simp only [HP.drop, List.contains_cons, List.contains_nil, Bool.or_false, Bool.false_or, Bool.or_true, fB,  Tryz.f42, go_sem, seval]
       · have hstep := atF_step hm (s := s) ha0 ha1
         have hpr := par_range hm ha0 ha1
         obtain ⟨j, rfl⟩ : ∃ j : Nat, a = j := ⟨a.toNat, by omega⟩
         have ej : ((j : Int) != -1) = true := by rw [int_bne, dfO]; rfl
         have hn := nth_node (t := t) (k := j) (by omega)
         have hsl : slotI t j = (t.getD j zNode).slot := by unfold slotI; rw [Int.toNat_natCast]
         have hpar : (t.getD j zNode).parent = parI t j := by unfold parI; rw [Int.toNat_natCast]
         rw [hsl] at hstep
         generalize t.getD j zNode = nd at hn hstep hpar
         first | refine tr_seq_y 5 sd xE rfl rfl rfl ?_ | (refine Tr.seq ?_; refine tr_seq_y 5 sd xE rfl rfl rfl ?_)
         refine mL ?_
         repeat (first | (refine vc_op rfl ?_; simp only [ej, go_sem, seval]) | (refine vc_go rfl rfl rfl ?_; simp only [ej, go_sem, seval]) | (refine vc_no rfl rfl rfl ?_; simp only [ej, go_sem, seval]) | (refine vc_skip rfl rfl rfl ?_; simp only [ej, go_sem, seval]))
         refine vc_nil ?_
         have hE1 := hE
         have hP1 := hP
         refine gy_if rfl rfl rfl ?_
         refine ⟨_, rfl, rfl, rfl, rfl, by rw [hE0]; rfl, rfl, ?_⟩
         intro Er hE hP
         rw [hE0] at hE
         refine mZ ?_
         refine mRd ?_
         refine ⟨rfl, ?_⟩
         refine mS ?_
         refine mBk ?_
         by_cases h1 : nd.slot ≤ s
         · have e1 : decide (nd.slot ≤ s) = true := decide_eq_true h1
           have er2 : atF t s k = j := by rw [← habove, hstep, if_pos h1]
           have ff := And.intro hn e1
           refine mW ?_
           refine Tr.ret ?_
           refine mU ?_
           refine ⟨rfl, ?_⟩
           refine mS ?_
           refine mO ?_
           refine vc_nil ?_
           have hE := hE1
           have hP := hP1
           refine mNo ?_
           refine Tr.exit ?_
           refine mU ?_
           have hE := hE0
           refine ⟨rfl, _, _, rfl, by simp, rfl, ?_⟩
           simp only [goOn]
           simp only [HP.del, fB, go_sem, seval]
           rw [er2]
           refine ⟨by simp, fun o ho => by rw [List.mem_singleton.1 ho]; rfl, ?_⟩
           simp only [HP.drop, List.contains_cons, List.contains_nil, Bool.or_false, Bool.false_or, Bool.or_true, fB,  Tryz.f42, go_sem, seval]
         · have e1 : decide (nd.slot ≤ s) = false := decide_eq_false h1
           rw [if_neg h1] at hstep
           have ff := And.intro hn e1
           refine mW ?_
           refine ⟨rfl, ?_⟩
           refine mS ?_
           refine mO ?_
           refine vc_nil ?_
           have hE := hE1
           have hP := hP1
           refine mYes ?_
           refine mT ?_
           refine mBk ?_
           refine mT ?_
           have ff := And.intro hn hpar
           refine mr ?_
           refine mU ?_
           refine ⟨parI t j, ⟨by omega, by rw [← hstep]; exact habove⟩, by omega, ?_⟩
           exact mK
structure Snap where
 ver : Int
 t : List Node
 head : Root
 just : Check
 fin : Check
 deriving DecidableEq
def Snap.av (s : Snap) : AV := .st [.int .i64 s.ver, tav s.t, .root s.head, s.just.av, s.fin.av]
attribute [go_sem] Snap.av
structure Ask where
 kind : Int
 vals : List UInt8
 a : Root
 b : Root
 slot : Int
 deriving DecidableEq
def Ask.av (c : Ask) : AV := .st [.int .i64 c.kind, .sl (c.vals.map bav) false, .root c.a, .root c.b, .int .u64 c.slot]
attribute [go_sem] Ask.av
theorem snote_c (s : Snap) : Cal Tryz.prog 23 [s.av] (Note.av ⟨s.ver, s.head, s.fin⟩) := by
 have hR : Tryz.f23.results.toList = [.cell 2 54] := rfl
 refine cal_tr Tryz.func23 rfl fun E hE hP => ?_
 exact mX
@[go_sem] theorem sbuild51_0 (e : Int) (K : AV → Prop) : buildK Tryz.prog 51 [(0, .int .i64 e)] K = K (Resp.mk e zroot false ⟨0, zroot⟩).av := build_struct Tryz.underlying51 stZero51 rfl kR rfl K
@[go_sem] theorem sbuild51_1 (r : Root) (K : AV → Prop) : buildK Tryz.prog 51 [(1, .root r)] K = K (Resp.mk 0 r false ⟨0, zroot⟩).av := build_struct Tryz.underlying51 stZero51 rfl kR rfl K
@[go_sem] theorem sbuild51_2 (b : Bool) (K : AV → Prop) : buildK Tryz.prog 51 [(2, .bool b)] K = K (Resp.mk 0 zroot b ⟨0, zroot⟩).av := build_struct Tryz.underlying51 stZero51 rfl kR rfl K
@[go_sem] theorem sbuild51_3 (c : Check) (K : AV → Prop) : buildK Tryz.prog 51 [(3, c.av)] K = K (Resp.mk 0 zroot false c).av := build_struct Tryz.underlying51 stZero51 rfl kR rfl K
def failR (e : Int) : Resp := ⟨e, zroot, false, ⟨0, zroot⟩⟩
theorem fail_c (e : Int) : Cal Tryz.prog 57 [.int .i64 e] (failR e).av := by
 have hR : Tryz.f57.results.toList = [.cell 2 51] := rfl
 refine cal_tr Tryz.func57 rfl fun E hE hP => ?_
 exact mX
theorem ssame_c (s k : Snap) (hl : s.t.length ≤ 1000) : Cal Tryz.prog 20 [s.av, k.av] (.bool (decide (s.ver = k.ver) && decide (s.head = k.head) && decide (s.just = k.just) && decide (s.fin = k.fin) && decide (s.t = k.t))) := by
 have c1 := tsame_c s.t k.t hl
 cases h1 : decide (s.ver = k.ver) <;> cases h2 : decide (s.head = k.head) <;> cases h3 : decide (s.just = k.just) <;> cases h4 : decide (s.fin = k.fin) <;> simp only [Bool.false_and, Bool.true_and]
 all_goals
  have hR : Tryz.f20.results.toList = [.tmp 4] := rfl
  refine cal_tr Tryz.func20 rfl fun E hE hP => ?_
  have ff := And.intro h1 (And.intro h2 (And.intro h3 h4))
  exact mX
def smayR (s : Snap) : Bool := aboveR s.t (findR s.t s.fin.root) (findR s.t s.head) && aboveR s.t (findR s.t s.fin.root) (findR s.t s.just.root)
theorem smay_c (s : Snap) : Cal Tryz.prog 19 [s.av] (.bool (smayR s)) := by
 have c1 := And.intro (en Tryz.func27) (find_pure s.t s.fin.root)
 have c2 := And.intro (en Tryz.func27) (find_pure s.t s.head)
 have c3 := And.intro (en Tryz.func27) (find_pure s.t s.just.root)
 have c4 := And.intro (en Tryz.func39) (above_pure s.t (findR s.t s.fin.root) (findR s.t s.head))
 have c5 := And.intro (en Tryz.func39) (above_pure s.t (findR s.t s.fin.root) (findR s.t s.just.root))
 cases h1 : aboveR s.t (findR s.t s.fin.root) (findR s.t s.head)
 · have er : smayR s = false := by rw [smayR, h1, Bool.false_and]
   rw [er]
   rw [h1] at c4
   have hR : Tryz.f19.results.toList = [.tmp 2] := rfl
   refine cal_tr Tryz.func19 rfl fun E hE hP => ?_
   exact mX
 · have er : smayR s = aboveR s.t (findR s.t s.fin.root) (findR s.t s.just.root) := by rw [smayR, h1, Bool.true_and]
   rw [er]
   rw [h1] at c4
   have hR : Tryz.f19.results.toList = [.tmp 2] := rfl
   refine cal_tr Tryz.func19 rfl fun E hE hP => ?_
   exact mX
theorem ans1_c (s : Snap) : Cal Tryz.prog 119 [.ref s.av] (Resp.mk 0 s.head false ⟨0, zroot⟩).av := by
 have hR : Tryz.f119.results.toList = [.cell 1 51] := rfl
 refine cal_tr Tryz.func119 rfl fun E hE hP => ?_
 exact mX
theorem ans2_c (s : Snap) : Cal Tryz.prog 120 [.ref s.av] (Resp.mk 0 zroot false s.fin).av := by
 have hR : Tryz.f120.results.toList = [.cell 1 51] := rfl
 refine cal_tr Tryz.func120 rfl fun E hE hP => ?_
 exact mX
theorem atN_lt {t : List Node} (hm : mayB t = true) (s : Int) : ∀ (m : Nat) (a : Int), (a = -1 ∨ (0 ≤ a ∧ a < t.length)) → atN t s m a < t.length
 | 0, a, h => by simp only [atN]; omega
 | m + 1, a, h => by
   simp only [atN]
   split
   · omega
   · split
     · omega
     · rename_i h1 _
       obtain ⟨h2, h3⟩ := h.resolve_left h1
       refine atN_lt hm s m _ ?_
       have := par_range hm h2 h3
       omega
theorem atR_lt (t : List Node) (a s : Int) : atR t a s < t.length := by
 unfold atR
 split
 · rename_i hb
   obtain ⟨hm, hk⟩ := isB_spec hb
   exact atN_lt hm s _ a (.inr hk)
 · omega
def ans3R (s : Snap) (a slot : Int) : Resp := if a < 0 then failR 5 else if atR s.t a slot < 0 then failR 8 else ⟨0, (s.t.getD (atR s.t a slot).toNat zNode).root, false, ⟨0, zroot⟩⟩
theorem ans3_c (s : Snap) (c : Ask) (a : Int) : Cal Tryz.prog 121 [.ref (.int .i64 a), .ref s.av, .ref c.av] (ans3R s a c.slot).av := by
 have c1 := fail_c 5
 have c2 := fail_c 8
 have c3 := at_c s.t a c.slot
 cases h1 : decide (a < 0)
 · have h1' : ¬ a < 0 := of_decide_eq_false h1
   cases h2 : decide (atR s.t a c.slot < 0)
   · have h2' : ¬ atR s.t a c.slot < 0 := of_decide_eq_false h2
     have er : ans3R s a c.slot = ⟨0, (s.t.getD (atR s.t a c.slot).toNat zNode).root, false, ⟨0, zroot⟩⟩ := by rw [ans3R, if_neg h1', if_neg h2']
     rw [er]
     have hlt := atR_lt s.t a c.slot
     generalize atR s.t a c.slot = k at c3 h2 h2' hlt ⊢
     obtain ⟨k, rfl⟩ : ∃ n : Nat, k = n := ⟨k.toNat, by omega⟩
     have hnd := nth_node (t := s.t) (k := k) (by omega)
     rw [Int.toNat_natCast]
     have ff := And.intro h1 (And.intro h2 hnd)
     have hR : Tryz.f121.results.toList = [.cell 3 51] := rfl
     refine cal_tr Tryz.func121 rfl fun E hE hP => ?_
     exact mX
   · have h2' : atR s.t a c.slot < 0 := of_decide_eq_true h2
     have er : ans3R s a c.slot = failR 8 := by rw [ans3R, if_neg h1', if_pos h2']
     rw [er]
     have ff := And.intro h1 h2
     have hR : Tryz.f121.results.toList = [.cell 3 51] := rfl
     refine cal_tr Tryz.func121 rfl fun E hE hP => ?_
     exact mX
 · have h1' : a < 0 := of_decide_eq_true h1
   have er : ans3R s a c.slot = failR 5 := by rw [ans3R, if_pos h1']
   rw [er]
   have ff := h1
   have hR : Tryz.f121.results.toList = [.cell 3 51] := rfl
   refine cal_tr Tryz.func121 rfl fun E hE hP => ?_
   exact mX
def ans4R (s : Snap) (a b : Int) : Resp := if min a b < 0 then failR 5 else ⟨0, zroot, aboveR s.t a b, ⟨0, zroot⟩⟩
theorem ans4_c (s : Snap) (a b : Int) : Cal Tryz.prog 122 [.ref (.int .i64 a), .ref (.int .i64 b), .ref s.av] (ans4R s a b).av := by
 have c1 := fail_c 5
 have c2 := And.intro (en Tryz.func39) (above_pure s.t a b)
 have em : (if decide (b < a) = true then b else a) = min a b := by
  simp only [decide_eq_true_eq, Int.min_def]
  split <;> split <;> omega
 cases h1 : decide (min a b < 0)
 · have er : ans4R s a b = ⟨0, zroot, aboveR s.t a b, ⟨0, zroot⟩⟩ := by rw [ans4R, if_neg (of_decide_eq_false h1)]
   rw [er]
   have ff := And.intro em h1
   have hR : Tryz.f122.results.toList = [.cell 3 51] := rfl
   refine cal_tr Tryz.func122 rfl fun E hE hP => ?_
   exact mX
 · have er : ans4R s a b = failR 5 := by rw [ans4R, if_pos (of_decide_eq_true h1)]
   rw [er]
   have ff := And.intro em h1
   have hR : Tryz.f122.results.toList = [.cell 3 51] := rfl
   refine cal_tr Tryz.func122 rfl fun E hE hP => ?_
   exact mX
theorem tMap96 : tMap Tryz.prog 95 = some (3, 93) := by kernel_rfl
theorem tZero94 : tZero Tryz.prog 93 = some .nilf := by kernel_rfl
theorem fits3 (k : Int) : fits Tryz.prog (.int .i64 k) 3 = true := by kernel_rfl
def isI : AV → Bool
 | .int .i64 _ => true
 | _ => false
theorem keysI {es : List (AV × AV)} (h : (es.all fun e => isI e.1) = true) : keysFit Tryz.prog 3 es := by
 intro e he
 have h1 := List.all_eq_true.1 h e he
 obtain ⟨x, y⟩ := e
 simp only at h1 ⊢
 unfold isI at h1
 split at h1
 · exact fits3 _
 · cases h1
theorem upd96 {hp : HP} {o : Nat} {es : List (AV × AV)} {k : Int} {y : AV} {K : AV → HP → Prop} (hg : HP.get hp o = some (.amap es)) (hk : (es.all fun e => isI e.1) = true) (hn : (es.findIdx? fun e => (AV.int .i64 k).eqb e.1) = none)
 (h1 : y.ok = true) (h2 : y.idf = true) (h : K (.tup []) (HP.set hp o (.amap (es ++ [(.int .i64 k, y)])))) : mapUpdateK Tryz.prog 95 hp (.mp o) (.int .i64 k) y K := by
 simp only [mapUpdateK, tMap96, hg]
 refine ⟨fits3 k, nb, keysI hk, h1, h2, ?_⟩
 unfold setE
 rw [hn]
 exact h
theorem look96 {hp : HP} {o : Nat} {es : List (AV × AV)} {k : Int} {K : AV → Prop} (hg : HP.get hp o = some (.amap es)) (hk : (es.all fun e => isI e.1) = true) (h : K (.tup [(foundE (.int .i64 k) es).getD .nilf, .bool (foundE (.int .i64 k) es).isSome])) :
 lookupK Tryz.prog 95 hp (.mp o) (.int .i64 k) true K := by
 simp only [lookupK, tMap96, tZero94, hg, if_true]
 exact ⟨fits3 k, nb, keysI hk, h⟩
def ansE (s : Snap) (c : Ask) : List (AV × AV) := [(.int .i64 5, .fn (.func 119) [] [.ref s.av]), (.int .i64 8, .fn (.func 120) [] [.ref s.av]), (.int .i64 6, .fn (.func 121) [] [.ref (.int .i64 (findR s.t c.a)), .ref s.av, .ref c.av]), (.int .i64 7, .fn (.func 122) [] [.ref (.int .i64 (findR s.t c.a)), .ref (.int .i64 (findR s.t c.b)), .ref s.av])]
theorem answers_o (s : Snap) (c : Ask) : CalO Tryz.prog 56 [s.av, c.av] (.mp 0) [(0, .amap (ansE s c))] := by
 have c1 := And.intro (en Tryz.func27) (find_pure s.t c.a)
 have c2 := And.intro (en Tryz.func27) (find_pure s.t c.b)
 have hR : Tryz.f56.results.toList = [.tmp 4] := rfl
 refine calO_tr Tryz.func56 rfl fun E hE hP => ?_
 refine mr ?_
 refine tr_seq_plan mixed _ (.one 0 (.one 1 (.one 2 (.one 3 (.one 5 (.one 6 (.one 7 (.one 8 (.tri 4 (.tri 9 (.two 10 (.one 11 (.one 12 (.one 13 .done))) 11 (.one 10 (.one 12 (.one 13 .done)))) 10 (.two 9 (.one 11 (.one 12 (.one 13 .done))) 11 (.one 9 (.one 12 (.one 13 .done)))) 11 (.two 9 (.one 10 (.one 12 (.one 13 .done))) 10 (.one 9 (.one 12 (.one 13 .done))))) 10 (.two 4 (.two 9 (.one 11 (.one 12 (.one 13 .done))) 11 (.one 9 (.one 12 (.one 13 .done)))) 11 (.one 4 (.one 9 (.one 12 (.one 13 .done))))) 11 (.two 4 (.two 9 (.one 10 (.one 12 (.one 13 .done))) 10 (.one 9 (.one 12 (.one 13 .done)))) 10 (.one 4 (.one 9 (.one 12 (.one 13 .done)))))))))))))) (⟨[(2, .ptr 0 [] 0), (3, .ptr 1 [] 0), (5, .ptr 2 [] 0), (6, .ptr 3 [] 0)], [(0, .var s.av), (1, .var c.av), (2, .var (.int .i64 (findR s.t c.a))), (3, .var (.int .i64 (findR s.t c.b)))], 4, []⟩) (keepAll _) xE kR ?_ ?_
 · simp only [List.map_cons, List.map_nil]
   iterate 8 refine pQ ?_
   apply pl_tri; exact rfl; exact rfl; exact rfl
   · refine sX ?_
     refine call_fn rfl rfl rfl rfl (en Tryz.func27) (c1.2) rfl rfl rfl ?_
     refine mS ?_
     apply pl_tri; exact rfl; exact rfl; exact rfl
     · refine sX ?_
       refine call_fn rfl rfl rfl rfl (en Tryz.func27) (c2.2) rfl rfl rfl ?_
       refine mS ?_
       apply pl_two; exact rfl; exact rfl
       · refine sX ?_
         refine pX ?_
         refine pX ?_
         refine pX ?_
         refine pl_done (st := _) ?_ rfl
         refine wk_ren (fun | 1 => 16 | 2 => 208 | 3 => 224 | n => n) mB mB rfl rfl rfl
       · refine sX ?_
         refine pX ?_
         refine pX ?_
         refine pX ?_
         refine pl_done (st := _) ?_ rfl
         refine wk_ren (fun | 1 => 16 | 2 => 208 | 3 => 224 | n => n) mB mB rfl rfl rfl
     · refine sX ?_
       apply pl_two; exact rfl; exact rfl
       · refine sX ?_
         refine call_fn rfl rfl rfl rfl (en Tryz.func27) (c2.2) rfl rfl rfl ?_
         refine mS ?_
         refine pX ?_
         refine pX ?_
         refine pX ?_
         refine pl_done (st := _) ?_ rfl
         refine wk_ren (fun | 1 => 16 | 2 => 208 | 3 => 224 | n => n) mB mB rfl rfl rfl
       · refine sX ?_
         refine pX ?_
         refine call_fn rfl rfl rfl rfl (en Tryz.func27) (c2.2) rfl rfl rfl ?_
         refine mS ?_
         refine pX ?_
         refine pX ?_
         refine pl_done (st := _) ?_ rfl
         refine wk_ren (fun | 1 => 16 | 2 => 208 | 3 => 224 | n => n) mB mB rfl rfl rfl
     · refine sX ?_
       apply pl_two; exact rfl; exact rfl
       · refine sX ?_
         refine call_fn rfl rfl rfl rfl (en Tryz.func27) (c2.2) rfl rfl rfl ?_
         refine mS ?_
         refine pX ?_
         refine pX ?_
         refine pX ?_
         refine pl_done (st := _) ?_ rfl
         refine wk_ren (fun | 1 => 16 | 2 => 208 | 3 => 224 | n => n) mB mB rfl rfl rfl
       · refine sX ?_
         refine pX ?_
         refine call_fn rfl rfl rfl rfl (en Tryz.func27) (c2.2) rfl rfl rfl ?_
         refine mS ?_
         refine pX ?_
         refine pX ?_
         refine pl_done (st := _) ?_ rfl
         refine wk_ren (fun | 1 => 16 | 2 => 208 | 3 => 224 | n => n) mB mB rfl rfl rfl
   · refine sX ?_
     apply pl_two; exact rfl; exact rfl
     · refine sX ?_
       refine call_fn rfl rfl rfl rfl (en Tryz.func27) (c1.2) rfl rfl rfl ?_
       refine mS ?_
       apply pl_two; exact rfl; exact rfl
       · refine sX ?_
         refine call_fn rfl rfl rfl rfl (en Tryz.func27) (c2.2) rfl rfl rfl ?_
         refine mS ?_
         refine pX ?_
         refine pX ?_
         refine pX ?_
         refine pl_done (st := _) ?_ rfl
         refine wk_ren (fun | 1 => 16 | 2 => 208 | 3 => 224 | n => n) mB mB rfl rfl rfl
       · refine sX ?_
         refine pX ?_
         refine call_fn rfl rfl rfl rfl (en Tryz.func27) (c2.2) rfl rfl rfl ?_
         refine mS ?_
         refine pX ?_
         refine pX ?_
         refine pl_done (st := _) ?_ rfl
         refine wk_ren (fun | 1 => 16 | 2 => 208 | 3 => 224 | n => n) mB mB rfl rfl rfl
     · refine sX ?_
       refine pX ?_
       refine call_fn rfl rfl rfl rfl (en Tryz.func27) (c1.2) rfl rfl rfl ?_
       refine mS ?_
       refine pX ?_
       refine call_fn rfl rfl rfl rfl (en Tryz.func27) (c2.2) rfl rfl rfl ?_
       refine mS ?_
       refine pX ?_
       refine pX ?_
       refine pl_done (st := _) ?_ rfl
       refine wk_ren (fun | 1 => 16 | 2 => 208 | 3 => 224 | n => n) mB mB rfl rfl rfl
   · refine sX ?_
     apply pl_two; exact rfl; exact rfl
     · refine sX ?_
       refine call_fn rfl rfl rfl rfl (en Tryz.func27) (c1.2) rfl rfl rfl ?_
       refine mS ?_
       apply pl_two; exact rfl; exact rfl
       · refine sX ?_
         refine call_fn rfl rfl rfl rfl (en Tryz.func27) (c2.2) rfl rfl rfl ?_
         refine mS ?_
         refine pX ?_
         refine pX ?_
         refine pX ?_
         refine pl_done (st := _) ?_ rfl
         refine wk_ren (fun | 1 => 16 | 2 => 208 | 3 => 224 | n => n) mB mB rfl rfl rfl
       · refine sX ?_
         refine pX ?_
         refine call_fn rfl rfl rfl rfl (en Tryz.func27) (c2.2) rfl rfl rfl ?_
         refine mS ?_
         refine pX ?_
         refine pX ?_
         refine pl_done (st := _) ?_ rfl
         refine wk_ren (fun | 1 => 16 | 2 => 208 | 3 => 224 | n => n) mB mB rfl rfl rfl
     · refine sX ?_
       refine pX ?_
       refine call_fn rfl rfl rfl rfl (en Tryz.func27) (c1.2) rfl rfl rfl ?_
       refine mS ?_
       refine pX ?_
       refine call_fn rfl rfl rfl rfl (en Tryz.func27) (c2.2) rfl rfl rfl ?_
       refine mS ?_
       refine pX ?_
       refine pX ?_
       refine pl_done (st := _) ?_ rfl
       refine wk_ren (fun | 1 => 16 | 2 => 208 | 3 => 224 | n => n) mB mB rfl rfl rfl
 refine Tr.wk (Wk.frz [0, 1, 2, 3]) ?_
 simp only [AV.frz, AV.frzL, List.map_cons, List.map_nil, go_sem, seval]
 first | apply tr_m xE | (refine Tr.seq ?_; apply tr_m xE)
 intro Q hQ
 refine mS ?_
 iterate 2 refine mV ?_
 refine vm_op ?_; intro r hr; simp only [go_sem, seval]
 refine upd96 rfl rfl rfl rfl rfl ?_
 try simp only [go_sem, seval]
 subst hr
 refine mV ?_
 refine vm_op ?_; intro r hr; simp only [go_sem, seval]
 refine upd96 rfl rfl rfl rfl rfl ?_
 try simp only [go_sem, seval]
 subst hr
 refine mV ?_
 refine vm_op ?_; intro r hr; simp only [go_sem, seval]
 refine upd96 rfl rfl rfl rfl rfl ?_
 try simp only [go_sem, seval]
 subst hr
 refine mV ?_
 refine vm_op ?_; intro r hr; simp only [go_sem, seval]
 refine upd96 rfl rfl rfl rfl rfl ?_
 try simp only [go_sem, seval]
 subst hr
 iterate 2 refine mV ?_
 exact hQ
 refine Tr.wk (s' := ⟨[(4, .mp 0)], [(0, .amap (ansE s c))], 1, []⟩) ?_ ?_
 · refine wk_ren (fun | 0 => 4 | n => n) mB mB rfl rfl rfl
 refine Tr.ret ?_
 simp only [hR, go_sem, seval]
 exact ⟨fun n => n, rfl, mB, rfl⟩
def askR (s : Snap) (c : Ask) : Resp :=
 if smayR s then
  if c.kind = 5 then ⟨0, s.head, false, ⟨0, zroot⟩⟩
  else if c.kind = 8 then ⟨0, zroot, false, s.fin⟩
  else if c.kind = 6 then ans3R s (findR s.t c.a) c.slot
  else if c.kind = 7 then ans4R s (findR s.t c.a) (findR s.t c.b)
  else failR 1
 else failR 1
theorem ans_none {s : Snap} {c : Ask} (h5 : c.kind ≠ 5) (h8 : c.kind ≠ 8) (h6 : c.kind ≠ 6) (h7 : c.kind ≠ 7) : foundE (.int .i64 c.kind) (ansE s c) = none := by
 have e : ∀ k : Int, c.kind ≠ k → (AV.int .i64 c.kind).eqb (.int .i64 k) = false := fun k hk => by
  show (decide (IntKind.i64 = IntKind.i64) && (c.kind == k)) = false
  simp [hk]
 unfold foundE ansE
 simp only [List.find?_cons, e _ h5, e _ h8, e _ h6, e _ h7, List.find?_nil, Option.map_none]
theorem ans_some {s : Snap} {c : Ask} {k : Int} {f : AV} (hk : c.kind = k) (h : foundE (.int .i64 k) (ansE s c) = some f) : foundE (.int .i64 c.kind) (ansE s c) = some f := by rw [hk]; exact h
theorem ansI (s : Snap) (c : Ask) : ((ansE s c).all fun e => isI e.1) = true := rfl
theorem ask_none (s : Snap) (c : Ask) (hf : foundE (.int .i64 c.kind) (ansE s c) = none) : Cal Tryz.prog 21 [s.av, c.av] (failR 1).av := by
 have o1 := answers_o s c
 have c1 := fail_c 1
 have hI := ansI s c
 have hR : Tryz.f21.results.toList = [.cell 4 51] := rfl
 refine cal_tr Tryz.func21 rfl fun E hE hP => ?_
 refine mW ?_
 first | apply tr_md mixed _ (keepAll _) xE kR | (refine Tr.seq ?_; apply tr_md mixed _ (keepAll _) xE kR)
 intro Q hQ
 refine mS ?_
 iterate 2 refine mQ ?_
 refine vd2_x rfl ?_; intro r hr; simp only [go_sem, seval]
 refine call_own rfl rfl rfl rfl (en Tryz.func56) (o1.2) rfl rfl ?_
 refine mS ?_
 subst hr
 iterate 2 refine mQ ?_
 refine vd2_x rfl ?_; intro r hr; simp only [go_sem, seval]
 refine look96 rfl hI ?_; rw [hf]
 try simp only [go_sem, seval]
 subst hr
 iterate 5 refine mQ ?_
 exact hQ
 exact mX
theorem ask_5 (s : Snap) (c : Ask) (hk : c.kind = 5) : Cal Tryz.prog 21 [s.av, c.av] (if smayR s then (Resp.mk 0 s.head false ⟨0, zroot⟩) else failR 1).av := by
 have o1 := answers_o s c
 have c1 := fail_c 1
 have c2 := smay_c s
 have c3 := ans1_c s
 have hI := ansI s c
 have hf := ans_some (s := s) hk (f := .fn (.func 119) [] [.ref s.av]) rfl
 cases hm : smayR s
 · rw [hm] at c2
   rw [if_neg (by simp)]
   have hR : Tryz.f21.results.toList = [.cell 4 51] := rfl
   refine cal_tr Tryz.func21 rfl fun E hE hP => ?_
   refine mW ?_
   first | apply tr_md mixed _ (keepAll _) xE kR | (refine Tr.seq ?_; apply tr_md mixed _ (keepAll _) xE kR)
   intro Q hQ
   refine mS ?_
   iterate 2 refine mQ ?_
   refine vd2_x rfl ?_; intro r hr; simp only [go_sem, seval]
   refine call_own rfl rfl rfl rfl (en Tryz.func56) (o1.2) rfl rfl ?_
   refine mS ?_
   subst hr
   iterate 2 refine mQ ?_
   refine vd2_x rfl ?_; intro r hr; simp only [go_sem, seval]
   refine look96 rfl hI ?_; rw [hf]
   try simp only [go_sem, seval]
   subst hr
   iterate 5 refine mQ ?_
   exact hQ
   exact mX
 · rw [hm] at c2
   rw [if_pos rfl]
   have hR : Tryz.f21.results.toList = [.cell 4 51] := rfl
   refine cal_tr Tryz.func21 rfl fun E hE hP => ?_
   refine mW ?_
   first | apply tr_md mixed _ (keepAll _) xE kR | (refine Tr.seq ?_; apply tr_md mixed _ (keepAll _) xE kR)
   intro Q hQ
   refine mS ?_
   iterate 2 refine mQ ?_
   refine vd2_x rfl ?_; intro r hr; simp only [go_sem, seval]
   refine call_own rfl rfl rfl rfl (en Tryz.func56) (o1.2) rfl rfl ?_
   refine mS ?_
   subst hr
   iterate 2 refine mQ ?_
   refine vd2_x rfl ?_; intro r hr; simp only [go_sem, seval]
   refine look96 rfl hI ?_; rw [hf]
   try simp only [go_sem, seval]
   subst hr
   iterate 5 refine mQ ?_
   exact hQ
   exact mX
theorem ask_8 (s : Snap) (c : Ask) (hk : c.kind = 8) : Cal Tryz.prog 21 [s.av, c.av] (if smayR s then (Resp.mk 0 zroot false s.fin) else failR 1).av := by
 have o1 := answers_o s c
 have c1 := fail_c 1
 have c2 := smay_c s
 have c3 := ans2_c s
 have hI := ansI s c
 have hf := ans_some (s := s) hk (f := .fn (.func 120) [] [.ref s.av]) rfl
 cases hm : smayR s
 · rw [hm] at c2
   rw [if_neg (by simp)]
   have hR : Tryz.f21.results.toList = [.cell 4 51] := rfl
   refine cal_tr Tryz.func21 rfl fun E hE hP => ?_
   refine mW ?_
   first | apply tr_md mixed _ (keepAll _) xE kR | (refine Tr.seq ?_; apply tr_md mixed _ (keepAll _) xE kR)
   intro Q hQ
   refine mS ?_
   iterate 2 refine mQ ?_
   refine vd2_x rfl ?_; intro r hr; simp only [go_sem, seval]
   refine call_own rfl rfl rfl rfl (en Tryz.func56) (o1.2) rfl rfl ?_
   refine mS ?_
   subst hr
   iterate 2 refine mQ ?_
   refine vd2_x rfl ?_; intro r hr; simp only [go_sem, seval]
   refine look96 rfl hI ?_; rw [hf]
   try simp only [go_sem, seval]
   subst hr
   iterate 5 refine mQ ?_
   exact hQ
   exact mX
 · rw [hm] at c2
   rw [if_pos rfl]
   have hR : Tryz.f21.results.toList = [.cell 4 51] := rfl
   refine cal_tr Tryz.func21 rfl fun E hE hP => ?_
   refine mW ?_
   first | apply tr_md mixed _ (keepAll _) xE kR | (refine Tr.seq ?_; apply tr_md mixed _ (keepAll _) xE kR)
   intro Q hQ
   refine mS ?_
   iterate 2 refine mQ ?_
   refine vd2_x rfl ?_; intro r hr; simp only [go_sem, seval]
   refine call_own rfl rfl rfl rfl (en Tryz.func56) (o1.2) rfl rfl ?_
   refine mS ?_
   subst hr
   iterate 2 refine mQ ?_
   refine vd2_x rfl ?_; intro r hr; simp only [go_sem, seval]
   refine look96 rfl hI ?_; rw [hf]
   try simp only [go_sem, seval]
   subst hr
   iterate 5 refine mQ ?_
   exact hQ
   exact mX
theorem ask_6 (s : Snap) (c : Ask) (hk : c.kind = 6) : Cal Tryz.prog 21 [s.av, c.av] (if smayR s then (ans3R s (findR s.t c.a) c.slot) else failR 1).av := by
 have o1 := answers_o s c
 have c1 := fail_c 1
 have c2 := smay_c s
 have c3 := ans3_c s c (findR s.t c.a)
 have hI := ansI s c
 have hf := ans_some (s := s) hk (f := .fn (.func 121) [] [.ref (.int .i64 (findR s.t c.a)), .ref s.av, .ref c.av]) rfl
 cases hm : smayR s
 · rw [hm] at c2
   rw [if_neg (by simp)]
   have hR : Tryz.f21.results.toList = [.cell 4 51] := rfl
   refine cal_tr Tryz.func21 rfl fun E hE hP => ?_
   refine mW ?_
   first | apply tr_md mixed _ (keepAll _) xE kR | (refine Tr.seq ?_; apply tr_md mixed _ (keepAll _) xE kR)
   intro Q hQ
   refine mS ?_
   iterate 2 refine mQ ?_
   refine vd2_x rfl ?_; intro r hr; simp only [go_sem, seval]
   refine call_own rfl rfl rfl rfl (en Tryz.func56) (o1.2) rfl rfl ?_
   refine mS ?_
   subst hr
   iterate 2 refine mQ ?_
   refine vd2_x rfl ?_; intro r hr; simp only [go_sem, seval]
   refine look96 rfl hI ?_; rw [hf]
   try simp only [go_sem, seval]
   subst hr
   iterate 5 refine mQ ?_
   exact hQ
   exact mX
 · rw [hm] at c2
   rw [if_pos rfl]
   have hR : Tryz.f21.results.toList = [.cell 4 51] := rfl
   refine cal_tr Tryz.func21 rfl fun E hE hP => ?_
   refine mW ?_
   first | apply tr_md mixed _ (keepAll _) xE kR | (refine Tr.seq ?_; apply tr_md mixed _ (keepAll _) xE kR)
   intro Q hQ
   refine mS ?_
   iterate 2 refine mQ ?_
   refine vd2_x rfl ?_; intro r hr; simp only [go_sem, seval]
   refine call_own rfl rfl rfl rfl (en Tryz.func56) (o1.2) rfl rfl ?_
   refine mS ?_
   subst hr
   iterate 2 refine mQ ?_
   refine vd2_x rfl ?_; intro r hr; simp only [go_sem, seval]
   refine look96 rfl hI ?_; rw [hf]
   try simp only [go_sem, seval]
   subst hr
   iterate 5 refine mQ ?_
   exact hQ
   exact mX
theorem ask_7 (s : Snap) (c : Ask) (hk : c.kind = 7) : Cal Tryz.prog 21 [s.av, c.av] (if smayR s then (ans4R s (findR s.t c.a) (findR s.t c.b)) else failR 1).av := by
 have o1 := answers_o s c
 have c1 := fail_c 1
 have c2 := smay_c s
 have c3 := ans4_c s (findR s.t c.a) (findR s.t c.b)
 have hI := ansI s c
 have hf := ans_some (s := s) hk (f := .fn (.func 122) [] [.ref (.int .i64 (findR s.t c.a)), .ref (.int .i64 (findR s.t c.b)), .ref s.av]) rfl
 cases hm : smayR s
 · rw [hm] at c2
   rw [if_neg (by simp)]
   have hR : Tryz.f21.results.toList = [.cell 4 51] := rfl
   refine cal_tr Tryz.func21 rfl fun E hE hP => ?_
   refine mW ?_
   first | apply tr_md mixed _ (keepAll _) xE kR | (refine Tr.seq ?_; apply tr_md mixed _ (keepAll _) xE kR)
   intro Q hQ
   refine mS ?_
   iterate 2 refine mQ ?_
   refine vd2_x rfl ?_; intro r hr; simp only [go_sem, seval]
   refine call_own rfl rfl rfl rfl (en Tryz.func56) (o1.2) rfl rfl ?_
   refine mS ?_
   subst hr
   iterate 2 refine mQ ?_
   refine vd2_x rfl ?_; intro r hr; simp only [go_sem, seval]
   refine look96 rfl hI ?_; rw [hf]
   try simp only [go_sem, seval]
   subst hr
   iterate 5 refine mQ ?_
   exact hQ
   exact mX
 · rw [hm] at c2
   rw [if_pos rfl]
   have hR : Tryz.f21.results.toList = [.cell 4 51] := rfl
   refine cal_tr Tryz.func21 rfl fun E hE hP => ?_
   refine mW ?_
   first | apply tr_md mixed _ (keepAll _) xE kR | (refine Tr.seq ?_; apply tr_md mixed _ (keepAll _) xE kR)
   intro Q hQ
   refine mS ?_
   iterate 2 refine mQ ?_
   refine vd2_x rfl ?_; intro r hr; simp only [go_sem, seval]
   refine call_own rfl rfl rfl rfl (en Tryz.func56) (o1.2) rfl rfl ?_
   refine mS ?_
   subst hr
   iterate 2 refine mQ ?_
   refine vd2_x rfl ?_; intro r hr; simp only [go_sem, seval]
   refine look96 rfl hI ?_; rw [hf]
   try simp only [go_sem, seval]
   subst hr
   iterate 5 refine mQ ?_
   exact hQ
   exact mX
theorem ask_c (s : Snap) (c : Ask) : Cal Tryz.prog 21 [s.av, c.av] (askR s c).av := by
 by_cases h5 : c.kind = 5
 · have := ask_5 s c h5
   simpa only [askR, h5, if_true] using this
 by_cases h8 : c.kind = 8
 · have := ask_8 s c h8
   have e : (8 : Int) ≠ 5 := by decide
   simpa only [askR, h8, e, if_true, if_false] using this
 by_cases h6 : c.kind = 6
 · have := ask_6 s c h6
   have e : (6 : Int) ≠ 5 := by decide
   have e2 : (6 : Int) ≠ 8 := by decide
   simpa only [askR, h6, e, e2, if_true, if_false] using this
 by_cases h7 : c.kind = 7
 · have := ask_7 s c h7
   have e : (7 : Int) ≠ 5 := by decide
   have e2 : (7 : Int) ≠ 8 := by decide
   have e3 : (7 : Int) ≠ 6 := by decide
   simpa only [askR, h7, e, e2, e3, if_true, if_false] using this
 have := ask_none s c (ans_none h5 h8 h6 h7)
 have er : askR s c = failR 1 := by simp [askR, h5, h8, h6, h7]
 rw [er]
 exact this
theorem down_top {t : List Node} {w : List Int} {ld : List Bool} (hm : mayB t = true) : ∀ (m : Nat) (i d : Int), (i = -1 ∨ (0 ≤ i ∧ i < t.length)) → (0 ≤ d ∧ d < t.length) → 0 ≤ (downL (kidF t w ld) m i).getLastD d ∧ (downL (kidF t w ld) m i).getLastD d < t.length
 | 0, _, d, _, hd => hd
 | m + 1, i, d, hi, hd => by
   rw [downL]
   split
   · exact hd
   · rename_i h
     have hi' := hi.resolve_left h
     rw [List.getLastD_cons]
     refine down_top hm m _ i ?_ hi'
     rcases kidF_range (w := w) (ld := ld) hm i hi'.1 with h1 | h1
     · exact .inl h1
     · right; omega
theorem headR_range {t : List Node} {w : List Int} {ld : List Bool} {i : Int} (h : toldB t w ld = true) (h0 : 0 ≤ i) (h1 : i < t.length) : 0 ≤ headR t w ld i ∧ headR t w ld i < t.length := by
 have hm : mayB t = true := by
  unfold toldB at h
  simp only [Bool.and_eq_true] at h
  exact h.1.1
 unfold headR lineR
 rw [if_pos ⟨h, h0, h1⟩, lineF_next hm h0 h1, List.getLastD_cons]
 unfold lineF
 refine down_top hm _ _ i ?_ ⟨h0, h1⟩
 rcases kidF_range (w := w) (ld := ld) hm i h0 with h2 | h2
 · exact .inl h2
 · right; omega
theorem mayE_fit {e : Eng} (h : mayE e = true) : fitB e.t e.vl e.o e.b = true ∧ weights e.t e.vl e.b = e.w ∧ e.fin ∈ e.j ∧ (rootsL e).any (lostB e) = false := by
 simp only [mayE, Bool.and_eq_true, decide_eq_true_eq, Bool.not_eq_true'] at h
 exact ⟨h.1, h.2.1, h.2.2.2.2.2.1, h.2.2.2.2.2.2.2.1⟩
theorem weights_len (t : List Node) (vl : List Latest) (b : List Int) : (weights t vl b).length = t.length := by
 unfold weights subW ownW
 rw [subTo_len, votTo_len]
theorem leadsR_len {t : List Node} (hm : mayB t = true) (j f : Int) : (leadsR t j f).length = t.length := by
 rw [leadsR, if_pos hm, leadsTo_len, List.length_replicate]
def justE (e : Eng) : Check := bestR e.t e.j e.fin
def finE (e : Eng) : Int := findR e.t e.fin.root
def headE (e : Eng) : Int := headR e.t e.w (leadsR e.t (justE e).epoch (finE e)) (fromR e.t (justE e).root (finE e))
def zSnap : Snap := ⟨0, [], zroot, ⟨0, zroot⟩, ⟨0, zroot⟩⟩
def ofR (e : Eng) (ver : Int) : Snap := if mayE e then ⟨ver, e.t, (e.t.getD (headE e).toNat zNode).root, justE e, e.fin⟩ else zSnap
theorem mayB_of {e : Eng} (h : mayE e = true) : mayB e.t = true := (fit_spec (mayE_fit h).1).1
theorem finE_range {e : Eng} (h : mayE e = true) : 0 ≤ finE e ∧ finE e < e.t.length := by
 obtain ⟨_, _, h3, h4⟩ := mayE_fit h
 have h5 : e.fin.root ∈ rootsL e := by
  unfold rootsL rootsJ
  rw [List.mem_append, List.mem_append]
  exact .inl (.inl (List.mem_map.2 ⟨e.fin, h3, rfl⟩))
 have h6 : ¬ finE e < 0 := by
  intro hl
  have : (rootsL e).any (lostB e) = true := List.any_eq_true.2 ⟨_, h5, by unfold lostB; exact decide_eq_true hl⟩
  rw [h4] at this
  cases this
 unfold finE at *
 rw [findR, if_pos (mayB_of h)] at *
 have := findI_range e.t e.fin.root
 omega
theorem fromR_range {t : List Node} (hm : mayB t = true) (r : Root) {f : Int} (h0 : 0 ≤ f) (h1 : f < t.length) : 0 ≤ fromR t r f ∧ fromR t r f < t.length := by
 unfold fromR
 split
 · rename_i h
   exact (above_spec.1 h).2.2.1
 · rw [if_pos (above_self hm h0 h1)]
   exact ⟨h0, h1⟩
theorem headE_range {e : Eng} (h : mayE e = true) : 0 ≤ headE e ∧ headE e < e.t.length := by
 obtain ⟨_, h2, _, _⟩ := mayE_fit h
 obtain ⟨h5, h6⟩ := finE_range h
 have hm := mayB_of h
 obtain ⟨h7, h8⟩ := fromR_range hm (justE e).root h5 h6
 unfold headE
 refine headR_range ?_ h7 h8
 unfold toldB
 rw [hm, ← h2, weights_len, leadsR_len hm]
 simp
@[go_sem] theorem sbuild24m (o sz n : Nat) (K : AV → Prop) : buildK Tryz.prog 24 [(0, .ms o sz n)] K = K (.st [.ms o sz n]) := build_struct Tryz.underlying24 tZero47 rfl kR rfl K
theorem of_t (e : Eng) (he : e.few) (ho : e.ok) (ver : Int) : CalT Tryz.prog 0 tabV 16 [e.av, .int .i64 ver] (ofR e ver).av := by
 have x1 := may_t e he ho
 cases hm : mayE e
 · rw [hm] at x1
   have er : ofR e ver = zSnap := by rw [ofR, hm]; rfl
   rw [er]
   have hR : Tryz.f16.results.toList = [.cell 4 40] := rfl
   refine calE_tr Tryz.func16 rfl fun E hE hP => ?_
   exact mX
 · rw [hm] at x1
   have er : ofR e ver = ⟨ver, e.t, (e.t.getD (headE e).toNat zNode).root, justE e, e.fin⟩ := by rw [ofR, hm]; rfl
   rw [er]
   have hj := he.j
   have ht := he.t
   have c1 := And.intro (en Tryz.func41) (best_pure e.t e.j e.fin (by omega))
   have c2 := And.intro (en Tryz.func27) (find_pure e.t e.fin.root)
   have c3 := leads_c e.t (justE e).epoch (finE e)
   have c4 := from_c e.t (justE e).root (finE e)
   have c5 := And.intro (en Tryz.func44) (head_pure e.t e.w (leadsR e.t (justE e).epoch (finE e)) (fromR e.t (justE e).root (finE e)))
   have c6 := nclone_c e.t (by omega)
   have hr := headE_range hm
   change Cal Tryz.prog 41 _ (justE e).av at c1
   change Cal Tryz.prog 27 _ (.int .i64 (finE e)) at c2
   change Cal Tryz.prog 44 _ (.int .i64 (headE e)) at c5
   generalize headE e = k at c5 hr ⊢
   generalize finE e = fin at c2 c3 c4 c5
   generalize justE e = just at c1 c3 c4 c5 ⊢
   generalize leadsR e.t just.epoch fin = ld at c3 c5
   generalize fromR e.t just.root fin = fr at c4 c5
   obtain ⟨k, rfl⟩ : ∃ n : Nat, k = n := ⟨k.toNat, by omega⟩
   have hnd := nth_node (t := e.t) (k := k) (by omega)
   rw [Int.toNat_natCast]
   have ff := hnd
   have hR : Tryz.f16.results.toList = [.cell 4 40] := rfl
   refine calE_tr Tryz.func16 rfl fun E hE hP => ?_
   refine mW ?_
   refine tr_seq_plan mixed _ (.one 0 (.one 1 (.one 2 (.one 3 (.one 6 (.one 7 (.one 8 (.one 9 (.one 10 (.one 11 (.one 12 (.one 13 (.one 14 (.one 15 (.one 4 (.one 5 (.one 16 (.one 17 .done)))))))))))))))))) (⟨[(4, .ptr 1 [] 0)], [(0, .tab 0 tabV), (1, .var (.st [.int .i64 ver, .st [.ms 2 35 e.t.length], .root (e.t.getD k zNode).root, just.av, e.fin.av])), (2, .row 35 (e.t.map Node.av))], 3, []⟩) (keepAll _) xE kR ?_ ?_
   · simp only [List.map_cons, List.map_nil]
     refine pR ?_; simp only [gA, hnd, go_sem, seval]
     refine pR ?_; simp only [gA, hnd, go_sem, seval]
     refine pR ?_; simp only [gA, hnd, go_sem, seval]
     refine pR ?_; simp only [gA, hnd, go_sem, seval]
     refine pR ?_; simp only [gA, hnd, go_sem, seval]
     refine pR ?_; simp only [gA, hnd, go_sem, seval]
     refine pR ?_; simp only [gA, hnd, go_sem, seval]
     refine pR ?_; simp only [gA, hnd, go_sem, seval]
     refine pR ?_; simp only [gA, hnd, go_sem, seval]
     refine pR ?_; simp only [gA, hnd, go_sem, seval]
     refine pR ?_; simp only [gA, hnd, go_sem, seval]
     refine pR ?_; simp only [gA, hnd, go_sem, seval]
     refine pR ?_; simp only [gA, hnd, go_sem, seval]
     refine pR ?_; simp only [gA, hnd, go_sem, seval]
     apply pl_x; exact rfl
     refine st_x rfl rfl ?_; simp only [gA, hnd, go_sem, seval]
     refine call_own rfl rfl rfl rfl (en Tryz.func47) (c6.2) rfl rfl ?_
     refine mS ?_
     refine pR ?_; simp only [gA, hnd, go_sem, seval]
     refine pR ?_; simp only [gA, hnd, go_sem, seval]
     apply pl_x; exact rfl
     refine st_w rfl rfl kR ?_; simp only [gA, hnd, go_sem, seval]
     refine pl_done (st := _) ?_ rfl
     refine wk_ren (fun | 1 => 17 | 2 => 689 | n => n) mB mB rfl rfl rfl
   have hl : 35 = 35 ∧ e.t.length = (e.t.map Node.av).length := ⟨rfl, (List.length_map _).symm⟩
   refine Tr.ret ?_
   simp only [hR, go_sem, seval]
   refine ⟨fun n => n, ?_, mB, rfl, fun _ _ => rfl⟩
   show AV.st [_, .st [if 35 = 35 ∧ e.t.length = (e.t.map Node.av).length then AV.sl (e.t.map Node.av) false else AV.ms 2 35 e.t.length], _, _, _] = _
   rw [if_pos hl]
   rfl
@[go_sem] theorem sfv51_0 (a : Resp) (K : AV → Prop) : fieldK Tryz.prog 51 a.av 0 K = K (.int .i64 a.e) := by simp only [fieldK, stField51_0]; exact propext ⟨fun h => h.2.2.2, fun h => ⟨rfl, rfl, rfl, h⟩⟩
@[go_sem] theorem sfv51_1 (a : Resp) (K : AV → Prop) : fieldK Tryz.prog 51 a.av 1 K = K (.root a.r) := by simp only [fieldK, stField51_1]; exact propext ⟨fun h => h.2.2.2, fun h => ⟨rfl, rfl, rfl, h⟩⟩
@[go_sem] theorem sfv51_2 (a : Resp) (K : AV → Prop) : fieldK Tryz.prog 51 a.av 2 K = K (.bool a.is) := by simp only [fieldK, stField51_2]; exact propext ⟨fun h => h.2.2.2, fun h => ⟨rfl, rfl, rfl, h⟩⟩
@[go_sem] theorem sfv54_0 (a : Note) (K : AV → Prop) : fieldK Tryz.prog 54 a.av 0 K = K (.int .i64 a.ver) := by simp only [fieldK, stField54_0]; exact propext ⟨fun h => h.2.2.2, fun h => ⟨rfl, rfl, rfl, h⟩⟩
def rootN (n : Int) : Root := rootSet zroot 0 n
theorem build34 (n : Int) (h0 : 0 ≤ n) (h1 : n < 256) (K : AV → Prop) : buildK Tryz.prog 34 [(0, .int .u8 n)] K = K (.root (rootN n)) := by
 simp [buildK, Tryz.underlying34, tZero23, tSize5, h0, h1, rootN]
@[go_sem] theorem build34_1 (K : AV → Prop) : buildK Tryz.prog 34 [(0, .int .u8 1)] K = K (.root (rootN 1)) := build34 1 (by decide) (by decide) K
def e0 : Eng := newE (rootN 1) [1]
def s0 : Snap := ⟨3, one (rootN 1), rootN 1, ⟨0, rootN 1⟩, ⟨0, rootN 1⟩⟩
def c0 : Ask := ⟨5, [], zroot, zroot, 0⟩
theorem e0_of : ofR e0 3 = s0 := by decide +kernel
theorem s0_may : smayR s0 = true := by decide +kernel
theorem s0_ask : askR s0 c0 = ⟨0, rootN 1, false, ⟨0, zroot⟩⟩ := by decide +kernel
theorem e0_few : e0.few := ⟨by decide, by decide, by decide, by decide, by decide, by decide, by decide⟩
theorem e0_ok : e0.ok := by
 refine ⟨fun x hx => ?_, fun a ha => ?_, fun a ha => ?_⟩
 · simp only [e0, newE, List.mem_cons, List.not_mem_nil, or_false] at hx
   omega
 · cases ha
 · cases ha
theorem awake_t : CalT Tryz.prog 0 tabV 13 [] (.bool true) := by
 have x1 := of_t e0 e0_few e0_ok 3
 rw [e0_of] at x1
 have c1 := enew_c (rootN 1) [1] (by decide)
 have c2 := smay_c s0
 rw [s0_may] at c2
 have c3 := ask_c s0 c0
 rw [s0_ask] at c3
 have c4 := snote_c s0
 have c5 := ssame_c s0 s0 (by decide)
 simp only [decide_true, Bool.and_self] at c5
 have h1 : decide (s0.head = rootN 1) = true := decide_eq_true rfl
 have h2 : decide (s0.ver = 3) = true := decide_eq_true rfl
 have h3 : decide (rootN 1 = rootN 1) = true := decide_eq_true rfl
 have ff := And.intro h1 (And.intro h2 h3)
 have hR : Tryz.f13.results.toList = [.tmp 0] := rfl
 refine calE_tr Tryz.func13 rfl fun E hE hP => ?_
 refine mW ?_
 first | apply tr_m xE | (refine Tr.seq ?_; apply tr_m xE)
 intro Q hQ
 refine mS ?_
 iterate 11 ((first | refine vm_op ?_ | refine vm_if rfl ?_ | refine vm_no rfl ?_ | refine vm_skip rfl ?_); intro r hr; simp only [h1, h2, h3, stField51_1, stField54_0, Resp.av, Note.av, go_sem, seval]; subst hr)
 (refine vm_if rfl ?_); intro r hr; simp only [h1, h2, h3, stField51_1, stField54_0, Resp.av, Note.av, go_sem, seval]
 refine call_fn rfl rfl rfl rfl (en Tryz.func19) (c2.2) rfl rfl rfl ?_
 refine mS ?_
 try simp only [h1, h2, h3, stField51_1, stField54_0, Resp.av, Note.av, go_sem, seval]
 subst hr
 iterate 2 (refine vm_op ?_; intro r hr; simp only [h1, h2, h3, stField51_1, stField54_0, Resp.av, Note.av, go_sem, seval]; subst hr)
 iterate 2 (refine mI ?_; intro r hr; simp only [h1, h2, h3, stField51_1, stField54_0, Resp.av, Note.av, go_sem, seval]; subst hr)
 (refine vm_if rfl ?_); intro r hr; simp only [h1, h2, h3, stField51_1, stField54_0, Resp.av, Note.av, go_sem, seval]
 refine call_fn rfl rfl rfl rfl (en Tryz.func21) (c3.2) rfl rfl rfl ?_
 refine mS ?_
 try simp only [h1, h2, h3, stField51_1, stField54_0, Resp.av, Note.av, go_sem, seval]
 subst hr
 iterate 6 ((first | refine vm_op ?_ | refine vm_if rfl ?_ | refine vm_no rfl ?_ | refine vm_skip rfl ?_); intro r hr; simp only [h1, h2, h3, stField51_1, stField54_0, Resp.av, Note.av, go_sem, seval]; subst hr)
 (refine vm_if rfl ?_); intro r hr; simp only [h1, h2, h3, stField51_1, stField54_0, Resp.av, Note.av, go_sem, seval]
 refine call_fn rfl rfl rfl rfl (en Tryz.func23) (c4.2) rfl rfl rfl ?_
 refine mS ?_
 try simp only [h1, h2, h3, stField51_1, stField54_0, Resp.av, Note.av, go_sem, seval]
 subst hr
 iterate 6 ((first | refine vm_op ?_ | refine vm_if rfl ?_ | refine vm_no rfl ?_ | refine vm_skip rfl ?_); intro r hr; simp only [h1, h2, h3, stField51_1, stField54_0, Resp.av, Note.av, go_sem, seval]; subst hr)
 (refine vm_if rfl ?_); intro r hr; simp only [h1, h2, h3, stField51_1, stField54_0, Resp.av, Note.av, go_sem, seval]
 refine call_fn rfl rfl rfl rfl (en Tryz.func20) (c5.2) rfl rfl rfl ?_
 refine mS ?_
 try simp only [h1, h2, h3, stField51_1, stField54_0, Resp.av, Note.av, go_sem, seval]
 subst hr
 iterate 2 (refine vm_op ?_; intro r hr; simp only [h1, h2, h3, stField51_1, stField54_0, Resp.av, Note.av, go_sem, seval]; subst hr)
 exact hQ
 exact mX
theorem getD_lt {t : List Node} {k : Nat} (hk : k < t.length) : t.getD k zNode = t[k] := by simp [List.getD_eq_getElem?_getD, hk]
theorem find_self {t : List Node} (hm : mayB t = true) {k : Nat} (hk : k < t.length) : findR t (t.getD k zNode).root = k := by
 have hn := may_once hm
 rw [findR, if_pos hm, getD_lt hk]
 refine findI_at hk (fun j hj => ?_) ?_
 · unfold isR
   rw [decide_eq_false_iff_not]
   intro he
   have := List.pairwise_iff_getElem.1 hn j k (by rw [List.length_map]; omega) (by rw [List.length_map]; omega) hj
   rw [List.getElem_map, List.getElem_map] at this
   exact this he
 · unfold isR
   exact decide_eq_true rfl
theorem isB_one {t : List Node} (hm : mayB t = true) {k : Nat} (hk : k < t.length) : isB t [(k : Int)] = true := by
 have h := above_self (i := (k : Int)) hm (by omega) (by omega)
 unfold aboveR at h
 rw [isB_two] at h
 simp only [Bool.and_eq_true] at h
 exact h.1.1
theorem mayT_spec {t : List Node} : mayB t = true ↔ (1 ≤ t.length ∧ t.length ≤ 12) ∧ (∀ k, k < t.length → fitsB t k = true) ∧ (t.map Node.root).Nodup := by
 unfold mayB onceB
 simp only [Bool.and_eq_true, decide_eq_true_eq, List.all_eq_true, List.mem_range]
 exact ⟨fun h => ⟨h.1.1, h.1.2, h.2⟩, fun h => ⟨⟨h.1, h.2.1⟩, h.2.2⟩⟩
theorem fits_at {t : List Node} {k : Nat} (h : k < t.length) : fitsB t k = if k = 0 then decide ((t.getD k zNode).parent = -1) && decide ((t.getD k zNode).slot ≤ 1099511627776)
 else decide (0 ≤ (t.getD k zNode).parent) && decide ((t.getD k zNode).parent < k) && decide ((t.getD k zNode).slot ≤ 1099511627776) && decide ((t.getD (t.getD k zNode).parent.toNat zNode).slot < (t.getD k zNode).slot) := by
 unfold fitsB
 rw [List.getElem?_eq_getElem h, getD_lt h]
theorem find_mem {t : List Node} (hm : mayB t = true) {r : Root} : 0 ≤ findR t r ↔ r ∈ t.map Node.root := by
 constructor
 · intro h
   have hr := (findR_range t r).resolve_left (by omega)
   have h2 : ((t.getD (findR t r).toNat zNode).root) = r := by
    unfold findR at h ⊢
    rw [if_pos hm] at h ⊢
    unfold findI at h ⊢
    cases hf : t.findIdx? (isR r) with
    | none => rw [hf] at h; simp only at h; omega
    | some i =>
      simp only [Int.toNat_natCast]
      obtain ⟨hi, hr, _⟩ := List.findIdx?_eq_some_iff_getElem.1 hf
      rw [getD_lt hi]
      exact of_decide_eq_true hr
   rw [← h2, getD_lt (by omega)]
   exact List.mem_map.2 ⟨_, List.getElem_mem _, rfl⟩
 · intro h
   obtain ⟨x, hx, rfl⟩ := List.mem_map.1 h
   obtain ⟨k, hk, rfl⟩ := List.mem_iff_getElem.1 hx
   have := find_self hm hk
   rw [getD_lt hk] at this
   omega
section
variable {t : List Node} {n : Node}
theorem isB_in {t : List Node} (hm : mayB t = true) {i k : Int} : isB t [i, k] = (decide (0 ≤ i ∧ i < t.length) && decide (0 ≤ k ∧ k < t.length)) := by
 unfold isB
 rw [hm, Bool.true_and]
 have e : ∀ x : Int, badI t x = !decide (0 ≤ x ∧ x < t.length) := fun x => by
  unfold badI
  by_cases h1 : x < 0 <;> by_cases h2 : (t.length : Int) ≤ x <;> simp [h1, h2] <;> omega
 simp only [List.any_cons, List.any_nil, Bool.or_false, e, Bool.not_or, Bool.not_not]
end
@[go_sem] theorem tav_upd (t : List Node) (x : AV) : (tav t).upd [0] x = some (.st [x]) := rfl
def engX (e : Eng) (T B V W A K J : AV) : AV := .st [.st [T], B, .st [V, .int .u64 e.o], W, A, K, J, e.fin.av, .int .u64 e.now]
attribute [go_sem] engX
end Go.Proofs.YtgnidooihignfaaGreatDoor

/- The law of blocks: plain facts, the reference's equality. -/
import Derived.Test.YtgnidooihignfaaGreatDoorP7
import Derived.Test.YtgnidooihignfaaGreatDoorAbFour
import Derived.Test.YtgnidooihignfaaGreatDoorP6
import Derived.Test.YtgnidooihignfaaGreatDoorP5
set_option linter.unusedSimpArgs false
set_option maxRecDepth 10000
namespace Go.Proofs.YtgnidooihignfaaGreatDoor
open Go Go.Ab
theorem tsame6_c (t k : List Node) (hl : t.length ≤ 1000) : Cal Tryz.prog 43 [tav t, tav k] (.bool (decide (t = k))) := by
 by_cases hlen : t.length = k.length
 · have e0 : decide ((t.length : Int) = (k.length : Int)) = true := dtO
   have ff := e0
   have hR : Tryz.f43.results.toList = [.tmp 4] := rfl
   refine cal_tr Tryz.func43 rfl fun E hE hP => ?_
   refine mW ?_
   refine Tr.loop (fun i : Nat => (⟨[(2, .ptr 0 [] 0), (3, .ptr 1 [] 0), (5, .int .i64 i)], [(0, .var (tav t)), (1, .var (tav k))], 2, []⟩ : S)) (fun i => i ≤ t.length ∧ ∀ j, j < i → t.getD j zNode = k.getD j zNode) (fun i => t.length - i) 0 ⟨Nat.zero_le _, fun j hj => absurd hj (Nat.not_lt_zero j)⟩ ?_ ?_
   · refine wk_ren (fun | 1 => 16 | n => n) mB mB rfl rfl rfl
   · rintro i ⟨hi, hall⟩
     by_cases hlt : i < t.length
     · have e1 : decide ((i : Int) < (t.length : Int)) = true := dtO
       have hn := nth_node hlt
       have hk := nth_node (t := k) (k := i) (by omega)
       have hw := wN i
       by_cases he : t.getD i zNode = k.getD i zNode
       · have hall2 : ∀ j, j < i + 1 → t.getD j zNode = k.getD j zNode := fun j hj => by
          by_cases hji : j = i
          · rw [hji]; exact he
          · exact hall j (by omega)
         have e2 : decide (t.getD i zNode = k.getD i zNode) = true := decide_eq_true he
         generalize t.getD i zNode = x at hn e2
         generalize k.getD i zNode = y at hk e2
         have ff := And.intro e1 (And.intro hn (And.intro hk (And.intro hw e2)))
         refine mW ?_
         refine ⟨i + 1, ⟨hlt, hall2⟩, by omega, ?_⟩
         exact mK
       · have e2 : decide (t.getD i zNode = k.getD i zNode) = false := decide_eq_false he
         have er : decide (t = k) = false := decide_eq_false fun h => he (by rw [h])
         rw [er]
         generalize t.getD i zNode = x at hn e2
         generalize k.getD i zNode = y at hk e2
         have ff := And.intro e1 (And.intro hn (And.intro hk e2))
         exact mX
     · have e1 : decide ((i : Int) < (t.length : Int)) = false := dfO
       have er : decide (t = k) = true := decide_eq_true (by
        refine List.ext_getElem hlen fun j h1 h2 => ?_
        have := hall j (by omega)
        rw [getD_lt h1, getD_lt h2] at this
        exact this)
       rw [er]
       have ff := e1
       exact mX
 · have e0 : decide ((t.length : Int) = (k.length : Int)) = false := dfO
   have er : decide (t = k) = false := decide_eq_false fun h => hlen (by rw [h])
   rw [er]
   have ff := e0
   have hR : Tryz.f43.results.toList = [.tmp 4] := rfl
   refine cal_tr Tryz.func43 rfl fun E hE hP => ?_
   exact mX
theorem rsame_c (s k : Snap) (hl : s.t.length ≤ 1000) : Cal Tryz.prog 15 [s.av, k.av] (.bool (decide (s.t = k.t) && decide (s.ver = k.ver) && decide (s.head = k.head) && decide (s.just = k.just) && decide (s.fin = k.fin))) := by
 have c1 := tsame6_c s.t k.t hl
 cases h0 : decide (s.t = k.t)
 · rw [h0] at c1
   simp only [Bool.false_and]
   have hR : Tryz.f15.results.toList = [.tmp 4] := rfl
   refine cal_tr Tryz.func15 rfl fun E hE hP => ?_
   exact mX
 rw [h0] at c1
 cases h1 : decide (s.ver = k.ver)
 · simp only [Bool.false_and, Bool.true_and, Bool.and_false, Bool.and_self]
   have ff := h1
   have hR : Tryz.f15.results.toList = [.tmp 4] := rfl
   refine cal_tr Tryz.func15 rfl fun E hE hP => ?_
   exact mX
 cases h2 : decide (s.head = k.head)
 · simp only [Bool.false_and, Bool.true_and, Bool.and_false, Bool.and_self]
   have ff := And.intro h1 h2
   have hR : Tryz.f15.results.toList = [.tmp 4] := rfl
   refine cal_tr Tryz.func15 rfl fun E hE hP => ?_
   exact mX
 cases h3 : decide (s.just = k.just)
 · simp only [Bool.false_and, Bool.true_and, Bool.and_false, Bool.and_self]
   have ff := And.intro h1 (And.intro h2 h3)
   have hR : Tryz.f15.results.toList = [.tmp 4] := rfl
   refine cal_tr Tryz.func15 rfl fun E hE hP => ?_
   exact mX
 cases h4 : decide (s.fin = k.fin)
 · simp only [Bool.false_and, Bool.true_and, Bool.and_false, Bool.and_self]
   have ff := And.intro h1 (And.intro h2 (And.intro h3 h4))
   have hR : Tryz.f15.results.toList = [.tmp 4] := rfl
   refine cal_tr Tryz.func15 rfl fun E hE hP => ?_
   exact mX
 simp only [Bool.and_self]
 have ff := And.intro h1 (And.intro h2 (And.intro h3 h4))
 have hR : Tryz.f15.results.toList = [.tmp 4] := rfl
 refine cal_tr Tryz.func15 rfl fun E hE hP => ?_
 exact mX
@[go_sem] theorem beql4 (a b : Bool) (K : AV → Prop) : binK Tryz.prog .eql 4 (.bool a) (.bool b) K = K (.bool (decide (a = b))) :=
  bin_eql_of (fun _ _ h => by cases h) (fun _ h => by cases h) kR kR nb kR (by cases a <;> cases b <;> rfl) K
def aav (l : List Att) : List AV := l.map Att.av
@[go_sem] theorem aav_len (l : List Att) : (aav l).length = l.length := by simp [aav]
@[go_sem] theorem aav_lens (l : List Att) (n : Nat) : (∀ z ∈ aav l, z.len = n) = ∀ a ∈ l, 100 = n := by
  unfold aav
  rw [List.forall_mem_map]
  rfl
def ilook (es : List (Nat × Nat)) (p : Int) : Option Nat := (es.find? fun e => decide (p = (e.1 : Int))).map (·.2)
def cutN (t : List Node) (i : Int) (es : List (Nat × Nat)) (k : Nat) : Node := { t.getD k zNode with parent := if (k : Int) = i then -1 else ((ilook es (t.getD k zNode).parent).getD 0 : Int) }
def cutS (t : List Node) (i : Int) (st : List (Nat × Nat) × List Node) (k : Nat) : List (Nat × Nat) × List Node :=
 if (k : Int) ≠ i ∧ ilook st.1 (t.getD k zNode).parent = none then st else (st.1 ++ [(k, st.2.length)], st.2 ++ [cutN t i st.1 k])
def cutTo (t : List Node) (i : Int) (k : Nat) : List (Nat × Nat) × List Node := (List.range k).foldl (cutS t i) ([], [])
theorem cutTo_next (t : List Node) (i : Int) (k : Nat) : cutTo t i (k + 1) = cutS t i (cutTo t i k) k := by
 unfold cutTo
 rw [List.range_succ, List.foldl_append]
 rfl
def cutR (t : List Node) (i : Int) : List Node := if isB t [i] then (cutTo t i t.length).2 else []
def keptL (t : List Node) (i : Int) (m : Nat) : List Nat := (List.range m).filter fun k => aboveF t i k
def phi (t : List Node) (i : Int) (k : Nat) : Nat := (keptL t i k).length
def nodeC (t : List Node) (i : Int) (k : Nat) : Node := { t.getD k zNode with parent := if (k : Int) = i then -1 else (phi t i (parI t k).toNat : Int) }
theorem keptL_succ (t : List Node) (i : Int) (m : Nat) : keptL t i (m + 1) = keptL t i m ++ (if aboveF t i m then [m] else []) := by
 unfold keptL
 rw [List.range_succ, List.filter_append]
 cases h : aboveF t i m <;> simp [h]
theorem keptL_mem {t : List Node} {i : Int} {m k : Nat} : k ∈ keptL t i m ↔ k < m ∧ aboveF t i k = true := by simp [keptL]
theorem ilook_map (f : Nat → Nat) : ∀ (L : List Nat) (p : Int), ilook (L.map fun k => (k, f k)) p = if 0 ≤ p ∧ p.toNat ∈ L then some (f p.toNat) else none
 | [], p => by simp [ilook]
 | a :: L, p => by
   have ih := ilook_map f L p
   unfold ilook at ih ⊢
   rw [List.map_cons, List.find?_cons]
   by_cases h : p = (a : Int)
   · subst h
     rw [decide_eq_true (show (a : Int) = (((a, f a) : Nat × Nat).1 : Int) from rfl)]
     simp
   · rw [decide_eq_false (show ¬ p = (((a, f a) : Nat × Nat).1 : Int) from h)]
     simp only
     rw [ih]
     have : (0 ≤ p ∧ p.toNat ∈ a :: L) ↔ (0 ≤ p ∧ p.toNat ∈ L) := by
      rw [List.mem_cons]
      constructor
      · rintro ⟨h0, h1 | h1⟩
        · exact absurd (by omega) h
        · exact ⟨h0, h1⟩
      · rintro ⟨h0, h1⟩
        exact ⟨h0, .inr h1⟩
     simp only [this]
theorem nodup_map_on {α β : Type} {f : α → β} : ∀ l : List α, l.Nodup → (∀ a ∈ l, ∀ b ∈ l, f a = f b → a = b) → (l.map f).Nodup
 | [], _, _ => List.nodup_nil
 | x :: l, h, hf => by
   rw [List.nodup_cons] at h
   rw [List.map_cons, List.nodup_cons]
   refine ⟨fun hx => ?_, nodup_map_on l h.2 fun a ha b hb => hf a (List.mem_cons_of_mem _ ha) b (List.mem_cons_of_mem _ hb)⟩
   obtain ⟨y, hy, he⟩ := List.mem_map.1 hx
   have := hf y (List.mem_cons_of_mem _ hy) x List.mem_cons_self he
   exact h.1 (this ▸ hy)
theorem aboveF_neg (t : List Node) (i : Int) : aboveF t i (-1) = false := rfl
section
variable {t : List Node} {i : Int}
theorem aboveF_ge (hm : mayB t = true) {a : Int} (h0 : 0 ≤ a) (h1 : a < t.length) (h : aboveF t i a = true) : i ≤ a := aboveF_le hm (a.toNat + 1) a (by omega) h0 h1 h
theorem par_kept (hm : mayB t = true) {k : Nat} (hk : k < t.length) (hki : (k : Int) ≠ i) : aboveF t i k = true ↔ (0 ≤ parI t k ∧ (parI t k).toNat ∈ keptL t i k) := by
 have hp := par_range hm (a := (k : Int)) (by omega) (by omega)
 rw [aboveF_step hm (by omega) (by omega), if_neg hki]
 constructor
 · intro h
   split at h
   · cases h
   · rcases hp with hp | hp
     · rw [hp, aboveF_neg] at h; cases h
     · refine ⟨hp.1, keptL_mem.2 ⟨by omega, ?_⟩⟩
       rw [Int.toNat_of_nonneg hp.1]
       exact h
 · rintro ⟨h2, h3⟩
   obtain ⟨h4, h5⟩ := keptL_mem.1 h3
   rw [Int.toNat_of_nonneg h2] at h5
   have := aboveF_ge hm (a := parI t k) h2 (by omega) h5
   rw [if_neg (by omega)]
   exact h5
theorem cutTo_eq (hm : mayB t = true) : ∀ m, m ≤ t.length → cutTo t i m = ((keptL t i m).map fun k => (k, phi t i k), (keptL t i m).map (nodeC t i))
 | 0, _ => rfl
 | m + 1, h => by
   have ih := cutTo_eq hm m (by omega)
   have hpar : (t.getD m zNode).parent = parI t m := by unfold parI; rw [Int.toNat_natCast]
   rw [cutTo_next, ih, keptL_succ]
   unfold cutS cutN
   simp only
   rw [hpar, ilook_map, List.length_map]
   by_cases hmi : (m : Int) = i
   · have hk : aboveF t i m = true := by rw [aboveF_step hm (by omega) (by omega), if_pos hmi]
     rw [if_neg (fun h => h.1 hmi), hk, if_pos rfl, List.map_append, List.map_append]
     unfold nodeC
     rw [if_pos hmi]
     simp only [List.map_cons, List.map_nil]
     rw [if_pos hmi]
     rfl
   · have hk := par_kept hm (i := i) (show m < t.length by omega) hmi
     by_cases hp : 0 ≤ parI t m ∧ (parI t m).toNat ∈ keptL t i m
     · rw [if_pos hp, if_neg (fun h => by cases h.2), hk.2 hp, if_pos rfl, List.map_append, List.map_append, if_neg hmi]
       simp only [List.map_cons, List.map_nil, Option.getD_some]
       unfold nodeC
       rw [if_neg hmi]
       rfl
     · have hf : aboveF t i m = false := by
        cases h : aboveF t i m
        · rfl
        · exact absurd (hk.1 h) hp
       rw [if_neg hp, if_pos ⟨hmi, rfl⟩, hf]
       simp
theorem keptL_split {k M : Nat} (hk : k < M) (ha : aboveF t i k = true) : ∃ r, keptL t i M = keptL t i k ++ k :: r := by
 refine ⟨((List.range M).drop (k + 1)).filter fun k => aboveF t i k, ?_⟩
 have h1 := List.take_append_drop k (List.range M)
 rw [List.take_range, Nat.min_eq_left (by omega), List.drop_eq_getElem_cons (by simpa using hk), List.getElem_range] at h1
 unfold keptL
 conv => lhs; rw [← h1]
 rw [List.filter_append, List.filter_cons, if_pos ha]
theorem keptL_at {k M : Nat} (hk : k < M) (ha : aboveF t i k = true) : (keptL t i M)[phi t i k]? = some k ∧ phi t i k < (keptL t i M).length := by
 obtain ⟨r, hr⟩ := keptL_split (M := M) hk ha
 rw [hr]
 unfold phi
 refine ⟨by simp, by rw [List.length_append, List.length_cons]; omega⟩
theorem keptL_nodup (M : Nat) : (keptL t i M).Nodup := List.Nodup.sublist List.filter_sublist List.nodup_range
theorem keptL_back {M j : Nat} (hj : j < (keptL t i M).length) : ∃ k, k < M ∧ aboveF t i k = true ∧ phi t i k = j := by
 have hmem := List.getElem_mem hj
 obtain ⟨h1, h2⟩ := keptL_mem.1 hmem
 refine ⟨_, h1, h2, ?_⟩
 obtain ⟨h3, h4⟩ := keptL_at h1 h2
 exact (List.getElem?_inj h4 (keptL_nodup M)).1 (by rw [h3, List.getElem?_eq_getElem hj])
theorem phi_lt {a b : Nat} (h : a < b) (ha : aboveF t i a = true) : phi t i a < phi t i b := by
 obtain ⟨r, hr⟩ := keptL_split (M := b) h ha
 unfold phi
 rw [hr, List.length_append, List.length_cons]
 omega
theorem phi_inj {a b : Nat} (ha : aboveF t i a = true) (hb : aboveF t i b = true) : phi t i a = phi t i b ↔ a = b := by
 constructor
 · intro h
   rcases Nat.lt_trichotomy a b with h1 | h1 | h1
   · have := phi_lt h1 ha; omega
   · exact h1
   · have := phi_lt h1 hb; omega
 · rintro rfl; rfl
theorem phi_first (hm : mayB t = true) {k : Nat} (hk : (k : Int) = i) (hk1 : k < t.length) : phi t i k = 0 := by
 unfold phi
 refine List.length_eq_zero_iff.2 (List.eq_nil_iff_forall_not_mem.2 fun a ha => ?_)
 obtain ⟨h1, h2⟩ := keptL_mem.1 ha
 have := aboveF_ge hm (a := (a : Int)) (by omega) (by omega) h2
 omega
structure CutAt (t : List Node) (i : Int) : Prop where
 may : mayB t = true
 low : 0 ≤ i
 high : i < t.length
theorem CutAt.self (h : CutAt t i) : aboveF t i i = true := by rw [aboveF_step h.may h.low h.high, if_pos rfl]
theorem CutAt.eq (h : CutAt t i) : cutR t i = (keptL t i t.length).map (nodeC t i) := by
 unfold cutR
 have : isB t [i] = true := by
  have h1 := isB_one h.may (k := i.toNat) (by have := h.low; have := h.high; omega)
  rwa [Int.toNat_of_nonneg h.low] at h1
 rw [if_pos this, cutTo_eq h.may t.length (Nat.le_refl _)]
theorem CutAt.len (h : CutAt t i) : (cutR t i).length = (keptL t i t.length).length := by rw [h.eq, List.length_map]
theorem CutAt.at (h : CutAt t i) {k : Nat} (hk : k < t.length) (ha : aboveF t i k = true) : phi t i k < (cutR t i).length ∧ (cutR t i).getD (phi t i k) zNode = nodeC t i k := by
 obtain ⟨h1, h2⟩ := keptL_at hk ha
 rw [h.len]
 refine ⟨h2, ?_⟩
 rw [h.eq, List.getD_eq_getElem?_getD, List.getElem?_map, h1]
 rfl
theorem CutAt.back (h : CutAt t i) {j : Nat} (hj : j < (cutR t i).length) : ∃ k, k < t.length ∧ aboveF t i k = true ∧ phi t i k = j := keptL_back (by rw [← h.len]; exact hj)
theorem CutAt.par (h : CutAt t i) {k : Nat} (hk : k < t.length) (ha : aboveF t i k = true) : parI (cutR t i) (phi t i k : Nat) = if (k : Int) = i then -1 else (phi t i (parI t k).toNat : Int) := by
 unfold parI
 rw [Int.toNat_natCast, (h.at hk ha).2]
 rfl
theorem CutAt.fits (h : CutAt t i) {j : Nat} (hj : j < (cutR t i).length) : fitsB (cutR t i) j = true := by
 obtain ⟨k, hk, ha, rfl⟩ := h.back hj
 have hf := (mayT_spec.1 h.may).2.1 k hk
 rw [fits_at hk] at hf
 rw [fits_at hj, (h.at hk ha).2]
 have hslot : (t.getD k zNode).slot ≤ 1099511627776 := by
  split at hf
  · simp only [Bool.and_eq_true, decide_eq_true_eq] at hf; exact hf.2
  · simp only [Bool.and_eq_true, decide_eq_true_eq] at hf; exact hf.1.2
 by_cases hki : (k : Int) = i
 · rw [if_pos (phi_first h.may hki hk)]
   unfold nodeC
   rw [if_pos hki, decide_eq_true rfl, decide_eq_true hslot]
   rfl
 · have hne : phi t i k ≠ 0 := by
    have h1 := aboveF_ge h.may (a := (k : Int)) (by omega) (by omega) ha
    have hii : aboveF t i (i.toNat : Nat) = true := by rw [Int.toNat_of_nonneg h.low]; exact h.self
    have h2 := h.low
    have := phi_lt (i := i) (a := i.toNat) (b := k) (by omega) hii
    omega
   obtain ⟨hp0, hpm⟩ := (par_kept h.may hk hki).1 ha
   obtain ⟨hp1, hp2⟩ := keptL_mem.1 hpm
   have hparI : parI t k = (t.getD k zNode).parent := by unfold parI; rw [Int.toNat_natCast]
   rw [if_neg hne]
   unfold nodeC
   rw [if_neg hki]
   simp only
   have h1 := phi_lt hp1 hp2
   rw [Int.toNat_natCast, (h.at (show (parI t k).toNat < t.length by omega) hp2).2]
   have h2 : (nodeC t i (parI t k).toNat).slot = (t.getD (parI t k).toNat zNode).slot := rfl
   have hk0 : k ≠ 0 := fun hk0 => by
    subst hk0
    rw [if_pos rfl] at hf
    simp only [Bool.and_eq_true, decide_eq_true_eq] at hf
    rw [hparI] at hp0
    omega
   rw [if_neg hk0] at hf
   simp only [Bool.and_eq_true, decide_eq_true_eq] at hf
   rw [h2, hparI, decide_eq_true hf.2, decide_eq_true hslot, dtO, decide_eq_true (by rw [← hparI]; omega)]
   rfl
theorem CutAt.roots (h : CutAt t i) : (cutR t i).map Node.root = (keptL t i t.length).map fun k => (t.getD k zNode).root := by
 rw [h.eq, List.map_map]
 rfl
theorem root_inj (hm : mayB t = true) {a b : Nat} (ha : a < t.length) (hb : b < t.length) (h : (t.getD a zNode).root = (t.getD b zNode).root) : a = b := by
 have h1 := find_self hm ha
 have h2 := find_self hm hb
 rw [h] at h1
 omega
theorem CutAt.may' (h : CutAt t i) : mayB (cutR t i) = true := by
 refine mayT_spec.2 ⟨⟨?_, ?_⟩, fun j hj => h.fits hj, ?_⟩
 · have hii : aboveF t i (i.toNat : Nat) = true := by rw [Int.toNat_of_nonneg h.low]; exact h.self
   have := (h.at (show i.toNat < t.length by have := h.low; have := h.high; omega) hii).1
   omega
 · rw [h.len]
   have h1 : (keptL t i t.length).length ≤ t.length := by
    have := List.length_filter_le (fun k : Nat => aboveF t i k) (List.range t.length)
    rwa [List.length_range] at this
   have := (may_len h.may).2
   omega
 · rw [h.roots]
   refine nodup_map_on _ (keptL_nodup _) ?_
   intro a ha b hb hab
   exact root_inj h.may (keptL_mem.1 ha).1 (keptL_mem.1 hb).1 hab
theorem CutAt.kept_par (h : CutAt t i) {k : Nat} (hk : k < t.length) (ha : aboveF t i k = true) (hki : (k : Int) ≠ i) : 0 ≤ parI t k ∧ (parI t k).toNat < k ∧ aboveF t i (parI t k).toNat = true := by
 obtain ⟨h1, h2⟩ := (par_kept h.may hk hki).1 ha
 obtain ⟨h3, h4⟩ := keptL_mem.1 h2
 exact ⟨h1, h3, h4⟩
theorem CutAt.above (h : CutAt t i) {x : Nat} (hx : aboveF t i x = true) : ∀ (n a : Nat), a < n → a < t.length → aboveF t i a = true → aboveF (cutR t i) (phi t i x : Nat) (phi t i a : Nat) = aboveF t x a
 | 0, a, hn, _, _ => by omega
 | n + 1, a, hn, ha, hk => by
   have hlt := (h.at ha hk).1
   rw [aboveF_step h.may' (by omega) (by omega), aboveF_step h.may (by omega) (by omega)]
   by_cases hax : a = x
   · subst hax
     rw [if_pos rfl, if_pos rfl]
   · have hne : phi t i a ≠ phi t i x := fun hh => hax ((phi_inj hk hx).1 hh)
     rw [if_neg (show ¬ ((phi t i a : Nat) : Int) = (phi t i x : Nat) by omega), if_neg (show ¬ (a : Int) = (x : Nat) by omega)]
     by_cases hlt2 : a < x
     · have := phi_lt hlt2 hk
       rw [if_pos (show ((phi t i a : Nat) : Int) < (phi t i x : Nat) by omega), if_pos (show (a : Int) < (x : Nat) by omega)]
     · have := phi_lt (show x < a by omega) hx
       rw [if_neg (show ¬ ((phi t i a : Nat) : Int) < (phi t i x : Nat) by omega), if_neg (show ¬ (a : Int) < (x : Nat) by omega)]
       have hai : (a : Int) ≠ i := fun hh => by
        have := phi_first h.may hh ha
        omega
       obtain ⟨p0, p1, p2⟩ := h.kept_par ha hk hai
       rw [h.par ha hk, if_neg hai, h.above hx n (parI t a).toNat (by omega) (by omega) p2, Int.toNat_of_nonneg p0]
theorem CutAt.aboveR (h : CutAt t i) {x a : Nat} (hx : x < t.length) (ha : a < t.length) (kx : aboveF t i x = true) (ka : aboveF t i a = true) : Go.Proofs.YtgnidooihignfaaGreatDoor.aboveR (cutR t i) (phi t i x : Nat) (phi t i a : Nat) = Go.Proofs.YtgnidooihignfaaGreatDoor.aboveR t x a := by
 have h1 := (h.at hx kx).1
 have h2 := (h.at ha ka).1
 unfold Go.Proofs.YtgnidooihignfaaGreatDoor.aboveR
 rw [isB_in h.may', isB_in h.may, h.above kx (a + 1) a (by omega) ha ka]
 rw [decide_eq_true (show 0 ≤ ((phi t i x : Nat) : Int) ∧ ((phi t i x : Nat) : Int) < ((cutR t i).length : Int) by omega), decide_eq_true (show 0 ≤ ((phi t i a : Nat) : Int) ∧ ((phi t i a : Nat) : Int) < ((cutR t i).length : Int) by omega), decide_eq_true (show 0 ≤ (x : Int) ∧ (x : Int) < (t.length : Int) by omega), decide_eq_true (show 0 ≤ (a : Int) ∧ (a : Int) < (t.length : Int) by omega)]
theorem find_at {r : Root} (h : 0 ≤ findR t r) : ∃ k : Nat, findR t r = k ∧ k < t.length ∧ (t.getD k zNode).root = r := by
 have h1 := (findR_range t r).resolve_left (by omega)
 have h2 := find_root h
 exact ⟨(findR t r).toNat, by omega, by omega, h2⟩
theorem CutAt.find (h : CutAt t i) (r : Root) : findR (cutR t i) r = if 0 ≤ findR t r ∧ aboveF t i (findR t r) = true then (phi t i (findR t r).toNat : Int) else -1 := by
 by_cases hc : 0 ≤ findR t r ∧ aboveF t i (findR t r) = true
 · rw [if_pos hc]
   obtain ⟨k, h1, h2, h3⟩ := find_at hc.1
   have ka := hc.2
   rw [h1] at ka ⊢
   rw [Int.toNat_natCast]
   obtain ⟨h4, h5⟩ := h.at h2 ka
   have h6 := find_self h.may' h4
   rw [h5] at h6
   have h7 : (nodeC t i k).root = r := h3
   rwa [h7] at h6
 · rw [if_neg hc]
   refine (findR_range (cutR t i) r).resolve_right fun h1 => hc ?_
   obtain ⟨j, h2, h3, h4⟩ := find_at h1.1
   obtain ⟨k, h5, h6, h7⟩ := h.back h3
   subst h7
   rw [(h.at h5 h6).2] at h4
   have h8 : (t.getD k zNode).root = r := h4
   have h9 := find_self h.may h5
   rw [h8] at h9
   rw [h9]
   exact ⟨by omega, h6⟩
def inC (t : List Node) (i : Int) (r : Root) : Bool := decide (0 ≤ findR t r) && aboveF t i (findR t r)
theorem CutAt.find' (h : CutAt t i) (r : Root) : findR (cutR t i) r = if inC t i r then (phi t i (findR t r).toNat : Int) else -1 := by
 rw [h.find]
 unfold inC
 by_cases h1 : 0 ≤ findR t r <;> cases h2 : aboveF t i (findR t r) <;> simp [h1]
theorem CutAt.in_roots (h : CutAt t i) (r : Root) : r ∈ (cutR t i).map Node.root ↔ inC t i r = true := by
 rw [← find_mem h.may', h.find']
 cases inC t i r <;> simp
theorem inC_spec {r : Root} (h : inC t i r = true) : ∃ k : Nat, findR t r = k ∧ k < t.length ∧ aboveF t i k = true := by
 unfold inC at h
 rw [Bool.and_eq_true, decide_eq_true_eq] at h
 obtain ⟨k, h1, h2, _⟩ := find_at h.1
 exact ⟨k, h1, h2, by rw [← h1]; exact h.2⟩
end
def dropX (rs : List Root) (x : Latest) : Latest := if x.root ∈ rs then x else zLatest
def dropL (rs : List Root) (vl : List Latest) : List Latest := vl.map (dropX rs)
end Go.Proofs.YtgnidooihignfaaGreatDoor
set_option linter.unusedSimpArgs false
set_option maxRecDepth 10000
namespace Go.Proofs.YtgnidooihignfaaGreatDoor
open Go Go.Ab Go.RowKit
def partV (t : List Node) (bl : List Latest) (b : List Int) (i : Nat) (x : Latest) (j : Nat) : Int :=
 if skipB bl i x then 0 else if findR t x.root < 0 then 0 else if (findR t x.root).toNat = j then b.getD i 0 else 0
theorem votS_at {t : List Node} {bl : List Latest} {b out : List Int} {i : Nat} {x : Latest} {j : Nat} (hl : out.length = t.length) (hb : 0 ≤ b.getD i 0 ∧ b.getD i 0 ≤ 1099511627776) (hs : small 9223372036854775808 out) : (votS t bl b out i x).getD j 0 = out.getD j 0 + partV t bl b i x j := by
 unfold votS partV
 split
 · omega
 · split
   · omega
   · have hr := (findR_range t x.root).resolve_left (by omega)
     have h1 := hs (findR t x.root).toNat
     rw [addAt, getD_set]
     by_cases h : (findR t x.root).toNat = j
     · rw [if_pos ⟨h, by omega⟩, if_pos h, wrapU_lt (by omega) (by omega), h]
     · rw [if_neg (fun hh => h hh.1), if_neg h]
       omega
theorem vot_at {t : List Node} {vl bl : List Latest} {b : List Int} (hb : okB b) (hS : mayS b = true) (i : Nat) (hi : i ≤ 1000) (j : Nat) : (votTo t vl bl b (i + 1)).getD j 0 = (votTo t vl bl b i).getD j 0 + partV t bl b i (vl.getD i zLatest) j := by
 rw [votTo]
 refine votS_at (votTo_len _ _ _ _ _) ?_ fun k => ?_
 · by_cases hi : i < b.length
   · exact bal_range hS hb hi
   · rw [List.getD_eq_getElem?_getD, List.getElem?_eq_none (by omega)]; simp
 · have := small_vot (t := t) (vl := vl) (bl := bl) hb hS i (by omega) k
   omega
theorem skip_nil (i : Nat) (x : Latest) : skipB [] i x = !x.has := by
 unfold skipB
 have : decide (i < ([] : List Latest).length) = false := decide_eq_false (Nat.not_lt_zero i)
 rw [this, Bool.false_and, Bool.or_false]
end Go.Proofs.YtgnidooihignfaaGreatDoor
set_option linter.unusedSimpArgs false
set_option maxRecDepth 10000
namespace Go.Proofs.YtgnidooihignfaaGreatDoor
open Go Go.Ab
theorem nth_uav {l : List Int} {i : Nat} (h : i < l.length) : nth (l.map uav) (i : Int) = some (.int .u64 (l.getD i 0)) := by
 rw [nth_map_lt uav l i h, List.getD_eq_getElem?_getD, List.getElem?_eq_getElem h]
 rfl
end Go.Proofs.YtgnidooihignfaaGreatDoor

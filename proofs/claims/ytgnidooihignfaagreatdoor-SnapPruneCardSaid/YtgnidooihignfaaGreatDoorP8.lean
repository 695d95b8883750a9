/- The law of blocks: plain facts, the reference's equality. -/
import Derived.Test.YtgnidooihignfaaGreatDoorP7
import Derived.Test.YtgnidooihignfaaGreatDoorAbFour
import Derived.Test.YtgnidooihignfaaGreatDoorP6
import Derived.Test.YtgnidooihignfaaGreatDoorP5
set_option linter.unusedSimpArgs false
set_option maxRecDepth 10000
namespace Go.Proofs.YtgnidooihignfaaGreatDoor
open Go Go.Ab

@[go_sem] theorem beql4 (a b : Bool) (K : AV → Prop) : binK Tryz.prog .eql 4 (.bool a) (.bool b) K = K (.bool (decide (a = b))) :=
  bin_eql_of (fun _ _ h => by cases h) (fun _ h => by cases h) (by kernel_rfl) (by kernel_rfl) (Nat.le_of_ble_eq_true rfl) (by kernel_rfl) (by cases a <;> cases b <;> rfl) K
def aav (l : List Att) : List AV := l.map Att.av
@[go_sem] theorem aav_len (l : List Att) : (aav l).length = l.length := by simp [aav]
@[go_sem] theorem aav_lens (l : List Att) (n : Nat) : (∀ z ∈ aav l, z.len = n) = ∀ a ∈ l, 100 = n := by
  unfold aav
  rw [List.forall_mem_map]
  rfl
theorem vown_o (vl : List Latest) (o : Int) (hl : vl.length ≤ 1000) : CalO Tryz.prog 199 [vav vl o] (.st [.ms 0 34 vl.length, .int .u64 o]) [(0, .row 34 (vl.map Latest.av))] := by
  have o1 := lclone_c vl hl
  have hR : Tryz.f199.results.toList = [.cell 2 29] := rfl
  refine calO_tr Tryz.func199 rfl fun E hE hP => ?_
  refine mW ?_
  refine Tr.ret ?_
  simp only [hR, go_sem, seval]
  exact ⟨fun n => 64 + n, rfl, (by repeat' (first | exact rfl | exact trivial | constructor)), rfl⟩
def ientE (e : Nat × Nat) : AV × AV := (.int .i64 e.1, .int .i64 e.2)
def ilook (es : List (Nat × Nat)) (p : Int) : Option Nat := (es.find? fun e => decide (p = (e.1 : Int))).map (·.2)
theorem tMap225 : tMap Tryz.prog 225 = some (3, 3) := by kernel_rfl
theorem keys225 (es : List (Nat × Nat)) : keysFit Tryz.prog 3 (es.map ientE) := fun e he => by
  obtain ⟨x, _, rfl⟩ := List.mem_map.1 he
  exact fits3 _
theorem ient_eqb (p : Int) (e : Nat × Nat) : (AV.int .i64 p).eqb (ientE e).1 = decide (p = (e.1 : Int)) := by
  show (AV.int .i64 p).eqb (.int .i64 e.1) = _
  simp [AV.eqb, int_beq]
theorem found225 (es : List (Nat × Nat)) (p : Int) : foundE (.int .i64 p) (es.map ientE) = (ilook es p).map fun n => .int .i64 n := by
  unfold foundE ilook
  induction es with
  | nil => rfl
  | cons e es ih =>
    simp only [List.map_cons, List.find?_cons, ient_eqb p e]
    cases decide (p = (e.1 : Int))
    · exact ih
    · rfl
theorem look225 {hp : HP} {o : Nat} {es : List (Nat × Nat)} {p : Int} {K : AV → Prop} (hg : HP.get hp o = some (.amap (es.map ientE))) (h : K (.tup [.int .i64 ((ilook es p).getD 0), .bool (ilook es p).isSome])) :
    lookupK Tryz.prog 225 hp (.mp o) (.int .i64 p) true K := by
  simp only [lookupK, tMap225, hg, ltZero3, if_true]
  refine ⟨fits3 p, Nat.le_of_ble_eq_true rfl, keys225 es, ?_⟩
  rw [found225]
  cases hl : ilook es p with
  | none => rw [hl] at h; exact h
  | some n => rw [hl] at h; exact h
theorem upd225 {hp : HP} {o : Nat} {es : List (Nat × Nat)} {k : Nat} {n : Nat} {K : AV → HP → Prop} (hg : HP.get hp o = some (.amap (es.map ientE))) (hn : ilook es k = none) (h : K (.tup []) (HP.set hp o (.amap ((es ++ [(k, n)]).map ientE)))) :
    mapUpdateK Tryz.prog 225 hp (.mp o) (.int .i64 k) (.int .i64 n) K := by
  simp only [mapUpdateK, tMap225, hg]
  refine ⟨fits3 k, Nat.le_of_ble_eq_true rfl, keys225 es, rfl, rfl, ?_⟩
  have : setE (.int .i64 k) (.int .i64 n) (es.map ientE) = (es ++ [(k, n)]).map ientE := by
    have hf : foundE (.int .i64 k) (es.map ientE) = none := by rw [found225, hn]; rfl
    unfold setE
    have : (es.map ientE).findIdx? (fun e => (AV.int .i64 (k : Int)).eqb e.1) = none := by
      rw [List.findIdx?_eq_none_iff]
      intro e he
      unfold foundE at hf
      simp only [Option.map_eq_none_iff, List.find?_eq_none] at hf
      simpa using hf e he
    rw [this, List.map_append]
    rfl
  rw [this]
  exact h

/-- A node as it stands behind the cut. -/
def cutN (t : List Node) (i : Int) (es : List (Nat × Nat)) (k : Nat) : Node := { t.getD k zNode with parent := if (k : Int) = i then -1 else ((ilook es (t.getD k zNode).parent).getD 0 : Int) }
def cutS (t : List Node) (i : Int) (st : List (Nat × Nat) × List Node) (k : Nat) : List (Nat × Nat) × List Node :=
  if (k : Int) ≠ i ∧ ilook st.1 (t.getD k zNode).parent = none then st else (st.1 ++ [(k, st.2.length)], st.2 ++ [cutN t i st.1 k])
def cutTo (t : List Node) (i : Int) (k : Nat) : List (Nat × Nat) × List Node := (List.range k).foldl (cutS t i) ([], [])
theorem cutTo_next (t : List Node) (i : Int) (k : Nat) : cutTo t i (k + 1) = cutS t i (cutTo t i k) k := by
  unfold cutTo
  rw [List.range_succ, List.foldl_append]
  rfl
theorem cutTo_lt (t : List Node) (i : Int) : ∀ k, ∀ e ∈ (cutTo t i k).1, e.1 < k
  | 0, e, he => by cases he
  | k + 1, e, he => by
    rw [cutTo_next] at he
    unfold cutS at he
    split at he
    · have := cutTo_lt t i k e he; omega
    · rcases List.mem_append.1 he with h | h
      · have := cutTo_lt t i k e h; omega
      · rw [List.mem_singleton.1 h]; exact Nat.lt_succ_self k
theorem cutTo_len (t : List Node) (i : Int) : ∀ k, (cutTo t i k).2.length ≤ k
  | 0 => Nat.le_refl _
  | k + 1 => by
    have := cutTo_len t i k
    rw [cutTo_next]
    unfold cutS
    split
    · omega
    · show ((cutTo t i k).2 ++ [_]).length ≤ k + 1
      rw [List.length_append, List.length_singleton]; omega
theorem ilook_new {t : List Node} {i : Int} {k : Nat} : ilook (cutTo t i k).1 (k : Int) = none := by
  unfold ilook
  rw [Option.map_eq_none_iff, List.find?_eq_none]
  intro e he
  have := cutTo_lt t i k e he
  simp only [decide_eq_true_eq]
  omega
def cutR (t : List Node) (i : Int) : List Node := if isB t [i] then (cutTo t i t.length).2 else []
theorem cut_no (t : List Node) (i : Int) (h : isB t [i] = false) : Cal Tryz.prog 139 [tav t, .int .i64 i] (tav []) := by
  have c1 := And.intro (enters_of Tryz.func99 (by kernel_rfl) rfl) (is_pure t [i] (by simp))
  rw [h] at c1
  have hR : Tryz.f139.results.toList = [.cell 4 24] := rfl
  refine cal_tr Tryz.func139 rfl fun E hE hP => ?_
  exact mX
theorem cut_w (t : List Node) (i : Int) (ht : t.length ≤ 1000) (h : isB t [i] = true) : Cal Tryz.prog 139 [tav t, .int .i64 i] (tav (cutTo t i t.length).2) := by
  have c1 := And.intro (enters_of Tryz.func99 (by kernel_rfl) rfl) (is_pure t [i] (by simp))
  rw [h] at c1
  have hR : Tryz.f139.results.toList = [.cell 4 24] := rfl
  refine cal_tr Tryz.func139 rfl fun E hE hP => ?_
  refine mW ?_
  refine Tr.loop (fun k : Nat => (⟨[(1, .int .i64 i), (4, .ptr 0 [] 0), (5, .mp 1), (6, .ptr 2 [] 0), (19, .sl (t.map Node.av) false), (20, .int .i64 t.length), (21, .int .i64 k)], [(0, .var (.st [.sl [] true])), (1, .amap ((cutTo t i k).1.map ientE)), (2, .var (.st [.ms 3 35 (cutTo t i k).2.length])), (3, .row 35 ((cutTo t i k).2.map Node.av))], 4, []⟩ : S)) (fun k => k ≤ t.length) (fun k => t.length - k) 0 (Nat.zero_le _) ?_ ?_
  · refine Wk.trans (Wk.nilSt 144 35 rfl) ?_
    have e0 : cutTo t i 0 = ([], []) := rfl
    rw [e0]
    simp only [HP.set, List.map_cons, List.map_nil, List.length_nil, go_sem, seval]
    refine wk_ren (fun | 0 => 16 | 1 => 112 | 2 => 144 | 3 => 224 | n => n) mB mB rfl rfl rfl
  · intro k hk
    by_cases hlt : k < t.length
    · have e1 : decide ((k : Int) < (t.length : Int)) = true := decide_eq_true (by omega)
      have hn := nth_node hlt
      have hw := wrap_next (n := k) (by omega)
      have hnx := cutTo_next t i k
      have hnew := ilook_new (t := t) (i := i) (k := k)
      have hlen := cutTo_len t i k
      unfold cutS cutN at hnx
      generalize cutTo t i k = st at hnx hnew hlen
      obtain ⟨es, out⟩ := st
      simp only at hnx hnew hlen
      generalize t.getD k zNode = n at hn hnx
      obtain ⟨r, p, s, j⟩ := n
      simp only at hnx
      have ff := And.intro e1 (And.intro hn hw)
      refine mW ?_
      first | apply tr_m (by rw [hE]; rfl) | (refine Tr.seq ?_; apply tr_m (by rw [hE]; rfl))
      intro Q hQ
      simp only [go_sem, seval]
      iterate 3 refine mV ?_
      (refine vm_op ?_); intro r hr; simp only [go_sem, seval]
      refine look225 rfl ?_
      try simp only [go_sem, seval]
      subst hr
      iterate 5 refine mV ?_
      exact hQ
      by_cases hki : (k : Int) = i
      · have e2 : decide ((k : Int) = i) = true := decide_eq_true hki
        rw [if_neg (fun h => h.1 hki), if_pos hki] at hnx
        have ff := And.intro e1 (And.intro e2 hw)
        refine mW ?_
        first | apply tr_m (by rw [hE]; rfl) | (refine Tr.seq ?_; apply tr_m (by rw [hE]; rfl))
        intro Q hQ
        simp only [go_sem, seval]
        iterate 5 refine mV ?_
        (refine vm_op ?_); intro r hr; simp only [go_sem, seval]
        refine upd225 rfl hnew ?_
        try simp only [go_sem, seval]
        subst hr
        exact hQ
        refine mW ?_
        apply tr_ml (by rw [hE]; rfl)
        intro Q hQ
        simp only [go_sem, seval]
        iterate 4 ((refine vm_op ?_); intro r hr; simp only [List.filter_cons, List.filter_nil, Bool.not_false, Bool.not_true, if_true, Bool.false_eq_true, if_false, go_sem, seval]; subst hr)
        (refine vm_op ?_); intro r hr; simp only [List.filter_cons, List.filter_nil, Bool.not_false, Bool.not_true, if_true, Bool.false_eq_true, if_false, go_sem, seval]
        refine ⟨by omega, by omega, ?_⟩
        try simp only [List.filter_cons, List.filter_nil, Bool.not_false, Bool.not_true, if_true, Bool.false_eq_true, if_false, go_sem, seval]
        subst hr
        iterate 2 ((refine vm_op ?_); intro r hr; simp only [List.filter_cons, List.filter_nil, Bool.not_false, Bool.not_true, if_true, Bool.false_eq_true, if_false, go_sem, seval]; subst hr)
        exact hQ
        refine mW ?_
        refine ⟨k + 1, hlt, by omega, ?_⟩
        rw [hnx]
        simp only [List.map_append, List.length_append, List.length_singleton]
        refine wk_ren (fun | 3 => 612 | n => n) mB mB rfl rfl rfl
      · have e2 : decide ((k : Int) = i) = false := decide_eq_false hki
        cases hl : ilook es p with
        | none =>
          have e3 : (ilook es p).isSome = false := by rw [hl]; rfl
          rw [if_pos ⟨hki, hl⟩] at hnx
          have ff := And.intro e1 (And.intro e2 (And.intro hw e3))
          refine mW ?_
          refine ⟨k + 1, hlt, by omega, ?_⟩
          rw [hnx]
          exact mK
        | some q =>
          have e3 : (ilook es p).isSome = true := by rw [hl]; rfl
          rw [if_neg (fun h => by rw [hl] at h; cases h.2), if_neg hki, hl] at hnx
          have ff := And.intro e1 (And.intro e2 (And.intro hw e3))
          refine mW ?_
          first | apply tr_m (by rw [hE]; rfl) | (refine Tr.seq ?_; apply tr_m (by rw [hE]; rfl))
          intro Q hQ
          simp only [go_sem, seval]
          iterate 5 refine mV ?_
          (refine vm_op ?_); intro r hr; simp only [go_sem, seval]
          refine upd225 rfl hnew ?_
          try simp only [go_sem, seval]
          subst hr
          exact hQ
          refine mW ?_
          apply tr_ml (by rw [hE]; rfl)
          intro Q hQ
          simp only [go_sem, seval]
          iterate 4 ((refine vm_op ?_); intro r hr; simp only [List.filter_cons, List.filter_nil, Bool.not_false, Bool.not_true, if_true, Bool.false_eq_true, if_false, go_sem, seval]; subst hr)
          (refine vm_op ?_); intro r hr; simp only [List.filter_cons, List.filter_nil, Bool.not_false, Bool.not_true, if_true, Bool.false_eq_true, if_false, go_sem, seval]
          refine ⟨by omega, by omega, ?_⟩
          try simp only [List.filter_cons, List.filter_nil, Bool.not_false, Bool.not_true, if_true, Bool.false_eq_true, if_false, go_sem, seval]
          subst hr
          iterate 2 ((refine vm_op ?_); intro r hr; simp only [List.filter_cons, List.filter_nil, Bool.not_false, Bool.not_true, if_true, Bool.false_eq_true, if_false, go_sem, seval]; subst hr)
          exact hQ
          refine mW ?_
          refine ⟨k + 1, hlt, by omega, ?_⟩
          rw [hnx]
          simp only [List.map_append, List.length_append, List.length_singleton]
          refine wk_ren (fun | 3 => 628 | n => n) mB mB rfl rfl rfl
    · have e1 : decide ((k : Int) < (t.length : Int)) = false := decide_eq_false (by omega)
      have hil : k = t.length := by omega
      subst hil
      generalize (cutTo t i t.length).2 = O
      generalize (cutTo t i t.length).1 = es
      have ff := e1
      refine mW ?_
      refine Tr.wk (Wk.frzH [3]) ?_
      have hlen : (O.map Node.av).length = O.length := List.length_map _
      simp only [frzHP, frzA, AV.frz, AV.frzL, List.map_cons, List.map_nil, hlen, go_sem, seval]
      exact mX
theorem cut_c (t : List Node) (i : Int) (ht : t.length ≤ 1000) : Cal Tryz.prog 139 [tav t, .int .i64 i] (tav (cutR t i)) := by
  unfold cutR
  cases h : isB t [i]
  · exact cut_no t i h
  · exact cut_w t i ht h

/-- Those below a number that descend from a node; how many there are. -/
def keptL (t : List Node) (i : Int) (m : Nat) : List Nat := (List.range m).filter fun k => aboveF t i k
def phi (t : List Node) (i : Int) (k : Nat) : Nat := (keptL t i k).length
def nodeC (t : List Node) (i : Int) (k : Nat) : Node := { t.getD k zNode with parent := if (k : Int) = i then -1 else (phi t i (parI t k).toNat : Int) }
theorem keptL_succ (t : List Node) (i : Int) (m : Nat) : keptL t i (m + 1) = keptL t i m ++ (if aboveF t i m then [m] else []) := by
  unfold keptL
  rw [List.range_succ, List.filter_append]
  cases h : aboveF t i m <;> simp [h]
theorem keptL_mem {t : List Node} {i : Int} {m k : Nat} : k ∈ keptL t i m ↔ k < m ∧ aboveF t i k = true := by simp [keptL]
theorem ilook_map (f : Nat → Nat) : ∀ (L : List Nat) (p : Int), ilook (L.map fun k => (k, f k)) p = if 0 ≤ p ∧ p.toNat ∈ L then some (f p.toNat) else none
  | [], p => by simp [ilook]
  | a :: L, p => by
    have ih := ilook_map f L p
    unfold ilook at ih ⊢
    rw [List.map_cons, List.find?_cons]
    by_cases h : p = (a : Int)
    · subst h
      rw [decide_eq_true (show (a : Int) = (((a, f a) : Nat × Nat).1 : Int) from rfl)]
      simp
    · rw [decide_eq_false (show ¬ p = (((a, f a) : Nat × Nat).1 : Int) from h)]
      simp only
      rw [ih]
      have : (0 ≤ p ∧ p.toNat ∈ a :: L) ↔ (0 ≤ p ∧ p.toNat ∈ L) := by
        rw [List.mem_cons]
        constructor
        · rintro ⟨h0, h1 | h1⟩
          · exact absurd (by omega) h
          · exact ⟨h0, h1⟩
        · rintro ⟨h0, h1⟩
          exact ⟨h0, .inr h1⟩
      simp only [this]
theorem nodup_map_on {α β : Type} {f : α → β} : ∀ l : List α, l.Nodup → (∀ a ∈ l, ∀ b ∈ l, f a = f b → a = b) → (l.map f).Nodup
  | [], _, _ => List.nodup_nil
  | x :: l, h, hf => by
    rw [List.nodup_cons] at h
    rw [List.map_cons, List.nodup_cons]
    refine ⟨fun hx => ?_, nodup_map_on l h.2 fun a ha b hb => hf a (List.mem_cons_of_mem _ ha) b (List.mem_cons_of_mem _ hb)⟩
    obtain ⟨y, hy, he⟩ := List.mem_map.1 hx
    have := hf y (List.mem_cons_of_mem _ hy) x List.mem_cons_self he
    exact h.1 (this ▸ hy)
theorem aboveF_neg (t : List Node) (i : Int) : aboveF t i (-1) = false := rfl
section
variable {t : List Node} {i : Int}
theorem aboveF_ge (hm : mayB t = true) {a : Int} (h0 : 0 ≤ a) (h1 : a < t.length) (h : aboveF t i a = true) : i ≤ a := aboveF_le hm (a.toNat + 1) a (by omega) h0 h1 h
/-- The parent of one that descends from a node, and is not it, descends from it. -/
theorem par_kept (hm : mayB t = true) {k : Nat} (hk : k < t.length) (hki : (k : Int) ≠ i) : aboveF t i k = true ↔ (0 ≤ parI t k ∧ (parI t k).toNat ∈ keptL t i k) := by
  have hp := par_range hm (a := (k : Int)) (by omega) (by omega)
  rw [aboveF_step hm (by omega) (by omega), if_neg hki]
  constructor
  · intro h
    split at h
    · cases h
    · rcases hp with hp | hp
      · rw [hp, aboveF_neg] at h; cases h
      · refine ⟨hp.1, keptL_mem.2 ⟨by omega, ?_⟩⟩
        rw [Int.toNat_of_nonneg hp.1]
        exact h
  · rintro ⟨h2, h3⟩
    obtain ⟨h4, h5⟩ := keptL_mem.1 h3
    rw [Int.toNat_of_nonneg h2] at h5
    have := aboveF_ge hm (a := parI t k) h2 (by omega) h5
    rw [if_neg (by omega)]
    exact h5
theorem cutTo_eq (hm : mayB t = true) : ∀ m, m ≤ t.length → cutTo t i m = ((keptL t i m).map fun k => (k, phi t i k), (keptL t i m).map (nodeC t i))
  | 0, _ => rfl
  | m + 1, h => by
    have ih := cutTo_eq hm m (by omega)
    have hpar : (t.getD m zNode).parent = parI t m := by unfold parI; rw [Int.toNat_natCast]
    rw [cutTo_next, ih, keptL_succ]
    unfold cutS cutN
    simp only
    rw [hpar, ilook_map, List.length_map]
    by_cases hmi : (m : Int) = i
    · have hk : aboveF t i m = true := by rw [aboveF_step hm (by omega) (by omega), if_pos hmi]
      rw [if_neg (fun h => h.1 hmi), hk, if_pos rfl, List.map_append, List.map_append]
      unfold nodeC
      rw [if_pos hmi]
      simp only [List.map_cons, List.map_nil]
      rw [if_pos hmi]
      rfl
    · have hk := par_kept hm (i := i) (show m < t.length by omega) hmi
      by_cases hp : 0 ≤ parI t m ∧ (parI t m).toNat ∈ keptL t i m
      · rw [if_pos hp, if_neg (fun h => by cases h.2), hk.2 hp, if_pos rfl, List.map_append, List.map_append, if_neg hmi]
        simp only [List.map_cons, List.map_nil, Option.getD_some]
        unfold nodeC
        rw [if_neg hmi]
        rfl
      · have hf : aboveF t i m = false := by
          cases h : aboveF t i m
          · rfl
          · exact absurd (hk.1 h) hp
        rw [if_neg hp, if_pos ⟨hmi, rfl⟩, hf]
        simp
theorem keptL_split {k M : Nat} (hk : k < M) (ha : aboveF t i k = true) : ∃ r, keptL t i M = keptL t i k ++ k :: r := by
  refine ⟨((List.range M).drop (k + 1)).filter fun k => aboveF t i k, ?_⟩
  have h1 := List.take_append_drop k (List.range M)
  rw [List.take_range, Nat.min_eq_left (by omega), List.drop_eq_getElem_cons (by simpa using hk), List.getElem_range] at h1
  unfold keptL
  conv => lhs; rw [← h1]
  rw [List.filter_append, List.filter_cons, if_pos ha]
theorem keptL_at {k M : Nat} (hk : k < M) (ha : aboveF t i k = true) : (keptL t i M)[phi t i k]? = some k ∧ phi t i k < (keptL t i M).length := by
  obtain ⟨r, hr⟩ := keptL_split (M := M) hk ha
  rw [hr]
  unfold phi
  refine ⟨by simp, by rw [List.length_append, List.length_cons]; omega⟩
theorem keptL_nodup (M : Nat) : (keptL t i M).Nodup := List.Nodup.sublist List.filter_sublist List.nodup_range
theorem keptL_back {M j : Nat} (hj : j < (keptL t i M).length) : ∃ k, k < M ∧ aboveF t i k = true ∧ phi t i k = j := by
  have hmem := List.getElem_mem hj
  obtain ⟨h1, h2⟩ := keptL_mem.1 hmem
  refine ⟨_, h1, h2, ?_⟩
  obtain ⟨h3, h4⟩ := keptL_at h1 h2
  exact (List.getElem?_inj h4 (keptL_nodup M)).1 (by rw [h3, List.getElem?_eq_getElem hj])
theorem phi_lt {a b : Nat} (h : a < b) (ha : aboveF t i a = true) : phi t i a < phi t i b := by
  obtain ⟨r, hr⟩ := keptL_split (M := b) h ha
  unfold phi
  rw [hr, List.length_append, List.length_cons]
  omega
theorem phi_inj {a b : Nat} (ha : aboveF t i a = true) (hb : aboveF t i b = true) : phi t i a = phi t i b ↔ a = b := by
  constructor
  · intro h
    rcases Nat.lt_trichotomy a b with h1 | h1 | h1
    · have := phi_lt h1 ha; omega
    · exact h1
    · have := phi_lt h1 hb; omega
  · rintro rfl; rfl
theorem phi_first (hm : mayB t = true) {k : Nat} (hk : (k : Int) = i) (hk1 : k < t.length) : phi t i k = 0 := by
  unfold phi
  refine List.length_eq_zero_iff.2 (List.eq_nil_iff_forall_not_mem.2 fun a ha => ?_)
  obtain ⟨h1, h2⟩ := keptL_mem.1 ha
  have := aboveF_ge hm (a := (a : Int)) (by omega) (by omega) h2
  omega
/-- Where a cut may be. -/
structure CutAt (t : List Node) (i : Int) : Prop where
  may : mayB t = true
  low : 0 ≤ i
  high : i < t.length
theorem CutAt.self (h : CutAt t i) : aboveF t i i = true := by rw [aboveF_step h.may h.low h.high, if_pos rfl]
theorem CutAt.eq (h : CutAt t i) : cutR t i = (keptL t i t.length).map (nodeC t i) := by
  unfold cutR
  have : isB t [i] = true := by
    have h1 := isB_one h.may (k := i.toNat) (by have := h.low; have := h.high; omega)
    rwa [Int.toNat_of_nonneg h.low] at h1
  rw [if_pos this, cutTo_eq h.may t.length (Nat.le_refl _)]
theorem CutAt.len (h : CutAt t i) : (cutR t i).length = (keptL t i t.length).length := by rw [h.eq, List.length_map]
theorem CutAt.at (h : CutAt t i) {k : Nat} (hk : k < t.length) (ha : aboveF t i k = true) : phi t i k < (cutR t i).length ∧ (cutR t i).getD (phi t i k) zNode = nodeC t i k := by
  obtain ⟨h1, h2⟩ := keptL_at hk ha
  rw [h.len]
  refine ⟨h2, ?_⟩
  rw [h.eq, List.getD_eq_getElem?_getD, List.getElem?_map, h1]
  rfl
theorem CutAt.back (h : CutAt t i) {j : Nat} (hj : j < (cutR t i).length) : ∃ k, k < t.length ∧ aboveF t i k = true ∧ phi t i k = j := keptL_back (by rw [← h.len]; exact hj)
theorem CutAt.par (h : CutAt t i) {k : Nat} (hk : k < t.length) (ha : aboveF t i k = true) : parI (cutR t i) (phi t i k : Nat) = if (k : Int) = i then -1 else (phi t i (parI t k).toNat : Int) := by
  unfold parI
  rw [Int.toNat_natCast, (h.at hk ha).2]
  rfl
theorem CutAt.fits (h : CutAt t i) {j : Nat} (hj : j < (cutR t i).length) : fitsB (cutR t i) j = true := by
  obtain ⟨k, hk, ha, rfl⟩ := h.back hj
  have hf := (mayT_spec.1 h.may).2.1 k hk
  rw [fits_at hk] at hf
  rw [fits_at hj, (h.at hk ha).2]
  have hslot : (t.getD k zNode).slot ≤ 1099511627776 := by
    split at hf
    · simp only [Bool.and_eq_true, decide_eq_true_eq] at hf; exact hf.2
    · simp only [Bool.and_eq_true, decide_eq_true_eq] at hf; exact hf.1.2
  by_cases hki : (k : Int) = i
  · rw [if_pos (phi_first h.may hki hk)]
    unfold nodeC
    rw [if_pos hki, decide_eq_true rfl, decide_eq_true hslot]
    rfl
  · have hne : phi t i k ≠ 0 := by
      have h1 := aboveF_ge h.may (a := (k : Int)) (by omega) (by omega) ha
      have hii : aboveF t i (i.toNat : Nat) = true := by rw [Int.toNat_of_nonneg h.low]; exact h.self
      have h2 := h.low
      have := phi_lt (i := i) (a := i.toNat) (b := k) (by omega) hii
      omega
    obtain ⟨hp0, hpm⟩ := (par_kept h.may hk hki).1 ha
    obtain ⟨hp1, hp2⟩ := keptL_mem.1 hpm
    have hparI : parI t k = (t.getD k zNode).parent := by unfold parI; rw [Int.toNat_natCast]
    rw [if_neg hne]
    unfold nodeC
    rw [if_neg hki]
    simp only
    have h1 := phi_lt hp1 hp2
    rw [Int.toNat_natCast, (h.at (show (parI t k).toNat < t.length by omega) hp2).2]
    have h2 : (nodeC t i (parI t k).toNat).slot = (t.getD (parI t k).toNat zNode).slot := rfl
    have hk0 : k ≠ 0 := fun hk0 => by
      subst hk0
      rw [if_pos rfl] at hf
      simp only [Bool.and_eq_true, decide_eq_true_eq] at hf
      rw [hparI] at hp0
      omega
    rw [if_neg hk0] at hf
    simp only [Bool.and_eq_true, decide_eq_true_eq] at hf
    rw [h2, hparI, decide_eq_true hf.2, decide_eq_true hslot, decide_eq_true (by omega), decide_eq_true (by rw [← hparI]; omega)]
    rfl
theorem CutAt.roots (h : CutAt t i) : (cutR t i).map Node.root = (keptL t i t.length).map fun k => (t.getD k zNode).root := by
  rw [h.eq, List.map_map]
  rfl
theorem root_inj (hm : mayB t = true) {a b : Nat} (ha : a < t.length) (hb : b < t.length) (h : (t.getD a zNode).root = (t.getD b zNode).root) : a = b := by
  have h1 := find_self hm ha
  have h2 := find_self hm hb
  rw [h] at h1
  omega
theorem CutAt.may' (h : CutAt t i) : mayB (cutR t i) = true := by
  refine mayT_spec.2 ⟨⟨?_, ?_⟩, fun j hj => h.fits hj, ?_⟩
  · have hii : aboveF t i (i.toNat : Nat) = true := by rw [Int.toNat_of_nonneg h.low]; exact h.self
    have := (h.at (show i.toNat < t.length by have := h.low; have := h.high; omega) hii).1
    omega
  · rw [h.len]
    have h1 : (keptL t i t.length).length ≤ t.length := by
      have := List.length_filter_le (fun k : Nat => aboveF t i k) (List.range t.length)
      rwa [List.length_range] at this
    have := (may_len h.may).2
    omega
  · rw [h.roots]
    refine nodup_map_on _ (keptL_nodup _) ?_
    intro a ha b hb hab
    exact root_inj h.may (keptL_mem.1 ha).1 (keptL_mem.1 hb).1 hab
/-! Who is above whom, and where a root is. -/
theorem CutAt.kept_par (h : CutAt t i) {k : Nat} (hk : k < t.length) (ha : aboveF t i k = true) (hki : (k : Int) ≠ i) : 0 ≤ parI t k ∧ (parI t k).toNat < k ∧ aboveF t i (parI t k).toNat = true := by
  obtain ⟨h1, h2⟩ := (par_kept h.may hk hki).1 ha
  obtain ⟨h3, h4⟩ := keptL_mem.1 h2
  exact ⟨h1, h3, h4⟩
theorem CutAt.above (h : CutAt t i) {x : Nat} (hx : aboveF t i x = true) : ∀ (n a : Nat), a < n → a < t.length → aboveF t i a = true → aboveF (cutR t i) (phi t i x : Nat) (phi t i a : Nat) = aboveF t x a
  | 0, a, hn, _, _ => by omega
  | n + 1, a, hn, ha, hk => by
    have hlt := (h.at ha hk).1
    rw [aboveF_step h.may' (by omega) (by omega), aboveF_step h.may (by omega) (by omega)]
    by_cases hax : a = x
    · subst hax
      rw [if_pos rfl, if_pos rfl]
    · have hne : phi t i a ≠ phi t i x := fun hh => hax ((phi_inj hk hx).1 hh)
      rw [if_neg (show ¬ ((phi t i a : Nat) : Int) = (phi t i x : Nat) by omega), if_neg (show ¬ (a : Int) = (x : Nat) by omega)]
      by_cases hlt2 : a < x
      · have := phi_lt hlt2 hk
        rw [if_pos (show ((phi t i a : Nat) : Int) < (phi t i x : Nat) by omega), if_pos (show (a : Int) < (x : Nat) by omega)]
      · have := phi_lt (show x < a by omega) hx
        rw [if_neg (show ¬ ((phi t i a : Nat) : Int) < (phi t i x : Nat) by omega), if_neg (show ¬ (a : Int) < (x : Nat) by omega)]
        have hai : (a : Int) ≠ i := fun hh => by
          have := phi_first h.may hh ha
          omega
        obtain ⟨p0, p1, p2⟩ := h.kept_par ha hk hai
        rw [h.par ha hk, if_neg hai, h.above hx n (parI t a).toNat (by omega) (by omega) p2, Int.toNat_of_nonneg p0]
theorem CutAt.aboveR (h : CutAt t i) {x a : Nat} (hx : x < t.length) (ha : a < t.length) (kx : aboveF t i x = true) (ka : aboveF t i a = true) : Go.Proofs.YtgnidooihignfaaGreatDoor.aboveR (cutR t i) (phi t i x : Nat) (phi t i a : Nat) = Go.Proofs.YtgnidooihignfaaGreatDoor.aboveR t x a := by
  have h1 := (h.at hx kx).1
  have h2 := (h.at ha ka).1
  unfold Go.Proofs.YtgnidooihignfaaGreatDoor.aboveR
  rw [isB_in h.may', isB_in h.may, h.above kx (a + 1) a (by omega) ha ka]
  rw [decide_eq_true (show 0 ≤ ((phi t i x : Nat) : Int) ∧ ((phi t i x : Nat) : Int) < ((cutR t i).length : Int) by omega), decide_eq_true (show 0 ≤ ((phi t i a : Nat) : Int) ∧ ((phi t i a : Nat) : Int) < ((cutR t i).length : Int) by omega), decide_eq_true (show 0 ≤ (x : Int) ∧ (x : Int) < (t.length : Int) by omega), decide_eq_true (show 0 ≤ (a : Int) ∧ (a : Int) < (t.length : Int) by omega)]
/-- A root that is there: at which place. -/
theorem find_at {r : Root} (h : 0 ≤ findR t r) : ∃ k : Nat, findR t r = k ∧ k < t.length ∧ (t.getD k zNode).root = r := by
  have h1 := (findR_range t r).resolve_left (by omega)
  have h2 := find_root h
  exact ⟨(findR t r).toNat, by omega, by omega, h2⟩
theorem CutAt.find (h : CutAt t i) (r : Root) : findR (cutR t i) r = if 0 ≤ findR t r ∧ aboveF t i (findR t r) = true then (phi t i (findR t r).toNat : Int) else -1 := by
  by_cases hc : 0 ≤ findR t r ∧ aboveF t i (findR t r) = true
  · rw [if_pos hc]
    obtain ⟨k, h1, h2, h3⟩ := find_at hc.1
    have ka := hc.2
    rw [h1] at ka ⊢
    rw [Int.toNat_natCast]
    obtain ⟨h4, h5⟩ := h.at h2 ka
    have h6 := find_self h.may' h4
    rw [h5] at h6
    have h7 : (nodeC t i k).root = r := h3
    rwa [h7] at h6
  · rw [if_neg hc]
    refine (findR_range (cutR t i) r).resolve_right fun h1 => hc ?_
    obtain ⟨j, h2, h3, h4⟩ := find_at h1.1
    obtain ⟨k, h5, h6, h7⟩ := h.back h3
    subst h7
    rw [(h.at h5 h6).2] at h4
    have h8 : (t.getD k zNode).root = r := h4
    have h9 := find_self h.may h5
    rw [h8] at h9
    rw [h9]
    exact ⟨by omega, h6⟩
/-- Is a root there behind the cut? -/
def inC (t : List Node) (i : Int) (r : Root) : Bool := decide (0 ≤ findR t r) && aboveF t i (findR t r)
theorem CutAt.find' (h : CutAt t i) (r : Root) : findR (cutR t i) r = if inC t i r then (phi t i (findR t r).toNat : Int) else -1 := by
  rw [h.find]
  unfold inC
  by_cases h1 : 0 ≤ findR t r <;> cases h2 : aboveF t i (findR t r) <;> simp [h1]
theorem CutAt.in_roots (h : CutAt t i) (r : Root) : r ∈ (cutR t i).map Node.root ↔ inC t i r = true := by
  rw [← find_mem h.may', h.find']
  cases inC t i r <;> simp
theorem inC_spec {r : Root} (h : inC t i r = true) : ∃ k : Nat, findR t r = k ∧ k < t.length ∧ aboveF t i k = true := by
  unfold inC at h
  rw [Bool.and_eq_true, decide_eq_true_eq] at h
  obtain ⟨k, h1, h2, _⟩ := find_at h.1
  exact ⟨k, h1, h2, by rw [← h1]; exact h.2⟩
theorem CutAt.behind (h : CutAt t i) {c f : Check} (hc : inC t i c.root = true) (hf : inC t i f.root = true) : behindB (cutR t i) c f = behindB t c f := by
  obtain ⟨k, h1, h2, h3⟩ := inC_spec hc
  obtain ⟨j, g1, g2, g3⟩ := inC_spec hf
  unfold behindB
  rw [h.find', h.find', hc, hf, if_pos rfl, if_pos rfl, h1, g1, Int.toNat_natCast, Int.toNat_natCast, h.aboveR g2 h2 g3 h3]
end

def insRt (es : List Root) (r : Root) : List Root := if r ∈ es then es else es ++ [r]
def rootE (r : Root) : AV × AV := (.root r, .bool true)
theorem tMap228 : tMap Tryz.prog 228 = some (34, 4) := by kernel_rfl
theorem keys228 (es : List Root) : keysFit Tryz.prog 34 (es.map rootE) := fun e he => by
  obtain ⟨x, _, rfl⟩ := List.mem_map.1 he
  exact fits23 x
theorem find_rootE (es : List Root) (r : Root) : (es.map rootE).findIdx? (fun e => (AV.root r).eqb e.1) = es.findIdx? fun e => decide (r = e) := by
  rw [List.findIdx?_map]
  congr 1
theorem found228 (es : List Root) (r : Root) : foundE (.root r) (es.map rootE) = if r ∈ es then some (.bool true) else none := by
  unfold foundE
  induction es with
  | nil => rfl
  | cons e es ih =>
    have hb : (AV.root r).eqb (rootE e).1 = decide (r = e) := rfl
    simp only [List.map_cons, List.find?_cons, hb]
    by_cases h : r = e
    · rw [decide_eq_true h, if_pos (by simp [h])]; rfl
    · rw [decide_eq_false h]
      have : (r ∈ e :: es) ↔ r ∈ es := by simp [h]
      simp only [this]
      exact ih
theorem look228 {hp : HP} {o : Nat} {es : List Root} {r : Root} {K : AV → Prop} (hg : HP.get hp o = some (.amap (es.map rootE))) (h : K (.bool (decide (r ∈ es)))) : lookupK Tryz.prog 228 hp (.mp o) (.root r) false K := by
  simp only [lookupK, tMap228, hg, ctZero4, Bool.false_eq_true, if_false]
  refine ⟨fits23 r, depth23 r, keys228 es, ?_⟩
  rw [found228]
  by_cases hm : r ∈ es
  · rw [if_pos hm]; rw [decide_eq_true hm] at h; exact h
  · rw [if_neg hm]; rw [decide_eq_false hm] at h; exact h
theorem upd228 {hp : HP} {o : Nat} {es : List Root} {r : Root} {K : AV → HP → Prop} (hg : HP.get hp o = some (.amap (es.map rootE))) (h : K (.tup []) (HP.set hp o (.amap ((insRt es r).map rootE)))) : mapUpdateK Tryz.prog 228 hp (.mp o) (.root r) (.bool true) K := by
  simp only [mapUpdateK, tMap228, hg]
  refine ⟨fits23 r, depth23 r, keys228 es, rfl, rfl, ?_⟩
  have : setE (.root r) (.bool true) (es.map rootE) = (insRt es r).map rootE := by
    unfold setE insRt
    rw [find_rootE]
    cases hf : es.findIdx? fun e => decide (r = e) with
    | none =>
      have hn : r ∉ es := fun hm => by simpa using List.findIdx?_eq_none_iff.1 hf r hm
      rw [if_neg hn, List.map_append]
      rfl
    | some k =>
      obtain ⟨h1, h2, _⟩ := List.findIdx?_eq_some_iff_getElem.1 hf
      have he : es[k] = r := (of_decide_eq_true h2).symm
      rw [if_pos (he ▸ List.getElem_mem h1)]
      show (es.map rootE).set k (rootE r) = es.map rootE
      rw [← he]
      apply List.ext_getElem (by simp)
      intro j h3 h4
      rw [List.getElem_set]
      split
      · rename_i hkj
        subst hkj
        simp
      · rfl
  rw [this]
  exact h
theorem insRt_mem (es : List Root) (r x : Root) : x ∈ insRt es r ↔ x ∈ es ∨ x = r := by
  unfold insRt
  split
  · rename_i h
    constructor
    · exact fun hx => .inl hx
    · rintro (hx | rfl)
      · exact hx
      · exact h
  · simp
def keepTo (rs : List Root) (i : Nat) : List Root := (rs.take i).foldl insRt []
theorem foldl_insRt (x : Root) : ∀ (rs es : List Root), x ∈ rs.foldl insRt es ↔ x ∈ es ∨ x ∈ rs
  | [], es => by simp
  | c :: rs, es => by
    rw [List.foldl_cons, foldl_insRt x rs (insRt es c), insRt_mem]
    simp only [List.mem_cons]
    constructor
    · rintro ((h | h) | h)
      · exact .inl h
      · exact .inr (.inl h)
      · exact .inr (.inr h)
    · rintro (h | h | h)
      · exact .inl (.inl h)
      · exact .inl (.inr h)
      · exact .inr h
def dropX (rs : List Root) (x : Latest) : Latest := if x.root ∈ rs then x else zLatest
def dropL (rs : List Root) (vl : List Latest) : List Latest := vl.map (dropX rs)
def dropTo (rs : List Root) (vl : List Latest) (i : Nat) : List Latest := dropL rs (vl.take i) ++ vl.drop i
theorem dropTo_next (rs : List Root) (vl : List Latest) (i : Nat) (h : i < vl.length) : dropTo rs vl (i + 1) = (dropTo rs vl i).set i (dropX rs vl[i]) := by
  have hl : (dropL rs (vl.take i)).length = i := by rw [dropL, List.length_map, List.length_take, Nat.min_eq_left (by omega)]
  unfold dropTo
  rw [List.set_append_right _ _ (by omega), hl, Nat.sub_self, List.drop_eq_getElem_cons h, List.set_cons_zero, List.take_add_one, List.getElem?_eq_getElem h, Option.toList_some, dropL, List.map_append, List.append_assoc]
  rfl
theorem dropTo_at (rs : List Root) (vl : List Latest) (i : Nat) (h : i < vl.length) : (dropTo rs vl i)[i]? = some vl[i] := by
  have hl : (dropL rs (vl.take i)).length = i := by rw [dropL, List.length_map, List.length_take, Nat.min_eq_left (by omega)]
  unfold dropTo
  rw [List.getElem?_append_right (by omega), hl, Nat.sub_self, List.getElem?_drop, Nat.add_zero, List.getElem?_eq_getElem h]
theorem vdrop_w (vl : List Latest) (o : Int) (rs : List Root) (hl : vl.length ≤ 1000) (hr : rs.length ≤ 1000) (hm : vmayB vl o = true) : Cal Tryz.prog 142 [vav vl o, .sl (rs.map AV.root) false] (vav (dropL rs vl) o) := by
  have o1 := vown_o vl o hl
  have c1 := vmay_c vl o
  rw [hm] at c1
  have hR : Tryz.f142.results.toList = [.cell 4 29] := rfl
  refine cal_tr Tryz.func142 rfl fun E hE hP => ?_
  refine mW ?_
  refine Tr.loop (fun i : Nat => (⟨[(4, .ptr 0 [] 0), (5, .ptr 1 [] 0), (6, .mp 3), (18, .sl (rs.map AV.root) false), (19, .int .i64 rs.length), (20, .int .i64 i)], [(0, .var (.st [.sl [] true, .int .u64 0])), (1, .var (.st [.ms 2 34 vl.length, .int .u64 o])), (2, .row 34 (vl.map Latest.av)), (3, .amap ((keepTo rs i).map rootE))], 4, []⟩ : S)) (fun i => i ≤ rs.length) (fun i => rs.length - i) 0 (Nat.zero_le _) ?_ ?_
  · refine wk_ren (fun | 0 => 16 | 1 => 64 | 2 => 48 | 3 => 144 | n => n) mB mB rfl rfl rfl
  · intro i hi
    by_cases hlt : i < rs.length
    · have e1 : decide ((i : Int) < (rs.length : Int)) = true := decide_eq_true (by omega)
      have hn := nth_map_lt AV.root rs i hlt
      have hw := wrap_next (n := i) (by omega)
      have hnx : keepTo rs (i + 1) = insRt (keepTo rs i) rs[i] := foldl_next insRt [] hlt
      generalize keepTo rs i = es at hnx
      generalize rs[i] = r at hn hnx
      have ff := And.intro e1 (And.intro hn hw)
      refine mW ?_
      apply tr_ml (by rw [hE]; rfl)
      intro Q hQ
      simp only [go_sem, seval]
      iterate 2 refine mV ?_
      (refine vm_op ?_); intro r hr; simp only [go_sem, seval]
      refine upd228 rfl ?_
      try simp only [go_sem, seval]
      subst hr
      exact hQ
      refine mW ?_
      refine ⟨i + 1, hlt, by omega, ?_⟩
      rw [hnx]
      exact mK
    · have e1 : decide ((i : Int) < (rs.length : Int)) = false := decide_eq_false (by omega)
      have hil : i = rs.length := by omega
      subst hil
      have hes : ∀ r, r ∈ keepTo rs rs.length ↔ r ∈ rs := fun r => by
        unfold keepTo
        rw [List.take_length, foldl_insRt]
        simp
      generalize keepTo rs rs.length = es at hes
      have ff := e1
      refine mW ?_
      refine Tr.loop (fun i : Nat => (⟨[(4, .ptr 0 [] 0), (5, .ptr 1 [] 0), (6, .mp 3), (28, .ms 2 34 vl.length), (29, .int .i64 vl.length), (30, .int .i64 i)], [(0, .var (.st [.sl [] true, .int .u64 0])), (1, .var (.st [.ms 2 34 vl.length, .int .u64 o])), (2, .row 34 ((dropTo rs vl i).map Latest.av)), (3, .amap (es.map rootE))], 4, []⟩ : S)) (fun i => i ≤ vl.length) (fun i => vl.length - i) 0 (Nat.zero_le _) ?_ ?_
      · have e0 : dropTo rs vl 0 = vl := rfl
        rw [e0]
        exact mK
      · intro i hi
        by_cases hlt : i < vl.length
        · have e1 : decide ((i : Int) < (vl.length : Int)) = true := decide_eq_true (by omega)
          have hw := wrap_next (n := i) (by omega)
          have hat := dropTo_at rs vl i hlt
          have hnx := dropTo_next rs vl i hlt
          have hx : ((dropTo rs vl i).map Latest.av)[i]? = some vl[i].av := by rw [List.getElem?_map, hat]; rfl
          generalize dropTo rs vl i = L at hat hnx hx
          generalize vl[i] = x at hat hnx hx
          have ff := And.intro e1 (And.intro hx hw)
          refine mW ?_
          by_cases hc : x.root ∈ es
          · have ec : decide (x.root ∈ es) = true := decide_eq_true hc
            first | apply tr_m (by rw [hE]; rfl) | (refine Tr.seq ?_; apply tr_m (by rw [hE]; rfl))
            intro Q hQ
            simp only [go_sem, seval]
            iterate 3 ((refine vm_op ?_); intro r hr; simp only [ec, go_sem, seval]; subst hr)
            (refine vm_op ?_); intro r hr; simp only [ec, go_sem, seval]
            refine look228 rfl ?_
            try simp only [ec, go_sem, seval]
            subst hr
            (refine vm_op ?_); intro r hr; simp only [ec, go_sem, seval]; subst hr
            exact hQ
            refine mW ?_
            refine ⟨i + 1, hlt, by omega, ?_⟩
            have hd : dropX rs x = x := if_pos ((hes _).1 hc)
            have hs : L.set i x = L := by
              refine List.ext_getElem? fun j => ?_
              rw [List.getElem?_set]
              split
              · next hij =>
                subst hij
                rw [if_pos (List.getElem?_eq_some_iff.1 hat).1, hat]
              · rfl
            rw [hnx, hd, hs]
            exact mK
          · have ec : decide (x.root ∈ es) = false := decide_eq_false hc
            first | apply tr_m (by rw [hE]; rfl) | (refine Tr.seq ?_; apply tr_m (by rw [hE]; rfl))
            intro Q hQ
            simp only [go_sem, seval]
            iterate 3 ((refine vm_op ?_); intro r hr; simp only [ec, go_sem, seval]; subst hr)
            (refine vm_op ?_); intro r hr; simp only [ec, go_sem, seval]
            refine look228 rfl ?_
            try simp only [ec, go_sem, seval]
            subst hr
            (refine vm_op ?_); intro r hr; simp only [ec, go_sem, seval]; subst hr
            exact hQ
            refine mW ?_
            refine ⟨i + 1, hlt, by omega, ?_⟩
            have hd : dropX rs x = zLatest := if_neg (fun h => hc ((hes _).2 h))
            rw [hnx, hd, List.map_set]
            exact mK
        · have e1 : decide ((i : Int) < (vl.length : Int)) = false := decide_eq_false (by omega)
          have hil : i = vl.length := by omega
          subst hil
          have hL : dropTo rs vl vl.length = dropL rs vl := by unfold dropTo; rw [List.take_length, List.drop_length, List.append_nil]
          have hlen : ((dropL rs vl).map Latest.av).length = vl.length := by rw [List.length_map, dropL, List.length_map]
          rw [hL]
          generalize dropL rs vl = D at hlen
          have ff := e1
          refine mW ?_
          refine Tr.wk (Wk.frzH [2]) ?_
          simp only [frzHP, frzA, AV.frz, AV.frzL, List.map_cons, List.map_nil, hlen, go_sem, seval]
          exact mX
end Go.Proofs.YtgnidooihignfaaGreatDoor

/- Weights: what comes, and what goes. -/
set_option linter.unusedSimpArgs false
set_option maxRecDepth 10000
namespace Go.Proofs.YtgnidooihignfaaGreatDoor
open Go Go.Ab Go.RowKit

end Go.Proofs.YtgnidooihignfaaGreatDoor

/- Weights: more, and less, of some. -/
set_option linter.unusedSimpArgs false
set_option maxRecDepth 10000
namespace Go.Proofs.YtgnidooihignfaaGreatDoor
open Go Go.Ab

end Go.Proofs.YtgnidooihignfaaGreatDoor

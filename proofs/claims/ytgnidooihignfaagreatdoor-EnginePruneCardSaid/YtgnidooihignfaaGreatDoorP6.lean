/- Which blocks may be a head: children, leaves. -/
import Derived.Test.YtgnidooihignfaaGreatDoorP5
set_option linter.unusedSimpArgs false
set_option maxRecDepth 10000
namespace Go.Proofs.YtgnidooihignfaaGreatDoor
open Go Go.Ab

theorem tsame_c (t k : List Node) (hl : t.length ≤ 1000) : Cal Tryz.prog 55 [tav t, tav k] (.bool (decide (t = k))) := by
  have c1 := nequal_c t k hl
  have hR : Tryz.f55.results.toList = [.tmp 4] := rfl
  refine cal_tr Tryz.func55 rfl fun E hE hP => ?_
  exact mX
def bools (l : List Bool) : AV := .sl (l.map AV.bool) false
attribute [go_sem] bools
def slotI (t : List Node) (a : Int) : Int := (t.getD a.toNat zNode).slot
def atN (t : List Node) (s : Int) : Nat → Int → Int
  | 0, _ => -1
  | n + 1, a => if a = -1 then -1 else if slotI t a ≤ s then a else atN t s n (parI t a)
def atF (t : List Node) (s a : Int) : Int := atN t s (a + 1).toNat a
def atR (t : List Node) (i s : Int) : Int := if isB t [i] then atF t s i else -1
theorem atN_none (t : List Node) (s : Int) (m : Nat) : atN t s m (-1) = -1 := by cases m <;> simp [atN]
theorem atN_fuel {t : List Node} (hm : mayB t = true) (s : Int) : ∀ (m m' : Nat) (a : Int), 0 ≤ a → a < t.length → a < m → a < m' → atN t s m a = atN t s m' a
  | 0, _, a, h0, _, h1, _ => by omega
  | _, 0, a, h0, _, _, h1 => by omega
  | m + 1, m' + 1, a, h0, h1, h2, h3 => by
    simp only [atN]
    split
    · rfl
    · split
      · rfl
      · rcases par_range hm h0 h1 with h | ⟨h4, h5⟩
        · rw [h, atN_none, atN_none]
        · exact atN_fuel hm s m m' _ h4 (by omega) (by omega) (by omega)
theorem atF_step {t : List Node} (hm : mayB t = true) {s a : Int} (h0 : 0 ≤ a) (h1 : a < t.length) : atF t s a = if slotI t a ≤ s then a else atF t s (parI t a) := by
  obtain ⟨m, hmm⟩ : ∃ m, (a + 1).toNat = m + 1 := ⟨a.toNat, by omega⟩
  unfold atF
  rw [hmm, atN, if_neg (by omega)]
  split
  · rfl
  · rcases par_range hm h0 h1 with h | ⟨h4, h5⟩
    · rw [h, atN_none, atN_none]
    · exact atN_fuel hm s _ _ _ h4 (by omega) (by omega) (by omega)

def stAt (t : List Node) (s k : Int) : S where
  fr := [(3, .ptr 0 [] 0), (5, .ptr 1 [] 0), (6, .ptr 2 [] 0), (15, .fn (.func 171) [] [.ptr 3 [] 0, .ptr 4 [] 0])]
  hp := [(0, .var (tav t)), (1, .var (.int .u64 s)), (2, .var (.int .i64 0)), (3, .var (.int .i64 k)), (4, .var (tav t))]
  nx := 5
def stAu (t : List Node) (s : Int) (l : Nat) (b : LB) (a : Int) : S where
  fr := [(0, .fn (.yield l) [] []), (1, .ptr 3 [] 0), (2, .ptr 4 [] 0)]
  hp := [(6, .lp b .ready none), (5, .dfr), (0, .var (tav t)), (1, .var (.int .u64 s)), (2, .var (.int .i64 0)), (3, .var (.int .i64 a)), (4, .var (tav t))]
  nx := 7

theorem at_c (t : List Node) (k s : Int) : Cal Tryz.prog 42 [tav t, .int .i64 k, .int .u64 s] (.int .i64 (atR t k s)) := by
  refine ⟨enters_of Tryz.func42 (by kernel_rfl) rfl, ?_⟩
  have c1 : Cal Tryz.prog 99 [tav t, .sl [.int .i64 k] false] (.bool (isB t [k])) := And.intro (enters_of Tryz.func99 (by kernel_rfl) rfl) (is_pure t [k] (by simp))
  refine pure_of_trM Tryz.func42 rfl (Nat.le_of_ble_eq_true rfl) rfl fun E hE hP => ?_
  cases hb : isB t [k]
  · rw [hb] at c1
    have er : atR t k s = -1 := by simp [atR, hb]
    rw [er]
    refine mW ?_
    refine Tr.ret ?_
    refine ⟨List.nodup_nil, fun o ho => (by cases ho), ?_⟩
    simp only [drop_none,  Tryz.f42, go_sem, seval]
  · rw [hb] at c1
    obtain ⟨hm, hk⟩ := isB_spec hb
    have er : atR t k s = atF t s k := by simp [atR, hb]
    have o1 := And.intro (enters_of Tryz.func100 (by kernel_rfl) rfl) (tline_own t k)
    refine mW ?_
    refine Tr.wk (s' := stAt t s k) ?_ ?_
    · refine wk_ren (fun | 1 => 16 | 2 => 32 | 3 => 160 | 4 => 161 | n => n) mB mB rfl rfl rfl
    · unfold stAt
      refine Tr.range (fid := 171) (fn := Tryz.f171) rfl (enters_of Tryz.func171 (by kernel_rfl) rfl) Tryz.func171 rfl rfl (Nat.le_of_ble_eq_true rfl) ?_
      have hE0 := hE
      intro E' l b hE hP' sd
      have hP : E'.pn = 7 := hP'
      rw [er]
      refine mBk ?_
      refine Tr.loop (stAu t s l b) (fun a => (a = -1 ∨ (0 ≤ a ∧ a < t.length)) ∧ atF t s a = atF t s k) (fun a => (a + 1).toNat) k ⟨.inr hk, rfl⟩ ?_ ?_
      · refine wk_ren (fun n => n) mB mB rfl rfl rfl
      · rintro a ⟨ha, habove⟩
        unfold stAu
        rcases ha with ha | ⟨ha0, ha1⟩
        · subst ha
          have er2 : atF t s k = -1 := by rw [← habove]; rfl
          first | refine tr_seq_y 5 sd (by rw [hE]; rfl) rfl rfl rfl ?_ | (refine Tr.seq ?_; refine tr_seq_y 5 sd (by rw [hE]; rfl) rfl rfl rfl ?_)
          simp only [List.toList_toArray, List.take_succ_cons, List.take_zero]
          refine mG ?_
          refine vc_nil ?_
          refine gy_no rfl rfl rfl ?_
          simp only [go_sem, seval]
          refine mO ?_
          refine vc_nil ?_
          refine mNo ?_
          refine Tr.exit ?_
          try simp only [blockK, thenK, ↓reduceIte]
          have hE := hE0
          refine ⟨rfl, _, _, rfl, by simp, rfl, ?_⟩
          simp only [goOn]
          simp only [HP.del, List.filter_cons, List.filter_nil, Bool.not_false, Bool.not_true, if_true, Bool.false_eq_true, if_false, go_sem, seval]
          rw [er2]
          refine mr ?_
          refine Tr.ret ?_
          refine ⟨by simp, fun o ho => by rw [List.mem_singleton.1 ho]; rfl, ?_⟩
          simp only [HP.drop, List.contains_cons, List.contains_nil, Bool.or_false, Bool.false_or, Bool.or_true, List.filter_cons, List.filter_nil, Bool.not_false, Bool.not_true, if_true, Bool.false_eq_true, if_false,  Tryz.f42, go_sem, seval]
        · have hstep := atF_step hm (s := s) ha0 ha1
          have hpr := par_range hm ha0 ha1
          obtain ⟨j, rfl⟩ : ∃ j : Nat, a = j := ⟨a.toNat, by omega⟩
          have ej : ((j : Int) != -1) = true := by rw [int_bne, decide_eq_false (by omega)]; rfl
          have hn := nth_node (t := t) (k := j) (by omega)
          have hsl : slotI t j = (t.getD j zNode).slot := by unfold slotI; rw [Int.toNat_natCast]
          have hpar : (t.getD j zNode).parent = parI t j := by unfold parI; rw [Int.toNat_natCast]
          rw [hsl] at hstep
          generalize t.getD j zNode = nd at hn hstep hpar
          first | refine tr_seq_y 5 sd (by rw [hE]; rfl) rfl rfl rfl ?_ | (refine Tr.seq ?_; refine tr_seq_y 5 sd (by rw [hE]; rfl) rfl rfl rfl ?_)
          simp only [List.toList_toArray, List.take_succ_cons, List.take_zero]
          repeat (first | (refine vc_op rfl ?_; simp only [ej, go_sem, seval]) | (refine vc_go rfl rfl rfl ?_; simp only [ej, go_sem, seval]) | (refine vc_no rfl rfl rfl ?_; simp only [ej, go_sem, seval]) | (refine vc_skip rfl rfl rfl ?_; simp only [ej, go_sem, seval]))
          refine vc_nil ?_
          have hE1 := hE
          have hP1 := hP
          refine gy_if rfl rfl rfl ?_
          refine ⟨_, rfl, rfl, rfl, rfl, by rw [hE0]; rfl, rfl, ?_⟩
          intro Er hE hP
          rw [hE0] at hE
          simp only [frPut, List.zip_cons_cons, List.zip_nil_left, List.zip_nil_right, List.foldl_cons, List.foldl_nil, List.toList_toArray, List.map_cons, List.map_nil, go_sem, seval]
          refine tr_region (by rw [hE]; rfl) ?_
          refine mO ?_
          refine vc_nil ?_
          refine ⟨rfl, ?_⟩
          simp only [go_sem, seval]
          refine mBk ?_
          by_cases h1 : nd.slot ≤ s
          · have e1 : decide (nd.slot ≤ s) = true := decide_eq_true h1
            have er2 : atF t s k = j := by rw [← habove, hstep, if_pos h1]
            have ff := And.intro hn e1
            refine mW ?_
            refine Tr.ret ?_
            try simp only [blockK, thenK, ↓reduceIte]
            refine ⟨rfl, ?_⟩
            simp only [go_sem, seval]
            refine mO ?_
            refine vc_nil ?_
            have hE := hE1
            have hP := hP1
            refine mNo ?_
            refine Tr.exit ?_
            try simp only [blockK, thenK, ↓reduceIte]
            have hE := hE0
            refine ⟨rfl, _, _, rfl, by simp, rfl, ?_⟩
            simp only [goOn]
            simp only [HP.del, List.filter_cons, List.filter_nil, Bool.not_false, Bool.not_true, if_true, Bool.false_eq_true, if_false, go_sem, seval]
            rw [er2]
            refine ⟨by simp, fun o ho => by rw [List.mem_singleton.1 ho]; rfl, ?_⟩
            simp only [HP.drop, List.contains_cons, List.contains_nil, Bool.or_false, Bool.false_or, Bool.or_true, List.filter_cons, List.filter_nil, Bool.not_false, Bool.not_true, if_true, Bool.false_eq_true, if_false,  Tryz.f42, go_sem, seval]
          · have e1 : decide (nd.slot ≤ s) = false := decide_eq_false h1
            rw [if_neg h1] at hstep
            have ff := And.intro hn e1
            refine mW ?_
            refine ⟨rfl, ?_⟩
            simp only [go_sem, seval]
            refine mO ?_
            refine vc_nil ?_
            have hE := hE1
            have hP := hP1
            refine mYes ?_
            refine Tr.skip ?_
            try simp only [blockK, thenK, ↓reduceIte]
            refine mBk ?_
            refine Tr.skip ?_
            try simp only [blockK, thenK, ↓reduceIte]
            have ff := And.intro hn hpar
            refine mr ?_
            try simp only [blockK, thenK, ↓reduceIte]
            refine ⟨parI t j, ⟨by omega, by rw [← hstep]; exact habove⟩, by omega, ?_⟩
            refine wk_ren (fun n => n) mB mB rfl rfl rfl

structure Snap where
  ver : Int
  t : List Node
  head : Root
  just : Check
  fin : Check
  deriving DecidableEq
def Snap.av (s : Snap) : AV := .st [.int .i64 s.ver, tav s.t, .root s.head, s.just.av, s.fin.av]
attribute [go_sem] Snap.av
structure Ask where
  kind : Int
  vals : List UInt8
  a : Root
  b : Root
  slot : Int
  deriving DecidableEq
def Ask.av (c : Ask) : AV := .st [.int .i64 c.kind, .sl (c.vals.map bav) false, .root c.a, .root c.b, .int .u64 c.slot]
attribute [go_sem] Ask.av

@[go_sem] theorem sbuild51_0 (e : Int) (K : AV → Prop) : buildK Tryz.prog 51 [(0, .int .i64 e)] K = K (Resp.mk e zroot false ⟨0, zroot⟩).av := build_struct Tryz.underlying51 stZero51 rfl (by kernel_rfl) rfl K
@[go_sem] theorem sbuild51_1 (r : Root) (K : AV → Prop) : buildK Tryz.prog 51 [(1, .root r)] K = K (Resp.mk 0 r false ⟨0, zroot⟩).av := build_struct Tryz.underlying51 stZero51 rfl (by kernel_rfl) rfl K
@[go_sem] theorem sbuild51_2 (b : Bool) (K : AV → Prop) : buildK Tryz.prog 51 [(2, .bool b)] K = K (Resp.mk 0 zroot b ⟨0, zroot⟩).av := build_struct Tryz.underlying51 stZero51 rfl (by kernel_rfl) rfl K
@[go_sem] theorem sbuild51_3 (c : Check) (K : AV → Prop) : buildK Tryz.prog 51 [(3, c.av)] K = K (Resp.mk 0 zroot false c).av := build_struct Tryz.underlying51 stZero51 rfl (by kernel_rfl) rfl K
theorem fits3 (k : Int) : fits Tryz.prog (.int .i64 k) 3 = true := by kernel_rfl
theorem weights_len (t : List Node) (vl : List Latest) (b : List Int) : (weights t vl b).length = t.length := by
  unfold weights subW ownW
  rw [subTo_len, votTo_len]
@[go_sem] theorem sbuild24m (o sz n : Nat) (K : AV → Prop) : buildK Tryz.prog 24 [(0, .ms o sz n)] K = K (.st [.ms o sz n]) := build_struct Tryz.underlying24 tZero47 rfl (by kernel_rfl) rfl K
@[go_sem] theorem sfv51_0 (a : Resp) (K : AV → Prop) : fieldK Tryz.prog 51 a.av 0 K = K (.int .i64 a.e) := by simp only [fieldK, stField51_0]; exact propext ⟨fun h => h.2.2.2, fun h => ⟨rfl, rfl, rfl, h⟩⟩
@[go_sem] theorem sfv51_1 (a : Resp) (K : AV → Prop) : fieldK Tryz.prog 51 a.av 1 K = K (.root a.r) := by simp only [fieldK, stField51_1]; exact propext ⟨fun h => h.2.2.2, fun h => ⟨rfl, rfl, rfl, h⟩⟩
@[go_sem] theorem sfv51_2 (a : Resp) (K : AV → Prop) : fieldK Tryz.prog 51 a.av 2 K = K (.bool a.is) := by simp only [fieldK, stField51_2]; exact propext ⟨fun h => h.2.2.2, fun h => ⟨rfl, rfl, rfl, h⟩⟩
@[go_sem] theorem sfv54_0 (a : Note) (K : AV → Prop) : fieldK Tryz.prog 54 a.av 0 K = K (.int .i64 a.ver) := by simp only [fieldK, stField54_0]; exact propext ⟨fun h => h.2.2.2, fun h => ⟨rfl, rfl, rfl, h⟩⟩
def rootN (n : Int) : Root := rootSet zroot 0 n
theorem build34 (n : Int) (h0 : 0 ≤ n) (h1 : n < 256) (K : AV → Prop) : buildK Tryz.prog 34 [(0, .int .u8 n)] K = K (.root (rootN n)) := by
  simp [buildK, Tryz.underlying34, tZero23, tSize5, h0, h1, rootN]
@[go_sem] theorem build34_1 (K : AV → Prop) : buildK Tryz.prog 34 [(0, .int .u8 1)] K = K (.root (rootN 1)) := build34 1 (by decide) (by decide) K
def e0 : Eng := newE (rootN 1) [1]
def s0 : Snap := ⟨3, one (rootN 1), rootN 1, ⟨0, rootN 1⟩, ⟨0, rootN 1⟩⟩
def c0 : Ask := ⟨5, [], zroot, zroot, 0⟩
theorem getD_lt {t : List Node} {k : Nat} (hk : k < t.length) : t.getD k zNode = t[k] := by simp [List.getD_eq_getElem?_getD, hk]
theorem find_self {t : List Node} (hm : mayB t = true) {k : Nat} (hk : k < t.length) : findR t (t.getD k zNode).root = k := by
  have hn := may_once hm
  rw [findR, if_pos hm, getD_lt hk]
  refine findI_at hk (fun j hj => ?_) ?_
  · unfold isR
    rw [decide_eq_false_iff_not]
    intro he
    have := List.pairwise_iff_getElem.1 hn j k (by rw [List.length_map]; omega) (by rw [List.length_map]; omega) hj
    rw [List.getElem_map, List.getElem_map] at this
    exact this he
  · unfold isR
    exact decide_eq_true rfl
theorem isB_one {t : List Node} (hm : mayB t = true) {k : Nat} (hk : k < t.length) : isB t [(k : Int)] = true := by
  have h := above_self (i := (k : Int)) hm (by omega) (by omega)
  unfold aboveR at h
  rw [isB_two] at h
  simp only [Bool.and_eq_true] at h
  exact h.1.1
theorem mayT_spec {t : List Node} : mayB t = true ↔ (1 ≤ t.length ∧ t.length ≤ 12) ∧ (∀ k, k < t.length → fitsB t k = true) ∧ (t.map Node.root).Nodup := by
  unfold mayB onceB
  simp only [Bool.and_eq_true, decide_eq_true_eq, List.all_eq_true, List.mem_range]
  exact ⟨fun h => ⟨h.1.1, h.1.2, h.2⟩, fun h => ⟨⟨h.1, h.2.1⟩, h.2.2⟩⟩
theorem fits_at {t : List Node} {k : Nat} (h : k < t.length) : fitsB t k = if k = 0 then decide ((t.getD k zNode).parent = -1) && decide ((t.getD k zNode).slot ≤ 1099511627776)
    else decide (0 ≤ (t.getD k zNode).parent) && decide ((t.getD k zNode).parent < k) && decide ((t.getD k zNode).slot ≤ 1099511627776) && decide ((t.getD (t.getD k zNode).parent.toNat zNode).slot < (t.getD k zNode).slot) := by
  unfold fitsB
  rw [List.getElem?_eq_getElem h, getD_lt h]
theorem find_mem {t : List Node} (hm : mayB t = true) {r : Root} : 0 ≤ findR t r ↔ r ∈ t.map Node.root := by
  constructor
  · intro h
    have hr := (findR_range t r).resolve_left (by omega)
    have h2 : ((t.getD (findR t r).toNat zNode).root) = r := by
      unfold findR at h ⊢
      rw [if_pos hm] at h ⊢
      unfold findI at h ⊢
      cases hf : t.findIdx? (isR r) with
      | none => rw [hf] at h; simp only at h; omega
      | some i =>
        simp only [Int.toNat_natCast]
        obtain ⟨hi, hr, _⟩ := List.findIdx?_eq_some_iff_getElem.1 hf
        rw [getD_lt hi]
        exact of_decide_eq_true hr
    rw [← h2, getD_lt (by omega)]
    exact List.mem_map.2 ⟨_, List.getElem_mem _, rfl⟩
  · intro h
    obtain ⟨x, hx, rfl⟩ := List.mem_map.1 h
    obtain ⟨k, hk, rfl⟩ := List.mem_iff_getElem.1 hx
    have := find_self hm hk
    rw [getD_lt hk] at this
    omega
section
variable {t : List Node} {n : Node}
theorem isB_in {t : List Node} (hm : mayB t = true) {i k : Int} : isB t [i, k] = (decide (0 ≤ i ∧ i < t.length) && decide (0 ≤ k ∧ k < t.length)) := by
  unfold isB
  rw [hm, Bool.true_and]
  have e : ∀ x : Int, badI t x = !decide (0 ≤ x ∧ x < t.length) := fun x => by
    unfold badI
    by_cases h1 : x < 0 <;> by_cases h2 : (t.length : Int) ≤ x <;> simp [h1, h2] <;> omega
  simp only [List.any_cons, List.any_nil, Bool.or_false, e, Bool.not_or, Bool.not_not]
end

def frzA (k : HP) : AO → AO
  | .var x => .var (x.frz k)
  | y => y
def frzHP (k : HP) (hp : HP) : HP := hp.map fun p => (p.1, frzA k p.2)
theorem frzHP_get (k hp : HP) (o : Nat) : HP.get (frzHP k hp) o = (HP.get hp o).map (frzA k) := by
  induction hp with
  | nil => rfl
  | cons p hp ih =>
    show HP.get ((p.1, frzA k p.2) :: frzHP k hp) o = _
    rw [HP.get_cons, HP.get_cons, ih]
    split <;> rfl
theorem frzA_real (k : HP) (x : AO) : (frzA k x).real = x.real := by cases x <;> rfl
theorem Wk.frzH {E : Env} {s : S} (F : List Nat) : Wk E s { s with fr := s.fr.map fun p => (p.1, p.2.frz (HP.keep F s.hp)), hp := frzHP (HP.keep F s.hp) (HP.drop F s.hp) } := by
  rintro a w ⟨ι, dom, im, h1, h2, h3, h4, h5⟩
  let im2 : Nat → Prop := fun b => im b ∨ ∃ o ob, HP.get (HP.keep F s.hp) o = some ob ∧ ob.real ∧ ι o = b
  have hk : HInv E (HP.keep F s.hp) ι dom im w := (h2.step (Go.RowKit.Below.refl _ _) (fun o ob hg => HP.get_keep _ _ _ _ hg) (fun _ h => h) (fun o ob hg => h2.nim o ob (HP.get_keep _ _ _ _ hg)) h2.imlt h2.imsub).1
  have hm2 : ∀ b, im b → im2 b := fun b hb => .inl hb
  have ho2 : ∀ o ob, HP.get (HP.keep F s.hp) o = some ob → ob.real → im2 (ι o) := fun o ob hg hr => .inr ⟨o, ob, hg, hr, rfl⟩
  have hd := (h2.step (hp2 := HP.drop F s.hp) (im2 := im2) (Go.RowKit.Below.refl _ _) (fun o ob hg => (HP.get_drop _ _ _ _ hg).1) (fun b hb => .inl hb) (fun o ob hg hr => by
      rintro (h | ⟨o', ob', l1, l2, l3⟩)
      · exact h2.nim o ob (HP.get_drop _ _ _ _ hg).1 hr h
      · have := h2.inj _ _ _ _ (HP.get_keep _ _ _ _ l1) (HP.get_drop _ _ _ _ hg).1 l2 hr l3
        subst this
        have m1 := HP.keep_mem l1
        have m2 := (HP.get_drop _ _ _ _ hg).2
        rw [m1] at m2; cases m2)
    (fun b hb => by
      rcases hb with h | ⟨o, ob, l1, l2, rfl⟩
      · exact h2.imlt b h
      · exact h2.lt o ob (HP.get_keep _ _ _ _ l1) l2)
    (fun b hb => by
      rcases hb with h | ⟨o, ob, l1, l2, rfl⟩
      · exact h2.imsub b h
      · exact .inr (h2.loc o ob (HP.get_keep _ _ _ _ l1) l2))).1
  have hg0 : ∀ o ob, HP.get (frzHP (HP.keep F s.hp) (HP.drop F s.hp)) o = some ob → ∃ ob', HP.get (HP.drop F s.hp) o = some ob' ∧ ob = frzA (HP.keep F s.hp) ob' := fun o ob hg => by
    rw [frzHP_get] at hg
    obtain ⟨ob', e1, e2⟩ := Option.map_eq_some_iff.1 hg
    exact ⟨ob', e1, e2.symm⟩
  have hf : HInv E (frzHP (HP.keep F s.hp) (HP.drop F s.hp)) ι dom im2 w := by
    refine { hd with own := fun o ob hg => ?_, dm := fun o ob hg => ?_, lt := fun o ob hg hr => ?_, nim := fun o ob hg hr => ?_, inj := fun o o' ob ob' hg hg' hr hr' he => ?_, loc := fun o ob hg hr => ?_ }
    · obtain ⟨ob', e1, rfl⟩ := hg0 o ob hg
      have hw := hd.own o ob' e1
      cases ob' with
      | var x =>
        obtain ⟨cs, e, q1, q2⟩ := h2.own o _ (HP.get_drop _ _ _ _ e1).1
        exact ⟨cs, e, q1, Rep.frz hk hm2 ho2 x _ q2⟩
      | row _ _ => exact hw
      | amap _ => exact hw
      | obj _ => exact hw
      | tab _ _ => exact hw
    · obtain ⟨ob', e1, rfl⟩ := hg0 o ob hg
      exact hd.dm o ob' e1
    · obtain ⟨ob', e1, rfl⟩ := hg0 o ob hg
      rw [frzA_real] at hr
      exact hd.lt o ob' e1 hr
    · obtain ⟨ob', e1, rfl⟩ := hg0 o ob hg
      rw [frzA_real] at hr
      exact hd.nim o ob' e1 hr
    · obtain ⟨x, e1, rfl⟩ := hg0 o ob hg
      obtain ⟨y, e2, rfl⟩ := hg0 o' ob' hg'
      rw [frzA_real] at hr hr'
      exact hd.inj o o' x y e1 e2 hr hr' he
    · obtain ⟨ob', e1, rfl⟩ := hg0 o ob hg
      rw [frzA_real] at hr
      exact hd.loc o ob' e1 hr
  refine ⟨ι, dom, im2, h1, hf, ⟨h3.1, fun t => ?_⟩, h4, h5⟩
  have hget : ∀ (fr : FR), FR.get (fr.map fun p => (p.1, p.2.frz (HP.keep F s.hp))) t = (FR.get fr t).frz (HP.keep F s.hp) := fun fr => by
    induction fr with
    | nil => rfl
    | cons p fr ih =>
      rw [List.map_cons, FR.get_cons, FR.get_cons, ih]
      split <;> rfl
  show RepT _ (FR.get (s.fr.map _) t) _
  rw [hget]
  rcases h3.2 t with ⟨u, hu, hu2⟩ | h
  · exact .inl ⟨u, by rw [hu]; rfl, hu2⟩
  · exact .inr (RepS.frz hk hm2 ho2 h)

theorem lclone_c (l : List Latest) (hl : l.length ≤ 1000) : CalO Tryz.prog 157 [.sl (l.map Latest.av) false] (.ms 0 34 l.length) [(0, .row 34 (l.map Latest.av))] := by
  have hR : Tryz.f157.results.toList = [.tmp 2] := rfl
  refine calO_tr Tryz.func157 rfl fun E hE hP => ?_
  refine mr ?_
  first | refine tr_seq_region (by rw [hE]; rfl) ?_ | (refine Tr.seq ?_; refine tr_seq_region (by rw [hE]; rfl) ?_)
  refine mO ?_
  refine ⟨fun hz c => ?_, fun hz => ?_⟩
  · have hz' : l = [] := List.eq_nil_of_length_eq_zero hz
    subst hz'
    refine vc_nil ?_
    refine Tr.cond rfl (fun hc => ?_) (fun hc => ?_)
    · refine mr ?_
      refine Tr.wk (Wk.nil 2 34 rfl) ?_
      refine Tr.ret ?_
      simp only [hR, go_sem, seval]
      exact ⟨fun n => 64 + n, rfl, ⟨⟨rfl, rfl, rfl⟩, trivial⟩, rfl⟩
    · refine mW ?_
      refine Tr.ret ?_
      simp only [hR, go_sem, seval]
      exact ⟨fun n => 80 + n, rfl, ⟨⟨rfl, rfl, rfl⟩, trivial⟩, rfl⟩
  · refine vc_nil ?_
    refine mW ?_
    refine Tr.ret ?_
    simp only [hR, go_sem, seval]
    exact ⟨fun n => 80 + n, rfl, ⟨⟨rfl, rfl, rfl⟩, trivial⟩, rfl⟩
theorem aclone_c (l : List Att) (hl : l.length ≤ 1000) : CalO Tryz.prog 158 [.sl (l.map Att.av) false] (.ms 0 100 l.length) [(0, .row 100 (l.map Att.av))] := by
  have hR : Tryz.f158.results.toList = [.tmp 2] := rfl
  refine calO_tr Tryz.func158 rfl fun E hE hP => ?_
  refine mr ?_
  first | refine tr_seq_region (by rw [hE]; rfl) ?_ | (refine Tr.seq ?_; refine tr_seq_region (by rw [hE]; rfl) ?_)
  refine mO ?_
  refine ⟨fun hz c => ?_, fun hz => ?_⟩
  · have hz' : l = [] := List.eq_nil_of_length_eq_zero hz
    subst hz'
    refine vc_nil ?_
    refine Tr.cond rfl (fun hc => ?_) (fun hc => ?_)
    · refine mr ?_
      refine Tr.wk (Wk.nil 2 100 rfl) ?_
      refine Tr.ret ?_
      simp only [hR, go_sem, seval]
      exact ⟨fun n => 64 + n, rfl, ⟨⟨rfl, rfl, rfl⟩, trivial⟩, rfl⟩
    · refine mW ?_
      refine Tr.ret ?_
      simp only [hR, go_sem, seval]
      exact ⟨fun n => 80 + n, rfl, ⟨⟨rfl, rfl, rfl⟩, trivial⟩, rfl⟩
  · refine vc_nil ?_
    refine mW ?_
    refine Tr.ret ?_
    simp only [hR, go_sem, seval]
    exact ⟨fun n => 80 + n, rfl, ⟨⟨rfl, rfl, rfl⟩, trivial⟩, rfl⟩
theorem kclone_c (l : List Link) (hl : l.length ≤ 1000) : CalO Tryz.prog 159 [.sl (l.map Link.av) false] (.ms 0 67 l.length) [(0, .row 67 (l.map Link.av))] := by
  have hR : Tryz.f159.results.toList = [.tmp 2] := rfl
  refine calO_tr Tryz.func159 rfl fun E hE hP => ?_
  refine mr ?_
  first | refine tr_seq_region (by rw [hE]; rfl) ?_ | (refine Tr.seq ?_; refine tr_seq_region (by rw [hE]; rfl) ?_)
  refine mO ?_
  refine ⟨fun hz c => ?_, fun hz => ?_⟩
  · have hz' : l = [] := List.eq_nil_of_length_eq_zero hz
    subst hz'
    refine vc_nil ?_
    refine Tr.cond rfl (fun hc => ?_) (fun hc => ?_)
    · refine mr ?_
      refine Tr.wk (Wk.nil 2 67 rfl) ?_
      refine Tr.ret ?_
      simp only [hR, go_sem, seval]
      exact ⟨fun n => 64 + n, rfl, ⟨⟨rfl, rfl, rfl⟩, trivial⟩, rfl⟩
    · refine mW ?_
      refine Tr.ret ?_
      simp only [hR, go_sem, seval]
      exact ⟨fun n => 80 + n, rfl, ⟨⟨rfl, rfl, rfl⟩, trivial⟩, rfl⟩
  · refine vc_nil ?_
    refine mW ?_
    refine Tr.ret ?_
    simp only [hR, go_sem, seval]
    exact ⟨fun n => 80 + n, rfl, ⟨⟨rfl, rfl, rfl⟩, trivial⟩, rfl⟩
theorem jclone_c (l : List Check) (hl : l.length ≤ 1000) : CalO Tryz.prog 133 [.sl (l.map Check.av) false] (.ms 0 33 l.length) [(0, .row 33 (l.map Check.av))] := by
  have hR : Tryz.f133.results.toList = [.tmp 2] := rfl
  refine calO_tr Tryz.func133 rfl fun E hE hP => ?_
  refine mr ?_
  first | refine tr_seq_region (by rw [hE]; rfl) ?_ | (refine Tr.seq ?_; refine tr_seq_region (by rw [hE]; rfl) ?_)
  refine mO ?_
  refine ⟨fun hz c => ?_, fun hz => ?_⟩
  · have hz' : l = [] := List.eq_nil_of_length_eq_zero hz
    subst hz'
    refine vc_nil ?_
    refine Tr.cond rfl (fun hc => ?_) (fun hc => ?_)
    · refine mr ?_
      refine Tr.wk (Wk.nil 2 33 rfl) ?_
      refine Tr.ret ?_
      simp only [hR, go_sem, seval]
      exact ⟨fun n => 64 + n, rfl, ⟨⟨rfl, rfl, rfl⟩, trivial⟩, rfl⟩
    · refine mW ?_
      refine Tr.ret ?_
      simp only [hR, go_sem, seval]
      exact ⟨fun n => 80 + n, rfl, ⟨⟨rfl, rfl, rfl⟩, trivial⟩, rfl⟩
  · refine vc_nil ?_
    refine mW ?_
    refine Tr.ret ?_
    simp only [hR, go_sem, seval]
    exact ⟨fun n => 80 + n, rfl, ⟨⟨rfl, rfl, rfl⟩, trivial⟩, rfl⟩
theorem tclone_c (t : List Node) (hl : t.length ≤ 1000) : CalO Tryz.prog 197 [tav t] (.st [.ms 0 35 t.length]) [(0, .row 35 (t.map Node.av))] := by
  have o1 := nclone_c t hl
  have hR : Tryz.f197.results.toList = [.cell 2 24] := rfl
  refine calO_tr Tryz.func197 rfl fun E hE hP => ?_
  refine mW ?_
  refine Tr.ret ?_
  simp only [hR, go_sem, seval]
  exact ⟨fun n => 64 + n, rfl, (by repeat' (first | exact rfl | exact trivial | constructor)), rfl⟩
@[go_sem] theorem tav_upd (t : List Node) (x : AV) : (tav t).upd [0] x = some (.st [x]) := rfl
/-- An engine whose lists are so. -/
def engX (e : Eng) (T B V W A K J : AV) : AV := .st [.st [T], B, .st [V, .int .u64 e.o], W, A, K, J, e.fin.av, .int .u64 e.now]
attribute [go_sem] engX
def ownH (e : Eng) : HP := [(0, .row 35 (e.t.map Node.av)), (1, .row 1 (e.b.map uav)), (2, .row 34 (e.vl.map Latest.av)), (3, .row 1 (e.w.map uav)), (4, .row 100 (e.late.map Att.av)), (5, .row 67 (e.k.map Link.av)), (6, .row 33 (e.j.map Check.av))]
def ownV (e : Eng) : AV := engX e (.ms 0 35 e.t.length) (.ms 1 1 e.b.length) (.ms 2 34 e.vl.length) (.ms 3 1 e.w.length) (.ms 4 100 e.late.length) (.ms 5 67 e.k.length) (.ms 6 33 e.j.length)
set_option maxHeartbeats 1000000 in
theorem own_o (e : Eng) (he : e.few) : CalO Tryz.prog 89 [e.av] (ownV e) (ownH e) := by
  have o1 := nclone_c e.t (by have := he.t; omega)
  have o2 := uclone_c e.b (by have := he.b; omega)
  have o3 := lclone_c e.vl (by have := he.vl; omega)
  have o4 := uclone_c e.w (by have := he.w; omega)
  have o5 := aclone_c e.late (by have := he.late; omega)
  have o6 := kclone_c e.k (by have := he.k; omega)
  have o7 := jclone_c e.j (by have := he.j; omega)
  have hR : Tryz.f89.results.toList = [.cell 2 38] := rfl
  refine calO_tr Tryz.func89 rfl fun E hE hP => ?_
  refine mr ?_
  first | refine tr_seq_drawn mixed _ (keepAll _) (by rw [hE]; rfl) (by kernel_rfl) ?_ | (refine Tr.seq ?_; refine tr_seq_drawn mixed _ (keepAll _) (by rw [hE]; rfl) (by kernel_rfl) ?_)
  simp only [List.map_cons, List.map_nil]
  iterate 3 refine vP ?_
  refine vd_x rfl rfl ?_; simp only [go_sem, seval]
  refine call_own rfl rfl rfl rfl (enters_of Tryz.func47 (by kernel_rfl) rfl) (o1.2) rfl rfl ?_
  simp only [go_sem, seval]
  iterate 2 refine vP ?_
  refine vd_x rfl rfl ?_; simp only [go_sem, seval]
  refine call_own rfl rfl rfl rfl (enters_of Tryz.func77 (by kernel_rfl) rfl) (o2.2) rfl rfl ?_
  simp only [go_sem, seval]
  iterate 2 refine vP ?_
  refine vd_x rfl rfl ?_; simp only [go_sem, seval]
  refine call_own rfl rfl rfl rfl (enters_of Tryz.func77 (by kernel_rfl) rfl) (o4.2) rfl rfl ?_
  simp only [go_sem, seval]
  iterate 3 refine vP ?_
  refine vd_x rfl rfl ?_; simp only [go_sem, seval]
  refine call_own rfl rfl rfl rfl (enters_of Tryz.func157 (by kernel_rfl) rfl) (o3.2) rfl rfl ?_
  simp only [go_sem, seval]
  iterate 2 refine vP ?_
  refine vd_w rfl rfl (by kernel_rfl) ?_; simp only [go_sem, seval]
  refine vP ?_
  refine vd_w rfl rfl (by kernel_rfl) ?_; simp only [go_sem, seval]
  refine vP ?_
  refine vd_w rfl rfl (by kernel_rfl) ?_; simp only [go_sem, seval]
  iterate 2 refine vP ?_
  refine vd_w rfl rfl (by kernel_rfl) ?_; simp only [go_sem, seval]
  refine vd_nil ?_
  first | refine tr_seq_drawn mixed _ (keepAll _) (by rw [hE]; rfl) (by kernel_rfl) ?_ | (refine Tr.seq ?_; refine tr_seq_drawn mixed _ (keepAll _) (by rw [hE]; rfl) (by kernel_rfl) ?_)
  simp only [List.map_cons, List.map_nil]
  iterate 2 refine vP ?_
  refine vd_x rfl rfl ?_; simp only [go_sem, seval]
  refine call_own rfl rfl rfl rfl (enters_of Tryz.func158 (by kernel_rfl) rfl) (o5.2) rfl rfl ?_
  simp only [go_sem, seval]
  iterate 2 refine vP ?_
  refine vd_x rfl rfl ?_; simp only [go_sem, seval]
  refine call_own rfl rfl rfl rfl (enters_of Tryz.func159 (by kernel_rfl) rfl) (o6.2) rfl rfl ?_
  simp only [go_sem, seval]
  iterate 2 refine vP ?_
  refine vd_x rfl rfl ?_; simp only [go_sem, seval]
  refine call_own rfl rfl rfl rfl (enters_of Tryz.func133 (by kernel_rfl) rfl) (o7.2) rfl rfl ?_
  simp only [go_sem, seval]
  refine vP ?_
  refine vd_w rfl rfl (by kernel_rfl) ?_; simp only [go_sem, seval]
  refine vP ?_
  refine vd_w rfl rfl (by kernel_rfl) ?_; simp only [go_sem, seval]
  refine vP ?_
  refine vd_w rfl rfl (by kernel_rfl) ?_; simp only [go_sem, seval]
  refine vd_nil ?_
  refine mr ?_
  refine Tr.ret ?_
  simp only [hR, go_sem, seval]
  exact ⟨fun | 0 => 80 | 1 => 128 | 2 => 240 | 3 => 176 | 4 => 448 | 5 => 496 | 6 => 544 | n => n, rfl, (by repeat' (first | exact rfl | exact trivial | constructor)), rfl⟩
set_option maxHeartbeats 1000000 in
theorem own_p (e : Eng) (he : e.few) : Cal Tryz.prog 89 [e.av] e.av := by
  have o1 := nclone_c e.t (by have := he.t; omega)
  have o2 := uclone_c e.b (by have := he.b; omega)
  have o3 := lclone_c e.vl (by have := he.vl; omega)
  have o4 := uclone_c e.w (by have := he.w; omega)
  have o5 := aclone_c e.late (by have := he.late; omega)
  have o6 := kclone_c e.k (by have := he.k; omega)
  have o7 := jclone_c e.j (by have := he.j; omega)
  have hR : Tryz.f89.results.toList = [.cell 2 38] := rfl
  refine cal_tr Tryz.func89 rfl fun E hE hP => ?_
  refine mr ?_
  first | refine tr_seq_drawn mixed _ (keepAll _) (by rw [hE]; rfl) (by kernel_rfl) ?_ | (refine Tr.seq ?_; refine tr_seq_drawn mixed _ (keepAll _) (by rw [hE]; rfl) (by kernel_rfl) ?_)
  simp only [List.map_cons, List.map_nil]
  iterate 3 refine vP ?_
  refine vd_x rfl rfl ?_; simp only [go_sem, seval]
  refine call_own rfl rfl rfl rfl (enters_of Tryz.func47 (by kernel_rfl) rfl) (o1.2) rfl rfl ?_
  simp only [go_sem, seval]
  iterate 2 refine vP ?_
  refine vd_x rfl rfl ?_; simp only [go_sem, seval]
  refine call_own rfl rfl rfl rfl (enters_of Tryz.func77 (by kernel_rfl) rfl) (o2.2) rfl rfl ?_
  simp only [go_sem, seval]
  iterate 2 refine vP ?_
  refine vd_x rfl rfl ?_; simp only [go_sem, seval]
  refine call_own rfl rfl rfl rfl (enters_of Tryz.func77 (by kernel_rfl) rfl) (o4.2) rfl rfl ?_
  simp only [go_sem, seval]
  iterate 3 refine vP ?_
  refine vd_x rfl rfl ?_; simp only [go_sem, seval]
  refine call_own rfl rfl rfl rfl (enters_of Tryz.func157 (by kernel_rfl) rfl) (o3.2) rfl rfl ?_
  simp only [go_sem, seval]
  iterate 2 refine vP ?_
  refine vd_w rfl rfl (by kernel_rfl) ?_; simp only [go_sem, seval]
  refine vP ?_
  refine vd_w rfl rfl (by kernel_rfl) ?_; simp only [go_sem, seval]
  refine vP ?_
  refine vd_w rfl rfl (by kernel_rfl) ?_; simp only [go_sem, seval]
  iterate 2 refine vP ?_
  refine vd_w rfl rfl (by kernel_rfl) ?_; simp only [go_sem, seval]
  refine vd_nil ?_
  first | refine tr_seq_drawn mixed _ (keepAll _) (by rw [hE]; rfl) (by kernel_rfl) ?_ | (refine Tr.seq ?_; refine tr_seq_drawn mixed _ (keepAll _) (by rw [hE]; rfl) (by kernel_rfl) ?_)
  simp only [List.map_cons, List.map_nil]
  iterate 2 refine vP ?_
  refine vd_x rfl rfl ?_; simp only [go_sem, seval]
  refine call_own rfl rfl rfl rfl (enters_of Tryz.func158 (by kernel_rfl) rfl) (o5.2) rfl rfl ?_
  simp only [go_sem, seval]
  iterate 2 refine vP ?_
  refine vd_x rfl rfl ?_; simp only [go_sem, seval]
  refine call_own rfl rfl rfl rfl (enters_of Tryz.func159 (by kernel_rfl) rfl) (o6.2) rfl rfl ?_
  simp only [go_sem, seval]
  iterate 2 refine vP ?_
  refine vd_x rfl rfl ?_; simp only [go_sem, seval]
  refine call_own rfl rfl rfl rfl (enters_of Tryz.func133 (by kernel_rfl) rfl) (o7.2) rfl rfl ?_
  simp only [go_sem, seval]
  refine vP ?_
  refine vd_w rfl rfl (by kernel_rfl) ?_; simp only [go_sem, seval]
  refine vP ?_
  refine vd_w rfl rfl (by kernel_rfl) ?_; simp only [go_sem, seval]
  refine vP ?_
  refine vd_w rfl rfl (by kernel_rfl) ?_; simp only [go_sem, seval]
  refine vd_nil ?_
  refine mr ?_
  refine Tr.wk (Wk.frzH [80, 128, 176, 240, 448, 496, 544]) ?_
  simp only [frzHP, frzA, AV.frz, AV.frzL, List.map_cons, List.map_nil, go_sem, seval]
  exact mX
end Go.Proofs.YtgnidooihignfaaGreatDoor

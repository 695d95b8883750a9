/- Trees: a block that is put. -/
import Derived.Test.YtgnidooihignfaaGreatDoorP6
set_option linter.unusedSimpArgs false
set_option maxRecDepth 10000
namespace Go.Proofs.YtgnidooihignfaaGreatDoor
open Go Go.Ab

/-- An engine at work, whose weights lie in memory of its own. -/
def workV (e : Eng) (W : AV) (b : Block) (a : Att) (c : Ask) : AV := .st [engX e (.sl (e.t.map Node.av) false) (u64s e.b) (.sl (e.vl.map Latest.av) false) W (atts e.late) (links e.k) (checks e.j), b.av, a.av, c.av]
attribute [go_sem] workV
def cz0 : Ask := ⟨0, [], zroot, zroot, 0⟩
def workA (e : Eng) (b : Block) (a : Att) (c : Ask) : AV := .st [e.av, b.av, a.av, c.av]
attribute [go_sem] workA
@[go_sem] theorem und94 : Tryz.prog.underlying 104 = some (.slice 34) := Tryz.underlying104
@[go_sem] theorem und9 : Tryz.prog.underlying 9 = some .string := Tryz.underlying9
@[go_sem] theorem tElem94 : tElem Tryz.prog 104 = some 34 := by kernel_rfl
theorem tField68_0 : tFieldI Tryz.prog 233 0 = some (0, 1, false) := by kernel_rfl
@[go_sem] theorem fap68_0 (o : Nat) (p : List Nat) (off : Nat) (K : AV → Prop) : fieldAddrK Tryz.prog 233 (.ptr o p off) 0 K = K (.ptr o (p ++ [0]) (off + 0)) := fieldAddr_ptr tField68_0 (by decide) o p off K
theorem tField75_0 : tFieldI Tryz.prog 181 0 = some (0, 1, false) := by kernel_rfl
@[go_sem] theorem fap75_0 (o : Nat) (p : List Nat) (off : Nat) (K : AV → Prop) : fieldAddrK Tryz.prog 181 (.ptr o p off) 0 K = K (.ptr o (p ++ [0]) (off + 0)) := fieldAddr_ptr tField75_0 (by decide) o p off K
@[go_sem] theorem tZero68 : tZero Tryz.prog 233 = some (.st [.sl [] true]) := by kernel_rfl
@[go_sem] theorem tZero75 : tZero Tryz.prog 181 = some (.st [.sl [] true]) := by kernel_rfl
@[go_sem] theorem build68_sl (xs : List AV) (c : Bool) (K : AV → Prop) : buildK Tryz.prog 233 [(0, .sl xs c)] K = K (.st [.sl xs c]) := build_struct Tryz.underlying233 tZero68 rfl (by kernel_rfl) rfl K
@[go_sem] theorem build75_sl (xs : List AV) (c : Bool) (K : AV → Prop) : buildK Tryz.prog 181 [(0, .sl xs c)] K = K (.st [.sl xs c]) := build_struct Tryz.underlying181 tZero75 rfl (by kernel_rfl) rfl K
def rd (l : List UInt8) : AV := .st [.sl (l.map bav) false]
@[go_sem] theorem rd_ren (ρ : Nat → Nat) (l : List UInt8) : (rd l).ren ρ = rd l := rfl
@[go_sem] theorem rd_sub (l : List UInt8) : (rd l).sub [0] = some (.sl (l.map bav) false) := rfl
@[go_sem] theorem rd_offs (l : List UInt8) : (rd l).offs [0] = some 0 := rfl
@[go_sem] theorem rd_upd (l m : List UInt8) : (rd l).upd [0] (.sl (m.map bav) false) = some (rd m) := rfl
@[go_sem] theorem rd_ok (l : List UInt8) : (rd l).ok = true := rfl
def rootOf (l : List UInt8) : Root := if h : 32 ≤ l.length then ⟨l.take 32, by simp; omega⟩ else zroot
@[go_sem] theorem build26_nil (K : AV → Prop) : buildK Tryz.prog 58 [] K = K zBlock.av := build_struct Tryz.underlying58 stZero68 rfl (by kernel_rfl) rfl K
@[go_sem] theorem build30_nil (K : AV → Prop) : buildK Tryz.prog 76 [] K = K zAtt.av := build_struct Tryz.underlying76 stZero127 rfl (by kernel_rfl) rfl K
@[go_sem] theorem build30_0 (v : Int) (K : AV → Prop) : buildK Tryz.prog 76 [(0, .int .i64 v)] K = K ({ zAtt with val := v } : Att).av := build_struct Tryz.underlying76 stZero127 rfl (by kernel_rfl) rfl K

@[go_sem] theorem undG94 : Tryz.prog.underlying 104 = some (.slice 34) := Tryz.underlying104
@[go_sem] theorem fapG75_0 (o : Nat) (p : List Nat) (off : Nat) (K : AV → Prop) : fieldAddrK Tryz.prog 181 (.ptr o p off) 0 K = K (.ptr o (p ++ [0]) (off + 0)) := fieldAddr_ptr (show tFieldI Tryz.prog 181 0 = some (0, 1, false) by kernel_rfl) (by decide) o p off K
def rb (r : Root) : List AV := r.1.map fun b => .int .u8 b.toNat
theorem tZeroI75 : tZero Tryz.prog 181 = some (.st [.sl [] true]) := by kernel_rfl
@[go_sem] theorem buildI75_sl (xs : List AV) (c : Bool) (K : AV → Prop) : buildK Tryz.prog 181 [(0, .sl xs c)] K = K (.st [.sl xs c]) := build_struct Tryz.underlying181 tZeroI75 rfl (by kernel_rfl) rfl K
@[go_sem] theorem build34_0 (K : AV → Prop) : buildK Tryz.prog 34 [] K = K (.root zroot) := by
  simp [buildK, Tryz.underlying34, tZero23, tSize5]
theorem bool_eqb (a b : Bool) : (AV.bool a).eqb (.bool b) = decide (a = b) := by cases a <;> cases b <;> rfl
theorem fits4 (a : Bool) : fits Tryz.prog (.bool a) 4 = true := by kernel_rfl
@[go_sem] theorem bneq4 (a b : Bool) (K : AV → Prop) : binK Tryz.prog .neq 4 (.bool a) (.bool b) K = K (.bool !(decide (a = b))) :=
  bin_neq_of (fun _ _ h => by cases h) (fun _ h => by cases h) (fits4 a) (fits4 b) (Nat.le_of_ble_eq_true rfl) (by kernel_rfl) (bool_eqb a b) K

@[go_sem] theorem tZero132 : tZero Tryz.prog 132 = some (.arr [.nilf, .nilf, .nilf, .nilf]) := by kernel_rfl
@[go_sem] theorem tArr132 : tArr Tryz.prog 132 = some (4, 113) := by kernel_rfl
theorem tSize113 : tSize Tryz.prog 113 = some 1 := by kernel_rfl
@[go_sem] theorem build132 (a b c d : Nat) (K : AV → Prop) : buildK Tryz.prog 132 [(0, .fn (.func a) [] []), (1, .fn (.func b) [] []), (2, .fn (.func c) [] []), (3, .fn (.func d) [] [])] K = K (.arr [.fn (.func a) [] [], .fn (.func b) [] [], .fn (.func c) [] [], .fn (.func d) [] []]) := by
  unfold buildK
  rw [Tryz.underlying132, tZero132]
  simp [setParts, tSize113, AV.len, AV.agg, AV.ok]
@[go_sem] theorem build34_2 (K : AV → Prop) : buildK Tryz.prog 34 [(0, .int .u8 2)] K = K (.root (rootN 2)) := build34 2 (by decide) (by decide) K
@[go_sem] theorem build58_012 (r q : Root) (s : Int) (K : AV → Prop) : buildK Tryz.prog 58 [(0, .root r), (1, .root q), (2, .int .u64 s)] K = K (Block.mk r q s 0).av := build_struct Tryz.underlying58 stZero68 rfl (by kernel_rfl) rfl K
theorem kidTo_leads {t : List Node} {w : List Int} {ld : List Bool} {i : Int} : ∀ k, 0 ≤ kidTo t w ld i k → ld.getD (kidTo t w ld i k).toNat false = true ∧ (t.getD (kidTo t w ld i k).toNat zNode).parent = i
  | 0, h => by simp [kidTo] at h
  | k + 1, h => by
    have ih := kidTo_leads (t := t) (w := w) (ld := ld) (i := i) k
    rw [kidTo, bstep] at h ⊢
    split at h
    · rename_i h1
      rw [if_pos h1]; exact ih h
    · rename_i h1
      rw [if_neg h1]
      split at h
      · rename_i h2
        rw [if_pos h2, Int.toNat_natCast]
        rw [not_or] at h1
        refine ⟨?_, Classical.not_not.1 h1.1⟩
        have := h1.2
        cases hl : ld.getD k false with
        | true => rfl
        | false => exact absurd hl this
      · rename_i h2
        rw [if_neg h2]; exact ih h
theorem kidTo_some {t : List Node} {w : List Int} {ld : List Bool} {i : Int} : ∀ k j, j < k → (t.getD j zNode).parent = i → ld.getD j false = true → 0 ≤ kidTo t w ld i k
  | 0, j, h, _, _ => absurd h (Nat.not_lt_zero j)
  | k + 1, j, h, hp, hl => by
    have hr := kidTo_range t w ld i k
    rw [kidTo, bstep]
    by_cases hj : j = k
    · subst hj
      rw [if_neg (by rw [not_or]; exact ⟨fun h => h hp, by rw [hl]; decide⟩)]
      split
      · omega
      · rename_i hb
        rcases hr with hr | hr
        · exact absurd (by simp [wbetterB, hr]) hb
        · exact hr.1
    · have ih := kidTo_some (t := t) (w := w) (ld := ld) (i := i) k j (by omega) hp hl
      split
      · exact ih
      · split
        · omega
        · exact ih
def headF (t : List Node) (w : List Int) (ld : List Bool) (i : Int) : Int := (lineF t w ld i).getLastD (-1)
theorem headF_next {t : List Node} {w : List Int} {ld : List Bool} (hm : mayB t = true) {i : Int} (h0 : 0 ≤ i) (h1 : i < t.length) : headF t w ld i = if kidF t w ld i = -1 then i else headF t w ld (kidF t w ld i) := by
  have hk := kidF_range (w := w) (ld := ld) hm i h0
  unfold headF
  rw [lineF_next hm h0 h1]
  split
  · rename_i h
    rw [h, lineF_none]; rfl
  · rename_i h
    rw [lineF_next (i := kidF t w ld i) hm (by omega) (by omega)]
    rfl
theorem headR_in {t : List Node} {w : List Int} {ld : List Bool} {i : Int} (h : toldB t w ld = true ∧ 0 ≤ i ∧ i < t.length) : headR t w ld i = headF t w ld i := by
  unfold headR lineR; rw [if_pos h]; rfl
theorem headF_all {t : List Node} {w : List Int} {ld : List Bool} (hm : mayB t = true) : ∀ (m : Nat) (i : Int), 0 ≤ i → i < t.length → (t.length : Int) - i ≤ m →
    aboveR t i (headF t w ld i) = true ∧ kidF t w ld (headF t w ld i) = -1 ∧ (headF t w ld i = i ∨ ld.getD (headF t w ld i).toNat false = true)
  | 0, i, _, h1, h2 => by omega
  | m + 1, i, h0, h1, h2 => by
    have hnx := headF_next (w := w) (ld := ld) hm h0 h1
    have hkr := kidF_range (w := w) (ld := ld) hm i h0
    by_cases hk : kidF t w ld i = -1
    · rw [if_pos hk] at hnx
      rw [hnx]
      exact ⟨above_self hm h0 h1, hk, .inl rfl⟩
    · rw [if_neg hk] at hnx
      obtain ⟨a1, a3, a4⟩ := headF_all (w := w) (ld := ld) hm m (kidF t w ld i) (by omega) (by omega) (by omega)
      obtain ⟨b1, b2⟩ := kidTo_leads (t := t) (w := w) (ld := ld) (i := i) t.length (by show 0 ≤ kidF t w ld i; omega)
      have hpar : parI t (kidF t w ld i) = i := b2
      rw [hnx]
      refine ⟨?_, a3, ?_⟩
      · have := above_par hm (a := kidF t w ld i) (by omega) (by omega) (by omega)
        rw [hpar] at this
        exact above_trans this a1
      · rcases a4 with a4 | a4
        · right
          rw [a4]
          exact b1
        · exact .inr a4

def leadI (t : List Node) (p : Int → Bool) (out : List Bool) : Prop := ∀ j : Nat, out.getD j false = true → p j = true ∨ ∃ c : Nat, c < t.length ∧ (t.getD c zNode).parent = (j : Int) ∧ out.getD c false = true
theorem getD_setB (out : List Bool) (k j : Nat) : (out.set k true).getD j false = if k = j ∧ k < out.length then true else out.getD j false := by
  rw [List.getD_eq_getElem?_getD, List.getD_eq_getElem?_getD, List.getElem?_set]
  by_cases h1 : k = j
  · subst h1
    by_cases h2 : k < out.length
    · simp [h2]
    · simp [h2]
  · rw [if_neg h1, if_neg (fun h => h1 h.1)]
theorem markN_inv {t : List Node} {p : Int → Bool} (hm : mayB t = true) : ∀ (n : Nat) (a : Int) (out : List Bool), out.length = t.length → leadI t p out → (a = -1 ∨ ((0 ≤ a ∧ a < t.length) ∧ (p a = true ∨ ∃ c : Nat, c < t.length ∧ (t.getD c zNode).parent = a ∧ out.getD c false = true))) → leadI t p (markN t n a out)
  | 0, _, _, _, h, _ => h
  | n + 1, a, out, hl, h, ha => by
    simp only [markN]
    split
    · exact h
    · rename_i hneg
      split
      · exact h
      · obtain ⟨⟨h0, h1⟩, h2⟩ := ha.resolve_left (by omega)
        obtain ⟨k, rfl⟩ : ∃ k : Nat, a = k := ⟨a.toNat, by omega⟩
        rw [Int.toNat_natCast]
        have hk : ∀ c : Nat, out.getD c false = true → (out.set k true).getD c false = true := fun c hc => by
          rw [getD_setB]
          split
          · rfl
          · exact hc
        refine markN_inv hm n _ _ (by rw [List.length_set]; exact hl) ?_ ?_
        · intro j ho
          rw [getD_setB] at ho
          split at ho
          · rename_i he
            obtain ⟨rfl, _⟩ := he
            rcases h2 with h2 | ⟨c, hc, hp, hoc⟩
            · exact .inl h2
            · exact .inr ⟨c, hc, hp, hk c hoc⟩
          · rcases h j ho with h3 | ⟨c, hc, hp, hoc⟩
            · exact .inl h3
            · exact .inr ⟨c, hc, hp, hk c hoc⟩
        · rcases par_range hm h0 h1 with h3 | h3
          · exact .inl h3
          · refine .inr ⟨⟨h3.1, by omega⟩, .inr ⟨k, by omega, (parI_nat t k).symm, ?_⟩⟩
            rw [getD_setB, if_pos ⟨rfl, by omega⟩]
theorem leadsTo_inv {t : List Node} {p : Int → Bool} (hm : mayB t = true) : ∀ (ls : List Int) (out : List Bool), (∀ a ∈ ls, (0 ≤ a ∧ a < t.length) ∧ p a = true) → out.length = t.length → leadI t p out → leadI t p (leadsTo t ls out)
  | [], _, _, _, h => h
  | a :: ls, out, ha, hl, h => by
    unfold leadsTo
    rw [List.foldl_cons]
    have hh := ha a (by simp)
    have := leadsTo_inv hm ls (markF t a out) (fun b hb => ha b (by simp [hb])) (by unfold markF; rw [markN_len]; exact hl) (markN_inv hm _ a out hl h (.inr ⟨hh.1, .inl hh.2⟩))
    unfold leadsTo at this
    exact this
theorem someL_mem {p : Int → Bool} {n : Nat} {a : Int} (h : a ∈ someL p n) : (0 ≤ a ∧ a < n) ∧ p a = true := by
  unfold someL at h
  obtain ⟨j, hj, rfl⟩ := List.mem_map.1 h
  rw [List.mem_filter] at hj
  have := List.mem_range.1 hj.1
  exact ⟨by omega, hj.2⟩
theorem leadsR_inv {t : List Node} (hm : mayB t = true) (just fin : Int) : leadI t (leafB t just fin) (leadsR t just fin) := by
  rw [leadsR, if_pos hm]
  refine leadsTo_inv hm _ _ (fun a ha => someL_mem ha) (by rw [List.length_replicate]) ?_
  intro j hj
  rw [List.getD_eq_getElem?_getD, List.getElem?_replicate] at hj
  split at hj <;> simp at hj
theorem best_behind {t : List Node} {fin : Check} : ∀ (js : List Check) (c : Check), behindB t c fin = true → behindB t (js.foldl (bestS t fin) c) fin = true
  | [], _, h => h
  | d :: js, c, h => by
    rw [List.foldl_cons]
    refine best_behind js _ ?_
    unfold bestS
    split
    · rename_i h1
      rw [Bool.and_eq_true] at h1
      exact h1.1
    · exact h
theorem findI_root {t : List Node} {r : Root} (h : 0 ≤ findI t r) : (t.getD (findI t r).toNat zNode).root = r := by
  unfold findI at h ⊢
  cases hf : t.findIdx? (isR r) with
  | none => rw [hf] at h; simp only at h; omega
  | some i =>
    simp only [Int.toNat_natCast]
    obtain ⟨hi, hr, _⟩ := List.findIdx?_eq_some_iff_getElem.1 hf
    rw [getD_lt hi]
    exact of_decide_eq_true hr
theorem find_root {t : List Node} {r : Root} (h : 0 ≤ findR t r) : (t.getD (findR t r).toNat zNode).root = r := by
  unfold findR at h ⊢
  split at h
  · rename_i hm
    rw [if_pos hm]
    exact findI_root h
  · omega
theorem head_law {e : Eng} (h : mayE e = true) : findR e.t (e.t.getD (headE e).toNat zNode).root = headE e ∧ aboveR e.t (finE e) (headE e) = true ∧ aboveR e.t (finE e) (findR e.t (justE e).root) = true ∧
    (((kidsR e.t (headE e)).length = 0 ∧ (justE e).epoch ≤ (e.t.getD (headE e).toNat zNode).just) ∨ (e.t.getD (headE e).toNat zNode).root = (justE e).root) := by
  have hm := mayB_of h
  obtain ⟨h0, h1⟩ := headE_range h
  obtain ⟨f0, f1⟩ := finE_range h
  have hb : aboveR e.t (finE e) (findR e.t (justE e).root) = true := best_behind (t := e.t) (fin := e.fin) e.j e.fin (above_self hm f0 f1)
  have hfr : fromR e.t (justE e).root (finE e) = findR e.t (justE e).root := by rw [fromR, if_pos hb]
  obtain ⟨_, _, ⟨g0, g1⟩, _⟩ := above_spec.1 hb
  have htold : toldB e.t e.w (leadsR e.t (justE e).epoch (finE e)) = true := by
    unfold toldB
    rw [hm, ← (mayE_fit h).2.1, weights_len, leadsR_len hm]
    simp
  have he : headE e = headF e.t e.w (leadsR e.t (justE e).epoch (finE e)) (findR e.t (justE e).root) := by
    unfold headE
    rw [hfr, headR_in ⟨htold, g0, g1⟩]
  obtain ⟨a1, a2, a3⟩ := headF_all (w := e.w) (ld := leadsR e.t (justE e).epoch (finE e)) hm e.t.length (findR e.t (justE e).root) g0 g1 (by omega)
  have hi := leadsR_inv hm (justE e).epoch (finE e)
  rw [← he] at a1 a2 a3
  generalize leadsR e.t (justE e).epoch (finE e) = ld at hi a1 a2 a3
  generalize hH : headE e = H at h0 h1 a1 a2 a3 ⊢
  obtain ⟨k, rfl⟩ : ∃ k : Nat, H = k := ⟨H.toNat, by omega⟩
  rw [Int.toNat_natCast] at a3 ⊢
  refine ⟨find_self hm (by omega), above_trans hb a1, hb, ?_⟩
  rcases a3 with a3 | a3
  · right
    have := find_root (t := e.t) (r := (justE e).root) g0
    rw [← a3, Int.toNat_natCast] at this
    exact this
  · left
    rcases hi k a3 with h2 | ⟨c, hc, hp, hoc⟩
    · unfold leafB at h2
      simp only [Bool.and_eq_true, decide_eq_true_eq, Int.toNat_natCast] at h2
      exact h2.2
    · have := kidTo_some (w := e.w) e.t.length c hc hp hoc
      unfold kidF at a2
      omega

def fewE (e : Eng) : Bool := decide (e.t.length ≤ 16) && (decide (e.b.length ≤ 12) && (decide (e.vl.length ≤ 12) && (decide (e.w.length ≤ 16) && (decide (e.late.length ≤ 10) && (decide (e.k.length ≤ 20) && (decide (e.j.length ≤ 24)))))))
theorem fewE_few {e : Eng} (h : fewE e = true) : e.few := by
  simp only [fewE, Bool.and_eq_true, decide_eq_true_eq] at h
  exact ⟨by omega, by omega, by omega, by omega, by omega, by omega, by omega⟩
theorem few_c (e : Eng) : Cal Tryz.prog 14 [e.av] (.bool (fewE e)) := by
  by_cases h0 : e.t.length ≤ 16
  · have e0 : decide ((e.t.length : Int) ≤ 16) = true := decide_eq_true (by omega)
    by_cases h1 : e.b.length ≤ 12
    · have e1 : decide ((e.b.length : Int) ≤ 12) = true := decide_eq_true (by omega)
      by_cases h2 : e.vl.length ≤ 12
      · have e2 : decide ((e.vl.length : Int) ≤ 12) = true := decide_eq_true (by omega)
        by_cases h3 : e.w.length ≤ 16
        · have e3 : decide ((e.w.length : Int) ≤ 16) = true := decide_eq_true (by omega)
          by_cases h4 : e.late.length ≤ 10
          · have e4 : decide ((e.late.length : Int) ≤ 10) = true := decide_eq_true (by omega)
            by_cases h5 : e.k.length ≤ 20
            · have e5 : decide ((e.k.length : Int) ≤ 20) = true := decide_eq_true (by omega)
              by_cases h6 : e.j.length ≤ 24
              · have e6 : decide ((e.j.length : Int) ≤ 24) = true := decide_eq_true (by omega)
                have er : fewE e = true := by simp [fewE, h0, h1, h2, h3, h4, h5, h6]
                have ff := And.intro e0 (And.intro e1 (And.intro e2 (And.intro e3 (And.intro e4 (And.intro e5 (And.intro e6 er))))))
                have hR : Tryz.f14.results.toList = [.tmp 2] := rfl
                refine cal_tr Tryz.func14 rfl fun E hE hP => ?_
                exact mX
              · have e6 : decide ((e.j.length : Int) ≤ 24) = false := decide_eq_false (by omega)
                have er : fewE e = false := by simp [fewE, h0, h1, h2, h3, h4, h5, h6]
                have ff := And.intro e0 (And.intro e1 (And.intro e2 (And.intro e3 (And.intro e4 (And.intro e5 (And.intro e6 er))))))
                have hR : Tryz.f14.results.toList = [.tmp 2] := rfl
                refine cal_tr Tryz.func14 rfl fun E hE hP => ?_
                exact mX
            · have e5 : decide ((e.k.length : Int) ≤ 20) = false := decide_eq_false (by omega)
              have er : fewE e = false := by simp [fewE, h0, h1, h2, h3, h4, h5]
              have ff := And.intro e0 (And.intro e1 (And.intro e2 (And.intro e3 (And.intro e4 (And.intro e5 er)))))
              have hR : Tryz.f14.results.toList = [.tmp 2] := rfl
              refine cal_tr Tryz.func14 rfl fun E hE hP => ?_
              exact mX
          · have e4 : decide ((e.late.length : Int) ≤ 10) = false := decide_eq_false (by omega)
            have er : fewE e = false := by simp [fewE, h0, h1, h2, h3, h4]
            have ff := And.intro e0 (And.intro e1 (And.intro e2 (And.intro e3 (And.intro e4 er))))
            have hR : Tryz.f14.results.toList = [.tmp 2] := rfl
            refine cal_tr Tryz.func14 rfl fun E hE hP => ?_
            exact mX
        · have e3 : decide ((e.w.length : Int) ≤ 16) = false := decide_eq_false (by omega)
          have er : fewE e = false := by simp [fewE, h0, h1, h2, h3]
          have ff := And.intro e0 (And.intro e1 (And.intro e2 (And.intro e3 er)))
          have hR : Tryz.f14.results.toList = [.tmp 2] := rfl
          refine cal_tr Tryz.func14 rfl fun E hE hP => ?_
          exact mX
      · have e2 : decide ((e.vl.length : Int) ≤ 12) = false := decide_eq_false (by omega)
        have er : fewE e = false := by simp [fewE, h0, h1, h2]
        have ff := And.intro e0 (And.intro e1 (And.intro e2 er))
        have hR : Tryz.f14.results.toList = [.tmp 2] := rfl
        refine cal_tr Tryz.func14 rfl fun E hE hP => ?_
        exact mX
    · have e1 : decide ((e.b.length : Int) ≤ 12) = false := decide_eq_false (by omega)
      have er : fewE e = false := by simp [fewE, h0, h1]
      have ff := And.intro e0 (And.intro e1 er)
      have hR : Tryz.f14.results.toList = [.tmp 2] := rfl
      refine cal_tr Tryz.func14 rfl fun E hE hP => ?_
      exact mX
  · have e0 : decide ((e.t.length : Int) ≤ 16) = false := decide_eq_false (by omega)
    have er : fewE e = false := by simp [fewE, h0]
    have ff := And.intro e0 er
    have hR : Tryz.f14.results.toList = [.tmp 2] := rfl
    refine cal_tr Tryz.func14 rfl fun E hE hP => ?_
    exact mX

end Go.Proofs.YtgnidooihignfaaGreatDoor

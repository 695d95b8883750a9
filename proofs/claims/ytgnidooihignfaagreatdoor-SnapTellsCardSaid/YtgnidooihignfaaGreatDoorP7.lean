/- Trees: a block that is put. -/
import Derived.Test.YtgnidooihignfaaGreatDoorP6
set_option linter.unusedSimpArgs false
set_option maxRecDepth 10000
namespace Go.Proofs.YtgnidooihignfaaGreatDoor
open Go Go.Ab
def workV (e : Eng) (W : AV) (b : Block) (a : Att) (c : Ask) : AV := .st [engX e (.sl (e.t.map Node.av) false) (u64s e.b) (.sl (e.vl.map Latest.av) false) W (atts e.late) (links e.k) (checks e.j), b.av, a.av, c.av]
attribute [go_sem] workV
def workA (e : Eng) (b : Block) (a : Att) (c : Ask) : AV := .st [e.av, b.av, a.av, c.av]
attribute [go_sem] workA
@[go_sem] theorem und94 : Tryz.prog.underlying 104 = some (.slice 34) := Tryz.underlying104
@[go_sem] theorem und9 : Tryz.prog.underlying 9 = some .string := Tryz.underlying9
@[go_sem] theorem tElem94 : tElem Tryz.prog 104 = some 34 := by kernel_rfl
theorem tField68_0 : tFieldI Tryz.prog 233 0 = some (0, 1, false) := by kernel_rfl
@[go_sem] theorem fap68_0 (o : Nat) (p : List Nat) (off : Nat) (K : AV → Prop) : fieldAddrK Tryz.prog 233 (.ptr o p off) 0 K = K (.ptr o (p ++ [0]) (off + 0)) := fieldAddr_ptr tField68_0 (by decide) o p off K
theorem tField75_0 : tFieldI Tryz.prog 181 0 = some (0, 1, false) := by kernel_rfl
@[go_sem] theorem fap75_0 (o : Nat) (p : List Nat) (off : Nat) (K : AV → Prop) : fieldAddrK Tryz.prog 181 (.ptr o p off) 0 K = K (.ptr o (p ++ [0]) (off + 0)) := fieldAddr_ptr tField75_0 (by decide) o p off K
@[go_sem] theorem tZero68 : tZero Tryz.prog 233 = some (.st [.sl [] true]) := by kernel_rfl
@[go_sem] theorem tZero75 : tZero Tryz.prog 181 = some (.st [.sl [] true]) := by kernel_rfl
@[go_sem] theorem build68_sl (xs : List AV) (c : Bool) (K : AV → Prop) : buildK Tryz.prog 233 [(0, .sl xs c)] K = K (.st [.sl xs c]) := build_struct Tryz.underlying233 tZero68 rfl kR rfl K
@[go_sem] theorem build75_sl (xs : List AV) (c : Bool) (K : AV → Prop) : buildK Tryz.prog 181 [(0, .sl xs c)] K = K (.st [.sl xs c]) := build_struct Tryz.underlying181 tZero75 rfl kR rfl K
def rd (l : List UInt8) : AV := .st [.sl (l.map bav) false]
@[go_sem] theorem rd_ren (ρ : Nat → Nat) (l : List UInt8) : (rd l).ren ρ = rd l := rfl
@[go_sem] theorem rd_sub (l : List UInt8) : (rd l).sub [0] = some (.sl (l.map bav) false) := rfl
@[go_sem] theorem rd_offs (l : List UInt8) : (rd l).offs [0] = some 0 := rfl
@[go_sem] theorem rd_upd (l m : List UInt8) : (rd l).upd [0] (.sl (m.map bav) false) = some (rd m) := rfl
@[go_sem] theorem rd_ok (l : List UInt8) : (rd l).ok = true := rfl
def rootOf (l : List UInt8) : Root := if h : 32 ≤ l.length then ⟨l.take 32, by simp; omega⟩ else zroot
@[go_sem] theorem build26_nil (K : AV → Prop) : buildK Tryz.prog 58 [] K = K zBlock.av := build_struct Tryz.underlying58 stZero68 rfl kR rfl K
@[go_sem] theorem build30_nil (K : AV → Prop) : buildK Tryz.prog 76 [] K = K zAtt.av := build_struct Tryz.underlying76 stZero127 rfl kR rfl K
@[go_sem] theorem build30_0 (v : Int) (K : AV → Prop) : buildK Tryz.prog 76 [(0, .int .i64 v)] K = K ({ zAtt with val := v } : Att).av := build_struct Tryz.underlying76 stZero127 rfl kR rfl K
@[go_sem] theorem undG94 : Tryz.prog.underlying 104 = some (.slice 34) := Tryz.underlying104
@[go_sem] theorem fapG75_0 (o : Nat) (p : List Nat) (off : Nat) (K : AV → Prop) : fieldAddrK Tryz.prog 181 (.ptr o p off) 0 K = K (.ptr o (p ++ [0]) (off + 0)) := fieldAddr_ptr (show tFieldI Tryz.prog 181 0 = some (0, 1, false) by kernel_rfl) (by decide) o p off K
def rb (r : Root) : List AV := r.1.map fun b => .int .u8 b.toNat
theorem tZeroI75 : tZero Tryz.prog 181 = some (.st [.sl [] true]) := by kernel_rfl
@[go_sem] theorem buildI75_sl (xs : List AV) (c : Bool) (K : AV → Prop) : buildK Tryz.prog 181 [(0, .sl xs c)] K = K (.st [.sl xs c]) := build_struct Tryz.underlying181 tZeroI75 rfl kR rfl K
@[go_sem] theorem build34_0 (K : AV → Prop) : buildK Tryz.prog 34 [] K = K (.root zroot) := by
  simp [buildK, Tryz.underlying34, tZero23, tSize5]
theorem bool_eqb (a b : Bool) : (AV.bool a).eqb (.bool b) = decide (a = b) := by cases a <;> cases b <;> rfl
theorem fits4 (a : Bool) : fits Tryz.prog (.bool a) 4 = true := by kernel_rfl
@[go_sem] theorem bneq4 (a b : Bool) (K : AV → Prop) : binK Tryz.prog .neq 4 (.bool a) (.bool b) K = K (.bool !(decide (a = b))) :=
  bin_neq_of (fun _ _ h => by cases h) (fun _ h => by cases h) (fits4 a) (fits4 b) nb kR (bool_eqb a b) K
@[go_sem] theorem tZero132 : tZero Tryz.prog 132 = some (.arr [.nilf, .nilf, .nilf, .nilf]) := by kernel_rfl
@[go_sem] theorem tArr132 : tArr Tryz.prog 132 = some (4, 113) := by kernel_rfl
theorem tSize113 : tSize Tryz.prog 113 = some 1 := by kernel_rfl
@[go_sem] theorem build132 (a b c d : Nat) (K : AV → Prop) : buildK Tryz.prog 132 [(0, .fn (.func a) [] []), (1, .fn (.func b) [] []), (2, .fn (.func c) [] []), (3, .fn (.func d) [] [])] K = K (.arr [.fn (.func a) [] [], .fn (.func b) [] [], .fn (.func c) [] [], .fn (.func d) [] []]) := by
  unfold buildK
  rw [Tryz.underlying132, tZero132]
  simp [setParts, tSize113, AV.len, AV.agg, AV.ok]
@[go_sem] theorem build34_2 (K : AV → Prop) : buildK Tryz.prog 34 [(0, .int .u8 2)] K = K (.root (rootN 2)) := build34 2 (by decide) (by decide) K
@[go_sem] theorem build58_012 (r q : Root) (s : Int) (K : AV → Prop) : buildK Tryz.prog 58 [(0, .root r), (1, .root q), (2, .int .u64 s)] K = K (Block.mk r q s 0).av := build_struct Tryz.underlying58 stZero68 rfl kR rfl K
def headF (t : List Node) (w : List Int) (ld : List Bool) (i : Int) : Int := (lineF t w ld i).getLastD (-1)
theorem headF_next {t : List Node} {w : List Int} {ld : List Bool} (hm : mayB t = true) {i : Int} (h0 : 0 ≤ i) (h1 : i < t.length) : headF t w ld i = if kidF t w ld i = -1 then i else headF t w ld (kidF t w ld i) := by
 have hk := kidF_range (w := w) (ld := ld) hm i h0
 unfold headF
 rw [lineF_next hm h0 h1]
 split
 · rename_i h
   rw [h, lineF_none]; rfl
 · rename_i h
   rw [lineF_next (i := kidF t w ld i) hm (by omega) (by omega)]
   rfl
def leadI (t : List Node) (p : Int → Bool) (out : List Bool) : Prop := ∀ j : Nat, out.getD j false = true → p j = true ∨ ∃ c : Nat, c < t.length ∧ (t.getD c zNode).parent = (j : Int) ∧ out.getD c false = true
theorem getD_setB (out : List Bool) (k j : Nat) : (out.set k true).getD j false = if k = j ∧ k < out.length then true else out.getD j false := by
 rw [List.getD_eq_getElem?_getD, List.getD_eq_getElem?_getD, List.getElem?_set]
 by_cases h1 : k = j
 · subst h1
   by_cases h2 : k < out.length
   · simp [h2]
   · simp [h2]
 · rw [if_neg h1, if_neg (fun h => h1 h.1)]
theorem markN_inv {t : List Node} {p : Int → Bool} (hm : mayB t = true) : ∀ (n : Nat) (a : Int) (out : List Bool), out.length = t.length → leadI t p out → (a = -1 ∨ ((0 ≤ a ∧ a < t.length) ∧ (p a = true ∨ ∃ c : Nat, c < t.length ∧ (t.getD c zNode).parent = a ∧ out.getD c false = true))) → leadI t p (markN t n a out)
 | 0, _, _, _, h, _ => h
 | n + 1, a, out, hl, h, ha => by
   simp only [markN]
   split
   · exact h
   · rename_i hneg
     split
     · exact h
     · obtain ⟨⟨h0, h1⟩, h2⟩ := ha.resolve_left (by omega)
       obtain ⟨k, rfl⟩ : ∃ k : Nat, a = k := ⟨a.toNat, by omega⟩
       rw [Int.toNat_natCast]
       have hk : ∀ c : Nat, out.getD c false = true → (out.set k true).getD c false = true := fun c hc => by
        rw [getD_setB]
        split
        · rfl
        · exact hc
       refine markN_inv hm n _ _ (by rw [List.length_set]; exact hl) ?_ ?_
       · intro j ho
         rw [getD_setB] at ho
         split at ho
         · rename_i he
           obtain ⟨rfl, _⟩ := he
           rcases h2 with h2 | ⟨c, hc, hp, hoc⟩
           · exact .inl h2
           · exact .inr ⟨c, hc, hp, hk c hoc⟩
         · rcases h j ho with h3 | ⟨c, hc, hp, hoc⟩
           · exact .inl h3
           · exact .inr ⟨c, hc, hp, hk c hoc⟩
       · rcases par_range hm h0 h1 with h3 | h3
         · exact .inl h3
         · refine .inr ⟨⟨h3.1, by omega⟩, .inr ⟨k, by omega, (parI_nat t k).symm, ?_⟩⟩
           rw [getD_setB, if_pos ⟨rfl, by omega⟩]
theorem leadsTo_inv {t : List Node} {p : Int → Bool} (hm : mayB t = true) : ∀ (ls : List Int) (out : List Bool), (∀ a ∈ ls, (0 ≤ a ∧ a < t.length) ∧ p a = true) → out.length = t.length → leadI t p out → leadI t p (leadsTo t ls out)
 | [], _, _, _, h => h
 | a :: ls, out, ha, hl, h => by
   unfold leadsTo
   rw [List.foldl_cons]
   have hh := ha a (by simp)
   have := leadsTo_inv hm ls (markF t a out) (fun b hb => ha b (by simp [hb])) (by unfold markF; rw [markN_len]; exact hl) (markN_inv hm _ a out hl h (.inr ⟨hh.1, .inl hh.2⟩))
   unfold leadsTo at this
   exact this
theorem someL_mem {p : Int → Bool} {n : Nat} {a : Int} (h : a ∈ someL p n) : (0 ≤ a ∧ a < n) ∧ p a = true := by
 unfold someL at h
 obtain ⟨j, hj, rfl⟩ := List.mem_map.1 h
 rw [List.mem_filter] at hj
 have := List.mem_range.1 hj.1
 exact ⟨by omega, hj.2⟩
theorem leadsR_inv {t : List Node} (hm : mayB t = true) (just fin : Int) : leadI t (leafB t just fin) (leadsR t just fin) := by
 rw [leadsR, if_pos hm]
 refine leadsTo_inv hm _ _ (fun a ha => someL_mem ha) (by rw [List.length_replicate]) ?_
 intro j hj
 rw [List.getD_eq_getElem?_getD, List.getElem?_replicate] at hj
 split at hj <;> simp at hj
theorem findI_root {t : List Node} {r : Root} (h : 0 ≤ findI t r) : (t.getD (findI t r).toNat zNode).root = r := by
 unfold findI at h ⊢
 cases hf : t.findIdx? (isR r) with
 | none => rw [hf] at h; simp only at h; omega
 | some i =>
   simp only [Int.toNat_natCast]
   obtain ⟨hi, hr, _⟩ := List.findIdx?_eq_some_iff_getElem.1 hf
   rw [getD_lt hi]
   exact of_decide_eq_true hr
theorem find_root {t : List Node} {r : Root} (h : 0 ≤ findR t r) : (t.getD (findR t r).toNat zNode).root = r := by
 unfold findR at h ⊢
 split at h
 · rename_i hm
   rw [if_pos hm]
   exact findI_root h
 · omega
def fewE (e : Eng) : Bool := decide (e.t.length ≤ 16) && (decide (e.b.length ≤ 12) && (decide (e.vl.length ≤ 12) && (decide (e.w.length ≤ 16) && (decide (e.late.length ≤ 10) && (decide (e.k.length ≤ 20) && (decide (e.j.length ≤ 24)))))))
theorem fewE_few {e : Eng} (h : fewE e = true) : e.few := by
 simp only [fewE, Bool.and_eq_true, decide_eq_true_eq] at h
 exact ⟨by omega, by omega, by omega, by omega, by omega, by omega, by omega⟩
theorem few_c (e : Eng) : Cal Tryz.prog 14 [e.av] (.bool (fewE e)) := by
 by_cases h0 : e.t.length ≤ 16
 · have e0 : decide ((e.t.length : Int) ≤ 16) = true := dtO
   by_cases h1 : e.b.length ≤ 12
   · have e1 : decide ((e.b.length : Int) ≤ 12) = true := dtO
     by_cases h2 : e.vl.length ≤ 12
     · have e2 : decide ((e.vl.length : Int) ≤ 12) = true := dtO
       by_cases h3 : e.w.length ≤ 16
       · have e3 : decide ((e.w.length : Int) ≤ 16) = true := dtO
         by_cases h4 : e.late.length ≤ 10
         · have e4 : decide ((e.late.length : Int) ≤ 10) = true := dtO
           by_cases h5 : e.k.length ≤ 20
           · have e5 : decide ((e.k.length : Int) ≤ 20) = true := dtO
             by_cases h6 : e.j.length ≤ 24
             · have e6 : decide ((e.j.length : Int) ≤ 24) = true := dtO
               have er : fewE e = true := by simp [fewE, h0, h1, h2, h3, h4, h5, h6]
               have ff := And.intro e0 (And.intro e1 (And.intro e2 (And.intro e3 (And.intro e4 (And.intro e5 (And.intro e6 er))))))
               have hR : Tryz.f14.results.toList = [.tmp 2] := rfl
               refine cal_tr Tryz.func14 rfl fun E hE hP => ?_
               exact mX
             · have e6 : decide ((e.j.length : Int) ≤ 24) = false := dfO
               have er : fewE e = false := by simp [fewE, h0, h1, h2, h3, h4, h5, h6]
               have ff := And.intro e0 (And.intro e1 (And.intro e2 (And.intro e3 (And.intro e4 (And.intro e5 (And.intro e6 er))))))
               have hR : Tryz.f14.results.toList = [.tmp 2] := rfl
               refine cal_tr Tryz.func14 rfl fun E hE hP => ?_
               exact mX
           · have e5 : decide ((e.k.length : Int) ≤ 20) = false := dfO
             have er : fewE e = false := by simp [fewE, h0, h1, h2, h3, h4, h5]
             have ff := And.intro e0 (And.intro e1 (And.intro e2 (And.intro e3 (And.intro e4 (And.intro e5 er)))))
             have hR : Tryz.f14.results.toList = [.tmp 2] := rfl
             refine cal_tr Tryz.func14 rfl fun E hE hP => ?_
             exact mX
         · have e4 : decide ((e.late.length : Int) ≤ 10) = false := dfO
           have er : fewE e = false := by simp [fewE, h0, h1, h2, h3, h4]
           have ff := And.intro e0 (And.intro e1 (And.intro e2 (And.intro e3 (And.intro e4 er))))
           have hR : Tryz.f14.results.toList = [.tmp 2] := rfl
           refine cal_tr Tryz.func14 rfl fun E hE hP => ?_
           exact mX
       · have e3 : decide ((e.w.length : Int) ≤ 16) = false := dfO
         have er : fewE e = false := by simp [fewE, h0, h1, h2, h3]
         have ff := And.intro e0 (And.intro e1 (And.intro e2 (And.intro e3 er)))
         have hR : Tryz.f14.results.toList = [.tmp 2] := rfl
         refine cal_tr Tryz.func14 rfl fun E hE hP => ?_
         exact mX
     · have e2 : decide ((e.vl.length : Int) ≤ 12) = false := dfO
       have er : fewE e = false := by simp [fewE, h0, h1, h2]
       have ff := And.intro e0 (And.intro e1 (And.intro e2 er))
       have hR : Tryz.f14.results.toList = [.tmp 2] := rfl
       refine cal_tr Tryz.func14 rfl fun E hE hP => ?_
       exact mX
   · have e1 : decide ((e.b.length : Int) ≤ 12) = false := dfO
     have er : fewE e = false := by simp [fewE, h0, h1]
     have ff := And.intro e0 (And.intro e1 er)
     have hR : Tryz.f14.results.toList = [.tmp 2] := rfl
     refine cal_tr Tryz.func14 rfl fun E hE hP => ?_
     exact mX
 · have e0 : decide ((e.t.length : Int) ≤ 16) = false := dfO
   have er : fewE e = false := by simp [fewE, h0]
   have ff := And.intro e0 er
   have hR : Tryz.f14.results.toList = [.tmp 2] := rfl
   refine cal_tr Tryz.func14 rfl fun E hE hP => ?_
   exact mX
end Go.Proofs.YtgnidooihignfaaGreatDoor

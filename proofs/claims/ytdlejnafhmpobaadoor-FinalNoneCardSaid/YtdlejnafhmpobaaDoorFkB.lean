/- The functions of layer 15: those of Go's library, and the small ones. -/
import Derived.Test.YtdlejnafhmpobaaDoorFkA
set_option linter.unusedSimpArgs false
set_option maxRecDepth 10000
namespace Go.Proofs.YtdlejnafhmpobaaDoor
open Go Go.Ab

def links (l : List Link) : AV := .sl (l.map Link.av) false
@[go_sem] theorem links_idL (l : List Link) : (links l).idL = [] := rfl
@[go_sem] theorem links_frz (hp : HP) (l : List Link) : (links l).frz hp = links l := rfl
@[go_sem] theorem links_flat (l : List Link) : (links l).flat = false := rfl
@[go_sem] theorem links_ok (l : List Link) : (links l).ok = true := rfl
@[go_sem] theorem links_idf (l : List Link) : (links l).idf = true := rfl
@[go_sem] theorem tElem22 : tElem Tryd.prog 25 = some 59 := by kernel_rfl
@[go_sem] theorem tBytes36 : tBytes Tryd.prog 59 = some 88 := by kernel_rfl
@[go_sem] theorem und22 : Tryd.prog.underlying 25 = some (.slice 59) := Tryd.underlying25

def bit (n : Int) : Int := if n < 0 then 0 else IntKind.u64.wrap (1 * 2 ^ min n.toNat IntKind.u64.bits)
theorem bit_pure (n : Int) : Pure Tryd.prog 73 [.int .i64 n] (.int .u64 (bit n)) := by
  refine pure_of_tr Tryd.func73 rfl (Nat.le_of_ble_eq_true rfl) rfl fun E hE hP => ?_
  first | refine tr_seq_region (by rw [hE]; rfl) ?_ | (refine Tr.seq ?_; refine tr_seq_region (by rw [hE]; rfl) ?_)
  repeat (refine vc_op rfl ?_; simp only [go_sem, seval])
  refine vc_nil ?_
  refine Tr.seq ?_
  first | refine tr_seq_region (by rw [hE]; rfl) ?_ | (refine Tr.seq ?_; refine tr_seq_region (by rw [hE]; rfl) ?_)
  repeat (refine vc_op rfl ?_; simp only [go_sem, seval])
  refine vc_nil ?_
  refine Tr.cond rfl (fun h1 => ?_) (fun h1 => ?_)
  · have hb : bit n = 0 := by rw [bit, if_pos (of_decide_eq_true h1)]
    first | refine tr_seq_region (by rw [hE]; rfl) ?_ | (refine Tr.seq ?_; refine tr_seq_region (by rw [hE]; rfl) ?_)
    repeat (refine vc_op rfl ?_; simp only [go_sem, seval])
    refine vc_nil ?_
    refine Tr.ret ?_
    simp only [hb, Tryd.f73, go_sem, seval]
  · have hn := of_decide_eq_false h1
    have hb : bit n = IntKind.u64.wrap (1 * 2 ^ min n.toNat IntKind.u64.bits) := by rw [bit, if_neg hn]
    refine Tr.skip ?_
    try simp only [blockK, thenK, ↓reduceIte]
    first | refine tr_seq_region (by rw [hE]; rfl) ?_ | (refine Tr.seq ?_; refine tr_seq_region (by rw [hE]; rfl) ?_)
    repeat (refine vc_op rfl ?_; simp only [go_sem, seval])
    refine ⟨by omega, ?_⟩
    repeat (refine vc_op rfl ?_; simp only [go_sem, seval])
    refine vc_nil ?_
    refine Tr.ret ?_
    simp only [hb, Tryd.f73, go_sem, seval]

def keyOf (l : Link) : LKey := ⟨l.s, l.t⟩
theorem of_pure (l : Link) : Pure Tryd.prog 74 [l.av] (keyOf l).av := by
  refine pure_of_tr Tryd.func74 rfl (Nat.le_of_ble_eq_true rfl) rfl fun E hE hP => ?_
  first | refine tr_seq_region (by rw [hE]; rfl) ?_ | (refine Tr.seq ?_; refine tr_seq_region (by rw [hE]; rfl) ?_)
  repeat (refine vc_op rfl ?_; simp only [go_sem, seval])
  refine vc_nil ?_
  first | refine tr_seq_region (by rw [hE]; rfl) ?_ | (refine Tr.seq ?_; refine tr_seq_region (by rw [hE]; rfl) ?_)
  repeat (refine vc_op rfl ?_; simp only [go_sem, seval])
  refine vc_nil ?_
  refine Tr.ret ?_
  simp only [keyOf, Tryd.f74, go_sem, seval]

def odd (l : Link) : Bool := decide (l.t.epoch ≤ l.s.epoch) || (decide (l.mask = 0) || decide (256 ≤ l.mask))
theorem odd_pure (l : Link) : Pure Tryd.prog 49 [l.av] (.bool (odd l)) := by
  have hb : bit 8 = 256 := by decide +kernel
  refine pure_of_tr Tryd.func49 rfl (Nat.le_of_ble_eq_true rfl) rfl fun E hE hP => ?_
  first | refine tr_seq_region (by rw [hE]; rfl) ?_ | (refine Tr.seq ?_; refine tr_seq_region (by rw [hE]; rfl) ?_)
  repeat (refine vc_op rfl ?_; simp only [go_sem, seval])
  refine vc_nil ?_
  by_cases h1 : l.t.epoch ≤ l.s.epoch
  · have e1 : decide (l.t.epoch ≤ l.s.epoch) = true := decide_eq_true h1
    have ho : odd l = true := by simp [odd, h1]
    first | apply tr_md mixed [0] rfl (by rw [hE]; rfl) (by kernel_rfl) | (refine Tr.seq ?_; apply tr_md mixed [0] rfl (by rw [hE]; rfl) (by kernel_rfl))
    intro Q hQ
    simp only [List.toList_toArray, List.map_cons, List.map_nil, mo, guardSlot, Option.map_some, Option.map_none, List.getElem?_toArray, List.getElem?_cons_succ, List.getElem?_cons_zero, Option.bind_some]
    iterate 8 ((refine vd2_q rfl ?_); intro r hr; simp only [e1, go_sem, seval]; subst hr)
    iterate 3 ((first | refine vd2_goq rfl rfl ?_ | refine vd2_no rfl ?_ | refine vd2_skip rfl ?_); intro r hr; simp only [e1, go_sem, seval]; subst hr)
    iterate 2 ((refine vd2_q rfl ?_); intro r hr; simp only [e1, go_sem, seval]; subst hr)
    iterate 2 ((first | refine vd2_goq rfl rfl ?_ | refine vd2_no rfl ?_ | refine vd2_skip rfl ?_); intro r hr; simp only [e1, go_sem, seval]; subst hr)
    (first | refine vd2_gox rfl rfl ?_ | refine vd2_no rfl ?_ | refine vd2_skip rfl ?_); intro r hr; simp only [e1, go_sem, seval]; subst hr
    (first | refine vd2_goq rfl rfl ?_ | refine vd2_no rfl ?_ | refine vd2_skip rfl ?_); intro r hr; simp only [e1, go_sem, seval]; subst hr
    iterate 2 ((refine vd2_q rfl ?_); intro r hr; simp only [e1, go_sem, seval]; subst hr)
    exact hQ
    refine Tr.ret ?_
    simp only [ho, Tryd.f49, go_sem, seval]
  · have e1 : decide (l.t.epoch ≤ l.s.epoch) = false := decide_eq_false h1
    by_cases h2 : l.mask = 0
    · have e2 : decide (l.mask = 0) = true := decide_eq_true h2
      have ho : odd l = true := by simp [odd, h2]
      first | apply tr_md mixed [0] rfl (by rw [hE]; rfl) (by kernel_rfl) | (refine Tr.seq ?_; apply tr_md mixed [0] rfl (by rw [hE]; rfl) (by kernel_rfl))
      intro Q hQ
      simp only [List.toList_toArray, List.map_cons, List.map_nil, mo, guardSlot, Option.map_some, Option.map_none, List.getElem?_toArray, List.getElem?_cons_succ, List.getElem?_cons_zero, Option.bind_some]
      iterate 8 ((refine vd2_q rfl ?_); intro r hr; simp only [e1, e2, go_sem, seval]; subst hr)
      iterate 3 ((first | refine vd2_goq rfl rfl ?_ | refine vd2_no rfl ?_ | refine vd2_skip rfl ?_); intro r hr; simp only [e1, e2, go_sem, seval]; subst hr)
      iterate 2 ((refine vd2_q rfl ?_); intro r hr; simp only [e1, e2, go_sem, seval]; subst hr)
      iterate 2 ((first | refine vd2_goq rfl rfl ?_ | refine vd2_no rfl ?_ | refine vd2_skip rfl ?_); intro r hr; simp only [e1, e2, go_sem, seval]; subst hr)
      (first | refine vd2_gox rfl rfl ?_ | refine vd2_no rfl ?_ | refine vd2_skip rfl ?_); intro r hr; simp only [e1, e2, go_sem, seval]; subst hr
      (first | refine vd2_goq rfl rfl ?_ | refine vd2_no rfl ?_ | refine vd2_skip rfl ?_); intro r hr; simp only [e1, e2, go_sem, seval]; subst hr
      iterate 2 ((refine vd2_q rfl ?_); intro r hr; simp only [e1, e2, go_sem, seval]; subst hr)
      exact hQ
      refine Tr.ret ?_
      simp only [ho, Tryd.f49, go_sem, seval]
    · have e2 : decide (l.mask = 0) = false := decide_eq_false h2
      have ho : odd l = decide (256 ≤ l.mask) := by simp [odd, h1, h2]
      first | apply tr_md mixed [0] rfl (by rw [hE]; rfl) (by kernel_rfl) | (refine Tr.seq ?_; apply tr_md mixed [0] rfl (by rw [hE]; rfl) (by kernel_rfl))
      intro Q hQ
      simp only [List.toList_toArray, List.map_cons, List.map_nil, mo, guardSlot, Option.map_some, Option.map_none, List.getElem?_toArray, List.getElem?_cons_succ, List.getElem?_cons_zero, Option.bind_some]
      iterate 8 ((refine vd2_q rfl ?_); intro r hr; simp only [e1, e2, go_sem, seval]; subst hr)
      iterate 3 ((first | refine vd2_goq rfl rfl ?_ | refine vd2_no rfl ?_ | refine vd2_skip rfl ?_); intro r hr; simp only [e1, e2, go_sem, seval]; subst hr)
      iterate 2 ((refine vd2_q rfl ?_); intro r hr; simp only [e1, e2, go_sem, seval]; subst hr)
      iterate 2 ((first | refine vd2_goq rfl rfl ?_ | refine vd2_no rfl ?_ | refine vd2_skip rfl ?_); intro r hr; simp only [e1, e2, go_sem, seval]; subst hr)
      (first | refine vd2_gox rfl rfl ?_ | refine vd2_no rfl ?_ | refine vd2_skip rfl ?_); intro r hr; simp only [e1, e2, go_sem, seval]
      refine call_fn rfl rfl rfl rfl (enters_of Tryd.func73 (by kernel_rfl) rfl) (bit_pure 8) rfl rfl rfl ?_
      simp only [go_sem, seval]
      subst hr
      (first | refine vd2_goq rfl rfl ?_ | refine vd2_no rfl ?_ | refine vd2_skip rfl ?_); intro r hr; simp only [hb, go_sem, seval]; subst hr
      iterate 2 ((refine vd2_q rfl ?_); intro r hr; simp only [hb, go_sem, seval]; subst hr)
      exact hQ
      refine Tr.ret ?_
      simp only [ho, Tryd.f49, go_sem, seval]

theorem lens_links (l : List Link) : ∀ z ∈ l.map Link.av, z.len = 67 := fun z hz => by
  obtain ⟨a, _, rfl⟩ := List.mem_map.1 hz
  rfl

def lidx (l : List Link) : Int := match l.findIdx? odd with | some i => (i : Int) | none => -1

theorem lidx_at {l : List Link} {i : Nat} (h : i < l.length) (hb : ∀ j (hj : j < i), odd (l[j]'(by omega)) = false) (hi : odd l[i] = true) : lidx l = i := by
  have : l.findIdx? odd = some i := by
    rw [List.findIdx?_eq_some_iff_getElem]
    exact ⟨h, hi, fun j hj => by rw [hb j hj]; simp⟩
  rw [lidx, this]
theorem lidx_none {l : List Link} (hb : ∀ j (hj : j < l.length), odd l[j] = false) : lidx l = -1 := by
  have : l.findIdx? odd = none := by
    rw [List.findIdx?_eq_none_iff]
    intro x hx
    obtain ⟨j, hj, rfl⟩ := List.mem_iff_getElem.1 hx
    exact hb j hj
  rw [lidx, this]
theorem lidx_any (l : List Link) : decide (0 ≤ lidx l) = l.any odd := by
  unfold lidx
  cases h : l.findIdx? odd with
  | none =>
    rw [List.findIdx?_eq_none_iff] at h
    have : l.any odd = false := by rw [List.any_eq_false]; intro x hx; rw [h x hx]; simp
    rw [this]; rfl
  | some i =>
    rw [List.findIdx?_eq_some_iff_getElem] at h
    obtain ⟨h1, h2, _⟩ := h
    have : l.any odd = true := List.any_eq_true.2 ⟨l[i], List.getElem_mem h1, h2⟩
    rw [this]; simp

def lidxSt (l : List Link) (i : Nat) : S where
  fr := [(8, .int .i64 i), (7, .int .i64 l.length), (0, .sl (l.map Link.av) false), (1, .fn (.func 49) [] [])]
  hp := []
  nx := 0

theorem LIndex_pure (l : List Link) (hl : l.length ≤ 100) : Pure Tryd.prog 72 [links l, .fn (.func 49) [] []] (.int .i64 (lidx l)) := by
  unfold links
  refine pure_of_tr Tryd.func72 rfl (Nat.le_of_ble_eq_true rfl) rfl fun E hE hP => ?_
  first | refine tr_seq_region (by rw [hE]; rfl) ?_ | (refine Tr.seq ?_; refine tr_seq_region (by rw [hE]; rfl) ?_)
  repeat (refine vc_op rfl ?_; simp only [go_sem, seval])
  refine vc_nil ?_
  refine Tr.seq ?_
  first | refine tr_seq_region (by rw [hE]; rfl) ?_ | (refine Tr.seq ?_; refine tr_seq_region (by rw [hE]; rfl) ?_)
  repeat (refine vc_op rfl ?_; simp only [go_sem, seval])
  refine vc_nil ?_
  refine Tr.block ?_
  refine Tr.loop (lidxSt l) (fun i => i ≤ l.length ∧ ∀ j (hj : j < l.length), j < i → odd l[j] = false) (fun i => l.length - i) 0 ⟨Nat.zero_le _, fun _ _ h => by omega⟩ ?_ ?_
  · refine wk_ren (fun n => n) ?_ ?_ rfl rfl rfl
    · repeat' (first | exact rfl | exact trivial | constructor)
    · repeat' (first | exact rfl | exact trivial | constructor)
  · intro i ⟨hi, hbefore⟩
    unfold lidxSt
    first | refine tr_seq_region (by rw [hE]; rfl) ?_ | (refine Tr.seq ?_; refine tr_seq_region (by rw [hE]; rfl) ?_)
    repeat (refine vc_op rfl ?_; simp only [go_sem, seval])
    refine vc_nil ?_
    refine Tr.seq (Tr.cond rfl (fun hb => ?_) (fun hb => ?_))
    · refine Tr.skip ?_
      have hlt : i < l.length := by have := of_decide_eq_true hb; omega
      have ha := nth_map_lt Link.av l i hlt
      generalize hla : l[i] = a at ha
      have hw := wrap_next (n := i) (by omega)
      simp only [thenK]
      refine Tr.seq (Tr.block ?_)
      first | refine tr_seq_region (by rw [hE]; rfl) ?_ | (refine Tr.seq ?_; refine tr_seq_region (by rw [hE]; rfl) ?_)
      repeat (refine vc_op rfl ?_; simp only [go_sem, seval])
      refine vc_nil ?_
      first | refine tr_seq_region (by rw [hE]; rfl) ?_ | (refine Tr.seq ?_; refine tr_seq_region (by rw [hE]; rfl) ?_)
      repeat (refine vc_op rfl ?_; simp only [ha, go_sem, seval])
      refine call_fn rfl rfl rfl rfl (enters_of Tryd.func49 (by kernel_rfl) rfl) (odd_pure a) rfl rfl rfl ?_
      simp only [go_sem, seval]
      repeat (refine vc_op rfl ?_; simp only [go_sem, seval])
      refine vc_nil ?_
      refine Tr.cond rfl (fun hd => ?_) (fun hd => ?_)
      · first | refine tr_seq_region (by rw [hE]; rfl) ?_ | (refine Tr.seq ?_; refine tr_seq_region (by rw [hE]; rfl) ?_)
        repeat (refine vc_op rfl ?_; simp only [go_sem, seval])
        refine vc_nil ?_
        have hidx : lidx l = i := lidx_at hlt (fun j hj => hbefore j (by omega) hj) (by rw [hla]; exact hd)
        refine Tr.ret ?_
        simp only [Tryd.f72, hidx, go_sem, seval]
      · refine Tr.skip ?_
        simp only [blockK, thenK]
        refine tr_region (by rw [hE]; rfl) ?_
        repeat (refine vc_op rfl ?_; simp only [hw, go_sem, seval])
        refine vc_nil ?_
        refine ⟨i + 1, ⟨hlt, fun j hj hji => ?_⟩, by omega, ?_⟩
        · by_cases h : j = i
          · subst h; rw [hla]; exact hd
          · exact hbefore j hj (by omega)
        · refine wk_ren (fun n => n) ?_ ?_ rfl rfl rfl
          · repeat' (first | exact rfl | exact trivial | constructor)
          · repeat' (first | exact rfl | exact trivial | constructor)
    · refine Tr.exit ?_
      simp only [blockK, thenK, ↓reduceIte]
      have hil : i = l.length := by
        have := of_decide_eq_false hb
        omega
      subst hil
      have hidx : lidx l = -1 := lidx_none fun j hj => hbefore j hj hj
      first | refine tr_seq_region (by rw [hE]; rfl) ?_ | (refine Tr.seq ?_; refine tr_seq_region (by rw [hE]; rfl) ?_)
      repeat (refine vc_op rfl ?_; simp only [go_sem, seval])
      refine vc_nil ?_
      refine Tr.ret ?_
      simp only [Tryd.f72, hidx, go_sem, seval]

theorem LContains_pure (l : List Link) (hl : l.length ≤ 100) : Pure Tryd.prog 48 [links l, .fn (.func 49) [] []] (.bool (l.any odd)) := by
  refine pure_of_tr Tryd.func48 rfl (Nat.le_of_ble_eq_true rfl) rfl fun E hE hP => ?_
  first | refine tr_seq_region (by rw [hE]; rfl) ?_ | (refine Tr.seq ?_; refine tr_seq_region (by rw [hE]; rfl) ?_)
  repeat (refine vc_op rfl ?_; simp only [go_sem, seval])
  refine vc_nil ?_
  first | refine tr_seq_region (by rw [hE]; rfl) ?_ | (refine Tr.seq ?_; refine tr_seq_region (by rw [hE]; rfl) ?_)
  repeat (refine vc_op rfl ?_; simp only [go_sem, seval])
  refine call_fn rfl rfl rfl rfl (enters_of Tryd.func72 (by kernel_rfl) rfl) (LIndex_pure l hl) rfl rfl rfl ?_
  simp only [go_sem, seval]
  repeat (refine vc_op rfl ?_; simp only [lidx_any, go_sem, seval])
  refine vc_nil ?_
  refine Tr.ret ?_
  simp only [Tryd.f48, go_sem, seval]

/- What some weigh: the program. -/
import Derived.Test.YtdlejnafhmpobaaDoorFiF
set_option linter.unusedSimpArgs false
set_option maxRecDepth 10000
namespace Go.Proofs.YtdlejnafhmpobaaDoor
open Go Go.Ab

@[go_sem] theorem tSize26 : tSize Tryd.prog 26 = some 1 := by kernel_rfl
@[go_sem] theorem tAgg26 : tAgg Tryd.prog 26 = some false := by kernel_rfl
@[go_sem] theorem u64s_agg (l : List Int) : (u64s l).agg = false := rfl
@[go_sem] theorem u64s_len (l : List Int) : (u64s l).len = 1 := rfl
@[go_sem] theorem u64s_ren (ρ : Nat → Nat) (l : List Int) : (u64s l).ren ρ = u64s l := rfl
theorem each_own (m : Int) : Own Tryd.prog 78 [.int .u64 m] (.fn (.func 91) [] [.ptr 0 [] 0]) [(0, .var (.int .u64 m))] := by
  refine own_of_tr Tryd.func78 rfl (Nat.le_of_ble_eq_true rfl) rfl fun E hE hP => ?_
  first | refine tr_seq_region (by rw [hE]; rfl) ?_ | (refine Tr.seq ?_; refine tr_seq_region (by rw [hE]; rfl) ?_)
  repeat (refine vc_op rfl ?_; simp only [go_sem, seval])
  refine vc_nil ?_
  first | refine tr_seq_region (by rw [hE]; rfl) ?_ | (refine Tr.seq ?_; refine tr_seq_region (by rw [hE]; rfl) ?_)
  repeat (refine vc_op rfl ?_; simp only [go_sem, seval])
  refine vc_nil ?_
  refine Tr.ret ?_
  simp only [Tryd.f78, go_sem, seval]
  exact ⟨fun n => n, rfl, ⟨⟨rfl, rfl, rfl⟩, trivial⟩, rfl⟩

theorem less_all : (List.range 256).all (fun m => decide (m = 0) || (decide (bitsI BinOp.and IntKind.u64 (m : Int) (IntKind.u64.wrap ((m : Int) - 1)) = ((m &&& (m - 1) : Nat) : Int)) && decide (m &&& (m - 1) < m) && m.testBit (tz m) && (List.range 8).all (fun j => decide ((m &&& (m - 1)).testBit j = (m.testBit j && decide (j ≠ tz m)))))) = true := by decide +kernel
theorem less_at {m : Nat} (h0 : 0 < m) (h1 : m < 256) : bitsI BinOp.and IntKind.u64 (m : Int) (IntKind.u64.wrap ((m : Int) - 1)) = ((m &&& (m - 1) : Nat) : Int) ∧ m &&& (m - 1) < m ∧ m.testBit (tz m) = true ∧ ∀ j, j < 8 → (m &&& (m - 1)).testBit j = (m.testBit j && decide (j ≠ tz m)) := by
  have h := List.all_eq_true.1 less_all m (List.mem_range.2 h1)
  have hm : decide (m = 0) = false := decide_eq_false (by omega)
  simp only [hm, Bool.false_or, Bool.and_eq_true, decide_eq_true_eq] at h
  obtain ⟨⟨⟨h2, h3⟩, h4⟩, h5⟩ := h
  refine ⟨h2, h3, h4, fun j hj => ?_⟩
  have := List.all_eq_true.1 h5 j (List.mem_range.2 hj)
  exact of_decide_eq_true this

theorem low_bits (m n : Nat) (hm : m < 18446744073709551616) (hn : n ≤ 8) : bitsI BinOp.and IntKind.u64 (m : Int) (IntKind.u64.wrap (bit n - 1)) = ((m % 2 ^ n : Nat) : Int) := by
  have h256 : ∀ k : Nat, k ≤ 8 → bit k = ((2 ^ k : Nat) : Int) ∧ 2 ^ k ≤ 256 := by
    intro k hk
    rcases Nat.lt_or_ge k 8 with h | h
    · refine ⟨bit_pow k (by omega), ?_⟩
      exact Nat.pow_le_pow_right (n := 2) (by omega) hk
    · have : k = 8 := by omega
      subst this
      exact ⟨by decide +kernel, by decide⟩
  obtain ⟨e1, e2⟩ := h256 n hn
  have e3 : 0 < 2 ^ n := Nat.pow_pos (by omega)
  have e4 : IntKind.u64.wrap (bit n - 1) = ((2 ^ n - 1 : Nat) : Int) := by
    have : bit n - 1 = ((2 ^ n - 1 : Nat) : Int) := by omega
    rw [this]; exact wrapU (by omega)
  rw [e4]
  show andU m _ = _
  rw [andU_eq, BitVec.toNat_and]
  have f1 : (bv (m : Int)).toNat = m := by have := bv_back (n := m) ⟨by omega, by omega⟩; omega
  have f2 : (bv ((2 ^ n - 1 : Nat) : Int)).toNat = 2 ^ n - 1 := by have := bv_back (n := ((2 ^ n - 1 : Nat) : Int)) ⟨by omega, by omega⟩; omega
  rw [f1, f2, Nat.and_two_pow_sub_one_eq_mod]

def stO (l : List Int) (k : Nat) : S where
  fr := [(2, .ptr 1 [] 0), (5, .ptr 2 [] 0), (16, .fn (.func 91) [] [.ptr 3 [] 0])]
  hp := [(0, .tab 0 tabV), (1, .var (u64s l)), (2, .var (.int .u64 0)), (3, .var (.int .u64 k))]
  nx := 4
def stE (l : List Int) (L : Nat) (b : LB) (p : Nat × Int) : S where
  fr := [(0, .fn (.yield L) [] []), (1, .ptr 3 [] 0)]
  hp := [(5, .lp b .ready none), (4, .dfr), (0, .tab 0 tabV), (1, .var (u64s l)), (2, .var (.int .u64 p.2)), (3, .var (.int .u64 p.1))]
  nx := 6

theorem of_T (l : List Int) (m : Nat) (hb : okB l) (hm : m < 18446744073709551616) : PureT Tryd.prog 0 tabV 54 [u64s l, .int .u64 m] (.int .u64 (ofB l m)) := by
  have hmc := smay_pure l
  refine eff_of_trM Tryd.func54 rfl (Nat.le_of_ble_eq_true rfl) rfl fun E hE hP => ?_
  first | refine tr_seq_region (by rw [hE]; rfl) ?_ | (refine Tr.seq ?_; refine tr_seq_region (by rw [hE]; rfl) ?_)
  repeat (refine vc_op rfl ?_; simp only [go_sem, seval])
  refine vc_nil ?_
  by_cases h : mayS l = true
  · have er : ofB l m = sumTo l m l.length := by unfold ofB; rw [if_pos h]
    have h8 := (mayS_spec h).2.1
    have hk := low_bits m l.length hm h8
    have hk2 : m % 2 ^ l.length < 2 ^ l.length := Nat.mod_lt _ (Nat.pow_pos (by omega))
    have hk3 : 2 ^ l.length ≤ 256 := Nat.pow_le_pow_right (n := 2) (by omega) h8
    have hk4 : ∀ j, j < l.length → (m % 2 ^ l.length).testBit j = m.testBit j := fun j hj => by rw [Nat.testBit_mod_two_pow]; simp [hj]
    have hk5 := sumTo_congr (bal := l) (m := m % 2 ^ l.length) (k := m) l.length hk4
    rw [← hk5] at er
    generalize m % 2 ^ l.length = m0 at hk hk2 er
    rw [h] at hmc
    first | apply tr_m (by rw [hE]; rfl) | (refine Tr.seq ?_; apply tr_m (by rw [hE]; rfl))
    intro Q hQ
    simp only [List.toList_toArray, List.map_cons, List.map_nil, mo, guardSlot, Option.map_some, Option.map_none, List.getElem?_toArray, List.getElem?_cons_succ, List.getElem?_cons_zero, Option.bind_some]
    (refine vm_op ?_); intro r hr; simp only [go_sem, seval]; subst hr
    (refine vm_op ?_); intro r hr; simp only [go_sem, seval]
    refine call_fn rfl rfl rfl rfl (enters_of Tryd.func27 (by kernel_rfl) rfl) (hmc) rfl rfl rfl ?_
    simp only [go_sem, seval]
    subst hr
    (refine vm_op ?_); intro r hr; simp only [go_sem, seval]; subst hr
    exact hQ
    first | refine Tr.cond rfl (fun h => by cases h) (fun _ => ?_) | refine Tr.seq (Tr.cond rfl (fun h => by cases h) (fun _ => ?_))
    refine Tr.skip ?_
    try simp only [blockK, thenK, ↓reduceIte]
    first | refine tr_seq_region (by rw [hE]; rfl) ?_ | (refine Tr.seq ?_; refine tr_seq_region (by rw [hE]; rfl) ?_)
    repeat (refine vc_op rfl ?_; simp only [go_sem, seval])
    refine vc_nil ?_
    first | apply tr_m (by rw [hE]; rfl) | (refine Tr.seq ?_; apply tr_m (by rw [hE]; rfl))
    intro Q hQ
    simp only [List.toList_toArray, List.map_cons, List.map_nil, mo, guardSlot, Option.map_some, Option.map_none, List.getElem?_toArray, List.getElem?_cons_succ, List.getElem?_cons_zero, Option.bind_some]
    iterate 3 ((refine vm_op ?_); intro r hr; simp only [u64s, List.length_map, go_sem, seval]; subst hr)
    (refine vm_op ?_); intro r hr; simp only [u64s, List.length_map, go_sem, seval]
    refine call_fn rfl rfl rfl rfl (enters_of Tryd.func73 (by kernel_rfl) rfl) (bit_pure (l.length : Int)) rfl rfl rfl ?_
    simp only [go_sem, seval]
    subst hr
    iterate 2 ((refine vm_op ?_); intro r hr; simp only [hk, go_sem, seval]; subst hr)
    (refine vm_op ?_); intro r hr; simp only [hk, go_sem, seval]
    refine call_own rfl rfl rfl rfl (enters_of Tryd.func78 (by kernel_rfl) rfl) (each_own (m0 : Int)) rfl rfl ?_
    simp only [go_sem, seval]
    subst hr
    exact hQ
    refine Tr.wk (s' := stO l m0) ?_ ?_
    · refine wk_ren (fun | 2 => 81 | 3 => 193 | n => n) ?_ ?_ rfl rfl rfl
      · repeat' (first | exact rfl | exact trivial | constructor)
      · repeat' (first | exact rfl | exact trivial | constructor)
    · unfold stO
      first | refine Tr.block ?_ | (refine Tr.seq ?_; refine Tr.block ?_)
      refine Tr.range (fid := 91) (fn := Tryd.f91) rfl (enters_of Tryd.func91 (by kernel_rfl) rfl) Tryd.func91 rfl rfl (Nat.le_of_ble_eq_true rfl) ?_
      have hE0 := hE
      intro E' L b hE hP' sd
      have hP : E'.pn = 6 := hP'
      rw [er]
      first | refine Tr.block ?_ | (refine Tr.seq ?_; refine Tr.block ?_)
      refine Tr.loop (stE l L b) (fun p => p.1 < 2 ^ l.length ∧ p.2 + sumTo l p.1 l.length = sumTo l m0 l.length ∧ 0 ≤ p.2 ∧ p.2 ≤ 8796093022208) (fun p => p.1) (m0, 0) ⟨hk2, by simp, by simp, by simp⟩ ?_ ?_
      · refine wk_ren (fun n => n) ?_ ?_ rfl rfl rfl
        · repeat' (first | exact rfl | exact trivial | constructor)
        · repeat' (first | exact rfl | exact trivial | constructor)
      · rintro ⟨k, s⟩ ⟨hk1, hsum, hs0, hs1⟩
        simp only at hk1 hsum hs0 hs1
        unfold stE
        rcases Nat.eq_zero_or_pos k with h0 | h0
        · subst h0
          have er2 : s = sumTo l m0 l.length := by rw [sumTo_zero] at hsum; omega
          have ek : (((0 : Nat) : Int) != 0) = false := rfl
          first | refine tr_seq_y 6 sd (by rw [hE]; rfl) rfl rfl rfl ?_ | (refine Tr.seq ?_; refine tr_seq_y 6 sd (by rw [hE]; rfl) rfl rfl rfl ?_)
          simp only [List.toList_toArray, List.take_succ_cons, List.take_zero]
          repeat (first | (refine vc_op rfl ?_; simp only [ek, go_sem, seval]) | (refine vc_go rfl rfl rfl ?_; simp only [ek, go_sem, seval]) | (refine vc_no rfl rfl rfl ?_; simp only [ek, go_sem, seval]) | (refine vc_skip rfl rfl rfl ?_; simp only [ek, go_sem, seval]))
          refine vc_nil ?_
          refine gy_no rfl rfl rfl ?_
          simp only [go_sem, seval]
          repeat (refine vc_op rfl ?_; simp only [go_sem, seval])
          refine vc_nil ?_
          first | refine Tr.cond (b := false) rfl (fun h => by cases h) (fun _ => ?_) | refine Tr.seq (Tr.cond (b := false) rfl (fun h => by cases h) (fun _ => ?_))
          refine Tr.exit ?_
          try simp only [blockK, thenK, ↓reduceIte]
          have hE := hE0
          refine ⟨rfl, _, _, rfl, by simp, rfl, ?_⟩
          simp only [goOn]
          simp only [HP.del, List.filter_cons, List.filter_nil, Bool.not_false, Bool.not_true, if_true, Bool.false_eq_true, if_false, go_sem, seval]
          rw [← er2]
          first | refine tr_seq_region (by rw [hE]; rfl) ?_ | (refine Tr.seq ?_; refine tr_seq_region (by rw [hE]; rfl) ?_)
          repeat (refine vc_op rfl ?_; simp only [go_sem, seval])
          refine vc_nil ?_
          refine Tr.ret ?_
          refine ⟨by simp, fun o ho => by rw [List.mem_singleton.1 ho]; rfl, ?_⟩
          simp only [HP.drop, List.contains_cons, List.contains_nil, Bool.or_false, Bool.false_or, Bool.or_true, List.filter_cons, List.filter_nil, Bool.not_false, Bool.not_true, if_true, Bool.false_eq_true, if_false,  Tryd.f54, go_sem, seval]
          exact ⟨fun n => n, ⟨⟨rfl, rfl, rfl⟩, trivial⟩, rfl, fun _ _ => rfl⟩
        · have h256 : k < 256 := by omega
          obtain ⟨l1, l2, l3, l4⟩ := less_at h0 h256
          have hz := tz_T k h0 h256
          have hv : tz k < l.length := by
            rcases Nat.lt_or_ge (tz k) l.length with h | h
            · exact h
            · rw [Nat.testBit_lt_two_pow (Nat.lt_of_lt_of_le hk1 (Nat.pow_le_pow_right (by omega) h))] at l3
              cases l3
          have hless := sumTo_less (bal := l) (m := k) (k := k &&& (k - 1)) l3 l.length fun j hj => l4 j (by omega)
          rw [if_pos hv] at hless
          have hd : l.getD (tz k) 0 = l[tz k] := by simp [hv]
          rw [hd] at hless
          have hr1 := bal_range h hb hv
          rw [hd] at hr1
          have hr2 := sumTo_range h hb (k &&& (k - 1)) l.length (Nat.le_refl _)
          have hr3 := sumTo_range h hb m0 l.length (Nat.le_refl _)
          have hw : IntKind.u64.wrap (s + l[tz k]) = s + l[tz k] := wrapU_lt (by omega) (by omega)
          have ha := nth_map_lt uav l (tz k) hv
          have ek : ((k : Int) != 0) = true := by rw [int_bne, decide_eq_false (by omega)]; rfl
          generalize l[tz k] = x at hless hr1 hw ha
          generalize hk' : k &&& (k - 1) = k' at l1 l2 hless hr2
          clear hk4 hk5 hk3 l3 l4
          first | refine tr_seq_y 6 sd (by rw [hE]; rfl) rfl rfl rfl ?_ | (refine Tr.seq ?_; refine tr_seq_y 6 sd (by rw [hE]; rfl) rfl rfl rfl ?_)
          simp only [List.toList_toArray, List.take_succ_cons, List.take_zero]
          repeat (first | (refine vc_op rfl ?_; simp only [ek, go_sem, seval]) | (refine vc_go rfl rfl rfl ?_; simp only [ek, go_sem, seval]) | (refine vc_no rfl rfl rfl ?_; simp only [ek, go_sem, seval]) | (refine vc_skip rfl rfl rfl ?_; simp only [ek, go_sem, seval]))
          refine call_eff (fun n => n) [] [] rfl rfl rfl rfl (enters_of Tryd.func92 (by kernel_rfl) rfl) (hz) rfl rfl (by repeat' (first | exact rfl | exact trivial | constructor)) rfl rfl rfl ?_
          simp only [renH_nil, renH_cons, effR, go_sem, seval]
          repeat (first | (refine vc_op rfl ?_; simp only [go_sem, seval]) | (refine vc_go rfl rfl rfl ?_; simp only [go_sem, seval]) | (refine vc_no rfl rfl rfl ?_; simp only [go_sem, seval]) | (refine vc_skip rfl rfl rfl ?_; simp only [go_sem, seval]))
          refine vc_nil ?_
          have hE1 := hE
          have hP1 := hP
          refine gy_if rfl rfl rfl ?_
          refine ⟨_, rfl, rfl, rfl, rfl, by rw [hE0]; rfl, rfl, ?_⟩
          intro Er hE hP
          rw [hE0] at hE
          simp only [frPut, List.zip_cons_cons, List.zip_nil_left, List.zip_nil_right, List.foldl_cons, List.foldl_nil, List.toList_toArray, List.map_cons, List.map_nil, go_sem, seval]
          refine tr_region (by rw [hE]; rfl) ?_
          repeat (refine vc_op rfl ?_; simp only [go_sem, seval])
          refine vc_nil ?_
          refine ⟨rfl, ?_⟩
          simp only [go_sem, seval]
          first | refine Tr.block ?_ | (refine Tr.seq ?_; refine Tr.block ?_)
          refine tr_drawn mixed [1, 2] rfl (by rw [hE]; rfl) (by kernel_rfl) ?_
          refine vd_q rfl rfl ?_; simp only [go_sem, seval]
          refine vd_q rfl rfl ?_; simp only [u64s, go_sem, seval]
          refine vd_q rfl rfl ?_; simp only [go_sem, seval]
          refine vd_q rfl rfl ?_; simp only [uav, ha, go_sem, seval]
          refine vd_q rfl rfl ?_; simp only [go_sem, seval]
          refine vd_q rfl rfl ?_; simp only [hw, go_sem, seval]
          refine vd_w rfl rfl (by kernel_rfl) ?_; simp only [go_sem, seval]
          refine vd_nil ?_
          try simp only [blockK, thenK, ↓reduceIte]
          refine ⟨rfl, ?_⟩
          simp only [go_sem, seval]
          repeat (refine vc_op rfl ?_; simp only [go_sem, seval])
          refine vc_nil ?_
          have hE := hE1
          have hP := hP1
          first | refine Tr.cond (b := true) rfl (fun _ => ?_) (fun h => by cases h) | refine Tr.seq (Tr.cond (b := true) rfl (fun _ => ?_) (fun h => by cases h))
          refine Tr.skip ?_
          try simp only [blockK, thenK, ↓reduceIte]
          first | refine Tr.block ?_ | (refine Tr.seq ?_; refine Tr.block ?_)
          apply tr_ml (by rw [hE]; rfl)
          intro Q hQ
          simp only [List.toList_toArray, List.map_cons, List.map_nil, mo, guardSlot, Option.map_some, Option.map_none, List.getElem?_toArray, List.getElem?_cons_succ, List.getElem?_cons_zero, Option.bind_some]
          iterate 5 ((refine vm_op ?_); intro r hr; simp only [l1, go_sem, seval]; subst hr)
          exact hQ
          try simp only [blockK, thenK, ↓reduceIte]
          refine ⟨(k', s + x), ⟨by omega, by show s + x + sumTo l k' l.length = _; omega, by show 0 ≤ s + x; omega, by show s + x ≤ _; omega⟩, l2, ?_⟩
          refine wk_ren (fun n => n) ?_ ?_ rfl rfl rfl
          · repeat' (first | exact rfl | exact trivial | constructor)
          · repeat' (first | exact rfl | exact trivial | constructor)
  · have h : mayS l = false := by simpa using h
    have er : ofB l m = 0 := by unfold ofB; rw [if_neg (by simp [h])]
    rw [h] at hmc
    first | apply tr_m (by rw [hE]; rfl) | (refine Tr.seq ?_; apply tr_m (by rw [hE]; rfl))
    intro Q hQ
    simp only [List.toList_toArray, List.map_cons, List.map_nil, mo, guardSlot, Option.map_some, Option.map_none, List.getElem?_toArray, List.getElem?_cons_succ, List.getElem?_cons_zero, Option.bind_some]
    (refine vm_op ?_); intro r hr; simp only [go_sem, seval]; subst hr
    (refine vm_op ?_); intro r hr; simp only [go_sem, seval]
    refine call_fn rfl rfl rfl rfl (enters_of Tryd.func27 (by kernel_rfl) rfl) (hmc) rfl rfl rfl ?_
    simp only [go_sem, seval]
    subst hr
    (refine vm_op ?_); intro r hr; simp only [go_sem, seval]; subst hr
    exact hQ
    first | refine Tr.cond (b := true) rfl (fun _ => ?_) (fun h => by cases h) | refine Tr.seq (Tr.cond (b := true) rfl (fun _ => ?_) (fun h => by cases h))
    first | refine tr_seq_region (by rw [hE]; rfl) ?_ | (refine Tr.seq ?_; refine tr_seq_region (by rw [hE]; rfl) ?_)
    repeat (refine vc_op rfl ?_; simp only [go_sem, seval])
    refine vc_nil ?_
    refine Tr.ret ?_
    rw [er]
    refine ⟨List.nodup_nil, fun o ho => (by cases ho), ?_⟩
    simp only [drop_none,  Tryd.f54, go_sem, seval]
    exact ⟨fun n => n, ⟨⟨rfl, rfl, rfl⟩, trivial⟩, rfl, fun _ _ => rfl⟩

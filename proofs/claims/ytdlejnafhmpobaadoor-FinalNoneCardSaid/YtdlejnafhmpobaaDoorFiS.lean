/- The links that count. -/
import Derived.Test.YtdlejnafhmpobaaDoorFiR
set_option linter.unusedSimpArgs false
set_option maxRecDepth 10000
namespace Go.Proofs.YtdlejnafhmpobaaDoor
open Go Go.Ab

theorem counting_own (t : List Node) (l : List Link) (b : List Int) : Own Tryd.prog 34 [tav t, links l, u64s b] (.fn (.func 58) [] [.ptr 0 [] 0, .ptr 1 [] 0, .ptr 2 [] 0]) [(0, .var (tav t)), (1, .var (links l)), (2, .var (u64s b))] := by
  refine own_of_tr Tryd.func34 rfl (Nat.le_of_ble_eq_true rfl) rfl fun E hE hP => ?_
  first | refine tr_seq_region (by rw [hE]; rfl) ?_ | (refine Tr.seq ?_; refine tr_seq_region (by rw [hE]; rfl) ?_)
  repeat (refine vc_op rfl ?_; simp only [go_sem, seval])
  refine vc_nil ?_
  first | refine tr_seq_region (by rw [hE]; rfl) ?_ | (refine Tr.seq ?_; refine tr_seq_region (by rw [hE]; rfl) ?_)
  repeat (refine vc_op rfl ?_; simp only [go_sem, seval])
  refine vc_nil ?_
  refine Tr.ret ?_
  simp only [Tryd.f34, go_sem, seval]
  exact ⟨fun | 0 => 0 | 1 => 16 | 2 => 32 | n => n, rfl, ⟨⟨rfl, rfl, rfl⟩, ⟨rfl, rfl, rfl⟩, ⟨rfl, rfl, rfl⟩, trivial⟩, rfl⟩

def hpC (t : List Node) (l : List Link) (b : List Int) : HP := [(0, .tab 0 tabV), (1, .var (tav t)), (2, .var (links l)), (3, .var (u64s b))]
def stA (t : List Node) (l : List Link) (b : List Int) : S where
  fr := [(2, .ptr 4 [] 0), (6, .fn (.func 58) [] [.ptr 1 [] 0, .ptr 2 [] 0, .ptr 3 [] 0])]
  hp := [(0, .tab 0 tabV), (1, .var (tav t)), (2, .var (links l)), (3, .var (u64s b)), (4, .var (.ms 5 67 0)), (5, .row 67 [])]
  nx := 6
def stB (t : List Node) (l : List Link) (b : List Int) (L : Nat) (c : LB) (i : Nat) : S where
  fr := [(0, .fn (.yield L) [] []), (1, .ptr 1 [] 0), (2, .ptr 2 [] 0), (3, .ptr 3 [] 0), (12, .sl (l.map Link.av) false), (13, .int .i64 l.length), (14, .int .i64 i)]
  hp := [(7, .lp c .ready none), (6, .dfr), (0, .tab 0 tabV), (1, .var (tav t)), (2, .var (links l)), (3, .var (u64s b)), (4, .var (.ms 8 67 ((l.take i).filter (countB t b)).length)), (8, .row 67 (((l.take i).filter (countB t b)).map Link.av))]
  nx := 9

theorem appendseq_eff (t : List Node) (l : List Link) (b : List Int) (hl : l.length ≤ 100) (hb : okB b) (hk : okL l) : Eff Tryd.prog 57 [.sl [] true, .fn (.func 58) [] [.ptr 1 [] 0, .ptr 2 [] 0, .ptr 3 [] 0]] 4 (hpC t l b) (links (countL t l b)) (hpC t l b) := by
  have h1 := told_pure t l b
  refine eff_of_trM Tryd.func57 rfl (Nat.le_of_ble_eq_true rfl) rfl fun E hE hP => ?_
  unfold hpC
  first | refine tr_seq_region (by rw [hE]; rfl) ?_ | (refine Tr.seq ?_; refine tr_seq_region (by rw [hE]; rfl) ?_)
  repeat (refine vc_op rfl ?_; simp only [go_sem, seval])
  refine vc_nil ?_
  first | refine tr_seq_region (by rw [hE]; rfl) ?_ | (refine Tr.seq ?_; refine tr_seq_region (by rw [hE]; rfl) ?_)
  repeat (refine vc_op rfl ?_; simp only [go_sem, seval])
  refine vc_nil ?_
  refine Tr.wk (Wk.trans (Wk.nilVar 4 67 rfl) (s'' := stA t l b) ?_) ?_
  · refine wk_ren (fun | 5 => 52 | n => n) ?_ ?_ rfl rfl rfl
    · repeat' (first | exact rfl | exact trivial | constructor)
    · repeat' (first | exact rfl | exact trivial | constructor)
  · unfold stA
    first | refine Tr.block ?_ | (refine Tr.seq ?_; refine Tr.block ?_)
    refine Tr.range (fid := 58) (fn := Tryd.f58) rfl (enters_of Tryd.func58 (by kernel_rfl) rfl) Tryd.func58 rfl rfl (Nat.le_of_ble_eq_true rfl) ?_
    have hE0 := hE
    intro E' L c hE hP' sd
    have hP : E'.pn = 8 := hP'
    cases h : toldR t l b with
    | false =>
      rw [h] at h1
      have er : countL t l b = [] := by unfold countL; rw [if_neg (by simp [h])]
      first | apply tr_m (by rw [hE]; rfl) | (refine Tr.seq ?_; apply tr_m (by rw [hE]; rfl))
      intro Q hQ
      simp only [List.toList_toArray, List.map_cons, List.map_nil, mo, guardSlot, Option.map_some, Option.map_none, List.getElem?_toArray, List.getElem?_cons_succ, List.getElem?_cons_zero, Option.bind_some]
      iterate 3 ((refine vm_op ?_); intro r hr; simp only [go_sem, seval]; subst hr)
      (refine vm_op ?_); intro r hr; simp only [go_sem, seval]
      refine call_fn rfl rfl rfl rfl (enters_of Tryd.func59 (by kernel_rfl) rfl) (h1) rfl rfl rfl ?_
      simp only [go_sem, seval]
      subst hr
      (refine vm_op ?_); intro r hr; simp only [go_sem, seval]; subst hr
      exact hQ
      first | refine Tr.cond (b := true) rfl (fun _ => ?_) (fun h => by cases h) | refine Tr.seq (Tr.cond (b := true) rfl (fun _ => ?_) (fun h => by cases h))
      refine Tr.ret ?_
      have hE := hE0
      refine ⟨rfl, _, _, rfl, by simp, rfl, ?_⟩
      simp only [goOn]
      simp only [HP.del, List.filter_cons, List.filter_nil, Bool.not_false, Bool.not_true, if_true, Bool.false_eq_true, if_false, go_sem, seval]
      rw [er]
      first | refine tr_seq_region (by rw [hE]; rfl) ?_ | (refine Tr.seq ?_; refine tr_seq_region (by rw [hE]; rfl) ?_)
      repeat (refine vc_op rfl ?_; simp only [go_sem, seval])
      refine vc_nil ?_
      refine Tr.ret ?_
      refine ⟨by simp, fun o ho => by rw [List.mem_singleton.1 ho]; rfl, ?_⟩
      simp only [HP.drop, List.contains_cons, List.contains_nil, Bool.or_false, Bool.false_or, Bool.or_true, List.filter_cons, List.filter_nil, Bool.not_false, Bool.not_true, if_true, Bool.false_eq_true, if_false,  Tryd.f57, go_sem, seval]
      exact ⟨fun n => n, rfl, ⟨⟨rfl, rfl, rfl⟩, ⟨rfl, rfl, rfl⟩, ⟨rfl, rfl, rfl⟩, ⟨rfl, rfl, rfl⟩, trivial⟩, rfl, fun _ _ => rfl⟩
    | true =>
      rw [h] at h1
      have er : countL t l b = l.filter (countB t b) := by unfold countL; rw [if_pos h]
      first | apply tr_m (by rw [hE]; rfl) | (refine Tr.seq ?_; apply tr_m (by rw [hE]; rfl))
      intro Q hQ
      simp only [List.toList_toArray, List.map_cons, List.map_nil, mo, guardSlot, Option.map_some, Option.map_none, List.getElem?_toArray, List.getElem?_cons_succ, List.getElem?_cons_zero, Option.bind_some]
      iterate 3 ((refine vm_op ?_); intro r hr; simp only [go_sem, seval]; subst hr)
      (refine vm_op ?_); intro r hr; simp only [go_sem, seval]
      refine call_fn rfl rfl rfl rfl (enters_of Tryd.func59 (by kernel_rfl) rfl) (h1) rfl rfl rfl ?_
      simp only [go_sem, seval]
      subst hr
      (refine vm_op ?_); intro r hr; simp only [go_sem, seval]; subst hr
      exact hQ
      first | refine Tr.cond rfl (fun h => by cases h) (fun _ => ?_) | refine Tr.seq (Tr.cond rfl (fun h => by cases h) (fun _ => ?_))
      refine Tr.skip ?_
      try simp only [blockK, thenK, ↓reduceIte]
      first | refine tr_seq_region (by rw [hE]; rfl) ?_ | (refine Tr.seq ?_; refine tr_seq_region (by rw [hE]; rfl) ?_)
      repeat (refine vc_op rfl ?_; simp only [go_sem, seval])
      refine vc_nil ?_
      first | refine Tr.block ?_ | (refine Tr.seq ?_; refine Tr.block ?_)
      refine Tr.loop (stB t l b L c) (fun i => i ≤ l.length) (fun i => l.length - i) 0 (Nat.zero_le _) ?_ ?_
      · refine wk_ren (fun | 8 => 5 | n => n) ?_ ?_ rfl rfl rfl
        · repeat' (first | exact rfl | exact trivial | constructor)
        · repeat' (first | exact rfl | exact trivial | constructor)
      · intro i hi
        unfold stB
        by_cases hlt : i < l.length
        · have e1 : decide ((i : Int) < (l.length : Int)) = true := decide_eq_true (by omega)
          have hn := nth_map_lt Link.av l i hlt
          have hw := wrap_next (n := i) (by omega)
          have hnx : (l.take (i + 1)).filter (countB t b) = (l.take i).filter (countB t b) ++ if countB t b l[i] then [l[i]] else [] := by
            rw [List.take_add_one, List.getElem?_eq_getElem hlt, List.filter_append]
            congr 1
            simp only [Option.toList_some, List.filter_cons, List.filter_nil]
          have hm : ((l.take i).filter (countB t b)).length ≤ 100 := by
            have := List.length_filter_le (countB t b) (l.take i)
            rw [List.length_take] at this
            omega
          have hok := hk _ (List.getElem_mem hlt)
          generalize (l.take i).filter (countB t b) = m at hnx hm
          generalize l[i] = a at hn hnx hok
          have c1 := behind_pure t a.t a.s
          have c2 := most_T b a.mask.toNat hb (by omega)
          rw [Int.toNat_of_nonneg hok.1] at c2
          have hS : countB t b a = (behindB t a.t a.s && mostB b a.mask.toNat) := rfl
          rw [hS] at hnx
          generalize behindB t a.t a.s = x1 at c1 hnx
          generalize mostB b a.mask.toNat = x2 at c2 hnx
          first | refine tr_seq_region (by rw [hE]; rfl) ?_ | (refine Tr.seq ?_; refine tr_seq_region (by rw [hE]; rfl) ?_)
          repeat (refine vc_op rfl ?_; simp only [e1, go_sem, seval])
          refine vc_nil ?_
          first | refine Tr.cond (b := true) rfl (fun _ => ?_) (fun h => by cases h) | refine Tr.seq (Tr.cond (b := true) rfl (fun _ => ?_) (fun h => by cases h))
          refine Tr.skip ?_
          try simp only [blockK, thenK, ↓reduceIte]
          first | refine Tr.block ?_ | (refine Tr.seq ?_; refine Tr.block ?_)
          first | apply tr_m (by rw [hE]; rfl) | (refine Tr.seq ?_; apply tr_m (by rw [hE]; rfl))
          intro Q hQ
          simp only [List.toList_toArray, List.map_cons, List.map_nil, mo, guardSlot, Option.map_some, Option.map_none, List.getElem?_toArray, List.getElem?_cons_succ, List.getElem?_cons_zero, Option.bind_some]
          iterate 4 ((refine vm_op ?_); intro r hr; simp only [hn, go_sem, seval]; subst hr)
          exact hQ
          cases x1
          · rw [Bool.false_and, if_neg (by simp), List.append_nil] at hnx
            first | refine tr_seq_y 15 sd (by rw [hE]; rfl) rfl rfl rfl ?_ | (refine Tr.seq ?_; refine tr_seq_y 15 sd (by rw [hE]; rfl) rfl rfl rfl ?_)
            simp only [List.toList_toArray, List.take_succ_cons, List.take_zero]
            repeat (first | (refine vc_op rfl ?_; simp only [go_sem, seval]) | (refine vc_go rfl rfl rfl ?_; simp only [go_sem, seval]) | (refine vc_no rfl rfl rfl ?_; simp only [go_sem, seval]) | (refine vc_skip rfl rfl rfl ?_; simp only [go_sem, seval]))
            refine call_fn rfl rfl rfl rfl (enters_of Tryd.func41 (by kernel_rfl) rfl) (c1) rfl rfl rfl ?_
            simp only [go_sem, seval]
            repeat (first | (refine vc_op rfl ?_; simp only [go_sem, seval]) | (refine vc_go rfl rfl rfl ?_; simp only [go_sem, seval]) | (refine vc_no rfl rfl rfl ?_; simp only [go_sem, seval]) | (refine vc_skip rfl rfl rfl ?_; simp only [go_sem, seval]))
            refine vc_nil ?_
            refine gy_no rfl rfl rfl ?_
            simp only [go_sem, seval]
            repeat (first | (refine vc_op rfl ?_; simp only [go_sem, seval]) | (refine vc_go rfl rfl rfl ?_; simp only [go_sem, seval]) | (refine vc_no rfl rfl rfl ?_; simp only [go_sem, seval]) | (refine vc_skip rfl rfl rfl ?_; simp only [go_sem, seval]))
            refine vc_nil ?_
            first | refine Tr.cond (b := false) rfl (fun h => by cases h) (fun _ => ?_) | refine Tr.seq (Tr.cond (b := false) rfl (fun h => by cases h) (fun _ => ?_))
            refine Tr.skip ?_
            try simp only [blockK, thenK, ↓reduceIte]
            refine tr_region (by rw [hE]; rfl) ?_
            repeat (refine vc_op rfl ?_; simp only [go_sem, seval])
            refine vc_nil ?_
            rw [hw]
            try simp only [blockK, thenK, ↓reduceIte]
            refine ⟨i + 1, hlt, by omega, ?_⟩
            simp only [stB, hnx]
            refine wk_ren (fun n => n) ?_ ?_ rfl rfl rfl
            · repeat' (first | exact rfl | exact trivial | constructor)
            · repeat' (first | exact rfl | exact trivial | constructor)
          · cases x2
            · rw [Bool.and_false, if_neg (by simp), List.append_nil] at hnx
              first | refine tr_seq_y 15 sd (by rw [hE]; rfl) rfl rfl rfl ?_ | (refine Tr.seq ?_; refine tr_seq_y 15 sd (by rw [hE]; rfl) rfl rfl rfl ?_)
              simp only [List.toList_toArray, List.take_succ_cons, List.take_zero]
              repeat (first | (refine vc_op rfl ?_; simp only [go_sem, seval]) | (refine vc_go rfl rfl rfl ?_; simp only [go_sem, seval]) | (refine vc_no rfl rfl rfl ?_; simp only [go_sem, seval]) | (refine vc_skip rfl rfl rfl ?_; simp only [go_sem, seval]))
              refine call_fn rfl rfl rfl rfl (enters_of Tryd.func41 (by kernel_rfl) rfl) (c1) rfl rfl rfl ?_
              simp only [go_sem, seval]
              repeat (first | (refine vc_op rfl ?_; simp only [go_sem, seval]) | (refine vc_go rfl rfl rfl ?_; simp only [go_sem, seval]) | (refine vc_no rfl rfl rfl ?_; simp only [go_sem, seval]) | (refine vc_skip rfl rfl rfl ?_; simp only [go_sem, seval]))
              refine call_eff (fun n => n) [] [] rfl rfl rfl rfl (enters_of Tryd.func60 (by kernel_rfl) rfl) (c2) rfl rfl (by repeat' (first | exact rfl | exact trivial | constructor)) rfl rfl rfl ?_
              simp only [renH_nil, renH_cons, effR, go_sem, seval]
              repeat (first | (refine vc_op rfl ?_; simp only [go_sem, seval]) | (refine vc_go rfl rfl rfl ?_; simp only [go_sem, seval]) | (refine vc_no rfl rfl rfl ?_; simp only [go_sem, seval]) | (refine vc_skip rfl rfl rfl ?_; simp only [go_sem, seval]))
              refine vc_nil ?_
              refine gy_no rfl rfl rfl ?_
              simp only [go_sem, seval]
              repeat (first | (refine vc_op rfl ?_; simp only [go_sem, seval]) | (refine vc_go rfl rfl rfl ?_; simp only [go_sem, seval]) | (refine vc_no rfl rfl rfl ?_; simp only [go_sem, seval]) | (refine vc_skip rfl rfl rfl ?_; simp only [go_sem, seval]))
              refine vc_nil ?_
              first | refine Tr.cond (b := false) rfl (fun h => by cases h) (fun _ => ?_) | refine Tr.seq (Tr.cond (b := false) rfl (fun h => by cases h) (fun _ => ?_))
              refine Tr.skip ?_
              try simp only [blockK, thenK, ↓reduceIte]
              refine tr_region (by rw [hE]; rfl) ?_
              repeat (refine vc_op rfl ?_; simp only [go_sem, seval])
              refine vc_nil ?_
              rw [hw]
              try simp only [blockK, thenK, ↓reduceIte]
              refine ⟨i + 1, hlt, by omega, ?_⟩
              simp only [stB, hnx]
              refine wk_ren (fun n => n) ?_ ?_ rfl rfl rfl
              · repeat' (first | exact rfl | exact trivial | constructor)
              · repeat' (first | exact rfl | exact trivial | constructor)
            · rw [Bool.and_true, if_pos rfl] at hnx
              first | refine tr_seq_y 15 sd (by rw [hE]; rfl) rfl rfl rfl ?_ | (refine Tr.seq ?_; refine tr_seq_y 15 sd (by rw [hE]; rfl) rfl rfl rfl ?_)
              simp only [List.toList_toArray, List.take_succ_cons, List.take_zero]
              repeat (first | (refine vc_op rfl ?_; simp only [go_sem, seval]) | (refine vc_go rfl rfl rfl ?_; simp only [go_sem, seval]) | (refine vc_no rfl rfl rfl ?_; simp only [go_sem, seval]) | (refine vc_skip rfl rfl rfl ?_; simp only [go_sem, seval]))
              refine call_fn rfl rfl rfl rfl (enters_of Tryd.func41 (by kernel_rfl) rfl) (c1) rfl rfl rfl ?_
              simp only [go_sem, seval]
              repeat (first | (refine vc_op rfl ?_; simp only [go_sem, seval]) | (refine vc_go rfl rfl rfl ?_; simp only [go_sem, seval]) | (refine vc_no rfl rfl rfl ?_; simp only [go_sem, seval]) | (refine vc_skip rfl rfl rfl ?_; simp only [go_sem, seval]))
              refine call_eff (fun n => n) [] [] rfl rfl rfl rfl (enters_of Tryd.func60 (by kernel_rfl) rfl) (c2) rfl rfl (by repeat' (first | exact rfl | exact trivial | constructor)) rfl rfl rfl ?_
              simp only [renH_nil, renH_cons, effR, go_sem, seval]
              repeat (first | (refine vc_op rfl ?_; simp only [go_sem, seval]) | (refine vc_go rfl rfl rfl ?_; simp only [go_sem, seval]) | (refine vc_no rfl rfl rfl ?_; simp only [go_sem, seval]) | (refine vc_skip rfl rfl rfl ?_; simp only [go_sem, seval]))
              refine vc_nil ?_
              have hE1 := hE
              have hP1 := hP
              refine gy_if rfl rfl rfl ?_
              refine ⟨_, rfl, rfl, rfl, rfl, by rw [hE0]; rfl, rfl, ?_⟩
              intro Er hE hP
              rw [hE0] at hE
              simp only [frPut, List.zip_cons_cons, List.zip_nil_left, List.zip_nil_right, List.foldl_cons, List.foldl_nil, List.toList_toArray, List.map_cons, List.map_nil, go_sem, seval]
              refine tr_region (by rw [hE]; rfl) ?_
              repeat (refine vc_op rfl ?_; simp only [go_sem, seval])
              refine vc_nil ?_
              refine ⟨rfl, ?_⟩
              simp only [go_sem, seval]
              first | refine Tr.block ?_ | (refine Tr.seq ?_; refine Tr.block ?_)
              apply tr_ml (by rw [hE]; rfl)
              intro Q hQ
              simp only [List.toList_toArray, List.map_cons, List.map_nil, mo, guardSlot, Option.map_some, Option.map_none, List.getElem?_toArray, List.getElem?_cons_succ, List.getElem?_cons_zero, Option.bind_some]
              iterate 3 ((refine vm_op ?_); intro r hr; simp only [go_sem, seval]; subst hr)
              (refine vm_op ?_); intro r hr; simp only [go_sem, seval]
              refine ⟨by omega, by omega, ?_⟩
              simp only [List.filter_cons, List.filter_nil, Bool.not_false, Bool.not_true, if_true, Bool.false_eq_true, if_false, go_sem, seval]
              subst hr
              (refine vm_op ?_); intro r hr; simp only [go_sem, seval]; subst hr
              exact hQ
              try simp only [blockK, thenK, ↓reduceIte]
              refine ⟨rfl, ?_⟩
              simp only [go_sem, seval]
              repeat (first | (refine vc_op rfl ?_; simp only [go_sem, seval]) | (refine vc_go rfl rfl rfl ?_; simp only [go_sem, seval]) | (refine vc_no rfl rfl rfl ?_; simp only [go_sem, seval]) | (refine vc_skip rfl rfl rfl ?_; simp only [go_sem, seval]))
              refine vc_nil ?_
              have hE := hE1
              have hP := hP1
              first | refine Tr.cond (b := false) rfl (fun h => by cases h) (fun _ => ?_) | refine Tr.seq (Tr.cond (b := false) rfl (fun h => by cases h) (fun _ => ?_))
              refine Tr.skip ?_
              try simp only [blockK, thenK, ↓reduceIte]
              refine tr_region (by rw [hE]; rfl) ?_
              repeat (refine vc_op rfl ?_; simp only [go_sem, seval])
              refine vc_nil ?_
              rw [hw]
              try simp only [blockK, thenK, ↓reduceIte]
              refine ⟨i + 1, hlt, by omega, ?_⟩
              simp only [stB, hnx, List.map_append, List.length_append, List.length_singleton, List.map_cons, List.map_nil]
              refine wk_ren (fun | 8 => 409 | n => n) ?_ ?_ rfl rfl rfl
              · repeat' (first | exact rfl | exact trivial | constructor)
              · repeat' (first | exact rfl | exact trivial | constructor)
        · have e1 : decide ((i : Int) < (l.length : Int)) = false := decide_eq_false (by omega)
          have hil : i = l.length := by omega
          subst hil
          rw [List.take_length, ← er]
          first | refine tr_seq_region (by rw [hE]; rfl) ?_ | (refine Tr.seq ?_; refine tr_seq_region (by rw [hE]; rfl) ?_)
          repeat (refine vc_op rfl ?_; simp only [e1, go_sem, seval])
          refine vc_nil ?_
          first | refine Tr.cond (b := false) rfl (fun h => by cases h) (fun _ => ?_) | refine Tr.seq (Tr.cond (b := false) rfl (fun h => by cases h) (fun _ => ?_))
          refine Tr.exit ?_
          try simp only [blockK, thenK, ↓reduceIte]
          have hE := hE0
          refine ⟨rfl, _, _, rfl, by simp, rfl, ?_⟩
          simp only [goOn]
          simp only [HP.del, List.filter_cons, List.filter_nil, Bool.not_false, Bool.not_true, if_true, Bool.false_eq_true, if_false, go_sem, seval]
          have hlen : (countL t l b).length = ((countL t l b).map Link.av).length := by simp
          first | refine tr_seq_region (by rw [hE]; rfl) ?_ | (refine Tr.seq ?_; refine tr_seq_region (by rw [hE]; rfl) ?_)
          repeat (refine vc_op rfl ?_; simp only [go_sem, seval])
          refine vc_nil ?_
          refine Tr.ret ?_
          refine ⟨by simp, fun o ho => by rw [List.mem_singleton.1 ho]; rfl, ?_⟩
          simp only [HP.drop, List.contains_cons, List.contains_nil, Bool.or_false, Bool.false_or, Bool.or_true, List.filter_cons, List.filter_nil, Bool.not_false, Bool.not_true, if_true, Bool.false_eq_true, if_false,  Tryd.f57, go_sem, seval]
          refine ⟨fun n => n, ?_, ⟨⟨rfl, rfl, rfl⟩, ⟨rfl, rfl, rfl⟩, ⟨rfl, rfl, rfl⟩, ⟨rfl, rfl, rfl⟩, trivial⟩, rfl, fun _ _ => rfl⟩
          simp only [Bool.or_false, Bool.false_or, Bool.or_true, Bool.or_self, links, List.filter_cons, List.filter_nil, Bool.not_false, Bool.not_true, if_true, Bool.false_eq_true, if_false, ← hlen, go_sem, seval]

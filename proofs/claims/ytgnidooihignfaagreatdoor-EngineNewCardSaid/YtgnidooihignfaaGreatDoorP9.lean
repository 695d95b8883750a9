/- Engines: the reference's Same, of what is the same; what begins may be. -/
import Derived.Test.YtgnidooihignfaaGreatDoorP7
import Derived.Test.YtgnidooihignfaaGreatDoorP8
set_option linter.unusedSimpArgs false
set_option maxRecDepth 10000
namespace Go.Proofs.YtgnidooihignfaaGreatDoor
open Go Go.Ab

theorem lsame13_c (l : List Att) (hl : l.length ≤ 1000) : Cal Tryz.prog 83 [.sl (l.map Att.av) false, .sl (l.map Att.av) false] (.bool true) := by
  have e0 : decide ((l.length : Int) = (l.length : Int)) = true := decide_eq_true rfl
  have ff := e0
  have hR : Tryz.f83.results.toList = [.tmp 4] := rfl
  refine ⟨enters_of Tryz.func83 (by kernel_rfl) rfl, pure_of_tr Tryz.func83 rfl (Nat.le_of_ble_eq_true rfl) rfl fun E hE hP => ?_⟩
  refine mW ?_
  refine Tr.loop (fun i : Nat => (⟨[(0, .sl (l.map Att.av) false), (1, .sl (l.map Att.av) false), (5, .int .i64 i)], [], 0, []⟩ : S)) (fun i => i ≤ l.length) (fun i => l.length - i) 0 (Nat.zero_le _) ?_ ?_
  · refine wk_ren (fun n => n) ?_ ?_ rfl rfl rfl
    · repeat' (first | exact rfl | exact trivial | constructor)
    · repeat' (first | exact rfl | exact trivial | constructor)
  · intro i hi
    by_cases hlt : i < l.length
    · have e1 : decide ((i : Int) < (l.length : Int)) = true := decide_eq_true (by omega)
      have hn := nth_map_lt Att.av l i hlt
      have hw := wrap_next (n := i) (by omega)
      generalize l[i] = x at hn
      have e2 : decide (x = x) = true := decide_eq_true rfl
      have ff := And.intro e1 (And.intro hn (And.intro hw e2))
      refine mW ?_
      refine ⟨i + 1, hlt, by omega, ?_⟩
      exact mK
    · have e1 : decide ((i : Int) < (l.length : Int)) = false := decide_eq_false (by omega)
      have ff := e1
      exact mX
theorem ksame15_c (l : List Link) (hl : l.length ≤ 1000) : Cal Tryz.prog 84 [.sl (l.map Link.av) false, .sl (l.map Link.av) false] (.bool true) := by
  have e0 : decide ((l.length : Int) = (l.length : Int)) = true := decide_eq_true rfl
  have ff := e0
  have hR : Tryz.f84.results.toList = [.tmp 4] := rfl
  refine ⟨enters_of Tryz.func84 (by kernel_rfl) rfl, pure_of_tr Tryz.func84 rfl (Nat.le_of_ble_eq_true rfl) rfl fun E hE hP => ?_⟩
  refine mW ?_
  refine Tr.loop (fun i : Nat => (⟨[(0, .sl (l.map Link.av) false), (1, .sl (l.map Link.av) false), (5, .int .i64 i)], [], 0, []⟩ : S)) (fun i => i ≤ l.length) (fun i => l.length - i) 0 (Nat.zero_le _) ?_ ?_
  · refine wk_ren (fun n => n) ?_ ?_ rfl rfl rfl
    · repeat' (first | exact rfl | exact trivial | constructor)
    · repeat' (first | exact rfl | exact trivial | constructor)
  · intro i hi
    by_cases hlt : i < l.length
    · have e1 : decide ((i : Int) < (l.length : Int)) = true := decide_eq_true (by omega)
      have hn := nth_map_lt Link.av l i hlt
      have hw := wrap_next (n := i) (by omega)
      generalize l[i] = x at hn
      have e2 : decide (x = x) = true := decide_eq_true rfl
      have ff := And.intro e1 (And.intro hn (And.intro hw e2))
      refine mW ?_
      refine ⟨i + 1, hlt, by omega, ?_⟩
      exact mK
    · have e1 : decide ((i : Int) < (l.length : Int)) = false := decide_eq_false (by omega)
      have ff := e1
      exact mX
theorem jsame16_c (l : List Check) (hl : l.length ≤ 1000) : Cal Tryz.prog 85 [.sl (l.map Check.av) false, .sl (l.map Check.av) false] (.bool true) := by
  have e0 : decide ((l.length : Int) = (l.length : Int)) = true := decide_eq_true rfl
  have ff := e0
  have hR : Tryz.f85.results.toList = [.tmp 4] := rfl
  refine ⟨enters_of Tryz.func85 (by kernel_rfl) rfl, pure_of_tr Tryz.func85 rfl (Nat.le_of_ble_eq_true rfl) rfl fun E hE hP => ?_⟩
  refine mW ?_
  refine Tr.loop (fun i : Nat => (⟨[(0, .sl (l.map Check.av) false), (1, .sl (l.map Check.av) false), (5, .int .i64 i)], [], 0, []⟩ : S)) (fun i => i ≤ l.length) (fun i => l.length - i) 0 (Nat.zero_le _) ?_ ?_
  · refine wk_ren (fun n => n) ?_ ?_ rfl rfl rfl
    · repeat' (first | exact rfl | exact trivial | constructor)
    · repeat' (first | exact rfl | exact trivial | constructor)
  · intro i hi
    by_cases hlt : i < l.length
    · have e1 : decide ((i : Int) < (l.length : Int)) = true := decide_eq_true (by omega)
      have hn := nth_map_lt Check.av l i hlt
      have hw := wrap_next (n := i) (by omega)
      generalize l[i] = x at hn
      have e2 : decide (x = x) = true := decide_eq_true rfl
      have ff := And.intro e1 (And.intro hn (And.intro hw e2))
      refine mW ?_
      refine ⟨i + 1, hlt, by omega, ?_⟩
      exact mK
    · have e1 : decide ((i : Int) < (l.length : Int)) = false := decide_eq_false (by omega)
      have ff := e1
      exact mX
theorem wsame8_c (l : List Int) (hl : l.length ≤ 1000) : Cal Tryz.prog 82 [.sl (l.map uav) false, .sl (l.map uav) false] (.bool true) := by
  have e0 : decide ((l.length : Int) = (l.length : Int)) = true := decide_eq_true rfl
  have ff := e0
  have hR : Tryz.f82.results.toList = [.tmp 4] := rfl
  refine ⟨enters_of Tryz.func82 (by kernel_rfl) rfl, pure_of_tr Tryz.func82 rfl (Nat.le_of_ble_eq_true rfl) rfl fun E hE hP => ?_⟩
  refine mW ?_
  refine Tr.loop (fun i : Nat => (⟨[(0, .sl (l.map uav) false), (1, .sl (l.map uav) false), (5, .int .i64 i)], [], 0, []⟩ : S)) (fun i => i ≤ l.length) (fun i => l.length - i) 0 (Nat.zero_le _) ?_ ?_
  · refine wk_ren (fun n => n) ?_ ?_ rfl rfl rfl
    · repeat' (first | exact rfl | exact trivial | constructor)
    · repeat' (first | exact rfl | exact trivial | constructor)
  · intro i hi
    by_cases hlt : i < l.length
    · have e1 : decide ((i : Int) < (l.length : Int)) = true := decide_eq_true (by omega)
      have hn : nth (l.map uav) (i : Int) = some (.int .u64 l[i]) := nth_map_lt uav l i hlt
      have hw := wrap_next (n := i) (by omega)
      generalize l[i] = x at hn
      have e2 : decide (x = x) = true := decide_eq_true rfl
      have ff := And.intro e1 (And.intro hn (And.intro hw e2))
      refine mW ?_
      refine ⟨i + 1, hlt, by omega, ?_⟩
      exact mK
    · have e1 : decide ((i : Int) < (l.length : Int)) = false := decide_eq_false (by omega)
      have ff := e1
      exact mX
theorem vsame12_c (l : List Latest) (o : Int) (hl : l.length ≤ 1000) : Cal Tryz.prog 81 [vav l o, vav l o] (.bool true) := by
  have e0 : decide ((l.length : Int) = (l.length : Int)) = true := decide_eq_true rfl
  have e3 : decide (o = o) = true := decide_eq_true rfl
  have ff := And.intro e0 e3
  have hR : Tryz.f81.results.toList = [.tmp 4] := rfl
  refine ⟨enters_of Tryz.func81 (by kernel_rfl) rfl, pure_of_tr Tryz.func81 rfl (Nat.le_of_ble_eq_true rfl) rfl fun E hE hP => ?_⟩
  refine mW ?_
  refine Tr.loop (fun i : Nat => (⟨[(2, .ptr 0 [] 0), (3, .ptr 1 [] 0), (5, .int .i64 i)], [(0, .var (vav l o)), (1, .var (vav l o))], 2, []⟩ : S)) (fun i => i ≤ l.length) (fun i => l.length - i) 0 (Nat.zero_le _) ?_ ?_
  · refine wk_ren (fun | 1 => 16 | n => n) ?_ ?_ rfl rfl rfl
    · repeat' (first | exact rfl | exact trivial | constructor)
    · repeat' (first | exact rfl | exact trivial | constructor)
  · intro i hi
    by_cases hlt : i < l.length
    · have e1 : decide ((i : Int) < (l.length : Int)) = true := decide_eq_true (by omega)
      have hn := nth_map_lt Latest.av l i hlt
      have hw := wrap_next (n := i) (by omega)
      generalize l[i] = x at hn
      have e2 : decide (x = x) = true := decide_eq_true rfl
      have ff := And.intro e1 (And.intro hn (And.intro hw e2))
      refine mW ?_
      refine ⟨i + 1, hlt, by omega, ?_⟩
      exact mK
    · have e1 : decide ((i : Int) < (l.length : Int)) = false := decide_eq_false (by omega)
      have ff := e1
      exact mX
theorem esame17_c (e : Eng) (he : e.few) : Cal Tryz.prog 31 [e.av, e.av] (.bool true) := by
  have c1 := tsame6_c e.t e.t (by have := he.t; omega)
  have t1 : decide (e.t = e.t) = true := decide_eq_true rfl
  rw [t1] at c1
  have c2 := vsame12_c e.vl e.o (by have := he.vl; omega)
  have c3 := wsame8_c e.b (by have := he.b; omega)
  have c4 := wsame8_c e.w (by have := he.w; omega)
  have c5 := lsame13_c e.late (by have := he.late; omega)
  have c6 := ksame15_c e.k (by have := he.k; omega)
  have c7 := jsame16_c e.j (by have := he.j; omega)
  have h1 : decide (e.fin = e.fin) = true := decide_eq_true rfl
  have h2 : decide (e.now = e.now) = true := decide_eq_true rfl
  have ff := And.intro h1 h2
  have hR : Tryz.f31.results.toList = [.tmp 4] := rfl
  refine ⟨enters_of Tryz.func31 (by kernel_rfl) rfl, pure_of_tr Tryz.func31 rfl (Nat.le_of_ble_eq_true rfl) rfl fun E hE hP => ?_⟩
  exact mX

def zE : Eng := ⟨[], [], [], 0, [], [], [], [], zCheck, 0⟩
theorem zE_may : mayE zE = false := by
  have h : decide (zE.fin ∈ zE.j) = false := rfl
  simp only [mayE, h, Bool.false_and, Bool.and_false]
theorem replicate_vmay : ∀ n, n < 9 → 1 ≤ n → vmayB (List.replicate n zLatest) 0 = true := by decide +kernel
theorem one_find (r : Root) : findR (one r) r = 0 := by
  unfold findR
  rw [if_pos (one_may r)]
  unfold one findI
  simp [isR]
theorem new_own (r : Root) (b : List Int) (n : Nat) : ∀ m, m ≤ n → votTo (one r) (List.replicate n zLatest) [] b m = [0]
  | 0, _ => rfl
  | m + 1, hm => by
    have hz : (List.replicate n zLatest).getD m zLatest = zLatest := by
      rw [List.getD_eq_getElem?_getD, List.getElem?_replicate, if_pos (by omega)]
      rfl
    rw [votTo, new_own r b n m (by omega), votS, hz, if_pos (by rfl)]
theorem new_weights (r : Root) (b : List Int) (n : Nat) : weights (one r) (List.replicate n zLatest) b = [0] := by
  unfold weights ownW
  rw [List.length_replicate, new_own r b n n (Nat.le_refl _)]
  rfl
theorem more_none (t : List Node) (b : List Int) (js : List Check) : moreR t [] b js = js := by
  have h : countL t [] b = [] := by
    unfold countL
    split <;> rfl
  rw [moreR, h]
  rfl
theorem next_none (t : List Node) (b : List Int) (js : List Check) (f : Check) : nextR t [] b js f = f := by
  have h : finalsR t [] b js = [] := by
    unfold finalsR
    refine List.filter_eq_nil_iff.2 fun a _ => ?_
    have h : countL t [] b = [] := by
      unfold countL
      split <;> rfl
    rw [finB, h]
    exact Bool.false_ne_true
  rw [nextR, h]
  rfl
theorem new_may (r : Root) (b : List Int) (hS : mayS b = true) : mayE (newE r b) = true := by
  obtain ⟨h1, h8, _⟩ := mayS_spec hS
  have hv := replicate_vmay b.length (by omega) (by omega)
  have hr : rootsL (newE r b) = [r] := by
    have : (List.replicate b.length zLatest).filter (·.has) = [] := List.filter_eq_nil_iff.2 fun a ha => by
      rw [List.eq_of_mem_replicate ha]
      decide
    unfold rootsL rootsV newE
    rw [this]
    rfl
  have hl : lostB (newE r b) r = false := by
    unfold lostB newE
    rw [one_find]
    rfl
  simp only [mayE, fitB, Bool.and_eq_true, decide_eq_true_eq, Bool.not_eq_true']
  refine ⟨⟨one_may r, hv, hS, List.length_replicate⟩, new_weights r b _, by rfl, by rfl, by show (0 : Int) ≤ _; decide, List.mem_singleton.2 rfl, by rfl, ?_, List.nodup_cons.2 ⟨List.not_mem_nil, List.nodup_nil⟩, ?_, next_none _ _ _ _⟩
  · rw [hr, List.any_cons, hl]
    rfl
  · show (moreR (one r) [] b [⟨0, r⟩]).length = 1
    rw [more_none]
    rfl
end Go.Proofs.YtgnidooihignfaaGreatDoor

/- The law of what begins. -/
set_option linter.unusedSimpArgs false
set_option maxRecDepth 10000
namespace Go.Proofs.YtgnidooihignfaaGreatDoor
open Go Go.Ab

theorem vnew_no (n : Nat) (h : n < 1 ∨ 8 < n) : Cal Tryz.prog 75 [.int .i64 n] (.tup [vav [] 0, .bool false]) := by
  by_cases h1 : n < 1
  · have e1 : decide ((n : Int) < 1) = true := decide_eq_true (by omega)
    have ff := e1
    have hR : Tryz.f75.results.toList = [.cell 2 29, .tmp 3] := rfl
    refine ⟨enters_of Tryz.func75 (by kernel_rfl) rfl, pure_of_tr Tryz.func75 rfl (Nat.le_of_ble_eq_true rfl) rfl fun E hE hP => ?_⟩
    exact mX
  · have e1 : decide ((n : Int) < 1) = false := decide_eq_false (by omega)
    have e2 : decide ((8 : Int) < (n : Int)) = true := decide_eq_true (by omega)
    have ff := And.intro e1 e2
    have hR : Tryz.f75.results.toList = [.cell 2 29, .tmp 3] := rfl
    refine ⟨enters_of Tryz.func75 (by kernel_rfl) rfl, pure_of_tr Tryz.func75 rfl (Nat.le_of_ble_eq_true rfl) rfl fun E hE hP => ?_⟩
    exact mX
theorem enew_no (r : Root) (b : List Int) (hS : mayS b = false) : Cal Tryz.prog 29 [.root r, u64s b] (.tup [zE.av, .bool false]) := by
  have c1 := tnew_c r
  by_cases h : b.length < 1 ∨ 8 < b.length
  · have c2 := vnew_no b.length h
    have hR : Tryz.f29.results.toList = [.cell 4 38, .tmp 5] := rfl
    refine ⟨enters_of Tryz.func29 (by kernel_rfl) rfl, pure_of_tr Tryz.func29 rfl (Nat.le_of_ble_eq_true rfl) rfl fun E hE hP => ?_⟩
    exact mX
  · have c2 := vnew_c b.length (by omega) (by omega)
    have c3 := And.intro (enters_of Tryz.func76 (by kernel_rfl) rfl) (smay_pure b)
    rw [hS] at c3
    have hR : Tryz.f29.results.toList = [.cell 4 38, .tmp 5] := rfl
    refine ⟨enters_of Tryz.func29 (by kernel_rfl) rfl, pure_of_tr Tryz.func29 rfl (Nat.le_of_ble_eq_true rfl) rfl fun E hE hP => ?_⟩
    exact mX
theorem tnew6_c (r : Root) : Cal Tryz.prog 79 [.root r, .int .u64 0] (.tup [tav (one r), .bool true]) := by
  have e1 : decide ((1099511627776 : Int) < 0) = false := decide_eq_false (by decide)
  have ff := e1
  unfold one
  have hR : Tryz.f79.results.toList = [.cell 4 24, .tmp 5] := rfl
  refine ⟨enters_of Tryz.func79 (by kernel_rfl) rfl, pure_of_tr Tryz.func79 rfl (Nat.le_of_ble_eq_true rfl) rfl fun E hE hP => ?_⟩
  exact mX
theorem vnew12_c (n : Nat) (h1 : 1 ≤ n) (h8 : n ≤ 8) : Cal Tryz.prog 80 [.int .i64 n] (.tup [vav (List.replicate n zLatest) 0, .bool true]) := by
  have e1 : decide ((n : Int) < 1) = false := decide_eq_false (by omega)
  have e2 : decide ((8 : Int) < (n : Int)) = false := decide_eq_false (by omega)
  have er : List.map Latest.av (List.replicate n zLatest) = List.replicate n zLatest.av := List.map_replicate
  have ff := And.intro e1 (And.intro e2 (And.intro er (List.length_replicate (n := n) (a := zLatest.av))))
  have hR : Tryz.f80.results.toList = [.cell 2 29, .tmp 3] := rfl
  refine ⟨enters_of Tryz.func80 (by kernel_rfl) rfl, pure_of_tr Tryz.func80 rfl (Nat.le_of_ble_eq_true rfl) rfl fun E hE hP => ?_⟩
  exact mX
theorem rnew_no (r : Root) (b : List Int) (hb : b.length ≤ 1000) (hS : mayS b = false) : Cal Tryz.prog 30 [.root r, u64s b] (.tup [zE.av, .bool false]) := by
  have c1 := And.intro (enters_of Tryz.func78 (by kernel_rfl) rfl) (refsmay_pure b (by omega))
  rw [hS] at c1
  have hR : Tryz.f30.results.toList = [.cell 4 38, .tmp 5] := rfl
  refine ⟨enters_of Tryz.func30 (by kernel_rfl) rfl, pure_of_tr Tryz.func30 rfl (Nat.le_of_ble_eq_true rfl) rfl fun E hE hP => ?_⟩
  exact mX
theorem rnew_c (r : Root) (b : List Int) (hS : mayS b = true) : Cal Tryz.prog 30 [.root r, u64s b] (.tup [(newE r b).av, .bool true]) := by
  obtain ⟨h1, h8, _⟩ := mayS_spec hS
  have c1 := And.intro (enters_of Tryz.func78 (by kernel_rfl) rfl) (refsmay_pure b (by omega))
  rw [hS] at c1
  have c2 := tnew6_c r
  have c3 := vnew12_c b.length h1 h8
  have hR : Tryz.f30.results.toList = [.cell 4 38, .tmp 5] := rfl
  refine ⟨enters_of Tryz.func30 (by kernel_rfl) rfl, pure_of_tr Tryz.func30 rfl (Nat.le_of_ble_eq_true rfl) rfl fun E hE hP => ?_⟩
  refine mW ?_
  refine tr_seq_plan mixed _ (.one 0 (.one 1 (.one 3 (.one 4 (.one 5 (.one 6 (.one 7 (.one 2 (.one 8 (.one 9 (.one 10 .done))))))))))) (⟨[(4, .ptr 0 [] 0), (5, .bool true)], [(0, .var (.st [tav (one r), .ms 1 1 b.length, vav (List.replicate b.length zLatest) 0, .sl [.int .u64 0] true, .sl [] true, .sl [] true, .sl [(Check.mk 0 r).av] true, (Check.mk 0 r).av, .int .u64 0])), (1, .row 1 (b.map uav))], 2, []⟩) (keepAll _) (by rw [hE]; rfl) (by kernel_rfl) ?_ ?_
  · simp only [List.map_cons, List.map_nil]
    apply pl_q; exact rfl; exact rfl; exact rfl; simp only [List.getElem_toArray, List.getElem_cons_zero, List.getElem_cons_succ, List.append_nil, List.nil_append, go_sem, seval]
    apply pl_q; exact rfl; exact rfl; exact rfl; simp only [List.getElem_toArray, List.getElem_cons_zero, List.getElem_cons_succ, List.append_nil, List.nil_append, go_sem, seval]
    apply pl_q; exact rfl; exact rfl; exact rfl; simp only [List.getElem_toArray, List.getElem_cons_zero, List.getElem_cons_succ, List.append_nil, List.nil_append, go_sem, seval]
    apply pl_q; exact rfl; exact rfl; exact rfl; simp only [List.getElem_toArray, List.getElem_cons_zero, List.getElem_cons_succ, List.append_nil, List.nil_append, go_sem, seval]
    apply pl_q; exact rfl; exact rfl; exact rfl; simp only [List.getElem_toArray, List.getElem_cons_zero, List.getElem_cons_succ, List.append_nil, List.nil_append, go_sem, seval]
    apply pl_q; exact rfl; exact rfl; exact rfl; simp only [List.getElem_toArray, List.getElem_cons_zero, List.getElem_cons_succ, List.append_nil, List.nil_append, go_sem, seval]
    apply pl_q; exact rfl; exact rfl; exact rfl; simp only [List.getElem_toArray, List.getElem_cons_zero, List.getElem_cons_succ, List.append_nil, List.nil_append, go_sem, seval]
    apply pl_x; exact rfl
    refine st_x rfl rfl ?_; simp only [List.getElem_toArray, List.getElem_cons_zero, List.getElem_cons_succ, List.append_nil, List.nil_append, go_sem, seval]
    refine ⟨by omega, by omega, .inl trivial, ?_⟩
    try simp only [List.getElem_toArray, List.getElem_cons_zero, List.getElem_cons_succ, List.append_nil, List.nil_append, go_sem, seval]
    apply pl_q; exact rfl; exact rfl; exact rfl; simp only [List.getElem_toArray, List.getElem_cons_zero, List.getElem_cons_succ, List.append_nil, List.nil_append, go_sem, seval]
    apply pl_x; exact rfl
    refine st_w rfl rfl (by kernel_rfl) ?_; simp only [List.getElem_toArray, List.getElem_cons_zero, List.getElem_cons_succ, List.append_nil, List.nil_append, go_sem, seval]
    apply pl_q; exact rfl; exact rfl; exact rfl; simp only [List.getElem_toArray, List.getElem_cons_zero, List.getElem_cons_succ, List.append_nil, List.nil_append, go_sem, seval]
    refine pl_done (st := _) ?_ rfl
    refine wk_ren (fun | 0 => 16 | 1 => 496 | n => n) ?_ ?_ rfl rfl rfl
    · repeat' (first | exact rfl | exact trivial | constructor)
    · repeat' (first | exact rfl | exact trivial | constructor)
  exact mX
end Go.Proofs.YtgnidooihignfaaGreatDoor

/- The law of what begins: joined. -/
set_option linter.unusedSimpArgs false
set_option maxRecDepth 10000
namespace Go.Proofs.YtgnidooihignfaaGreatDoor
open Go Go.Ab

@[go_sem] theorem beql4 (a b : Bool) (K : AV → Prop) : binK Tryz.prog .eql 4 (.bool a) (.bool b) K = K (.bool (decide (a = b))) :=
  bin_eql_of (fun _ _ h => by cases h) (fun _ h => by cases h) (by kernel_rfl) (by kernel_rfl) (Nat.le_of_ble_eq_true rfl) (by kernel_rfl) (by cases a <;> cases b <;> rfl) K
theorem eng_new_t (r : Root) (b : List Int) (hb : okB b) : CalT Tryz.prog 0 tabV 6 [.root r, u64s b] (.bool true) := by
  have x1 := awake17_t
  by_cases hl : b.length ≤ 20
  · have e0 : decide ((20 : Int) < (b.length : Int)) = false := decide_eq_false (by omega)
    cases hS : mayS b
    · have c1 := enew_no r b hS
      have c2 := rnew_no r b (by omega) hS
      have zf : zE.few := ⟨by decide, by decide, by decide, by decide, by decide, by decide, by decide⟩
      have zo : zE.ok := ⟨fun a ha => (by cases ha), fun a ha => (by cases ha), fun a ha => (by cases ha)⟩
      have c3 := esame17_c zE zf
      have x2 := may_t zE zf zo
      rw [zE_may] at x2
      generalize zE = z at c1 c2 c3 x2
      have ff := e0
      have hR : Tryz.f6.results.toList = [.tmp 4] := rfl
      refine ⟨enters_of Tryz.func6 (by kernel_rfl) rfl, eff_of_tr Tryz.func6 rfl (Nat.le_of_ble_eq_true rfl) (by first | rfl | (simp only [AV.idsB, AV.idsBL, Bool.and_true, Bool.true_and] <;> rfl)) fun E hE hP => ?_⟩
      exact mX
    · obtain ⟨h1, h8, _⟩ := mayS_spec hS
      have c1 := enew_c r b hS
      have c2 := rnew_c r b hS
      have hlr : (List.replicate b.length zLatest).length = b.length := List.length_replicate
      have zf : (newE r b).few := ⟨by show 1 ≤ 100; omega, by show b.length ≤ 100; omega, by show (List.replicate b.length zLatest).length ≤ 100; omega, by show 1 ≤ 100; omega, by show 0 ≤ 100; omega, by show 0 ≤ 40; omega, by show 1 ≤ 40; omega⟩
      have zo : (newE r b).ok := ⟨hb, fun a ha => (by cases ha), fun a ha => (by cases ha)⟩
      have c3 := esame17_c _ zf
      have x2 := may_t _ zf zo
      rw [new_may r b hS] at x2
      have c4 := And.intro (enters_of Tryz.func27 (by kernel_rfl) rfl) (find_pure (newE r b).t r)
      have hF : findR (newE r b).t r = 0 := one_find r
      rw [hF] at c4
      have e1 : decide ((newE r b).fin = ⟨0, r⟩) = true := decide_eq_true rfl
      generalize newE r b = z at c1 c2 c3 x2 c4 e1
      have ff := And.intro e0 e1
      have hR : Tryz.f6.results.toList = [.tmp 4] := rfl
      refine ⟨enters_of Tryz.func6 (by kernel_rfl) rfl, eff_of_tr Tryz.func6 rfl (Nat.le_of_ble_eq_true rfl) (by first | rfl | (simp only [AV.idsB, AV.idsBL, Bool.and_true, Bool.true_and] <;> rfl)) fun E hE hP => ?_⟩
      exact mX
  · have e0 : decide ((20 : Int) < (b.length : Int)) = true := decide_eq_true (by omega)
    have ff := e0
    have hR : Tryz.f6.results.toList = [.tmp 4] := rfl
    refine ⟨enters_of Tryz.func6 (by kernel_rfl) rfl, eff_of_tr Tryz.func6 rfl (Nat.le_of_ble_eq_true rfl) (by first | rfl | (simp only [AV.idsB, AV.idsBL, Bool.and_true, Bool.true_and] <;> rfl)) fun E hE hP => ?_⟩
    exact mX
end Go.Proofs.YtgnidooihignfaaGreatDoor

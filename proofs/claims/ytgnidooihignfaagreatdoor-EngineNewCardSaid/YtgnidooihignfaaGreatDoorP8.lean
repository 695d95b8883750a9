/- The law of blocks: plain facts, the reference's equality. -/
import Derived.Test.YtgnidooihignfaaGreatDoorP7
set_option linter.unusedSimpArgs false
set_option maxRecDepth 10000
namespace Go.Proofs.YtgnidooihignfaaGreatDoor
open Go Go.Ab

theorem tsame6_c (t k : List Node) (hl : t.length ≤ 1000) : Cal Tryz.prog 43 [tav t, tav k] (.bool (decide (t = k))) := by
  by_cases hlen : t.length = k.length
  · have e0 : decide ((t.length : Int) = (k.length : Int)) = true := decide_eq_true (by omega)
    have ff := e0
    have hR : Tryz.f43.results.toList = [.tmp 4] := rfl
    refine ⟨enters_of Tryz.func43 (by kernel_rfl) rfl, pure_of_tr Tryz.func43 rfl (Nat.le_of_ble_eq_true rfl) rfl fun E hE hP => ?_⟩
    refine mW ?_
    refine Tr.loop (fun i : Nat => (⟨[(2, .ptr 0 [] 0), (3, .ptr 1 [] 0), (5, .int .i64 i)], [(0, .var (tav t)), (1, .var (tav k))], 2, []⟩ : S)) (fun i => i ≤ t.length ∧ ∀ j, j < i → t.getD j zNode = k.getD j zNode) (fun i => t.length - i) 0 ⟨Nat.zero_le _, fun j hj => absurd hj (Nat.not_lt_zero j)⟩ ?_ ?_
    · refine wk_ren (fun | 1 => 16 | n => n) ?_ ?_ rfl rfl rfl
      · repeat' (first | exact rfl | exact trivial | constructor)
      · repeat' (first | exact rfl | exact trivial | constructor)
    · rintro i ⟨hi, hall⟩
      by_cases hlt : i < t.length
      · have e1 : decide ((i : Int) < (t.length : Int)) = true := decide_eq_true (by omega)
        have hn := nth_node hlt
        have hk := nth_node (t := k) (k := i) (by omega)
        have hw := wrap_next (n := i) (by omega)
        by_cases he : t.getD i zNode = k.getD i zNode
        · have hall2 : ∀ j, j < i + 1 → t.getD j zNode = k.getD j zNode := fun j hj => by
            by_cases hji : j = i
            · rw [hji]; exact he
            · exact hall j (by omega)
          have e2 : decide (t.getD i zNode = k.getD i zNode) = true := decide_eq_true he
          generalize t.getD i zNode = x at hn e2
          generalize k.getD i zNode = y at hk e2
          have ff := And.intro e1 (And.intro hn (And.intro hk (And.intro hw e2)))
          refine mW ?_
          refine ⟨i + 1, ⟨hlt, hall2⟩, by omega, ?_⟩
          exact mK
        · have e2 : decide (t.getD i zNode = k.getD i zNode) = false := decide_eq_false he
          have er : decide (t = k) = false := decide_eq_false fun h => he (by rw [h])
          rw [er]
          generalize t.getD i zNode = x at hn e2
          generalize k.getD i zNode = y at hk e2
          have ff := And.intro e1 (And.intro hn (And.intro hk e2))
          exact mX
      · have e1 : decide ((i : Int) < (t.length : Int)) = false := decide_eq_false (by omega)
        have er : decide (t = k) = true := decide_eq_true (by
          refine List.ext_getElem hlen fun j h1 h2 => ?_
          have := hall j (by omega)
          rw [getD_lt h1, getD_lt h2] at this
          exact this)
        rw [er]
        have ff := e1
        exact mX
  · have e0 : decide ((t.length : Int) = (k.length : Int)) = false := decide_eq_false (by omega)
    have er : decide (t = k) = false := decide_eq_false fun h => hlen (by rw [h])
    rw [er]
    have ff := e0
    have hR : Tryz.f43.results.toList = [.tmp 4] := rfl
    refine ⟨enters_of Tryz.func43 (by kernel_rfl) rfl, pure_of_tr Tryz.func43 rfl (Nat.le_of_ble_eq_true rfl) rfl fun E hE hP => ?_⟩
    exact mX
end Go.Proofs.YtgnidooihignfaaGreatDoor

/- The law of blocks. -/
set_option linter.unusedSimpArgs false
set_option maxRecDepth 10000
namespace Go.Proofs.YtgnidooihignfaaGreatDoor
open Go Go.Ab

section
variable {t : List Node} {n : Node}
end
theorem blockR_ok {e : Eng} {b : Block} (h : (blockR e b).2 = 0) : mayE e = true ∧ b.slot ≤ e.now ∧ canB e.t (nodeOf e.t b) ∧ (blockR e b).1 = putE e (nodeOf e.t b) ∧ aboveR (e.t ++ [nodeOf e.t b]) (findR e.t e.fin.root) (e.t.length : Int) = true := by
  unfold blockR at h ⊢
  split at h
  · cases h
  · rename_i h1
    rw [if_neg h1]
    split at h
    · cases h
    · rename_i h2
      rw [if_neg h2]
      split at h
      · rename_i h3; exact absurd h h3
      · rename_i h3
        rw [if_neg h3]
        obtain ⟨e1, e2⟩ := insR_ok (Classical.not_not.1 h3)
        split at h
        · cases h
        · rename_i h4
          rw [if_neg h4]
          rw [e1, List.length_append, List.length_singleton] at h4
          refine ⟨by simpa using h1, by omega, e2, ?_, ?_⟩
          · rw [e1]; rfl
          · simpa using h4
theorem blockR_err {e : Eng} {b : Block} (h : (blockR e b).2 ≠ 0) : (blockR e b).1 = e := by
  unfold blockR at h ⊢
  split at h
  · rename_i h1; rw [if_pos h1]
  · rename_i h1
    rw [if_neg h1]
    split at h
    · rename_i h2; rw [if_pos h2]
    · rename_i h2
      rw [if_neg h2]
      split at h
      · rename_i h3; rw [if_pos h3]
      · rename_i h3
        rw [if_neg h3]
        split at h
        · rename_i h4; rw [if_pos h4]
        · exact absurd rfl h
theorem put_few {e : Eng} (h : fewE e = true) (n : Node) : (putE e n).few := by
  simp only [fewE, Bool.and_eq_true, decide_eq_true_eq] at h
  refine ⟨?_, by show e.b.length ≤ 100; omega, by show e.vl.length ≤ 100; omega, ?_, by show e.late.length ≤ 100; omega, by show e.k.length ≤ 40; omega, by show e.j.length ≤ 40; omega⟩
  · show (e.t ++ [n]).length ≤ 100
    rw [List.length_append, List.length_singleton]
    omega
  · show (e.w ++ [0]).length ≤ 100
    rw [List.length_append, List.length_singleton]
    omega
theorem put_ok {e : Eng} (h : e.ok) (n : Node) : (putE e n).ok := ⟨h.b, h.kL, h.kC⟩
end Go.Proofs.YtgnidooihignfaaGreatDoor

/- The law of an engine's blocks. -/
set_option linter.unusedSimpArgs false
set_option maxRecDepth 10000
namespace Go.Proofs.YtgnidooihignfaaGreatDoor
open Go Go.Ab

theorem eblk_no (e : Eng) (ho : e.ok) (b : Block) (h : fewE e = false ∨ (fewE e = true ∧ mayE e = false)) : CalT Tryz.prog 0 tabV 11 [e.av, b.av] (.bool true) := by
  have x1 := awake17_t
  have c1 := few_c e
  rcases h with h | ⟨h1, h2⟩
  · rw [h] at c1
    have hR : Tryz.f11.results.toList = [.tmp 4] := rfl
    refine ⟨enters_of Tryz.func11 (by kernel_rfl) rfl, eff_of_tr Tryz.func11 rfl (Nat.le_of_ble_eq_true rfl) (by first | rfl | (simp only [AV.idsB, AV.idsBL, Bool.and_true, Bool.true_and] <;> rfl)) fun E hE hP => ?_⟩
    exact mX
  · have x2 := may_t e (fewE_few h1) ho
    rw [h1] at c1
    rw [h2] at x2
    have hR : Tryz.f11.results.toList = [.tmp 4] := rfl
    refine ⟨enters_of Tryz.func11 (by kernel_rfl) rfl, eff_of_tr Tryz.func11 rfl (Nat.le_of_ble_eq_true rfl) (by first | rfl | (simp only [AV.idsB, AV.idsBL, Bool.and_true, Bool.true_and] <;> rfl)) fun E hE hP => ?_⟩
    exact mX
theorem eblk_err (e : Eng) (ho : e.ok) (b : Block) (h1 : fewE e = true) (h2 : mayE e = true) (h3 : (blockR e b).2 ≠ 0) : CalT Tryz.prog 0 tabV 11 [e.av, b.av] (.bool true) := by
  have he := fewE_few h1
  have x1 := awake17_t
  have c1 := few_c e
  rw [h1] at c1
  have x2 := may_t e he ho
  rw [h2] at x2
  have x3 := block_t e b he ho
  rw [blockR_err h3] at x3
  have c2 := esame_c e he
  have e1 : decide ((blockR e b).2 = 0) = false := decide_eq_false h3
  generalize (blockR e b).2 = i at x3 e1
  have ff := e1
  have hR : Tryz.f11.results.toList = [.tmp 4] := rfl
  refine ⟨enters_of Tryz.func11 (by kernel_rfl) rfl, eff_of_tr Tryz.func11 rfl (Nat.le_of_ble_eq_true rfl) (by first | rfl | (simp only [AV.idsB, AV.idsBL, Bool.and_true, Bool.true_and] <;> rfl)) fun E hE hP => ?_⟩
  exact mX
set_option maxHeartbeats 2000000 in
theorem eblk_w (e f g : Eng) (b : Block) (F : Int) (x2 : CalT Tryz.prog 0 tabV 24 [e.av] (.bool true)) (x3 : CalT Tryz.prog 0 tabV 25 [e.av, b.av] (.tup [f.av, .int .i64 0])) (x4 : CalT Tryz.prog 0 tabV 25 [f.av, b.av] (.tup [g.av, .int .i64 4]))
    (c1 : Cal Tryz.prog 14 [e.av] (.bool true)) (c2 : Cal Tryz.prog 40 [tav f.t, .int .i64 e.t.length] (.sl [] false)) (c3 : Cal Tryz.prog 27 [tav f.t, .root f.fin.root] (.int .i64 F)) (c4 : Cal Tryz.prog 39 [tav f.t, .int .i64 F, .int .i64 e.t.length] (.bool true))
    (hn : e.t.length ≤ 1000) (hs : b.slot ≤ e.now) (hlt : f.t.length = e.t.length + 1) (hlw : f.w.length = e.t.length + 1) (hw0 : nth (f.w.map uav) (e.t.length : Int) = some (.int .u64 0)) : CalT Tryz.prog 0 tabV 11 [e.av, b.av] (.bool true) := by
  have x1 := awake17_t
  have hw := wrap_next (n := e.t.length) (by omega)
  have e1 : decide ((f.t.length : Int) = ((e.t.length + 1 : Nat) : Int)) = true := decide_eq_true (by omega)
  have e2 : decide ((f.w.length : Int) = ((e.t.length + 1 : Nat) : Int)) = true := decide_eq_true (by omega)
  have e3 : decide (b.slot ≤ e.now) = true := decide_eq_true hs
  have ff := And.intro hw (And.intro e1 (And.intro e2 (And.intro e3 hw0)))
  have hR : Tryz.f11.results.toList = [.tmp 4] := rfl
  refine ⟨enters_of Tryz.func11 (by kernel_rfl) rfl, eff_of_tr Tryz.func11 rfl (Nat.le_of_ble_eq_true rfl) (by first | rfl | (simp only [AV.idsB, AV.idsBL, Bool.and_true, Bool.true_and] <;> rfl)) fun E hE hP => ?_⟩
  exact mX
theorem kids_last {t : List Node} {n : Node} (h : canB t n) : kidsR (t ++ [n]) (t.length : Int) = [] := by
  have hm := can_may h
  unfold kidsR
  split
  · refine List.eq_nil_iff_forall_not_mem.2 fun a ha => ?_
    obtain ⟨⟨h0, h1⟩, h2⟩ := someL_mem ha
    unfold parB at h2
    have h3 := of_decide_eq_true h2
    rw [List.length_append, List.length_singleton] at h1
    rcases par_range hm h0 (by rw [List.length_append, List.length_singleton]; omega) with h4 | h4
    · omega
    · omega
  · rfl
theorem known_again {f : Eng} {b : Block} (hm : mayE f = true) (hs : ¬ f.now < b.slot) (hi : (insR f.t b).2 = 4) : (blockR f b).2 = 4 := by
  unfold blockR
  rw [if_neg (by rw [hm]; decide), if_neg hs, if_pos (by rw [hi]; decide)]
  exact hi
theorem block_again {e : Eng} {b : Block} (hm : mayE e = true) (hs : b.slot ≤ e.now) (hc : canB e.t (nodeOf e.t b)) : (blockR (putE e (nodeOf e.t b)) b).2 = 4 := by
  have hm2 := may_put hm hc
  have hk : 0 ≤ findR (e.t ++ [nodeOf e.t b]) b.root := by
    rw [find_app hc, if_pos (show (nodeOf e.t b).root = b.root from rfl)]
    omega
  have hi : (insR (e.t ++ [nodeOf e.t b]) b).2 = 4 := by
    rw [insR, if_neg (by rw [can_may hc]; decide), if_pos hk]
  exact known_again hm2 (show ¬ e.now < b.slot by omega) hi
theorem eblk_t (e : Eng) (ho : e.ok) (b : Block) : CalT Tryz.prog 0 tabV 11 [e.av, b.av] (.bool true) := by
  cases h1 : fewE e
  · exact eblk_no e ho b (.inl h1)
  cases h2 : mayE e
  · exact eblk_no e ho b (.inr ⟨h1, h2⟩)
  by_cases h3 : (blockR e b).2 = 0
  · obtain ⟨_, hs, hc, hf, hab⟩ := blockR_ok h3
    have he := fewE_few h1
    have c1 := few_c e
    rw [h1] at c1
    have x2 := may_t e he ho
    rw [h2] at x2
    have x3 := block_t e b he ho
    rw [h3, hf] at x3
    have x4 := block_t (putE e (nodeOf e.t b)) b (put_few h1 _) (put_ok ho _)
    rw [block_again h2 hs hc] at x4
    have hlw : e.w.length = e.t.length := by rw [← (mayE_fit h2).2.1, weights_len]
    have c2 := kids_c (e.t ++ [nodeOf e.t b]) (e.t.length : Int)
    rw [kids_last hc] at c2
    have hroot : (nodeOf e.t b).root ≠ e.fin.root := (other_roots h2 hc).2.2.2
    have c3 := And.intro (enters_of Tryz.func27 (by kernel_rfl) rfl) (find_pure (e.t ++ [nodeOf e.t b]) e.fin.root)
    rw [find_app hc, if_neg hroot] at c3
    have c4 := And.intro (enters_of Tryz.func39 (by kernel_rfl) rfl) (above_pure (e.t ++ [nodeOf e.t b]) (findR e.t e.fin.root) (e.t.length : Int))
    rw [hab] at c4
    refine eblk_w e (putE e (nodeOf e.t b)) _ b (findR e.t e.fin.root) x2 x3 x4 c1 c2 c3 c4 (by have := he.t; omega) hs ?_ ?_ ?_
    · show (e.t ++ [nodeOf e.t b]).length = _
      rw [List.length_append]
      rfl
    · show (e.w ++ [0]).length = _
      rw [List.length_append, hlw]
      rfl
    · show nth ((e.w ++ [0]).map uav) (e.t.length : Int) = _
      unfold nth
      rw [if_pos (by omega), Int.toNat_natCast, List.map_append, ← hlw, List.getElem?_append_right (by rw [List.length_map]; exact Nat.le_refl _), List.length_map, Nat.sub_self]
      rfl
  · exact eblk_err e ho b h1 h2 h3
end Go.Proofs.YtgnidooihignfaaGreatDoor

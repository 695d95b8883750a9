/- The law of what blocks weigh. -/
import Derived.Test.YtgnidooihignfaaGreatDoorP11
set_option linter.unusedSimpArgs false
set_option maxRecDepth 10000
namespace Go.Proofs.YtgnidooihignfaaGreatDoor
open Go Go.Ab

theorem eweigh_no (e : Eng) (he : fewE e = false ∨ e.ok) (c : Ask) (hc : c.vals.length ≤ 9223372036854775807) (h : fewE e = false ∨ (fewE e = true ∧ (mayE e = false ∨ (mayE e = true ∧ 200 < c.vals.length)))) : CalT Tryz.prog 0 tabV 8 [e.av, c.av] (.bool true) := by
  have x1 := awake17_t
  have c1 := few_c e
  rcases h with h | ⟨h1, h⟩
  · rw [h] at c1
    have hR : Tryz.f8.results.toList = [.tmp 4] := rfl
    refine calE_tr Tryz.func8 rfl fun E hE hP => ?_
    exact mX
  · have ho := he.resolve_left (by rw [h1]; decide)
    have x2 := may_t e (fewE_few h1) ho
    rw [h1] at c1
    rcases h with h2 | ⟨h2, h⟩
    · rw [h2] at x2
      have hR : Tryz.f8.results.toList = [.tmp 4] := rfl
      refine calE_tr Tryz.func8 rfl fun E hE hP => ?_
      exact mX
    · rw [h2] at x2
      have e1 : decide ((200 : Int) < (c.vals.length : Int)) = true := decide_eq_true (by omega)
      have ff := e1
      have hR : Tryz.f8.results.toList = [.tmp 4] := rfl
      refine calE_tr Tryz.func8 rfl fun E hE hP => ?_
      exact mX
set_option maxHeartbeats 2000000 in
theorem eweigh_w (e f : Eng) (c : Ask) (i : Int) (h1 : decide ((200 : Int) < (c.vals.length : Int)) = false) (c1 : Cal Tryz.prog 14 [e.av] (.bool true)) (x2 : CalT Tryz.prog 0 tabV 24 [e.av] (.bool true)) (x3 : CalT Tryz.prog 0 tabV 32 [e.av, c.av] (.tup [f.av, .int .i64 i]))
    (c2 : Cal Tryz.prog 34 [tav f.t, vav f.vl f.o, u64s f.b] (.tup [u64s f.w, .bool true])) (c3 : Cal Tryz.prog 35 [u64s f.w, u64s f.w] (.bool true)) (hl : decide ((f.w.length : Int) = (f.t.length : Int)) = true) : CalT Tryz.prog 0 tabV 8 [e.av, c.av] (.bool true) := by
  have x1 := awake17_t
  have ff := And.intro h1 hl
  have hR : Tryz.f8.results.toList = [.tmp 4] := rfl
  refine calE_tr Tryz.func8 rfl fun E hE hP => ?_
  exact mX
theorem eweigh_t (e : Eng) (hw : e.wf) (c : Ask) (hc : c.vals.length ≤ 9223372036854775807) : CalT Tryz.prog 0 tabV 8 [e.av, c.av] (.bool true) := by
  cases h1 : fewE e
  · exact eweigh_no e (.inl h1) c hc (.inl h1)
  cases h2 : mayE e
  · exact eweigh_no e (.inr hw.ok) c hc (.inr ⟨h1, .inl h2⟩)
  by_cases h3 : 200 < c.vals.length
  · exact eweigh_no e (.inr hw.ok) c hc (.inr ⟨h1, .inr ⟨h2, h3⟩⟩)
  have hL := live_few h1 h2 hw
  have he := hL.few
  have c1 := few_c e
  rw [h1] at c1
  have x2 := may_t e he hw.ok
  rw [h2] at x2
  have x3 := do32_t e c he hw (fun _ => hL)
  have hF := fine_do (c := c) hL
  generalize (doR e c).1 = f at x3 hF
  obtain ⟨f1, f2, _⟩ := mayE_all.1 hF.may
  have c2 := weights_c f.t f.vl f.o f.b hF.wf.ok.b f1
  rw [f2] at c2
  have hwl := hF.few.w
  have c3 := wsame_c f.w f.w (by omega)
  rw [decide_eq_true rfl] at c3
  exact eweigh_w e f c _ (decide_eq_false (by omega)) c1 x2 x3 c2 c3 (decide_eq_true (by rw [← f2, weights_len]))
end Go.Proofs.YtgnidooihignfaaGreatDoor

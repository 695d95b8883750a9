/- For all arguments the law SnapTells of the given program answers true, and changes none of them; the tied card says so of a run in which the listed table reads as the program's text lays it. There are no other conditions. -/
import Derived.Test.YtgnidooihignfaaGreatDoorP12
import Derived.Test.YtgnidooihignfaaGreatDoorSnEDec
import Derived.Test.YtgnidooihignfaaGreatDoorRows
import Derived.Test.YtgnidooihignfaaGreatDoorTie
import Derived.Test.YtgnidooihignfaaGreatDoorCards
set_option linter.unusedSimpArgs false
namespace Go.Proofs.YtgnidooihignfaaGreatDoor
open Go Go.Ab Go.ChangeShapes Go.WideShapes Go.ChangeAt Go.RowKit
theorem and_tt {a b : Bool} (h : a = true) (k : b = true) : (a && b) = true := by rw [h, k]; rfl
set_option maxRecDepth 100000 in
set_option maxHeartbeats 8000000 in
theorem snapTells_row : Rows.SnapTellsSaid :=
 OpenClaim.holds_of_wide 3 Tryz.f3 rfl rfl rfl rfl rfl rfl rfl ⟨rfl, rfl, rfl, rfl, rfl⟩ rfl rfl rfl rfl rfl (by kernel_rfl) Tryz.func3 (by
  unfold joinedFacts
  repeat' (with_reducible refine and_tt ?_ ?_)
  all_goals (as_aux_lemma => kernel_rfl))
  (of_decide_eq_true (by kernel_rfl)) (by unfold Func.isWrapper; first | (rw [if_pos (by decide +kernel)]; kernel_rfl) | (rw [if_neg (by decide +kernel)]; exact ⟨rfl, rfl⟩))
  (fun os started H enc _ => snapTells_lifted os started H enc)
set_option maxRecDepth 100000 in
theorem snapTells_holds : Rows.SnapTellsCardSaid :=
 Claim7.holds_tied_plain_at .later [] [.data] true (true, "0f6c58fbd34454627b03dc5aa3f72d77f520a83c0acdbe20467a7ed831b66302") false
  snapTells_row (fun _ h => by cases h) (by kernel_rfl) (fun _ h => by cases h) snapTells_row_tie rfl ⟨rfl, rfl⟩ (by kernel_rfl) rfl
  (fun f fn hf hfn => by
   obtain rfl : f = 3 := Option.some.inj ((show Tryz.prog.funcNamed "areopagus/areopaguslaw18.SnapTells" = some 3 by kernel_rfl).symm.trans hf) |>.symm
   obtain rfl : fn = Tryz.f3 := (Option.some.inj (Tryz.func3.symm.trans hfn)).symm
   exact ⟨by kernel_rfl, fun j t ht => by
    have hm : t ∈ [38, 3, 40, 40, 43] := by
     have := Array.mem_of_getElem? ht
     rw [show Tryz.f3.params = #[38, 3, 40, 40, 43] from rfl] at this
     simpa using this
    have hall : ([38, 3, 40, 40, 43].all fun u => !Tryz.prog.wantsStandIn u) = true := by kernel_rfl
    exact (show Tryz.prog.wantsStandIn t = false by simpa using List.all_eq_true.1 hall t hm)⟩)
  (by kernel_rfl)
#print axioms snapTells_holds
end Go.Proofs.YtgnidooihignfaaGreatDoor

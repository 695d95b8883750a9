/- For all arguments the law BestTells of the given program answers true, and changes none of them. There are no conditions. -/
import Derived.Test.YtpcegpfbmmgbbaaBeU
import Derived.Test.YtpcegpfbmmgbbaaBeDec
import Derived.Test.YtpcegpfbmmgbbaaRows
set_option linter.unusedSimpArgs false
namespace Go.Proofs.Ytpcegpfbmmgbbaa
open Go Go.Ab Go.ChangeShapes Go.WideShapes Go.ChangeAt Go.RowKit

set_option maxRecDepth 100000 in
theorem bestTells_lifted (os : Os) (started : os.Started) (H : Type) (enc : TypeId × Value → H) :
    ReturnsInHanded {} Try.checked os 9 .any (Rows.bestTellsSpec.pre6 enc Try.prog Try.f9 Rows.bestTellsRow.domain false) (Rows.bestTellsSpec.post enc Try.prog Try.f9 false true false false) := by
  refine lifted_of_pure (C := Try.checked) (m := 8) started own (by kernel_rfl) Try.func9
    (ChangeSpec.witness6 (enc := enc) (C := Try.checked) false ⟨#[], #[.agg #[.slice none 0 0], .slice none 0 0, .slice none 0 0, .int .i64 0], []⟩ 8 (by kernel_rfl) (by kernel_rfl) (by kernel_rfl) (by kernel_rfl)) laidOut rfl (by kernel_rfl) rfl Try.underlying4 ?_ ?_
  · intro ds hds
    match ds, hds with
    | [d1, d2, d3, d4], _ => rfl
  · intro xs hx
    rw [show Try.f9.params.toList = [47, 48, 49, 3] from rfl] at hx
    obtain ⟨z1, s1, rfl, d1, z2, s2, rfl, d2, z3, s3, rfl, d3, z4, s4, rfl, d4, rfl⟩ := hx
    obtain ⟨x1, rfl⟩ := tree_of d1
    obtain ⟨x2, rfl⟩ := weights_of d2
    obtain ⟨x3, rfl⟩ := bools_of d3
    obtain ⟨x4, rfl⟩ := int_of d4
    exact bestTells_pure x1 x2 x3 x4

theorem bestTells_holds : Rows.BestTellsSaid :=
  OpenClaim.holds_of_wide 9 Try.f9 rfl rfl rfl rfl rfl rfl rfl ⟨rfl, rfl, rfl, rfl, rfl⟩ rfl rfl rfl rfl rfl (by kernel_rfl) Try.func9 (by kernel_rfl)
    (of_decide_eq_true (by kernel_rfl)) (by unfold Func.isWrapper; first | (rw [if_pos (by decide +kernel)]; kernel_rfl) | (rw [if_neg (by decide +kernel)]; exact ⟨rfl, rfl⟩))
    (fun os started H enc _ => bestTells_lifted os started H enc)
#print axioms bestTells_holds

/- For all arguments the law WirePlaces of the given program answers true, and changes none of them. There are no conditions. -/
import Derived.Test.YtpcegpfbmmgbbaaWiQ
import Derived.Test.YtpcegpfbmmgbbaaWiDec
import Derived.Test.YtpcegpfbmmgbbaaRows
set_option linter.unusedSimpArgs false
namespace Go.Proofs.Ytpcegpfbmmgbbaa
open Go Go.Ab Go.ChangeShapes Go.WideShapes Go.ChangeAt Go.RowKit

set_option maxRecDepth 100000 in
theorem wirePlaces_lifted (os : Os) (started : os.Started) (H : Type) (enc : TypeId × Value → H) :
    ReturnsInHanded {} Try.checked os 7 .any (Rows.wirePlacesSpec.pre6 enc Try.prog Try.f7 Rows.wirePlacesRow.domain false) (Rows.wirePlacesSpec.post enc Try.prog Try.f7 false true false false) := by
  refine lifted_of_pure (C := Try.checked) (m := 8) started own (by kernel_rfl) Try.func7
    (ChangeSpec.witness6 (enc := enc) (C := Try.checked) false ⟨#[], #[.agg (Array.replicate 32 (.int .u8 0) ++ Array.replicate 32 (.int .u8 0) ++ #[.int .u64 0, .int .u64 0]), .agg (#[.int .i64 0, .int .u64 0] ++ Array.replicate 32 (.int .u8 0) ++ #[.int .u64 0] ++ Array.replicate 32 (.int .u8 0) ++ #[.int .u64 0] ++ Array.replicate 32 (.int .u8 0)), .int .i64 0], []⟩ 8 (by kernel_rfl) (by kernel_rfl) (by kernel_rfl) (by kernel_rfl)) laidOut rfl (by kernel_rfl) rfl Try.underlying4 ?_ ?_
  · intro ds hds
    match ds, hds with
    | [d1, d2, d3], _ => rfl
  · intro xs hx
    rw [show Try.f7.params.toList = [26, 30, 3] from rfl] at hx
    obtain ⟨z1, s1, rfl, d1, z2, s2, rfl, d2, z3, s3, rfl, d3, rfl⟩ := hx
    obtain ⟨x1, rfl, h1⟩ := block_of d1
    obtain ⟨x2, rfl, h2⟩ := att_of d2
    obtain ⟨x3, rfl⟩ := int_of d3
    exact WirePlaces_pure x1 x2 x3 h1 h2

theorem wirePlaces_holds : Rows.WirePlacesSaid :=
  OpenClaim.holds_of_wide 7 Try.f7 rfl rfl rfl rfl rfl rfl rfl ⟨rfl, rfl, rfl, rfl, rfl⟩ rfl rfl rfl rfl rfl (by kernel_rfl) Try.func7 (by kernel_rfl)
    (of_decide_eq_true (by kernel_rfl)) (by unfold Func.isWrapper; first | (rw [if_pos (by decide +kernel)]; kernel_rfl) | (rw [if_neg (by decide +kernel)]; exact ⟨rfl, rfl⟩))
    (fun os started H enc _ => wirePlaces_lifted os started H enc)
#print axioms wirePlaces_holds

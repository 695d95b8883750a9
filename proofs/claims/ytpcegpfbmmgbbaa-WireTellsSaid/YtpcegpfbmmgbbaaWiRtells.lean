/- For all arguments the law WireTells of the given program answers true, and changes none of them. There are no conditions. -/
import Derived.Test.YtpcegpfbmmgbbaaWiZ
import Derived.Test.YtpcegpfbmmgbbaaWiDec
import Derived.Test.YtpcegpfbmmgbbaaRows
set_option linter.unusedSimpArgs false
namespace Go.Proofs.Ytpcegpfbmmgbbaa
open Go Go.Ab Go.ChangeShapes Go.WideShapes Go.ChangeAt Go.RowKit

set_option maxRecDepth 100000 in
theorem wireTells_lifted (os : Os) (started : os.Started) (H : Type) (enc : TypeId × Value → H) :
    ReturnsInHanded {} Try.checked os 3 .any (Rows.wireTellsSpec.pre6 enc Try.prog Try.f3 Rows.wireTellsRow.domain false) (Rows.wireTellsSpec.post enc Try.prog Try.f3 false true false false) := by
  refine lifted_of_pure (C := Try.checked) (m := 8) started own (by kernel_rfl) Try.func3
    (ChangeSpec.witness6 (enc := enc) (C := Try.checked) false ⟨#[], #[.agg (Array.replicate 32 (.int .u8 0) ++ Array.replicate 32 (.int .u8 0) ++ #[.int .u64 0, .int .u64 0]), .agg (#[.int .i64 0, .int .u64 0] ++ Array.replicate 32 (.int .u8 0) ++ #[.int .u64 0] ++ Array.replicate 32 (.int .u8 0) ++ #[.int .u64 0] ++ Array.replicate 32 (.int .u8 0)), .slice none 0 0], []⟩ 8 (by kernel_rfl) (by kernel_rfl) (by kernel_rfl) (by kernel_rfl)) laidOut rfl (by kernel_rfl) rfl Try.underlying4 ?_ ?_
  · intro ds hds
    match ds, hds with
    | [d1, d2, d3], _ => rfl
  · intro xs hx
    rw [show Try.f3.params.toList = [26, 30, 31] from rfl] at hx
    obtain ⟨z1, s1, rfl, d1, z2, s2, rfl, d2, z3, s3, rfl, d3, rfl⟩ := hx
    obtain ⟨x1, rfl, h1⟩ := block_of d1
    obtain ⟨x2, rfl, h2⟩ := att_of d2
    obtain ⟨x3, rfl⟩ := bytes_of d3
    exact WireTells_pure x1 x2 x3 h1 h2

theorem wireTells_holds : Rows.WireTellsSaid :=
  OpenClaim.holds_of_wide 3 Try.f3 rfl rfl rfl rfl rfl rfl rfl ⟨rfl, rfl, rfl, rfl, rfl⟩ rfl rfl rfl rfl rfl (by kernel_rfl) Try.func3 (by kernel_rfl)
    (of_decide_eq_true (by kernel_rfl)) (by unfold Func.isWrapper; first | (rw [if_pos (by decide +kernel)]; kernel_rfl) | (rw [if_neg (by decide +kernel)]; exact ⟨rfl, rfl⟩))
    (fun os started H enc _ => wireTells_lifted os started H enc)
#print axioms wireTells_holds

/- For all arguments the law WireNone of the given program answers true, and changes none of them. There are no conditions. -/
import Derived.Test.YtpcegpfbmmgbbaaWiN
import Derived.Test.YtpcegpfbmmgbbaaWiDec
import Derived.Test.YtpcegpfbmmgbbaaRows
set_option linter.unusedSimpArgs false
namespace Go.Proofs.Ytpcegpfbmmgbbaa
open Go Go.Ab Go.ChangeShapes Go.WideShapes Go.ChangeAt Go.RowKit

set_option maxRecDepth 100000 in
theorem wireNone_lifted (os : Os) (started : os.Started) (H : Type) (enc : TypeId × Value → H) :
    ReturnsInHanded {} Try.checked os 6 .any (Rows.wireNoneSpec.pre6 enc Try.prog Try.f6 Rows.wireNoneRow.domain false) (Rows.wireNoneSpec.post enc Try.prog Try.f6 false true false false) := by
  refine lifted_of_pure (C := Try.checked) (m := 8) started own (by kernel_rfl) Try.func6
    (ChangeSpec.witness6 (enc := enc) (C := Try.checked) false ⟨#[], #[.slice none 0 0], []⟩ 8 (by kernel_rfl) (by kernel_rfl) (by kernel_rfl) (by kernel_rfl)) laidOut rfl (by kernel_rfl) rfl Try.underlying4 ?_ ?_
  · intro ds hds
    match ds, hds with
    | [d1], _ => rfl
  · intro xs hx
    rw [show Try.f6.params.toList = [31] from rfl] at hx
    obtain ⟨z1, s1, rfl, d1, rfl⟩ := hx
    obtain ⟨x1, rfl⟩ := bytes_of d1
    exact WireNone_pure x1

theorem wireNone_holds : Rows.WireNoneSaid :=
  OpenClaim.holds_of_wide 6 Try.f6 rfl rfl rfl rfl rfl rfl rfl ⟨rfl, rfl, rfl, rfl, rfl⟩ rfl rfl rfl rfl rfl (by kernel_rfl) Try.func6 (by kernel_rfl)
    (of_decide_eq_true (by kernel_rfl)) (by unfold Func.isWrapper; first | (rw [if_pos (by decide +kernel)]; kernel_rfl) | (rw [if_neg (by decide +kernel)]; exact ⟨rfl, rfl⟩))
    (fun os started H enc _ => wireNone_lifted os started H enc)
#print axioms wireNone_holds

/- Bytes as strings. -/
import Derived.Test.YtpcegpfbmmgbbaaWiH
set_option linter.unusedSimpArgs false
namespace Go.Proofs.Ytpcegpfbmmgbbaa
open Go Go.Ab

@[go_sem] theorem weql4 (a b : Bool) (K : AV → Prop) : binK Try.prog .eql 4 (.bool a) (.bool b) K = K (.bool (decide (a = b))) :=
  bin_eql_of (fun _ _ h => by cases h) (fun _ h => by cases h) (by kernel_rfl) (by kernel_rfl) (Nat.le_of_ble_eq_true rfl) (by kernel_rfl) (by cases a <;> cases b <;> rfl) K
@[go_sem] theorem wneq4 (a b : Bool) (K : AV → Prop) : binK Try.prog .neq 4 (.bool a) (.bool b) K = K (.bool !(decide (a = b))) :=
  bin_neq_of (fun _ _ h => by cases h) (fun _ h => by cases h) (by kernel_rfl) (by kernel_rfl) (Nat.le_of_ble_eq_true rfl) (by kernel_rfl) (by cases a <;> cases b <;> rfl) K
def bstr (l : List UInt8) : AV := .str ⟨l.toArray⟩
theorem isByte_bav (l : List UInt8) : ∀ y ∈ l.map bav, isByte y := fun y hy => by
  obtain ⟨b, _, rfl⟩ := List.mem_map.1 hy
  simp [isByte, bav]
theorem bytes_bav (l : List UInt8) : (l.map bav).map Go.Ab.byteOf = l := by
  induction l with
  | nil => rfl
  | cons b l ih =>
    rw [List.map_cons, List.map_cons, ih]
    congr 1
    simp [Go.Ab.byteOf, bav]
theorem conv_str {hp : HP} {x : AV} {l : List UInt8} {K : AV → Prop} (h : elemsOf hp x = some (l.map bav)) : convK Try.prog 31 9 hp x K = K (bstr l) := by
  unfold convK
  rw [und31, und9]
  simp only [und5, h, true_and, bytes_bav]
  exact propext ⟨fun h => h.2, fun h => ⟨isByte_bav l, h⟩⟩
@[go_sem] theorem conv_sl (hp : HP) (l : List UInt8) (c : Bool) (K : AV → Prop) : convK Try.prog 31 9 hp (.sl (l.map bav) c) K = K (bstr l) := conv_str rfl
@[go_sem] theorem conv_nil (hp : HP) (c : Bool) (K : AV → Prop) : convK Try.prog 31 9 hp (.sl [] c) K = K (bstr []) := conv_str (l := []) rfl
@[go_sem] theorem bstr_eql (t : TypeId) (a b : List UInt8) (K : AV → Prop) : binK Try.prog .eql t (bstr a) (bstr b) K = K (.bool (decide (a = b))) := by
  unfold bstr
  rw [bin_str_eql]
  congr 2
  by_cases h : a = b
  · subst h; simp
  · simp [h]
theorem conv_ms {hp : HP} {o n : Nat} {l : List UInt8} {K : AV → Prop} (h : HP.get hp o = some (.row 1 (l.map bav))) (hn : n = l.length) : convK Try.prog 31 9 hp (.ms o 1 n) K = K (bstr l) := by
  refine conv_str ?_
  subst hn
  simp [elemsOf, h]

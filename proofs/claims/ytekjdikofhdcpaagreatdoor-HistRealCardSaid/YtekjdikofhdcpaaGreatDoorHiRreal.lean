/- For all arguments the law HistReal of the given program answers true, and changes none of them; the tied card says so of a run in which the listed table reads as the program's text lays it. There are no other conditions. -/
import Derived.Test.YtekjdikofhdcpaaGreatDoorP11
import Derived.Test.YtekjdikofhdcpaaGreatDoorHiDec
import Derived.Test.YtekjdikofhdcpaaGreatDoorRows
import Derived.Test.YtekjdikofhdcpaaGreatDoorTie
import Derived.Test.YtekjdikofhdcpaaGreatDoorCards
set_option linter.unusedSimpArgs false
namespace Go.Proofs.YtekjdikofhdcpaaGreatDoor
open Go Go.Ab Go.ChangeShapes Go.WideShapes Go.ChangeAt Go.RowKit
set_option maxRecDepth 100000 in
theorem histReal_lifted (os : Os) (started : os.Started) (H : Type) (enc : TypeId × Value → H) :
 ReturnsInHanded {} Tryz.checked os 4 .any (fun w args => (Rows.histRealSpec.pre enc Tryz.prog Tryz.f4 [] false w args ∧ laidMet Tryz.prog theLaid w) ∧ sizedMet enc Tryz.prog Tryz.f4 (OpenSpec.ofChange Rows.histRealSpec) false w args)
  (Rows.histRealSpec.post enc Tryz.prog Tryz.f4 false true false false) := by
 refine lifted_laid (C := Tryz.checked) (m := 8) (g := 0) (x := tabV) started own (by kernel_rfl) Tryz.func4
  (ChangeSpec.witness_shaped (enc := enc) (C := Tryz.checked) (os := os) (X := fun w _ => laidMet Tryz.prog theLaid w) false (World.laidAll Tryz.prog os theLaid) #[.slice none 0 0, .slice none 0 0] 8 (World.laidAll_os _ _ _)
   (World.shaped_of_ZipB (by kernel_rfl) (by kernel_rfl)) (by kernel_rfl) (by kernel_rfl) (by kernel_rfl) (laidMet_laidAll _ (by kernel_rfl) (by kernel_rfl)))
  htab laidOut rfl (by kernel_rfl) rfl Tryz.underlying4 ?_ ?_
 · intro ds hds
   match ds, hds with
   | [d1, d2], _ => rfl
 · intro xs hx
   rw [show Tryz.f4.params.toList = [39, 40] from rfl] at hx
   obtain ⟨z1, s1, rfl, d1, z2, s2, rfl, d2, rfl⟩ := hx
   obtain ⟨x1, rfl⟩ := ticks_of d1
   obtain ⟨x2, rfl⟩ := ints_of d2
   exact (hreal_t x1 x2).2
set_option maxRecDepth 100000 in
theorem histReal_row : Rows.HistRealSaid :=
 OpenClaim.holds_of_wide 4 Tryz.f4 rfl rfl rfl rfl rfl rfl rfl ⟨rfl, rfl, rfl, rfl, rfl⟩ rfl rfl rfl rfl rfl (by kernel_rfl) Tryz.func4 (by kernel_rfl)
  (of_decide_eq_true (by kernel_rfl)) (by unfold Func.isWrapper; first | (rw [if_pos (by decide +kernel)]; kernel_rfl) | (rw [if_neg (by decide +kernel)]; exact ⟨rfl, rfl⟩))
  (fun os started H enc _ => histReal_lifted os started H enc)
set_option maxRecDepth 100000 in
theorem histReal_holds : Rows.HistRealCardSaid :=
 Claim7.holds_tied_plain_at .later [] [.data] true (true, "75313ae37f2bf438211c16e2f0c83fd347e93202d89a6cbea126968164662503") false
  histReal_row (fun _ h => by cases h) (by kernel_rfl) (fun _ h => by cases h) histReal_row_tie rfl ⟨rfl, rfl⟩ (by kernel_rfl) rfl
  (fun f fn hf hfn => by
   obtain rfl : f = 4 := Option.some.inj ((show Tryz.prog.funcNamed "areopagus/areopaguslaw21.HistReal" = some 4 by kernel_rfl).symm.trans hf) |>.symm
   obtain rfl : fn = Tryz.f4 := (Option.some.inj (Tryz.func4.symm.trans hfn)).symm
   exact ⟨by kernel_rfl, fun j t ht => by
    have hm : t ∈ [39, 40] := by
     have := Array.mem_of_getElem? ht
     rw [show Tryz.f4.params = #[39, 40] from rfl] at this
     simpa using this
    have hall : ([39, 40].all fun u => !Tryz.prog.wantsStandIn u) = true := by kernel_rfl
    exact (show Tryz.prog.wantsStandIn t = false by simpa using List.all_eq_true.1 hall t hm)⟩)
  (by kernel_rfl)
#print axioms histReal_holds
end Go.Proofs.YtekjdikofhdcpaaGreatDoor

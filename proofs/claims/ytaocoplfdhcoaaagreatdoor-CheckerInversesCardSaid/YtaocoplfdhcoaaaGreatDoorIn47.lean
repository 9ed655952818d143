/- CheckerInverses: the tied card: whatever the arguments are, the law returns true, and the arguments read as they did. No condition. -/
import Derived.Test.YtaocoplfdhcoaaaGreatDoorIn46
import Derived.Test.YtaocoplfdhcoaaaGreatDoorCards
import Derived.Test.YtaocoplfdhcoaaaGreatDoorTie
import Derived.SevenTiedAt
namespace Go.Proofs.YtaocoplfdhcoaaaGreatDoor
open Go
theorem checkerInverses_card : Rows.CheckerInversesCardSaid :=
  Claim7.holds_tied_plain_at .later [] [.data, .data, .data, .sentinel, .sentinel] true (true, "8d7d68d3a892af48bfe96ede664ca4ed08e08576530c8c86627c2ff4d4f2c417") true
    checkerInverses_holds (fun _ h => by cases h) (by as_aux_lemma => kernel_rfl) (fun _ h => by cases h) checkerInverses_row_tie rfl ⟨rfl, rfl⟩ (by as_aux_lemma => kernel_rfl) rfl
    (fun f fn hf hfn => by
      obtain rfl : f = 4 := Option.some.inj (inverses_named.symm.trans hf) |>.symm
      obtain rfl : fn = Tryz.f4 := (Option.some.inj (Tryz.func4.symm.trans hfn)).symm
      exact ⟨by as_aux_lemma => kernel_rfl, fun j t ht => by
        rw [show Tryz.f4.params = #[23, 23] by kernel_rfl] at ht
        have hm : t ∈ [23, 23] := by simpa using Array.mem_of_getElem? ht
        have hall : ([23, 23].all fun u => !Tryz.prog.wantsStandIn u) = true := by as_aux_lemma => kernel_rfl
        exact (show Tryz.prog.wantsStandIn t = false by simpa using List.all_eq_true.1 hall t hm)⟩)
    (by as_aux_lemma => kernel_rfl)
#print axioms checkerInverses_card
end Go.Proofs.YtaocoplfdhcoaaaGreatDoor

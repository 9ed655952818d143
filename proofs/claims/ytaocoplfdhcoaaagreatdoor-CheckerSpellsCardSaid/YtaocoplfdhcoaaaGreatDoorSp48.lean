/- CheckerSpells: the tied card: whatever the arguments are, the law returns true, and the arguments read as they did. No condition. -/
import Derived.Test.YtaocoplfdhcoaaaGreatDoorSp47
import Derived.Test.YtaocoplfdhcoaaaGreatDoorCards
import Derived.Test.YtaocoplfdhcoaaaGreatDoorTie
import Derived.SevenTiedAt
namespace Go.Proofs.YtaocoplfdhcoaaaGreatDoor
open Go
theorem checkerSpells_card : Rows.CheckerSpellsCardSaid :=
  Claim7.holds_tied_plain_at .later [] [.data, .data, .data, .sentinel, .sentinel] true (true, "8d7d68d3a892af48bfe96ede664ca4ed08e08576530c8c86627c2ff4d4f2c417") true
    checkerSpells_holds (fun _ h => by cases h) (by as_aux_lemma => kernel_rfl) (fun _ h => by cases h) checkerSpells_row_tie rfl ⟨rfl, rfl⟩ (by as_aux_lemma => kernel_rfl) rfl
    (fun f fn hf hfn => by
      obtain rfl : f = 5 := Option.some.inj (spells_named.symm.trans hf) |>.symm
      obtain rfl : fn = Tryz.f5 := (Option.some.inj (Tryz.func5.symm.trans hfn)).symm
      exact ⟨by as_aux_lemma => kernel_rfl, fun j t ht => by
        rw [show Tryz.f5.params = #[42, 44, 25] by kernel_rfl] at ht
        have hm : t ∈ [42, 44, 25] := by simpa using Array.mem_of_getElem? ht
        have hall : ([42, 44, 25].all fun u => !Tryz.prog.wantsStandIn u) = true := by as_aux_lemma => kernel_rfl
        exact (show Tryz.prog.wantsStandIn t = false by simpa using List.all_eq_true.1 hall t hm)⟩)
    (by as_aux_lemma => kernel_rfl)
#print axioms checkerSpells_card
end Go.Proofs.YtaocoplfdhcoaaaGreatDoor

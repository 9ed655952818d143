/- CheckerSpells: the row: whatever the arguments are, the law returns true, and the arguments read as they did. Its condition: the laid variables read as the program lays them. -/
import Derived.Test.YtaocoplfdhcoaaaGreatDoorSp42
import Derived.Test.YtaocoplfdhcoaaaGreatDoorSp43
import Derived.Test.YtaocoplfdhcoaaaGreatDoorSp44
import Derived.Test.YtaocoplfdhcoaaaGreatDoorSp45
import Derived.Test.YtaocoplfdhcoaaaGreatDoorSp46
namespace Go.Proofs.YtaocoplfdhcoaaaGreatDoor
open Go
theorem facts_and {a b : Bool} (h : a = true) (h' : b = true) : (a && b) = true := by rw [h, h']; rfl
theorem facts_l {a b : Bool} (h : (a && b) = true) : a = true := by cases a <;> simp_all
theorem facts_r {a b : Bool} (h : (a && b) = true) : b = true := by cases a <;> simp_all
set_option maxRecDepth 100000 in
theorem spells_closed : joinedFacts Tryz.pinned.checked.prog 5 Tryz.f5 Rows.checkerSpellsSpec Rows.checkerSpellsRow = true := by
  unfold joinedFacts
  exact (facts_and (facts_and (facts_and (facts_and (facts_and (facts_and (facts_and (facts_and (facts_and (facts_and (facts_and (facts_and (facts_and (facts_and (facts_and (facts_and (facts_and (facts_and (facts_and (facts_and (facts_and (facts_and (facts_and (facts_and (facts_and (facts_and (facts_and spells_f0 (facts_l (facts_l (facts_l spells_f1)))) (facts_r (facts_l (facts_l spells_f1)))) (facts_r (facts_l spells_f1))) (facts_r spells_f1)) spells_f2) spells_f3) spells_f4) spells_f5) (facts_l (facts_l (facts_l (facts_l spells_f6))))) (facts_r (facts_l (facts_l (facts_l spells_f6))))) (facts_r (facts_l (facts_l spells_f6)))) (facts_r (facts_l spells_f6))) (facts_r spells_f6)) (facts_l (facts_l (facts_l (facts_l (facts_l spells_f7)))))) (facts_r (facts_l (facts_l (facts_l (facts_l spells_f7)))))) (facts_r (facts_l (facts_l (facts_l spells_f7))))) (facts_r (facts_l (facts_l spells_f7)))) (facts_r (facts_l spells_f7))) (facts_r spells_f7)) (facts_l (facts_l (facts_l spells_f8)))) (facts_r (facts_l (facts_l spells_f8)))) (facts_r (facts_l spells_f8))) (facts_r spells_f8)) (facts_l (facts_l (facts_l spells_f9)))) (facts_r (facts_l (facts_l spells_f9)))) (facts_r (facts_l spells_f9))) (facts_r spells_f9))
theorem spells_named : Tryz.pinned.checked.prog.funcNamed Rows.checkerSpellsRow.func = some 5 := by kernel_rfl
theorem spells_instance : Tryz.f5.isInstance Tryz.pinned.checked.prog Rows.checkerSpellsRow.origin Rows.checkerSpellsRow.targs := of_decide_eq_true (by kernel_rfl)
theorem spells_wrapper : Tryz.f5.isWrapper Tryz.pinned.checked.prog Rows.checkerSpellsRow.wrapper Rows.checkerSpellsRow.mainSum := by
  unfold Func.isWrapper
  rw [if_neg (of_decide_eq_true (by kernel_rfl))]
  exact ⟨rfl, rfl⟩
theorem checkerSpells_holds : Rows.CheckerSpellsSaid :=
  OpenClaim.holds_of_wide 5 Tryz.f5 rfl rfl rfl rfl rfl rfl rfl ⟨rfl, rfl, rfl, rfl, rfl⟩ rfl rfl rfl rfl rfl spells_named Tryz.func5 spells_closed spells_instance spells_wrapper
    (fun os started H enc _ => spellsLifted os started H enc)
end Go.Proofs.YtaocoplfdhcoaaaGreatDoor

/- CheckerInverses: the row: whatever the arguments are, the law returns true, and the arguments read as they did. Its condition: the laid variables read as the program lays them. -/
import Derived.Test.YtaocoplfdhcoaaaGreatDoorIn41
import Derived.Test.YtaocoplfdhcoaaaGreatDoorIn42
import Derived.Test.YtaocoplfdhcoaaaGreatDoorIn43
import Derived.Test.YtaocoplfdhcoaaaGreatDoorIn44
import Derived.Test.YtaocoplfdhcoaaaGreatDoorIn45
namespace Go.Proofs.YtaocoplfdhcoaaaGreatDoor
open Go
theorem facts_and {a b : Bool} (h : a = true) (h' : b = true) : (a && b) = true := by rw [h, h']; rfl
theorem facts_l {a b : Bool} (h : (a && b) = true) : a = true := by cases a <;> simp_all
theorem facts_r {a b : Bool} (h : (a && b) = true) : b = true := by cases a <;> simp_all
set_option maxRecDepth 100000 in
theorem inverses_closed : joinedFacts Tryz.pinned.checked.prog 4 Tryz.f4 Rows.checkerInversesSpec Rows.checkerInversesRow = true := by
  unfold joinedFacts
  exact (facts_and (facts_and (facts_and (facts_and (facts_and (facts_and (facts_and (facts_and (facts_and (facts_and (facts_and (facts_and (facts_and (facts_and (facts_and (facts_and (facts_and (facts_and (facts_and (facts_and (facts_and (facts_and (facts_and (facts_and (facts_and (facts_and (facts_and inverses_f0 (facts_l (facts_l (facts_l inverses_f1)))) (facts_r (facts_l (facts_l inverses_f1)))) (facts_r (facts_l inverses_f1))) (facts_r inverses_f1)) inverses_f2) inverses_f3) inverses_f4) inverses_f5) (facts_l (facts_l (facts_l (facts_l inverses_f6))))) (facts_r (facts_l (facts_l (facts_l inverses_f6))))) (facts_r (facts_l (facts_l inverses_f6)))) (facts_r (facts_l inverses_f6))) (facts_r inverses_f6)) (facts_l (facts_l (facts_l (facts_l (facts_l inverses_f7)))))) (facts_r (facts_l (facts_l (facts_l (facts_l inverses_f7)))))) (facts_r (facts_l (facts_l (facts_l inverses_f7))))) (facts_r (facts_l (facts_l inverses_f7)))) (facts_r (facts_l inverses_f7))) (facts_r inverses_f7)) (facts_l (facts_l (facts_l inverses_f8)))) (facts_r (facts_l (facts_l inverses_f8)))) (facts_r (facts_l inverses_f8))) (facts_r inverses_f8)) (facts_l (facts_l (facts_l inverses_f9)))) (facts_r (facts_l (facts_l inverses_f9)))) (facts_r (facts_l inverses_f9))) (facts_r inverses_f9))
theorem inverses_named : Tryz.pinned.checked.prog.funcNamed Rows.checkerInversesRow.func = some 4 := by kernel_rfl
theorem inverses_instance : Tryz.f4.isInstance Tryz.pinned.checked.prog Rows.checkerInversesRow.origin Rows.checkerInversesRow.targs := of_decide_eq_true (by kernel_rfl)
theorem inverses_wrapper : Tryz.f4.isWrapper Tryz.pinned.checked.prog Rows.checkerInversesRow.wrapper Rows.checkerInversesRow.mainSum := by
  unfold Func.isWrapper
  rw [if_neg (of_decide_eq_true (by kernel_rfl))]
  exact ⟨rfl, rfl⟩
theorem checkerInverses_holds : Rows.CheckerInversesSaid :=
  OpenClaim.holds_of_wide 4 Tryz.f4 rfl rfl rfl rfl rfl rfl rfl ⟨rfl, rfl, rfl, rfl, rfl⟩ rfl rfl rfl rfl rfl inverses_named Tryz.func4 inverses_closed inverses_instance inverses_wrapper
    (fun os started H enc _ => inversesLifted os started H enc)
end Go.Proofs.YtaocoplfdhcoaaaGreatDoor

/- CheckerMembers: the row: whatever the arguments are, the law returns true, and the arguments read as they did. Its condition: the laid variables read as the program lays them. -/
import Derived.Test.YtaocoplfdhcoaaaGreatDoorEvM2
import Derived.Test.YtaocoplfdhcoaaaGreatDoorEvN1
import Derived.Test.YtaocoplfdhcoaaaGreatDoorEvN2
import Derived.Test.YtaocoplfdhcoaaaGreatDoorEvN3
import Derived.Test.YtaocoplfdhcoaaaGreatDoorEvN4
namespace Go.Proofs.YtaocoplfdhcoaaaGreatDoor
open Go
theorem facts_and {a b : Bool} (h : a = true) (h' : b = true) : (a && b) = true := by rw [h, h']; rfl
theorem facts_l {a b : Bool} (h : (a && b) = true) : a = true := by cases a <;> simp_all
theorem facts_r {a b : Bool} (h : (a && b) = true) : b = true := by cases a <;> simp_all
set_option maxRecDepth 100000 in
theorem members_closed : joinedFacts Tryz.pinned.checked.prog 3 Tryz.f3 Rows.checkerMembersSpec Rows.checkerMembersRow = true := by
  unfold joinedFacts
  exact (facts_and (facts_and (facts_and (facts_and (facts_and (facts_and (facts_and (facts_and (facts_and (facts_and (facts_and (facts_and (facts_and (facts_and (facts_and (facts_and (facts_and (facts_and (facts_and (facts_and (facts_and (facts_and (facts_and (facts_and (facts_and (facts_and (facts_and members_f0 (facts_l (facts_l (facts_l members_f1)))) (facts_r (facts_l (facts_l members_f1)))) (facts_r (facts_l members_f1))) (facts_r members_f1)) members_f2) members_f3) members_f4) members_f5) (facts_l (facts_l (facts_l (facts_l members_f6))))) (facts_r (facts_l (facts_l (facts_l members_f6))))) (facts_r (facts_l (facts_l members_f6)))) (facts_r (facts_l members_f6))) (facts_r members_f6)) (facts_l (facts_l (facts_l (facts_l (facts_l members_f7)))))) (facts_r (facts_l (facts_l (facts_l (facts_l members_f7)))))) (facts_r (facts_l (facts_l (facts_l members_f7))))) (facts_r (facts_l (facts_l members_f7)))) (facts_r (facts_l members_f7))) (facts_r members_f7)) (facts_l (facts_l (facts_l members_f8)))) (facts_r (facts_l (facts_l members_f8)))) (facts_r (facts_l members_f8))) (facts_r members_f8)) (facts_l (facts_l (facts_l members_f9)))) (facts_r (facts_l (facts_l members_f9)))) (facts_r (facts_l members_f9))) (facts_r members_f9))
theorem members_named : Tryz.pinned.checked.prog.funcNamed Rows.checkerMembersRow.func = some 3 := by kernel_rfl
theorem members_instance : Tryz.f3.isInstance Tryz.pinned.checked.prog Rows.checkerMembersRow.origin Rows.checkerMembersRow.targs := of_decide_eq_true (by kernel_rfl)
theorem members_wrapper : Tryz.f3.isWrapper Tryz.pinned.checked.prog Rows.checkerMembersRow.wrapper Rows.checkerMembersRow.mainSum := by
  unfold Func.isWrapper
  rw [if_neg (of_decide_eq_true (by kernel_rfl))]
  exact ⟨rfl, rfl⟩
theorem checkerMembers_holds : Rows.CheckerMembersSaid :=
  OpenClaim.holds_of_wide 3 Tryz.f3 rfl rfl rfl rfl rfl rfl rfl ⟨rfl, rfl, rfl, rfl, rfl⟩ rfl rfl rfl rfl rfl members_named Tryz.func3 members_closed members_instance members_wrapper
    (fun os started H enc _ => membersLifted os started H enc)
end Go.Proofs.YtaocoplfdhcoaaaGreatDoor

/- CheckerMembers: closed facts of its row, by the kernel. No condition. -/
import Derived.Test.YtaocoplfdhcoaaaGreatDoorRows
import Derived.JoinedOf
import Derived.JoinedAt
import Derived.KernelRfl
namespace Go.Proofs.YtaocoplfdhcoaaaGreatDoor
open Go
theorem members_f2 : (((Rows.checkerMembersRow.inPlace == Tryz.pinned.checked.prog.inPlace 3))) = true := by kernel_rfl
theorem members_f3 : (((Rows.checkerMembersRow.unfollowed == Tryz.pinned.checked.prog.unfollowed 3))) = true := by kernel_rfl
end Go.Proofs.YtaocoplfdhcoaaaGreatDoor

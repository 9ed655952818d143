/- CheckerMembers: closed facts of its row, by the kernel. No condition. -/
import Derived.Test.YtaocoplfdhcoaaaGreatDoorRows
import Derived.JoinedOf
import Derived.JoinedAt
import Derived.KernelRfl
namespace Go.Proofs.YtaocoplfdhcoaaaGreatDoor
open Go
theorem members_f4 : (((Rows.checkerMembersRow.recurses == Tryz.pinned.checked.prog.recurses 3))) = true := by kernel_rfl
theorem members_f5 : (((Rows.checkerMembersRow.named == Tryz.pinned.checked.prog.varsNamed 3))) = true := by kernel_rfl
end Go.Proofs.YtaocoplfdhcoaaaGreatDoor

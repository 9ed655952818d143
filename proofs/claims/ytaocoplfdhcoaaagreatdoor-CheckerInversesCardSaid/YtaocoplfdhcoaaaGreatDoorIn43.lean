/- CheckerInverses: closed facts of its row, by the kernel. No condition. -/
import Derived.Test.YtaocoplfdhcoaaaGreatDoorRows
import Derived.JoinedOf
import Derived.JoinedAt
import Derived.KernelRfl
namespace Go.Proofs.YtaocoplfdhcoaaaGreatDoor
open Go
theorem inverses_f2 : (((Rows.checkerInversesRow.inPlace == Tryz.pinned.checked.prog.inPlace 4))) = true := by kernel_rfl
theorem inverses_f3 : (((Rows.checkerInversesRow.unfollowed == Tryz.pinned.checked.prog.unfollowed 4))) = true := by kernel_rfl
end Go.Proofs.YtaocoplfdhcoaaaGreatDoor

/- CheckerInverses: closed facts of its row, by the kernel. No condition. -/
import Derived.Test.YtaocoplfdhcoaaaGreatDoorRows
import Derived.JoinedOf
import Derived.JoinedAt
import Derived.KernelRfl
namespace Go.Proofs.YtaocoplfdhcoaaaGreatDoor
open Go
theorem inverses_f4 : (((Rows.checkerInversesRow.recurses == Tryz.pinned.checked.prog.recurses 4))) = true := by kernel_rfl
theorem inverses_f5 : (((Rows.checkerInversesRow.named == Tryz.pinned.checked.prog.varsNamed 4))) = true := by kernel_rfl
end Go.Proofs.YtaocoplfdhcoaaaGreatDoor

/- CheckerInverses: closed facts of its row, by the kernel. No condition. -/
import Derived.Test.YtaocoplfdhcoaaaGreatDoorRows
import Derived.JoinedOf
import Derived.JoinedAt
import Derived.KernelRfl
namespace Go.Proofs.YtaocoplfdhcoaaaGreatDoor
open Go
theorem inverses_f7 : ((Rows.checkerInversesSpec.vars.all (Tryz.pinned.checked.prog.varReadable ·)) && (Tryz.f4.resultTypes.all (fun t => Tryz.pinned.checked.prog.readableRec t && decide (t < Tryz.pinned.checked.prog.types.size))) && ((Rows.checkerInversesRow.ifacesOut == Tryz.f4.resultTypes.toList.any (Tryz.pinned.checked.prog.ifacesRec ·))) && ((Rows.checkerInversesRow.loopsOut == Tryz.f4.resultTypes.toList.any (Tryz.pinned.checked.prog.loopsFrom ·))) && ((Rows.checkerInversesRow.plainKeys == Tryz.pinned.checked.prog.plainKeys)) && (Rows.checkerInversesRow.shortTexts.isNone)) = true := by kernel_rfl
theorem inverses_f8 : ((Tryz.pinned.checked.prog.stopsHeard) && (Tryz.pinned.checked.prog.mayEnter) && ((Rows.checkerInversesRow.lifted == Tryz.pinned.checked.prog.liftsFinal)) && ((Tryz.pinned.checked.prog.make == some Rows.checkerInversesRow.make))) = true := by kernel_rfl
end Go.Proofs.YtaocoplfdhcoaaaGreatDoor

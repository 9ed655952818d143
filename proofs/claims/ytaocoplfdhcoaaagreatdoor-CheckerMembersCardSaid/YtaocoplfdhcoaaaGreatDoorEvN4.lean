/- CheckerMembers: closed facts of its row, by the kernel. No condition. -/
import Derived.Test.YtaocoplfdhcoaaaGreatDoorRows
import Derived.JoinedOf
import Derived.JoinedAt
import Derived.KernelRfl
namespace Go.Proofs.YtaocoplfdhcoaaaGreatDoor
open Go
theorem members_f7 : ((Rows.checkerMembersSpec.vars.all (Tryz.pinned.checked.prog.varReadable ·)) && (Tryz.f3.resultTypes.all (fun t => Tryz.pinned.checked.prog.readableRec t && decide (t < Tryz.pinned.checked.prog.types.size))) && ((Rows.checkerMembersRow.ifacesOut == Tryz.f3.resultTypes.toList.any (Tryz.pinned.checked.prog.ifacesRec ·))) && ((Rows.checkerMembersRow.loopsOut == Tryz.f3.resultTypes.toList.any (Tryz.pinned.checked.prog.loopsFrom ·))) && ((Rows.checkerMembersRow.plainKeys == Tryz.pinned.checked.prog.plainKeys)) && (Rows.checkerMembersRow.shortTexts.isNone)) = true := by kernel_rfl
theorem members_f8 : ((Tryz.pinned.checked.prog.stopsHeard) && (Tryz.pinned.checked.prog.mayEnter) && ((Rows.checkerMembersRow.lifted == Tryz.pinned.checked.prog.liftsFinal)) && ((Tryz.pinned.checked.prog.make == some Rows.checkerMembersRow.make))) = true := by kernel_rfl
end Go.Proofs.YtaocoplfdhcoaaaGreatDoor

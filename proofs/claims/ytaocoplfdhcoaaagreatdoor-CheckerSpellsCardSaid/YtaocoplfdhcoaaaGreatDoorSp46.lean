/- CheckerSpells: closed facts of its row, by the kernel. No condition. -/
import Derived.Test.YtaocoplfdhcoaaaGreatDoorRows
import Derived.JoinedOf
import Derived.JoinedAt
import Derived.KernelRfl
namespace Go.Proofs.YtaocoplfdhcoaaaGreatDoor
open Go
theorem spells_f7 : ((Rows.checkerSpellsSpec.vars.all (Tryz.pinned.checked.prog.varReadable ·)) && (Tryz.f5.resultTypes.all (fun t => Tryz.pinned.checked.prog.readableRec t && decide (t < Tryz.pinned.checked.prog.types.size))) && ((Rows.checkerSpellsRow.ifacesOut == Tryz.f5.resultTypes.toList.any (Tryz.pinned.checked.prog.ifacesRec ·))) && ((Rows.checkerSpellsRow.loopsOut == Tryz.f5.resultTypes.toList.any (Tryz.pinned.checked.prog.loopsFrom ·))) && ((Rows.checkerSpellsRow.plainKeys == Tryz.pinned.checked.prog.plainKeys)) && (Rows.checkerSpellsRow.shortTexts.isNone)) = true := by kernel_rfl
theorem spells_f8 : ((Tryz.pinned.checked.prog.stopsHeard) && (Tryz.pinned.checked.prog.mayEnter) && ((Rows.checkerSpellsRow.lifted == Tryz.pinned.checked.prog.liftsFinal)) && ((Tryz.pinned.checked.prog.make == some Rows.checkerSpellsRow.make))) = true := by kernel_rfl
end Go.Proofs.YtaocoplfdhcoaaaGreatDoor

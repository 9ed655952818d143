/- CheckerSpells: closed facts of its row, by the kernel. No condition. -/
import Derived.Test.YtaocoplfdhcoaaaGreatDoorRows
import Derived.JoinedOf
import Derived.JoinedAt
import Derived.KernelRfl
namespace Go.Proofs.YtaocoplfdhcoaaaGreatDoor
open Go
theorem spells_f4 : (((Rows.checkerSpellsRow.recurses == Tryz.pinned.checked.prog.recurses 5))) = true := by kernel_rfl
theorem spells_f5 : (((Rows.checkerSpellsRow.named == Tryz.pinned.checked.prog.varsNamed 5))) = true := by kernel_rfl
end Go.Proofs.YtaocoplfdhcoaaaGreatDoor

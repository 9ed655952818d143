/- CheckerSpells: closed facts of its row, by the kernel. No condition. -/
import Derived.Test.YtaocoplfdhcoaaaGreatDoorRows
import Derived.JoinedOf
import Derived.JoinedAt
import Derived.KernelRfl
namespace Go.Proofs.YtaocoplfdhcoaaaGreatDoor
open Go
theorem spells_f2 : (((Rows.checkerSpellsRow.inPlace == Tryz.pinned.checked.prog.inPlace 5))) = true := by kernel_rfl
theorem spells_f3 : (((Rows.checkerSpellsRow.unfollowed == Tryz.pinned.checked.prog.unfollowed 5))) = true := by kernel_rfl
end Go.Proofs.YtaocoplfdhcoaaaGreatDoor

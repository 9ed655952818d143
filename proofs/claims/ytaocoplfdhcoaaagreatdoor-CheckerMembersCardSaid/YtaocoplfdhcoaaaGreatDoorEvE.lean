/- The evaluator at this program. -/
import Derived.Test.YtaocoplfdhcoaaaGreatDoorEvE0
import Derived.Lib.Repeat
set_option linter.unusedVariables false
namespace Go.Proofs.YtaocoplfdhcoaaaGreatDoor.Ev
open Go Go.RowKit
def rep : List AV → Option AV
  | [.str l, .int .i64 (.ofNat c)] => bif Nat.ble c 1000000 && Nat.ble (l.length * c) 1000000 then some (.str (Lib.repeatL l c)) else none
  | _ => none
end Go.Proofs.YtaocoplfdhcoaaaGreatDoor.Ev
namespace Go.Proofs.YtaocoplfdhcoaaaGreatDoor.EvA
open Go Go.RowKit Go.Proofs.YtaocoplfdhcoaaaGreatDoor.Ev
/-- The worked examples are right. -/
def tru : List AV → Option AV
  | [] => some (.bool true)
  | _ => none
noncomputable def E : Env := ⟨tt, fns, T.ofList [(15, tru), (132, itoa), (133, rep), (135, atoi)]⟩
end Go.Proofs.YtaocoplfdhcoaaaGreatDoor.EvA

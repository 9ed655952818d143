/- The evaluator at this program, for the worked examples. -/
import Derived.Test.YtaocoplfdhcoaaaGreatDoorSp10
import Derived.Test.YtaocoplfdhcoaaaGreatDoorSp11
import Derived.Lib.Repeat
set_option linter.unusedVariables false
namespace Go.Proofs.YtaocoplfdhcoaaaGreatDoor.EvA
open Go Go.RowKit Go.Proofs.YtaocoplfdhcoaaaGreatDoor.Ev
noncomputable def E0 : Env := ⟨tt, fns, T.ofList [(132, itoa), (135, atoi)]⟩
def okB : Option (AV × St) → Bool
  | some (.bool true, _) => true
  | _ => false
theorem ext_ok0 (W : World) (hW : Tab W) : ExtSound Tryz.prog W.heap.size W E0 := fun g f h => by
  have := T.get_ofList h
  simp only [List.mem_cons, Prod.mk.injEq, List.not_mem_nil, or_false] at this
  rcases this with ⟨rfl, rfl⟩ | ⟨rfl, rfl⟩
  · exact ⟨plain132, fun vs v hv S μ w hb hs hw => itoa_ok rfl hW vs v hv S μ w hb hs hw⟩
  · exact ⟨plain135, fun vs v hv S μ w hb hs hw => atoi_ok vs v hv S μ w hw⟩
end Go.Proofs.YtaocoplfdhcoaaaGreatDoor.EvA
set_option linter.unusedVariables false
namespace Go.Proofs.YtaocoplfdhcoaaaGreatDoor.Ev
open Go Go.RowKit
def rep : List AV → Option AV
  | [.str l, .int .i64 (.ofNat c)] => bif Nat.ble c 1000000 && Nat.ble (l.length * c) 1000000 then some (.str (Lib.repeatL l c)) else none
  | _ => none
end Go.Proofs.YtaocoplfdhcoaaaGreatDoor.Ev
namespace Go.Proofs.YtaocoplfdhcoaaaGreatDoor.EvA
open Go Go.RowKit Go.Proofs.YtaocoplfdhcoaaaGreatDoor.Ev
/-- The worked examples are right. -/
def tru : List AV → Option AV
  | [] => some (.bool true)
  | _ => none
noncomputable def E : Env := ⟨tt, fns, T.ofList [(15, tru), (132, itoa), (133, rep), (135, atoi)]⟩
end Go.Proofs.YtaocoplfdhcoaaaGreatDoor.EvA

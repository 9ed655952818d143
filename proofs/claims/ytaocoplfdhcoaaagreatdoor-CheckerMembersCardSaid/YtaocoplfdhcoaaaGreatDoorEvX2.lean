/- strings.Repeat, by the shelf's contract. -/
import Derived.Test.YtaocoplfdhcoaaaGreatDoorEvE
import Derived.Test.YtaocoplfdhcoaaaGreatDoorEvSh
import Derived.Test.YtaocoplfdhcoaaaGreatDoorEvK
set_option linter.unusedVariables false
set_option linter.unusedSimpArgs false
namespace Go.Proofs.YtaocoplfdhcoaaaGreatDoor.Ev
open Go Go.RowKit
theorem plain133 : Plain Tryz.prog 133 := ⟨Tryz.f133, _, Tryz.func133, rfl, by kernel_rfl⟩
theorem rep_ok (vs : List AV) (v : AV) (h : rep vs = some v) (S : Nat → Prop) (μ : Nat → Loc) (w : World) (hw : wfs S μ vs) :
    wf S μ v ∧ Calls Tryz.prog 133 (concs μ vs).toArray w fun e w' => e = .returned (conc μ v) ∧ Below w.heap.size w w' := by
  unfold rep at h
  split at h
  · rename_i l c
    cases hb : Nat.ble c 1000000 && Nat.ble (l.length * c) 1000000 with
    | false => rw [hb] at h; cases h
    | true =>
      rw [hb] at h
      simp only [Bool.and_eq_true, ble_iff] at hb
      simp only [cond_true, Option.some.injEq] at h
      subst h
      refine ⟨trivial, ?_⟩
      refine (Tryz.strings_Repeat ⟨l.toArray⟩ c w (by omega) (by have : (⟨l.toArray⟩ : ByteArray).size = l.length := by (show l.toArray.size = _; simp)
                                                                 rw [this]; omega)).mono fun e w' he => ?_
      obtain ⟨rfl, hb'⟩ := he
      exact ⟨by simp [conc], hb'⟩
  · cases h
end Go.Proofs.YtaocoplfdhcoaaaGreatDoor.Ev
/- What the evaluator tells of this program is so. -/
set_option linter.unusedVariables false
namespace Go.Proofs.YtaocoplfdhcoaaaGreatDoor.EvA
open Go Go.RowKit Go.Proofs.YtaocoplfdhcoaaaGreatDoor.Ev
theorem plain15 : Plain Tryz.prog 15 := ⟨Tryz.f15, _, Tryz.func15, rfl, by kernel_rfl⟩
theorem ext_ok (W : World) (hW : Tab W) : ExtSound Tryz.prog W.heap.size W E := fun g f h => by
  have := T.get_ofList h
  simp only [List.mem_cons, Prod.mk.injEq, List.not_mem_nil, or_false] at this
  rcases this with ⟨rfl, rfl⟩ | ⟨rfl, rfl⟩ | ⟨rfl, rfl⟩ | ⟨rfl, rfl⟩
  · refine ⟨plain15, fun vs v hv S μ w hb hs hw => ?_⟩
    unfold tru at hv
    split at hv
    · cases hv
      exact ⟨trivial, known w (hW.below hb)⟩
    · cases hv
  · exact ⟨plain132, fun vs v hv S μ w hb hs hw => itoa_ok rfl hW vs v hv S μ w hb hs hw⟩
  · exact ⟨plain133, fun vs v hv S μ w hb hs hw => rep_ok vs v hv S μ w hw⟩
  · exact ⟨plain135, fun vs v hv S μ w hb hs hw => atoi_ok vs v hv S μ w hw⟩
theorem sound (W : World) (hW : Tab W) (n : Nat) : CallSound Tryz.prog W.heap.size W (funE E n) := fun_ok rfl tt_ok (ext_ok W hW) (fns_ok _) n
end Go.Proofs.YtaocoplfdhcoaaaGreatDoor.EvA

/- The worked examples of layer 55 (known), run. -/
import Derived.Test.YtaocoplfdhcoaaaGreatDoorSp12
set_option linter.unusedVariables false
namespace Go.Proofs.YtaocoplfdhcoaaaGreatDoor.EvA
open Go Go.RowKit Go.Proofs.YtaocoplfdhcoaaaGreatDoor.Ev
theorem ran15 : okB (funF E0 400 0 15 [] ⟨.e, 0⟩) = true := by kernel_rfl
theorem ran15' : ∃ s', funE E0 400 0 15 [] ⟨.e, 0⟩ = some (.bool true, s') := by
  have h := ran15
  rw [funF_eq] at h
  cases hr : funE E0 400 0 15 [] ⟨.e, 0⟩ with
  | none => rw [hr] at h; cases h
  | some r =>
    obtain ⟨v, s'⟩ := r
    rw [hr] at h
    unfold okB at h
    split at h
    · rename_i q; cases q; exact ⟨_, rfl⟩
    · cases h
theorem known (W : World) (hW : Tab W) : Calls Tryz.prog 15 #[] W fun e w' => e = .returned (.bool true) ∧ Below W.heap.size W w' := by
  obtain ⟨s', hr⟩ := ran15'
  refine (run_ok rfl tt_ok W (ext_ok0 W hW) (fns_ok _) hr).mono fun e w' he => ?_
  obtain ⟨u, μ, rfl, rfl, hb⟩ := he
  exact ⟨rfl, hb⟩
end Go.Proofs.YtaocoplfdhcoaaaGreatDoor.EvA

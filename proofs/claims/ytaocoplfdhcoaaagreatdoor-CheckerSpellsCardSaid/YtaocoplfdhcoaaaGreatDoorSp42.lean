/- CheckerSpells: the row, lifted: whatever the arguments are, the law returns true, and the arguments read as they did. Its condition: the laid variables read as the program's text lays them. -/
import Derived.Test.YtaocoplfdhcoaaaGreatDoorSp21
import Derived.Test.YtaocoplfdhcoaaaGreatDoorSp41
namespace Go.Proofs.YtaocoplfdhcoaaaGreatDoor
open Go Go.ChangeShapes Go.WideShapes Go.ChangeAt Go.RowKit
set_option maxRecDepth 100000 in
theorem spellsLifted (os : Os) (started : os.Started) (H : Type) (enc : TypeId × Value → H) :
    ReturnsInHanded {} Tryz.checked os 5 .any (fun w args => (Rows.checkerSpellsSpec.pre enc Tryz.prog Tryz.f5 [] false w args ∧ laidMetH Tryz.prog laid5 w) ∧ sizedMet enc Tryz.prog Tryz.f5 (OpenSpec.ofChange Rows.checkerSpellsSpec) false w args)
      (Rows.checkerSpellsSpec.post enc Tryz.prog Tryz.f5 false true false false) := by
  refine returnsInHanded_of_change_and (C := Tryz.checked) (X := fun w _ => laidMetH Tryz.prog laid5 w) (fun _ _ _ hh h => h.of_heap hh) own started (by kernel_rfl) Tryz.func5
    (ChangeSpec.witness_shaped (enc := enc) (C := Tryz.checked) (os := os) (X := fun w _ => laidMetH Tryz.prog laid5 w) false (World.doorLaid Tryz.prog 62 os) #[.agg #[.slice none 0 0, .slice none 0 0], .agg #[.int .i64 0, .slice none 0 0], .slice none 0 0] 8 rfl (World.shaped_of_RefB (by kernel_rfl) (by kernel_rfl)) (by kernel_rfl) (by kernel_rfl) (by kernel_rfl) (door_met os _)) ?_
  intro W base args ds gs before hval0 hW _ _ hL _
  have hval : ∀ (j : Nat) t v, Tryz.f5.params[j]? = some t → args[j]? = some v → Value.okWide Tryz.prog W .any base t v := hval0
  have hW' := hW
  obtain ⟨p, q, hA0, hV, rfl, hfz, hnd⟩ := hW
  have hA : DataW.TrodAll enc Tryz.prog W 0 (fun _ => true) true Tryz.f5.params.toList args.toList ds p := hA0
  have hp3 : Tryz.f5.params = #[42, 44, 25] := by kernel_rfl
  rw [hp3] at hA hval
  obtain ⟨v0, v1, v2, d0, d1, d2, p0, p1, p2, rfl, rfl, rfl, h0, h1, h2⟩ := trodAll_three hA
  obtain ⟨rfl, rfl⟩ := trodVars_none hV
  obtain ⟨c0, e0, _⟩ := okWide_struct Tryz.underlying42 (hval 0 42 v0 rfl rfl)
  obtain ⟨c1, e1, _⟩ := okWide_struct Tryz.underlying44 (hval 1 44 v1 rfl rfl)
  obtain ⟨a2, l2, c2, e2⟩ := okWide_slice Tryz.underlying25 (hval 2 25 v2 rfl rfl)
  have hT := tab_of hL
  clear hA0 hval0
  simp only [List.append_nil] at hW'
  obtain ⟨f0, k0⟩ := h0
  obtain ⟨f1, k1⟩ := h1
  obtain ⟨f2, k2⟩ := h2
  refine (EvA.spells_calls hT e0 e1 e2 k0 k1 k2).mono fun e W' he => ?_
  obtain ⟨rfl, hb⟩ := he
  have hlt : ∀ x ∈ p0 ++ p1 ++ p2, x.block < W.heap.size := fun x hx => by simpa using hW'.lt x hx
  refine ⟨_, rfl, _, _, _, [], p0 ++ (p1 ++ p2), [], hW', ?_, ?_, rfl, hb.frame _, fun h => by cases h⟩
  · exact trodAll_mk1 (shut_bool Tryz.underlying4 _)
  · exact trodAll_mk3 (Below.trod laidOut (by kernel_rfl) (of_decide_eq_true (by kernel_rfl)) ⟨f0, k0⟩ hb fun x hx => hlt x (by simp [hx])) (Below.trod laidOut (by kernel_rfl) (of_decide_eq_true (by kernel_rfl)) ⟨f1, k1⟩ hb fun x hx => hlt x (by simp [hx])) (Below.trod laidOut (by kernel_rfl) (of_decide_eq_true (by kernel_rfl)) ⟨f2, k2⟩ hb fun x hx => hlt x (by simp [hx]))
end Go.Proofs.YtaocoplfdhcoaaaGreatDoor

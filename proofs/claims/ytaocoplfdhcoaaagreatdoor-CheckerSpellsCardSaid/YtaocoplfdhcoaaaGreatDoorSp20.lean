/- Contracts of the library: all in EvSh. No condition. -/
import Derived.Test.YtaocoplfdhcoaaaGreatDoorSp10
import Derived.Test.YtaocoplfdhcoaaaGreatDoorSp12
import Derived.Test.YtaocoplfdhcoaaaGreatDoorSp19
import Derived.Test.YtaocoplfdhcoaaaGreatDoorSp18

set_option linter.unusedVariables false
set_option linter.unusedSimpArgs false
namespace Go.Proofs.YtaocoplfdhcoaaaGreatDoor.Ev
open Go Go.RowKit
theorem plain133 : Plain Tryz.prog 133 := ⟨Tryz.f133, _, Tryz.func133, rfl, by kernel_rfl⟩
theorem rep_ok (vs : List AV) (v : AV) (h : rep vs = some v) (S : Nat → Prop) (μ : Nat → Loc) (w : World) (hw : wfs S μ vs) :
    wf S μ v ∧ Calls Tryz.prog 133 (concs μ vs).toArray w fun e w' => e = .returned (conc μ v) ∧ Below w.heap.size w w' := by
  unfold rep at h
  split at h
  · rename_i l c
    cases hb : Nat.ble c 1000000 && Nat.ble (l.length * c) 1000000 with
    | false => rw [hb] at h; cases h
    | true =>
      rw [hb] at h
      simp only [Bool.and_eq_true, ble_iff] at hb
      simp only [cond_true, Option.some.injEq] at h
      subst h
      refine ⟨trivial, ?_⟩
      refine (Tryz.strings_Repeat ⟨l.toArray⟩ c w (by omega) (by have : (⟨l.toArray⟩ : ByteArray).size = l.length := by (show l.toArray.size = _; simp)
                                                                 rw [this]; omega)).mono fun e w' he => ?_
      obtain ⟨rfl, hb'⟩ := he
      exact ⟨by simp [conc], hb'⟩
  · cases h
end Go.Proofs.YtaocoplfdhcoaaaGreatDoor.Ev
set_option linter.unusedVariables false
namespace Go.Proofs.YtaocoplfdhcoaaaGreatDoor.EvA
open Go Go.RowKit Go.Proofs.YtaocoplfdhcoaaaGreatDoor.Ev
theorem plain15 : Plain Tryz.prog 15 := ⟨Tryz.f15, _, Tryz.func15, rfl, by kernel_rfl⟩
theorem ext_ok (W : World) (hW : Tab W) : ExtSound Tryz.prog W.heap.size W E := fun g f h => by
  have := T.get_ofList h
  simp only [List.mem_cons, Prod.mk.injEq, List.not_mem_nil, or_false] at this
  rcases this with ⟨rfl, rfl⟩ | ⟨rfl, rfl⟩ | ⟨rfl, rfl⟩ | ⟨rfl, rfl⟩
  · refine ⟨plain15, fun vs v hv S μ w hb hs hw => ?_⟩
    unfold tru at hv
    split at hv
    · cases hv
      exact ⟨trivial, known w (hW.below hb)⟩
    · cases hv
  · exact ⟨plain132, fun vs v hv S μ w hb hs hw => itoa_ok rfl hW vs v hv S μ w hb hs hw⟩
  · exact ⟨plain133, fun vs v hv S μ w hb hs hw => rep_ok vs v hv S μ w hw⟩
  · exact ⟨plain135, fun vs v hv S μ w hb hs hw => atoi_ok vs v hv S μ w hw⟩
theorem sound (W : World) (hW : Tab W) (n : Nat) : CallSound Tryz.prog W.heap.size W (funE E n) := fun_ok rfl tt_ok (ext_ok W hW) (fns_ok _) n
end Go.Proofs.YtaocoplfdhcoaaaGreatDoor.EvA
set_option linter.unusedVariables false
set_option linter.unusedSimpArgs false
namespace Go.Proofs.YtaocoplfdhcoaaaGreatDoor.EvA
open Go Go.RowKit Go.Proofs.YtaocoplfdhcoaaaGreatDoor.Ev
def IntR : T Blk → Int → List AV → Prop := fun _ z vs => vs = [.int .i64 z] ∧ (Lit.int .i64 z).wf = true
theorem stays_int : Stays IntR := fun s s' a vs h _ _ => h
theorem sl_row {h : T Blk} {r : List Int} {vs : List AV} (hs : SL 1 IntR h r vs) : ∃ v, vs = [v] ∧ RZ h r v := by
  obtain ⟨v, cs, rfl, h1, h2, h3⟩ := hs
  refine ⟨v, rfl, ?_⟩
  have : cs = zints r := by
    apply List.ext_getElem?
    intro i
    rcases Nat.lt_or_ge i r.length with hi | hi
    · obtain ⟨e1, _⟩ := h3 i r[i] (List.getElem?_eq_getElem hi)
      rw [Nat.mul_one] at e1
      have e2 : cs[i]? = some (.int .i64 r[i]) := by
        have := congrArg (fun l => l[0]?) e1
        simp only [List.getElem?_take, List.getElem?_drop] at this
        simpa using this
      rw [e2]
      simp [zints, List.getElem?_eq_getElem hi]
    · rw [List.getElem?_eq_none (by omega), List.getElem?_eq_none (by rw [zints_length]; omega)]
  rw [this] at h1
  exact h1
theorem sl_mat {h : T Blk} {m : List (List Int)} {vs : List AV} (hs : SL 1 (SL 1 IntR) h m vs) : ∃ v, vs = [v] ∧ MZ h m v := by
  obtain ⟨v, cs, rfl, h1, h2, h3⟩ := hs
  refine ⟨v, rfl, cs, h1, by omega, fun i r c hi hc => ?_⟩
  obtain ⟨w, e1, e2⟩ := sl_row (h3 i r hi)
  rw [Nat.mul_one] at e1
  have : c = w := by
    have := congrArg (fun l => l[0]?) e1
    simp only [List.getElem?_take, List.getElem?_drop] at this
    simp at this
    rw [hc] at this
    exact Option.some.inj this
  rw [this]
  exact e2
/-- What a run of the law on laid arguments tells, held of the model. -/
theorem calls_of {W : World} (hW : Tab W) {f : Nat} {μ : Nat → Ev.Loc} {s : St} {vs : List AV} {args : Array Value} (hL : Laid W.heap.size W μ s) (hw : wfs (fun b => b < s.c) μ vs) (ha : (concs μ vs).toArray = args) (hr : FunR E s.c f vs s fun v _ => v = .bool true) :
    Calls Tryz.prog f args W fun e w' => e = .returned (.bool true) ∧ Below W.heap.size W w' := by
  obtain ⟨n, v, s4, hrun, rfl⟩ := hr.out
  have := ((sound W hW n) s.c f vs s (.bool true) s4 hrun).2 s.c (fun b => b < s.c) μ W (Below.refl _ _) (Nat.le_refl _) (Nat.le_refl _) hL.sim hw (fun b hb => .inl hb)
  rw [ha] at this
  refine this.mono fun e w' he => ?_
  obtain ⟨u, rfl, μ', _, _, _, rfl, hb⟩ := he
  exact ⟨rfl, hb⟩
end Go.Proofs.YtaocoplfdhcoaaaGreatDoor.EvA

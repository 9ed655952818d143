/- The law CheckerMembers returns true, whatever its arguments are: what the evaluator's run tells, held of the model. No condition but the laid table of powers. -/
import Derived.Test.YtaocoplfdhcoaaaGreatDoorEvO
import Derived.Test.YtaocoplfdhcoaaaGreatDoorEvX2
import Derived.Test.YtaocoplfdhcoaaaGreatDoorEvC3
set_option linter.unusedVariables false
set_option linter.unusedSimpArgs false
namespace Go.Proofs.YtaocoplfdhcoaaaGreatDoor.EvA
open Go Go.RowKit Go.Proofs.YtaocoplfdhcoaaaGreatDoor.Ev
def IntR : T Blk → Int → List AV → Prop := fun _ z vs => vs = [.int .i64 z] ∧ (Lit.int .i64 z).wf = true
theorem stays_int : Stays IntR := fun s s' a vs h _ _ => h
theorem sl_row {h : T Blk} {r : List Int} {vs : List AV} (hs : SL 1 IntR h r vs) : ∃ v, vs = [v] ∧ RZ h r v := by
  obtain ⟨v, cs, rfl, h1, h2, h3⟩ := hs
  refine ⟨v, rfl, ?_⟩
  have : cs = zints r := by
    apply List.ext_getElem?
    intro i
    rcases Nat.lt_or_ge i r.length with hi | hi
    · obtain ⟨e1, _⟩ := h3 i r[i] (List.getElem?_eq_getElem hi)
      rw [Nat.mul_one] at e1
      have e2 : cs[i]? = some (.int .i64 r[i]) := by
        have := congrArg (fun l => l[0]?) e1
        simp only [List.getElem?_take, List.getElem?_drop] at this
        simpa using this
      rw [e2]
      simp [zints, List.getElem?_eq_getElem hi]
    · rw [List.getElem?_eq_none (by omega), List.getElem?_eq_none (by rw [zints_length]; omega)]
  rw [this] at h1
  exact h1
theorem sl_mat {h : T Blk} {m : List (List Int)} {vs : List AV} (hs : SL 1 (SL 1 IntR) h m vs) : ∃ v, vs = [v] ∧ MZ h m v := by
  obtain ⟨v, cs, rfl, h1, h2, h3⟩ := hs
  refine ⟨v, rfl, cs, h1, by omega, fun i r c hi hc => ?_⟩
  obtain ⟨w, e1, e2⟩ := sl_row (h3 i r hi)
  rw [Nat.mul_one] at e1
  have : c = w := by
    have := congrArg (fun l => l[0]?) e1
    simp only [List.getElem?_take, List.getElem?_drop] at this
    simp at this
    rw [hc] at this
    exact Option.some.inj this
  rw [this]
  exact e2
theorem members_calls {H : Type} {enc : TypeId × Value → H} {W : World} (hW : Tab W) {held : Bool} {f0 f1 f2 : Nat} {v0 v1 v2 : Value} {x0 x1 x2 : DataW H × List MemPlace} {a0 a1 a2 : Option Addr} {l0 c0 l1 c1 l2 c2 : Nat}
    (e0 : v0 = .slice a0 l0 c0) (e1 : v1 = .slice a1 l1 c1) (e2 : v2 = .slice a2 l2 c2)
    (h0 : DataW.trod enc Tryz.prog W 0 (fun _ => true) held f0 23 v0.cells.toList = some x0) (h1 : DataW.trod enc Tryz.prog W 0 (fun _ => true) held f1 25 v1.cells.toList = some x1) (h2 : DataW.trod enc Tryz.prog W 0 (fun _ => true) held f2 25 v2.cells.toList = some x2) :
    Calls Tryz.prog 3 #[v0, v1, v2] W fun e w' => e = .returned (.bool true) ∧ Below W.heap.size W w' := by
  subst e0 e1 e2
  have oI : Opn W.heap.size W 3 IntR := opn_int Tryz.underlying3
  have oR : Opn W.heap.size W 25 (SL 1 IntR) := opn_slice Tryz.underlying25 (by kernel_rfl) (by decide) oI stays_int
  have sR := stays_slice (z := 1) stays_int
  have oM : Opn W.heap.size W 23 (SL 1 (SL 1 IntR)) := opn_slice Tryz.underlying23 (by kernel_rfl) (by decide) oR sR
  have sM := stays_slice (z := 1) sR
  obtain ⟨s1, μ1, vs1, m, L1, K1, A1, w1, q1, r1⟩ := oM H enc held f0 _ x0 _ _ h0 (laid_nil (Nat.le_refl _))
  obtain ⟨s2, μ2, vs2, k, L2, K2, A2, w2, q2, r2⟩ := oR H enc held f1 _ x1 _ _ h1 L1
  obtain ⟨s3, μ3, vs3, x, L3, K3, A3, w3, q3, r3⟩ := oR H enc held f2 _ x2 _ _ h2 L2
  have m2 := K2.mono
  have m3 := K3.mono
  have r1' := sM _ _ _ _ (sM _ _ _ _ r1 L1.fresh K2) L2.fresh K3
  have r2' := sR _ _ _ _ r2 L2.fresh K3
  obtain ⟨vm, rfl, hm⟩ := sl_mat r1'
  obtain ⟨vk, rfl, hk⟩ := sl_row r2'
  obtain ⟨vx, rfl, hx⟩ := sl_row r3
  obtain ⟨n, v, s4, hrun, rfl⟩ := (members_run (lo := s3.c) hm hk hx L3.fresh (Nat.le_refl _)).out
  have A13 : Agree (fun b => b < s1.c) μ1 μ3 := agree_trans A2 A3 m2
  have wm : wf (fun b => b < s3.c) μ3 vm := (wfs_agree A13 (S' := fun b => b < s3.c) (fun b hb => Nat.lt_of_lt_of_le hb (Nat.le_trans m2 m3)) _ w1).1
  have wk : wf (fun b => b < s3.c) μ3 vk := (wfs_agree A3 (S' := fun b => b < s3.c) (fun b hb => Nat.lt_of_lt_of_le hb m3) _ w2).1
  have cm : conc μ3 vm = .slice a0 l0 c0 := by
    rw [conc_agree A13 vm w1.1]
    have : [conc μ1 vm] = [Value.slice a0 l0 c0] := q1
    exact (List.cons.inj this).1
  have ck : conc μ3 vk = .slice a1 l1 c1 := by
    rw [conc_agree A3 vk w2.1]
    have : [conc μ2 vk] = [Value.slice a1 l1 c1] := q2
    exact (List.cons.inj this).1
  have cx : conc μ3 vx = .slice a2 l2 c2 := by
    have : [conc μ3 vx] = [Value.slice a2 l2 c2] := q3
    exact (List.cons.inj this).1
  have := ((sound W hW n) s3.c 3 [vm, vk, vx] s3 (.bool true) s4 hrun).2 s3.c (fun b => b < s3.c) μ3 W (Below.refl _ _) (Nat.le_refl _) (Nat.le_refl _) L3.sim ⟨wm, wk, w3.1, trivial⟩ (fun b hb => .inl hb)
  have hargs : (concs μ3 [vm, vk, vx]).toArray = #[.slice a0 l0 c0, .slice a1 l1 c1, .slice a2 l2 c2] := by
    simp only [concs, cm, ck, cx]
  rw [hargs] at this
  refine this.mono fun e w' he => ?_
  obtain ⟨u, rfl, μ', _, _, _, rfl, hb⟩ := he
  exact ⟨rfl, hb⟩
end Go.Proofs.YtaocoplfdhcoaaaGreatDoor.EvA

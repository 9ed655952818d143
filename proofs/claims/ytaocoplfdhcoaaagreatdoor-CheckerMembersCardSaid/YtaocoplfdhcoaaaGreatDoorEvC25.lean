/- checker.Member, run. -/
import Derived.Test.YtaocoplfdhcoaaaGreatDoorEvC105
set_option linter.unusedVariables false
set_option linter.unusedSimpArgs false
set_option maxRecDepth 20000
set_option maxHeartbeats 2000000
namespace Go.Proofs.YtaocoplfdhcoaaaGreatDoor.EvA
open Go Go.RowKit Go.Proofs.YtaocoplfdhcoaaaGreatDoor.Ev
theorem fn25' : E.fns.get 25 = some Tryz.f25 := by kernel_rfl
theorem colL_get (m : List (List Int)) (c i : Nat) : (colL m c).getD i 0 = (m.getD i []).getD c 0 := by
  unfold colL
  rw [List.getD_eq_getElem?_getD, List.getElem?_map, List.getD_eq_getElem?_getD (l := m)]
  cases m[i]? with
  | none => simp
  | some r => rfl
theorem near_getD {r : List Int} (h : NearR r) (c : Nat) : Near (r.getD c 0) := by
  rcases Nat.lt_or_ge c r.length with hc | hc
  · exact h c hc
  · rw [List.getD_eq_getElem?_getD, List.getElem?_eq_none hc]
    show Near 0
    unfold Near; omega
theorem comb_dot (k : List Int) (m : List (List Int)) (c n : Nat) : dotN k (colL m c) n = comb k m c n := by
  unfold dotN comb
  exact sumN_congr n fun i _ => by rw [colL_get]
def PreM (m : List (List Int)) (k x : List Int) : Prop := RightM m ∧ k.length = m.length ∧ (m.length ≠ 0 → x.length = (m.getD 0 []).length) ∧ NearR k ∧ NearR x
theorem Member_run {lo : Nat} {vm vk vx : AV} {m : List (List Int)} {k x : List Int} {s : St} (hm : MZ s.h m vm) (hk : RZ s.h k vk) (hx : RZ s.h x vx) (hF : Fresh s) (hlo : lo ≤ s.c) (lk : k.length ≤ 1000) (lx : x.length ≤ 1000) :
    FunR E lo 25 [vm, vk, vx] s fun v s' => Fresh s' ∧ Kept s.c s s' ∧ ∃ b, v = .bool b ∧ (b = true ↔ MemberP m k x) := by
  refine FunR.body (fn := Tryz.f25) fn25' rfl ?_
  have hn : (max ([vm, vk, vx] : List AV).length Tryz.f25.ntmps) = 60 := rfl
  generalize max ([vm, vk, vx] : List AV).length Tryz.f25.ntmps = n at hn
  subst hn
  have g0 : (argsT 0 ([vm, vk, vx] : List AV)).get 0 = some (vm) := rfl
  have g1 : (argsT 0 ([vm, vk, vx] : List AV)).get 1 = some (vk) := rfl
  have g2 : (argsT 0 ([vm, vk, vx] : List AV)).get 2 = some (vx) := rfl
  generalize argsT 0 ([vm, vk, vx] : List AV) = T0 at g0 g1 g2 ⊢
  have hn : (60 : Nat) = 60 := rfl
  have ldm := hm.len 25
  have ldk := lenR hk 3
  have ldx := lenR hx 3
  have e0 : ltB 0 (Int.ofNat m.length) = decide (0 < m.length) := ltB_nat 0 _
  refine CodeR.seq (CodeR.reg rfl ?_)
  (first | (refine SeqR.skipN ?_ rfl rfl ?_; (simp only [sA, wantE, T.get_set, Nat.reduceEqDiff] <;> with_reducible rfl)) | ((first | refine SeqR.stepN (v := ?_) (s' := ?_) rfl ?_ rfl ?_ rfl rfl ?_ | refine SeqR.stepLN (v := ?_) (s' := ?_) rfl ?_ rfl ?_ rfl rfl ?_); rotate_left 3; (intro call lc; simp only [sA, opE, kindOf, pureE, heapE, rho, rhos, T.get_set, Nat.reduceEqDiff, nb00, absV, absS, l_slice, l_void, l_str, l_arr, natE, loadE, isConst, TK.agg, u_notB, b_eqlB, b_neqB, b_add, b_sub, b_mul, b_lss, b_gtr, b_leq, b_geq, b_eql, b_neq, ty3, i3, si3, ty4, i4, si4, ty22, i22, si22, ty23, i23, si23, ty24, i24, si24, ty25, i25, si25, ty169, i169, si169, ty171, i171, si171, ty245, i245, si245] <;> rfl); rotate_left 1; (simp only [sA, wantE, T.get_set, Nat.reduceEqDiff] <;> with_reducible rfl)))
  refine SeqR.done ?_
  refine CodeR.seq (CodeR.seq (CodeR.mono (Q := fun e m' s' => e = .nrm ∧ s = s' ∧ ∃ T1 b, m' = ⟨60, T1⟩ ∧ T1.get 0 = some vm ∧ T1.get 1 = some vk ∧ T1.get 2 = some vx ∧ T1.get 42 = some (.bool b) ∧ (b = false ↔ PreM m k x)) (CodeR.reg rfl ?_) ?_))
  · repeat (first | (refine CodeR.seq ?_) | (refine CodeR.reg rfl ?_) | (refine CodeR.regD rfl rfl rfl ?_) | (refine SeqR.done ?_) | (refine CodeR.block ?_) | (refine CodeR.skip ?_) | (refine CodeR.exit ?_; simp only [sA, Ex.then, Ex.inBlock, Nat.reduceEqDiff]) | (first | (refine SeqR.skipN ?_ rfl rfl ?_; (simp only [sA, wantE, T.get_set, Nat.reduceEqDiff, g0] <;> with_reducible rfl)) | ((first | refine SeqR.stepN (v := ?_) (s' := ?_) rfl ?_ rfl ?_ rfl rfl ?_ | refine SeqR.stepLN (v := ?_) (s' := ?_) rfl ?_ rfl ?_ rfl rfl ?_); rotate_left 3; (intro call lc; simp only [sA, opE, kindOf, pureE, heapE, rho, rhos, T.get_set, Nat.reduceEqDiff, nb00, absV, absS, l_slice, l_void, l_str, l_arr, natE, loadE, isConst, TK.agg, u_notB, b_eqlB, b_neqB, b_add, b_sub, b_mul, b_lss, b_gtr, b_leq, b_geq, b_eql, b_neq, ty3, i3, si3, ty4, i4, si4, ty22, i22, si22, ty23, i23, si23, ty24, i24, si24, ty25, i25, si25, ty169, i169, si169, ty171, i171, si171, ty245, i245, si245, g0] <;> rfl); rotate_left 1; (simp only [sA, wantE, T.get_set, Nat.reduceEqDiff, g0] <;> with_reducible rfl))))
    refine SeqR.callN (by first | with_reducible rfl | (simp only [sA, wantE, T.get_set, Nat.reduceEqDiff, u_notB, b_eqlB, b_neqB, b_add, b_sub, b_mul, b_lss, b_gtr, b_leq, b_geq, b_eql, b_neq, ty3, i3, si3, ty4, i4, si4, ty22, i22, si22, ty23, i23, si23, ty24, i24, si24, ty25, i25, si25, ty169, i169, si169, ty171, i171, si171, ty245, i245, si245, g0] <;> with_reducible rfl)) rfl rfl (g := 103) (vs := [vm]) (by simp only [calleeE, sA, rho, rhos, T.get_set, Nat.reduceEqDiff, u_notB, b_eqlB, b_neqB, b_add, b_sub, b_mul, b_lss, b_gtr, b_leq, b_geq, b_eql, b_neq, ty3, i3, si3, ty4, i4, si4, ty22, i22, si22, ty23, i23, si23, ty24, i24, si24, ty25, i25, si25, ty169, i169, si169, ty171, i171, si171, ty245, i245, si245, g0]; rfl) (by first | rfl | assumption) rfl rfl (fun lc hlc => (matrix_run hm hF).mono fun v s' hq => ?_)
    obtain ⟨rfl, bm, rfl, hbm⟩ := hq
    cases bm with
    | false =>
      repeat (first | (refine CodeR.seq ?_) | (refine CodeR.reg rfl ?_) | (refine CodeR.regD rfl rfl rfl ?_) | (refine SeqR.done ?_) | (refine CodeR.block ?_) | (refine CodeR.skip ?_) | (refine CodeR.exit ?_; simp only [sA, Ex.then, Ex.inBlock, Nat.reduceEqDiff]) | (first | (refine SeqR.skipN ?_ rfl rfl ?_; (simp only [sA, wantE, T.get_set, Nat.reduceEqDiff] <;> with_reducible rfl)) | ((first | refine SeqR.stepN (v := ?_) (s' := ?_) rfl ?_ rfl ?_ rfl rfl ?_ | refine SeqR.stepLN (v := ?_) (s' := ?_) rfl ?_ rfl ?_ rfl rfl ?_); rotate_left 3; (intro call lc; simp only [sA, opE, kindOf, pureE, heapE, rho, rhos, T.get_set, Nat.reduceEqDiff, nb00, absV, absS, l_slice, l_void, l_str, l_arr, natE, loadE, isConst, TK.agg, u_notB, b_eqlB, b_neqB, b_add, b_sub, b_mul, b_lss, b_gtr, b_leq, b_geq, b_eql, b_neq, ty3, i3, si3, ty4, i4, si4, ty22, i22, si22, ty23, i23, si23, ty24, i24, si24, ty25, i25, si25, ty169, i169, si169, ty171, i171, si171, ty245, i245, si245] <;> rfl); rotate_left 1; (simp only [sA, wantE, T.get_set, Nat.reduceEqDiff] <;> with_reducible rfl))))
      refine ⟨rfl, rfl, _, true, rfl, ?_, ?_, ?_, ?_, ?_⟩
      simp only [T.get_set, Nat.reduceEqDiff, if_true, if_false, g0]
      simp only [T.get_set, Nat.reduceEqDiff, if_true, if_false, g1]
      simp only [T.get_set, Nat.reduceEqDiff, if_true, if_false, g2]
      simp only [T.get_set, Nat.reduceEqDiff, if_true, if_false]
      · simp only [Bool.true_eq_false, false_iff]; intro h; have := hbm.2 h.1; cases this
    | true =>
    have hR := hbm.1 rfl
    by_cases e1 : k.length = m.length
    case neg =>
      have d1 : decide (k.length = m.length) = false := by simpa using e1
      repeat (first | (refine CodeR.seq ?_) | (refine CodeR.reg rfl ?_) | (refine CodeR.regD rfl rfl rfl ?_) | (refine SeqR.done ?_) | (refine CodeR.block ?_) | (refine CodeR.skip ?_) | (refine CodeR.exit ?_; simp only [sA, Ex.then, Ex.inBlock, Nat.reduceEqDiff]) | (first | (refine SeqR.skipN ?_ rfl rfl ?_; (simp only [sA, wantE, T.get_set, Nat.reduceEqDiff, g0, g1, ldm, ldk, eqB_nat, d1] <;> with_reducible rfl)) | ((first | refine SeqR.stepN (v := ?_) (s' := ?_) rfl ?_ rfl ?_ rfl rfl ?_ | refine SeqR.stepLN (v := ?_) (s' := ?_) rfl ?_ rfl ?_ rfl rfl ?_); rotate_left 3; (intro call lc; simp only [sA, opE, kindOf, pureE, heapE, rho, rhos, T.get_set, Nat.reduceEqDiff, nb00, absV, absS, l_slice, l_void, l_str, l_arr, natE, loadE, isConst, TK.agg, u_notB, b_eqlB, b_neqB, b_add, b_sub, b_mul, b_lss, b_gtr, b_leq, b_geq, b_eql, b_neq, ty3, i3, si3, ty4, i4, si4, ty22, i22, si22, ty23, i23, si23, ty24, i24, si24, ty25, i25, si25, ty169, i169, si169, ty171, i171, si171, ty245, i245, si245, g0, g1, ldm, ldk, eqB_nat, d1] <;> rfl); rotate_left 1; (simp only [sA, wantE, T.get_set, Nat.reduceEqDiff, g0, g1, ldm, ldk, eqB_nat, d1] <;> with_reducible rfl))))
      refine ⟨rfl, rfl, _, true, rfl, ?_, ?_, ?_, ?_, ?_⟩
      simp only [T.get_set, Nat.reduceEqDiff, if_true, if_false, g0]
      simp only [T.get_set, Nat.reduceEqDiff, if_true, if_false, g1]
      simp only [T.get_set, Nat.reduceEqDiff, if_true, if_false, g2]
      simp only [T.get_set, Nat.reduceEqDiff, if_true, if_false]
      · simp only [Bool.true_eq_false, false_iff]; intro h; exact e1 h.2.1
    have d1 : decide (k.length = m.length) = true := by simpa using e1
    by_cases e3 : 0 < m.length
    · have d0 : decide (0 < m.length) = true := by simpa using e3
      obtain ⟨b, o, n, c, q, kk, r, rfl, f1, f2, f3, f4⟩ := hm.row e3
      have f9 : Nat.blt b s.c = true := blt_iff.2 (hF.lt b kk f2)
      rw [Nat.add_zero] at f3
      have lr := lenR f4 3
      by_cases e2 : x.length = (m.getD 0 []).length
      case neg =>
        have d2 : decide (x.length = (m.getD 0 []).length) = false := by simpa using e2
        repeat (first | (refine CodeR.seq ?_) | (refine CodeR.reg rfl ?_) | (refine CodeR.regD rfl rfl rfl ?_) | (refine SeqR.done ?_) | (refine CodeR.block ?_) | (refine CodeR.skip ?_) | (refine CodeR.exit ?_; simp only [sA, Ex.then, Ex.inBlock, Nat.reduceEqDiff]) | (first | (refine SeqR.skipN ?_ rfl rfl ?_; (simp only [sA, wantE, T.get_set, Nat.reduceEqDiff, g0, g1, g2, ldm, ldk, ldx, eqB_nat, d1, e0, d0, f1, f2, f3, f9, lr, d2] <;> with_reducible rfl)) | ((first | refine SeqR.stepN (v := ?_) (s' := ?_) rfl ?_ rfl ?_ rfl rfl ?_ | refine SeqR.stepLN (v := ?_) (s' := ?_) rfl ?_ rfl ?_ rfl rfl ?_); rotate_left 3; (intro call lc; simp only [sA, opE, kindOf, pureE, heapE, rho, rhos, T.get_set, Nat.reduceEqDiff, nb00, absV, absS, l_slice, l_void, l_str, l_arr, natE, loadE, isConst, TK.agg, u_notB, b_eqlB, b_neqB, b_add, b_sub, b_mul, b_lss, b_gtr, b_leq, b_geq, b_eql, b_neq, ty3, i3, si3, ty4, i4, si4, ty22, i22, si22, ty23, i23, si23, ty24, i24, si24, ty25, i25, si25, ty169, i169, si169, ty171, i171, si171, ty245, i245, si245, g0, g1, g2, ldm, ldk, ldx, eqB_nat, d1, e0, d0, f1, f2, f3, f9, lr, d2] <;> rfl); rotate_left 1; (simp only [sA, wantE, T.get_set, Nat.reduceEqDiff, g0, g1, g2, ldm, ldk, ldx, eqB_nat, d1, e0, d0, f1, f2, f3, f9, lr, d2] <;> with_reducible rfl))))
        refine ⟨rfl, rfl, _, true, rfl, ?_, ?_, ?_, ?_, ?_⟩
        simp only [T.get_set, Nat.reduceEqDiff, if_true, if_false, g0]
        simp only [T.get_set, Nat.reduceEqDiff, if_true, if_false, g1]
        simp only [T.get_set, Nat.reduceEqDiff, if_true, if_false, g2]
        simp only [T.get_set, Nat.reduceEqDiff, if_true, if_false]
        · simp only [Bool.true_eq_false, false_iff]; intro h; exact e2 (h.2.2.1 (by omega))
      have d2 : decide (x.length = (m.getD 0 []).length) = true := by simpa using e2
      have e4 : m.length ≠ 0 → x.length = (m.getD 0 []).length := fun _ => e2
      repeat (first | (refine CodeR.seq ?_) | (refine CodeR.reg rfl ?_) | (refine CodeR.regD rfl rfl rfl ?_) | (refine SeqR.done ?_) | (refine CodeR.block ?_) | (refine CodeR.skip ?_) | (refine CodeR.exit ?_; simp only [sA, Ex.then, Ex.inBlock, Nat.reduceEqDiff]) | (first | (refine SeqR.skipN ?_ rfl rfl ?_; (simp only [sA, wantE, T.get_set, Nat.reduceEqDiff, g0, g1, g2, ldm, ldk, ldx, eqB_nat, d1, e0, d0, f1, f2, f3, f9, lr, d2] <;> with_reducible rfl)) | ((first | refine SeqR.stepN (v := ?_) (s' := ?_) rfl ?_ rfl ?_ rfl rfl ?_ | refine SeqR.stepLN (v := ?_) (s' := ?_) rfl ?_ rfl ?_ rfl rfl ?_); rotate_left 3; (intro call lc; simp only [sA, opE, kindOf, pureE, heapE, rho, rhos, T.get_set, Nat.reduceEqDiff, nb00, absV, absS, l_slice, l_void, l_str, l_arr, natE, loadE, isConst, TK.agg, u_notB, b_eqlB, b_neqB, b_add, b_sub, b_mul, b_lss, b_gtr, b_leq, b_geq, b_eql, b_neq, ty3, i3, si3, ty4, i4, si4, ty22, i22, si22, ty23, i23, si23, ty24, i24, si24, ty25, i25, si25, ty169, i169, si169, ty171, i171, si171, ty245, i245, si245, g0, g1, g2, ldm, ldk, ldx, eqB_nat, d1, e0, d0, f1, f2, f3, f9, lr, d2] <;> rfl); rotate_left 1; (simp only [sA, wantE, T.get_set, Nat.reduceEqDiff, g0, g1, g2, ldm, ldk, ldx, eqB_nat, d1, e0, d0, f1, f2, f3, f9, lr, d2] <;> with_reducible rfl))))
      refine SeqR.callN (by first | with_reducible rfl | (simp only [sA, wantE, T.get_set, Nat.reduceEqDiff, u_notB, b_eqlB, b_neqB, b_add, b_sub, b_mul, b_lss, b_gtr, b_leq, b_geq, b_eql, b_neq, ty3, i3, si3, ty4, i4, si4, ty22, i22, si22, ty23, i23, si23, ty24, i24, si24, ty25, i25, si25, ty169, i169, si169, ty171, i171, si171, ty245, i245, si245, g1, ldm, ldk, ldx, eqB_nat, d1, e0, d0, d2] <;> with_reducible rfl)) rfl rfl (g := 104) (vs := [vk]) (by simp only [calleeE, sA, rho, rhos, T.get_set, Nat.reduceEqDiff, u_notB, b_eqlB, b_neqB, b_add, b_sub, b_mul, b_lss, b_gtr, b_leq, b_geq, b_eql, b_neq, ty3, i3, si3, ty4, i4, si4, ty22, i22, si22, ty23, i23, si23, ty24, i24, si24, ty25, i25, si25, ty169, i169, si169, ty171, i171, si171, ty245, i245, si245, g1, ldm, ldk, ldx, eqB_nat, d1, e0, d0, d2]; rfl) (by first | rfl | assumption) rfl rfl (fun lc hlc => (near_run hk hF (by omega)).mono fun v s' hq => ?_)
      obtain ⟨rfl, bk, rfl, hbk⟩ := hq
      cases bk with
      | false =>
        repeat (first | (refine CodeR.seq ?_) | (refine CodeR.reg rfl ?_) | (refine CodeR.regD rfl rfl rfl ?_) | (refine SeqR.done ?_) | (refine CodeR.block ?_) | (refine CodeR.skip ?_) | (refine CodeR.exit ?_; simp only [sA, Ex.then, Ex.inBlock, Nat.reduceEqDiff]) | (first | (refine SeqR.skipN ?_ rfl rfl ?_; (simp only [sA, wantE, T.get_set, Nat.reduceEqDiff, g0, g1, g2, ldm, ldk, ldx, eqB_nat, d1, e0, d0, d2] <;> with_reducible rfl)) | ((first | refine SeqR.stepN (v := ?_) (s' := ?_) rfl ?_ rfl ?_ rfl rfl ?_ | refine SeqR.stepLN (v := ?_) (s' := ?_) rfl ?_ rfl ?_ rfl rfl ?_); rotate_left 3; (intro call lc; simp only [sA, opE, kindOf, pureE, heapE, rho, rhos, T.get_set, Nat.reduceEqDiff, nb00, absV, absS, l_slice, l_void, l_str, l_arr, natE, loadE, isConst, TK.agg, u_notB, b_eqlB, b_neqB, b_add, b_sub, b_mul, b_lss, b_gtr, b_leq, b_geq, b_eql, b_neq, ty3, i3, si3, ty4, i4, si4, ty22, i22, si22, ty23, i23, si23, ty24, i24, si24, ty25, i25, si25, ty169, i169, si169, ty171, i171, si171, ty245, i245, si245, g0, g1, g2, ldm, ldk, ldx, eqB_nat, d1, e0, d0, d2] <;> rfl); rotate_left 1; (simp only [sA, wantE, T.get_set, Nat.reduceEqDiff, g0, g1, g2, ldm, ldk, ldx, eqB_nat, d1, e0, d0, d2] <;> with_reducible rfl))))
        refine ⟨rfl, rfl, _, true, rfl, ?_, ?_, ?_, ?_, ?_⟩
        simp only [T.get_set, Nat.reduceEqDiff, if_true, if_false, g0]
        simp only [T.get_set, Nat.reduceEqDiff, if_true, if_false, g1]
        simp only [T.get_set, Nat.reduceEqDiff, if_true, if_false, g2]
        simp only [T.get_set, Nat.reduceEqDiff, if_true, if_false]
        · simp only [Bool.true_eq_false, false_iff]; intro h; have := hbk.2 h.2.2.2.1; cases this
      | true =>
      repeat (first | (refine CodeR.seq ?_) | (refine CodeR.reg rfl ?_) | (refine CodeR.regD rfl rfl rfl ?_) | (refine SeqR.done ?_) | (refine CodeR.block ?_) | (refine CodeR.skip ?_) | (refine CodeR.exit ?_; simp only [sA, Ex.then, Ex.inBlock, Nat.reduceEqDiff]) | (first | (refine SeqR.skipN ?_ rfl rfl ?_; (simp only [sA, wantE, T.get_set, Nat.reduceEqDiff, g0, g1, g2, ldm, ldk, ldx, eqB_nat, d1, e0, d0, d2] <;> with_reducible rfl)) | ((first | refine SeqR.stepN (v := ?_) (s' := ?_) rfl ?_ rfl ?_ rfl rfl ?_ | refine SeqR.stepLN (v := ?_) (s' := ?_) rfl ?_ rfl ?_ rfl rfl ?_); rotate_left 3; (intro call lc; simp only [sA, opE, kindOf, pureE, heapE, rho, rhos, T.get_set, Nat.reduceEqDiff, nb00, absV, absS, l_slice, l_void, l_str, l_arr, natE, loadE, isConst, TK.agg, u_notB, b_eqlB, b_neqB, b_add, b_sub, b_mul, b_lss, b_gtr, b_leq, b_geq, b_eql, b_neq, ty3, i3, si3, ty4, i4, si4, ty22, i22, si22, ty23, i23, si23, ty24, i24, si24, ty25, i25, si25, ty169, i169, si169, ty171, i171, si171, ty245, i245, si245, g0, g1, g2, ldm, ldk, ldx, eqB_nat, d1, e0, d0, d2] <;> rfl); rotate_left 1; (simp only [sA, wantE, T.get_set, Nat.reduceEqDiff, g0, g1, g2, ldm, ldk, ldx, eqB_nat, d1, e0, d0, d2] <;> with_reducible rfl))))
      refine SeqR.callN (by first | with_reducible rfl | (simp only [sA, wantE, T.get_set, Nat.reduceEqDiff, u_notB, b_eqlB, b_neqB, b_add, b_sub, b_mul, b_lss, b_gtr, b_leq, b_geq, b_eql, b_neq, ty3, i3, si3, ty4, i4, si4, ty22, i22, si22, ty23, i23, si23, ty24, i24, si24, ty25, i25, si25, ty169, i169, si169, ty171, i171, si171, ty245, i245, si245, g2, ldm, ldk, ldx, eqB_nat, d1, e0, d0, d2] <;> with_reducible rfl)) rfl rfl (g := 104) (vs := [vx]) (by simp only [calleeE, sA, rho, rhos, T.get_set, Nat.reduceEqDiff, u_notB, b_eqlB, b_neqB, b_add, b_sub, b_mul, b_lss, b_gtr, b_leq, b_geq, b_eql, b_neq, ty3, i3, si3, ty4, i4, si4, ty22, i22, si22, ty23, i23, si23, ty24, i24, si24, ty25, i25, si25, ty169, i169, si169, ty171, i171, si171, ty245, i245, si245, g2, ldm, ldk, ldx, eqB_nat, d1, e0, d0, d2]; rfl) (by first | rfl | assumption) rfl rfl (fun lc hlc => (near_run hx hF (by omega)).mono fun v s' hq => ?_)
      obtain ⟨rfl, bx, rfl, hbx⟩ := hq
      repeat (first | (refine CodeR.seq ?_) | (refine CodeR.reg rfl ?_) | (refine CodeR.regD rfl rfl rfl ?_) | (refine SeqR.done ?_) | (refine CodeR.block ?_) | (refine CodeR.skip ?_) | (refine CodeR.exit ?_; simp only [sA, Ex.then, Ex.inBlock, Nat.reduceEqDiff]) | (first | (refine SeqR.skipN ?_ rfl rfl ?_; (simp only [sA, wantE, T.get_set, Nat.reduceEqDiff, g0, g1, g2, ldm, ldk, ldx, eqB_nat, d1, e0, d0, d2] <;> with_reducible rfl)) | ((first | refine SeqR.stepN (v := ?_) (s' := ?_) rfl ?_ rfl ?_ rfl rfl ?_ | refine SeqR.stepLN (v := ?_) (s' := ?_) rfl ?_ rfl ?_ rfl rfl ?_); rotate_left 3; (intro call lc; simp only [sA, opE, kindOf, pureE, heapE, rho, rhos, T.get_set, Nat.reduceEqDiff, nb00, absV, absS, l_slice, l_void, l_str, l_arr, natE, loadE, isConst, TK.agg, u_notB, b_eqlB, b_neqB, b_add, b_sub, b_mul, b_lss, b_gtr, b_leq, b_geq, b_eql, b_neq, ty3, i3, si3, ty4, i4, si4, ty22, i22, si22, ty23, i23, si23, ty24, i24, si24, ty25, i25, si25, ty169, i169, si169, ty171, i171, si171, ty245, i245, si245, g0, g1, g2, ldm, ldk, ldx, eqB_nat, d1, e0, d0, d2] <;> rfl); rotate_left 1; (simp only [sA, wantE, T.get_set, Nat.reduceEqDiff, g0, g1, g2, ldm, ldk, ldx, eqB_nat, d1, e0, d0, d2] <;> with_reducible rfl))))
      refine ⟨rfl, rfl, _, !bx, rfl, ?_, ?_, ?_, ?_, ?_⟩
      simp only [T.get_set, Nat.reduceEqDiff, if_true, if_false, g0]
      simp only [T.get_set, Nat.reduceEqDiff, if_true, if_false, g1]
      simp only [T.get_set, Nat.reduceEqDiff, if_true, if_false, g2]
      simp only [T.get_set, Nat.reduceEqDiff, if_true, if_false]
      · constructor
        · intro h; exact ⟨hR, e1, e4, hbk.1 rfl, hbx.1 (by simpa using h)⟩
        · intro h; have := hbx.2 h.2.2.2.2; rw [this]; rfl
    · have d0 : decide (0 < m.length) = false := by simpa using e3
      have d2 : True := trivial
      have e4 : m.length ≠ 0 → x.length = (m.getD 0 []).length := fun h => absurd h (by omega)
      repeat (first | (refine CodeR.seq ?_) | (refine CodeR.reg rfl ?_) | (refine CodeR.regD rfl rfl rfl ?_) | (refine SeqR.done ?_) | (refine CodeR.block ?_) | (refine CodeR.skip ?_) | (refine CodeR.exit ?_; simp only [sA, Ex.then, Ex.inBlock, Nat.reduceEqDiff]) | (first | (refine SeqR.skipN ?_ rfl rfl ?_; (simp only [sA, wantE, T.get_set, Nat.reduceEqDiff, g0, g1, g2, ldm, ldk, ldx, eqB_nat, d1, e0, d0] <;> with_reducible rfl)) | ((first | refine SeqR.stepN (v := ?_) (s' := ?_) rfl ?_ rfl ?_ rfl rfl ?_ | refine SeqR.stepLN (v := ?_) (s' := ?_) rfl ?_ rfl ?_ rfl rfl ?_); rotate_left 3; (intro call lc; simp only [sA, opE, kindOf, pureE, heapE, rho, rhos, T.get_set, Nat.reduceEqDiff, nb00, absV, absS, l_slice, l_void, l_str, l_arr, natE, loadE, isConst, TK.agg, u_notB, b_eqlB, b_neqB, b_add, b_sub, b_mul, b_lss, b_gtr, b_leq, b_geq, b_eql, b_neq, ty3, i3, si3, ty4, i4, si4, ty22, i22, si22, ty23, i23, si23, ty24, i24, si24, ty25, i25, si25, ty169, i169, si169, ty171, i171, si171, ty245, i245, si245, g0, g1, g2, ldm, ldk, ldx, eqB_nat, d1, e0, d0] <;> rfl); rotate_left 1; (simp only [sA, wantE, T.get_set, Nat.reduceEqDiff, g0, g1, g2, ldm, ldk, ldx, eqB_nat, d1, e0, d0] <;> with_reducible rfl))))
      refine SeqR.callN (by first | with_reducible rfl | (simp only [sA, wantE, T.get_set, Nat.reduceEqDiff, u_notB, b_eqlB, b_neqB, b_add, b_sub, b_mul, b_lss, b_gtr, b_leq, b_geq, b_eql, b_neq, ty3, i3, si3, ty4, i4, si4, ty22, i22, si22, ty23, i23, si23, ty24, i24, si24, ty25, i25, si25, ty169, i169, si169, ty171, i171, si171, ty245, i245, si245, g1, ldm, ldk, ldx, eqB_nat, d1, e0, d0] <;> with_reducible rfl)) rfl rfl (g := 104) (vs := [vk]) (by simp only [calleeE, sA, rho, rhos, T.get_set, Nat.reduceEqDiff, u_notB, b_eqlB, b_neqB, b_add, b_sub, b_mul, b_lss, b_gtr, b_leq, b_geq, b_eql, b_neq, ty3, i3, si3, ty4, i4, si4, ty22, i22, si22, ty23, i23, si23, ty24, i24, si24, ty25, i25, si25, ty169, i169, si169, ty171, i171, si171, ty245, i245, si245, g1, ldm, ldk, ldx, eqB_nat, d1, e0, d0]; rfl) (by first | rfl | assumption) rfl rfl (fun lc hlc => (near_run hk hF (by omega)).mono fun v s' hq => ?_)
      obtain ⟨rfl, bk, rfl, hbk⟩ := hq
      cases bk with
      | false =>
        repeat (first | (refine CodeR.seq ?_) | (refine CodeR.reg rfl ?_) | (refine CodeR.regD rfl rfl rfl ?_) | (refine SeqR.done ?_) | (refine CodeR.block ?_) | (refine CodeR.skip ?_) | (refine CodeR.exit ?_; simp only [sA, Ex.then, Ex.inBlock, Nat.reduceEqDiff]) | (first | (refine SeqR.skipN ?_ rfl rfl ?_; (simp only [sA, wantE, T.get_set, Nat.reduceEqDiff, g0, g1, g2, ldm, ldk, ldx, eqB_nat, d1, e0, d0] <;> with_reducible rfl)) | ((first | refine SeqR.stepN (v := ?_) (s' := ?_) rfl ?_ rfl ?_ rfl rfl ?_ | refine SeqR.stepLN (v := ?_) (s' := ?_) rfl ?_ rfl ?_ rfl rfl ?_); rotate_left 3; (intro call lc; simp only [sA, opE, kindOf, pureE, heapE, rho, rhos, T.get_set, Nat.reduceEqDiff, nb00, absV, absS, l_slice, l_void, l_str, l_arr, natE, loadE, isConst, TK.agg, u_notB, b_eqlB, b_neqB, b_add, b_sub, b_mul, b_lss, b_gtr, b_leq, b_geq, b_eql, b_neq, ty3, i3, si3, ty4, i4, si4, ty22, i22, si22, ty23, i23, si23, ty24, i24, si24, ty25, i25, si25, ty169, i169, si169, ty171, i171, si171, ty245, i245, si245, g0, g1, g2, ldm, ldk, ldx, eqB_nat, d1, e0, d0] <;> rfl); rotate_left 1; (simp only [sA, wantE, T.get_set, Nat.reduceEqDiff, g0, g1, g2, ldm, ldk, ldx, eqB_nat, d1, e0, d0] <;> with_reducible rfl))))
        refine ⟨rfl, rfl, _, true, rfl, ?_, ?_, ?_, ?_, ?_⟩
        simp only [T.get_set, Nat.reduceEqDiff, if_true, if_false, g0]
        simp only [T.get_set, Nat.reduceEqDiff, if_true, if_false, g1]
        simp only [T.get_set, Nat.reduceEqDiff, if_true, if_false, g2]
        simp only [T.get_set, Nat.reduceEqDiff, if_true, if_false]
        · simp only [Bool.true_eq_false, false_iff]; intro h; have := hbk.2 h.2.2.2.1; cases this
      | true =>
      repeat (first | (refine CodeR.seq ?_) | (refine CodeR.reg rfl ?_) | (refine CodeR.regD rfl rfl rfl ?_) | (refine SeqR.done ?_) | (refine CodeR.block ?_) | (refine CodeR.skip ?_) | (refine CodeR.exit ?_; simp only [sA, Ex.then, Ex.inBlock, Nat.reduceEqDiff]) | (first | (refine SeqR.skipN ?_ rfl rfl ?_; (simp only [sA, wantE, T.get_set, Nat.reduceEqDiff, g0, g1, g2, ldm, ldk, ldx, eqB_nat, d1, e0, d0] <;> with_reducible rfl)) | ((first | refine SeqR.stepN (v := ?_) (s' := ?_) rfl ?_ rfl ?_ rfl rfl ?_ | refine SeqR.stepLN (v := ?_) (s' := ?_) rfl ?_ rfl ?_ rfl rfl ?_); rotate_left 3; (intro call lc; simp only [sA, opE, kindOf, pureE, heapE, rho, rhos, T.get_set, Nat.reduceEqDiff, nb00, absV, absS, l_slice, l_void, l_str, l_arr, natE, loadE, isConst, TK.agg, u_notB, b_eqlB, b_neqB, b_add, b_sub, b_mul, b_lss, b_gtr, b_leq, b_geq, b_eql, b_neq, ty3, i3, si3, ty4, i4, si4, ty22, i22, si22, ty23, i23, si23, ty24, i24, si24, ty25, i25, si25, ty169, i169, si169, ty171, i171, si171, ty245, i245, si245, g0, g1, g2, ldm, ldk, ldx, eqB_nat, d1, e0, d0] <;> rfl); rotate_left 1; (simp only [sA, wantE, T.get_set, Nat.reduceEqDiff, g0, g1, g2, ldm, ldk, ldx, eqB_nat, d1, e0, d0] <;> with_reducible rfl))))
      refine SeqR.callN (by first | with_reducible rfl | (simp only [sA, wantE, T.get_set, Nat.reduceEqDiff, u_notB, b_eqlB, b_neqB, b_add, b_sub, b_mul, b_lss, b_gtr, b_leq, b_geq, b_eql, b_neq, ty3, i3, si3, ty4, i4, si4, ty22, i22, si22, ty23, i23, si23, ty24, i24, si24, ty25, i25, si25, ty169, i169, si169, ty171, i171, si171, ty245, i245, si245, g2, ldm, ldk, ldx, eqB_nat, d1, e0, d0] <;> with_reducible rfl)) rfl rfl (g := 104) (vs := [vx]) (by simp only [calleeE, sA, rho, rhos, T.get_set, Nat.reduceEqDiff, u_notB, b_eqlB, b_neqB, b_add, b_sub, b_mul, b_lss, b_gtr, b_leq, b_geq, b_eql, b_neq, ty3, i3, si3, ty4, i4, si4, ty22, i22, si22, ty23, i23, si23, ty24, i24, si24, ty25, i25, si25, ty169, i169, si169, ty171, i171, si171, ty245, i245, si245, g2, ldm, ldk, ldx, eqB_nat, d1, e0, d0]; rfl) (by first | rfl | assumption) rfl rfl (fun lc hlc => (near_run hx hF (by omega)).mono fun v s' hq => ?_)
      obtain ⟨rfl, bx, rfl, hbx⟩ := hq
      repeat (first | (refine CodeR.seq ?_) | (refine CodeR.reg rfl ?_) | (refine CodeR.regD rfl rfl rfl ?_) | (refine SeqR.done ?_) | (refine CodeR.block ?_) | (refine CodeR.skip ?_) | (refine CodeR.exit ?_; simp only [sA, Ex.then, Ex.inBlock, Nat.reduceEqDiff]) | (first | (refine SeqR.skipN ?_ rfl rfl ?_; (simp only [sA, wantE, T.get_set, Nat.reduceEqDiff, g0, g1, g2, ldm, ldk, ldx, eqB_nat, d1, e0, d0] <;> with_reducible rfl)) | ((first | refine SeqR.stepN (v := ?_) (s' := ?_) rfl ?_ rfl ?_ rfl rfl ?_ | refine SeqR.stepLN (v := ?_) (s' := ?_) rfl ?_ rfl ?_ rfl rfl ?_); rotate_left 3; (intro call lc; simp only [sA, opE, kindOf, pureE, heapE, rho, rhos, T.get_set, Nat.reduceEqDiff, nb00, absV, absS, l_slice, l_void, l_str, l_arr, natE, loadE, isConst, TK.agg, u_notB, b_eqlB, b_neqB, b_add, b_sub, b_mul, b_lss, b_gtr, b_leq, b_geq, b_eql, b_neq, ty3, i3, si3, ty4, i4, si4, ty22, i22, si22, ty23, i23, si23, ty24, i24, si24, ty25, i25, si25, ty169, i169, si169, ty171, i171, si171, ty245, i245, si245, g0, g1, g2, ldm, ldk, ldx, eqB_nat, d1, e0, d0] <;> rfl); rotate_left 1; (simp only [sA, wantE, T.get_set, Nat.reduceEqDiff, g0, g1, g2, ldm, ldk, ldx, eqB_nat, d1, e0, d0] <;> with_reducible rfl))))
      refine ⟨rfl, rfl, _, !bx, rfl, ?_, ?_, ?_, ?_, ?_⟩
      simp only [T.get_set, Nat.reduceEqDiff, if_true, if_false, g0]
      simp only [T.get_set, Nat.reduceEqDiff, if_true, if_false, g1]
      simp only [T.get_set, Nat.reduceEqDiff, if_true, if_false, g2]
      simp only [T.get_set, Nat.reduceEqDiff, if_true, if_false]
      · constructor
        · intro h; exact ⟨hR, e1, e4, hbk.1 rfl, hbx.1 (by simpa using h)⟩
        · intro h; have := hbx.2 h.2.2.2.2; rw [this]; rfl
  · rintro e m' s' ⟨rfl, rfl, T1, b, rfl, h0, h1, h2, h42, hpre⟩
    refine CodeR.cond (t := b) (by simp only [sA, rho, T.get_set, Nat.reduceEqDiff, u_notB, b_eqlB, b_neqB, b_add, b_sub, b_mul, b_lss, b_gtr, b_leq, b_geq, b_eql, b_neq, ty3, i3, si3, ty4, i4, si4, ty22, i22, si22, ty23, i23, si23, ty24, i24, si24, ty25, i25, si25, ty169, i169, si169, ty171, i171, si171, ty245, i245, si245, h42]) ?_ ?_
    · intro hb
      repeat (first | (refine CodeR.seq ?_) | (refine CodeR.reg rfl ?_) | (refine CodeR.regD rfl rfl rfl ?_) | (refine SeqR.done ?_) | (refine CodeR.block ?_) | (refine CodeR.skip ?_) | (refine CodeR.exit ?_; simp only [sA, Ex.then, Ex.inBlock, Nat.reduceEqDiff]) | (first | (refine SeqR.skipN ?_ rfl rfl ?_; (simp only [sA, wantE, T.get_set, Nat.reduceEqDiff] <;> with_reducible rfl)) | ((first | refine SeqR.stepN (v := ?_) (s' := ?_) rfl ?_ rfl ?_ rfl rfl ?_ | refine SeqR.stepLN (v := ?_) (s' := ?_) rfl ?_ rfl ?_ rfl rfl ?_); rotate_left 3; (intro call lc; simp only [sA, opE, kindOf, pureE, heapE, rho, rhos, T.get_set, Nat.reduceEqDiff, nb00, absV, absS, l_slice, l_void, l_str, l_arr, natE, loadE, isConst, TK.agg, u_notB, b_eqlB, b_neqB, b_add, b_sub, b_mul, b_lss, b_gtr, b_leq, b_geq, b_eql, b_neq, ty3, i3, si3, ty4, i4, si4, ty22, i22, si22, ty23, i23, si23, ty24, i24, si24, ty25, i25, si25, ty169, i169, si169, ty171, i171, si171, ty245, i245, si245] <;> rfl); rotate_left 1; (simp only [sA, wantE, T.get_set, Nat.reduceEqDiff] <;> with_reducible rfl))))
      refine CodeR.ret ⟨.inr rfl, [.bool false], by (show ressE E _ _ [.tmp 6] = _; simp only [sA, ressE, resE, T.get_set, Nat.reduceEqDiff, u_notB, b_eqlB, b_neqB, b_add, b_sub, b_mul, b_lss, b_gtr, b_leq, b_geq, b_eql, b_neq, ty3, i3, si3, ty4, i4, si4, ty22, i22, si22, ty23, i23, si23, ty24, i24, si24, ty25, i25, si25, ty169, i169, si169, ty171, i171, si171, ty245, i245, si245]), ?_⟩
      refine ⟨hF, Kept.refl _ _, false, rfl, ?_⟩
      simp only [Bool.false_eq_true, false_iff]
      intro h
      have := hpre.2 ⟨h.1, h.2.1, h.2.2.1, h.2.2.2.1, h.2.2.2.2.1⟩
      rw [hb] at this
      cases this
    · intro hb
      obtain ⟨hR, e1, e4, nk, nx⟩ := hpre.1 hb
      repeat (first | (refine CodeR.seq ?_) | (refine CodeR.reg rfl ?_) | (refine CodeR.regD rfl rfl rfl ?_) | (refine SeqR.done ?_) | (refine CodeR.block ?_) | (refine CodeR.skip ?_) | (refine CodeR.exit ?_; simp only [sA, Ex.then, Ex.inBlock, Nat.reduceEqDiff]) | (first | (refine SeqR.skipN ?_ rfl rfl ?_; (simp only [sA, wantE, T.get_set, Nat.reduceEqDiff, h2, ldx] <;> with_reducible rfl)) | ((first | refine SeqR.stepN (v := ?_) (s' := ?_) rfl ?_ rfl ?_ rfl rfl ?_ | refine SeqR.stepLN (v := ?_) (s' := ?_) rfl ?_ rfl ?_ rfl rfl ?_); rotate_left 3; (intro call lc; simp only [sA, opE, kindOf, pureE, heapE, rho, rhos, T.get_set, Nat.reduceEqDiff, nb00, absV, absS, l_slice, l_void, l_str, l_arr, natE, loadE, isConst, TK.agg, u_notB, b_eqlB, b_neqB, b_add, b_sub, b_mul, b_lss, b_gtr, b_leq, b_geq, b_eql, b_neq, ty3, i3, si3, ty4, i4, si4, ty22, i22, si22, ty23, i23, si23, ty24, i24, si24, ty25, i25, si25, ty169, i169, si169, ty171, i171, si171, ty245, i245, si245, h2, ldx] <;> rfl); rotate_left 1; (simp only [sA, wantE, T.get_set, Nat.reduceEqDiff, h2, ldx] <;> with_reducible rfl))))
      refine CodeR.loop (fun q mm s1 => Fresh s1 ∧ Kept s.c s s1 ∧ ∃ c T1, mm = ⟨60, T1⟩ ∧ c + q = x.length ∧ (∀ j, j < c → comb k m j m.length = x.getD j 0) ∧ T1.get 0 = some vm ∧ T1.get 1 = some vk ∧ T1.get 43 = some vx ∧ T1.get 44 = some (.int .i64 (Int.ofNat x.length)) ∧ T1.get 45 = some (.int .i64 (Int.ofNat c))) x.length ?_ ?_
      · refine ⟨hF, Kept.refl _ _, 0, _, rfl, by omega, fun j hj => by omega, ?_, ?_, ?_, ?_, ?_⟩
        simp only [T.get_set, Nat.reduceEqDiff, if_true, if_false, h0]
        simp only [T.get_set, Nat.reduceEqDiff, if_true, if_false, h1]
        simp only [T.get_set, Nat.reduceEqDiff, if_true, if_false]
        simp only [T.get_set, Nat.reduceEqDiff, if_true, if_false]
        simp only [T.get_set, Nat.reduceEqDiff, if_true, if_false]
        · rfl
      · rintro q mm s1 ⟨hF1, hK1, c, T2, rfl, hcq, hok, h0, h1, h43, h44, h45⟩
        have m1 := hK1.mono
        have hm1 := hm.keep hF.lt hK1
        have hk1 := RZ.keep hk hF.lt hK1
        have hx1 := RZ.keep hx hF.lt hK1
        repeat (first | (refine CodeR.seq ?_) | (refine CodeR.reg rfl ?_) | (refine CodeR.regD rfl rfl rfl ?_) | (refine SeqR.done ?_) | (refine CodeR.block ?_) | (refine CodeR.skip ?_) | (refine CodeR.exit ?_; simp only [sA, Ex.then, Ex.inBlock, Nat.reduceEqDiff]) | (first | (refine SeqR.skipN ?_ rfl rfl ?_; (simp only [sA, wantE, T.get_set, Nat.reduceEqDiff, h44, h45, ltB_nat] <;> with_reducible rfl)) | ((first | refine SeqR.stepN (v := ?_) (s' := ?_) rfl ?_ rfl ?_ rfl rfl ?_ | refine SeqR.stepLN (v := ?_) (s' := ?_) rfl ?_ rfl ?_ rfl rfl ?_); rotate_left 3; (intro call lc; simp only [sA, opE, kindOf, pureE, heapE, rho, rhos, T.get_set, Nat.reduceEqDiff, nb00, absV, absS, l_slice, l_void, l_str, l_arr, natE, loadE, isConst, TK.agg, u_notB, b_eqlB, b_neqB, b_add, b_sub, b_mul, b_lss, b_gtr, b_leq, b_geq, b_eql, b_neq, ty3, i3, si3, ty4, i4, si4, ty22, i22, si22, ty23, i23, si23, ty24, i24, si24, ty25, i25, si25, ty169, i169, si169, ty171, i171, si171, ty245, i245, si245, h44, h45, ltB_nat] <;> rfl); rotate_left 1; (simp only [sA, wantE, T.get_set, Nat.reduceEqDiff, h44, h45, ltB_nat] <;> with_reducible rfl))))
        refine CodeR.cond (t := decide (c < x.length)) (by simp only [sA, rho, T.get_set, Nat.reduceEqDiff, u_notB, b_eqlB, b_neqB, b_add, b_sub, b_mul, b_lss, b_gtr, b_leq, b_geq, b_eql, b_neq, ty3, i3, si3, ty4, i4, si4, ty22, i22, si22, ty23, i23, si23, ty24, i24, si24, ty25, i25, si25, ty169, i169, si169, ty171, i171, si171, ty245, i245, si245]) ?_ ?_
        · intro hlt
          have hlt' : c < x.length := by simpa using hlt
          obtain ⟨b1, o1, n1, c1, q1, k1, rfl, f1, f2, f3⟩ := Row.zint hx1 hlt'
          have f4 : Nat.blt b1 s1.c = true := blt_iff.2 (hF1.lt b1 k1 f2)
          repeat (first | (refine CodeR.seq ?_) | (refine CodeR.reg rfl ?_) | (refine CodeR.regD rfl rfl rfl ?_) | (refine SeqR.done ?_) | (refine CodeR.block ?_) | (refine CodeR.skip ?_) | (refine CodeR.exit ?_; simp only [sA, Ex.then, Ex.inBlock, Nat.reduceEqDiff]) | (first | (refine SeqR.skipN ?_ rfl rfl ?_; (simp only [sA, wantE, T.get_set, Nat.reduceEqDiff, h0, h1, h43, h45, f1, f2, f3, f4] <;> with_reducible rfl)) | ((first | refine SeqR.stepN (v := ?_) (s' := ?_) rfl ?_ rfl ?_ rfl rfl ?_ | refine SeqR.stepLN (v := ?_) (s' := ?_) rfl ?_ rfl ?_ rfl rfl ?_); rotate_left 3; (intro call lc; simp only [sA, opE, kindOf, pureE, heapE, rho, rhos, T.get_set, Nat.reduceEqDiff, nb00, absV, absS, l_slice, l_void, l_str, l_arr, natE, loadE, isConst, TK.agg, u_notB, b_eqlB, b_neqB, b_add, b_sub, b_mul, b_lss, b_gtr, b_leq, b_geq, b_eql, b_neq, ty3, i3, si3, ty4, i4, si4, ty22, i22, si22, ty23, i23, si23, ty24, i24, si24, ty25, i25, si25, ty169, i169, si169, ty171, i171, si171, ty245, i245, si245, h0, h1, h43, h45, f1, f2, f3, f4] <;> rfl); rotate_left 1; (simp only [sA, wantE, T.get_set, Nat.reduceEqDiff, h0, h1, h43, h45, f1, f2, f3, f4] <;> with_reducible rfl))))
          have hrow : ∀ i, i < m.length → c < (m.getD i []).length := fun i hi => by
            have := (hR.2 i hi).2.1
            have := e4 (by omega)
            omega
          refine SeqR.callN (by first | with_reducible rfl | (simp only [sA, wantE, T.get_set, Nat.reduceEqDiff, u_notB, b_eqlB, b_neqB, b_add, b_sub, b_mul, b_lss, b_gtr, b_leq, b_geq, b_eql, b_neq, ty3, i3, si3, ty4, i4, si4, ty22, i22, si22, ty23, i23, si23, ty24, i24, si24, ty25, i25, si25, ty169, i169, si169, ty171, i171, si171, ty245, i245, si245] <;> with_reducible rfl)) rfl rfl (g := 106) (vs := [vm, .int .i64 (Int.ofNat c)]) (by simp only [calleeE, sA, rho, rhos, T.get_set, Nat.reduceEqDiff, u_notB, b_eqlB, b_neqB, b_add, b_sub, b_mul, b_lss, b_gtr, b_leq, b_geq, b_eql, b_neq, ty3, i3, si3, ty4, i4, si4, ty22, i22, si22, ty23, i23, si23, ty24, i24, si24, ty25, i25, si25, ty169, i169, si169, ty171, i171, si171, ty245, i245, si245]; rfl) (by first | rfl | assumption) rfl rfl (fun lc hlc => (column_run hm1 hF1 (lim_lo hlc (by omega)) (by have := hR.1; omega) hrow).mono fun v3 s3 hp => ?_)
          obtain ⟨p1, p2, p3⟩ := hp
          have m3 := p2.mono
          have ncol : NearR (colL m c) := fun i hi => by
            rw [colL_get]
            refine near_getD ?_ c
            rcases Nat.lt_or_ge i m.length with h | h
            · exact (hR.2 i h).2.2
            · intro j hj
              rw [List.getD_eq_getElem?_getD, List.getElem?_eq_none h] at hj
              simp at hj
          have lcol : (colL m c).length = m.length := by simp [colL]
          refine SeqR.callN (by first | with_reducible rfl | (simp only [sA, wantE, T.get_set, Nat.reduceEqDiff, u_notB, b_eqlB, b_neqB, b_add, b_sub, b_mul, b_lss, b_gtr, b_leq, b_geq, b_eql, b_neq, ty3, i3, si3, ty4, i4, si4, ty22, i22, si22, ty23, i23, si23, ty24, i24, si24, ty25, i25, si25, ty169, i169, si169, ty171, i171, si171, ty245, i245, si245] <;> with_reducible rfl)) rfl rfl (g := 105) (vs := [vk, v3]) (by simp only [calleeE, sA, rho, rhos, T.get_set, Nat.reduceEqDiff, u_notB, b_eqlB, b_neqB, b_add, b_sub, b_mul, b_lss, b_gtr, b_leq, b_geq, b_eql, b_neq, ty3, i3, si3, ty4, i4, si4, ty22, i22, si22, ty23, i23, si23, ty24, i24, si24, ty25, i25, si25, ty169, i169, si169, ty171, i171, si171, ty245, i245, si245]; rfl) (by first | rfl | assumption) rfl rfl (fun lc hlc => (dot_run (RZ.keep hk1 hF1.lt p2) p3 p1 (lim_lo hlc (by omega)) (by omega) lk nk ncol).mono fun v4 s4 hp => ?_)
          obtain ⟨r1, r2, r3⟩ := hp
          have m4 := r2.mono
          have hdw := dotN_w nk ncol (n := k.length) (Nat.le_refl _) (by omega) lk
          rw [comb_dot, e1] at r3 hdw
          repeat (first | (refine CodeR.seq ?_) | (refine CodeR.reg rfl ?_) | (refine CodeR.regD rfl rfl rfl ?_) | (refine SeqR.done ?_) | (refine CodeR.block ?_) | (refine CodeR.skip ?_) | (refine CodeR.exit ?_; simp only [sA, Ex.then, Ex.inBlock, Nat.reduceEqDiff]) | (first | (refine SeqR.skipN ?_ rfl rfl ?_; (simp only [sA, wantE, T.get_set, Nat.reduceEqDiff] <;> with_reducible rfl)) | ((first | refine SeqR.stepN (v := ?_) (s' := ?_) rfl ?_ rfl ?_ rfl rfl ?_ | refine SeqR.stepLN (v := ?_) (s' := ?_) rfl ?_ rfl ?_ rfl rfl ?_); rotate_left 3; (intro call lc; simp only [sA, opE, kindOf, pureE, heapE, rho, rhos, T.get_set, Nat.reduceEqDiff, nb00, absV, absS, l_slice, l_void, l_str, l_arr, natE, loadE, isConst, TK.agg, u_notB, b_eqlB, b_neqB, b_add, b_sub, b_mul, b_lss, b_gtr, b_leq, b_geq, b_eql, b_neq, ty3, i3, si3, ty4, i4, si4, ty22, i22, si22, ty23, i23, si23, ty24, i24, si24, ty25, i25, si25, ty169, i169, si169, ty171, i171, si171, ty245, i245, si245] <;> rfl); rotate_left 1; (simp only [sA, wantE, T.get_set, Nat.reduceEqDiff] <;> with_reducible rfl))))
          have nxc := nx c hlt'
          refine SeqR.callN (by first | with_reducible rfl | (simp only [sA, wantE, T.get_set, Nat.reduceEqDiff, u_notB, b_eqlB, b_neqB, b_add, b_sub, b_mul, b_lss, b_gtr, b_leq, b_geq, b_eql, b_neq, ty3, i3, si3, ty4, i4, si4, ty22, i22, si22, ty23, i23, si23, ty24, i24, si24, ty25, i25, si25, ty169, i169, si169, ty171, i171, si171, ty245, i245, si245] <;> with_reducible rfl)) rfl rfl (g := 108) (vs := [.int .i64 (x.getD c 0)]) (by simp only [calleeE, sA, rho, rhos, T.get_set, Nat.reduceEqDiff, u_notB, b_eqlB, b_neqB, b_add, b_sub, b_mul, b_lss, b_gtr, b_leq, b_geq, b_eql, b_neq, ty3, i3, si3, ty4, i4, si4, ty22, i22, si22, ty23, i23, si23, ty24, i24, si24, ty25, i25, si25, ty169, i169, si169, ty171, i171, si171, ty245, i245, si245]; rfl) (by first | rfl | assumption) rfl rfl (fun lc hlc => (number_run (near_i64 nxc).1 (near_i64 nxc).2 r1 (lim_lo hlc (by omega))).mono fun v5 s5 hp => ?_)
          obtain ⟨t1, t2, t3⟩ := hp
          have m5 := t2.mono
          refine SeqR.callN (by first | with_reducible rfl | (simp only [sA, wantE, T.get_set, Nat.reduceEqDiff, u_notB, b_eqlB, b_neqB, b_add, b_sub, b_mul, b_lss, b_gtr, b_leq, b_geq, b_eql, b_neq, ty3, i3, si3, ty4, i4, si4, ty22, i22, si22, ty23, i23, si23, ty24, i24, si24, ty25, i25, si25, ty169, i169, si169, ty171, i171, si171, ty245, i245, si245] <;> with_reducible rfl)) rfl rfl (g := 107) (vs := [v4, v5]) (by simp only [calleeE, sA, rho, rhos, T.get_set, Nat.reduceEqDiff, u_notB, b_eqlB, b_neqB, b_add, b_sub, b_mul, b_lss, b_gtr, b_leq, b_geq, b_eql, b_neq, ty3, i3, si3, ty4, i4, si4, ty22, i22, si22, ty23, i23, si23, ty24, i24, si24, ty25, i25, si25, ty169, i169, si169, ty171, i171, si171, ty245, i245, si245]; rfl) (by first | rfl | assumption) rfl rfl (fun lc hlc => (equal_run (r3.keep r1.lt t2) t3 t1 (lim_lo hlc (by omega)) (n := 10) (by omega) hdw).mono fun v6 s6 hp => ?_)
          obtain ⟨u1, u2, rfl⟩ := hp
          have m6 := u2.mono
          have hK6 := (((hK1.trans (p2.le (by omega))).trans (r2.le (by omega))).trans (t2.le (by omega))).trans (u2.le (by omega))
          repeat (first | (refine CodeR.seq ?_) | (refine CodeR.reg rfl ?_) | (refine CodeR.regD rfl rfl rfl ?_) | (refine SeqR.done ?_) | (refine CodeR.block ?_) | (refine CodeR.skip ?_) | (refine CodeR.exit ?_; simp only [sA, Ex.then, Ex.inBlock, Nat.reduceEqDiff]) | (first | (refine SeqR.skipN ?_ rfl rfl ?_; (simp only [sA, wantE, T.get_set, Nat.reduceEqDiff] <;> with_reducible rfl)) | ((first | refine SeqR.stepN (v := ?_) (s' := ?_) rfl ?_ rfl ?_ rfl rfl ?_ | refine SeqR.stepLN (v := ?_) (s' := ?_) rfl ?_ rfl ?_ rfl rfl ?_); rotate_left 3; (intro call lc; simp only [sA, opE, kindOf, pureE, heapE, rho, rhos, T.get_set, Nat.reduceEqDiff, nb00, absV, absS, l_slice, l_void, l_str, l_arr, natE, loadE, isConst, TK.agg, u_notB, b_eqlB, b_neqB, b_add, b_sub, b_mul, b_lss, b_gtr, b_leq, b_geq, b_eql, b_neq, ty3, i3, si3, ty4, i4, si4, ty22, i22, si22, ty23, i23, si23, ty24, i24, si24, ty25, i25, si25, ty169, i169, si169, ty171, i171, si171, ty245, i245, si245] <;> rfl); rotate_left 1; (simp only [sA, wantE, T.get_set, Nat.reduceEqDiff] <;> with_reducible rfl))))
          refine CodeR.cond (t := !decide (comb k m c m.length = x.getD c 0)) (by simp only [sA, rho, T.get_set, Nat.reduceEqDiff, u_notB, b_eqlB, b_neqB, b_add, b_sub, b_mul, b_lss, b_gtr, b_leq, b_geq, b_eql, b_neq, ty3, i3, si3, ty4, i4, si4, ty22, i22, si22, ty23, i23, si23, ty24, i24, si24, ty25, i25, si25, ty169, i169, si169, ty171, i171, si171, ty245, i245, si245]) ?_ ?_
          · intro hne
            have hne : ¬ comb k m c m.length = x.getD c 0 := by simpa using hne
            repeat (first | (refine CodeR.seq ?_) | (refine CodeR.reg rfl ?_) | (refine CodeR.regD rfl rfl rfl ?_) | (refine SeqR.done ?_) | (refine CodeR.block ?_) | (refine CodeR.skip ?_) | (refine CodeR.exit ?_; simp only [sA, Ex.then, Ex.inBlock, Nat.reduceEqDiff]) | (first | (refine SeqR.skipN ?_ rfl rfl ?_; (simp only [sA, wantE, T.get_set, Nat.reduceEqDiff] <;> with_reducible rfl)) | ((first | refine SeqR.stepN (v := ?_) (s' := ?_) rfl ?_ rfl ?_ rfl rfl ?_ | refine SeqR.stepLN (v := ?_) (s' := ?_) rfl ?_ rfl ?_ rfl rfl ?_); rotate_left 3; (intro call lc; simp only [sA, opE, kindOf, pureE, heapE, rho, rhos, T.get_set, Nat.reduceEqDiff, nb00, absV, absS, l_slice, l_void, l_str, l_arr, natE, loadE, isConst, TK.agg, u_notB, b_eqlB, b_neqB, b_add, b_sub, b_mul, b_lss, b_gtr, b_leq, b_geq, b_eql, b_neq, ty3, i3, si3, ty4, i4, si4, ty22, i22, si22, ty23, i23, si23, ty24, i24, si24, ty25, i25, si25, ty169, i169, si169, ty171, i171, si171, ty245, i245, si245] <;> rfl); rotate_left 1; (simp only [sA, wantE, T.get_set, Nat.reduceEqDiff] <;> with_reducible rfl))))
            refine CodeR.ret ⟨.inr rfl, [.bool false], by (show ressE E _ _ [.tmp 6] = _; simp only [sA, ressE, resE, T.get_set, Nat.reduceEqDiff, u_notB, b_eqlB, b_neqB, b_add, b_sub, b_mul, b_lss, b_gtr, b_leq, b_geq, b_eql, b_neq, ty3, i3, si3, ty4, i4, si4, ty22, i22, si22, ty23, i23, si23, ty24, i24, si24, ty25, i25, si25, ty169, i169, si169, ty171, i171, si171, ty245, i245, si245]), ?_⟩
            refine ⟨u1, hK6, false, rfl, ?_⟩
            simp only [Bool.false_eq_true, false_iff]
            intro h
            exact hne (h.2.2.2.2.2 c hlt')
          · intro hne
            have hne : comb k m c m.length = x.getD c 0 := by simpa using hne
            have e5 : wr .i64 (Int.ofNat c + 1) = Int.ofNat (c + 1) := wr_add (b := 1) (by omega)
            repeat (first | (refine CodeR.seq ?_) | (refine CodeR.reg rfl ?_) | (refine CodeR.regD rfl rfl rfl ?_) | (refine SeqR.done ?_) | (refine CodeR.block ?_) | (refine CodeR.skip ?_) | (refine CodeR.exit ?_; simp only [sA, Ex.then, Ex.inBlock, Nat.reduceEqDiff]) | (first | (refine SeqR.skipN ?_ rfl rfl ?_; (simp only [sA, wantE, T.get_set, Nat.reduceEqDiff, h45, e5] <;> with_reducible rfl)) | ((first | refine SeqR.stepN (v := ?_) (s' := ?_) rfl ?_ rfl ?_ rfl rfl ?_ | refine SeqR.stepLN (v := ?_) (s' := ?_) rfl ?_ rfl ?_ rfl rfl ?_); rotate_left 3; (intro call lc; simp only [sA, opE, kindOf, pureE, heapE, rho, rhos, T.get_set, Nat.reduceEqDiff, nb00, absV, absS, l_slice, l_void, l_str, l_arr, natE, loadE, isConst, TK.agg, u_notB, b_eqlB, b_neqB, b_add, b_sub, b_mul, b_lss, b_gtr, b_leq, b_geq, b_eql, b_neq, ty3, i3, si3, ty4, i4, si4, ty22, i22, si22, ty23, i23, si23, ty24, i24, si24, ty25, i25, si25, ty169, i169, si169, ty171, i171, si171, ty245, i245, si245, h45, e5] <;> rfl); rotate_left 1; (simp only [sA, wantE, T.get_set, Nat.reduceEqDiff, h45, e5] <;> with_reducible rfl))))
            refine ⟨q - 1, by omega, u1, hK6, c + 1, _, rfl, by omega, fun j hj => ?_, ?_, ?_, ?_, ?_, ?_⟩
            · by_cases hjc : j = c
              · subst hjc; exact hne
              · exact hok j (by omega)
            simp only [T.get_set, Nat.reduceEqDiff, if_true, if_false, h0]
            simp only [T.get_set, Nat.reduceEqDiff, if_true, if_false, h1]
            simp only [T.get_set, Nat.reduceEqDiff, if_true, if_false, h43]
            simp only [T.get_set, Nat.reduceEqDiff, if_true, if_false, h44]
            simp only [T.get_set, Nat.reduceEqDiff, if_true, if_false]
        · intro hge
          have hge' : ¬ c < x.length := by simpa using hge
          repeat (first | (refine CodeR.seq ?_) | (refine CodeR.reg rfl ?_) | (refine CodeR.regD rfl rfl rfl ?_) | (refine SeqR.done ?_) | (refine CodeR.block ?_) | (refine CodeR.skip ?_) | (refine CodeR.exit ?_; simp only [sA, Ex.then, Ex.inBlock, Nat.reduceEqDiff]) | (first | (refine SeqR.skipN ?_ rfl rfl ?_; (simp only [sA, wantE, T.get_set, Nat.reduceEqDiff] <;> with_reducible rfl)) | ((first | refine SeqR.stepN (v := ?_) (s' := ?_) rfl ?_ rfl ?_ rfl rfl ?_ | refine SeqR.stepLN (v := ?_) (s' := ?_) rfl ?_ rfl ?_ rfl rfl ?_); rotate_left 3; (intro call lc; simp only [sA, opE, kindOf, pureE, heapE, rho, rhos, T.get_set, Nat.reduceEqDiff, nb00, absV, absS, l_slice, l_void, l_str, l_arr, natE, loadE, isConst, TK.agg, u_notB, b_eqlB, b_neqB, b_add, b_sub, b_mul, b_lss, b_gtr, b_leq, b_geq, b_eql, b_neq, ty3, i3, si3, ty4, i4, si4, ty22, i22, si22, ty23, i23, si23, ty24, i24, si24, ty25, i25, si25, ty169, i169, si169, ty171, i171, si171, ty245, i245, si245] <;> rfl); rotate_left 1; (simp only [sA, wantE, T.get_set, Nat.reduceEqDiff] <;> with_reducible rfl))))
          refine CodeR.ret ⟨.inr rfl, [.bool true], by (show ressE E _ _ [.tmp 6] = _; simp only [sA, ressE, resE, T.get_set, Nat.reduceEqDiff, u_notB, b_eqlB, b_neqB, b_add, b_sub, b_mul, b_lss, b_gtr, b_leq, b_geq, b_eql, b_neq, ty3, i3, si3, ty4, i4, si4, ty22, i22, si22, ty23, i23, si23, ty24, i24, si24, ty25, i25, si25, ty169, i169, si169, ty171, i171, si171, ty245, i245, si245]), ?_⟩
          refine ⟨hF1, hK1, true, rfl, ?_⟩
          simp only [true_iff]
          exact ⟨hR, e1, e4, nk, nx, fun j hj => hok j (by omega)⟩
end Go.Proofs.YtaocoplfdhcoaaaGreatDoor.EvA

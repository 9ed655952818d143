/- schismaref07.Check, schismalaw55.right and few, run. -/
import Derived.Test.YtaocoplfdhcoaaaGreatDoorSp31
set_option linter.unusedVariables false
set_option linter.unusedSimpArgs false
set_option maxRecDepth 20000
set_option maxHeartbeats 2000000
namespace Go.Proofs.YtaocoplfdhcoaaaGreatDoor.EvA
open Go Go.RowKit Go.Proofs.YtaocoplfdhcoaaaGreatDoor.Ev
theorem fn94' : E.fns.get 94 = some Tryz.f94 := by kernel_rfl
theorem fn17' : E.fns.get 17 = some Tryz.f17 := by kernel_rfl
theorem fn49' : E.fns.get 49 = some Tryz.f49 := by kernel_rfl
theorem fn137' : E.fns.get 137 = some Tryz.f137 := by kernel_rfl
theorem fn93' : E.fns.get 93 = some Tryz.f93 := by kernel_rfl
theorem fn16' : E.fns.get 16 = some Tryz.f16 := by kernel_rfl
theorem check_run {lo : Nat} {d : AV} {m : List (List Int)} {s : St} (hd : MZ s.h m d) (hF : Fresh s) :
    FunR E lo 94 [d] s fun v s' => s = s' ∧ ∃ e, v = .int .i64 e ∧ (e = 0 ↔ RightM m) := by
  refine FunR.body (fn := Tryz.f94) fn94' rfl ?_
  have hn : (max ([d] : List AV).length Tryz.f94.ntmps) = 57 := rfl
  generalize max ([d] : List AV).length Tryz.f94.ntmps = n at hn
  subst hn
  have g0 : (argsT 0 ([d] : List AV)).get 0 = some (d) := rfl
  generalize argsT 0 ([d] : List AV) = T0 at g0 ⊢
  have hn : (57 : Nat) = 57 := rfl
  have ld := hd.len 25
  have e1 : ltB 12 (Int.ofNat m.length) = decide (12 < m.length) := ltB_nat 12 _
  repeat (first | (refine CodeR.seq ?_) | (refine CodeR.reg rfl ?_) | (refine CodeR.regD rfl rfl rfl ?_) | (refine SeqR.done ?_) | (refine CodeR.block ?_) | (refine CodeR.skip ?_) | (refine CodeR.exit ?_; simp only [sA, Ex.then, Ex.inBlock, Nat.reduceEqDiff]) | (first | (refine SeqR.skipN ?_ rfl rfl ?_; (simp only [sA, wantE, T.get_set, Nat.reduceEqDiff, g0, ld, e1] <;> with_reducible rfl)) | ((first | refine SeqR.stepN (v := ?_) (s' := ?_) rfl ?_ rfl ?_ rfl rfl ?_ | refine SeqR.stepLN (v := ?_) (s' := ?_) rfl ?_ rfl ?_ rfl rfl ?_); rotate_left 3; (intro call lc; simp only [sA, opE, kindOf, pureE, heapE, rho, rhos, T.get_set, Nat.reduceEqDiff, nb00, absV, absS, l_slice, l_void, l_str, l_arr, natE, loadE, isConst, TK.agg, u_notB, b_eqlB, b_neqB, b_add, b_sub, b_mul, b_lss, b_gtr, b_leq, b_geq, b_eql, b_neq, ty3, i3, si3, ty23, i23, si23, ty25, i25, si25, g0, ld, e1] <;> rfl); rotate_left 1; (simp only [sA, wantE, T.get_set, Nat.reduceEqDiff, g0, ld, e1] <;> with_reducible rfl))))
  refine CodeR.cond (t := decide (12 < m.length)) (by simp only [sA, rho, T.get_set, Nat.reduceEqDiff, u_notB, b_eqlB, b_neqB, b_add, b_sub, b_mul, b_lss, b_gtr, b_leq, b_geq, b_eql, b_neq, ty3, i3, si3, ty23, i23, si23, ty25, i25, si25]) ?_ ?_
  · intro h
    have h : 12 < m.length := by simpa using h
    repeat (first | (refine CodeR.seq ?_) | (refine CodeR.reg rfl ?_) | (refine CodeR.regD rfl rfl rfl ?_) | (refine SeqR.done ?_) | (refine CodeR.block ?_) | (refine CodeR.skip ?_) | (refine CodeR.exit ?_; simp only [sA, Ex.then, Ex.inBlock, Nat.reduceEqDiff]) | (first | (refine SeqR.skipN ?_ rfl rfl ?_; (simp only [sA, wantE, T.get_set, Nat.reduceEqDiff] <;> with_reducible rfl)) | ((first | refine SeqR.stepN (v := ?_) (s' := ?_) rfl ?_ rfl ?_ rfl rfl ?_ | refine SeqR.stepLN (v := ?_) (s' := ?_) rfl ?_ rfl ?_ rfl rfl ?_); rotate_left 3; (intro call lc; simp only [sA, opE, kindOf, pureE, heapE, rho, rhos, T.get_set, Nat.reduceEqDiff, nb00, absV, absS, l_slice, l_void, l_str, l_arr, natE, loadE, isConst, TK.agg, u_notB, b_eqlB, b_neqB, b_add, b_sub, b_mul, b_lss, b_gtr, b_leq, b_geq, b_eql, b_neq, ty3, i3, si3, ty23, i23, si23, ty25, i25, si25] <;> rfl); rotate_left 1; (simp only [sA, wantE, T.get_set, Nat.reduceEqDiff] <;> with_reducible rfl))))
    refine CodeR.ret ⟨.inr rfl, [.int .i64 4], by (show ressE E _ _ [.tmp 2] = _; simp only [sA, ressE, resE, T.get_set, Nat.reduceEqDiff, u_notB, b_eqlB, b_neqB, b_add, b_sub, b_mul, b_lss, b_gtr, b_leq, b_geq, b_eql, b_neq, ty3, i3, si3, ty23, i23, si23, ty25, i25, si25]), ?_⟩
    exact ⟨rfl, 4, rfl, by simp [right_iff]; omega⟩
  · intro h
    have h : m.length ≤ 12 := by simpa using h
    repeat (first | (refine CodeR.seq ?_) | (refine CodeR.reg rfl ?_) | (refine CodeR.regD rfl rfl rfl ?_) | (refine SeqR.done ?_) | (refine CodeR.block ?_) | (refine CodeR.skip ?_) | (refine CodeR.exit ?_; simp only [sA, Ex.then, Ex.inBlock, Nat.reduceEqDiff]) | (first | (refine SeqR.skipN ?_ rfl rfl ?_; (simp only [sA, wantE, T.get_set, Nat.reduceEqDiff, g0, ld] <;> with_reducible rfl)) | ((first | refine SeqR.stepN (v := ?_) (s' := ?_) rfl ?_ rfl ?_ rfl rfl ?_ | refine SeqR.stepLN (v := ?_) (s' := ?_) rfl ?_ rfl ?_ rfl rfl ?_); rotate_left 3; (intro call lc; simp only [sA, opE, kindOf, pureE, heapE, rho, rhos, T.get_set, Nat.reduceEqDiff, nb00, absV, absS, l_slice, l_void, l_str, l_arr, natE, loadE, isConst, TK.agg, u_notB, b_eqlB, b_neqB, b_add, b_sub, b_mul, b_lss, b_gtr, b_leq, b_geq, b_eql, b_neq, ty3, i3, si3, ty23, i23, si23, ty25, i25, si25, g0, ld] <;> rfl); rotate_left 1; (simp only [sA, wantE, T.get_set, Nat.reduceEqDiff, g0, ld] <;> with_reducible rfl))))
    refine CodeR.loop (fun k mm s1 => s = s1 ∧ ∃ i T1, mm = ⟨57, T1⟩ ∧ i + k = m.length ∧ T1.get 0 = some d ∧ T1.get 3 = some (.int .i64 (Int.ofNat i)) ∧ ∀ j, j < i → RowOK m j) m.length ?_ ?_
    · refine ⟨rfl, 0, _, rfl, by omega, ?_, ?_, fun j hj => by omega⟩
      simp only [T.get_set, Nat.reduceEqDiff, if_true, if_false, g0]
      simp only [T.get_set, Nat.reduceEqDiff, if_true, if_false]
      · rfl
    · rintro k mm s1 ⟨rfl, i, T1, rfl, hik, h0, h3, hok⟩
      repeat (first | (refine CodeR.seq ?_) | (refine CodeR.reg rfl ?_) | (refine CodeR.regD rfl rfl rfl ?_) | (refine SeqR.done ?_) | (refine CodeR.block ?_) | (refine CodeR.skip ?_) | (refine CodeR.exit ?_; simp only [sA, Ex.then, Ex.inBlock, Nat.reduceEqDiff]) | (first | (refine SeqR.skipN ?_ rfl rfl ?_; (simp only [sA, wantE, T.get_set, Nat.reduceEqDiff, h0, h3, ld, ltB_nat] <;> with_reducible rfl)) | ((first | refine SeqR.stepN (v := ?_) (s' := ?_) rfl ?_ rfl ?_ rfl rfl ?_ | refine SeqR.stepLN (v := ?_) (s' := ?_) rfl ?_ rfl ?_ rfl rfl ?_); rotate_left 3; (intro call lc; simp only [sA, opE, kindOf, pureE, heapE, rho, rhos, T.get_set, Nat.reduceEqDiff, nb00, absV, absS, l_slice, l_void, l_str, l_arr, natE, loadE, isConst, TK.agg, u_notB, b_eqlB, b_neqB, b_add, b_sub, b_mul, b_lss, b_gtr, b_leq, b_geq, b_eql, b_neq, ty3, i3, si3, ty23, i23, si23, ty25, i25, si25, h0, h3, ld, ltB_nat] <;> rfl); rotate_left 1; (simp only [sA, wantE, T.get_set, Nat.reduceEqDiff, h0, h3, ld, ltB_nat] <;> with_reducible rfl))))
      refine CodeR.cond (t := decide (i < m.length)) (by simp only [sA, rho, T.get_set, Nat.reduceEqDiff, u_notB, b_eqlB, b_neqB, b_add, b_sub, b_mul, b_lss, b_gtr, b_leq, b_geq, b_eql, b_neq, ty3, i3, si3, ty23, i23, si23, ty25, i25, si25]) ?_ ?_
      · intro hlt
        have hlt' : i < m.length := by simpa using hlt
        obtain ⟨b, o, n, c, q, kk, r, rfl, f1, f2, f3, f4⟩ := hd.row hlt'
        obtain ⟨b', o', n', c', q', kk', r0, hv, f5, f6, f7, f8⟩ := hd.row (i := 0) (by omega)
        simp only [AV.slice.injEq, Option.some.injEq, Prod.mk.injEq] at hv
        obtain ⟨⟨rfl, rfl⟩, rfl, rfl, rfl⟩ := hv
        have f9 : Nat.blt b s.c = true := blt_iff.2 (hF.lt b kk f2)
        have lr := lenR f4 3
        have l0 := lenR f8 3
        rw [Nat.add_zero] at f7
        rw [f2, Option.some.injEq] at f6
        subst f6
        have e12 : ltB 12 (Int.ofNat (m.getD i []).length) = decide (12 < (m.getD i []).length) := ltB_nat 12 _
        repeat (first | (refine CodeR.seq ?_) | (refine CodeR.reg rfl ?_) | (refine CodeR.regD rfl rfl rfl ?_) | (refine SeqR.done ?_) | (refine CodeR.block ?_) | (refine CodeR.skip ?_) | (refine CodeR.exit ?_; simp only [sA, Ex.then, Ex.inBlock, Nat.reduceEqDiff]) | (first | (refine SeqR.skipN ?_ rfl rfl ?_; (simp only [sA, wantE, T.get_set, Nat.reduceEqDiff, h0, h3, f1, f2, f3, f5, f7, f9, lr, l0, e12] <;> with_reducible rfl)) | ((first | refine SeqR.stepN (v := ?_) (s' := ?_) rfl ?_ rfl ?_ rfl rfl ?_ | refine SeqR.stepLN (v := ?_) (s' := ?_) rfl ?_ rfl ?_ rfl rfl ?_); rotate_left 3; (intro call lc; simp only [sA, opE, kindOf, pureE, heapE, rho, rhos, T.get_set, Nat.reduceEqDiff, nb00, absV, absS, l_slice, l_void, l_str, l_arr, natE, loadE, isConst, TK.agg, u_notB, b_eqlB, b_neqB, b_add, b_sub, b_mul, b_lss, b_gtr, b_leq, b_geq, b_eql, b_neq, ty3, i3, si3, ty23, i23, si23, ty25, i25, si25, h0, h3, f1, f2, f3, f5, f7, f9, lr, l0, e12] <;> rfl); rotate_left 1; (simp only [sA, wantE, T.get_set, Nat.reduceEqDiff, h0, h3, f1, f2, f3, f5, f7, f9, lr, l0, e12] <;> with_reducible rfl))))
        refine CodeR.cond (t := decide (12 < (m.getD i []).length)) (by simp only [sA, rho, T.get_set, Nat.reduceEqDiff, u_notB, b_eqlB, b_neqB, b_add, b_sub, b_mul, b_lss, b_gtr, b_leq, b_geq, b_eql, b_neq, ty3, i3, si3, ty23, i23, si23, ty25, i25, si25]) ?_ ?_
        · intro h12
          have h12 : 12 < (m.getD i []).length := by simpa using h12
          repeat (first | (refine CodeR.seq ?_) | (refine CodeR.reg rfl ?_) | (refine CodeR.regD rfl rfl rfl ?_) | (refine SeqR.done ?_) | (refine CodeR.block ?_) | (refine CodeR.skip ?_) | (refine CodeR.exit ?_; simp only [sA, Ex.then, Ex.inBlock, Nat.reduceEqDiff]) | (first | (refine SeqR.skipN ?_ rfl rfl ?_; (simp only [sA, wantE, T.get_set, Nat.reduceEqDiff] <;> with_reducible rfl)) | ((first | refine SeqR.stepN (v := ?_) (s' := ?_) rfl ?_ rfl ?_ rfl rfl ?_ | refine SeqR.stepLN (v := ?_) (s' := ?_) rfl ?_ rfl ?_ rfl rfl ?_); rotate_left 3; (intro call lc; simp only [sA, opE, kindOf, pureE, heapE, rho, rhos, T.get_set, Nat.reduceEqDiff, nb00, absV, absS, l_slice, l_void, l_str, l_arr, natE, loadE, isConst, TK.agg, u_notB, b_eqlB, b_neqB, b_add, b_sub, b_mul, b_lss, b_gtr, b_leq, b_geq, b_eql, b_neq, ty3, i3, si3, ty23, i23, si23, ty25, i25, si25] <;> rfl); rotate_left 1; (simp only [sA, wantE, T.get_set, Nat.reduceEqDiff] <;> with_reducible rfl))))
          refine CodeR.ret ⟨.inr rfl, [.int .i64 4], by (show ressE E _ _ [.tmp 2] = _; simp only [sA, ressE, resE, T.get_set, Nat.reduceEqDiff, u_notB, b_eqlB, b_neqB, b_add, b_sub, b_mul, b_lss, b_gtr, b_leq, b_geq, b_eql, b_neq, ty3, i3, si3, ty23, i23, si23, ty25, i25, si25]), ?_⟩
          refine ⟨rfl, 4, rfl, ?_⟩
          simp only [show ¬ (4 : Int) = 0 by decide, false_iff, right_iff]
          intro hc
          have := (hc.2 i hlt').1
          omega
        · intro h12
          have h12 : (m.getD i []).length ≤ 12 := by simpa using h12
          repeat (first | (refine CodeR.seq ?_) | (refine CodeR.reg rfl ?_) | (refine CodeR.regD rfl rfl rfl ?_) | (refine SeqR.done ?_) | (refine CodeR.block ?_) | (refine CodeR.skip ?_) | (refine CodeR.exit ?_; simp only [sA, Ex.then, Ex.inBlock, Nat.reduceEqDiff]) | (first | (refine SeqR.skipN ?_ rfl rfl ?_; (simp only [sA, wantE, T.get_set, Nat.reduceEqDiff, h0, h3, f1, f2, f3, f5, f7, f9, lr, l0, eqB_nat] <;> with_reducible rfl)) | ((first | refine SeqR.stepN (v := ?_) (s' := ?_) rfl ?_ rfl ?_ rfl rfl ?_ | refine SeqR.stepLN (v := ?_) (s' := ?_) rfl ?_ rfl ?_ rfl rfl ?_); rotate_left 3; (intro call lc; simp only [sA, opE, kindOf, pureE, heapE, rho, rhos, T.get_set, Nat.reduceEqDiff, nb00, absV, absS, l_slice, l_void, l_str, l_arr, natE, loadE, isConst, TK.agg, u_notB, b_eqlB, b_neqB, b_add, b_sub, b_mul, b_lss, b_gtr, b_leq, b_geq, b_eql, b_neq, ty3, i3, si3, ty23, i23, si23, ty25, i25, si25, h0, h3, f1, f2, f3, f5, f7, f9, lr, l0, eqB_nat] <;> rfl); rotate_left 1; (simp only [sA, wantE, T.get_set, Nat.reduceEqDiff, h0, h3, f1, f2, f3, f5, f7, f9, lr, l0, eqB_nat] <;> with_reducible rfl))))
          refine CodeR.cond (t := !decide ((m.getD i []).length = (m.getD 0 []).length)) (by simp only [sA, rho, T.get_set, Nat.reduceEqDiff, u_notB, b_eqlB, b_neqB, b_add, b_sub, b_mul, b_lss, b_gtr, b_leq, b_geq, b_eql, b_neq, ty3, i3, si3, ty23, i23, si23, ty25, i25, si25]) ?_ ?_
          · intro hl
            have hl : ¬ (m.getD i []).length = (m.getD 0 []).length := by simpa using hl
            repeat (first | (refine CodeR.seq ?_) | (refine CodeR.reg rfl ?_) | (refine CodeR.regD rfl rfl rfl ?_) | (refine SeqR.done ?_) | (refine CodeR.block ?_) | (refine CodeR.skip ?_) | (refine CodeR.exit ?_; simp only [sA, Ex.then, Ex.inBlock, Nat.reduceEqDiff]) | (first | (refine SeqR.skipN ?_ rfl rfl ?_; (simp only [sA, wantE, T.get_set, Nat.reduceEqDiff] <;> with_reducible rfl)) | ((first | refine SeqR.stepN (v := ?_) (s' := ?_) rfl ?_ rfl ?_ rfl rfl ?_ | refine SeqR.stepLN (v := ?_) (s' := ?_) rfl ?_ rfl ?_ rfl rfl ?_); rotate_left 3; (intro call lc; simp only [sA, opE, kindOf, pureE, heapE, rho, rhos, T.get_set, Nat.reduceEqDiff, nb00, absV, absS, l_slice, l_void, l_str, l_arr, natE, loadE, isConst, TK.agg, u_notB, b_eqlB, b_neqB, b_add, b_sub, b_mul, b_lss, b_gtr, b_leq, b_geq, b_eql, b_neq, ty3, i3, si3, ty23, i23, si23, ty25, i25, si25] <;> rfl); rotate_left 1; (simp only [sA, wantE, T.get_set, Nat.reduceEqDiff] <;> with_reducible rfl))))
            refine CodeR.ret ⟨.inr rfl, [.int .i64 5], by (show ressE E _ _ [.tmp 2] = _; simp only [sA, ressE, resE, T.get_set, Nat.reduceEqDiff, u_notB, b_eqlB, b_neqB, b_add, b_sub, b_mul, b_lss, b_gtr, b_leq, b_geq, b_eql, b_neq, ty3, i3, si3, ty23, i23, si23, ty25, i25, si25]), ?_⟩
            refine ⟨rfl, 5, rfl, ?_⟩
            simp only [show ¬ (5 : Int) = 0 by decide, false_iff, right_iff]
            intro hc
            exact hl (hc.2 i hlt').2.1
          · intro hl
            have hl : (m.getD i []).length = (m.getD 0 []).length := by simpa using hl
            repeat (first | (refine CodeR.seq ?_) | (refine CodeR.reg rfl ?_) | (refine CodeR.regD rfl rfl rfl ?_) | (refine SeqR.done ?_) | (refine CodeR.block ?_) | (refine CodeR.skip ?_) | (refine CodeR.exit ?_; simp only [sA, Ex.then, Ex.inBlock, Nat.reduceEqDiff]) | (first | (refine SeqR.skipN ?_ rfl rfl ?_; (simp only [sA, wantE, T.get_set, Nat.reduceEqDiff] <;> with_reducible rfl)) | ((first | refine SeqR.stepN (v := ?_) (s' := ?_) rfl ?_ rfl ?_ rfl rfl ?_ | refine SeqR.stepLN (v := ?_) (s' := ?_) rfl ?_ rfl ?_ rfl rfl ?_); rotate_left 3; (intro call lc; simp only [sA, opE, kindOf, pureE, heapE, rho, rhos, T.get_set, Nat.reduceEqDiff, nb00, absV, absS, l_slice, l_void, l_str, l_arr, natE, loadE, isConst, TK.agg, u_notB, b_eqlB, b_neqB, b_add, b_sub, b_mul, b_lss, b_gtr, b_leq, b_geq, b_eql, b_neq, ty3, i3, si3, ty23, i23, si23, ty25, i25, si25] <;> rfl); rotate_left 1; (simp only [sA, wantE, T.get_set, Nat.reduceEqDiff] <;> with_reducible rfl))))
            refine CodeR.loop (fun k mm s1 => s = s1 ∧ ∃ j T2, mm = ⟨57, T2⟩ ∧ j + k = (m.getD i []).length ∧ T2.get 0 = some (.slice (some (b, o)) n c q) ∧ T2.get 3 = some (.int .i64 (Int.ofNat i)) ∧ T2.get 4 = some (.int .i64 (Int.ofNat j)) ∧ ∀ a, a < j → Near ((m.getD i []).getD a 0)) (m.getD i []).length ?_ ?_
            · refine ⟨rfl, 0, _, rfl, by omega, ?_, ?_, ?_, fun j hj => by omega⟩
              simp only [T.get_set, Nat.reduceEqDiff, if_true, if_false, h0]
              simp only [T.get_set, Nat.reduceEqDiff, if_true, if_false, h3]
              simp only [T.get_set, Nat.reduceEqDiff, if_true, if_false]
              · rfl
            · rintro k2 mm s1 ⟨rfl, j, T2, rfl, hjk, h0, h3, h4, hnear⟩
              repeat (first | (refine CodeR.seq ?_) | (refine CodeR.reg rfl ?_) | (refine CodeR.regD rfl rfl rfl ?_) | (refine SeqR.done ?_) | (refine CodeR.block ?_) | (refine CodeR.skip ?_) | (refine CodeR.exit ?_; simp only [sA, Ex.then, Ex.inBlock, Nat.reduceEqDiff]) | (first | (refine SeqR.skipN ?_ rfl rfl ?_; (simp only [sA, wantE, T.get_set, Nat.reduceEqDiff, h0, h3, h4, f1, f2, f3, f9, lr, ltB_nat] <;> with_reducible rfl)) | ((first | refine SeqR.stepN (v := ?_) (s' := ?_) rfl ?_ rfl ?_ rfl rfl ?_ | refine SeqR.stepLN (v := ?_) (s' := ?_) rfl ?_ rfl ?_ rfl rfl ?_); rotate_left 3; (intro call lc; simp only [sA, opE, kindOf, pureE, heapE, rho, rhos, T.get_set, Nat.reduceEqDiff, nb00, absV, absS, l_slice, l_void, l_str, l_arr, natE, loadE, isConst, TK.agg, u_notB, b_eqlB, b_neqB, b_add, b_sub, b_mul, b_lss, b_gtr, b_leq, b_geq, b_eql, b_neq, ty3, i3, si3, ty23, i23, si23, ty25, i25, si25, h0, h3, h4, f1, f2, f3, f9, lr, ltB_nat] <;> rfl); rotate_left 1; (simp only [sA, wantE, T.get_set, Nat.reduceEqDiff, h0, h3, h4, f1, f2, f3, f9, lr, ltB_nat] <;> with_reducible rfl))))
              refine CodeR.cond (t := decide (j < (m.getD i []).length)) (by simp only [sA, rho, T.get_set, Nat.reduceEqDiff, u_notB, b_eqlB, b_neqB, b_add, b_sub, b_mul, b_lss, b_gtr, b_leq, b_geq, b_eql, b_neq, ty3, i3, si3, ty23, i23, si23, ty25, i25, si25]) ?_ ?_
              · intro hjl
                have hjl' : j < (m.getD i []).length := by simpa using hjl
                obtain ⟨b2, o2, n2, c2, q2, k3, rfl, p1, p2, p3⟩ := Row.zint f4 hjl'
                have p4 : Nat.blt b2 s.c = true := blt_iff.2 (hF.lt b2 k3 p2)
                have hfar : farB ((m.getD i []).getD j 0) = true ∨ farB ((m.getD i []).getD j 0) = false := by cases farB ((m.getD i []).getD j 0) <;> simp
                generalize hz : (m.getD i []).getD j 0 = z at *
                have hfn : farB z = false ↔ Near z := by
                  unfold farB Near
                  rw [ltB_eq, ltB_eq]
                  simp
                  omega
                refine CodeR.skip ?_
                refine CodeR.seq (CodeR.block (CodeR.seq (CodeR.mono (Q := fun e m' s' => e = .nrm ∧ s = s' ∧ ∃ T3, m' = ⟨57, T3⟩ ∧ T3.get 0 = some (.slice (some (b, o)) n c q) ∧ T3.get 3 = some (.int .i64 (Int.ofNat i)) ∧ T3.get 4 = some (.int .i64 (Int.ofNat j)) ∧ T3.get 56 = some (.bool (farB z))) (CodeR.reg rfl ?_) ?_)))
                · cases hg1 : ltB 1000000000 z with
                  | true =>
                    repeat (first | (refine CodeR.seq ?_) | (refine CodeR.reg rfl ?_) | (refine CodeR.regD rfl rfl rfl ?_) | (refine SeqR.done ?_) | (refine CodeR.block ?_) | (refine CodeR.skip ?_) | (refine CodeR.exit ?_; simp only [sA, Ex.then, Ex.inBlock, Nat.reduceEqDiff]) | (first | (refine SeqR.skipN ?_ rfl rfl ?_; (simp only [sA, wantE, T.get_set, Nat.reduceEqDiff, h0, h3, h4, f1, f2, f3, f9, p1, p2, p3, p4, hg1] <;> with_reducible rfl)) | ((first | refine SeqR.stepN (v := ?_) (s' := ?_) rfl ?_ rfl ?_ rfl rfl ?_ | refine SeqR.stepLN (v := ?_) (s' := ?_) rfl ?_ rfl ?_ rfl rfl ?_); rotate_left 3; (intro call lc; simp only [sA, opE, kindOf, pureE, heapE, rho, rhos, T.get_set, Nat.reduceEqDiff, nb00, absV, absS, l_slice, l_void, l_str, l_arr, natE, loadE, isConst, TK.agg, u_notB, b_eqlB, b_neqB, b_add, b_sub, b_mul, b_lss, b_gtr, b_leq, b_geq, b_eql, b_neq, ty3, i3, si3, ty23, i23, si23, ty25, i25, si25, h0, h3, h4, f1, f2, f3, f9, p1, p2, p3, p4, hg1] <;> rfl); rotate_left 1; (simp only [sA, wantE, T.get_set, Nat.reduceEqDiff, h0, h3, h4, f1, f2, f3, f9, p1, p2, p3, p4, hg1] <;> with_reducible rfl))))
                    refine ⟨rfl, rfl, _, rfl, ?_, ?_, ?_, ?_⟩
                    simp only [T.get_set, Nat.reduceEqDiff, if_true, if_false, h0]
                    simp only [T.get_set, Nat.reduceEqDiff, if_true, if_false, h3]
                    simp only [T.get_set, Nat.reduceEqDiff, if_true, if_false, h4]
                    · simp only [T.get_set, if_true, farB, hg1, Bool.true_or]
                  | false =>
                    repeat (first | (refine CodeR.seq ?_) | (refine CodeR.reg rfl ?_) | (refine CodeR.regD rfl rfl rfl ?_) | (refine SeqR.done ?_) | (refine CodeR.block ?_) | (refine CodeR.skip ?_) | (refine CodeR.exit ?_; simp only [sA, Ex.then, Ex.inBlock, Nat.reduceEqDiff]) | (first | (refine SeqR.skipN ?_ rfl rfl ?_; (simp only [sA, wantE, T.get_set, Nat.reduceEqDiff, h0, h3, h4, f1, f2, f3, f9, p1, p2, p3, p4, hg1] <;> with_reducible rfl)) | ((first | refine SeqR.stepN (v := ?_) (s' := ?_) rfl ?_ rfl ?_ rfl rfl ?_ | refine SeqR.stepLN (v := ?_) (s' := ?_) rfl ?_ rfl ?_ rfl rfl ?_); rotate_left 3; (intro call lc; simp only [sA, opE, kindOf, pureE, heapE, rho, rhos, T.get_set, Nat.reduceEqDiff, nb00, absV, absS, l_slice, l_void, l_str, l_arr, natE, loadE, isConst, TK.agg, u_notB, b_eqlB, b_neqB, b_add, b_sub, b_mul, b_lss, b_gtr, b_leq, b_geq, b_eql, b_neq, ty3, i3, si3, ty23, i23, si23, ty25, i25, si25, h0, h3, h4, f1, f2, f3, f9, p1, p2, p3, p4, hg1] <;> rfl); rotate_left 1; (simp only [sA, wantE, T.get_set, Nat.reduceEqDiff, h0, h3, h4, f1, f2, f3, f9, p1, p2, p3, p4, hg1] <;> with_reducible rfl))))
                    refine ⟨rfl, rfl, _, rfl, ?_, ?_, ?_, ?_⟩
                    simp only [T.get_set, Nat.reduceEqDiff, if_true, if_false, h0]
                    simp only [T.get_set, Nat.reduceEqDiff, if_true, if_false, h3]
                    simp only [T.get_set, Nat.reduceEqDiff, if_true, if_false, h4]
                    · simp only [T.get_set, if_true, farB, hg1, Bool.false_or]
                · rintro e m' s' ⟨rfl, rfl, T3, rfl, h0, h3, h4, h56⟩
                  refine CodeR.cond (t := farB z) (by simp only [sA, rho, T.get_set, Nat.reduceEqDiff, u_notB, b_eqlB, b_neqB, b_add, b_sub, b_mul, b_lss, b_gtr, b_leq, b_geq, b_eql, b_neq, ty3, i3, si3, ty23, i23, si23, ty25, i25, si25, h56]) ?_ ?_
                  · intro hf
                    repeat (first | (refine CodeR.seq ?_) | (refine CodeR.reg rfl ?_) | (refine CodeR.regD rfl rfl rfl ?_) | (refine SeqR.done ?_) | (refine CodeR.block ?_) | (refine CodeR.skip ?_) | (refine CodeR.exit ?_; simp only [sA, Ex.then, Ex.inBlock, Nat.reduceEqDiff]) | (first | (refine SeqR.skipN ?_ rfl rfl ?_; (simp only [sA, wantE, T.get_set, Nat.reduceEqDiff] <;> with_reducible rfl)) | ((first | refine SeqR.stepN (v := ?_) (s' := ?_) rfl ?_ rfl ?_ rfl rfl ?_ | refine SeqR.stepLN (v := ?_) (s' := ?_) rfl ?_ rfl ?_ rfl rfl ?_); rotate_left 3; (intro call lc; simp only [sA, opE, kindOf, pureE, heapE, rho, rhos, T.get_set, Nat.reduceEqDiff, nb00, absV, absS, l_slice, l_void, l_str, l_arr, natE, loadE, isConst, TK.agg, u_notB, b_eqlB, b_neqB, b_add, b_sub, b_mul, b_lss, b_gtr, b_leq, b_geq, b_eql, b_neq, ty3, i3, si3, ty23, i23, si23, ty25, i25, si25] <;> rfl); rotate_left 1; (simp only [sA, wantE, T.get_set, Nat.reduceEqDiff] <;> with_reducible rfl))))
                    refine CodeR.ret ⟨.inr rfl, [.int .i64 4], by (show ressE E _ _ [.tmp 2] = _; simp only [sA, ressE, resE, T.get_set, Nat.reduceEqDiff, u_notB, b_eqlB, b_neqB, b_add, b_sub, b_mul, b_lss, b_gtr, b_leq, b_geq, b_eql, b_neq, ty3, i3, si3, ty23, i23, si23, ty25, i25, si25]), ?_⟩
                    refine ⟨rfl, 4, rfl, ?_⟩
                    simp only [show ¬ (4 : Int) = 0 by decide, false_iff, right_iff]
                    intro hc
                    have := (hc.2 i hlt').2.2 j hjl'
                    rw [hz, ← hfn, hf] at this
                    cases this
                  · intro hf
                    have e5 : wr .i64 (Int.ofNat j + 1) = Int.ofNat (j + 1) := wr_add (b := 1) (by omega)
                    repeat (first | (refine CodeR.seq ?_) | (refine CodeR.reg rfl ?_) | (refine CodeR.regD rfl rfl rfl ?_) | (refine SeqR.done ?_) | (refine CodeR.block ?_) | (refine CodeR.skip ?_) | (refine CodeR.exit ?_; simp only [sA, Ex.then, Ex.inBlock, Nat.reduceEqDiff]) | (first | (refine SeqR.skipN ?_ rfl rfl ?_; (simp only [sA, wantE, T.get_set, Nat.reduceEqDiff, h4, e5] <;> with_reducible rfl)) | ((first | refine SeqR.stepN (v := ?_) (s' := ?_) rfl ?_ rfl ?_ rfl rfl ?_ | refine SeqR.stepLN (v := ?_) (s' := ?_) rfl ?_ rfl ?_ rfl rfl ?_); rotate_left 3; (intro call lc; simp only [sA, opE, kindOf, pureE, heapE, rho, rhos, T.get_set, Nat.reduceEqDiff, nb00, absV, absS, l_slice, l_void, l_str, l_arr, natE, loadE, isConst, TK.agg, u_notB, b_eqlB, b_neqB, b_add, b_sub, b_mul, b_lss, b_gtr, b_leq, b_geq, b_eql, b_neq, ty3, i3, si3, ty23, i23, si23, ty25, i25, si25, h4, e5] <;> rfl); rotate_left 1; (simp only [sA, wantE, T.get_set, Nat.reduceEqDiff, h4, e5] <;> with_reducible rfl))))
                    refine ⟨k2 - 1, by omega, rfl, j + 1, _, rfl, by omega, ?_, ?_, ?_, fun a ha => ?_⟩
                    simp only [T.get_set, Nat.reduceEqDiff, if_true, if_false, h0]
                    simp only [T.get_set, Nat.reduceEqDiff, if_true, if_false, h3]
                    simp only [T.get_set, Nat.reduceEqDiff, if_true, if_false]
                    · by_cases haj : a = j
                      · subst haj; rw [hz]; exact hfn.1 hf
                      · exact hnear a (by omega)
              · intro hjl
                have hjl' : ¬ j < (m.getD i []).length := by simpa using hjl
                have e5 : wr .i64 (Int.ofNat i + 1) = Int.ofNat (i + 1) := wr_add (b := 1) (by omega)
                repeat (first | (refine CodeR.seq ?_) | (refine CodeR.reg rfl ?_) | (refine CodeR.regD rfl rfl rfl ?_) | (refine SeqR.done ?_) | (refine CodeR.block ?_) | (refine CodeR.skip ?_) | (refine CodeR.exit ?_; simp only [sA, Ex.then, Ex.inBlock, Nat.reduceEqDiff]) | (first | (refine SeqR.skipN ?_ rfl rfl ?_; (simp only [sA, wantE, T.get_set, Nat.reduceEqDiff, h3, e5] <;> with_reducible rfl)) | ((first | refine SeqR.stepN (v := ?_) (s' := ?_) rfl ?_ rfl ?_ rfl rfl ?_ | refine SeqR.stepLN (v := ?_) (s' := ?_) rfl ?_ rfl ?_ rfl rfl ?_); rotate_left 3; (intro call lc; simp only [sA, opE, kindOf, pureE, heapE, rho, rhos, T.get_set, Nat.reduceEqDiff, nb00, absV, absS, l_slice, l_void, l_str, l_arr, natE, loadE, isConst, TK.agg, u_notB, b_eqlB, b_neqB, b_add, b_sub, b_mul, b_lss, b_gtr, b_leq, b_geq, b_eql, b_neq, ty3, i3, si3, ty23, i23, si23, ty25, i25, si25, h3, e5] <;> rfl); rotate_left 1; (simp only [sA, wantE, T.get_set, Nat.reduceEqDiff, h3, e5] <;> with_reducible rfl))))
                refine ⟨k - 1, by omega, rfl, i + 1, _, rfl, by omega, ?_, ?_, fun a ha => ?_⟩
                simp only [T.get_set, Nat.reduceEqDiff, if_true, if_false, h0]
                simp only [T.get_set, Nat.reduceEqDiff, if_true, if_false]
                · by_cases hai : a = i
                  · subst hai; exact ⟨h12, hl, fun x hx => hnear x (by omega)⟩
                  · exact hok a (by omega)
      · intro hge
        have hge' : ¬ i < m.length := by simpa using hge
        repeat (first | (refine CodeR.seq ?_) | (refine CodeR.reg rfl ?_) | (refine CodeR.regD rfl rfl rfl ?_) | (refine SeqR.done ?_) | (refine CodeR.block ?_) | (refine CodeR.skip ?_) | (refine CodeR.exit ?_; simp only [sA, Ex.then, Ex.inBlock, Nat.reduceEqDiff]) | (first | (refine SeqR.skipN ?_ rfl rfl ?_; (simp only [sA, wantE, T.get_set, Nat.reduceEqDiff] <;> with_reducible rfl)) | ((first | refine SeqR.stepN (v := ?_) (s' := ?_) rfl ?_ rfl ?_ rfl rfl ?_ | refine SeqR.stepLN (v := ?_) (s' := ?_) rfl ?_ rfl ?_ rfl rfl ?_); rotate_left 3; (intro call lc; simp only [sA, opE, kindOf, pureE, heapE, rho, rhos, T.get_set, Nat.reduceEqDiff, nb00, absV, absS, l_slice, l_void, l_str, l_arr, natE, loadE, isConst, TK.agg, u_notB, b_eqlB, b_neqB, b_add, b_sub, b_mul, b_lss, b_gtr, b_leq, b_geq, b_eql, b_neq, ty3, i3, si3, ty23, i23, si23, ty25, i25, si25] <;> rfl); rotate_left 1; (simp only [sA, wantE, T.get_set, Nat.reduceEqDiff] <;> with_reducible rfl))))
        refine CodeR.ret ⟨.inr rfl, [.int .i64 0], by (show ressE E _ _ [.tmp 2] = _; simp only [sA, ressE, resE, T.get_set, Nat.reduceEqDiff, u_notB, b_eqlB, b_neqB, b_add, b_sub, b_mul, b_lss, b_gtr, b_leq, b_geq, b_eql, b_neq, ty3, i3, si3, ty23, i23, si23, ty25, i25, si25]), ?_⟩
        refine ⟨rfl, 0, rfl, ?_⟩
        simp only [true_iff, right_iff]
        exact ⟨h, fun j hj => hok j (by omega)⟩
theorem right_run {lo : Nat} {d : AV} {m : List (List Int)} {s : St} (hd : MZ s.h m d) (hF : Fresh s) :
    FunR E lo 17 [d] s fun v s' => s = s' ∧ ∃ b, v = .bool b ∧ (b = true ↔ RightM m) := by
  refine FunR.body (fn := Tryz.f17) fn17' rfl ?_
  have hn : (max ([d] : List AV).length Tryz.f17.ntmps) = 6 := rfl
  generalize max ([d] : List AV).length Tryz.f17.ntmps = n at hn
  subst hn
  have g0 : (argsT 0 ([d] : List AV)).get 0 = some (d) := rfl
  generalize argsT 0 ([d] : List AV) = T0 at g0 ⊢
  have hn : (6 : Nat) = 6 := rfl
  repeat (first | (refine CodeR.seq ?_) | (refine CodeR.reg rfl ?_) | (refine CodeR.regD rfl rfl rfl ?_) | (refine SeqR.done ?_) | (refine CodeR.block ?_) | (refine CodeR.skip ?_) | (refine CodeR.exit ?_; simp only [sA, Ex.then, Ex.inBlock, Nat.reduceEqDiff]) | (first | (refine SeqR.skipN ?_ rfl rfl ?_; (simp only [sA, wantE, T.get_set, Nat.reduceEqDiff, g0] <;> with_reducible rfl)) | ((first | refine SeqR.stepN (v := ?_) (s' := ?_) rfl ?_ rfl ?_ rfl rfl ?_ | refine SeqR.stepLN (v := ?_) (s' := ?_) rfl ?_ rfl ?_ rfl rfl ?_); rotate_left 3; (intro call lc; simp only [sA, opE, kindOf, pureE, heapE, rho, rhos, T.get_set, Nat.reduceEqDiff, nb00, absV, absS, l_slice, l_void, l_str, l_arr, natE, loadE, isConst, TK.agg, u_notB, b_eqlB, b_neqB, b_add, b_sub, b_mul, b_lss, b_gtr, b_leq, b_geq, b_eql, b_neq, ty3, i3, si3, ty23, i23, si23, ty25, i25, si25, g0] <;> rfl); rotate_left 1; (simp only [sA, wantE, T.get_set, Nat.reduceEqDiff, g0] <;> with_reducible rfl))))
  refine SeqR.callN (by first | with_reducible rfl | (simp only [sA, wantE, T.get_set, Nat.reduceEqDiff, u_notB, b_eqlB, b_neqB, b_add, b_sub, b_mul, b_lss, b_gtr, b_leq, b_geq, b_eql, b_neq, ty3, i3, si3, ty23, i23, si23, ty25, i25, si25, g0] <;> with_reducible rfl)) rfl rfl (g := 94) (vs := [d]) (by simp only [calleeE, sA, rho, rhos, T.get_set, Nat.reduceEqDiff, u_notB, b_eqlB, b_neqB, b_add, b_sub, b_mul, b_lss, b_gtr, b_leq, b_geq, b_eql, b_neq, ty3, i3, si3, ty23, i23, si23, ty25, i25, si25, g0]; rfl) (by first | rfl | assumption) rfl rfl (fun lc hlc => (check_run hd hF).mono fun v s' hq => ?_)
  obtain ⟨rfl, e, rfl, he⟩ := hq
  repeat (first | (refine CodeR.seq ?_) | (refine CodeR.reg rfl ?_) | (refine CodeR.regD rfl rfl rfl ?_) | (refine SeqR.done ?_) | (refine CodeR.block ?_) | (refine CodeR.skip ?_) | (refine CodeR.exit ?_; simp only [sA, Ex.then, Ex.inBlock, Nat.reduceEqDiff]) | (first | (refine SeqR.skipN ?_ rfl rfl ?_; (simp only [sA, wantE, T.get_set, Nat.reduceEqDiff] <;> with_reducible rfl)) | ((first | refine SeqR.stepN (v := ?_) (s' := ?_) rfl ?_ rfl ?_ rfl rfl ?_ | refine SeqR.stepLN (v := ?_) (s' := ?_) rfl ?_ rfl ?_ rfl rfl ?_); rotate_left 3; (intro call lc; simp only [sA, opE, kindOf, pureE, heapE, rho, rhos, T.get_set, Nat.reduceEqDiff, nb00, absV, absS, l_slice, l_void, l_str, l_arr, natE, loadE, isConst, TK.agg, u_notB, b_eqlB, b_neqB, b_add, b_sub, b_mul, b_lss, b_gtr, b_leq, b_geq, b_eql, b_neq, ty3, i3, si3, ty23, i23, si23, ty25, i25, si25] <;> rfl); rotate_left 1; (simp only [sA, wantE, T.get_set, Nat.reduceEqDiff] <;> with_reducible rfl))))
  refine CodeR.ret ⟨.inr rfl, [.bool (eqB e 0)], by (show ressE E _ _ [.tmp 2] = _; simp only [sA, ressE, resE, T.get_set, Nat.reduceEqDiff, u_notB, b_eqlB, b_neqB, b_add, b_sub, b_mul, b_lss, b_gtr, b_leq, b_geq, b_eql, b_neq, ty3, i3, si3, ty23, i23, si23, ty25, i25, si25]), ?_⟩
  exact ⟨rfl, _, rfl, by rw [eqB_eq]; simpa using he⟩
def longB (r : List Int) : Bool := decide (14 < r.length)
theorem long93 (lc : Nat) (s : St) (v : AV) (r : List Int) (hr : RZ s.h r v) : FunR E lc 93 [v] s fun v s' => s = s' ∧ v = .bool (longB r) := by
  refine FunR.body (fn := Tryz.f93) fn93' rfl ?_
  have hn : (max ([v] : List AV).length Tryz.f93.ntmps) = 6 := rfl
  generalize max ([v] : List AV).length Tryz.f93.ntmps = n at hn
  subst hn
  have g0 : (argsT 0 ([v] : List AV)).get 0 = some (v) := rfl
  generalize argsT 0 ([v] : List AV) = T0 at g0 ⊢
  have hn : (6 : Nat) = 6 := rfl
  have lr := lenR hr 3
  have e1 : ltB 14 (Int.ofNat r.length) = decide (14 < r.length) := ltB_nat 14 _
  repeat (first | (refine CodeR.seq ?_) | (refine CodeR.reg rfl ?_) | (refine CodeR.regD rfl rfl rfl ?_) | (refine SeqR.done ?_) | (refine CodeR.block ?_) | (refine CodeR.skip ?_) | (refine CodeR.exit ?_; simp only [sA, Ex.then, Ex.inBlock, Nat.reduceEqDiff]) | (first | (refine SeqR.skipN ?_ rfl rfl ?_; (simp only [sA, wantE, T.get_set, Nat.reduceEqDiff, g0, lr, e1] <;> with_reducible rfl)) | ((first | refine SeqR.stepN (v := ?_) (s' := ?_) rfl ?_ rfl ?_ rfl rfl ?_ | refine SeqR.stepLN (v := ?_) (s' := ?_) rfl ?_ rfl ?_ rfl rfl ?_); rotate_left 3; (intro call lc; simp only [sA, opE, kindOf, pureE, heapE, rho, rhos, T.get_set, Nat.reduceEqDiff, nb00, absV, absS, l_slice, l_void, l_str, l_arr, natE, loadE, isConst, TK.agg, u_notB, b_eqlB, b_neqB, b_add, b_sub, b_mul, b_lss, b_gtr, b_leq, b_geq, b_eql, b_neq, ty3, i3, si3, ty25, i25, si25, g0, lr, e1] <;> rfl); rotate_left 1; (simp only [sA, wantE, T.get_set, Nat.reduceEqDiff, g0, lr, e1] <;> with_reducible rfl))))
  refine CodeR.ret ⟨.inr rfl, [.bool (decide (14 < r.length))], by (show ressE E _ _ [.tmp 2] = _; simp only [sA, ressE, resE, T.get_set, Nat.reduceEqDiff, u_notB, b_eqlB, b_neqB, b_add, b_sub, b_mul, b_lss, b_gtr, b_leq, b_geq, b_eql, b_neq, ty3, i3, si3, ty25, i25, si25]), ?_⟩
  exact ⟨rfl, rfl⟩
theorem indexM_run {lo g : Nat} {d : AV} {m : List (List Int)} {s : St} {p : List Int → Bool} (hd : MZ s.h m d) (hF : Fresh s) (hx : m.length ≤ 1000000) (hg : E.ext.get g = none) (hp : ∀ lc v r, RZ s.h r v → FunR E lc g [v] s fun v s' => s = s' ∧ v = .bool (p r)) :
    FunR E lo 137 [d, .fn g []] s fun v s' => s = s' ∧ v = .int .i64 (idxL p 0 m) := by
  refine FunR.body (fn := Tryz.f137) fn137' rfl ?_
  have hn : (max ([d, .fn g []] : List AV).length Tryz.f137.ntmps) = 19 := rfl
  generalize max ([d, .fn g []] : List AV).length Tryz.f137.ntmps = n at hn
  subst hn
  have g0 : (argsT 0 ([d, .fn g []] : List AV)).get 0 = some (d) := rfl
  have g1 : (argsT 0 ([d, .fn g []] : List AV)).get 1 = some (.fn g []) := rfl
  generalize argsT 0 ([d, .fn g []] : List AV) = T0 at g0 g1 ⊢
  have hn : (19 : Nat) = 19 := rfl
  have ld := hd.len 25
  repeat (first | (refine CodeR.seq ?_) | (refine CodeR.reg rfl ?_) | (refine CodeR.regD rfl rfl rfl ?_) | (refine SeqR.done ?_) | (refine CodeR.block ?_) | (refine CodeR.skip ?_) | (refine CodeR.exit ?_; simp only [sA, Ex.then, Ex.inBlock, Nat.reduceEqDiff]) | (first | (refine SeqR.skipN ?_ rfl rfl ?_; (simp only [sA, wantE, T.get_set, Nat.reduceEqDiff, g0, ld] <;> with_reducible rfl)) | ((first | refine SeqR.stepN (v := ?_) (s' := ?_) rfl ?_ rfl ?_ rfl rfl ?_ | refine SeqR.stepLN (v := ?_) (s' := ?_) rfl ?_ rfl ?_ rfl rfl ?_); rotate_left 3; (intro call lc; simp only [sA, opE, kindOf, pureE, heapE, rho, rhos, T.get_set, Nat.reduceEqDiff, nb00, absV, absS, l_slice, l_void, l_str, l_arr, natE, loadE, isConst, TK.agg, u_notB, b_eqlB, b_neqB, b_add, b_sub, b_mul, b_lss, b_gtr, b_leq, b_geq, b_eql, b_neq, ty3, i3, si3, ty23, i23, si23, ty25, i25, si25, g0, ld] <;> rfl); rotate_left 1; (simp only [sA, wantE, T.get_set, Nat.reduceEqDiff, g0, ld] <;> with_reducible rfl))))
  refine CodeR.loop (fun k mm s1 => s = s1 ∧ ∃ i T1, mm = ⟨19, T1⟩ ∧ i + k = m.length ∧ T1.get 0 = some d ∧ T1.get 1 = some (.fn g []) ∧ T1.get 7 = some (.int .i64 (Int.ofNat m.length)) ∧ T1.get 8 = some (.int .i64 (Int.ofNat i)) ∧ idxL p 0 m = idxL p i (m.drop i)) m.length ?_ ?_
  · refine ⟨rfl, 0, _, rfl, by omega, ?_, ?_, ?_, ?_, rfl⟩
    simp only [T.get_set, Nat.reduceEqDiff, if_true, if_false, g0]
    simp only [T.get_set, Nat.reduceEqDiff, if_true, if_false, g1]
    simp only [T.get_set, Nat.reduceEqDiff, if_true, if_false]
    simp only [T.get_set, Nat.reduceEqDiff, if_true, if_false]
    · rfl
  · rintro k mm s1 ⟨rfl, i, T1, rfl, hik, h0, h1, h7, h8, hf⟩
    repeat (first | (refine CodeR.seq ?_) | (refine CodeR.reg rfl ?_) | (refine CodeR.regD rfl rfl rfl ?_) | (refine SeqR.done ?_) | (refine CodeR.block ?_) | (refine CodeR.skip ?_) | (refine CodeR.exit ?_; simp only [sA, Ex.then, Ex.inBlock, Nat.reduceEqDiff]) | (first | (refine SeqR.skipN ?_ rfl rfl ?_; (simp only [sA, wantE, T.get_set, Nat.reduceEqDiff, h7, h8, ltB_nat] <;> with_reducible rfl)) | ((first | refine SeqR.stepN (v := ?_) (s' := ?_) rfl ?_ rfl ?_ rfl rfl ?_ | refine SeqR.stepLN (v := ?_) (s' := ?_) rfl ?_ rfl ?_ rfl rfl ?_); rotate_left 3; (intro call lc; simp only [sA, opE, kindOf, pureE, heapE, rho, rhos, T.get_set, Nat.reduceEqDiff, nb00, absV, absS, l_slice, l_void, l_str, l_arr, natE, loadE, isConst, TK.agg, u_notB, b_eqlB, b_neqB, b_add, b_sub, b_mul, b_lss, b_gtr, b_leq, b_geq, b_eql, b_neq, ty3, i3, si3, ty23, i23, si23, ty25, i25, si25, h7, h8, ltB_nat] <;> rfl); rotate_left 1; (simp only [sA, wantE, T.get_set, Nat.reduceEqDiff, h7, h8, ltB_nat] <;> with_reducible rfl))))
    refine CodeR.cond (t := decide (i < m.length)) (by simp only [sA, rho, T.get_set, Nat.reduceEqDiff, u_notB, b_eqlB, b_neqB, b_add, b_sub, b_mul, b_lss, b_gtr, b_leq, b_geq, b_eql, b_neq, ty3, i3, si3, ty23, i23, si23, ty25, i25, si25]) ?_ ?_
    · intro hlt
      have hlt' : i < m.length := by simpa using hlt
      obtain ⟨b, o, n, c, q, kk, r, rfl, f1, f2, f3, f4⟩ := hd.row hlt'
      have f9 : Nat.blt b s.c = true := blt_iff.2 (hF.lt b kk f2)
      rw [drop_at hlt' [], idxL] at hf
      repeat (first | (refine CodeR.seq ?_) | (refine CodeR.reg rfl ?_) | (refine CodeR.regD rfl rfl rfl ?_) | (refine SeqR.done ?_) | (refine CodeR.block ?_) | (refine CodeR.skip ?_) | (refine CodeR.exit ?_; simp only [sA, Ex.then, Ex.inBlock, Nat.reduceEqDiff]) | (first | (refine SeqR.skipN ?_ rfl rfl ?_; (simp only [sA, wantE, T.get_set, Nat.reduceEqDiff, h0, h1, h8, f1, f2, f3, f9] <;> with_reducible rfl)) | ((first | refine SeqR.stepN (v := ?_) (s' := ?_) rfl ?_ rfl ?_ rfl rfl ?_ | refine SeqR.stepLN (v := ?_) (s' := ?_) rfl ?_ rfl ?_ rfl rfl ?_); rotate_left 3; (intro call lc; simp only [sA, opE, kindOf, pureE, heapE, rho, rhos, T.get_set, Nat.reduceEqDiff, nb00, absV, absS, l_slice, l_void, l_str, l_arr, natE, loadE, isConst, TK.agg, u_notB, b_eqlB, b_neqB, b_add, b_sub, b_mul, b_lss, b_gtr, b_leq, b_geq, b_eql, b_neq, ty3, i3, si3, ty23, i23, si23, ty25, i25, si25, h0, h1, h8, f1, f2, f3, f9] <;> rfl); rotate_left 1; (simp only [sA, wantE, T.get_set, Nat.reduceEqDiff, h0, h1, h8, f1, f2, f3, f9] <;> with_reducible rfl))))
      refine SeqR.callN (by first | with_reducible rfl | (simp only [sA, wantE, T.get_set, Nat.reduceEqDiff, u_notB, b_eqlB, b_neqB, b_add, b_sub, b_mul, b_lss, b_gtr, b_leq, b_geq, b_eql, b_neq, ty3, i3, si3, ty23, i23, si23, ty25, i25, si25, h1] <;> with_reducible rfl)) rfl rfl (g := g) (vs := [r]) (by simp only [calleeE, sA, rho, rhos, T.get_set, Nat.reduceEqDiff, u_notB, b_eqlB, b_neqB, b_add, b_sub, b_mul, b_lss, b_gtr, b_leq, b_geq, b_eql, b_neq, ty3, i3, si3, ty23, i23, si23, ty25, i25, si25, h1]; rfl) (by first | rfl | assumption) rfl rfl (fun lc hlc => (hp lc r (m.getD i []) f4).mono fun v s' hq => ?_)
      obtain ⟨rfl, rfl⟩ := hq
      repeat (first | (refine CodeR.seq ?_) | (refine CodeR.reg rfl ?_) | (refine CodeR.regD rfl rfl rfl ?_) | (refine SeqR.done ?_) | (refine CodeR.block ?_) | (refine CodeR.skip ?_) | (refine CodeR.exit ?_; simp only [sA, Ex.then, Ex.inBlock, Nat.reduceEqDiff]) | (first | (refine SeqR.skipN ?_ rfl rfl ?_; (simp only [sA, wantE, T.get_set, Nat.reduceEqDiff] <;> with_reducible rfl)) | ((first | refine SeqR.stepN (v := ?_) (s' := ?_) rfl ?_ rfl ?_ rfl rfl ?_ | refine SeqR.stepLN (v := ?_) (s' := ?_) rfl ?_ rfl ?_ rfl rfl ?_); rotate_left 3; (intro call lc; simp only [sA, opE, kindOf, pureE, heapE, rho, rhos, T.get_set, Nat.reduceEqDiff, nb00, absV, absS, l_slice, l_void, l_str, l_arr, natE, loadE, isConst, TK.agg, u_notB, b_eqlB, b_neqB, b_add, b_sub, b_mul, b_lss, b_gtr, b_leq, b_geq, b_eql, b_neq, ty3, i3, si3, ty23, i23, si23, ty25, i25, si25] <;> rfl); rotate_left 1; (simp only [sA, wantE, T.get_set, Nat.reduceEqDiff] <;> with_reducible rfl))))
      refine CodeR.cond (t := p (m.getD i [])) (by simp only [sA, rho, T.get_set, Nat.reduceEqDiff, u_notB, b_eqlB, b_neqB, b_add, b_sub, b_mul, b_lss, b_gtr, b_leq, b_geq, b_eql, b_neq, ty3, i3, si3, ty23, i23, si23, ty25, i25, si25]) ?_ ?_
      · intro hpt
        rw [hpt, if_pos rfl] at hf
        repeat (first | (refine CodeR.seq ?_) | (refine CodeR.reg rfl ?_) | (refine CodeR.regD rfl rfl rfl ?_) | (refine SeqR.done ?_) | (refine CodeR.block ?_) | (refine CodeR.skip ?_) | (refine CodeR.exit ?_; simp only [sA, Ex.then, Ex.inBlock, Nat.reduceEqDiff]) | (first | (refine SeqR.skipN ?_ rfl rfl ?_; (simp only [sA, wantE, T.get_set, Nat.reduceEqDiff, h8] <;> with_reducible rfl)) | ((first | refine SeqR.stepN (v := ?_) (s' := ?_) rfl ?_ rfl ?_ rfl rfl ?_ | refine SeqR.stepLN (v := ?_) (s' := ?_) rfl ?_ rfl ?_ rfl rfl ?_); rotate_left 3; (intro call lc; simp only [sA, opE, kindOf, pureE, heapE, rho, rhos, T.get_set, Nat.reduceEqDiff, nb00, absV, absS, l_slice, l_void, l_str, l_arr, natE, loadE, isConst, TK.agg, u_notB, b_eqlB, b_neqB, b_add, b_sub, b_mul, b_lss, b_gtr, b_leq, b_geq, b_eql, b_neq, ty3, i3, si3, ty23, i23, si23, ty25, i25, si25, h8] <;> rfl); rotate_left 1; (simp only [sA, wantE, T.get_set, Nat.reduceEqDiff, h8] <;> with_reducible rfl))))
        refine CodeR.ret ⟨.inr rfl, [.int .i64 (Int.ofNat i)], by (show ressE E _ _ [.tmp 4] = _; simp only [sA, ressE, resE, T.get_set, Nat.reduceEqDiff, u_notB, b_eqlB, b_neqB, b_add, b_sub, b_mul, b_lss, b_gtr, b_leq, b_geq, b_eql, b_neq, ty3, i3, si3, ty23, i23, si23, ty25, i25, si25]), ?_⟩
        exact ⟨rfl, by rw [hf]; rfl⟩
      · intro hpf
        rw [hpf, if_neg (by simp)] at hf
        have e5 : wr .i64 (Int.ofNat i + 1) = Int.ofNat (i + 1) := wr_add (b := 1) (by omega)
        repeat (first | (refine CodeR.seq ?_) | (refine CodeR.reg rfl ?_) | (refine CodeR.regD rfl rfl rfl ?_) | (refine SeqR.done ?_) | (refine CodeR.block ?_) | (refine CodeR.skip ?_) | (refine CodeR.exit ?_; simp only [sA, Ex.then, Ex.inBlock, Nat.reduceEqDiff]) | (first | (refine SeqR.skipN ?_ rfl rfl ?_; (simp only [sA, wantE, T.get_set, Nat.reduceEqDiff, h8, e5] <;> with_reducible rfl)) | ((first | refine SeqR.stepN (v := ?_) (s' := ?_) rfl ?_ rfl ?_ rfl rfl ?_ | refine SeqR.stepLN (v := ?_) (s' := ?_) rfl ?_ rfl ?_ rfl rfl ?_); rotate_left 3; (intro call lc; simp only [sA, opE, kindOf, pureE, heapE, rho, rhos, T.get_set, Nat.reduceEqDiff, nb00, absV, absS, l_slice, l_void, l_str, l_arr, natE, loadE, isConst, TK.agg, u_notB, b_eqlB, b_neqB, b_add, b_sub, b_mul, b_lss, b_gtr, b_leq, b_geq, b_eql, b_neq, ty3, i3, si3, ty23, i23, si23, ty25, i25, si25, h8, e5] <;> rfl); rotate_left 1; (simp only [sA, wantE, T.get_set, Nat.reduceEqDiff, h8, e5] <;> with_reducible rfl))))
        refine ⟨k - 1, by omega, rfl, i + 1, _, rfl, by omega, ?_, ?_, ?_, ?_, hf⟩
        simp only [T.get_set, Nat.reduceEqDiff, if_true, if_false, h0]
        simp only [T.get_set, Nat.reduceEqDiff, if_true, if_false, h1]
        simp only [T.get_set, Nat.reduceEqDiff, if_true, if_false, h7]
        simp only [T.get_set, Nat.reduceEqDiff, if_true, if_false]
    · intro hge
      have hge' : ¬ i < m.length := by simpa using hge
      rw [List.drop_eq_nil_of_le (by omega), idxL] at hf
      repeat (first | (refine CodeR.seq ?_) | (refine CodeR.reg rfl ?_) | (refine CodeR.regD rfl rfl rfl ?_) | (refine SeqR.done ?_) | (refine CodeR.block ?_) | (refine CodeR.skip ?_) | (refine CodeR.exit ?_; simp only [sA, Ex.then, Ex.inBlock, Nat.reduceEqDiff]) | (first | (refine SeqR.skipN ?_ rfl rfl ?_; (simp only [sA, wantE, T.get_set, Nat.reduceEqDiff] <;> with_reducible rfl)) | ((first | refine SeqR.stepN (v := ?_) (s' := ?_) rfl ?_ rfl ?_ rfl rfl ?_ | refine SeqR.stepLN (v := ?_) (s' := ?_) rfl ?_ rfl ?_ rfl rfl ?_); rotate_left 3; (intro call lc; simp only [sA, opE, kindOf, pureE, heapE, rho, rhos, T.get_set, Nat.reduceEqDiff, nb00, absV, absS, l_slice, l_void, l_str, l_arr, natE, loadE, isConst, TK.agg, u_notB, b_eqlB, b_neqB, b_add, b_sub, b_mul, b_lss, b_gtr, b_leq, b_geq, b_eql, b_neq, ty3, i3, si3, ty23, i23, si23, ty25, i25, si25] <;> rfl); rotate_left 1; (simp only [sA, wantE, T.get_set, Nat.reduceEqDiff] <;> with_reducible rfl))))
      refine CodeR.ret ⟨.inr rfl, [.int .i64 (-1)], by (show ressE E _ _ [.tmp 4] = _; simp only [sA, ressE, resE, T.get_set, Nat.reduceEqDiff, u_notB, b_eqlB, b_neqB, b_add, b_sub, b_mul, b_lss, b_gtr, b_leq, b_geq, b_eql, b_neq, ty3, i3, si3, ty23, i23, si23, ty25, i25, si25]), ?_⟩
      exact ⟨rfl, by rw [hf]; rfl⟩
theorem containsM_run {lo g : Nat} {d : AV} {m : List (List Int)} {s : St} {p : List Int → Bool} (hd : MZ s.h m d) (hF : Fresh s) (hx : m.length ≤ 1000000) (hg : E.ext.get g = none) (hp : ∀ lc v r, RZ s.h r v → FunR E lc g [v] s fun v s' => s = s' ∧ v = .bool (p r)) :
    FunR E lo 49 [d, .fn g []] s fun v s' => s = s' ∧ v = .bool (m.any p) := by
  refine FunR.body (fn := Tryz.f49) fn49' rfl ?_
  have hn : (max ([d, .fn g []] : List AV).length Tryz.f49.ntmps) = 9 := rfl
  generalize max ([d, .fn g []] : List AV).length Tryz.f49.ntmps = n at hn
  subst hn
  have g0 : (argsT 0 ([d, .fn g []] : List AV)).get 0 = some (d) := rfl
  have g1 : (argsT 0 ([d, .fn g []] : List AV)).get 1 = some (.fn g []) := rfl
  generalize argsT 0 ([d, .fn g []] : List AV) = T0 at g0 g1 ⊢
  have hn : (9 : Nat) = 9 := rfl
  repeat (first | (refine CodeR.seq ?_) | (refine CodeR.reg rfl ?_) | (refine CodeR.regD rfl rfl rfl ?_) | (refine SeqR.done ?_) | (refine CodeR.block ?_) | (refine CodeR.skip ?_) | (refine CodeR.exit ?_; simp only [sA, Ex.then, Ex.inBlock, Nat.reduceEqDiff]) | (first | (refine SeqR.skipN ?_ rfl rfl ?_; (simp only [sA, wantE, T.get_set, Nat.reduceEqDiff, g0, g1] <;> with_reducible rfl)) | ((first | refine SeqR.stepN (v := ?_) (s' := ?_) rfl ?_ rfl ?_ rfl rfl ?_ | refine SeqR.stepLN (v := ?_) (s' := ?_) rfl ?_ rfl ?_ rfl rfl ?_); rotate_left 3; (intro call lc; simp only [sA, opE, kindOf, pureE, heapE, rho, rhos, T.get_set, Nat.reduceEqDiff, nb00, absV, absS, l_slice, l_void, l_str, l_arr, natE, loadE, isConst, TK.agg, u_notB, b_eqlB, b_neqB, b_add, b_sub, b_mul, b_lss, b_gtr, b_leq, b_geq, b_eql, b_neq, ty3, i3, si3, ty23, i23, si23, ty25, i25, si25, g0, g1] <;> rfl); rotate_left 1; (simp only [sA, wantE, T.get_set, Nat.reduceEqDiff, g0, g1] <;> with_reducible rfl))))
  refine SeqR.callN (by first | with_reducible rfl | (simp only [sA, wantE, T.get_set, Nat.reduceEqDiff, u_notB, b_eqlB, b_neqB, b_add, b_sub, b_mul, b_lss, b_gtr, b_leq, b_geq, b_eql, b_neq, ty3, i3, si3, ty23, i23, si23, ty25, i25, si25, g0, g1] <;> with_reducible rfl)) rfl rfl (g := 137) (vs := [d, .fn g []]) (by simp only [calleeE, sA, rho, rhos, T.get_set, Nat.reduceEqDiff, u_notB, b_eqlB, b_neqB, b_add, b_sub, b_mul, b_lss, b_gtr, b_leq, b_geq, b_eql, b_neq, ty3, i3, si3, ty23, i23, si23, ty25, i25, si25, g0, g1]; rfl) (by first | rfl | assumption) rfl rfl (fun lc hlc => (indexM_run hd hF hx hg hp).mono fun v s' hq => ?_)
  obtain ⟨rfl, rfl⟩ := hq
  have e := idx_any p 0 m
  repeat (first | (refine CodeR.seq ?_) | (refine CodeR.reg rfl ?_) | (refine CodeR.regD rfl rfl rfl ?_) | (refine SeqR.done ?_) | (refine CodeR.block ?_) | (refine CodeR.skip ?_) | (refine CodeR.exit ?_; simp only [sA, Ex.then, Ex.inBlock, Nat.reduceEqDiff]) | (first | (refine SeqR.skipN ?_ rfl rfl ?_; (simp only [sA, wantE, T.get_set, Nat.reduceEqDiff, e] <;> with_reducible rfl)) | ((first | refine SeqR.stepN (v := ?_) (s' := ?_) rfl ?_ rfl ?_ rfl rfl ?_ | refine SeqR.stepLN (v := ?_) (s' := ?_) rfl ?_ rfl ?_ rfl rfl ?_); rotate_left 3; (intro call lc; simp only [sA, opE, kindOf, pureE, heapE, rho, rhos, T.get_set, Nat.reduceEqDiff, nb00, absV, absS, l_slice, l_void, l_str, l_arr, natE, loadE, isConst, TK.agg, u_notB, b_eqlB, b_neqB, b_add, b_sub, b_mul, b_lss, b_gtr, b_leq, b_geq, b_eql, b_neq, ty3, i3, si3, ty23, i23, si23, ty25, i25, si25, e] <;> rfl); rotate_left 1; (simp only [sA, wantE, T.get_set, Nat.reduceEqDiff, e] <;> with_reducible rfl))))
  refine CodeR.ret ⟨.inr rfl, [.bool (m.any p)], by (show ressE E _ _ [.tmp 4] = _; simp only [sA, ressE, resE, T.get_set, Nat.reduceEqDiff, u_notB, b_eqlB, b_neqB, b_add, b_sub, b_mul, b_lss, b_gtr, b_leq, b_geq, b_eql, b_neq, ty3, i3, si3, ty23, i23, si23, ty25, i25, si25]), ?_⟩
  exact ⟨rfl, rfl⟩
theorem few_run {lo : Nat} {d : AV} {m : List (List Int)} {s : St} (hd : MZ s.h m d) (hF : Fresh s) :
    FunR E lo 16 [d] s fun v s' => s = s' ∧ ∃ b, v = .bool b ∧ (b = true → m.length ≤ 14 ∧ ∀ i, i < m.length → (m.getD i []).length ≤ 14) := by
  have hany : (!m.any longB) = true → ∀ i, i < m.length → (m.getD i []).length ≤ 14 := fun h i hi => by
    have h2 : ∀ r ∈ m, longB r = false := by simpa using h
    have := h2 (m.getD i []) (by rw [List.getD_eq_getElem?_getD, List.getElem?_eq_getElem hi]; exact List.getElem_mem hi)
    unfold longB at this
    simpa using this
  refine FunR.body (fn := Tryz.f16) fn16' rfl ?_
  have hn : (max ([d] : List AV).length Tryz.f16.ntmps) = 21 := rfl
  generalize max ([d] : List AV).length Tryz.f16.ntmps = n at hn
  subst hn
  have g0 : (argsT 0 ([d] : List AV)).get 0 = some (d) := rfl
  generalize argsT 0 ([d] : List AV) = T0 at g0 ⊢
  have hn : (21 : Nat) = 21 := rfl
  have ld := hd.len 25
  have e4 : ltB 4 (Int.ofNat m.length) = decide (4 < m.length) := ltB_nat 4 _
  have e12 : ltB (Int.ofNat m.length) 12 = decide (m.length < 12) := ltB_nat _ 12
  have e14 : ltB 14 (Int.ofNat m.length) = decide (14 < m.length) := ltB_nat 14 _
  by_cases c4 : 4 < m.length
  · have d4 : decide (4 < m.length) = true := by simpa using c4
    by_cases c12 : m.length < 12
    · have d12 : decide (m.length < 12) = true := by simpa using c12
      repeat (first | (refine CodeR.seq ?_) | (refine CodeR.reg rfl ?_) | (refine CodeR.regD rfl rfl rfl ?_) | (refine SeqR.done ?_) | (refine CodeR.block ?_) | (refine CodeR.skip ?_) | (refine CodeR.exit ?_; simp only [sA, Ex.then, Ex.inBlock, Nat.reduceEqDiff]) | (first | (refine SeqR.skipN ?_ rfl rfl ?_; (simp only [sA, wantE, T.get_set, Nat.reduceEqDiff, g0, ld, e4, e12, d4, d12] <;> with_reducible rfl)) | ((first | refine SeqR.stepN (v := ?_) (s' := ?_) rfl ?_ rfl ?_ rfl rfl ?_ | refine SeqR.stepLN (v := ?_) (s' := ?_) rfl ?_ rfl ?_ rfl rfl ?_); rotate_left 3; (intro call lc; simp only [sA, opE, kindOf, pureE, heapE, rho, rhos, T.get_set, Nat.reduceEqDiff, nb00, absV, absS, l_slice, l_void, l_str, l_arr, natE, loadE, isConst, TK.agg, u_notB, b_eqlB, b_neqB, b_add, b_sub, b_mul, b_lss, b_gtr, b_leq, b_geq, b_eql, b_neq, ty3, i3, si3, ty23, i23, si23, ty25, i25, si25, g0, ld, e4, e12, d4, d12] <;> rfl); rotate_left 1; (simp only [sA, wantE, T.get_set, Nat.reduceEqDiff, g0, ld, e4, e12, d4, d12] <;> with_reducible rfl))))
      refine CodeR.ret ⟨.inr rfl, [.bool false], by (show ressE E _ _ [.tmp 2] = _; simp only [sA, ressE, resE, T.get_set, Nat.reduceEqDiff, u_notB, b_eqlB, b_neqB, b_add, b_sub, b_mul, b_lss, b_gtr, b_leq, b_geq, b_eql, b_neq, ty3, i3, si3, ty23, i23, si23, ty25, i25, si25]), ?_⟩
      exact ⟨rfl, false, rfl, fun h => by cases h⟩
    · have d12 : decide (m.length < 12) = false := by simpa using c12
      by_cases c14 : 14 < m.length
      · have d14 : decide (14 < m.length) = true := by simpa using c14
        repeat (first | (refine CodeR.seq ?_) | (refine CodeR.reg rfl ?_) | (refine CodeR.regD rfl rfl rfl ?_) | (refine SeqR.done ?_) | (refine CodeR.block ?_) | (refine CodeR.skip ?_) | (refine CodeR.exit ?_; simp only [sA, Ex.then, Ex.inBlock, Nat.reduceEqDiff]) | (first | (refine SeqR.skipN ?_ rfl rfl ?_; (simp only [sA, wantE, T.get_set, Nat.reduceEqDiff, g0, ld, e4, e12, e14, d4, d12, d14] <;> with_reducible rfl)) | ((first | refine SeqR.stepN (v := ?_) (s' := ?_) rfl ?_ rfl ?_ rfl rfl ?_ | refine SeqR.stepLN (v := ?_) (s' := ?_) rfl ?_ rfl ?_ rfl rfl ?_); rotate_left 3; (intro call lc; simp only [sA, opE, kindOf, pureE, heapE, rho, rhos, T.get_set, Nat.reduceEqDiff, nb00, absV, absS, l_slice, l_void, l_str, l_arr, natE, loadE, isConst, TK.agg, u_notB, b_eqlB, b_neqB, b_add, b_sub, b_mul, b_lss, b_gtr, b_leq, b_geq, b_eql, b_neq, ty3, i3, si3, ty23, i23, si23, ty25, i25, si25, g0, ld, e4, e12, e14, d4, d12, d14] <;> rfl); rotate_left 1; (simp only [sA, wantE, T.get_set, Nat.reduceEqDiff, g0, ld, e4, e12, e14, d4, d12, d14] <;> with_reducible rfl))))
        refine CodeR.ret ⟨.inr rfl, [.bool false], by (show ressE E _ _ [.tmp 2] = _; simp only [sA, ressE, resE, T.get_set, Nat.reduceEqDiff, u_notB, b_eqlB, b_neqB, b_add, b_sub, b_mul, b_lss, b_gtr, b_leq, b_geq, b_eql, b_neq, ty3, i3, si3, ty23, i23, si23, ty25, i25, si25]), ?_⟩
        exact ⟨rfl, false, rfl, fun h => by cases h⟩
      · have d14 : decide (14 < m.length) = false := by simpa using c14
        repeat (first | (refine CodeR.seq ?_) | (refine CodeR.reg rfl ?_) | (refine CodeR.regD rfl rfl rfl ?_) | (refine SeqR.done ?_) | (refine CodeR.block ?_) | (refine CodeR.skip ?_) | (refine CodeR.exit ?_; simp only [sA, Ex.then, Ex.inBlock, Nat.reduceEqDiff]) | (first | (refine SeqR.skipN ?_ rfl rfl ?_; (simp only [sA, wantE, T.get_set, Nat.reduceEqDiff, g0, ld, e4, e12, e14, d4, d12, d14] <;> with_reducible rfl)) | ((first | refine SeqR.stepN (v := ?_) (s' := ?_) rfl ?_ rfl ?_ rfl rfl ?_ | refine SeqR.stepLN (v := ?_) (s' := ?_) rfl ?_ rfl ?_ rfl rfl ?_); rotate_left 3; (intro call lc; simp only [sA, opE, kindOf, pureE, heapE, rho, rhos, T.get_set, Nat.reduceEqDiff, nb00, absV, absS, l_slice, l_void, l_str, l_arr, natE, loadE, isConst, TK.agg, u_notB, b_eqlB, b_neqB, b_add, b_sub, b_mul, b_lss, b_gtr, b_leq, b_geq, b_eql, b_neq, ty3, i3, si3, ty23, i23, si23, ty25, i25, si25, g0, ld, e4, e12, e14, d4, d12, d14] <;> rfl); rotate_left 1; (simp only [sA, wantE, T.get_set, Nat.reduceEqDiff, g0, ld, e4, e12, e14, d4, d12, d14] <;> with_reducible rfl))))
        refine SeqR.callN (by first | with_reducible rfl | (simp only [sA, wantE, T.get_set, Nat.reduceEqDiff, u_notB, b_eqlB, b_neqB, b_add, b_sub, b_mul, b_lss, b_gtr, b_leq, b_geq, b_eql, b_neq, ty3, i3, si3, ty23, i23, si23, ty25, i25, si25, g0, d4, d12, d14] <;> with_reducible rfl)) rfl rfl (g := 49) (vs := [d, .fn 93 []]) (by simp only [calleeE, sA, rho, rhos, T.get_set, Nat.reduceEqDiff, u_notB, b_eqlB, b_neqB, b_add, b_sub, b_mul, b_lss, b_gtr, b_leq, b_geq, b_eql, b_neq, ty3, i3, si3, ty23, i23, si23, ty25, i25, si25, g0, d4, d12, d14]; rfl) (by first | rfl | assumption) rfl rfl (fun lc hlc => (containsM_run hd hF (by omega) rfl (fun lc v r hr => long93 lc s v r hr)).mono fun v s' hq => ?_)
        obtain ⟨rfl, rfl⟩ := hq
        repeat (first | (refine CodeR.seq ?_) | (refine CodeR.reg rfl ?_) | (refine CodeR.regD rfl rfl rfl ?_) | (refine SeqR.done ?_) | (refine CodeR.block ?_) | (refine CodeR.skip ?_) | (refine CodeR.exit ?_; simp only [sA, Ex.then, Ex.inBlock, Nat.reduceEqDiff]) | (first | (refine SeqR.skipN ?_ rfl rfl ?_; (simp only [sA, wantE, T.get_set, Nat.reduceEqDiff, d4, d12, d14] <;> with_reducible rfl)) | ((first | refine SeqR.stepN (v := ?_) (s' := ?_) rfl ?_ rfl ?_ rfl rfl ?_ | refine SeqR.stepLN (v := ?_) (s' := ?_) rfl ?_ rfl ?_ rfl rfl ?_); rotate_left 3; (intro call lc; simp only [sA, opE, kindOf, pureE, heapE, rho, rhos, T.get_set, Nat.reduceEqDiff, nb00, absV, absS, l_slice, l_void, l_str, l_arr, natE, loadE, isConst, TK.agg, u_notB, b_eqlB, b_neqB, b_add, b_sub, b_mul, b_lss, b_gtr, b_leq, b_geq, b_eql, b_neq, ty3, i3, si3, ty23, i23, si23, ty25, i25, si25, d4, d12, d14] <;> rfl); rotate_left 1; (simp only [sA, wantE, T.get_set, Nat.reduceEqDiff, d4, d12, d14] <;> with_reducible rfl))))
        refine CodeR.ret ⟨.inr rfl, [.bool (!m.any longB)], by (show ressE E _ _ [.tmp 2] = _; simp only [sA, ressE, resE, T.get_set, Nat.reduceEqDiff, u_notB, b_eqlB, b_neqB, b_add, b_sub, b_mul, b_lss, b_gtr, b_leq, b_geq, b_eql, b_neq, ty3, i3, si3, ty23, i23, si23, ty25, i25, si25]), ?_⟩
        exact ⟨rfl, _, rfl, fun h => ⟨by omega, hany h⟩⟩
  · have d4 : decide (4 < m.length) = false := by simpa using c4
    repeat (first | (refine CodeR.seq ?_) | (refine CodeR.reg rfl ?_) | (refine CodeR.regD rfl rfl rfl ?_) | (refine SeqR.done ?_) | (refine CodeR.block ?_) | (refine CodeR.skip ?_) | (refine CodeR.exit ?_; simp only [sA, Ex.then, Ex.inBlock, Nat.reduceEqDiff]) | (first | (refine SeqR.skipN ?_ rfl rfl ?_; (simp only [sA, wantE, T.get_set, Nat.reduceEqDiff, g0, ld, e4, d4] <;> with_reducible rfl)) | ((first | refine SeqR.stepN (v := ?_) (s' := ?_) rfl ?_ rfl ?_ rfl rfl ?_ | refine SeqR.stepLN (v := ?_) (s' := ?_) rfl ?_ rfl ?_ rfl rfl ?_); rotate_left 3; (intro call lc; simp only [sA, opE, kindOf, pureE, heapE, rho, rhos, T.get_set, Nat.reduceEqDiff, nb00, absV, absS, l_slice, l_void, l_str, l_arr, natE, loadE, isConst, TK.agg, u_notB, b_eqlB, b_neqB, b_add, b_sub, b_mul, b_lss, b_gtr, b_leq, b_geq, b_eql, b_neq, ty3, i3, si3, ty23, i23, si23, ty25, i25, si25, g0, ld, e4, d4] <;> rfl); rotate_left 1; (simp only [sA, wantE, T.get_set, Nat.reduceEqDiff, g0, ld, e4, d4] <;> with_reducible rfl))))
    refine SeqR.callN (by first | with_reducible rfl | (simp only [sA, wantE, T.get_set, Nat.reduceEqDiff, u_notB, b_eqlB, b_neqB, b_add, b_sub, b_mul, b_lss, b_gtr, b_leq, b_geq, b_eql, b_neq, ty3, i3, si3, ty23, i23, si23, ty25, i25, si25, g0, d4] <;> with_reducible rfl)) rfl rfl (g := 49) (vs := [d, .fn 93 []]) (by simp only [calleeE, sA, rho, rhos, T.get_set, Nat.reduceEqDiff, u_notB, b_eqlB, b_neqB, b_add, b_sub, b_mul, b_lss, b_gtr, b_leq, b_geq, b_eql, b_neq, ty3, i3, si3, ty23, i23, si23, ty25, i25, si25, g0, d4]; rfl) (by first | rfl | assumption) rfl rfl (fun lc hlc => (containsM_run hd hF (by omega) rfl (fun lc v r hr => long93 lc s v r hr)).mono fun v s' hq => ?_)
    obtain ⟨rfl, rfl⟩ := hq
    repeat (first | (refine CodeR.seq ?_) | (refine CodeR.reg rfl ?_) | (refine CodeR.regD rfl rfl rfl ?_) | (refine SeqR.done ?_) | (refine CodeR.block ?_) | (refine CodeR.skip ?_) | (refine CodeR.exit ?_; simp only [sA, Ex.then, Ex.inBlock, Nat.reduceEqDiff]) | (first | (refine SeqR.skipN ?_ rfl rfl ?_; (simp only [sA, wantE, T.get_set, Nat.reduceEqDiff, d4] <;> with_reducible rfl)) | ((first | refine SeqR.stepN (v := ?_) (s' := ?_) rfl ?_ rfl ?_ rfl rfl ?_ | refine SeqR.stepLN (v := ?_) (s' := ?_) rfl ?_ rfl ?_ rfl rfl ?_); rotate_left 3; (intro call lc; simp only [sA, opE, kindOf, pureE, heapE, rho, rhos, T.get_set, Nat.reduceEqDiff, nb00, absV, absS, l_slice, l_void, l_str, l_arr, natE, loadE, isConst, TK.agg, u_notB, b_eqlB, b_neqB, b_add, b_sub, b_mul, b_lss, b_gtr, b_leq, b_geq, b_eql, b_neq, ty3, i3, si3, ty23, i23, si23, ty25, i25, si25, d4] <;> rfl); rotate_left 1; (simp only [sA, wantE, T.get_set, Nat.reduceEqDiff, d4] <;> with_reducible rfl))))
    refine CodeR.ret ⟨.inr rfl, [.bool (!m.any longB)], by (show ressE E _ _ [.tmp 2] = _; simp only [sA, ressE, resE, T.get_set, Nat.reduceEqDiff, u_notB, b_eqlB, b_neqB, b_add, b_sub, b_mul, b_lss, b_gtr, b_leq, b_geq, b_eql, b_neq, ty3, i3, si3, ty23, i23, si23, ty25, i25, si25]), ?_⟩
    exact ⟨rfl, _, rfl, fun h => ⟨by omega, hany h⟩⟩
end Go.Proofs.YtaocoplfdhcoaaaGreatDoor.EvA

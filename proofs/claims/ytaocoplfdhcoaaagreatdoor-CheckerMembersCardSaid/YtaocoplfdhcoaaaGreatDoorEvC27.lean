/- checker.Form, run. -/
import Derived.Test.YtaocoplfdhcoaaaGreatDoorEvC26
set_option linter.unusedVariables false
set_option linter.unusedSimpArgs false
set_option maxRecDepth 20000
set_option maxHeartbeats 2000000
namespace Go.Proofs.YtaocoplfdhcoaaaGreatDoor.EvA
open Go Go.RowKit Go.Proofs.YtaocoplfdhcoaaaGreatDoor.Ev
theorem MZ.front {h : T Blk} {m : List (List Int)} {v : AV} (hd : MZ h m v) {i : Nat} (hi : i ≤ m.length) : ∃ v', sliceE 1 v none (some (.int .i64 (Int.ofNat i))) none = some v' ∧ MZ h (m.take i) v' := by
  obtain ⟨cs, h1, h2, h3⟩ := hd
  obtain ⟨v', p1, p2⟩ := Row.front h1 (by decide) (k := i) (by omega)
  rw [Nat.mul_one] at p2
  refine ⟨v', p1, cs.take i, p2, by simp [h2], fun j r c hj hc => ?_⟩
  rw [List.getElem?_take] at hj hc
  split at hj
  · rename_i hlt
    rw [if_pos hlt] at hc
    exact h3 j r c hj hc
  · cases hj
theorem form_run {lo : Nat} {d : AV} {m : List (List Int)} {s : St} (hd : MZ s.h m d) (hF : Fresh s) :
    FunR E lo 26 [d] s fun v s' => s = s' ∧ ∃ b, v = .bool b ∧ (b = true ↔ RightM m ∧ FormP m) := by
  refine FunR.body (fn := Tryz.f26) fn26' rfl ?_
  have hn : (max ([d] : List AV).length Tryz.f26.ntmps) = 58 := rfl
  generalize max ([d] : List AV).length Tryz.f26.ntmps = n at hn
  subst hn
  have g0 : (argsT 0 ([d] : List AV)).get 0 = some (d) := rfl
  generalize argsT 0 ([d] : List AV) = T0 at g0 ⊢
  have hn : (58 : Nat) = 58 := rfl
  have ld := hd.len 25
  repeat (first | (refine CodeR.seq ?_) | (refine CodeR.reg rfl ?_) | (refine CodeR.regD rfl rfl rfl ?_) | (refine SeqR.done ?_) | (refine CodeR.block ?_) | (refine CodeR.skip ?_) | (refine CodeR.exit ?_; simp only [sA, Ex.then, Ex.inBlock, Nat.reduceEqDiff]) | (first | (refine SeqR.skipN ?_ rfl rfl ?_; (simp only [sA, wantE, T.get_set, Nat.reduceEqDiff, g0] <;> with_reducible rfl)) | ((first | refine SeqR.stepN (v := ?_) (s' := ?_) rfl ?_ rfl ?_ rfl rfl ?_ | refine SeqR.stepLN (v := ?_) (s' := ?_) rfl ?_ rfl ?_ rfl rfl ?_); rotate_left 3; (intro call lc; simp only [sA, opE, kindOf, pureE, heapE, rho, rhos, T.get_set, Nat.reduceEqDiff, nb00, absV, absS, l_slice, l_void, l_str, l_arr, natE, loadE, isConst, TK.agg, u_notB, b_eqlB, b_neqB, b_add, b_sub, b_mul, b_lss, b_gtr, b_leq, b_geq, b_eql, b_neq, ty3, i3, si3, ty23, i23, si23, ty25, i25, si25, g0] <;> rfl); rotate_left 1; (simp only [sA, wantE, T.get_set, Nat.reduceEqDiff, g0] <;> with_reducible rfl))))
  refine SeqR.callN (by first | with_reducible rfl | (simp only [sA, wantE, T.get_set, Nat.reduceEqDiff, u_notB, b_eqlB, b_neqB, b_add, b_sub, b_mul, b_lss, b_gtr, b_leq, b_geq, b_eql, b_neq, ty3, i3, si3, ty23, i23, si23, ty25, i25, si25, g0] <;> with_reducible rfl)) rfl rfl (g := 103) (vs := [d]) (by simp only [calleeE, sA, rho, rhos, T.get_set, Nat.reduceEqDiff, u_notB, b_eqlB, b_neqB, b_add, b_sub, b_mul, b_lss, b_gtr, b_leq, b_geq, b_eql, b_neq, ty3, i3, si3, ty23, i23, si23, ty25, i25, si25, g0]; rfl) (by first | rfl | assumption) rfl rfl (fun lc hlc => (matrix_run hd hF).mono fun v s' hq => ?_)
  obtain ⟨rfl, bm, rfl, hbm⟩ := hq
  cases bm with
  | false =>
    repeat (first | (refine CodeR.seq ?_) | (refine CodeR.reg rfl ?_) | (refine CodeR.regD rfl rfl rfl ?_) | (refine SeqR.done ?_) | (refine CodeR.block ?_) | (refine CodeR.skip ?_) | (refine CodeR.exit ?_; simp only [sA, Ex.then, Ex.inBlock, Nat.reduceEqDiff]) | (first | (refine SeqR.skipN ?_ rfl rfl ?_; (simp only [sA, wantE, T.get_set, Nat.reduceEqDiff] <;> with_reducible rfl)) | ((first | refine SeqR.stepN (v := ?_) (s' := ?_) rfl ?_ rfl ?_ rfl rfl ?_ | refine SeqR.stepLN (v := ?_) (s' := ?_) rfl ?_ rfl ?_ rfl rfl ?_); rotate_left 3; (intro call lc; simp only [sA, opE, kindOf, pureE, heapE, rho, rhos, T.get_set, Nat.reduceEqDiff, nb00, absV, absS, l_slice, l_void, l_str, l_arr, natE, loadE, isConst, TK.agg, u_notB, b_eqlB, b_neqB, b_add, b_sub, b_mul, b_lss, b_gtr, b_leq, b_geq, b_eql, b_neq, ty3, i3, si3, ty23, i23, si23, ty25, i25, si25] <;> rfl); rotate_left 1; (simp only [sA, wantE, T.get_set, Nat.reduceEqDiff] <;> with_reducible rfl))))
    refine CodeR.cond (t := true) (by simp only [sA, rho, T.get_set, Nat.reduceEqDiff, u_notB, b_eqlB, b_neqB, b_add, b_sub, b_mul, b_lss, b_gtr, b_leq, b_geq, b_eql, b_neq, ty3, i3, si3, ty23, i23, si23, ty25, i25, si25]) (fun _ => ?_) (fun h => by cases h)
    repeat (first | (refine CodeR.seq ?_) | (refine CodeR.reg rfl ?_) | (refine CodeR.regD rfl rfl rfl ?_) | (refine SeqR.done ?_) | (refine CodeR.block ?_) | (refine CodeR.skip ?_) | (refine CodeR.exit ?_; simp only [sA, Ex.then, Ex.inBlock, Nat.reduceEqDiff]) | (first | (refine SeqR.skipN ?_ rfl rfl ?_; (simp only [sA, wantE, T.get_set, Nat.reduceEqDiff] <;> with_reducible rfl)) | ((first | refine SeqR.stepN (v := ?_) (s' := ?_) rfl ?_ rfl ?_ rfl rfl ?_ | refine SeqR.stepLN (v := ?_) (s' := ?_) rfl ?_ rfl ?_ rfl rfl ?_); rotate_left 3; (intro call lc; simp only [sA, opE, kindOf, pureE, heapE, rho, rhos, T.get_set, Nat.reduceEqDiff, nb00, absV, absS, l_slice, l_void, l_str, l_arr, natE, loadE, isConst, TK.agg, u_notB, b_eqlB, b_neqB, b_add, b_sub, b_mul, b_lss, b_gtr, b_leq, b_geq, b_eql, b_neq, ty3, i3, si3, ty23, i23, si23, ty25, i25, si25] <;> rfl); rotate_left 1; (simp only [sA, wantE, T.get_set, Nat.reduceEqDiff] <;> with_reducible rfl))))
    refine CodeR.ret ⟨.inr rfl, [.bool false], by (show ressE E _ _ [.tmp 2] = _; simp only [sA, ressE, resE, T.get_set, Nat.reduceEqDiff, u_notB, b_eqlB, b_neqB, b_add, b_sub, b_mul, b_lss, b_gtr, b_leq, b_geq, b_eql, b_neq, ty3, i3, si3, ty23, i23, si23, ty25, i25, si25]), ?_⟩
    refine ⟨rfl, false, rfl, ?_⟩
    simp only [Bool.false_eq_true, false_iff]
    intro h
    have := hbm.2 h.1
    cases this
  | true =>
  have hR := hbm.1 rfl
  have hm12 := hR.1
  repeat (first | (refine CodeR.seq ?_) | (refine CodeR.reg rfl ?_) | (refine CodeR.regD rfl rfl rfl ?_) | (refine SeqR.done ?_) | (refine CodeR.block ?_) | (refine CodeR.skip ?_) | (refine CodeR.exit ?_; simp only [sA, Ex.then, Ex.inBlock, Nat.reduceEqDiff]) | (first | (refine SeqR.skipN ?_ rfl rfl ?_; (simp only [sA, wantE, T.get_set, Nat.reduceEqDiff] <;> with_reducible rfl)) | ((first | refine SeqR.stepN (v := ?_) (s' := ?_) rfl ?_ rfl ?_ rfl rfl ?_ | refine SeqR.stepLN (v := ?_) (s' := ?_) rfl ?_ rfl ?_ rfl rfl ?_); rotate_left 3; (intro call lc; simp only [sA, opE, kindOf, pureE, heapE, rho, rhos, T.get_set, Nat.reduceEqDiff, nb00, absV, absS, l_slice, l_void, l_str, l_arr, natE, loadE, isConst, TK.agg, u_notB, b_eqlB, b_neqB, b_add, b_sub, b_mul, b_lss, b_gtr, b_leq, b_geq, b_eql, b_neq, ty3, i3, si3, ty23, i23, si23, ty25, i25, si25] <;> rfl); rotate_left 1; (simp only [sA, wantE, T.get_set, Nat.reduceEqDiff] <;> with_reducible rfl))))
  refine CodeR.cond (t := false) (by simp only [sA, rho, T.get_set, Nat.reduceEqDiff, u_notB, b_eqlB, b_neqB, b_add, b_sub, b_mul, b_lss, b_gtr, b_leq, b_geq, b_eql, b_neq, ty3, i3, si3, ty23, i23, si23, ty25, i25, si25]) (fun h => by cases h) (fun _ => ?_)
  repeat (first | (refine CodeR.seq ?_) | (refine CodeR.reg rfl ?_) | (refine CodeR.regD rfl rfl rfl ?_) | (refine SeqR.done ?_) | (refine CodeR.block ?_) | (refine CodeR.skip ?_) | (refine CodeR.exit ?_; simp only [sA, Ex.then, Ex.inBlock, Nat.reduceEqDiff]) | (first | (refine SeqR.skipN ?_ rfl rfl ?_; (simp only [sA, wantE, T.get_set, Nat.reduceEqDiff, g0, ld] <;> with_reducible rfl)) | ((first | refine SeqR.stepN (v := ?_) (s' := ?_) rfl ?_ rfl ?_ rfl rfl ?_ | refine SeqR.stepLN (v := ?_) (s' := ?_) rfl ?_ rfl ?_ rfl rfl ?_); rotate_left 3; (intro call lc; simp only [sA, opE, kindOf, pureE, heapE, rho, rhos, T.get_set, Nat.reduceEqDiff, nb00, absV, absS, l_slice, l_void, l_str, l_arr, natE, loadE, isConst, TK.agg, u_notB, b_eqlB, b_neqB, b_add, b_sub, b_mul, b_lss, b_gtr, b_leq, b_geq, b_eql, b_neq, ty3, i3, si3, ty23, i23, si23, ty25, i25, si25, g0, ld] <;> rfl); rotate_left 1; (simp only [sA, wantE, T.get_set, Nat.reduceEqDiff, g0, ld] <;> with_reducible rfl))))
  refine CodeR.loop (fun k mm s1 => s = s1 ∧ ∃ i last T1, mm = ⟨58, T1⟩ ∧ i + k = m.length ∧ -1 ≤ last ∧ last < 1000 ∧ (FormP m ↔ formL m k i last) ∧ T1.get 0 = some d ∧ T1.get 3 = some (.int .i64 last) ∧ T1.get 12 = some d ∧ T1.get 13 = some (.int .i64 (Int.ofNat m.length)) ∧ T1.get 14 = some (.int .i64 (Int.ofNat i))) m.length ?_ ?_
  · refine ⟨rfl, 0, -1, _, rfl, by omega, by omega, by omega, Iff.rfl, ?_, ?_, ?_, ?_, ?_⟩
    simp only [T.get_set, Nat.reduceEqDiff, if_true, if_false, g0]
    simp only [T.get_set, Nat.reduceEqDiff, if_true, if_false]
    simp only [T.get_set, Nat.reduceEqDiff, if_true, if_false]
    simp only [T.get_set, Nat.reduceEqDiff, if_true, if_false]
    simp only [T.get_set, Nat.reduceEqDiff, if_true, if_false]
    · rfl
  · rintro k mm s1 ⟨rfl, i, last, T1, rfl, hik, hl1, hl2, hiff, t0, t3, t12, t13, t14⟩
    repeat (first | (refine CodeR.seq ?_) | (refine CodeR.reg rfl ?_) | (refine CodeR.regD rfl rfl rfl ?_) | (refine SeqR.done ?_) | (refine CodeR.block ?_) | (refine CodeR.skip ?_) | (refine CodeR.exit ?_; simp only [sA, Ex.then, Ex.inBlock, Nat.reduceEqDiff]) | (first | (refine SeqR.skipN ?_ rfl rfl ?_; (simp only [sA, wantE, T.get_set, Nat.reduceEqDiff, t13, t14, ltB_nat] <;> with_reducible rfl)) | ((first | refine SeqR.stepN (v := ?_) (s' := ?_) rfl ?_ rfl ?_ rfl rfl ?_ | refine SeqR.stepLN (v := ?_) (s' := ?_) rfl ?_ rfl ?_ rfl rfl ?_); rotate_left 3; (intro call lc; simp only [sA, opE, kindOf, pureE, heapE, rho, rhos, T.get_set, Nat.reduceEqDiff, nb00, absV, absS, l_slice, l_void, l_str, l_arr, natE, loadE, isConst, TK.agg, u_notB, b_eqlB, b_neqB, b_add, b_sub, b_mul, b_lss, b_gtr, b_leq, b_geq, b_eql, b_neq, ty3, i3, si3, ty23, i23, si23, ty25, i25, si25, t13, t14, ltB_nat] <;> rfl); rotate_left 1; (simp only [sA, wantE, T.get_set, Nat.reduceEqDiff, t13, t14, ltB_nat] <;> with_reducible rfl))))
    refine CodeR.cond (t := decide (i < m.length)) (by simp only [sA, rho, T.get_set, Nat.reduceEqDiff, u_notB, b_eqlB, b_neqB, b_add, b_sub, b_mul, b_lss, b_gtr, b_leq, b_geq, b_eql, b_neq, ty3, i3, si3, ty23, i23, si23, ty25, i25, si25]) ?_ ?_
    · intro hlt
      have hlt' : i < m.length := by simpa using hlt
      obtain ⟨k', rfl⟩ : ∃ k', k = k' + 1 := ⟨k - 1, by omega⟩
      obtain ⟨vp, ps, hdp⟩ := hd.front (i := i) (by omega)
      obtain ⟨b, o, n, c, q, _, _, rfl, _, _, _, _⟩ := hd.row hlt'
      obtain ⟨kk, f2, rows⟩ := rows_of hd hlt'
      obtain ⟨r, f1, f3, f4⟩ := rows i hlt'
      have f9 : Nat.blt b s.c = true := blt_iff.2 (hF.lt b kk f2)
      have hlenr := (hR.2 i hlt').1
      rw [formL] at hiff
      repeat (first | (refine CodeR.seq ?_) | (refine CodeR.reg rfl ?_) | (refine CodeR.regD rfl rfl rfl ?_) | (refine SeqR.done ?_) | (refine CodeR.block ?_) | (refine CodeR.skip ?_) | (refine CodeR.exit ?_; simp only [sA, Ex.then, Ex.inBlock, Nat.reduceEqDiff]) | (first | (refine SeqR.skipN ?_ rfl rfl ?_; (simp only [sA, wantE, T.get_set, Nat.reduceEqDiff, t12, t14, f1, f2, f3, f9] <;> with_reducible rfl)) | ((first | refine SeqR.stepN (v := ?_) (s' := ?_) rfl ?_ rfl ?_ rfl rfl ?_ | refine SeqR.stepLN (v := ?_) (s' := ?_) rfl ?_ rfl ?_ rfl rfl ?_); rotate_left 3; (intro call lc; simp only [sA, opE, kindOf, pureE, heapE, rho, rhos, T.get_set, Nat.reduceEqDiff, nb00, absV, absS, l_slice, l_void, l_str, l_arr, natE, loadE, isConst, TK.agg, u_notB, b_eqlB, b_neqB, b_add, b_sub, b_mul, b_lss, b_gtr, b_leq, b_geq, b_eql, b_neq, ty3, i3, si3, ty23, i23, si23, ty25, i25, si25, t12, t14, f1, f2, f3, f9] <;> rfl); rotate_left 1; (simp only [sA, wantE, T.get_set, Nat.reduceEqDiff, t12, t14, f1, f2, f3, f9] <;> with_reducible rfl))))
      refine SeqR.callN (by first | with_reducible rfl | (simp only [sA, wantE, T.get_set, Nat.reduceEqDiff, u_notB, b_eqlB, b_neqB, b_add, b_sub, b_mul, b_lss, b_gtr, b_leq, b_geq, b_eql, b_neq, ty3, i3, si3, ty23, i23, si23, ty25, i25, si25] <;> with_reducible rfl)) rfl rfl (g := 109) (vs := [r]) (by simp only [calleeE, sA, rho, rhos, T.get_set, Nat.reduceEqDiff, u_notB, b_eqlB, b_neqB, b_add, b_sub, b_mul, b_lss, b_gtr, b_leq, b_geq, b_eql, b_neq, ty3, i3, si3, ty23, i23, si23, ty25, i25, si25]; rfl) (by first | rfl | assumption) rfl rfl (fun lc hlc => (pivot_run f4 hF (by omega)).mono fun v s' hq => ?_)
      obtain ⟨rfl, rfl⟩ := hq
      generalize hp : firstL 0 (m.getD i []) = p at *
      by_cases hlp : last < p
      · have e1 : ltB last p = true := by rw [ltB_eq]; simpa using hlp
        rcases firstL_spec 0 (m.getD i []) with h1 | ⟨w, h1, h2, h3⟩
        · rw [hp] at h1; omega
        · rw [hp, Nat.zero_add] at h1
          subst h1
          simp only [Int.ofNat_eq_natCast, Int.toNat_natCast] at hiff
          obtain ⟨b1, o1, n1, c1, q1, k1, rfl, p1, p2, p3⟩ := Row.zint f4 h2
          have p4 : Nat.blt b1 s.c = true := blt_iff.2 (hF.lt b1 k1 p2)
          generalize hrw : (m.getD i []).getD w 0 = rw_ at *
          by_cases hneg : rw_ ≤ 0
          · have e2 : ltB 0 rw_ = false := by rw [ltB_eq]; simpa using hneg
            repeat (first | (refine CodeR.seq ?_) | (refine CodeR.reg rfl ?_) | (refine CodeR.regD rfl rfl rfl ?_) | (refine SeqR.done ?_) | (refine CodeR.block ?_) | (refine CodeR.skip ?_) | (refine CodeR.exit ?_; simp only [sA, Ex.then, Ex.inBlock, Nat.reduceEqDiff]) | (first | (refine SeqR.skipN ?_ rfl rfl ?_; (simp only [sA, wantE, T.get_set, Nat.reduceEqDiff, t3, f1, f2, f3, f9, p1, p2, p3, p4, e1, e2] <;> with_reducible rfl)) | ((first | refine SeqR.stepN (v := ?_) (s' := ?_) rfl ?_ rfl ?_ rfl rfl ?_ | refine SeqR.stepLN (v := ?_) (s' := ?_) rfl ?_ rfl ?_ rfl rfl ?_); rotate_left 3; (intro call lc; simp only [sA, opE, kindOf, pureE, heapE, rho, rhos, T.get_set, Nat.reduceEqDiff, nb00, absV, absS, l_slice, l_void, l_str, l_arr, natE, loadE, isConst, TK.agg, u_notB, b_eqlB, b_neqB, b_add, b_sub, b_mul, b_lss, b_gtr, b_leq, b_geq, b_eql, b_neq, ty3, i3, si3, ty23, i23, si23, ty25, i25, si25, t3, f1, f2, f3, f9, p1, p2, p3, p4, e1, e2] <;> rfl); rotate_left 1; (simp only [sA, wantE, T.get_set, Nat.reduceEqDiff, t3, f1, f2, f3, f9, p1, p2, p3, p4, e1, e2] <;> with_reducible rfl))))
            refine CodeR.cond (t := true) (by simp only [sA, rho, T.get_set, Nat.reduceEqDiff, u_notB, b_eqlB, b_neqB, b_add, b_sub, b_mul, b_lss, b_gtr, b_leq, b_geq, b_eql, b_neq, ty3, i3, si3, ty23, i23, si23, ty25, i25, si25, e1, e2]) (fun _ => ?_) (fun h => by cases h)
            repeat (first | (refine CodeR.seq ?_) | (refine CodeR.reg rfl ?_) | (refine CodeR.regD rfl rfl rfl ?_) | (refine SeqR.done ?_) | (refine CodeR.block ?_) | (refine CodeR.skip ?_) | (refine CodeR.exit ?_; simp only [sA, Ex.then, Ex.inBlock, Nat.reduceEqDiff]) | (first | (refine SeqR.skipN ?_ rfl rfl ?_; (simp only [sA, wantE, T.get_set, Nat.reduceEqDiff] <;> with_reducible rfl)) | ((first | refine SeqR.stepN (v := ?_) (s' := ?_) rfl ?_ rfl ?_ rfl rfl ?_ | refine SeqR.stepLN (v := ?_) (s' := ?_) rfl ?_ rfl ?_ rfl rfl ?_); rotate_left 3; (intro call lc; simp only [sA, opE, kindOf, pureE, heapE, rho, rhos, T.get_set, Nat.reduceEqDiff, nb00, absV, absS, l_slice, l_void, l_str, l_arr, natE, loadE, isConst, TK.agg, u_notB, b_eqlB, b_neqB, b_add, b_sub, b_mul, b_lss, b_gtr, b_leq, b_geq, b_eql, b_neq, ty3, i3, si3, ty23, i23, si23, ty25, i25, si25] <;> rfl); rotate_left 1; (simp only [sA, wantE, T.get_set, Nat.reduceEqDiff] <;> with_reducible rfl))))
            refine CodeR.ret ⟨.inr rfl, [.bool false], by (show ressE E _ _ [.tmp 2] = _; simp only [sA, ressE, resE, T.get_set, Nat.reduceEqDiff, u_notB, b_eqlB, b_neqB, b_add, b_sub, b_mul, b_lss, b_gtr, b_leq, b_geq, b_eql, b_neq, ty3, i3, si3, ty23, i23, si23, ty25, i25, si25]), ?_⟩
            refine ⟨rfl, false, rfl, ?_⟩
            simp only [Bool.false_eq_true, false_iff, hiff]
            omega
          · have e2 : ltB 0 rw_ = true := by rw [ltB_eq]; simp; omega
            have lp : lenE (.slice 25) vp = some i := by rw [hdp.len 25, List.length_take, Nat.min_eq_left (by omega)]
            repeat (first | (refine CodeR.seq ?_) | (refine CodeR.reg rfl ?_) | (refine CodeR.regD rfl rfl rfl ?_) | (refine SeqR.done ?_) | (refine CodeR.block ?_) | (refine CodeR.skip ?_) | (refine CodeR.exit ?_; simp only [sA, Ex.then, Ex.inBlock, Nat.reduceEqDiff]) | (first | (refine SeqR.skipN ?_ rfl rfl ?_; (simp only [sA, wantE, T.get_set, Nat.reduceEqDiff, t3, f1, f2, f3, f9, p1, p2, p3, p4, e1, e2] <;> with_reducible rfl)) | ((first | refine SeqR.stepN (v := ?_) (s' := ?_) rfl ?_ rfl ?_ rfl rfl ?_ | refine SeqR.stepLN (v := ?_) (s' := ?_) rfl ?_ rfl ?_ rfl rfl ?_); rotate_left 3; (intro call lc; simp only [sA, opE, kindOf, pureE, heapE, rho, rhos, T.get_set, Nat.reduceEqDiff, nb00, absV, absS, l_slice, l_void, l_str, l_arr, natE, loadE, isConst, TK.agg, u_notB, b_eqlB, b_neqB, b_add, b_sub, b_mul, b_lss, b_gtr, b_leq, b_geq, b_eql, b_neq, ty3, i3, si3, ty23, i23, si23, ty25, i25, si25, t3, f1, f2, f3, f9, p1, p2, p3, p4, e1, e2] <;> rfl); rotate_left 1; (simp only [sA, wantE, T.get_set, Nat.reduceEqDiff, t3, f1, f2, f3, f9, p1, p2, p3, p4, e1, e2] <;> with_reducible rfl))))
            refine CodeR.cond (t := false) (by simp only [sA, rho, T.get_set, Nat.reduceEqDiff, u_notB, b_eqlB, b_neqB, b_add, b_sub, b_mul, b_lss, b_gtr, b_leq, b_geq, b_eql, b_neq, ty3, i3, si3, ty23, i23, si23, ty25, i25, si25, e1, e2]) (fun h => by cases h) (fun _ => ?_)
            repeat (first | (refine CodeR.seq ?_) | (refine CodeR.reg rfl ?_) | (refine CodeR.regD rfl rfl rfl ?_) | (refine SeqR.done ?_) | (refine CodeR.block ?_) | (refine CodeR.skip ?_) | (refine CodeR.exit ?_; simp only [sA, Ex.then, Ex.inBlock, Nat.reduceEqDiff]) | (first | (refine SeqR.skipN ?_ rfl rfl ?_; (simp only [sA, wantE, T.get_set, Nat.reduceEqDiff, t0, ps, lp] <;> with_reducible rfl)) | ((first | refine SeqR.stepN (v := ?_) (s' := ?_) rfl ?_ rfl ?_ rfl rfl ?_ | refine SeqR.stepLN (v := ?_) (s' := ?_) rfl ?_ rfl ?_ rfl rfl ?_); rotate_left 3; (intro call lc; simp only [sA, opE, kindOf, pureE, heapE, rho, rhos, T.get_set, Nat.reduceEqDiff, nb00, absV, absS, l_slice, l_void, l_str, l_arr, natE, loadE, isConst, TK.agg, u_notB, b_eqlB, b_neqB, b_add, b_sub, b_mul, b_lss, b_gtr, b_leq, b_geq, b_eql, b_neq, ty3, i3, si3, ty23, i23, si23, ty25, i25, si25, t0, ps, lp] <;> rfl); rotate_left 1; (simp only [sA, wantE, T.get_set, Nat.reduceEqDiff, t0, ps, lp] <;> with_reducible rfl))))
            refine CodeR.loop (fun k2 mm s1 => s = s1 ∧ ∃ j T2, mm = ⟨58, T2⟩ ∧ j + k2 = i ∧ (∀ a, a < j → 0 ≤ (m.getD a []).getD w 0 ∧ (m.getD a []).getD w 0 < rw_) ∧ T2.get 0 = some (.slice (some (b, o)) n c q) ∧ T2.get 5 = some (.slice (some (b1, o1)) n1 c1 q1) ∧ T2.get 6 = some (.int .i64 (Int.ofNat w)) ∧ T2.get 12 = some (.slice (some (b, o)) n c q) ∧ T2.get 13 = some (.int .i64 (Int.ofNat m.length)) ∧ T2.get 14 = some (.int .i64 (Int.ofNat i)) ∧ T2.get 33 = some vp ∧ T2.get 34 = some (.int .i64 (Int.ofNat i)) ∧ T2.get 35 = some (.int .i64 (Int.ofNat j))) i ?_ ?_
            · refine ⟨rfl, 0, _, rfl, by omega, fun a ha => by omega, ?_, ?_, ?_, ?_, ?_, ?_, ?_, ?_, ?_⟩
              simp only [T.get_set, Nat.reduceEqDiff, if_true, if_false, t0]
              simp only [T.get_set, Nat.reduceEqDiff, if_true, if_false]
              simp only [T.get_set, Nat.reduceEqDiff, if_true, if_false]
              simp only [T.get_set, Nat.reduceEqDiff, if_true, if_false, t12]
              simp only [T.get_set, Nat.reduceEqDiff, if_true, if_false, t13]
              simp only [T.get_set, Nat.reduceEqDiff, if_true, if_false, t14]
              simp only [T.get_set, Nat.reduceEqDiff, if_true, if_false]
              simp only [T.get_set, Nat.reduceEqDiff, if_true, if_false]
              simp only [T.get_set, Nat.reduceEqDiff, if_true, if_false]
              · rfl
            · rintro k2 mm s1 ⟨rfl, j, T2, rfl, hjk, hok, t0, t5, t6, t12, t13, t14, t33, t34, t35⟩
              repeat (first | (refine CodeR.seq ?_) | (refine CodeR.reg rfl ?_) | (refine CodeR.regD rfl rfl rfl ?_) | (refine SeqR.done ?_) | (refine CodeR.block ?_) | (refine CodeR.skip ?_) | (refine CodeR.exit ?_; simp only [sA, Ex.then, Ex.inBlock, Nat.reduceEqDiff]) | (first | (refine SeqR.skipN ?_ rfl rfl ?_; (simp only [sA, wantE, T.get_set, Nat.reduceEqDiff, t34, t35, ltB_nat] <;> with_reducible rfl)) | ((first | refine SeqR.stepN (v := ?_) (s' := ?_) rfl ?_ rfl ?_ rfl rfl ?_ | refine SeqR.stepLN (v := ?_) (s' := ?_) rfl ?_ rfl ?_ rfl rfl ?_); rotate_left 3; (intro call lc; simp only [sA, opE, kindOf, pureE, heapE, rho, rhos, T.get_set, Nat.reduceEqDiff, nb00, absV, absS, l_slice, l_void, l_str, l_arr, natE, loadE, isConst, TK.agg, u_notB, b_eqlB, b_neqB, b_add, b_sub, b_mul, b_lss, b_gtr, b_leq, b_geq, b_eql, b_neq, ty3, i3, si3, ty23, i23, si23, ty25, i25, si25, t34, t35, ltB_nat] <;> rfl); rotate_left 1; (simp only [sA, wantE, T.get_set, Nat.reduceEqDiff, t34, t35, ltB_nat] <;> with_reducible rfl))))
              refine CodeR.cond (t := decide (j < i)) (by simp only [sA, rho, T.get_set, Nat.reduceEqDiff, u_notB, b_eqlB, b_neqB, b_add, b_sub, b_mul, b_lss, b_gtr, b_leq, b_geq, b_eql, b_neq, ty3, i3, si3, ty23, i23, si23, ty25, i25, si25]) ?_ ?_
              · intro hji
                have hji' : j < i := by simpa using hji
                obtain ⟨b3, o3, n3, c3, q3, kk3, rj, hvp, u1, u2, u3, u4⟩ := hdp.row (i := j) (by rw [List.length_take]; omega)
                subst hvp
                have u9 : Nat.blt b3 s.c = true := blt_iff.2 (hF.lt b3 kk3 u2)
                have htk : (m.take i).getD j [] = m.getD j [] := by
                  rw [List.getD_eq_getElem?_getD, List.getElem?_take, if_pos hji', List.getD_eq_getElem?_getD]
                rw [htk] at u4
                have hlj : w < (m.getD j []).length := by
                  have := (hR.2 i hlt').2.1
                  have := (hR.2 j (by omega)).2.1
                  omega
                obtain ⟨b2, o2, n2, c2, q2, k2', rfl, v1, v2, v3⟩ := Row.zint u4 hlj
                have v4 : Nat.blt b2 s.c = true := blt_iff.2 (hF.lt b2 k2' v2)
                generalize hjw : (m.getD j []).getD w 0 = jw at *
                by_cases hjn : jw < 0
                · have e3 : ltB jw 0 = true := by rw [ltB_eq]; simpa using hjn
                  repeat (first | (refine CodeR.seq ?_) | (refine CodeR.reg rfl ?_) | (refine CodeR.regD rfl rfl rfl ?_) | (refine SeqR.done ?_) | (refine CodeR.block ?_) | (refine CodeR.skip ?_) | (refine CodeR.exit ?_; simp only [sA, Ex.then, Ex.inBlock, Nat.reduceEqDiff]) | (first | (refine SeqR.skipN ?_ rfl rfl ?_; (simp only [sA, wantE, T.get_set, Nat.reduceEqDiff, t6, t33, t35, u1, u2, u3, u9, v1, v2, v3, v4, e3] <;> with_reducible rfl)) | ((first | refine SeqR.stepN (v := ?_) (s' := ?_) rfl ?_ rfl ?_ rfl rfl ?_ | refine SeqR.stepLN (v := ?_) (s' := ?_) rfl ?_ rfl ?_ rfl rfl ?_); rotate_left 3; (intro call lc; simp only [sA, opE, kindOf, pureE, heapE, rho, rhos, T.get_set, Nat.reduceEqDiff, nb00, absV, absS, l_slice, l_void, l_str, l_arr, natE, loadE, isConst, TK.agg, u_notB, b_eqlB, b_neqB, b_add, b_sub, b_mul, b_lss, b_gtr, b_leq, b_geq, b_eql, b_neq, ty3, i3, si3, ty23, i23, si23, ty25, i25, si25, t6, t33, t35, u1, u2, u3, u9, v1, v2, v3, v4, e3] <;> rfl); rotate_left 1; (simp only [sA, wantE, T.get_set, Nat.reduceEqDiff, t6, t33, t35, u1, u2, u3, u9, v1, v2, v3, v4, e3] <;> with_reducible rfl))))
                  refine CodeR.cond (t := true) (by simp only [sA, rho, T.get_set, Nat.reduceEqDiff, u_notB, b_eqlB, b_neqB, b_add, b_sub, b_mul, b_lss, b_gtr, b_leq, b_geq, b_eql, b_neq, ty3, i3, si3, ty23, i23, si23, ty25, i25, si25, e3]) (fun _ => ?_) (fun h => by cases h)
                  repeat (first | (refine CodeR.seq ?_) | (refine CodeR.reg rfl ?_) | (refine CodeR.regD rfl rfl rfl ?_) | (refine SeqR.done ?_) | (refine CodeR.block ?_) | (refine CodeR.skip ?_) | (refine CodeR.exit ?_; simp only [sA, Ex.then, Ex.inBlock, Nat.reduceEqDiff]) | (first | (refine SeqR.skipN ?_ rfl rfl ?_; (simp only [sA, wantE, T.get_set, Nat.reduceEqDiff] <;> with_reducible rfl)) | ((first | refine SeqR.stepN (v := ?_) (s' := ?_) rfl ?_ rfl ?_ rfl rfl ?_ | refine SeqR.stepLN (v := ?_) (s' := ?_) rfl ?_ rfl ?_ rfl rfl ?_); rotate_left 3; (intro call lc; simp only [sA, opE, kindOf, pureE, heapE, rho, rhos, T.get_set, Nat.reduceEqDiff, nb00, absV, absS, l_slice, l_void, l_str, l_arr, natE, loadE, isConst, TK.agg, u_notB, b_eqlB, b_neqB, b_add, b_sub, b_mul, b_lss, b_gtr, b_leq, b_geq, b_eql, b_neq, ty3, i3, si3, ty23, i23, si23, ty25, i25, si25] <;> rfl); rotate_left 1; (simp only [sA, wantE, T.get_set, Nat.reduceEqDiff] <;> with_reducible rfl))))
                  refine CodeR.ret ⟨.inr rfl, [.bool false], by (show ressE E _ _ [.tmp 2] = _; simp only [sA, ressE, resE, T.get_set, Nat.reduceEqDiff, u_notB, b_eqlB, b_neqB, b_add, b_sub, b_mul, b_lss, b_gtr, b_leq, b_geq, b_eql, b_neq, ty3, i3, si3, ty23, i23, si23, ty25, i25, si25]), ?_⟩
                  refine ⟨rfl, false, rfl, ?_⟩
                  simp only [Bool.false_eq_true, false_iff, hiff]
                  intro hc
                  have := hc.2.2.2.1 j hji'
                  omega
                · have e3 : ltB jw 0 = false := by rw [ltB_eq]; simpa using hjn
                  have e4 : ltB jw rw_ = decide (jw < rw_) := ltB_eq _ _
                  repeat (first | (refine CodeR.seq ?_) | (refine CodeR.reg rfl ?_) | (refine CodeR.regD rfl rfl rfl ?_) | (refine SeqR.done ?_) | (refine CodeR.block ?_) | (refine CodeR.skip ?_) | (refine CodeR.exit ?_; simp only [sA, Ex.then, Ex.inBlock, Nat.reduceEqDiff]) | (first | (refine SeqR.skipN ?_ rfl rfl ?_; (simp only [sA, wantE, T.get_set, Nat.reduceEqDiff, t5, t6, t33, t35, p1, p2, p3, p4, u1, u2, u3, u9, v1, v2, v3, v4, e3, e4] <;> with_reducible rfl)) | ((first | refine SeqR.stepN (v := ?_) (s' := ?_) rfl ?_ rfl ?_ rfl rfl ?_ | refine SeqR.stepLN (v := ?_) (s' := ?_) rfl ?_ rfl ?_ rfl rfl ?_); rotate_left 3; (intro call lc; simp only [sA, opE, kindOf, pureE, heapE, rho, rhos, T.get_set, Nat.reduceEqDiff, nb00, absV, absS, l_slice, l_void, l_str, l_arr, natE, loadE, isConst, TK.agg, u_notB, b_eqlB, b_neqB, b_add, b_sub, b_mul, b_lss, b_gtr, b_leq, b_geq, b_eql, b_neq, ty3, i3, si3, ty23, i23, si23, ty25, i25, si25, t5, t6, t33, t35, p1, p2, p3, p4, u1, u2, u3, u9, v1, v2, v3, v4, e3, e4] <;> rfl); rotate_left 1; (simp only [sA, wantE, T.get_set, Nat.reduceEqDiff, t5, t6, t33, t35, p1, p2, p3, p4, u1, u2, u3, u9, v1, v2, v3, v4, e3, e4] <;> with_reducible rfl))))
                  refine CodeR.cond (t := !decide (jw < rw_)) (by simp only [sA, rho, T.get_set, Nat.reduceEqDiff, u_notB, b_eqlB, b_neqB, b_add, b_sub, b_mul, b_lss, b_gtr, b_leq, b_geq, b_eql, b_neq, ty3, i3, si3, ty23, i23, si23, ty25, i25, si25, e3, e4]) ?_ ?_
                  · intro hc
                    have hc : ¬ jw < rw_ := by simpa using hc
                    repeat (first | (refine CodeR.seq ?_) | (refine CodeR.reg rfl ?_) | (refine CodeR.regD rfl rfl rfl ?_) | (refine SeqR.done ?_) | (refine CodeR.block ?_) | (refine CodeR.skip ?_) | (refine CodeR.exit ?_; simp only [sA, Ex.then, Ex.inBlock, Nat.reduceEqDiff]) | (first | (refine SeqR.skipN ?_ rfl rfl ?_; (simp only [sA, wantE, T.get_set, Nat.reduceEqDiff] <;> with_reducible rfl)) | ((first | refine SeqR.stepN (v := ?_) (s' := ?_) rfl ?_ rfl ?_ rfl rfl ?_ | refine SeqR.stepLN (v := ?_) (s' := ?_) rfl ?_ rfl ?_ rfl rfl ?_); rotate_left 3; (intro call lc; simp only [sA, opE, kindOf, pureE, heapE, rho, rhos, T.get_set, Nat.reduceEqDiff, nb00, absV, absS, l_slice, l_void, l_str, l_arr, natE, loadE, isConst, TK.agg, u_notB, b_eqlB, b_neqB, b_add, b_sub, b_mul, b_lss, b_gtr, b_leq, b_geq, b_eql, b_neq, ty3, i3, si3, ty23, i23, si23, ty25, i25, si25] <;> rfl); rotate_left 1; (simp only [sA, wantE, T.get_set, Nat.reduceEqDiff] <;> with_reducible rfl))))
                    refine CodeR.ret ⟨.inr rfl, [.bool false], by (show ressE E _ _ [.tmp 2] = _; simp only [sA, ressE, resE, T.get_set, Nat.reduceEqDiff, u_notB, b_eqlB, b_neqB, b_add, b_sub, b_mul, b_lss, b_gtr, b_leq, b_geq, b_eql, b_neq, ty3, i3, si3, ty23, i23, si23, ty25, i25, si25]), ?_⟩
                    refine ⟨rfl, false, rfl, ?_⟩
                    simp only [Bool.false_eq_true, false_iff, hiff]
                    intro hc'
                    have := hc'.2.2.2.1 j hji'
                    omega
                  · intro hc
                    have hc : jw < rw_ := by simpa using hc
                    have e5 : wr .i64 (Int.ofNat j + 1) = Int.ofNat (j + 1) := wr_add (b := 1) (by omega)
                    repeat (first | (refine CodeR.seq ?_) | (refine CodeR.reg rfl ?_) | (refine CodeR.regD rfl rfl rfl ?_) | (refine SeqR.done ?_) | (refine CodeR.block ?_) | (refine CodeR.skip ?_) | (refine CodeR.exit ?_; simp only [sA, Ex.then, Ex.inBlock, Nat.reduceEqDiff]) | (first | (refine SeqR.skipN ?_ rfl rfl ?_; (simp only [sA, wantE, T.get_set, Nat.reduceEqDiff, t35, e5] <;> with_reducible rfl)) | ((first | refine SeqR.stepN (v := ?_) (s' := ?_) rfl ?_ rfl ?_ rfl rfl ?_ | refine SeqR.stepLN (v := ?_) (s' := ?_) rfl ?_ rfl ?_ rfl rfl ?_); rotate_left 3; (intro call lc; simp only [sA, opE, kindOf, pureE, heapE, rho, rhos, T.get_set, Nat.reduceEqDiff, nb00, absV, absS, l_slice, l_void, l_str, l_arr, natE, loadE, isConst, TK.agg, u_notB, b_eqlB, b_neqB, b_add, b_sub, b_mul, b_lss, b_gtr, b_leq, b_geq, b_eql, b_neq, ty3, i3, si3, ty23, i23, si23, ty25, i25, si25, t35, e5] <;> rfl); rotate_left 1; (simp only [sA, wantE, T.get_set, Nat.reduceEqDiff, t35, e5] <;> with_reducible rfl))))
                    refine ⟨k2 - 1, by omega, rfl, j + 1, _, rfl, by omega, fun a ha => ?_, ?_, ?_, ?_, ?_, ?_, ?_, ?_, ?_, ?_⟩
                    · by_cases haj : a = j
                      · subst haj; rw [hjw]; omega
                      · exact hok a (by omega)
                    simp only [T.get_set, Nat.reduceEqDiff, if_true, if_false, t0]
                    simp only [T.get_set, Nat.reduceEqDiff, if_true, if_false, t5]
                    simp only [T.get_set, Nat.reduceEqDiff, if_true, if_false, t6]
                    simp only [T.get_set, Nat.reduceEqDiff, if_true, if_false, t12]
                    simp only [T.get_set, Nat.reduceEqDiff, if_true, if_false, t13]
                    simp only [T.get_set, Nat.reduceEqDiff, if_true, if_false, t14]
                    simp only [T.get_set, Nat.reduceEqDiff, if_true, if_false, t33]
                    simp only [T.get_set, Nat.reduceEqDiff, if_true, if_false, t34]
                    simp only [T.get_set, Nat.reduceEqDiff, if_true, if_false]
              · intro hji
                have hji' : ¬ j < i := by simpa using hji
                have e5 : wr .i64 (Int.ofNat i + 1) = Int.ofNat (i + 1) := wr_add (b := 1) (by omega)
                repeat (first | (refine CodeR.seq ?_) | (refine CodeR.reg rfl ?_) | (refine CodeR.regD rfl rfl rfl ?_) | (refine SeqR.done ?_) | (refine CodeR.block ?_) | (refine CodeR.skip ?_) | (refine CodeR.exit ?_; simp only [sA, Ex.then, Ex.inBlock, Nat.reduceEqDiff]) | (first | (refine SeqR.skipN ?_ rfl rfl ?_; (simp only [sA, wantE, T.get_set, Nat.reduceEqDiff, t6, t14, e5] <;> with_reducible rfl)) | ((first | refine SeqR.stepN (v := ?_) (s' := ?_) rfl ?_ rfl ?_ rfl rfl ?_ | refine SeqR.stepLN (v := ?_) (s' := ?_) rfl ?_ rfl ?_ rfl rfl ?_); rotate_left 3; (intro call lc; simp only [sA, opE, kindOf, pureE, heapE, rho, rhos, T.get_set, Nat.reduceEqDiff, nb00, absV, absS, l_slice, l_void, l_str, l_arr, natE, loadE, isConst, TK.agg, u_notB, b_eqlB, b_neqB, b_add, b_sub, b_mul, b_lss, b_gtr, b_leq, b_geq, b_eql, b_neq, ty3, i3, si3, ty23, i23, si23, ty25, i25, si25, t6, t14, e5] <;> rfl); rotate_left 1; (simp only [sA, wantE, T.get_set, Nat.reduceEqDiff, t6, t14, e5] <;> with_reducible rfl))))
                refine ⟨k', by omega, rfl, i + 1, Int.ofNat w, _, rfl, by omega, by simp only [Int.ofNat_eq_natCast]; omega, by simp only [Int.ofNat_eq_natCast]; omega, ?_, ?_, ?_, ?_, ?_, ?_⟩
                · rw [hiff]
                  simp only [Int.ofNat_eq_natCast] at hlp ⊢
                  exact ⟨fun h => h.2.2.2, fun h => ⟨hlp, by omega, fun a ha => hok a (by omega), h⟩⟩
                simp only [T.get_set, Nat.reduceEqDiff, if_true, if_false, t0]
                simp only [T.get_set, Nat.reduceEqDiff, if_true, if_false]
                simp only [T.get_set, Nat.reduceEqDiff, if_true, if_false, t12]
                simp only [T.get_set, Nat.reduceEqDiff, if_true, if_false, t13]
                simp only [T.get_set, Nat.reduceEqDiff, if_true, if_false]
      · have e1 : ltB last p = false := by rw [ltB_eq]; simpa using hlp
        repeat (first | (refine CodeR.seq ?_) | (refine CodeR.reg rfl ?_) | (refine CodeR.regD rfl rfl rfl ?_) | (refine SeqR.done ?_) | (refine CodeR.block ?_) | (refine CodeR.skip ?_) | (refine CodeR.exit ?_; simp only [sA, Ex.then, Ex.inBlock, Nat.reduceEqDiff]) | (first | (refine SeqR.skipN ?_ rfl rfl ?_; (simp only [sA, wantE, T.get_set, Nat.reduceEqDiff, t3, e1] <;> with_reducible rfl)) | ((first | refine SeqR.stepN (v := ?_) (s' := ?_) rfl ?_ rfl ?_ rfl rfl ?_ | refine SeqR.stepLN (v := ?_) (s' := ?_) rfl ?_ rfl ?_ rfl rfl ?_); rotate_left 3; (intro call lc; simp only [sA, opE, kindOf, pureE, heapE, rho, rhos, T.get_set, Nat.reduceEqDiff, nb00, absV, absS, l_slice, l_void, l_str, l_arr, natE, loadE, isConst, TK.agg, u_notB, b_eqlB, b_neqB, b_add, b_sub, b_mul, b_lss, b_gtr, b_leq, b_geq, b_eql, b_neq, ty3, i3, si3, ty23, i23, si23, ty25, i25, si25, t3, e1] <;> rfl); rotate_left 1; (simp only [sA, wantE, T.get_set, Nat.reduceEqDiff, t3, e1] <;> with_reducible rfl))))
        refine CodeR.cond (t := true) (by simp only [sA, rho, T.get_set, Nat.reduceEqDiff, u_notB, b_eqlB, b_neqB, b_add, b_sub, b_mul, b_lss, b_gtr, b_leq, b_geq, b_eql, b_neq, ty3, i3, si3, ty23, i23, si23, ty25, i25, si25, e1]) (fun _ => ?_) (fun h => by cases h)
        repeat (first | (refine CodeR.seq ?_) | (refine CodeR.reg rfl ?_) | (refine CodeR.regD rfl rfl rfl ?_) | (refine SeqR.done ?_) | (refine CodeR.block ?_) | (refine CodeR.skip ?_) | (refine CodeR.exit ?_; simp only [sA, Ex.then, Ex.inBlock, Nat.reduceEqDiff]) | (first | (refine SeqR.skipN ?_ rfl rfl ?_; (simp only [sA, wantE, T.get_set, Nat.reduceEqDiff] <;> with_reducible rfl)) | ((first | refine SeqR.stepN (v := ?_) (s' := ?_) rfl ?_ rfl ?_ rfl rfl ?_ | refine SeqR.stepLN (v := ?_) (s' := ?_) rfl ?_ rfl ?_ rfl rfl ?_); rotate_left 3; (intro call lc; simp only [sA, opE, kindOf, pureE, heapE, rho, rhos, T.get_set, Nat.reduceEqDiff, nb00, absV, absS, l_slice, l_void, l_str, l_arr, natE, loadE, isConst, TK.agg, u_notB, b_eqlB, b_neqB, b_add, b_sub, b_mul, b_lss, b_gtr, b_leq, b_geq, b_eql, b_neq, ty3, i3, si3, ty23, i23, si23, ty25, i25, si25] <;> rfl); rotate_left 1; (simp only [sA, wantE, T.get_set, Nat.reduceEqDiff] <;> with_reducible rfl))))
        refine CodeR.ret ⟨.inr rfl, [.bool false], by (show ressE E _ _ [.tmp 2] = _; simp only [sA, ressE, resE, T.get_set, Nat.reduceEqDiff, u_notB, b_eqlB, b_neqB, b_add, b_sub, b_mul, b_lss, b_gtr, b_leq, b_geq, b_eql, b_neq, ty3, i3, si3, ty23, i23, si23, ty25, i25, si25]), ?_⟩
        refine ⟨rfl, false, rfl, ?_⟩
        simp only [Bool.false_eq_true, false_iff, hiff]
        exact fun h => hlp h.2.1
    · intro hge
      have hge' : ¬ i < m.length := by simpa using hge
      have hk0 : k = 0 := by omega
      subst hk0
      repeat (first | (refine CodeR.seq ?_) | (refine CodeR.reg rfl ?_) | (refine CodeR.regD rfl rfl rfl ?_) | (refine SeqR.done ?_) | (refine CodeR.block ?_) | (refine CodeR.skip ?_) | (refine CodeR.exit ?_; simp only [sA, Ex.then, Ex.inBlock, Nat.reduceEqDiff]) | (first | (refine SeqR.skipN ?_ rfl rfl ?_; (simp only [sA, wantE, T.get_set, Nat.reduceEqDiff] <;> with_reducible rfl)) | ((first | refine SeqR.stepN (v := ?_) (s' := ?_) rfl ?_ rfl ?_ rfl rfl ?_ | refine SeqR.stepLN (v := ?_) (s' := ?_) rfl ?_ rfl ?_ rfl rfl ?_); rotate_left 3; (intro call lc; simp only [sA, opE, kindOf, pureE, heapE, rho, rhos, T.get_set, Nat.reduceEqDiff, nb00, absV, absS, l_slice, l_void, l_str, l_arr, natE, loadE, isConst, TK.agg, u_notB, b_eqlB, b_neqB, b_add, b_sub, b_mul, b_lss, b_gtr, b_leq, b_geq, b_eql, b_neq, ty3, i3, si3, ty23, i23, si23, ty25, i25, si25] <;> rfl); rotate_left 1; (simp only [sA, wantE, T.get_set, Nat.reduceEqDiff] <;> with_reducible rfl))))
      refine CodeR.ret ⟨.inr rfl, [.bool true], by (show ressE E _ _ [.tmp 2] = _; simp only [sA, ressE, resE, T.get_set, Nat.reduceEqDiff, u_notB, b_eqlB, b_neqB, b_add, b_sub, b_mul, b_lss, b_gtr, b_leq, b_geq, b_eql, b_neq, ty3, i3, si3, ty23, i23, si23, ty25, i25, si25]), ?_⟩
      refine ⟨rfl, true, rfl, ?_⟩
      simp only [true_iff, hiff]
      exact ⟨hR, trivial⟩
end Go.Proofs.YtaocoplfdhcoaaaGreatDoor.EvA

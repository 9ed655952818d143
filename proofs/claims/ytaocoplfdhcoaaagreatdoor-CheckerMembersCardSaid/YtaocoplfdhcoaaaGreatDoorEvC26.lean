/- schismaref07.IsForm, checker.Form, run. -/
import Derived.Test.YtaocoplfdhcoaaaGreatDoorEvC105
set_option linter.unusedVariables false
set_option linter.unusedSimpArgs false
set_option maxRecDepth 20000
set_option maxHeartbeats 2000000
namespace Go.Proofs.YtaocoplfdhcoaaaGreatDoor.EvA
open Go Go.RowKit Go.Proofs.YtaocoplfdhcoaaaGreatDoor.Ev
theorem fn27' : E.fns.get 27 = some Tryz.f27 := by kernel_rfl
theorem fn26' : E.fns.get 26 = some Tryz.f26 := by kernel_rfl
theorem firstL_spec : ∀ (n : Nat) (xs : List Int), firstL n xs = -1 ∨ ∃ q, firstL n xs = Int.ofNat (n + q) ∧ q < xs.length ∧ xs.getD q 0 ≠ 0
  | n, [] => .inl rfl
  | n, x :: xs => by
    rw [firstL]
    by_cases h : x = 0
    · rw [if_pos h]
      rcases firstL_spec (n + 1) xs with h1 | ⟨q, h1, h2, h3⟩
      · exact .inl h1
      · exact .inr ⟨q + 1, by rw [h1]; simp only [Int.ofNat_eq_natCast]; omega, by simp; omega, by simpa using h3⟩
    · rw [if_neg h]
      exact .inr ⟨0, by simp, by simp, by simpa using h⟩
def FormP (m : List (List Int)) : Prop := formL m m.length 0 (-1)
theorem rows_of {h : T Blk} {m : List (List Int)} {b o n c q i : Nat} (hd : MZ h m (.slice (some (b, o)) n c q)) (hi : i < m.length) : ∃ kk, h.get b = some kk ∧ ∀ j, j < m.length → ∃ r, Nat.blt j n = true ∧ kk.cells[o + j]? = some r ∧ RZ h (m.getD j []) r := by
  obtain ⟨b', o', n', c', q', kk, r, hv, f1, f2, f3, f4⟩ := hd.row hi
  simp only [AV.slice.injEq, Option.some.injEq, Prod.mk.injEq] at hv
  obtain ⟨⟨rfl, rfl⟩, rfl, rfl, rfl⟩ := hv
  refine ⟨kk, f2, fun j hj => ?_⟩
  obtain ⟨b', o', n', c', q', kk', r', hv, g1, g2, g3, g4⟩ := hd.row hj
  simp only [AV.slice.injEq, Option.some.injEq, Prod.mk.injEq] at hv
  obtain ⟨⟨rfl, rfl⟩, rfl, rfl, rfl⟩ := hv
  rw [f2] at g2
  cases g2
  exact ⟨r', g1, g3, g4⟩
theorem isForm_run {lo : Nat} {d : AV} {m : List (List Int)} {s : St} (hd : MZ s.h m d) (hF : Fresh s) (hR : RightM m) :
    FunR E lo 27 [d] s fun v s' => s = s' ∧ ∃ b, v = .bool b ∧ (b = true ↔ FormP m) := by
  refine FunR.body (fn := Tryz.f27) fn27' rfl ?_
  have hn : (max ([d] : List AV).length Tryz.f27.ntmps) = 62 := rfl
  generalize max ([d] : List AV).length Tryz.f27.ntmps = n at hn
  subst hn
  have g0 : (argsT 0 ([d] : List AV)).get 0 = some (d) := rfl
  generalize argsT 0 ([d] : List AV) = T0 at g0 ⊢
  have hn : (62 : Nat) = 62 := rfl
  have ld := hd.len 25
  have hm12 := hR.1
  repeat (first | (refine CodeR.seq ?_) | (refine CodeR.reg rfl ?_) | (refine CodeR.regD rfl rfl rfl ?_) | (refine SeqR.done ?_) | (refine CodeR.block ?_) | (refine CodeR.skip ?_) | (refine CodeR.exit ?_; simp only [sA, Ex.then, Ex.inBlock, Nat.reduceEqDiff]) | (first | (refine SeqR.skipN ?_ rfl rfl ?_; (simp only [sA, wantE, T.get_set, Nat.reduceEqDiff, g0] <;> with_reducible rfl)) | ((first | refine SeqR.stepN (v := ?_) (s' := ?_) rfl ?_ rfl ?_ rfl rfl ?_ | refine SeqR.stepLN (v := ?_) (s' := ?_) rfl ?_ rfl ?_ rfl rfl ?_); rotate_left 3; (intro call lc; simp only [sA, opE, kindOf, pureE, heapE, rho, rhos, T.get_set, Nat.reduceEqDiff, nb00, absV, absS, l_slice, l_void, l_str, l_arr, natE, loadE, isConst, TK.agg, u_notB, b_eqlB, b_neqB, b_add, b_sub, b_mul, b_lss, b_gtr, b_leq, b_geq, b_eql, b_neq, ty3, i3, si3, ty23, i23, si23, ty25, i25, si25, g0] <;> rfl); rotate_left 1; (simp only [sA, wantE, T.get_set, Nat.reduceEqDiff, g0] <;> with_reducible rfl))))
  refine CodeR.loop (fun k mm s1 => s = s1 ∧ ∃ i last T1, mm = ⟨62, T1⟩ ∧ i + k = m.length ∧ -1 ≤ last ∧ last < 1000 ∧ (FormP m ↔ formL m k i last) ∧ T1.get 0 = some d ∧ T1.get 3 = some (.int .i64 last) ∧ T1.get 4 = some (.int .i64 (Int.ofNat i))) m.length ?_ ?_
  · refine ⟨rfl, 0, -1, _, rfl, by omega, by omega, by omega, Iff.rfl, ?_, ?_, ?_⟩
    simp only [T.get_set, Nat.reduceEqDiff, if_true, if_false, g0]
    simp only [T.get_set, Nat.reduceEqDiff, if_true, if_false]
    simp only [T.get_set, Nat.reduceEqDiff, if_true, if_false]
    · rfl
  · rintro k mm s1 ⟨rfl, i, last, T1, rfl, hik, hl1, hl2, hiff, t0, t3, t4⟩
    repeat (first | (refine CodeR.seq ?_) | (refine CodeR.reg rfl ?_) | (refine CodeR.regD rfl rfl rfl ?_) | (refine SeqR.done ?_) | (refine CodeR.block ?_) | (refine CodeR.skip ?_) | (refine CodeR.exit ?_; simp only [sA, Ex.then, Ex.inBlock, Nat.reduceEqDiff]) | (first | (refine SeqR.skipN ?_ rfl rfl ?_; (simp only [sA, wantE, T.get_set, Nat.reduceEqDiff, t0, t4, ld, ltB_nat] <;> with_reducible rfl)) | ((first | refine SeqR.stepN (v := ?_) (s' := ?_) rfl ?_ rfl ?_ rfl rfl ?_ | refine SeqR.stepLN (v := ?_) (s' := ?_) rfl ?_ rfl ?_ rfl rfl ?_); rotate_left 3; (intro call lc; simp only [sA, opE, kindOf, pureE, heapE, rho, rhos, T.get_set, Nat.reduceEqDiff, nb00, absV, absS, l_slice, l_void, l_str, l_arr, natE, loadE, isConst, TK.agg, u_notB, b_eqlB, b_neqB, b_add, b_sub, b_mul, b_lss, b_gtr, b_leq, b_geq, b_eql, b_neq, ty3, i3, si3, ty23, i23, si23, ty25, i25, si25, t0, t4, ld, ltB_nat] <;> rfl); rotate_left 1; (simp only [sA, wantE, T.get_set, Nat.reduceEqDiff, t0, t4, ld, ltB_nat] <;> with_reducible rfl))))
    refine CodeR.cond (t := decide (i < m.length)) (by simp only [sA, rho, T.get_set, Nat.reduceEqDiff, u_notB, b_eqlB, b_neqB, b_add, b_sub, b_mul, b_lss, b_gtr, b_leq, b_geq, b_eql, b_neq, ty3, i3, si3, ty23, i23, si23, ty25, i25, si25]) ?_ ?_
    · intro hlt
      have hlt' : i < m.length := by simpa using hlt
      obtain ⟨k', rfl⟩ : ∃ k', k = k' + 1 := ⟨k - 1, by omega⟩
      have hd0 := hd
      obtain ⟨b, o, n, c, q, _, _, rfl, _, _, _, _⟩ := hd.row hlt'
      obtain ⟨kk, f2, rows⟩ := rows_of hd hlt'
      obtain ⟨r, f1, f3, f4⟩ := rows i hlt'
      have f9 : Nat.blt b s.c = true := blt_iff.2 (hF.lt b kk f2)
      have hlenr := (hR.2 i hlt').1
      rw [formL] at hiff
      repeat (first | (refine CodeR.seq ?_) | (refine CodeR.reg rfl ?_) | (refine CodeR.regD rfl rfl rfl ?_) | (refine SeqR.done ?_) | (refine CodeR.block ?_) | (refine CodeR.skip ?_) | (refine CodeR.exit ?_; simp only [sA, Ex.then, Ex.inBlock, Nat.reduceEqDiff]) | (first | (refine SeqR.skipN ?_ rfl rfl ?_; (simp only [sA, wantE, T.get_set, Nat.reduceEqDiff, t0, t4, f1, f2, f3, f9] <;> with_reducible rfl)) | ((first | refine SeqR.stepN (v := ?_) (s' := ?_) rfl ?_ rfl ?_ rfl rfl ?_ | refine SeqR.stepLN (v := ?_) (s' := ?_) rfl ?_ rfl ?_ rfl rfl ?_); rotate_left 3; (intro call lc; simp only [sA, opE, kindOf, pureE, heapE, rho, rhos, T.get_set, Nat.reduceEqDiff, nb00, absV, absS, l_slice, l_void, l_str, l_arr, natE, loadE, isConst, TK.agg, u_notB, b_eqlB, b_neqB, b_add, b_sub, b_mul, b_lss, b_gtr, b_leq, b_geq, b_eql, b_neq, ty3, i3, si3, ty23, i23, si23, ty25, i25, si25, t0, t4, f1, f2, f3, f9] <;> rfl); rotate_left 1; (simp only [sA, wantE, T.get_set, Nat.reduceEqDiff, t0, t4, f1, f2, f3, f9] <;> with_reducible rfl))))
      refine SeqR.callN (by first | with_reducible rfl | (simp only [sA, wantE, T.get_set, Nat.reduceEqDiff, u_notB, b_eqlB, b_neqB, b_add, b_sub, b_mul, b_lss, b_gtr, b_leq, b_geq, b_eql, b_neq, ty3, i3, si3, ty23, i23, si23, ty25, i25, si25] <;> with_reducible rfl)) rfl rfl (g := 110) (vs := [r]) (by simp only [calleeE, sA, rho, rhos, T.get_set, Nat.reduceEqDiff, u_notB, b_eqlB, b_neqB, b_add, b_sub, b_mul, b_lss, b_gtr, b_leq, b_geq, b_eql, b_neq, ty3, i3, si3, ty23, i23, si23, ty25, i25, si25]; rfl) (by first | rfl | assumption) rfl rfl (fun lc hlc => (first_run f4 hF (by omega)).mono fun v s' hq => ?_)
      obtain ⟨rfl, rfl⟩ := hq
      generalize hp : firstL 0 (m.getD i []) = p at *
      by_cases hlp : last < p
      · have e1 : ltB last p = true := by rw [ltB_eq]; simpa using hlp
        rcases firstL_spec 0 (m.getD i []) with h1 | ⟨w, h1, h2, h3⟩
        · rw [hp] at h1; omega
        · rw [hp, Nat.zero_add] at h1
          subst h1
          simp only [Int.ofNat_eq_natCast, Int.toNat_natCast] at hiff
          obtain ⟨b1, o1, n1, c1, q1, k1, rfl, p1, p2, p3⟩ := Row.zint f4 h2
          have p4 : Nat.blt b1 s'.c = true := blt_iff.2 (hF.lt b1 k1 p2)
          generalize hrw : (m.getD i []).getD w 0 = rw_ at *
          by_cases hneg : rw_ < 0
          · have e2 : ltB rw_ 0 = true := by rw [ltB_eq]; simpa using hneg
            repeat (first | (refine CodeR.seq ?_) | (refine CodeR.reg rfl ?_) | (refine CodeR.regD rfl rfl rfl ?_) | (refine SeqR.done ?_) | (refine CodeR.block ?_) | (refine CodeR.skip ?_) | (refine CodeR.exit ?_; simp only [sA, Ex.then, Ex.inBlock, Nat.reduceEqDiff]) | (first | (refine SeqR.skipN ?_ rfl rfl ?_; (simp only [sA, wantE, T.get_set, Nat.reduceEqDiff, t0, t3, t4, f1, f2, f3, f9, p1, p2, p3, p4, e1, e2] <;> with_reducible rfl)) | ((first | refine SeqR.stepN (v := ?_) (s' := ?_) rfl ?_ rfl ?_ rfl rfl ?_ | refine SeqR.stepLN (v := ?_) (s' := ?_) rfl ?_ rfl ?_ rfl rfl ?_); rotate_left 3; (intro call lc; simp only [sA, opE, kindOf, pureE, heapE, rho, rhos, T.get_set, Nat.reduceEqDiff, nb00, absV, absS, l_slice, l_void, l_str, l_arr, natE, loadE, isConst, TK.agg, u_notB, b_eqlB, b_neqB, b_add, b_sub, b_mul, b_lss, b_gtr, b_leq, b_geq, b_eql, b_neq, ty3, i3, si3, ty23, i23, si23, ty25, i25, si25, t0, t3, t4, f1, f2, f3, f9, p1, p2, p3, p4, e1, e2] <;> rfl); rotate_left 1; (simp only [sA, wantE, T.get_set, Nat.reduceEqDiff, t0, t3, t4, f1, f2, f3, f9, p1, p2, p3, p4, e1, e2] <;> with_reducible rfl))))
            refine CodeR.cond (t := true) (by simp only [sA, rho, T.get_set, Nat.reduceEqDiff, u_notB, b_eqlB, b_neqB, b_add, b_sub, b_mul, b_lss, b_gtr, b_leq, b_geq, b_eql, b_neq, ty3, i3, si3, ty23, i23, si23, ty25, i25, si25, e1, e2]) (fun _ => ?_) (fun h => by cases h)
            repeat (first | (refine CodeR.seq ?_) | (refine CodeR.reg rfl ?_) | (refine CodeR.regD rfl rfl rfl ?_) | (refine SeqR.done ?_) | (refine CodeR.block ?_) | (refine CodeR.skip ?_) | (refine CodeR.exit ?_; simp only [sA, Ex.then, Ex.inBlock, Nat.reduceEqDiff]) | (first | (refine SeqR.skipN ?_ rfl rfl ?_; (simp only [sA, wantE, T.get_set, Nat.reduceEqDiff] <;> with_reducible rfl)) | ((first | refine SeqR.stepN (v := ?_) (s' := ?_) rfl ?_ rfl ?_ rfl rfl ?_ | refine SeqR.stepLN (v := ?_) (s' := ?_) rfl ?_ rfl ?_ rfl rfl ?_); rotate_left 3; (intro call lc; simp only [sA, opE, kindOf, pureE, heapE, rho, rhos, T.get_set, Nat.reduceEqDiff, nb00, absV, absS, l_slice, l_void, l_str, l_arr, natE, loadE, isConst, TK.agg, u_notB, b_eqlB, b_neqB, b_add, b_sub, b_mul, b_lss, b_gtr, b_leq, b_geq, b_eql, b_neq, ty3, i3, si3, ty23, i23, si23, ty25, i25, si25] <;> rfl); rotate_left 1; (simp only [sA, wantE, T.get_set, Nat.reduceEqDiff] <;> with_reducible rfl))))
            refine CodeR.ret ⟨.inr rfl, [.bool false], by (show ressE E _ _ [.tmp 2] = _; simp only [sA, ressE, resE, T.get_set, Nat.reduceEqDiff, u_notB, b_eqlB, b_neqB, b_add, b_sub, b_mul, b_lss, b_gtr, b_leq, b_geq, b_eql, b_neq, ty3, i3, si3, ty23, i23, si23, ty25, i25, si25]), ?_⟩
            refine ⟨rfl, false, rfl, ?_⟩
            simp only [Bool.false_eq_true, false_iff, hiff]
            omega
          · have e2 : ltB rw_ 0 = false := by rw [ltB_eq]; simpa using hneg
            repeat (first | (refine CodeR.seq ?_) | (refine CodeR.reg rfl ?_) | (refine CodeR.regD rfl rfl rfl ?_) | (refine SeqR.done ?_) | (refine CodeR.block ?_) | (refine CodeR.skip ?_) | (refine CodeR.exit ?_; simp only [sA, Ex.then, Ex.inBlock, Nat.reduceEqDiff]) | (first | (refine SeqR.skipN ?_ rfl rfl ?_; (simp only [sA, wantE, T.get_set, Nat.reduceEqDiff, t0, t3, t4, f1, f2, f3, f9, p1, p2, p3, p4, e1, e2] <;> with_reducible rfl)) | ((first | refine SeqR.stepN (v := ?_) (s' := ?_) rfl ?_ rfl ?_ rfl rfl ?_ | refine SeqR.stepLN (v := ?_) (s' := ?_) rfl ?_ rfl ?_ rfl rfl ?_); rotate_left 3; (intro call lc; simp only [sA, opE, kindOf, pureE, heapE, rho, rhos, T.get_set, Nat.reduceEqDiff, nb00, absV, absS, l_slice, l_void, l_str, l_arr, natE, loadE, isConst, TK.agg, u_notB, b_eqlB, b_neqB, b_add, b_sub, b_mul, b_lss, b_gtr, b_leq, b_geq, b_eql, b_neq, ty3, i3, si3, ty23, i23, si23, ty25, i25, si25, t0, t3, t4, f1, f2, f3, f9, p1, p2, p3, p4, e1, e2] <;> rfl); rotate_left 1; (simp only [sA, wantE, T.get_set, Nat.reduceEqDiff, t0, t3, t4, f1, f2, f3, f9, p1, p2, p3, p4, e1, e2] <;> with_reducible rfl))))
            refine CodeR.cond (t := false) (by simp only [sA, rho, T.get_set, Nat.reduceEqDiff, u_notB, b_eqlB, b_neqB, b_add, b_sub, b_mul, b_lss, b_gtr, b_leq, b_geq, b_eql, b_neq, ty3, i3, si3, ty23, i23, si23, ty25, i25, si25, e1, e2]) (fun h => by cases h) (fun _ => ?_)
            repeat (first | (refine CodeR.seq ?_) | (refine CodeR.reg rfl ?_) | (refine CodeR.regD rfl rfl rfl ?_) | (refine SeqR.done ?_) | (refine CodeR.block ?_) | (refine CodeR.skip ?_) | (refine CodeR.exit ?_; simp only [sA, Ex.then, Ex.inBlock, Nat.reduceEqDiff]) | (first | (refine SeqR.skipN ?_ rfl rfl ?_; (simp only [sA, wantE, T.get_set, Nat.reduceEqDiff] <;> with_reducible rfl)) | ((first | refine SeqR.stepN (v := ?_) (s' := ?_) rfl ?_ rfl ?_ rfl rfl ?_ | refine SeqR.stepLN (v := ?_) (s' := ?_) rfl ?_ rfl ?_ rfl rfl ?_); rotate_left 3; (intro call lc; simp only [sA, opE, kindOf, pureE, heapE, rho, rhos, T.get_set, Nat.reduceEqDiff, nb00, absV, absS, l_slice, l_void, l_str, l_arr, natE, loadE, isConst, TK.agg, u_notB, b_eqlB, b_neqB, b_add, b_sub, b_mul, b_lss, b_gtr, b_leq, b_geq, b_eql, b_neq, ty3, i3, si3, ty23, i23, si23, ty25, i25, si25] <;> rfl); rotate_left 1; (simp only [sA, wantE, T.get_set, Nat.reduceEqDiff] <;> with_reducible rfl))))
            refine CodeR.loop (fun k2 mm s1 => s' = s1 ∧ ∃ j T2, mm = ⟨62, T2⟩ ∧ j + k2 = i ∧ (∀ a, a < j → 0 ≤ (m.getD a []).getD w 0 ∧ (m.getD a []).getD w 0 < rw_) ∧ T2.get 0 = some (.slice (some (b, o)) n c q) ∧ T2.get 4 = some (.int .i64 (Int.ofNat i)) ∧ T2.get 5 = some (.int .i64 (Int.ofNat w)) ∧ T2.get 6 = some (.int .i64 (Int.ofNat j))) i ?_ ?_
            · refine ⟨rfl, 0, _, rfl, by omega, fun a ha => by omega, ?_, ?_, ?_, ?_⟩
              simp only [T.get_set, Nat.reduceEqDiff, if_true, if_false, t0]
              simp only [T.get_set, Nat.reduceEqDiff, if_true, if_false, t4]
              simp only [T.get_set, Nat.reduceEqDiff, if_true, if_false]
              simp only [T.get_set, Nat.reduceEqDiff, if_true, if_false]
              · rfl
            · rintro k2 mm s1 ⟨rfl, j, T2, rfl, hjk, hok, t0, t4, t5, t6⟩
              repeat (first | (refine CodeR.seq ?_) | (refine CodeR.reg rfl ?_) | (refine CodeR.regD rfl rfl rfl ?_) | (refine SeqR.done ?_) | (refine CodeR.block ?_) | (refine CodeR.skip ?_) | (refine CodeR.exit ?_; simp only [sA, Ex.then, Ex.inBlock, Nat.reduceEqDiff]) | (first | (refine SeqR.skipN ?_ rfl rfl ?_; (simp only [sA, wantE, T.get_set, Nat.reduceEqDiff, t4, t6, ltB_nat] <;> with_reducible rfl)) | ((first | refine SeqR.stepN (v := ?_) (s' := ?_) rfl ?_ rfl ?_ rfl rfl ?_ | refine SeqR.stepLN (v := ?_) (s' := ?_) rfl ?_ rfl ?_ rfl rfl ?_); rotate_left 3; (intro call lc; simp only [sA, opE, kindOf, pureE, heapE, rho, rhos, T.get_set, Nat.reduceEqDiff, nb00, absV, absS, l_slice, l_void, l_str, l_arr, natE, loadE, isConst, TK.agg, u_notB, b_eqlB, b_neqB, b_add, b_sub, b_mul, b_lss, b_gtr, b_leq, b_geq, b_eql, b_neq, ty3, i3, si3, ty23, i23, si23, ty25, i25, si25, t4, t6, ltB_nat] <;> rfl); rotate_left 1; (simp only [sA, wantE, T.get_set, Nat.reduceEqDiff, t4, t6, ltB_nat] <;> with_reducible rfl))))
              refine CodeR.cond (t := decide (j < i)) (by simp only [sA, rho, T.get_set, Nat.reduceEqDiff, u_notB, b_eqlB, b_neqB, b_add, b_sub, b_mul, b_lss, b_gtr, b_leq, b_geq, b_eql, b_neq, ty3, i3, si3, ty23, i23, si23, ty25, i25, si25]) ?_ ?_
              · intro hji
                have hji' : j < i := by simpa using hji
                obtain ⟨rj, u1, u3, u4⟩ := rows j (by omega)
                have hlj : w < (m.getD j []).length := by
                  have := (hR.2 i hlt').2.1
                  have := (hR.2 j (by omega)).2.1
                  omega
                obtain ⟨b2, o2, n2, c2, q2, k2', rfl, v1, v2, v3⟩ := Row.zint u4 hlj
                have v4 : Nat.blt b2 s'.c = true := blt_iff.2 (hF.lt b2 k2' v2)
                generalize hjw : (m.getD j []).getD w 0 = jw at *
                by_cases hjn : jw < 0
                · have e3 : ltB jw 0 = true := by rw [ltB_eq]; simpa using hjn
                  repeat (first | (refine CodeR.seq ?_) | (refine CodeR.reg rfl ?_) | (refine CodeR.regD rfl rfl rfl ?_) | (refine SeqR.done ?_) | (refine CodeR.block ?_) | (refine CodeR.skip ?_) | (refine CodeR.exit ?_; simp only [sA, Ex.then, Ex.inBlock, Nat.reduceEqDiff]) | (first | (refine SeqR.skipN ?_ rfl rfl ?_; (simp only [sA, wantE, T.get_set, Nat.reduceEqDiff, t0, t4, t5, t6, f2, f9, u1, u3, v1, v2, v3, v4, e3] <;> with_reducible rfl)) | ((first | refine SeqR.stepN (v := ?_) (s' := ?_) rfl ?_ rfl ?_ rfl rfl ?_ | refine SeqR.stepLN (v := ?_) (s' := ?_) rfl ?_ rfl ?_ rfl rfl ?_); rotate_left 3; (intro call lc; simp only [sA, opE, kindOf, pureE, heapE, rho, rhos, T.get_set, Nat.reduceEqDiff, nb00, absV, absS, l_slice, l_void, l_str, l_arr, natE, loadE, isConst, TK.agg, u_notB, b_eqlB, b_neqB, b_add, b_sub, b_mul, b_lss, b_gtr, b_leq, b_geq, b_eql, b_neq, ty3, i3, si3, ty23, i23, si23, ty25, i25, si25, t0, t4, t5, t6, f2, f9, u1, u3, v1, v2, v3, v4, e3] <;> rfl); rotate_left 1; (simp only [sA, wantE, T.get_set, Nat.reduceEqDiff, t0, t4, t5, t6, f2, f9, u1, u3, v1, v2, v3, v4, e3] <;> with_reducible rfl))))
                  refine CodeR.cond (t := true) (by simp only [sA, rho, T.get_set, Nat.reduceEqDiff, u_notB, b_eqlB, b_neqB, b_add, b_sub, b_mul, b_lss, b_gtr, b_leq, b_geq, b_eql, b_neq, ty3, i3, si3, ty23, i23, si23, ty25, i25, si25, e3]) (fun _ => ?_) (fun h => by cases h)
                  repeat (first | (refine CodeR.seq ?_) | (refine CodeR.reg rfl ?_) | (refine CodeR.regD rfl rfl rfl ?_) | (refine SeqR.done ?_) | (refine CodeR.block ?_) | (refine CodeR.skip ?_) | (refine CodeR.exit ?_; simp only [sA, Ex.then, Ex.inBlock, Nat.reduceEqDiff]) | (first | (refine SeqR.skipN ?_ rfl rfl ?_; (simp only [sA, wantE, T.get_set, Nat.reduceEqDiff] <;> with_reducible rfl)) | ((first | refine SeqR.stepN (v := ?_) (s' := ?_) rfl ?_ rfl ?_ rfl rfl ?_ | refine SeqR.stepLN (v := ?_) (s' := ?_) rfl ?_ rfl ?_ rfl rfl ?_); rotate_left 3; (intro call lc; simp only [sA, opE, kindOf, pureE, heapE, rho, rhos, T.get_set, Nat.reduceEqDiff, nb00, absV, absS, l_slice, l_void, l_str, l_arr, natE, loadE, isConst, TK.agg, u_notB, b_eqlB, b_neqB, b_add, b_sub, b_mul, b_lss, b_gtr, b_leq, b_geq, b_eql, b_neq, ty3, i3, si3, ty23, i23, si23, ty25, i25, si25] <;> rfl); rotate_left 1; (simp only [sA, wantE, T.get_set, Nat.reduceEqDiff] <;> with_reducible rfl))))
                  refine CodeR.ret ⟨.inr rfl, [.bool false], by (show ressE E _ _ [.tmp 2] = _; simp only [sA, ressE, resE, T.get_set, Nat.reduceEqDiff, u_notB, b_eqlB, b_neqB, b_add, b_sub, b_mul, b_lss, b_gtr, b_leq, b_geq, b_eql, b_neq, ty3, i3, si3, ty23, i23, si23, ty25, i25, si25]), ?_⟩
                  refine ⟨rfl, false, rfl, ?_⟩
                  simp only [Bool.false_eq_true, false_iff, hiff]
                  intro hc
                  have := hc.2.2.1 j hji'
                  omega
                · have e3 : ltB jw 0 = false := by rw [ltB_eq]; simpa using hjn
                  have e4 : ltB jw rw_ = decide (jw < rw_) := ltB_eq _ _
                  repeat (first | (refine CodeR.seq ?_) | (refine CodeR.reg rfl ?_) | (refine CodeR.regD rfl rfl rfl ?_) | (refine SeqR.done ?_) | (refine CodeR.block ?_) | (refine CodeR.skip ?_) | (refine CodeR.exit ?_; simp only [sA, Ex.then, Ex.inBlock, Nat.reduceEqDiff]) | (first | (refine SeqR.skipN ?_ rfl rfl ?_; (simp only [sA, wantE, T.get_set, Nat.reduceEqDiff, t0, t4, t5, t6, f1, f2, f3, f9, p1, p2, p3, p4, u1, u3, v1, v2, v3, v4, e3, e4] <;> with_reducible rfl)) | ((first | refine SeqR.stepN (v := ?_) (s' := ?_) rfl ?_ rfl ?_ rfl rfl ?_ | refine SeqR.stepLN (v := ?_) (s' := ?_) rfl ?_ rfl ?_ rfl rfl ?_); rotate_left 3; (intro call lc; simp only [sA, opE, kindOf, pureE, heapE, rho, rhos, T.get_set, Nat.reduceEqDiff, nb00, absV, absS, l_slice, l_void, l_str, l_arr, natE, loadE, isConst, TK.agg, u_notB, b_eqlB, b_neqB, b_add, b_sub, b_mul, b_lss, b_gtr, b_leq, b_geq, b_eql, b_neq, ty3, i3, si3, ty23, i23, si23, ty25, i25, si25, t0, t4, t5, t6, f1, f2, f3, f9, p1, p2, p3, p4, u1, u3, v1, v2, v3, v4, e3, e4] <;> rfl); rotate_left 1; (simp only [sA, wantE, T.get_set, Nat.reduceEqDiff, t0, t4, t5, t6, f1, f2, f3, f9, p1, p2, p3, p4, u1, u3, v1, v2, v3, v4, e3, e4] <;> with_reducible rfl))))
                  refine CodeR.cond (t := !decide (jw < rw_)) (by simp only [sA, rho, T.get_set, Nat.reduceEqDiff, u_notB, b_eqlB, b_neqB, b_add, b_sub, b_mul, b_lss, b_gtr, b_leq, b_geq, b_eql, b_neq, ty3, i3, si3, ty23, i23, si23, ty25, i25, si25, e3, e4]) ?_ ?_
                  · intro hc
                    have hc : ¬ jw < rw_ := by simpa using hc
                    repeat (first | (refine CodeR.seq ?_) | (refine CodeR.reg rfl ?_) | (refine CodeR.regD rfl rfl rfl ?_) | (refine SeqR.done ?_) | (refine CodeR.block ?_) | (refine CodeR.skip ?_) | (refine CodeR.exit ?_; simp only [sA, Ex.then, Ex.inBlock, Nat.reduceEqDiff]) | (first | (refine SeqR.skipN ?_ rfl rfl ?_; (simp only [sA, wantE, T.get_set, Nat.reduceEqDiff] <;> with_reducible rfl)) | ((first | refine SeqR.stepN (v := ?_) (s' := ?_) rfl ?_ rfl ?_ rfl rfl ?_ | refine SeqR.stepLN (v := ?_) (s' := ?_) rfl ?_ rfl ?_ rfl rfl ?_); rotate_left 3; (intro call lc; simp only [sA, opE, kindOf, pureE, heapE, rho, rhos, T.get_set, Nat.reduceEqDiff, nb00, absV, absS, l_slice, l_void, l_str, l_arr, natE, loadE, isConst, TK.agg, u_notB, b_eqlB, b_neqB, b_add, b_sub, b_mul, b_lss, b_gtr, b_leq, b_geq, b_eql, b_neq, ty3, i3, si3, ty23, i23, si23, ty25, i25, si25] <;> rfl); rotate_left 1; (simp only [sA, wantE, T.get_set, Nat.reduceEqDiff] <;> with_reducible rfl))))
                    refine CodeR.ret ⟨.inr rfl, [.bool false], by (show ressE E _ _ [.tmp 2] = _; simp only [sA, ressE, resE, T.get_set, Nat.reduceEqDiff, u_notB, b_eqlB, b_neqB, b_add, b_sub, b_mul, b_lss, b_gtr, b_leq, b_geq, b_eql, b_neq, ty3, i3, si3, ty23, i23, si23, ty25, i25, si25]), ?_⟩
                    refine ⟨rfl, false, rfl, ?_⟩
                    simp only [Bool.false_eq_true, false_iff, hiff]
                    intro hc'
                    have := hc'.2.2.1 j hji'
                    omega
                  · intro hc
                    have hc : jw < rw_ := by simpa using hc
                    have e5 : wr .i64 (Int.ofNat j + 1) = Int.ofNat (j + 1) := wr_add (b := 1) (by omega)
                    repeat (first | (refine CodeR.seq ?_) | (refine CodeR.reg rfl ?_) | (refine CodeR.regD rfl rfl rfl ?_) | (refine SeqR.done ?_) | (refine CodeR.block ?_) | (refine CodeR.skip ?_) | (refine CodeR.exit ?_; simp only [sA, Ex.then, Ex.inBlock, Nat.reduceEqDiff]) | (first | (refine SeqR.skipN ?_ rfl rfl ?_; (simp only [sA, wantE, T.get_set, Nat.reduceEqDiff, t6, e5] <;> with_reducible rfl)) | ((first | refine SeqR.stepN (v := ?_) (s' := ?_) rfl ?_ rfl ?_ rfl rfl ?_ | refine SeqR.stepLN (v := ?_) (s' := ?_) rfl ?_ rfl ?_ rfl rfl ?_); rotate_left 3; (intro call lc; simp only [sA, opE, kindOf, pureE, heapE, rho, rhos, T.get_set, Nat.reduceEqDiff, nb00, absV, absS, l_slice, l_void, l_str, l_arr, natE, loadE, isConst, TK.agg, u_notB, b_eqlB, b_neqB, b_add, b_sub, b_mul, b_lss, b_gtr, b_leq, b_geq, b_eql, b_neq, ty3, i3, si3, ty23, i23, si23, ty25, i25, si25, t6, e5] <;> rfl); rotate_left 1; (simp only [sA, wantE, T.get_set, Nat.reduceEqDiff, t6, e5] <;> with_reducible rfl))))
                    refine ⟨k2 - 1, by omega, rfl, j + 1, _, rfl, by omega, fun a ha => ?_, ?_, ?_, ?_, ?_⟩
                    · by_cases haj : a = j
                      · subst haj; rw [hjw]; omega
                      · exact hok a (by omega)
                    simp only [T.get_set, Nat.reduceEqDiff, if_true, if_false, t0]
                    simp only [T.get_set, Nat.reduceEqDiff, if_true, if_false, t4]
                    simp only [T.get_set, Nat.reduceEqDiff, if_true, if_false, t5]
                    simp only [T.get_set, Nat.reduceEqDiff, if_true, if_false]
              · intro hji
                have hji' : ¬ j < i := by simpa using hji
                have e5 : wr .i64 (Int.ofNat i + 1) = Int.ofNat (i + 1) := wr_add (b := 1) (by omega)
                repeat (first | (refine CodeR.seq ?_) | (refine CodeR.reg rfl ?_) | (refine CodeR.regD rfl rfl rfl ?_) | (refine SeqR.done ?_) | (refine CodeR.block ?_) | (refine CodeR.skip ?_) | (refine CodeR.exit ?_; simp only [sA, Ex.then, Ex.inBlock, Nat.reduceEqDiff]) | (first | (refine SeqR.skipN ?_ rfl rfl ?_; (simp only [sA, wantE, T.get_set, Nat.reduceEqDiff, t4, t5, e5] <;> with_reducible rfl)) | ((first | refine SeqR.stepN (v := ?_) (s' := ?_) rfl ?_ rfl ?_ rfl rfl ?_ | refine SeqR.stepLN (v := ?_) (s' := ?_) rfl ?_ rfl ?_ rfl rfl ?_); rotate_left 3; (intro call lc; simp only [sA, opE, kindOf, pureE, heapE, rho, rhos, T.get_set, Nat.reduceEqDiff, nb00, absV, absS, l_slice, l_void, l_str, l_arr, natE, loadE, isConst, TK.agg, u_notB, b_eqlB, b_neqB, b_add, b_sub, b_mul, b_lss, b_gtr, b_leq, b_geq, b_eql, b_neq, ty3, i3, si3, ty23, i23, si23, ty25, i25, si25, t4, t5, e5] <;> rfl); rotate_left 1; (simp only [sA, wantE, T.get_set, Nat.reduceEqDiff, t4, t5, e5] <;> with_reducible rfl))))
                refine ⟨k', by omega, rfl, i + 1, Int.ofNat w, _, rfl, by omega, by simp only [Int.ofNat_eq_natCast]; omega, by simp only [Int.ofNat_eq_natCast]; omega, ?_, ?_, ?_, ?_⟩
                · rw [hiff]
                  simp only [Int.ofNat_eq_natCast] at hlp ⊢
                  exact ⟨fun h => h.2.2.2, fun h => ⟨hlp, by omega, fun a ha => hok a (by omega), h⟩⟩
                simp only [T.get_set, Nat.reduceEqDiff, if_true, if_false, t0]
                simp only [T.get_set, Nat.reduceEqDiff, if_true, if_false]
                simp only [T.get_set, Nat.reduceEqDiff, if_true, if_false]
      · have e1 : ltB last p = false := by rw [ltB_eq]; simpa using hlp
        repeat (first | (refine CodeR.seq ?_) | (refine CodeR.reg rfl ?_) | (refine CodeR.regD rfl rfl rfl ?_) | (refine SeqR.done ?_) | (refine CodeR.block ?_) | (refine CodeR.skip ?_) | (refine CodeR.exit ?_; simp only [sA, Ex.then, Ex.inBlock, Nat.reduceEqDiff]) | (first | (refine SeqR.skipN ?_ rfl rfl ?_; (simp only [sA, wantE, T.get_set, Nat.reduceEqDiff, t3, e1] <;> with_reducible rfl)) | ((first | refine SeqR.stepN (v := ?_) (s' := ?_) rfl ?_ rfl ?_ rfl rfl ?_ | refine SeqR.stepLN (v := ?_) (s' := ?_) rfl ?_ rfl ?_ rfl rfl ?_); rotate_left 3; (intro call lc; simp only [sA, opE, kindOf, pureE, heapE, rho, rhos, T.get_set, Nat.reduceEqDiff, nb00, absV, absS, l_slice, l_void, l_str, l_arr, natE, loadE, isConst, TK.agg, u_notB, b_eqlB, b_neqB, b_add, b_sub, b_mul, b_lss, b_gtr, b_leq, b_geq, b_eql, b_neq, ty3, i3, si3, ty23, i23, si23, ty25, i25, si25, t3, e1] <;> rfl); rotate_left 1; (simp only [sA, wantE, T.get_set, Nat.reduceEqDiff, t3, e1] <;> with_reducible rfl))))
        refine CodeR.cond (t := true) (by simp only [sA, rho, T.get_set, Nat.reduceEqDiff, u_notB, b_eqlB, b_neqB, b_add, b_sub, b_mul, b_lss, b_gtr, b_leq, b_geq, b_eql, b_neq, ty3, i3, si3, ty23, i23, si23, ty25, i25, si25, e1]) (fun _ => ?_) (fun h => by cases h)
        repeat (first | (refine CodeR.seq ?_) | (refine CodeR.reg rfl ?_) | (refine CodeR.regD rfl rfl rfl ?_) | (refine SeqR.done ?_) | (refine CodeR.block ?_) | (refine CodeR.skip ?_) | (refine CodeR.exit ?_; simp only [sA, Ex.then, Ex.inBlock, Nat.reduceEqDiff]) | (first | (refine SeqR.skipN ?_ rfl rfl ?_; (simp only [sA, wantE, T.get_set, Nat.reduceEqDiff] <;> with_reducible rfl)) | ((first | refine SeqR.stepN (v := ?_) (s' := ?_) rfl ?_ rfl ?_ rfl rfl ?_ | refine SeqR.stepLN (v := ?_) (s' := ?_) rfl ?_ rfl ?_ rfl rfl ?_); rotate_left 3; (intro call lc; simp only [sA, opE, kindOf, pureE, heapE, rho, rhos, T.get_set, Nat.reduceEqDiff, nb00, absV, absS, l_slice, l_void, l_str, l_arr, natE, loadE, isConst, TK.agg, u_notB, b_eqlB, b_neqB, b_add, b_sub, b_mul, b_lss, b_gtr, b_leq, b_geq, b_eql, b_neq, ty3, i3, si3, ty23, i23, si23, ty25, i25, si25] <;> rfl); rotate_left 1; (simp only [sA, wantE, T.get_set, Nat.reduceEqDiff] <;> with_reducible rfl))))
        refine CodeR.ret ⟨.inr rfl, [.bool false], by (show ressE E _ _ [.tmp 2] = _; simp only [sA, ressE, resE, T.get_set, Nat.reduceEqDiff, u_notB, b_eqlB, b_neqB, b_add, b_sub, b_mul, b_lss, b_gtr, b_leq, b_geq, b_eql, b_neq, ty3, i3, si3, ty23, i23, si23, ty25, i25, si25]), ?_⟩
        refine ⟨rfl, false, rfl, ?_⟩
        simp only [Bool.false_eq_true, false_iff, hiff]
        exact fun h => hlp h.1
    · intro hge
      have hge' : ¬ i < m.length := by simpa using hge
      have hk0 : k = 0 := by omega
      subst hk0
      repeat (first | (refine CodeR.seq ?_) | (refine CodeR.reg rfl ?_) | (refine CodeR.regD rfl rfl rfl ?_) | (refine SeqR.done ?_) | (refine CodeR.block ?_) | (refine CodeR.skip ?_) | (refine CodeR.exit ?_; simp only [sA, Ex.then, Ex.inBlock, Nat.reduceEqDiff]) | (first | (refine SeqR.skipN ?_ rfl rfl ?_; (simp only [sA, wantE, T.get_set, Nat.reduceEqDiff] <;> with_reducible rfl)) | ((first | refine SeqR.stepN (v := ?_) (s' := ?_) rfl ?_ rfl ?_ rfl rfl ?_ | refine SeqR.stepLN (v := ?_) (s' := ?_) rfl ?_ rfl ?_ rfl rfl ?_); rotate_left 3; (intro call lc; simp only [sA, opE, kindOf, pureE, heapE, rho, rhos, T.get_set, Nat.reduceEqDiff, nb00, absV, absS, l_slice, l_void, l_str, l_arr, natE, loadE, isConst, TK.agg, u_notB, b_eqlB, b_neqB, b_add, b_sub, b_mul, b_lss, b_gtr, b_leq, b_geq, b_eql, b_neq, ty3, i3, si3, ty23, i23, si23, ty25, i25, si25] <;> rfl); rotate_left 1; (simp only [sA, wantE, T.get_set, Nat.reduceEqDiff] <;> with_reducible rfl))))
      refine CodeR.ret ⟨.inr rfl, [.bool true], by (show ressE E _ _ [.tmp 2] = _; simp only [sA, ressE, resE, T.get_set, Nat.reduceEqDiff, u_notB, b_eqlB, b_neqB, b_add, b_sub, b_mul, b_lss, b_gtr, b_leq, b_geq, b_eql, b_neq, ty3, i3, si3, ty23, i23, si23, ty25, i25, si25]), ?_⟩
      refine ⟨rfl, true, rfl, ?_⟩
      simp only [true_iff, hiff]
      trivial
end Go.Proofs.YtaocoplfdhcoaaaGreatDoor.EvA

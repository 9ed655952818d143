/- schismaref03.MulW, run. -/
import Derived.Test.YtaocoplfdhcoaaaGreatDoorSp22
set_option linter.unusedVariables false
set_option linter.unusedSimpArgs false
set_option maxRecDepth 20000
set_option maxHeartbeats 2000000
namespace Go.Proofs.YtaocoplfdhcoaaaGreatDoor.EvA
open Go Go.RowKit Go.Proofs.YtaocoplfdhcoaaaGreatDoor.Ev
theorem fn21' : E.fns.get 21 = some Tryz.f21 := by kernel_rfl
/-- The state within the run: three boxes and the product's row. -/
structure MS (s : St) (na nb : Bool) (da db : AV) (out : List Nat) (s1 : St) : Prop where
  fresh : Fresh s1
  kept : Kept s.c s s1
  c : s1.c = s.c + 4
  b0 : s1.h.get s.c = some ⟨32, [.bool na, da]⟩
  b1 : s1.h.get (s.c + 1) = some ⟨32, [.bool nb, db]⟩
  b2 : s1.h.get (s.c + 2) = some ⟨32, i32.zero.cells⟩
  b3 : s1.h.get (s.c + 3) = some ⟨3, ints out⟩
theorem MS.put {s s1 : St} {na nb : Bool} {da db : AV} {out : List Nat} (h : MS s na nb da db out s1) (j v : Nat) : MS s na nb da db (out.set j v) ⟨s1.h.set (s.c + 3) ⟨3, (ints out).set j (.int .i64 (Int.ofNat v))⟩, s1.c⟩ := by
  obtain ⟨h1, h2, h3, h4, h5, h6, h7⟩ := h
  refine ⟨fresh_set h1 (by omega), kept_set h2 (by omega), h3, ?_, ?_, ?_, ?_⟩
  · simp only; rw [T.get_set, if_neg (by omega)]; exact h4
  · simp only; rw [T.get_set, if_neg (by omega)]; exact h5
  · simp only; rw [T.get_set, if_neg (by omega)]; exact h6
  · simp only; rw [T.get_set, if_pos rfl, ints_set]
/-- The temporaries that stay. -/
structure MT (s : St) (T1 : T AV) (L i : Nat) : Prop where
  t2 : T1.get 2 = some (.ptr (some (s.c, 0)))
  t3 : T1.get 3 = some (.ptr (some (s.c + 1, 0)))
  t4 : T1.get 4 = some (.ptr (some (s.c + 2, 0)))
  t5 : T1.get 5 = some (.slice (some (s.c + 3, 0)) L L 0)
  t6 : T1.get 6 = some (.int .i64 (Int.ofNat i))
theorem set_at (d r : List Nat) (o v : Nat) (os : List Nat) : (d ++ (r ++ o :: os)).set (d.length + r.length) v = d ++ (r ++ v :: os) := by
  rw [List.set_append_right _ _ (by omega), Nat.add_sub_cancel_left, List.set_append_right _ _ (by omega), Nat.sub_self]
  rfl
theorem get_at (d r : List Nat) (o : Nat) (os : List Nat) : (ints (d ++ (r ++ o :: os)))[d.length + r.length]? = some (.int .i64 (Int.ofNat o)) := by
  refine ints_get ?_
  rw [List.getElem?_append_right (by omega), Nat.add_sub_cancel_left, List.getElem?_append_right (by omega), Nat.sub_self]
  rfl
theorem headD_drop (ys : List Nat) (k : Nat) : (ys.drop k).headD 0 = ys.getD k 0 := by
  rw [List.headD_eq_head?_getD, List.head?_drop, List.getD_eq_getElem?_getD]
def mulZ (x y : List Nat) : List Nat := mulGo 1000000000 y x (List.replicate (x.length + y.length + 1) 0)
def mulWL (x y : Bool × List Nat) : Bool × List Nat := trimW (x.1 != y.1) (mulZ x.2 y.2)
theorem gs_small {xs : List Nat} : GS 1000000000 xs ↔ Small xs := Iff.rfl
theorem MulW_run {lo : Nat} {va vb : AV} {x y : Bool × List Nat} {s : St} (hva : WV s.h x va) (hvb : WV s.h y vb) (hF : Fresh s) (hlo : lo ≤ s.c) (hx : x.2.length ≤ 100000) (hy : y.2.length ≤ 100000) (hsx : Small x.2) (hsy : Small y.2) :
    FunR E lo 21 [va, vb] s fun v s' => Fresh s' ∧ Kept s.c s s' ∧ WV s'.h (mulWL x y) v := by
  obtain ⟨na, xs⟩ := x
  obtain ⟨nb, ys⟩ := y
  obtain ⟨da, rfl, ha⟩ := hva
  obtain ⟨db, rfl, hb⟩ := hvb
  simp only at ha hb hx hy hsx hsy ⊢
  refine FunR.body (fn := Tryz.f21) fn21' rfl ?_
  have hn : (max [wv na da, wv nb db].length Tryz.f21.ntmps) = 79 := rfl
  generalize max [wv na da, wv nb db].length Tryz.f21.ntmps = n at hn
  subst hn
  have g0 : (argsT 0 [wv na da, wv nb db]).get 0 = some (.agg [.bool na, da]) := rfl
  have g1 : (argsT 0 [wv na da, wv nb db]).get 1 = some (.agg [.bool nb, db]) := rfl
  generalize argsT 0 [wv na da, wv nb db] = T0 at g0 g1
  have hn : (79 : Nat) = 79 := rfl
  have oa : da.one = true := Row.one ha
  have ob : db.one = true := Row.one hb
  have h1 : ones [.bool na, da] = true := by simp only [ones, oa, Bool.and_true]; rfl
  have h2 : ones [.bool nb, db] = true := by simp only [ones, ob, Bool.and_true]; rfl
  refine CodeR.seq (CodeR.reg rfl ?_)
  refine SeqR.step rfl rfl (fun call lc => op_box (v := wv na da) (cs := [.bool na, da]) (by simp only [rho]; exact g0) rfl h1 call lc _) rfl rfl ?_
  refine SeqR.step rfl rfl (fun call lc => op_box (v := wv nb db) (cs := [.bool nb, db]) (by simp only [rho, T.get_set, Nat.reduceEqDiff, if_false]; exact g1) rfl h2 call lc _) rfl rfl ?_
  refine SeqR.step rfl rfl (fun call lc => op_alloc ty32 rfl rfl call lc _) rfl rfl ?_
  refine SeqR.done ?_
  have hF1 := fresh_new (fresh_new (fresh_new hF ⟨32, [.bool na, da]⟩) ⟨32, [.bool nb, db]⟩) ⟨32, i32.zero.cells⟩
  have hK1 : Kept s.c s _ := kept_new (kept_new (kept_new (Kept.refl s.c s) (Nat.le_refl _) ⟨32, [.bool na, da]⟩) (by simp) ⟨32, [.bool nb, db]⟩) (by simp only; omega) ⟨32, i32.zero.cells⟩
  simp only at hF1 hK1
  obtain ⟨s1, hs1⟩ : ∃ s1 : St, s1 = ⟨((s.h.set s.c ⟨32, [.bool na, da]⟩).set (s.c + 1) ⟨32, [.bool nb, db]⟩).set (s.c + 1 + 1) ⟨32, i32.zero.cells⟩, s.c + 1 + 1 + 1⟩ := ⟨_, rfl⟩
  have hb0 : s1.h.get s.c = some ⟨32, [.bool na, da]⟩ := by
    rw [hs1]; simp only; rw [T.get_set, if_neg (by omega), T.get_set, if_neg (by omega), T.get_set, if_pos rfl]
  have hb1 : s1.h.get (s.c + 1) = some ⟨32, [.bool nb, db]⟩ := by
    rw [hs1]; simp only; rw [T.get_set, if_neg (by omega), T.get_set, if_pos rfl]
  have hb2 : s1.h.get (s.c + 1 + 1) = some ⟨32, i32.zero.cells⟩ := by
    rw [hs1]; simp only; rw [T.get_set, if_pos rfl]
  have hc1 : s1.c = s.c + 3 := by rw [hs1]
  rw [← hs1] at hF1 hK1
  show CodeR E lo _ _ ⟨((s.h.set s.c ⟨32, [.bool na, da]⟩).set (s.c + 1) ⟨32, [.bool nb, db]⟩).set (s.c + 1 + 1) ⟨32, i32.zero.cells⟩, s.c + 1 + 1 + 1⟩ _
  rw [← hs1]
  clear hs1
  have t2 : (((T0.set 2 (.ptr (some (s.c, 0)))).set 3 (.ptr (some (s.c + 1, 0)))).set 4 (.ptr (some (s.c + 1 + 1, 0)))).get 2 = some (.ptr (some (s.c, 0))) := by simp only [T.get_set, Nat.reduceEqDiff, if_true, if_false]
  have t3 : (((T0.set 2 (.ptr (some (s.c, 0)))).set 3 (.ptr (some (s.c + 1, 0)))).set 4 (.ptr (some (s.c + 1 + 1, 0)))).get 3 = some (.ptr (some (s.c + 1, 0))) := by simp only [T.get_set, Nat.reduceEqDiff, if_true, if_false]
  have t4 : (((T0.set 2 (.ptr (some (s.c, 0)))).set 3 (.ptr (some (s.c + 1, 0)))).set 4 (.ptr (some (s.c + 1 + 1, 0)))).get 4 = some (.ptr (some (s.c + 1 + 1, 0))) := by simp only [T.get_set, Nat.reduceEqDiff, if_true, if_false]
  generalize (((T0.set 2 (.ptr (some (s.c, 0)))).set 3 (.ptr (some (s.c + 1, 0)))).set 4 (.ptr (some (s.c + 1 + 1, 0)))) = T1 at t2 t3 t4
  have e2 : Nat.blt s.c s1.c = true := blt_iff.2 (by omega)
  have e3 : Nat.blt (s.c + 1) s1.c = true := blt_iff.2 (by omega)
  have la := lenE_len ha 3
  have lb := lenE_len hb 3
  have w1 : wr .i64 (Int.ofNat xs.length + Int.ofNat ys.length) = Int.ofNat (xs.length + ys.length) := wr_add (by omega)
  have w2 : wr .i64 (Int.ofNat (xs.length + ys.length) + 1) = Int.ofNat (xs.length + ys.length + 1) := wr_add (b := 1) (by omega)
  refine CodeR.seq (CodeR.reg rfl ?_)
  iterate 8 (first | (refine SeqR.skipN ?_ rfl rfl ?_; (simp only [sA, wantE, T.get_set, Nat.reduceEqDiff, t2, t3, hb0, hb1, e2, e3, la, lb, w1, w2] <;> with_reducible rfl)) | ((first | refine SeqR.stepN (v := ?_) (s' := ?_) rfl ?_ rfl ?_ rfl rfl ?_ | refine SeqR.stepLN (v := ?_) (s' := ?_) rfl ?_ rfl ?_ rfl rfl ?_); rotate_left 3; (intro call lc; simp only [sA, opE, kindOf, pureE, heapE, rho, rhos, T.get_set, Nat.reduceEqDiff, nb00, absV, absS, l_slice, l_void, l_str, l_arr, natE, loadE, isConst, TK.agg, u_notB, b_eqlB, b_neqB, b_add, b_sub, b_mul, b_lss, b_gtr, b_leq, b_geq, b_eql, b_neq, ty3, i3, si3, ty4, i4, si4, ty24, i24, si24, ty32, i32, si32, t2, t3, hb0, hb1, e2, e3, la, lb, w1, w2] <;> rfl); rotate_left 1; (simp only [sA, wantE, T.get_set, Nat.reduceEqDiff, t2, t3, hb0, hb1, e2, e3, la, lb, w1, w2] <;> with_reducible rfl)))
  refine SeqR.step rfl rfl (fun call lc => op_make (n := xs.length + ys.length + 1) (v := .int .i64 0) (by simp only [rho, T.get_set, if_true]) ty24 rfl ty3 rfl rfl (by simp only [i3]; omega) (by omega) call lc _) rfl rfl ?_
  (first | (refine SeqR.skipN ?_ rfl rfl ?_; (simp only [sA, wantE, T.get_set, Nat.reduceEqDiff] <;> with_reducible rfl)) | ((first | refine SeqR.stepN (v := ?_) (s' := ?_) rfl ?_ rfl ?_ rfl rfl ?_ | refine SeqR.stepLN (v := ?_) (s' := ?_) rfl ?_ rfl ?_ rfl rfl ?_); rotate_left 3; (intro call lc; simp only [sA, opE, kindOf, pureE, heapE, rho, rhos, T.get_set, Nat.reduceEqDiff, nb00, absV, absS, l_slice, l_void, l_str, l_arr, natE, loadE, isConst, TK.agg, u_notB, b_eqlB, b_neqB, b_add, b_sub, b_mul, b_lss, b_gtr, b_leq, b_geq, b_eql, b_neq, ty3, i3, si3, ty4, i4, si4, ty24, i24, si24, ty32, i32, si32] <;> rfl); rotate_left 1; (simp only [sA, wantE, T.get_set, Nat.reduceEqDiff] <;> with_reducible rfl)))
  refine SeqR.done ?_
  generalize hL : xs.length + ys.length + 1 = L
  rw [reps_ints]
  have hS : MS s na nb da db (List.replicate L 0) ⟨s1.h.set s1.c ⟨3, ints (List.replicate L 0)⟩, s1.c + 1⟩ := by
    refine ⟨fresh_new hF1 _, kept_new hK1 (by omega) _, by simp only; omega, ?_, ?_, ?_, ?_⟩
    · simp only; rw [T.get_set, if_neg (by omega)]; exact hb0
    · simp only; rw [T.get_set, if_neg (by omega)]; exact hb1
    · simp only; rw [T.get_set, if_neg (by omega)]; exact hb2
    · simp only; rw [T.get_set, if_pos (by omega)]
  generalize (⟨s1.h.set s1.c ⟨3, ints (List.replicate L 0)⟩, s1.c + 1⟩ : St) = s2 at hS ⊢
  refine CodeR.seq (CodeR.seq (CodeR.reg rfl ?_))
  (first | (refine SeqR.skipN ?_ rfl rfl ?_; (simp only [sA, wantE, T.get_set, Nat.reduceEqDiff] <;> with_reducible rfl)) | ((first | refine SeqR.stepN (v := ?_) (s' := ?_) rfl ?_ rfl ?_ rfl rfl ?_ | refine SeqR.stepLN (v := ?_) (s' := ?_) rfl ?_ rfl ?_ rfl rfl ?_); rotate_left 3; (intro call lc; simp only [sA, opE, kindOf, pureE, heapE, rho, rhos, T.get_set, Nat.reduceEqDiff, nb00, absV, absS, l_slice, l_void, l_str, l_arr, natE, loadE, isConst, TK.agg, u_notB, b_eqlB, b_neqB, b_add, b_sub, b_mul, b_lss, b_gtr, b_leq, b_geq, b_eql, b_neq, ty3, i3, si3, ty4, i4, si4, ty24, i24, si24, ty32, i32, si32] <;> rfl); rotate_left 1; (simp only [sA, wantE, T.get_set, Nat.reduceEqDiff] <;> with_reducible rfl)))
  refine SeqR.done ?_
  have hfit0 := mul_fits (B := 1000000000) (by omega) (n := L) hsx hsy (by omega)
  refine CodeR.block (CodeR.loop (fun k m s1 => ∃ i T1 d cur, m = ⟨79, T1⟩ ∧ i + k = xs.length ∧ d.length = i ∧ MS s na nb da db (d ++ cur) s1 ∧ d ++ mulGo 1000000000 ys (xs.drop i) cur = mulZ xs ys ∧ GS 1000000000 cur ∧ k + ys.length + 1 ≤ cur.length ∧ gval 1000000000 cur + gval 1000000000 (xs.drop i) * gval 1000000000 ys < 1000000000 ^ cur.length ∧ i + cur.length = L ∧ MT s T1 L i) xs.length ?_ ?_)
  · refine ⟨0, _, [], List.replicate L 0, rfl, by omega, rfl, hS, ?_, gs_rep (by omega) _, by simp; omega, hfit0, by simp, ?_⟩
    · rw [mulZ, hL]; rfl
    · refine ⟨?_, ?_, ?_, ?_, ?_⟩
      simp only [T.get_set, Nat.reduceEqDiff, if_true, if_false, t2]
      simp only [T.get_set, Nat.reduceEqDiff, if_true, if_false, t3]
      simp only [T.get_set, Nat.reduceEqDiff, if_true, if_false, t4]
      · simp only [T.get_set, Nat.reduceEqDiff, if_true, if_false, hc1]
      simp only [T.get_set, Nat.reduceEqDiff, if_true, if_false]
      · rfl
  · rintro k m s3 ⟨i, T2, d, cur, rfl, hik, hd, hM, hgo, hgs, hlen, hfit, hiL, t2, t3, t4, t5, t6⟩
    have ha3 := ha.keep hF.lt hM.kept
    have hb3 := hb.keep hF.lt hM.kept
    have la := lenE_len ha3 3
    have lb := lenE_len hb3 3
    have hb0 := hM.b0
    have hb1 := hM.b1
    have hcc := hM.c
    have e2 : Nat.blt s.c s3.c = true := blt_iff.2 (by omega)
    have e3 : Nat.blt (s.c + 1) s3.c = true := blt_iff.2 (by omega)
    refine CodeR.seq (CodeR.seq (CodeR.reg rfl ?_))
    iterate 5 (first | (refine SeqR.skipN ?_ rfl rfl ?_; (simp only [sA, wantE, T.get_set, Nat.reduceEqDiff, t2, t6, hb0, e2, la, ltB_nat] <;> with_reducible rfl)) | ((first | refine SeqR.stepN (v := ?_) (s' := ?_) rfl ?_ rfl ?_ rfl rfl ?_ | refine SeqR.stepLN (v := ?_) (s' := ?_) rfl ?_ rfl ?_ rfl rfl ?_); rotate_left 3; (intro call lc; simp only [sA, opE, kindOf, pureE, heapE, rho, rhos, T.get_set, Nat.reduceEqDiff, nb00, absV, absS, l_slice, l_void, l_str, l_arr, natE, loadE, isConst, TK.agg, u_notB, b_eqlB, b_neqB, b_add, b_sub, b_mul, b_lss, b_gtr, b_leq, b_geq, b_eql, b_neq, ty3, i3, si3, ty4, i4, si4, ty24, i24, si24, ty32, i32, si32, t2, t6, hb0, e2, la, ltB_nat] <;> rfl); rotate_left 1; (simp only [sA, wantE, T.get_set, Nat.reduceEqDiff, t2, t6, hb0, e2, la, ltB_nat] <;> with_reducible rfl)))
    refine SeqR.done ?_
    refine CodeR.cond (t := decide (i < xs.length)) (by simp only [sA, rho, T.get_set, Nat.reduceEqDiff, u_notB, b_eqlB, b_neqB, b_add, b_sub, b_mul, b_lss, b_gtr, b_leq, b_geq, b_eql, b_neq, ty3, i3, si3, ty4, i4, si4, ty24, i24, si24, ty32, i32, si32]) ?_ ?_
    · intro hlt
      have hlt' : i < xs.length := by simpa using hlt
      obtain ⟨k', rfl⟩ : ∃ k', k = k' + 1 := ⟨k - 1, by omega⟩
      have hdrop : xs.drop i = xs.getD i 0 :: xs.drop (i + 1) := by
        rw [List.drop_eq_getElem_cons hlt', List.getD_eq_getElem?_getD, List.getElem?_eq_getElem hlt']; rfl
      rw [hdrop] at hgo hfit
      generalize hxx : xs.getD i 0 = x at *
      have hxs : x < 1000000000 := by
        rw [← hxx, List.getD_eq_getElem?_getD, List.getElem?_eq_getElem hlt']
        exact hsx _ (List.getElem_mem hlt')
      have hfirst := go_first hfit
      refine CodeR.skip ?_
      refine CodeR.seq (CodeR.block (CodeR.seq (CodeR.reg rfl ?_)))
      (first | (refine SeqR.skipN ?_ rfl rfl ?_; (simp only [sA, wantE, T.get_set, Nat.reduceEqDiff] <;> with_reducible rfl)) | ((first | refine SeqR.stepN (v := ?_) (s' := ?_) rfl ?_ rfl ?_ rfl rfl ?_ | refine SeqR.stepLN (v := ?_) (s' := ?_) rfl ?_ rfl ?_ rfl rfl ?_); rotate_left 3; (intro call lc; simp only [sA, opE, kindOf, pureE, heapE, rho, rhos, T.get_set, Nat.reduceEqDiff, nb00, absV, absS, l_slice, l_void, l_str, l_arr, natE, loadE, isConst, TK.agg, u_notB, b_eqlB, b_neqB, b_add, b_sub, b_mul, b_lss, b_gtr, b_leq, b_geq, b_eql, b_neq, ty3, i3, si3, ty4, i4, si4, ty24, i24, si24, ty32, i32, si32] <;> rfl); rotate_left 1; (simp only [sA, wantE, T.get_set, Nat.reduceEqDiff] <;> with_reducible rfl)))
      refine SeqR.done ?_
      refine CodeR.seq (CodeR.reg rfl ?_)
      (first | (refine SeqR.skipN ?_ rfl rfl ?_; (simp only [sA, wantE, T.get_set, Nat.reduceEqDiff] <;> with_reducible rfl)) | ((first | refine SeqR.stepN (v := ?_) (s' := ?_) rfl ?_ rfl ?_ rfl rfl ?_ | refine SeqR.stepLN (v := ?_) (s' := ?_) rfl ?_ rfl ?_ rfl rfl ?_); rotate_left 3; (intro call lc; simp only [sA, opE, kindOf, pureE, heapE, rho, rhos, T.get_set, Nat.reduceEqDiff, nb00, absV, absS, l_slice, l_void, l_str, l_arr, natE, loadE, isConst, TK.agg, u_notB, b_eqlB, b_neqB, b_add, b_sub, b_mul, b_lss, b_gtr, b_leq, b_geq, b_eql, b_neq, ty3, i3, si3, ty4, i4, si4, ty24, i24, si24, ty32, i32, si32] <;> rfl); rotate_left 1; (simp only [sA, wantE, T.get_set, Nat.reduceEqDiff] <;> with_reducible rfl)))
      refine SeqR.done ?_
      refine CodeR.block (CodeR.loop (fun q m s4 => ∃ c r rest T3, m = ⟨79, T3⟩ ∧ q = rest.length ∧ MS s na nb da db (d ++ (r ++ rest)) s4 ∧ r ++ mulRow 1000000000 x c rest (ys.drop r.length) = mulRow 1000000000 x 0 cur ys ∧ GS 1000000000 rest ∧ c < 1000000000 ∧ r.length + rest.length = cur.length ∧ gval 1000000000 rest + x * gval 1000000000 (ys.drop r.length) + c < 1000000000 ^ rest.length ∧ MT s T3 L i ∧ T3.get 7 = some (.int .i64 (Int.ofNat c)) ∧ T3.get 8 = some (.int .i64 (Int.ofNat r.length))) cur.length ?_ ?_)
      · refine ⟨0, [], cur, _, rfl, rfl, hM, rfl, hgs, by omega, by simp, hfirst, ⟨?_, ?_, ?_, ?_, ?_⟩, ?_, ?_⟩
        simp only [T.get_set, Nat.reduceEqDiff, if_true, if_false, t2]
        simp only [T.get_set, Nat.reduceEqDiff, if_true, if_false, t3]
        simp only [T.get_set, Nat.reduceEqDiff, if_true, if_false, t4]
        simp only [T.get_set, Nat.reduceEqDiff, if_true, if_false, t5]
        simp only [T.get_set, Nat.reduceEqDiff, if_true, if_false, t6]
        simp only [T.get_set, Nat.reduceEqDiff, if_true, if_false]
        · rfl
        simp only [T.get_set, Nat.reduceEqDiff, if_true, if_false]
        · rfl
      · rintro q m s4 ⟨c, r, rest, T3, rfl, hq, hM4, hrow, hgr, hc, hrl, hrf, ⟨t2, t3, t4, t5, t6⟩, t7, t8⟩
        have ha4 := ha.keep hF.lt hM4.kept
        have hb4 := hb.keep hF.lt hM4.kept
        have la := lenE_len ha4 3
        have lb := lenE_len hb4 3
        have hb0 := hM4.b0
        have hb1 := hM4.b1
        have hb3' := hM4.b3
        have hcc := hM4.c
        have e2 : Nat.blt s.c s4.c = true := blt_iff.2 (by omega)
        have e3 : Nat.blt (s.c + 1) s4.c = true := blt_iff.2 (by omega)
        have e5 : Nat.blt (s.c + 3) s4.c = true := blt_iff.2 (by omega)
        refine CodeR.seq (CodeR.seq (CodeR.mono (Q := fun e m' s' => e = .nrm ∧ s4 = s' ∧ ∃ T4, m' = ⟨79, T4⟩ ∧ MT s T4 L i ∧ T4.get 7 = some (.int .i64 (Int.ofNat c)) ∧ T4.get 8 = some (.int .i64 (Int.ofNat r.length)) ∧ T4.get 33 = some (.bool (decide (r.length < ys.length ∨ 0 < c)))) (CodeR.reg rfl ?_) ?_))
        · by_cases hk : r.length < ys.length
          · have e6 : decide (r.length < ys.length) = true := by simpa using hk
            iterate 9 (first | (refine SeqR.skipN ?_ rfl rfl ?_; (simp only [sA, wantE, T.get_set, Nat.reduceEqDiff, t3, t7, t8, hb1, e3, lb, ltB_nat, e6] <;> with_reducible rfl)) | ((first | refine SeqR.stepN (v := ?_) (s' := ?_) rfl ?_ rfl ?_ rfl rfl ?_ | refine SeqR.stepLN (v := ?_) (s' := ?_) rfl ?_ rfl ?_ rfl rfl ?_); rotate_left 3; (intro call lc; simp only [sA, opE, kindOf, pureE, heapE, rho, rhos, T.get_set, Nat.reduceEqDiff, nb00, absV, absS, l_slice, l_void, l_str, l_arr, natE, loadE, isConst, TK.agg, u_notB, b_eqlB, b_neqB, b_add, b_sub, b_mul, b_lss, b_gtr, b_leq, b_geq, b_eql, b_neq, ty3, i3, si3, ty4, i4, si4, ty24, i24, si24, ty32, i32, si32, t3, t7, t8, hb1, e3, lb, ltB_nat, e6] <;> rfl); rotate_left 1; (simp only [sA, wantE, T.get_set, Nat.reduceEqDiff, t3, t7, t8, hb1, e3, lb, ltB_nat, e6] <;> with_reducible rfl)))
            refine SeqR.done ⟨rfl, rfl, _, rfl, ⟨?_, ?_, ?_, ?_, ?_⟩, ?_, ?_, ?_⟩
            simp only [T.get_set, Nat.reduceEqDiff, if_true, if_false, t2]
            simp only [T.get_set, Nat.reduceEqDiff, if_true, if_false, t3]
            simp only [T.get_set, Nat.reduceEqDiff, if_true, if_false, t4]
            simp only [T.get_set, Nat.reduceEqDiff, if_true, if_false, t5]
            simp only [T.get_set, Nat.reduceEqDiff, if_true, if_false, t6]
            simp only [T.get_set, Nat.reduceEqDiff, if_true, if_false, t7]
            simp only [T.get_set, Nat.reduceEqDiff, if_true, if_false, t8]
            simp only [T.get_set, Nat.reduceEqDiff, if_true, if_false]
            · simp [hk]
          · have e6 : decide (r.length < ys.length) = false := by simpa using hk
            have e7 : ltB 0 (Int.ofNat c) = decide (0 < c) := ltB_nat 0 c
            iterate 9 (first | (refine SeqR.skipN ?_ rfl rfl ?_; (simp only [sA, wantE, T.get_set, Nat.reduceEqDiff, t3, t7, t8, hb1, e3, lb, ltB_nat, e6, e7] <;> with_reducible rfl)) | ((first | refine SeqR.stepN (v := ?_) (s' := ?_) rfl ?_ rfl ?_ rfl rfl ?_ | refine SeqR.stepLN (v := ?_) (s' := ?_) rfl ?_ rfl ?_ rfl rfl ?_); rotate_left 3; (intro call lc; simp only [sA, opE, kindOf, pureE, heapE, rho, rhos, T.get_set, Nat.reduceEqDiff, nb00, absV, absS, l_slice, l_void, l_str, l_arr, natE, loadE, isConst, TK.agg, u_notB, b_eqlB, b_neqB, b_add, b_sub, b_mul, b_lss, b_gtr, b_leq, b_geq, b_eql, b_neq, ty3, i3, si3, ty4, i4, si4, ty24, i24, si24, ty32, i32, si32, t3, t7, t8, hb1, e3, lb, ltB_nat, e6, e7] <;> rfl); rotate_left 1; (simp only [sA, wantE, T.get_set, Nat.reduceEqDiff, t3, t7, t8, hb1, e3, lb, ltB_nat, e6, e7] <;> with_reducible rfl)))
            refine SeqR.done ⟨rfl, rfl, _, rfl, ⟨?_, ?_, ?_, ?_, ?_⟩, ?_, ?_, ?_⟩
            simp only [T.get_set, Nat.reduceEqDiff, if_true, if_false, t2]
            simp only [T.get_set, Nat.reduceEqDiff, if_true, if_false, t3]
            simp only [T.get_set, Nat.reduceEqDiff, if_true, if_false, t4]
            simp only [T.get_set, Nat.reduceEqDiff, if_true, if_false, t5]
            simp only [T.get_set, Nat.reduceEqDiff, if_true, if_false, t6]
            simp only [T.get_set, Nat.reduceEqDiff, if_true, if_false, t7]
            simp only [T.get_set, Nat.reduceEqDiff, if_true, if_false, t8]
            simp only [T.get_set, Nat.reduceEqDiff, if_true, if_false]
            · simp [hk]
        · rintro e m' s' ⟨rfl, rfl, T4, rfl, ⟨t2, t3, t4, t5, t6⟩, t7, t8, t33⟩
          refine CodeR.cond (t := decide (r.length < ys.length ∨ 0 < c)) (by simp only [sA, rho, T.get_set, Nat.reduceEqDiff, u_notB, b_eqlB, b_neqB, b_add, b_sub, b_mul, b_lss, b_gtr, b_leq, b_geq, b_eql, b_neq, ty3, i3, si3, ty4, i4, si4, ty24, i24, si24, ty32, i32, si32, t33]) ?_ ?_
          · intro hgo1
            have hgo1 : r.length < ys.length ∨ 0 < c := by simpa using hgo1
            cases rest with
            | nil =>
              simp only [gval, List.length_nil, Nat.pow_zero] at hrf hrl
              omega
            | cons o os =>
              have hos := gs_cons hgr
              have hfit' := row_fits hrf
              have htl : (ys.drop r.length).tail = ys.drop (r.length + 1) := by rw [List.tail_drop]
              have hhd := headD_drop ys r.length
              rw [mulRow, htl, hhd] at hrow
              rw [htl, hhd] at hfit'
              have hin : d.length + r.length < L := by simp only [List.length_cons] at hrl; omega
              have hin' : Nat.blt (i + r.length) L = true := blt_iff.2 (by omega)
              have hcell := get_at d r o os
              rw [hd] at hcell
              have w3 : wr .i64 (Int.ofNat i + Int.ofNat r.length) = Int.ofNat (i + r.length) := wr_add (by omega)
              have w4 : wr .i64 (Int.ofNat c + Int.ofNat o) = Int.ofNat (c + o) := wr_add (by omega)
              refine CodeR.skip ?_
              refine CodeR.seq (CodeR.block (CodeR.seq (CodeR.reg rfl ?_)))
              iterate 9 (first | (refine SeqR.skipN ?_ rfl rfl ?_; (simp only [sA, wantE, T.get_set, Nat.reduceEqDiff, t5, t6, t7, t8, hb3', e5, w3, w4, hin', hcell] <;> with_reducible rfl)) | ((first | refine SeqR.stepN (v := ?_) (s' := ?_) rfl ?_ rfl ?_ rfl rfl ?_ | refine SeqR.stepLN (v := ?_) (s' := ?_) rfl ?_ rfl ?_ rfl rfl ?_); rotate_left 3; (intro call lc; simp only [sA, opE, kindOf, pureE, heapE, rho, rhos, T.get_set, Nat.reduceEqDiff, nb00, absV, absS, l_slice, l_void, l_str, l_arr, natE, loadE, isConst, TK.agg, u_notB, b_eqlB, b_neqB, b_add, b_sub, b_mul, b_lss, b_gtr, b_leq, b_geq, b_eql, b_neq, ty3, i3, si3, ty4, i4, si4, ty24, i24, si24, ty32, i32, si32, t5, t6, t7, t8, hb3', e5, w3, w4, hin', hcell] <;> rfl); rotate_left 1; (simp only [sA, wantE, T.get_set, Nat.reduceEqDiff, t5, t6, t7, t8, hb3', e5, w3, w4, hin', hcell] <;> with_reducible rfl)))
              refine SeqR.done ?_
              have hyy : ys.getD r.length 0 < 1000000000 := by
                rcases Nat.lt_or_ge r.length ys.length with h | h
                · rw [List.getD_eq_getElem?_getD, List.getElem?_eq_getElem h]; exact hsy _ (List.getElem_mem h)
                · rw [List.getD_eq_getElem?_getD, List.getElem?_eq_none h]; decide
              have hxy : x * ys.getD r.length 0 ≤ 999999999 * 999999999 := Nat.mul_le_mul (by omega) (by omega)
              refine CodeR.seq (CodeR.mono (Q := fun e m' s' => e = .nrm ∧ s4 = s' ∧ ∃ T5, m' = ⟨79, T5⟩ ∧ MT s T5 L i ∧ T5.get 7 = some (.int .i64 (Int.ofNat (c + o + x * ys.getD r.length 0))) ∧ T5.get 8 = some (.int .i64 (Int.ofNat r.length))) (CodeR.seq (CodeR.reg rfl ?_)) ?_)
              · iterate 5 (first | (refine SeqR.skipN ?_ rfl rfl ?_; (simp only [sA, wantE, T.get_set, Nat.reduceEqDiff, t3, t8, hb1, e3, lb, ltB_nat] <;> with_reducible rfl)) | ((first | refine SeqR.stepN (v := ?_) (s' := ?_) rfl ?_ rfl ?_ rfl rfl ?_ | refine SeqR.stepLN (v := ?_) (s' := ?_) rfl ?_ rfl ?_ rfl rfl ?_); rotate_left 3; (intro call lc; simp only [sA, opE, kindOf, pureE, heapE, rho, rhos, T.get_set, Nat.reduceEqDiff, nb00, absV, absS, l_slice, l_void, l_str, l_arr, natE, loadE, isConst, TK.agg, u_notB, b_eqlB, b_neqB, b_add, b_sub, b_mul, b_lss, b_gtr, b_leq, b_geq, b_eql, b_neq, ty3, i3, si3, ty4, i4, si4, ty24, i24, si24, ty32, i32, si32, t3, t8, hb1, e3, lb, ltB_nat] <;> rfl); rotate_left 1; (simp only [sA, wantE, T.get_set, Nat.reduceEqDiff, t3, t8, hb1, e3, lb, ltB_nat] <;> with_reducible rfl)))
                refine SeqR.done ?_
                refine CodeR.cond (t := decide (r.length < ys.length)) (by simp only [sA, rho, T.get_set, Nat.reduceEqDiff, u_notB, b_eqlB, b_neqB, b_add, b_sub, b_mul, b_lss, b_gtr, b_leq, b_geq, b_eql, b_neq, ty3, i3, si3, ty4, i4, si4, ty24, i24, si24, ty32, i32, si32]) ?_ ?_
                · intro hk
                  have hk : r.length < ys.length := by simpa using hk
                  obtain ⟨b1, o1, n1, c1, q1, k1, rfl, f1, f2, f3⟩ := Row.int ha4 (i := i) hlt'
                  obtain ⟨b2, o2, n2, c2, q2, k2, rfl, f5, f6, f7⟩ := Row.int hb4 (i := r.length) hk
                  have f4 : Nat.blt b1 s4.c = true := blt_iff.2 (hM4.fresh.lt b1 k1 f2)
                  have f8 : Nat.blt b2 s4.c = true := blt_iff.2 (hM4.fresh.lt b2 k2 f6)
                  rw [hxx] at f3
                  have w5 : wr .i64 (Int.ofNat x * Int.ofNat (ys.getD r.length 0)) = Int.ofNat (x * ys.getD r.length 0) := by
                    rw [show Int.ofNat x * Int.ofNat (ys.getD r.length 0) = Int.ofNat (x * ys.getD r.length 0) from rfl]
                    exact wr_nat (by omega)
                  have w6 : wr .i64 (Int.ofNat (c + o) + Int.ofNat (x * ys.getD r.length 0)) = Int.ofNat (c + o + x * ys.getD r.length 0) := wr_add (by omega)
                  refine CodeR.regD rfl rfl rfl ?_
                  iterate 14 (first | (refine SeqR.skipN ?_ rfl rfl ?_; (simp only [sA, wantE, T.get_set, Nat.reduceEqDiff, t2, t3, t6, t8, hb0, hb1, e2, e3, f1, f2, f3, f4, f5, f6, f7, f8, w5, w6] <;> with_reducible rfl)) | ((first | refine SeqR.stepN (v := ?_) (s' := ?_) rfl ?_ rfl ?_ rfl rfl ?_ | refine SeqR.stepLN (v := ?_) (s' := ?_) rfl ?_ rfl ?_ rfl rfl ?_); rotate_left 3; (intro call lc; simp only [sA, opE, kindOf, pureE, heapE, rho, rhos, T.get_set, Nat.reduceEqDiff, nb00, absV, absS, l_slice, l_void, l_str, l_arr, natE, loadE, isConst, TK.agg, u_notB, b_eqlB, b_neqB, b_add, b_sub, b_mul, b_lss, b_gtr, b_leq, b_geq, b_eql, b_neq, ty3, i3, si3, ty4, i4, si4, ty24, i24, si24, ty32, i32, si32, t2, t3, t6, t8, hb0, hb1, e2, e3, f1, f2, f3, f4, f5, f6, f7, f8, w5, w6] <;> rfl); rotate_left 1; (simp only [sA, wantE, T.get_set, Nat.reduceEqDiff, t2, t3, t6, t8, hb0, hb1, e2, e3, f1, f2, f3, f4, f5, f6, f7, f8, w5, w6] <;> with_reducible rfl)))
                  refine SeqR.done ⟨rfl, rfl, _, rfl, ⟨?_, ?_, ?_, ?_, ?_⟩, ?_, ?_⟩
                  simp only [T.get_set, Nat.reduceEqDiff, if_true, if_false, t2]
                  simp only [T.get_set, Nat.reduceEqDiff, if_true, if_false, t3]
                  simp only [T.get_set, Nat.reduceEqDiff, if_true, if_false, t4]
                  simp only [T.get_set, Nat.reduceEqDiff, if_true, if_false, t5]
                  simp only [T.get_set, Nat.reduceEqDiff, if_true, if_false, t6]
                  simp only [T.get_set, Nat.reduceEqDiff, if_true, if_false]
                  simp only [T.get_set, Nat.reduceEqDiff, if_true, if_false, t8]
                · intro hk
                  have hk : ¬ r.length < ys.length := by simpa using hk
                  have hy0 : ys.getD r.length 0 = 0 := by rw [List.getD_eq_getElem?_getD, List.getElem?_eq_none (by omega)]; rfl
                  refine CodeR.skip ⟨rfl, rfl, _, rfl, ⟨?_, ?_, ?_, ?_, ?_⟩, ?_, ?_⟩
                  simp only [T.get_set, Nat.reduceEqDiff, if_true, if_false, t2]
                  simp only [T.get_set, Nat.reduceEqDiff, if_true, if_false, t3]
                  simp only [T.get_set, Nat.reduceEqDiff, if_true, if_false, t4]
                  simp only [T.get_set, Nat.reduceEqDiff, if_true, if_false, t5]
                  simp only [T.get_set, Nat.reduceEqDiff, if_true, if_false, t6]
                  · simp only [T.get_set, Nat.reduceEqDiff, if_true, if_false, hy0, Nat.mul_zero, Nat.add_zero]
                  simp only [T.get_set, Nat.reduceEqDiff, if_true, if_false, t8]
              · rintro e m' s' ⟨rfl, rfl, T5, rfl, ⟨t2, t3, t4, t5, t6⟩, t7, t8⟩
                generalize ht : c + o + x * ys.getD r.length 0 = t at *
                have htb : t < 1000000000 * 1000000000 := by omega
                refine CodeR.seq (CodeR.reg rfl ?_)
                iterate 7 (first | (refine SeqR.skipN ?_ rfl rfl ?_; (simp only [sA, wantE, T.get_set, Nat.reduceEqDiff, t5, t6, t7, t8, w3, hin', b_remB] <;> with_reducible rfl)) | ((first | refine SeqR.stepN (v := ?_) (s' := ?_) rfl ?_ rfl ?_ rfl rfl ?_ | refine SeqR.stepLN (v := ?_) (s' := ?_) rfl ?_ rfl ?_ rfl rfl ?_); rotate_left 3; (intro call lc; simp only [sA, opE, kindOf, pureE, heapE, rho, rhos, T.get_set, Nat.reduceEqDiff, nb00, absV, absS, l_slice, l_void, l_str, l_arr, natE, loadE, isConst, TK.agg, u_notB, b_eqlB, b_neqB, b_add, b_sub, b_mul, b_lss, b_gtr, b_leq, b_geq, b_eql, b_neq, ty3, i3, si3, ty4, i4, si4, ty24, i24, si24, ty32, i32, si32, t5, t6, t7, t8, w3, hin', b_remB] <;> rfl); rotate_left 1; (simp only [sA, wantE, T.get_set, Nat.reduceEqDiff, t5, t6, t7, t8, w3, hin', b_remB] <;> with_reducible rfl)))
                refine SeqR.step0 rfl (fun call lc old => op_put (b := s.c + 3) (o := i + r.length) (v := .int .i64 (Int.ofNat (t % 1000000000))) (by simp only [rho, T.get_set, Nat.reduceEqDiff, if_true, if_false]) (by simp only [rho, T.get_set, Nat.reduceEqDiff, if_true, if_false]) rfl si3 hb3' (by rw [ints_length]; simp only [List.length_append, List.length_cons] at hrl ⊢; omega) (by omega) call lc old) rfl ?_
                refine SeqR.done ?_
                have hM5 := hM4.put (i + r.length) (t % 1000000000)
                rw [show i + r.length = d.length + r.length by omega, set_at] at hM5
                have w7 : wr .i64 (Int.ofNat (t / 1000000000)) = Int.ofNat (t / 1000000000) := wr_nat (by omega)
                refine CodeR.reg rfl ?_
                iterate 3 (first | (refine SeqR.skipN ?_ rfl rfl ?_; (simp only [sA, wantE, T.get_set, Nat.reduceEqDiff, t7, b_quoB, w7] <;> with_reducible rfl)) | ((first | refine SeqR.stepN (v := ?_) (s' := ?_) rfl ?_ rfl ?_ rfl rfl ?_ | refine SeqR.stepLN (v := ?_) (s' := ?_) rfl ?_ rfl ?_ rfl rfl ?_); rotate_left 3; (intro call lc; simp only [sA, opE, kindOf, pureE, heapE, rho, rhos, T.get_set, Nat.reduceEqDiff, nb00, absV, absS, l_slice, l_void, l_str, l_arr, natE, loadE, isConst, TK.agg, u_notB, b_eqlB, b_neqB, b_add, b_sub, b_mul, b_lss, b_gtr, b_leq, b_geq, b_eql, b_neq, ty3, i3, si3, ty4, i4, si4, ty24, i24, si24, ty32, i32, si32, t7, b_quoB, w7] <;> rfl); rotate_left 1; (simp only [sA, wantE, T.get_set, Nat.reduceEqDiff, t7, b_quoB, w7] <;> with_reducible rfl)))
                refine SeqR.done ?_
                have w8 : wr .i64 (Int.ofNat r.length + 1) = Int.ofNat (r.length + 1) := wr_add (b := 1) (by omega)
                refine CodeR.reg rfl ?_
                iterate 3 (first | (refine SeqR.skipN ?_ rfl rfl ?_; (simp only [sA, wantE, T.get_set, Nat.reduceEqDiff, t8, w8] <;> with_reducible rfl)) | ((first | refine SeqR.stepN (v := ?_) (s' := ?_) rfl ?_ rfl ?_ rfl rfl ?_ | refine SeqR.stepLN (v := ?_) (s' := ?_) rfl ?_ rfl ?_ rfl rfl ?_); rotate_left 3; (intro call lc; simp only [sA, opE, kindOf, pureE, heapE, rho, rhos, T.get_set, Nat.reduceEqDiff, nb00, absV, absS, l_slice, l_void, l_str, l_arr, natE, loadE, isConst, TK.agg, u_notB, b_eqlB, b_neqB, b_add, b_sub, b_mul, b_lss, b_gtr, b_leq, b_geq, b_eql, b_neq, ty3, i3, si3, ty4, i4, si4, ty24, i24, si24, ty32, i32, si32, t8, w8] <;> rfl); rotate_left 1; (simp only [sA, wantE, T.get_set, Nat.reduceEqDiff, t8, w8] <;> with_reducible rfl)))
                refine SeqR.done ⟨os.length, by rw [hq]; simp, t / 1000000000, r ++ [t % 1000000000], os, _, rfl, rfl, ?_, ?_, hos.2, by omega, by simp only [List.length_append, List.length_cons, List.length_nil] at hrl ⊢; omega, ?_, ⟨?_, ?_, ?_, ?_, ?_⟩, ?_, ?_⟩
                · rw [List.append_assoc, List.singleton_append, show i + r.length = d.length + r.length by omega]; exact hM5
                · rw [List.append_assoc, List.singleton_append, List.length_append, List.length_singleton]; exact hrow
                · rw [List.length_append, List.length_singleton]; exact hfit'
                simp only [T.get_set, Nat.reduceEqDiff, if_true, if_false, t2]
                simp only [T.get_set, Nat.reduceEqDiff, if_true, if_false, t3]
                simp only [T.get_set, Nat.reduceEqDiff, if_true, if_false, t4]
                simp only [T.get_set, Nat.reduceEqDiff, if_true, if_false, t5]
                simp only [T.get_set, Nat.reduceEqDiff, if_true, if_false, t6]
                simp only [T.get_set, Nat.reduceEqDiff, if_true, if_false]
                · simp only [T.get_set, Nat.reduceEqDiff, if_true, if_false, List.length_append, List.length_singleton]
          · intro hstop
            have hstop : ¬ (r.length < ys.length ∨ 0 < c) := by simpa using hstop
            have hc0 : c = 0 := by omega
            subst hc0
            rw [List.drop_eq_nil_of_le (by omega), mulRow_same hgr] at hrow
            refine CodeR.exit ?_
            simp only [Ex.then, Ex.inBlock, if_true]
            cases hrow' : r ++ rest with
            | nil =>
              have := congrArg List.length hrow'
              simp only [List.length_append, List.length_nil] at this
              omega
            | cons o os =>
              rw [hrow'] at hrow hM4
              obtain ⟨k1, k2, k3, k4⟩ := go_fits (by omega) (by simp only [List.length_cons, List.length_drop]; omega) hfit hrow.symm
              have w8 : wr .i64 (Int.ofNat i + 1) = Int.ofNat (i + 1) := wr_add (b := 1) (by omega)
              refine CodeR.reg rfl ?_
              iterate 3 (first | (refine SeqR.skipN ?_ rfl rfl ?_; (simp only [sA, wantE, T.get_set, Nat.reduceEqDiff, t6, w8] <;> with_reducible rfl)) | ((first | refine SeqR.stepN (v := ?_) (s' := ?_) rfl ?_ rfl ?_ rfl rfl ?_ | refine SeqR.stepLN (v := ?_) (s' := ?_) rfl ?_ rfl ?_ rfl rfl ?_); rotate_left 3; (intro call lc; simp only [sA, opE, kindOf, pureE, heapE, rho, rhos, T.get_set, Nat.reduceEqDiff, nb00, absV, absS, l_slice, l_void, l_str, l_arr, natE, loadE, isConst, TK.agg, u_notB, b_eqlB, b_neqB, b_add, b_sub, b_mul, b_lss, b_gtr, b_leq, b_geq, b_eql, b_neq, ty3, i3, si3, ty4, i4, si4, ty24, i24, si24, ty32, i32, si32, t6, w8] <;> rfl); rotate_left 1; (simp only [sA, wantE, T.get_set, Nat.reduceEqDiff, t6, w8] <;> with_reducible rfl)))
              refine SeqR.done ⟨k', by omega, i + 1, _, d ++ [o], os, rfl, by omega, by simp [hd], by rw [List.append_assoc, List.singleton_append]; exact hM4, ?_, (gs_cons k2).2, by omega, k3, by omega, ⟨?_, ?_, ?_, ?_, ?_⟩⟩
              · rw [List.append_assoc, List.singleton_append]
                rw [mulGo, ← hrow] at hgo
                exact hgo
              simp only [T.get_set, Nat.reduceEqDiff, if_true, if_false, t2]
              simp only [T.get_set, Nat.reduceEqDiff, if_true, if_false, t3]
              simp only [T.get_set, Nat.reduceEqDiff, if_true, if_false, t4]
              simp only [T.get_set, Nat.reduceEqDiff, if_true, if_false, t5]
              simp only [T.get_set, Nat.reduceEqDiff, if_true, if_false]
    · intro hge
      have hge' : i = xs.length := by have : ¬ i < xs.length := by simpa using hge
                                      omega
      subst hge'
      rw [List.drop_length, mulGo] at hgo
      rw [hgo] at hM
      refine CodeR.exit ?_
      simp only [Ex.then, Ex.inBlock, if_true]
      have hb2 := hM.b2
      have hlz : (mulZ xs ys).length = L := by rw [← hgo, List.length_append, hd]; exact hiL
      have hrz : Row s3.h 1 (ints (mulZ xs ys)) (.slice (some (s.c + 3, 0)) L L 0) := row_own hM.b3 L (by rw [ints_length]; exact hlz)
      refine CodeR.seq (CodeR.reg rfl ?_)
      iterate 6 (first | (refine SeqR.skipN ?_ rfl rfl ?_; (simp only [sA, wantE, T.get_set, Nat.reduceEqDiff, t2, t3, t4, t5, hb0, hb1, e2, e3, b_neqB] <;> with_reducible rfl)) | ((first | refine SeqR.stepN (v := ?_) (s' := ?_) rfl ?_ rfl ?_ rfl rfl ?_ | refine SeqR.stepLN (v := ?_) (s' := ?_) rfl ?_ rfl ?_ rfl rfl ?_); rotate_left 3; (intro call lc; simp only [sA, opE, kindOf, pureE, heapE, rho, rhos, T.get_set, Nat.reduceEqDiff, nb00, absV, absS, l_slice, l_void, l_str, l_arr, natE, loadE, isConst, TK.agg, u_notB, b_eqlB, b_neqB, b_add, b_sub, b_mul, b_lss, b_gtr, b_leq, b_geq, b_eql, b_neq, ty3, i3, si3, ty4, i4, si4, ty24, i24, si24, ty32, i32, si32, t2, t3, t4, t5, hb0, hb1, e2, e3, b_neqB] <;> rfl); rotate_left 1; (simp only [sA, wantE, T.get_set, Nat.reduceEqDiff, t2, t3, t4, t5, hb0, hb1, e2, e3, b_neqB] <;> with_reducible rfl)))
      refine SeqR.step (v := .agg [.bool (na != nb), .slice (some (s.c + 3, 0)) L L 0]) (s' := s3) rfl rfl (fun call lc => op_build32 (by simp only [rho, T.get_set, Nat.reduceEqDiff, if_true, if_false]) (by simp only [rho, T.get_set, Nat.reduceEqDiff, if_true, if_false]) rfl) rfl rfl ?_
      refine SeqR.callN (by first | with_reducible rfl | (simp only [sA, wantE, T.get_set, Nat.reduceEqDiff, u_notB, b_eqlB, b_neqB, b_add, b_sub, b_mul, b_lss, b_gtr, b_leq, b_geq, b_eql, b_neq, ty3, i3, si3, ty4, i4, si4, ty24, i24, si24, ty32, i32, si32] <;> with_reducible rfl)) rfl rfl (g := 97) (vs := [wv (na != nb) (.slice (some (s.c + 3, 0)) L L 0)]) (by simp only [calleeE, sA, rho, rhos, T.get_set, Nat.reduceEqDiff, u_notB, b_eqlB, b_neqB, b_add, b_sub, b_mul, b_lss, b_gtr, b_leq, b_geq, b_eql, b_neq, ty3, i3, si3, ty4, i4, si4, ty24, i24, si24, ty32, i32, si32]; rfl) (by first | rfl | assumption) rfl rfl (fun lc hlc => (trim_run hrz hM.fresh (lim_lo hlc (by omega)) (by rw [hlz]; omega)).mono fun v2 s4 hp => ?_)
      obtain ⟨r1, r2, d3, rfl, r3⟩ := hp
      have m2 := r2.mono
      have hg : s4.h.get (s.c + 2) = some ⟨32, i32.zero.cells⟩ := by rw [r2.keep _ (by omega)]; exact hb2
      refine SeqR.step0 rfl (fun call lc old => op_store (b := s.c + 2) (o := 0) (z := 2) (cs := [.bool ((na != nb) && !(trimL (mulZ xs ys)).isEmpty), d3]) (v := wv ((na != nb) && !(trimL (mulZ xs ys)).isEmpty) d3) (k := ⟨32, i32.zero.cells⟩) (by simp only [rho, T.get_set, Nat.reduceEqDiff, if_false, t4]) (by simp only [rho, T.get_set, if_true]) rfl rfl (by simp only [ones, Row.one r3, Bool.and_true]; rfl) sz32 hg (by decide) (by omega) call lc old) rfl ?_
      refine SeqR.done ?_
      refine CodeR.ret ⟨.inr rfl, [.agg [.bool ((na != nb) && !(trimL (mulZ xs ys)).isEmpty), d3]], ?_, fresh_set r1 (by omega), kept_set (hM.kept.trans (r2.le (by omega))) (by omega), d3, rfl, Row.set_other (k' := ⟨32, putL i32.zero.cells 0 [.bool _, d3]⟩) r3 hg zero32⟩
      show ressE E _ _ [.cell 4 32] = _
      simp only [ressE, resE, T.get_set, Nat.reduceEqDiff, if_false, t4, Option.bind_some, loadE, tt32, i32, TK.agg, cond_true, cellsAt, if_true]
      rfl
end Go.Proofs.YtaocoplfdhcoaaaGreatDoor.EvA

/- Products of whole numbers; schismaref07.ToRow, FromRow, slices.Equal, run. -/
import Derived.Test.YtaocoplfdhcoaaaGreatDoorSp36
set_option linter.unusedVariables false
set_option linter.unusedSimpArgs false
set_option maxRecDepth 20000
set_option maxHeartbeats 2000000
namespace Go.Proofs.YtaocoplfdhcoaaaGreatDoor.EvA
open Go Go.RowKit Go.Proofs.YtaocoplfdhcoaaaGreatDoor.Ev
theorem fn19' : E.fns.get 19 = some Tryz.f19 := by kernel_rfl
theorem fn23' : E.fns.get 23 = some Tryz.f23 := by kernel_rfl
theorem fn24' : E.fns.get 24 = some Tryz.f24 := by kernel_rfl
theorem mulZ_spec {xs ys : List Nat} (hx : GS 1000000000 xs) (hy : GS 1000000000 ys) : val (mulZ xs ys) = val xs * val ys ∧ Small (mulZ xs ys) := by
  have hfit := mul_fits (B := 1000000000) (by omega) (n := xs.length + ys.length + 1) hx hy (by omega)
  obtain ⟨g1, g2, g3⟩ := mulGo_spec (B := 1000000000) (by omega) (b := ys) xs (List.replicate (xs.length + ys.length + 1) 0) (by simp) (gs_rep (by omega) _) hfit
  rw [gval_rep, Nat.zero_add] at g1
  exact ⟨by rw [val_g, val_g, val_g]; exact g1, g2⟩
theorem mulWL_iv {x y : Bool × List Nat} (hx : Whole x) (hy : Whole y) : iv (mulWL x y) = iv x * iv y ∧ Whole (mulWL x y) := by
  obtain ⟨h1, h2⟩ := mulZ_spec hx.small hy.small
  refine ⟨?_, whole_trimW h2⟩
  unfold mulWL
  rw [iv_trimW, h1]
  obtain ⟨na, xs⟩ := x
  obtain ⟨nb, ys⟩ := y
  unfold iv
  cases na <;> cases nb <;> simp [Int.neg_mul, Int.mul_neg]
theorem mulW_z {lo n : Nat} {va vb : AV} {a b : Int} {s : St} (ha : WZ s.h a va) (hb : WZ s.h b vb) (hF : Fresh s) (hlo : lo ≤ s.c) (hn : n ≤ 100000) (h1 : a.natAbs < 1000000000 ^ n) (h2 : b.natAbs < 1000000000 ^ n) :
    FunR E lo 21 [va, vb] s fun v s' => Fresh s' ∧ Kept s.c s s' ∧ WZ s'.h (a * b) v := by
  obtain ⟨x, hx, wx, rfl⟩ := ha
  obtain ⟨y, hy, wy, rfl⟩ := hb
  have l1 := wx.len h1
  have l2 := wy.len h2
  obtain ⟨q1, q2⟩ := mulWL_iv wx wy
  exact (MulW_run hx hy hF hlo (by omega) (by omega) wx.small wy.small).mono fun v s' h => ⟨h.1, h.2.1, _, h.2.2, q2, q1⟩
theorem wz_cells {h : T Blk} {z : Int} {v : AV} (hv : WZ h z v) : ∃ a d, v = .agg [a, d] ∧ ones [a, d] = true := by
  obtain ⟨x, ⟨d, rfl, hd⟩, _⟩ := hv
  exact ⟨_, d, rfl, by simp only [ones, Row.one hd, Bool.and_true]; rfl⟩
def I64 (z : Int) : Prop := -9223372036854775808 < z ∧ z < 9223372036854775808
theorem ToRow_run {lo : Nat} {d : AV} {x : List Int} {s : St} (hx : RZ s.h x d) (hF : Fresh s) (hlo : lo ≤ s.c) (hl : x.length ≤ 100000) (hz : ∀ i, i < x.length → I64 (x.getD i 0)) :
    FunR E lo 19 [d] s fun v s' => Fresh s' ∧ Kept s.c s s' ∧ ∃ cs, Own s.c s' 32 2 cs v ∧ RW s'.h x cs ∧ ones cs = true := by
  refine FunR.body (fn := Tryz.f19) fn19' rfl ?_
  have hn : (max ([d] : List AV).length Tryz.f19.ntmps) = 20 := rfl
  generalize max ([d] : List AV).length Tryz.f19.ntmps = n at hn
  subst hn
  have g0 : (argsT 0 ([d] : List AV)).get 0 = some (d) := rfl
  generalize argsT 0 ([d] : List AV) = T0 at g0 ⊢
  have hn : (20 : Nat) = 20 := rfl
  have ld := lenR hx 3
  repeat (first | (refine CodeR.seq ?_) | (refine CodeR.reg rfl ?_) | (refine CodeR.regD rfl rfl rfl ?_) | (refine SeqR.done ?_) | (refine CodeR.block ?_) | (refine CodeR.skip ?_) | (refine CodeR.exit ?_; simp only [sA, Ex.then, Ex.inBlock, Nat.reduceEqDiff]) | (first | (refine SeqR.skipN ?_ rfl rfl ?_; (simp only [sA, wantE, T.get_set, Nat.reduceEqDiff, g0, ld] <;> with_reducible rfl)) | ((first | refine SeqR.stepN (v := ?_) (s' := ?_) rfl ?_ rfl ?_ rfl rfl ?_ | refine SeqR.stepLN (v := ?_) (s' := ?_) rfl ?_ rfl ?_ rfl rfl ?_); rotate_left 3; (intro call lc; simp only [sA, opE, kindOf, pureE, heapE, rho, rhos, T.get_set, Nat.reduceEqDiff, nb00, absV, absS, l_slice, l_void, l_str, l_arr, natE, loadE, isConst, TK.agg, u_notB, b_eqlB, b_neqB, b_add, b_sub, b_mul, b_lss, b_gtr, b_leq, b_geq, b_eql, b_neq, ty3, i3, si3, ty4, i4, si4, ty24, i24, si24, ty25, i25, si25, ty29, i29, si29, ty32, i32, si32, g0, ld] <;> rfl); rotate_left 1; (simp only [sA, wantE, T.get_set, Nat.reduceEqDiff, g0, ld] <;> with_reducible rfl))))
  refine CodeR.loop (fun k mm s1 => Fresh s1 ∧ Kept s.c s s1 ∧ ∃ i T1 v cs, mm = ⟨20, T1⟩ ∧ i + k = x.length ∧ Own s.c s1 32 2 cs v ∧ RW s1.h (x.take i) cs ∧ ones cs = true ∧ T1.get 0 = some d ∧ T1.get 3 = some v ∧ T1.get 4 = some (.int .i64 (Int.ofNat i))) x.length ?_ ?_
  · refine ⟨hF, Kept.refl _ _, 0, _, _, [], rfl, by omega, .inl ⟨rfl, rfl⟩, ⟨by simp, fun i z hi => by simp at hi⟩, rfl, ?_, ?_, ?_⟩
    simp only [T.get_set, Nat.reduceEqDiff, if_true, if_false, g0]
    simp only [T.get_set, Nat.reduceEqDiff, if_true, if_false]
    simp only [T.get_set, Nat.reduceEqDiff, if_true, if_false]
    · rfl
  · rintro k mm s1 ⟨hF1, hK1, i, T1, v, cs, rfl, hik, hO, hW, hcs, t0, t3, t4⟩
    have m1 := hK1.mono
    have hx1 := RZ.keep hx hF.lt hK1
    repeat (first | (refine CodeR.seq ?_) | (refine CodeR.reg rfl ?_) | (refine CodeR.regD rfl rfl rfl ?_) | (refine SeqR.done ?_) | (refine CodeR.block ?_) | (refine CodeR.skip ?_) | (refine CodeR.exit ?_; simp only [sA, Ex.then, Ex.inBlock, Nat.reduceEqDiff]) | (first | (refine SeqR.skipN ?_ rfl rfl ?_; (simp only [sA, wantE, T.get_set, Nat.reduceEqDiff, t0, t4, ld, ltB_nat] <;> with_reducible rfl)) | ((first | refine SeqR.stepN (v := ?_) (s' := ?_) rfl ?_ rfl ?_ rfl rfl ?_ | refine SeqR.stepLN (v := ?_) (s' := ?_) rfl ?_ rfl ?_ rfl rfl ?_); rotate_left 3; (intro call lc; simp only [sA, opE, kindOf, pureE, heapE, rho, rhos, T.get_set, Nat.reduceEqDiff, nb00, absV, absS, l_slice, l_void, l_str, l_arr, natE, loadE, isConst, TK.agg, u_notB, b_eqlB, b_neqB, b_add, b_sub, b_mul, b_lss, b_gtr, b_leq, b_geq, b_eql, b_neq, ty3, i3, si3, ty4, i4, si4, ty24, i24, si24, ty25, i25, si25, ty29, i29, si29, ty32, i32, si32, t0, t4, ld, ltB_nat] <;> rfl); rotate_left 1; (simp only [sA, wantE, T.get_set, Nat.reduceEqDiff, t0, t4, ld, ltB_nat] <;> with_reducible rfl))))
    refine CodeR.cond (t := decide (i < x.length)) (by simp only [sA, rho, T.get_set, Nat.reduceEqDiff, u_notB, b_eqlB, b_neqB, b_add, b_sub, b_mul, b_lss, b_gtr, b_leq, b_geq, b_eql, b_neq, ty3, i3, si3, ty4, i4, si4, ty24, i24, si24, ty25, i25, si25, ty29, i29, si29, ty32, i32, si32]) ?_ ?_
    · intro hlt
      have hlt' : i < x.length := by simpa using hlt
      obtain ⟨b, o, n, c, q, kk, rfl, f1, f2, f3⟩ := Row.zint hx1 hlt'
      have f4 : Nat.blt b s1.c = true := blt_iff.2 (hF1.lt b kk f2)
      repeat (first | (refine CodeR.seq ?_) | (refine CodeR.reg rfl ?_) | (refine CodeR.regD rfl rfl rfl ?_) | (refine SeqR.done ?_) | (refine CodeR.block ?_) | (refine CodeR.skip ?_) | (refine CodeR.exit ?_; simp only [sA, Ex.then, Ex.inBlock, Nat.reduceEqDiff]) | (first | (refine SeqR.skipN ?_ rfl rfl ?_; (simp only [sA, wantE, T.get_set, Nat.reduceEqDiff, t0, t3, t4, f1, f2, f3, f4] <;> with_reducible rfl)) | ((first | refine SeqR.stepN (v := ?_) (s' := ?_) rfl ?_ rfl ?_ rfl rfl ?_ | refine SeqR.stepLN (v := ?_) (s' := ?_) rfl ?_ rfl ?_ rfl rfl ?_); rotate_left 3; (intro call lc; simp only [sA, opE, kindOf, pureE, heapE, rho, rhos, T.get_set, Nat.reduceEqDiff, nb00, absV, absS, l_slice, l_void, l_str, l_arr, natE, loadE, isConst, TK.agg, u_notB, b_eqlB, b_neqB, b_add, b_sub, b_mul, b_lss, b_gtr, b_leq, b_geq, b_eql, b_neq, ty3, i3, si3, ty4, i4, si4, ty24, i24, si24, ty25, i25, si25, ty29, i29, si29, ty32, i32, si32, t0, t3, t4, f1, f2, f3, f4] <;> rfl); rotate_left 1; (simp only [sA, wantE, T.get_set, Nat.reduceEqDiff, t0, t3, t4, f1, f2, f3, f4] <;> with_reducible rfl))))
      refine SeqR.callN (by first | with_reducible rfl | (simp only [sA, wantE, T.get_set, Nat.reduceEqDiff, u_notB, b_eqlB, b_neqB, b_add, b_sub, b_mul, b_lss, b_gtr, b_leq, b_geq, b_eql, b_neq, ty3, i3, si3, ty4, i4, si4, ty24, i24, si24, ty25, i25, si25, ty29, i29, si29, ty32, i32, si32] <;> with_reducible rfl)) rfl rfl (g := 22) (vs := [.int .i64 (x.getD i 0)]) (by simp only [calleeE, sA, rho, rhos, T.get_set, Nat.reduceEqDiff, u_notB, b_eqlB, b_neqB, b_add, b_sub, b_mul, b_lss, b_gtr, b_leq, b_geq, b_eql, b_neq, ty3, i3, si3, ty4, i4, si4, ty24, i24, si24, ty25, i25, si25, ty29, i29, si29, ty32, i32, si32]; rfl) (by first | rfl | assumption) rfl rfl (fun lc hlc => (Of_run (hz i hlt').1 (hz i hlt').2 hF1 (lim_lo hlc (by omega))).mono fun v2 s2 hp => ?_)
      obtain ⟨p1, p2, p3⟩ := hp
      have m2 := p2.mono
      obtain ⟨ca, cd, rfl, hones⟩ := wz_cells p3
      refine SeqR.step rfl rfl (fun call lc => op_buildS (v := .agg [ca, cd]) (cs := [ca, cd]) ty29 rfl ty32 rfl (by decide) (by simp only [rho, T.get_set, Nat.reduceEqDiff, if_true, if_false]) rfl rfl hones call lc _) rfl rfl ?_
      have hF3 := fresh_new p1 ⟨32, [ca, cd]⟩
      have hK3 := kept_new (Kept.refl s2.c s2) (Nat.le_refl _) ⟨32, [ca, cd]⟩
      have hO3 := (hO.keep hF1 p2).keep p1 hK3
      have hW3 := (hW.keep hF1.lt p2).keep p1.lt hK3
      have hz3 := p3.keep p1.lt hK3
      have hl2 : cs.length ≤ 200000 := by rw [hW.1, List.length_take]; omega
      refine SeqR.appH (c0 := s.c) (b := s2.c) (t := 29) (e := 32) (z := 2) (new := [ca, cd]) rfl rfl rfl rfl ty29 rfl ty32 rfl (by decide) (by simp only [rho, T.get_set, Nat.reduceEqDiff, if_true, if_false]) (by simp only [rho, T.get_set, Nat.reduceEqDiff, if_true, if_false]) (by simp only [T.get_set, if_true]) rfl hones hlo (by simp only; omega) hO3 hF3 hcs (by simp only [i32]; omega) fun v' s4 q1 q2 q3 q4 q5 => ?_
      have hc4 : s4.c = s2.c + 1 + 1 := q4
      have w1 : wr .i64 (Int.ofNat i + 1) = Int.ofNat (i + 1) := wr_add (b := 1) (by omega)
      have hch := chg_app hF3 hW3 q5
      have hW4 : RW s4.h (x.take i) cs ∧ WZ s4.h (x.getD i 0) (.agg [ca, cd]) := ⟨hW3.chg hch, hz3.chg hch⟩
      repeat (first | (refine CodeR.seq ?_) | (refine CodeR.reg rfl ?_) | (refine CodeR.regD rfl rfl rfl ?_) | (refine SeqR.done ?_) | (refine CodeR.block ?_) | (refine CodeR.skip ?_) | (refine CodeR.exit ?_; simp only [sA, Ex.then, Ex.inBlock, Nat.reduceEqDiff]) | (first | (refine SeqR.skipN ?_ rfl rfl ?_; (simp only [sA, wantE, T.get_set, Nat.reduceEqDiff, t4, w1] <;> with_reducible rfl)) | ((first | refine SeqR.stepN (v := ?_) (s' := ?_) rfl ?_ rfl ?_ rfl rfl ?_ | refine SeqR.stepLN (v := ?_) (s' := ?_) rfl ?_ rfl ?_ rfl rfl ?_); rotate_left 3; (intro call lc; simp only [sA, opE, kindOf, pureE, heapE, rho, rhos, T.get_set, Nat.reduceEqDiff, nb00, absV, absS, l_slice, l_void, l_str, l_arr, natE, loadE, isConst, TK.agg, u_notB, b_eqlB, b_neqB, b_add, b_sub, b_mul, b_lss, b_gtr, b_leq, b_geq, b_eql, b_neq, ty3, i3, si3, ty4, i4, si4, ty24, i24, si24, ty25, i25, si25, ty29, i29, si29, ty32, i32, si32, t4, w1] <;> rfl); rotate_left 1; (simp only [sA, wantE, T.get_set, Nat.reduceEqDiff, t4, w1] <;> with_reducible rfl))))
      refine ⟨k - 1, by omega, q2, ((hK1.trans (p2.le (by omega))).trans (hK3.le (by omega))).trans q3, i + 1, _, v', cs ++ [ca, cd], rfl, by omega, q1, ?_, ?_, ?_, ?_, ?_⟩
      · rw [take_at hlt' 0]; exact hW4.1.append hW4.2
      · exact ones_append hcs hones
      simp only [T.get_set, Nat.reduceEqDiff, if_true, if_false, t0]
      simp only [T.get_set, Nat.reduceEqDiff, if_true, if_false]
      simp only [T.get_set, Nat.reduceEqDiff, if_true, if_false]
    · intro hge
      have hge' : ¬ i < x.length := by simpa using hge
      rw [List.take_of_length_le (by omega)] at hW
      repeat (first | (refine CodeR.seq ?_) | (refine CodeR.reg rfl ?_) | (refine CodeR.regD rfl rfl rfl ?_) | (refine SeqR.done ?_) | (refine CodeR.block ?_) | (refine CodeR.skip ?_) | (refine CodeR.exit ?_; simp only [sA, Ex.then, Ex.inBlock, Nat.reduceEqDiff]) | (first | (refine SeqR.skipN ?_ rfl rfl ?_; (simp only [sA, wantE, T.get_set, Nat.reduceEqDiff, t3] <;> with_reducible rfl)) | ((first | refine SeqR.stepN (v := ?_) (s' := ?_) rfl ?_ rfl ?_ rfl rfl ?_ | refine SeqR.stepLN (v := ?_) (s' := ?_) rfl ?_ rfl ?_ rfl rfl ?_); rotate_left 3; (intro call lc; simp only [sA, opE, kindOf, pureE, heapE, rho, rhos, T.get_set, Nat.reduceEqDiff, nb00, absV, absS, l_slice, l_void, l_str, l_arr, natE, loadE, isConst, TK.agg, u_notB, b_eqlB, b_neqB, b_add, b_sub, b_mul, b_lss, b_gtr, b_leq, b_geq, b_eql, b_neq, ty3, i3, si3, ty4, i4, si4, ty24, i24, si24, ty25, i25, si25, ty29, i29, si29, ty32, i32, si32, t3] <;> rfl); rotate_left 1; (simp only [sA, wantE, T.get_set, Nat.reduceEqDiff, t3] <;> with_reducible rfl))))
      refine CodeR.ret ⟨.inr rfl, [v], by (show ressE E _ _ [.tmp 2] = _; simp only [sA, ressE, resE, T.get_set, Nat.reduceEqDiff, u_notB, b_eqlB, b_neqB, b_add, b_sub, b_mul, b_lss, b_gtr, b_leq, b_geq, b_eql, b_neq, ty3, i3, si3, ty4, i4, si4, ty24, i24, si24, ty25, i25, si25, ty29, i29, si29, ty32, i32, si32]), ?_⟩
      exact ⟨hF1, hK1, cs, hO, hW, hcs⟩
theorem equal24 {lo : Nat} {va vb : AV} {xs ys : List Int} {s : St} (ha : RZ s.h xs va) (hb : RZ s.h ys vb) (hF : Fresh s) (hl : xs.length ≤ 100000) :
    FunR E lo 24 [va, vb] s fun v s' => s = s' ∧ ∃ b, v = .bool b ∧ (b = true ↔ xs.length = ys.length ∧ ∀ i, i < xs.length → xs.getD i 0 = ys.getD i 0) := by
  refine FunR.body (fn := Tryz.f24) fn24' rfl ?_
  have hn : (max ([va, vb] : List AV).length Tryz.f24.ntmps) = 26 := rfl
  generalize max ([va, vb] : List AV).length Tryz.f24.ntmps = n at hn
  subst hn
  have g0 : (argsT 0 ([va, vb] : List AV)).get 0 = some (va) := rfl
  have g1 : (argsT 0 ([va, vb] : List AV)).get 1 = some (vb) := rfl
  generalize argsT 0 ([va, vb] : List AV) = T0 at g0 g1 ⊢
  have hn : (26 : Nat) = 26 := rfl
  have la := lenR ha 3
  have lb := lenR hb 3
  repeat (first | (refine CodeR.seq ?_) | (refine CodeR.reg rfl ?_) | (refine CodeR.regD rfl rfl rfl ?_) | (refine SeqR.done ?_) | (refine CodeR.block ?_) | (refine CodeR.skip ?_) | (refine CodeR.exit ?_; simp only [sA, Ex.then, Ex.inBlock, Nat.reduceEqDiff]) | (first | (refine SeqR.skipN ?_ rfl rfl ?_; (simp only [sA, wantE, T.get_set, Nat.reduceEqDiff, g0, g1, la, lb, eqB_nat] <;> with_reducible rfl)) | ((first | refine SeqR.stepN (v := ?_) (s' := ?_) rfl ?_ rfl ?_ rfl rfl ?_ | refine SeqR.stepLN (v := ?_) (s' := ?_) rfl ?_ rfl ?_ rfl rfl ?_); rotate_left 3; (intro call lc; simp only [sA, opE, kindOf, pureE, heapE, rho, rhos, T.get_set, Nat.reduceEqDiff, nb00, absV, absS, l_slice, l_void, l_str, l_arr, natE, loadE, isConst, TK.agg, u_notB, b_eqlB, b_neqB, b_add, b_sub, b_mul, b_lss, b_gtr, b_leq, b_geq, b_eql, b_neq, ty3, i3, si3, ty25, i25, si25, g0, g1, la, lb, eqB_nat] <;> rfl); rotate_left 1; (simp only [sA, wantE, T.get_set, Nat.reduceEqDiff, g0, g1, la, lb, eqB_nat] <;> with_reducible rfl))))
  refine CodeR.cond (t := !decide (xs.length = ys.length)) (by simp only [sA, rho, T.get_set, Nat.reduceEqDiff, u_notB, b_eqlB, b_neqB, b_add, b_sub, b_mul, b_lss, b_gtr, b_leq, b_geq, b_eql, b_neq, ty3, i3, si3, ty25, i25, si25]) ?_ ?_
  · intro h
    have h : ¬ xs.length = ys.length := by simpa using h
    repeat (first | (refine CodeR.seq ?_) | (refine CodeR.reg rfl ?_) | (refine CodeR.regD rfl rfl rfl ?_) | (refine SeqR.done ?_) | (refine CodeR.block ?_) | (refine CodeR.skip ?_) | (refine CodeR.exit ?_; simp only [sA, Ex.then, Ex.inBlock, Nat.reduceEqDiff]) | (first | (refine SeqR.skipN ?_ rfl rfl ?_; (simp only [sA, wantE, T.get_set, Nat.reduceEqDiff] <;> with_reducible rfl)) | ((first | refine SeqR.stepN (v := ?_) (s' := ?_) rfl ?_ rfl ?_ rfl rfl ?_ | refine SeqR.stepLN (v := ?_) (s' := ?_) rfl ?_ rfl ?_ rfl rfl ?_); rotate_left 3; (intro call lc; simp only [sA, opE, kindOf, pureE, heapE, rho, rhos, T.get_set, Nat.reduceEqDiff, nb00, absV, absS, l_slice, l_void, l_str, l_arr, natE, loadE, isConst, TK.agg, u_notB, b_eqlB, b_neqB, b_add, b_sub, b_mul, b_lss, b_gtr, b_leq, b_geq, b_eql, b_neq, ty3, i3, si3, ty25, i25, si25] <;> rfl); rotate_left 1; (simp only [sA, wantE, T.get_set, Nat.reduceEqDiff] <;> with_reducible rfl))))
    refine CodeR.ret ⟨.inr rfl, [.bool false], by (show ressE E _ _ [.tmp 4] = _; simp only [sA, ressE, resE, T.get_set, Nat.reduceEqDiff, u_notB, b_eqlB, b_neqB, b_add, b_sub, b_mul, b_lss, b_gtr, b_leq, b_geq, b_eql, b_neq, ty3, i3, si3, ty25, i25, si25]), ?_⟩
    exact ⟨rfl, false, rfl, by simp [h]⟩
  · intro h
    have h : xs.length = ys.length := by simpa using h
    repeat (first | (refine CodeR.seq ?_) | (refine CodeR.reg rfl ?_) | (refine CodeR.regD rfl rfl rfl ?_) | (refine SeqR.done ?_) | (refine CodeR.block ?_) | (refine CodeR.skip ?_) | (refine CodeR.exit ?_; simp only [sA, Ex.then, Ex.inBlock, Nat.reduceEqDiff]) | (first | (refine SeqR.skipN ?_ rfl rfl ?_; (simp only [sA, wantE, T.get_set, Nat.reduceEqDiff, g0, la] <;> with_reducible rfl)) | ((first | refine SeqR.stepN (v := ?_) (s' := ?_) rfl ?_ rfl ?_ rfl rfl ?_ | refine SeqR.stepLN (v := ?_) (s' := ?_) rfl ?_ rfl ?_ rfl rfl ?_); rotate_left 3; (intro call lc; simp only [sA, opE, kindOf, pureE, heapE, rho, rhos, T.get_set, Nat.reduceEqDiff, nb00, absV, absS, l_slice, l_void, l_str, l_arr, natE, loadE, isConst, TK.agg, u_notB, b_eqlB, b_neqB, b_add, b_sub, b_mul, b_lss, b_gtr, b_leq, b_geq, b_eql, b_neq, ty3, i3, si3, ty25, i25, si25, g0, la] <;> rfl); rotate_left 1; (simp only [sA, wantE, T.get_set, Nat.reduceEqDiff, g0, la] <;> with_reducible rfl))))
    refine CodeR.loop (fun k mm s1 => s = s1 ∧ ∃ i T1, mm = ⟨26, T1⟩ ∧ i + k = xs.length ∧ (∀ j, j < i → xs.getD j 0 = ys.getD j 0) ∧ T1.get 0 = some va ∧ T1.get 1 = some vb ∧ T1.get 12 = some (.int .i64 (Int.ofNat xs.length)) ∧ T1.get 13 = some (.int .i64 (Int.ofNat i))) xs.length ?_ ?_
    · refine ⟨rfl, 0, _, rfl, by omega, fun j hj => by omega, ?_, ?_, ?_, ?_⟩
      simp only [T.get_set, Nat.reduceEqDiff, if_true, if_false, g0]
      simp only [T.get_set, Nat.reduceEqDiff, if_true, if_false, g1]
      simp only [T.get_set, Nat.reduceEqDiff, if_true, if_false]
      simp only [T.get_set, Nat.reduceEqDiff, if_true, if_false]
      · rfl
    · rintro k mm s1 ⟨rfl, i, T1, rfl, hik, hok, t0, t1, t12, t13⟩
      repeat (first | (refine CodeR.seq ?_) | (refine CodeR.reg rfl ?_) | (refine CodeR.regD rfl rfl rfl ?_) | (refine SeqR.done ?_) | (refine CodeR.block ?_) | (refine CodeR.skip ?_) | (refine CodeR.exit ?_; simp only [sA, Ex.then, Ex.inBlock, Nat.reduceEqDiff]) | (first | (refine SeqR.skipN ?_ rfl rfl ?_; (simp only [sA, wantE, T.get_set, Nat.reduceEqDiff, t12, t13, ltB_nat] <;> with_reducible rfl)) | ((first | refine SeqR.stepN (v := ?_) (s' := ?_) rfl ?_ rfl ?_ rfl rfl ?_ | refine SeqR.stepLN (v := ?_) (s' := ?_) rfl ?_ rfl ?_ rfl rfl ?_); rotate_left 3; (intro call lc; simp only [sA, opE, kindOf, pureE, heapE, rho, rhos, T.get_set, Nat.reduceEqDiff, nb00, absV, absS, l_slice, l_void, l_str, l_arr, natE, loadE, isConst, TK.agg, u_notB, b_eqlB, b_neqB, b_add, b_sub, b_mul, b_lss, b_gtr, b_leq, b_geq, b_eql, b_neq, ty3, i3, si3, ty25, i25, si25, t12, t13, ltB_nat] <;> rfl); rotate_left 1; (simp only [sA, wantE, T.get_set, Nat.reduceEqDiff, t12, t13, ltB_nat] <;> with_reducible rfl))))
      refine CodeR.cond (t := decide (i < xs.length)) (by simp only [sA, rho, T.get_set, Nat.reduceEqDiff, u_notB, b_eqlB, b_neqB, b_add, b_sub, b_mul, b_lss, b_gtr, b_leq, b_geq, b_eql, b_neq, ty3, i3, si3, ty25, i25, si25]) ?_ ?_
      · intro hlt
        have hlt' : i < xs.length := by simpa using hlt
        obtain ⟨b, o, n, c, q, kk, rfl, f1, f2, f3⟩ := Row.zint ha hlt'
        have f4 : Nat.blt b s.c = true := blt_iff.2 (hF.lt b kk f2)
        obtain ⟨b2, o2, n2, c2, q2, k2, rfl, p1, p2, p3⟩ := Row.zint hb (i := i) (by omega)
        have p4 : Nat.blt b2 s.c = true := blt_iff.2 (hF.lt b2 k2 p2)
        repeat (first | (refine CodeR.seq ?_) | (refine CodeR.reg rfl ?_) | (refine CodeR.regD rfl rfl rfl ?_) | (refine SeqR.done ?_) | (refine CodeR.block ?_) | (refine CodeR.skip ?_) | (refine CodeR.exit ?_; simp only [sA, Ex.then, Ex.inBlock, Nat.reduceEqDiff]) | (first | (refine SeqR.skipN ?_ rfl rfl ?_; (simp only [sA, wantE, T.get_set, Nat.reduceEqDiff, t0, t1, t13, f1, f2, f3, f4, p1, p2, p3, p4] <;> with_reducible rfl)) | ((first | refine SeqR.stepN (v := ?_) (s' := ?_) rfl ?_ rfl ?_ rfl rfl ?_ | refine SeqR.stepLN (v := ?_) (s' := ?_) rfl ?_ rfl ?_ rfl rfl ?_); rotate_left 3; (intro call lc; simp only [sA, opE, kindOf, pureE, heapE, rho, rhos, T.get_set, Nat.reduceEqDiff, nb00, absV, absS, l_slice, l_void, l_str, l_arr, natE, loadE, isConst, TK.agg, u_notB, b_eqlB, b_neqB, b_add, b_sub, b_mul, b_lss, b_gtr, b_leq, b_geq, b_eql, b_neq, ty3, i3, si3, ty25, i25, si25, t0, t1, t13, f1, f2, f3, f4, p1, p2, p3, p4] <;> rfl); rotate_left 1; (simp only [sA, wantE, T.get_set, Nat.reduceEqDiff, t0, t1, t13, f1, f2, f3, f4, p1, p2, p3, p4] <;> with_reducible rfl))))
        refine CodeR.cond (t := !eqB (xs.getD i 0) (ys.getD i 0)) (by simp only [sA, rho, T.get_set, Nat.reduceEqDiff, u_notB, b_eqlB, b_neqB, b_add, b_sub, b_mul, b_lss, b_gtr, b_leq, b_geq, b_eql, b_neq, ty3, i3, si3, ty25, i25, si25]) ?_ ?_
        · intro hne
          have hne : ¬ xs.getD i 0 = ys.getD i 0 := by rw [eqB_eq] at hne; simpa using hne
          repeat (first | (refine CodeR.seq ?_) | (refine CodeR.reg rfl ?_) | (refine CodeR.regD rfl rfl rfl ?_) | (refine SeqR.done ?_) | (refine CodeR.block ?_) | (refine CodeR.skip ?_) | (refine CodeR.exit ?_; simp only [sA, Ex.then, Ex.inBlock, Nat.reduceEqDiff]) | (first | (refine SeqR.skipN ?_ rfl rfl ?_; (simp only [sA, wantE, T.get_set, Nat.reduceEqDiff] <;> with_reducible rfl)) | ((first | refine SeqR.stepN (v := ?_) (s' := ?_) rfl ?_ rfl ?_ rfl rfl ?_ | refine SeqR.stepLN (v := ?_) (s' := ?_) rfl ?_ rfl ?_ rfl rfl ?_); rotate_left 3; (intro call lc; simp only [sA, opE, kindOf, pureE, heapE, rho, rhos, T.get_set, Nat.reduceEqDiff, nb00, absV, absS, l_slice, l_void, l_str, l_arr, natE, loadE, isConst, TK.agg, u_notB, b_eqlB, b_neqB, b_add, b_sub, b_mul, b_lss, b_gtr, b_leq, b_geq, b_eql, b_neq, ty3, i3, si3, ty25, i25, si25] <;> rfl); rotate_left 1; (simp only [sA, wantE, T.get_set, Nat.reduceEqDiff] <;> with_reducible rfl))))
          refine CodeR.ret ⟨.inr rfl, [.bool false], by (show ressE E _ _ [.tmp 4] = _; simp only [sA, ressE, resE, T.get_set, Nat.reduceEqDiff, u_notB, b_eqlB, b_neqB, b_add, b_sub, b_mul, b_lss, b_gtr, b_leq, b_geq, b_eql, b_neq, ty3, i3, si3, ty25, i25, si25]), ?_⟩
          refine ⟨rfl, false, rfl, ?_⟩
          simp only [Bool.false_eq_true, false_iff]
          intro hc
          exact hne (hc.2 i hlt')
        · intro hne
          have hne : xs.getD i 0 = ys.getD i 0 := by rw [eqB_eq] at hne; simpa using hne
          have e5 : wr .i64 (Int.ofNat i + 1) = Int.ofNat (i + 1) := wr_add (b := 1) (by omega)
          repeat (first | (refine CodeR.seq ?_) | (refine CodeR.reg rfl ?_) | (refine CodeR.regD rfl rfl rfl ?_) | (refine SeqR.done ?_) | (refine CodeR.block ?_) | (refine CodeR.skip ?_) | (refine CodeR.exit ?_; simp only [sA, Ex.then, Ex.inBlock, Nat.reduceEqDiff]) | (first | (refine SeqR.skipN ?_ rfl rfl ?_; (simp only [sA, wantE, T.get_set, Nat.reduceEqDiff, t13, e5] <;> with_reducible rfl)) | ((first | refine SeqR.stepN (v := ?_) (s' := ?_) rfl ?_ rfl ?_ rfl rfl ?_ | refine SeqR.stepLN (v := ?_) (s' := ?_) rfl ?_ rfl ?_ rfl rfl ?_); rotate_left 3; (intro call lc; simp only [sA, opE, kindOf, pureE, heapE, rho, rhos, T.get_set, Nat.reduceEqDiff, nb00, absV, absS, l_slice, l_void, l_str, l_arr, natE, loadE, isConst, TK.agg, u_notB, b_eqlB, b_neqB, b_add, b_sub, b_mul, b_lss, b_gtr, b_leq, b_geq, b_eql, b_neq, ty3, i3, si3, ty25, i25, si25, t13, e5] <;> rfl); rotate_left 1; (simp only [sA, wantE, T.get_set, Nat.reduceEqDiff, t13, e5] <;> with_reducible rfl))))
          refine ⟨k - 1, by omega, rfl, i + 1, _, rfl, by omega, fun j hj => ?_, ?_, ?_, ?_, ?_⟩
          · by_cases hji : j = i
            · subst hji; exact hne
            · exact hok j (by omega)
          simp only [T.get_set, Nat.reduceEqDiff, if_true, if_false, t0]
          simp only [T.get_set, Nat.reduceEqDiff, if_true, if_false, t1]
          simp only [T.get_set, Nat.reduceEqDiff, if_true, if_false, t12]
          simp only [T.get_set, Nat.reduceEqDiff, if_true, if_false]
      · intro hge
        have hge' : ¬ i < xs.length := by simpa using hge
        repeat (first | (refine CodeR.seq ?_) | (refine CodeR.reg rfl ?_) | (refine CodeR.regD rfl rfl rfl ?_) | (refine SeqR.done ?_) | (refine CodeR.block ?_) | (refine CodeR.skip ?_) | (refine CodeR.exit ?_; simp only [sA, Ex.then, Ex.inBlock, Nat.reduceEqDiff]) | (first | (refine SeqR.skipN ?_ rfl rfl ?_; (simp only [sA, wantE, T.get_set, Nat.reduceEqDiff] <;> with_reducible rfl)) | ((first | refine SeqR.stepN (v := ?_) (s' := ?_) rfl ?_ rfl ?_ rfl rfl ?_ | refine SeqR.stepLN (v := ?_) (s' := ?_) rfl ?_ rfl ?_ rfl rfl ?_); rotate_left 3; (intro call lc; simp only [sA, opE, kindOf, pureE, heapE, rho, rhos, T.get_set, Nat.reduceEqDiff, nb00, absV, absS, l_slice, l_void, l_str, l_arr, natE, loadE, isConst, TK.agg, u_notB, b_eqlB, b_neqB, b_add, b_sub, b_mul, b_lss, b_gtr, b_leq, b_geq, b_eql, b_neq, ty3, i3, si3, ty25, i25, si25] <;> rfl); rotate_left 1; (simp only [sA, wantE, T.get_set, Nat.reduceEqDiff] <;> with_reducible rfl))))
        refine CodeR.ret ⟨.inr rfl, [.bool true], by (show ressE E _ _ [.tmp 4] = _; simp only [sA, ressE, resE, T.get_set, Nat.reduceEqDiff, u_notB, b_eqlB, b_neqB, b_add, b_sub, b_mul, b_lss, b_gtr, b_leq, b_geq, b_eql, b_neq, ty3, i3, si3, ty25, i25, si25]), ?_⟩
        refine ⟨rfl, true, rfl, ?_⟩
        simp only [true_iff]
        exact ⟨h, fun j hj => hok j (by omega)⟩
theorem own_sl {c0 : Nat} {s : St} {e z : Nat} {cs : List AV} {v : AV} (h : Own c0 s e z cs v) : ∃ a n c q, v = .slice a n c q := by
  rcases h with ⟨rfl, _⟩ | ⟨b, n, rfl, _⟩ <;> exact ⟨_, _, _, _, rfl⟩
theorem gro_sl {c0 : Nat} {s : St} {e z : Nat} {cs : List AV} {v : AV} (h : Gro c0 s e z cs v) : ∃ a n c q, v = .slice a n c q := by
  rcases h with h | ⟨b, rfl, _⟩
  · exact own_sl h
  · exact ⟨_, _, _, _, rfl⟩
theorem FromRow_run' {lo : Nat} {va : AV} {cs : List AV} {zs : List Int} {s : St} (hr : Row s.h 2 cs va) (hW : RW s.h zs cs) (hF : Fresh s) (hlo : lo ≤ s.c) (hl : zs.length ≤ 100000) (hz : ∀ i, i < zs.length → (zs.getD i 0).natAbs < 10 ^ 100) :
    FunR E lo 23 [va] s fun v s' => Fresh s' ∧ Kept s.c s s' ∧ ((NearR zs ∧ ∃ r, v = .tuple [r, .bool true] ∧ RZ s'.h zs r ∧ ∃ a n c q, r = .slice a n c q) ∨ (¬ NearR zs ∧ ∃ r, v = .tuple [r, .bool false])) := by
  obtain ⟨nl, hlen, hnl⟩ := hr.len (e := 32) (by omega)
  have hnl' : nl = zs.length := by have := hW.1; omega
  subst hnl'
  refine FunR.body (fn := Tryz.f23) fn23' rfl ?_
  have hn : (max ([va] : List AV).length Tryz.f23.ntmps) = 39 := rfl
  generalize max ([va] : List AV).length Tryz.f23.ntmps = n at hn
  subst hn
  have g0 : (argsT 0 ([va] : List AV)).get 0 = some (va) := rfl
  generalize argsT 0 ([va] : List AV) = T0 at g0 ⊢
  have hn : (39 : Nat) = 39 := rfl
  refine CodeR.seq (CodeR.reg rfl ?_)
  iterate 2 (first | (refine SeqR.skipN ?_ rfl rfl ?_; (simp only [sA, wantE, T.get_set, Nat.reduceEqDiff] <;> with_reducible rfl)) | ((first | refine SeqR.stepN (v := ?_) (s' := ?_) rfl ?_ rfl ?_ rfl rfl ?_ | refine SeqR.stepLN (v := ?_) (s' := ?_) rfl ?_ rfl ?_ rfl rfl ?_); rotate_left 3; (intro call lc; simp only [sA, opE, kindOf, pureE, heapE, rho, rhos, T.get_set, Nat.reduceEqDiff, nb00, absV, absS, l_slice, l_void, l_str, l_arr, natE, loadE, isConst, TK.agg, u_notB, b_eqlB, b_neqB, b_add, b_sub, b_mul, b_lss, b_gtr, b_leq, b_geq, b_eql, b_neq, ty3, i3, si3, ty4, i4, si4, ty24, i24, si24, ty25, i25, si25, ty29, i29, si29, ty32, i32, si32, ty49, i49, si49] <;> rfl); rotate_left 1; (simp only [sA, wantE, T.get_set, Nat.reduceEqDiff] <;> with_reducible rfl)))
  refine SeqR.done ?_
  refine CodeR.seq (CodeR.reg rfl ?_)
  refine SeqR.step rfl rfl (fun call lc => op_buildS0 ty25 rfl ty3 call lc _) rfl rfl ?_
  have hF1 := fresh_new hF ⟨3, []⟩
  have hK1 := kept_new (Kept.refl s.c s) (Nat.le_refl _) ⟨3, []⟩
  simp only
  have hc1 : (⟨s.h.set s.c ⟨3, []⟩, s.c + 1⟩ : St).c = s.c + 1 := rfl
  generalize (⟨s.h.set s.c ⟨3, []⟩, s.c + 1⟩ : St) = s1 at hF1 hK1 hc1 ⊢
  repeat (first | (refine CodeR.seq ?_) | (refine CodeR.reg rfl ?_) | (refine CodeR.regD rfl rfl rfl ?_) | (refine SeqR.done ?_) | (refine CodeR.block ?_) | (refine CodeR.skip ?_) | (refine CodeR.exit ?_; simp only [sA, Ex.then, Ex.inBlock, Nat.reduceEqDiff]) | (first | (refine SeqR.skipN ?_ rfl rfl ?_; (simp only [sA, wantE, T.get_set, Nat.reduceEqDiff] <;> with_reducible rfl)) | ((first | refine SeqR.stepN (v := ?_) (s' := ?_) rfl ?_ rfl ?_ rfl rfl ?_ | refine SeqR.stepLN (v := ?_) (s' := ?_) rfl ?_ rfl ?_ rfl rfl ?_); rotate_left 3; (intro call lc; simp only [sA, opE, kindOf, pureE, heapE, rho, rhos, T.get_set, Nat.reduceEqDiff, nb00, absV, absS, l_slice, l_void, l_str, l_arr, natE, loadE, isConst, TK.agg, u_notB, b_eqlB, b_neqB, b_add, b_sub, b_mul, b_lss, b_gtr, b_leq, b_geq, b_eql, b_neq, ty3, i3, si3, ty4, i4, si4, ty24, i24, si24, ty25, i25, si25, ty29, i29, si29, ty32, i32, si32, ty49, i49, si49] <;> rfl); rotate_left 1; (simp only [sA, wantE, T.get_set, Nat.reduceEqDiff] <;> with_reducible rfl))))
  refine CodeR.loop (fun k mm s2 => Fresh s2 ∧ Kept s.c s s2 ∧ ∃ i T1 v, mm = ⟨39, T1⟩ ∧ i + k = zs.length ∧ (∀ j, j < i → Near (zs.getD j 0)) ∧ Gro s.c s2 3 1 (zints (zs.take i)) v ∧ T1.get 0 = some va ∧ T1.get 4 = some v ∧ T1.get 5 = some (.int .i64 (Int.ofNat i))) zs.length ?_ ?_
  · refine ⟨hF1, hK1, 0, _, .slice (some (s.c, 0)) 0 0 0, rfl, by omega, fun j hj => by omega, .inr ⟨s.c, rfl, rfl⟩, ?_, ?_, ?_⟩
    simp only [T.get_set, Nat.reduceEqDiff, if_true, if_false, g0]
    simp only [T.get_set, Nat.reduceEqDiff, if_true, if_false]
    simp only [T.get_set, Nat.reduceEqDiff, if_true, if_false]
    · rfl
  · rintro k mm s2 ⟨hF2, hK2, i, T1, v, rfl, hik, hok, hG, t0, t4, t5⟩
    have m2 := hK2.mono
    have hr2 := hr.keep hF.lt hK2
    have hW2 := hW.keep hF.lt hK2
    repeat (first | (refine CodeR.seq ?_) | (refine CodeR.reg rfl ?_) | (refine CodeR.regD rfl rfl rfl ?_) | (refine SeqR.done ?_) | (refine CodeR.block ?_) | (refine CodeR.skip ?_) | (refine CodeR.exit ?_; simp only [sA, Ex.then, Ex.inBlock, Nat.reduceEqDiff]) | (first | (refine SeqR.skipN ?_ rfl rfl ?_; (simp only [sA, wantE, T.get_set, Nat.reduceEqDiff, t0, t5, hlen, ltB_nat] <;> with_reducible rfl)) | ((first | refine SeqR.stepN (v := ?_) (s' := ?_) rfl ?_ rfl ?_ rfl rfl ?_ | refine SeqR.stepLN (v := ?_) (s' := ?_) rfl ?_ rfl ?_ rfl rfl ?_); rotate_left 3; (intro call lc; simp only [sA, opE, kindOf, pureE, heapE, rho, rhos, T.get_set, Nat.reduceEqDiff, nb00, absV, absS, l_slice, l_void, l_str, l_arr, natE, loadE, isConst, TK.agg, u_notB, b_eqlB, b_neqB, b_add, b_sub, b_mul, b_lss, b_gtr, b_leq, b_geq, b_eql, b_neq, ty3, i3, si3, ty4, i4, si4, ty24, i24, si24, ty25, i25, si25, ty29, i29, si29, ty32, i32, si32, ty49, i49, si49, t0, t5, hlen, ltB_nat] <;> rfl); rotate_left 1; (simp only [sA, wantE, T.get_set, Nat.reduceEqDiff, t0, t5, hlen, ltB_nat] <;> with_reducible rfl))))
    refine CodeR.cond (t := decide (i < zs.length)) (by simp only [sA, rho, T.get_set, Nat.reduceEqDiff, u_notB, b_eqlB, b_neqB, b_add, b_sub, b_mul, b_lss, b_gtr, b_leq, b_geq, b_eql, b_neq, ty3, i3, si3, ty4, i4, si4, ty24, i24, si24, ty25, i25, si25, ty29, i29, si29, ty32, i32, si32, ty49, i49, si49]) ?_ ?_
    · intro hlt
      have hlt' : i < zs.length := by simpa using hlt
      obtain ⟨b, o, n, c, q, kk, a, d, rfl, f1, f2, f3, f5, _⟩ := RW.at hr2 hW2 hlt'
      have f4 : Nat.blt b s2.c = true := blt_iff.2 (hF2.lt b kk f2)
      have hzi := hz i hlt'
      generalize hzz : zs.getD i 0 = z at *
      have hb20 : z.natAbs < 1000000000 ^ 20 := by omega
      repeat (first | (refine CodeR.seq ?_) | (refine CodeR.reg rfl ?_) | (refine CodeR.regD rfl rfl rfl ?_) | (refine SeqR.done ?_) | (refine CodeR.block ?_) | (refine CodeR.skip ?_) | (refine CodeR.exit ?_; simp only [sA, Ex.then, Ex.inBlock, Nat.reduceEqDiff]) | (first | (refine SeqR.skipN ?_ rfl rfl ?_; (simp only [sA, wantE, T.get_set, Nat.reduceEqDiff, t0, t5, f1, f3, f4] <;> with_reducible rfl)) | ((first | refine SeqR.stepN (v := ?_) (s' := ?_) rfl ?_ rfl ?_ rfl rfl ?_ | refine SeqR.stepLN (v := ?_) (s' := ?_) rfl ?_ rfl ?_ rfl rfl ?_); rotate_left 3; (intro call lc; simp only [sA, opE, kindOf, pureE, heapE, rho, rhos, T.get_set, Nat.reduceEqDiff, nb00, absV, absS, l_slice, l_void, l_str, l_arr, natE, loadE, isConst, TK.agg, u_notB, b_eqlB, b_neqB, b_add, b_sub, b_mul, b_lss, b_gtr, b_leq, b_geq, b_eql, b_neq, ty3, i3, si3, ty4, i4, si4, ty24, i24, si24, ty25, i25, si25, ty29, i29, si29, ty32, i32, si32, ty49, i49, si49, t0, t5, f1, f3, f4] <;> rfl); rotate_left 1; (simp only [sA, wantE, T.get_set, Nat.reduceEqDiff, t0, t5, f1, f3, f4] <;> with_reducible rfl))))
      refine SeqR.callN (by first | with_reducible rfl | (simp only [sA, wantE, T.get_set, Nat.reduceEqDiff, u_notB, b_eqlB, b_neqB, b_add, b_sub, b_mul, b_lss, b_gtr, b_leq, b_geq, b_eql, b_neq, ty3, i3, si3, ty4, i4, si4, ty24, i24, si24, ty25, i25, si25, ty29, i29, si29, ty32, i32, si32, ty49, i49, si49] <;> with_reducible rfl)) rfl rfl (g := 45) (vs := [.agg [a, d]]) (by simp only [calleeE, sA, rho, rhos, T.get_set, Nat.reduceEqDiff, u_notB, b_eqlB, b_neqB, b_add, b_sub, b_mul, b_lss, b_gtr, b_leq, b_geq, b_eql, b_neq, ty3, i3, si3, ty4, i4, si4, ty24, i24, si24, ty25, i25, si25, ty29, i29, si29, ty32, i32, si32, ty49, i49, si49]; rfl) (by first | rfl | assumption) rfl rfl (fun lc hlc => (From_run f5 hF2 (lim_lo hlc (by omega)) hb20).mono fun v3 s3 hp => ?_)
      obtain ⟨p1, p2, rfl⟩ := hp
      have m3 := p2.mono
      refine SeqR.callN (by first | with_reducible rfl | (simp only [sA, wantE, T.get_set, Nat.reduceEqDiff, u_notB, b_eqlB, b_neqB, b_add, b_sub, b_mul, b_lss, b_gtr, b_leq, b_geq, b_eql, b_neq, ty3, i3, si3, ty4, i4, si4, ty24, i24, si24, ty25, i25, si25, ty29, i29, si29, ty32, i32, si32, ty49, i49, si49] <;> with_reducible rfl)) rfl rfl (g := 102) (vs := [.str (Lib.itoa z)]) (by simp only [calleeE, sA, rho, rhos, T.get_set, Nat.reduceEqDiff, u_notB, b_eqlB, b_neqB, b_add, b_sub, b_mul, b_lss, b_gtr, b_leq, b_geq, b_eql, b_neq, ty3, i3, si3, ty4, i4, si4, ty24, i24, si24, ty25, i25, si25, ty29, i29, si29, ty32, i32, si32, ty49, i49, si49]; rfl) (by first | rfl | assumption) rfl rfl (fun lc hlc => (Small_run (by omega)).mono fun v4 s4 hp => ?_)
      obtain ⟨rfl, hsm⟩ := hp
      have bad : ∀ {s' : St}, ¬ Near z → Fresh s' → Kept s.c s s' → Fresh s' ∧ Kept s.c s s' ∧ ((NearR zs ∧ ∃ r, (AV.tuple [.slice none 0 0 0, .bool false]) = .tuple [r, .bool true] ∧ RZ s'.h zs r ∧ ∃ a n c q, r = .slice a n c q) ∨ (¬ NearR zs ∧ ∃ r, (AV.tuple [.slice none 0 0 0, .bool false]) = .tuple [r, .bool false])) := fun hn h1 h2 => ⟨h1, h2, .inr ⟨fun h => hn (by rw [← hzz]; exact h i hlt'), _, rfl⟩⟩
      have hK3 := hK2.trans (p2.le m2)
      unfold SmallP at hsm
      split at hsm
      · subst hsm
        cases hf1 : ltB 1000000000 z with
        | true =>
          have hnz : ¬ Near z := by rw [ltB_eq] at hf1; simp at hf1; unfold Near; omega
          repeat (first | (refine CodeR.seq ?_) | (refine CodeR.reg rfl ?_) | (refine CodeR.regD rfl rfl rfl ?_) | (refine SeqR.done ?_) | (refine CodeR.block ?_) | (refine CodeR.skip ?_) | (refine CodeR.exit ?_; simp only [sA, Ex.then, Ex.inBlock, Nat.reduceEqDiff]) | (first | (refine SeqR.skipN ?_ rfl rfl ?_; (simp only [sA, wantE, T.get_set, Nat.reduceEqDiff, hf1] <;> with_reducible rfl)) | ((first | refine SeqR.stepN (v := ?_) (s' := ?_) rfl ?_ rfl ?_ rfl rfl ?_ | refine SeqR.stepLN (v := ?_) (s' := ?_) rfl ?_ rfl ?_ rfl rfl ?_); rotate_left 3; (intro call lc; simp only [sA, opE, kindOf, pureE, heapE, rho, rhos, T.get_set, Nat.reduceEqDiff, nb00, absV, absS, l_slice, l_void, l_str, l_arr, natE, loadE, isConst, TK.agg, u_notB, b_eqlB, b_neqB, b_add, b_sub, b_mul, b_lss, b_gtr, b_leq, b_geq, b_eql, b_neq, ty3, i3, si3, ty4, i4, si4, ty24, i24, si24, ty25, i25, si25, ty29, i29, si29, ty32, i32, si32, ty49, i49, si49, hf1] <;> rfl); rotate_left 1; (simp only [sA, wantE, T.get_set, Nat.reduceEqDiff, hf1] <;> with_reducible rfl))))
          refine CodeR.cond (t := true) (by simp only [sA, rho, T.get_set, Nat.reduceEqDiff, u_notB, b_eqlB, b_neqB, b_add, b_sub, b_mul, b_lss, b_gtr, b_leq, b_geq, b_eql, b_neq, ty3, i3, si3, ty4, i4, si4, ty24, i24, si24, ty25, i25, si25, ty29, i29, si29, ty32, i32, si32, ty49, i49, si49, hf1]) (fun _ => ?_) (fun h => by cases h)
          repeat (first | (refine CodeR.seq ?_) | (refine CodeR.reg rfl ?_) | (refine CodeR.regD rfl rfl rfl ?_) | (refine SeqR.done ?_) | (refine CodeR.block ?_) | (refine CodeR.skip ?_) | (refine CodeR.exit ?_; simp only [sA, Ex.then, Ex.inBlock, Nat.reduceEqDiff]) | (first | (refine SeqR.skipN ?_ rfl rfl ?_; (simp only [sA, wantE, T.get_set, Nat.reduceEqDiff] <;> with_reducible rfl)) | ((first | refine SeqR.stepN (v := ?_) (s' := ?_) rfl ?_ rfl ?_ rfl rfl ?_ | refine SeqR.stepLN (v := ?_) (s' := ?_) rfl ?_ rfl ?_ rfl rfl ?_); rotate_left 3; (intro call lc; simp only [sA, opE, kindOf, pureE, heapE, rho, rhos, T.get_set, Nat.reduceEqDiff, nb00, absV, absS, l_slice, l_void, l_str, l_arr, natE, loadE, isConst, TK.agg, u_notB, b_eqlB, b_neqB, b_add, b_sub, b_mul, b_lss, b_gtr, b_leq, b_geq, b_eql, b_neq, ty3, i3, si3, ty4, i4, si4, ty24, i24, si24, ty25, i25, si25, ty29, i29, si29, ty32, i32, si32, ty49, i49, si49] <;> rfl); rotate_left 1; (simp only [sA, wantE, T.get_set, Nat.reduceEqDiff] <;> with_reducible rfl))))
          refine CodeR.ret ⟨.inr rfl, [.slice none 0 0 0, .bool false], by (show ressE E _ _ [.tmp 2, .tmp 3] = _; simp only [ressE, resE, T.get_set, Nat.reduceEqDiff, if_true, if_false, Option.bind_some, Option.map_some]), bad hnz p1 hK3⟩
        | false =>
          cases hf2 : ltB z (-1000000000) with
          | true =>
            have hnz : ¬ Near z := by rw [ltB_eq] at hf2; simp at hf2; unfold Near; omega
            repeat (first | (refine CodeR.seq ?_) | (refine CodeR.reg rfl ?_) | (refine CodeR.regD rfl rfl rfl ?_) | (refine SeqR.done ?_) | (refine CodeR.block ?_) | (refine CodeR.skip ?_) | (refine CodeR.exit ?_; simp only [sA, Ex.then, Ex.inBlock, Nat.reduceEqDiff]) | (first | (refine SeqR.skipN ?_ rfl rfl ?_; (simp only [sA, wantE, T.get_set, Nat.reduceEqDiff, hf1, hf2] <;> with_reducible rfl)) | ((first | refine SeqR.stepN (v := ?_) (s' := ?_) rfl ?_ rfl ?_ rfl rfl ?_ | refine SeqR.stepLN (v := ?_) (s' := ?_) rfl ?_ rfl ?_ rfl rfl ?_); rotate_left 3; (intro call lc; simp only [sA, opE, kindOf, pureE, heapE, rho, rhos, T.get_set, Nat.reduceEqDiff, nb00, absV, absS, l_slice, l_void, l_str, l_arr, natE, loadE, isConst, TK.agg, u_notB, b_eqlB, b_neqB, b_add, b_sub, b_mul, b_lss, b_gtr, b_leq, b_geq, b_eql, b_neq, ty3, i3, si3, ty4, i4, si4, ty24, i24, si24, ty25, i25, si25, ty29, i29, si29, ty32, i32, si32, ty49, i49, si49, hf1, hf2] <;> rfl); rotate_left 1; (simp only [sA, wantE, T.get_set, Nat.reduceEqDiff, hf1, hf2] <;> with_reducible rfl))))
            refine CodeR.cond (t := true) (by simp only [sA, rho, T.get_set, Nat.reduceEqDiff, u_notB, b_eqlB, b_neqB, b_add, b_sub, b_mul, b_lss, b_gtr, b_leq, b_geq, b_eql, b_neq, ty3, i3, si3, ty4, i4, si4, ty24, i24, si24, ty25, i25, si25, ty29, i29, si29, ty32, i32, si32, ty49, i49, si49, hf1, hf2]) (fun _ => ?_) (fun h => by cases h)
            repeat (first | (refine CodeR.seq ?_) | (refine CodeR.reg rfl ?_) | (refine CodeR.regD rfl rfl rfl ?_) | (refine SeqR.done ?_) | (refine CodeR.block ?_) | (refine CodeR.skip ?_) | (refine CodeR.exit ?_; simp only [sA, Ex.then, Ex.inBlock, Nat.reduceEqDiff]) | (first | (refine SeqR.skipN ?_ rfl rfl ?_; (simp only [sA, wantE, T.get_set, Nat.reduceEqDiff] <;> with_reducible rfl)) | ((first | refine SeqR.stepN (v := ?_) (s' := ?_) rfl ?_ rfl ?_ rfl rfl ?_ | refine SeqR.stepLN (v := ?_) (s' := ?_) rfl ?_ rfl ?_ rfl rfl ?_); rotate_left 3; (intro call lc; simp only [sA, opE, kindOf, pureE, heapE, rho, rhos, T.get_set, Nat.reduceEqDiff, nb00, absV, absS, l_slice, l_void, l_str, l_arr, natE, loadE, isConst, TK.agg, u_notB, b_eqlB, b_neqB, b_add, b_sub, b_mul, b_lss, b_gtr, b_leq, b_geq, b_eql, b_neq, ty3, i3, si3, ty4, i4, si4, ty24, i24, si24, ty25, i25, si25, ty29, i29, si29, ty32, i32, si32, ty49, i49, si49] <;> rfl); rotate_left 1; (simp only [sA, wantE, T.get_set, Nat.reduceEqDiff] <;> with_reducible rfl))))
            refine CodeR.ret ⟨.inr rfl, [.slice none 0 0 0, .bool false], by (show ressE E _ _ [.tmp 2, .tmp 3] = _; simp only [ressE, resE, T.get_set, Nat.reduceEqDiff, if_true, if_false, Option.bind_some, Option.map_some]), bad hnz p1 hK3⟩
          | false =>
            have hnz : Near z := by rw [ltB_eq] at hf1 hf2; simp at hf1 hf2; unfold Near; omega
            have hG3 := hG.keep hF2 p2
            repeat (first | (refine CodeR.seq ?_) | (refine CodeR.reg rfl ?_) | (refine CodeR.regD rfl rfl rfl ?_) | (refine SeqR.done ?_) | (refine CodeR.block ?_) | (refine CodeR.skip ?_) | (refine CodeR.exit ?_; simp only [sA, Ex.then, Ex.inBlock, Nat.reduceEqDiff]) | (first | (refine SeqR.skipN ?_ rfl rfl ?_; (simp only [sA, wantE, T.get_set, Nat.reduceEqDiff, hf1, hf2] <;> with_reducible rfl)) | ((first | refine SeqR.stepN (v := ?_) (s' := ?_) rfl ?_ rfl ?_ rfl rfl ?_ | refine SeqR.stepLN (v := ?_) (s' := ?_) rfl ?_ rfl ?_ rfl rfl ?_); rotate_left 3; (intro call lc; simp only [sA, opE, kindOf, pureE, heapE, rho, rhos, T.get_set, Nat.reduceEqDiff, nb00, absV, absS, l_slice, l_void, l_str, l_arr, natE, loadE, isConst, TK.agg, u_notB, b_eqlB, b_neqB, b_add, b_sub, b_mul, b_lss, b_gtr, b_leq, b_geq, b_eql, b_neq, ty3, i3, si3, ty4, i4, si4, ty24, i24, si24, ty25, i25, si25, ty29, i29, si29, ty32, i32, si32, ty49, i49, si49, hf1, hf2] <;> rfl); rotate_left 1; (simp only [sA, wantE, T.get_set, Nat.reduceEqDiff, hf1, hf2] <;> with_reducible rfl))))
            refine CodeR.cond (t := false) (by simp only [sA, rho, T.get_set, Nat.reduceEqDiff, u_notB, b_eqlB, b_neqB, b_add, b_sub, b_mul, b_lss, b_gtr, b_leq, b_geq, b_eql, b_neq, ty3, i3, si3, ty4, i4, si4, ty24, i24, si24, ty25, i25, si25, ty29, i29, si29, ty32, i32, si32, ty49, i49, si49, hf1, hf2]) (fun h => by cases h) (fun _ => ?_)
            refine CodeR.skip ?_
            refine CodeR.reg rfl ?_
            iterate 2 (first | (refine SeqR.skipN ?_ rfl rfl ?_; (simp only [sA, wantE, T.get_set, Nat.reduceEqDiff, t4] <;> with_reducible rfl)) | ((first | refine SeqR.stepN (v := ?_) (s' := ?_) rfl ?_ rfl ?_ rfl rfl ?_ | refine SeqR.stepLN (v := ?_) (s' := ?_) rfl ?_ rfl ?_ rfl rfl ?_); rotate_left 3; (intro call lc; simp only [sA, opE, kindOf, pureE, heapE, rho, rhos, T.get_set, Nat.reduceEqDiff, nb00, absV, absS, l_slice, l_void, l_str, l_arr, natE, loadE, isConst, TK.agg, u_notB, b_eqlB, b_neqB, b_add, b_sub, b_mul, b_lss, b_gtr, b_leq, b_geq, b_eql, b_neq, ty3, i3, si3, ty4, i4, si4, ty24, i24, si24, ty25, i25, si25, ty29, i29, si29, ty32, i32, si32, ty49, i49, si49, t4] <;> rfl); rotate_left 1; (simp only [sA, wantE, T.get_set, Nat.reduceEqDiff, t4] <;> with_reducible rfl)))
            refine SeqR.step rfl rfl (fun call lc => op_buildS (v := .int .i64 z) (cs := [.int .i64 z]) ty25 rfl ty3 rfl (by decide) (by simp only [rho, T.get_set, Nat.reduceEqDiff, if_true, if_false]) rfl rfl rfl call lc _) rfl rfl ?_
            have hF4 := fresh_new p1 ⟨3, [.int .i64 z]⟩
            have hK4 := kept_new (Kept.refl s3.c s3) (Nat.le_refl _) ⟨3, [.int .i64 z]⟩
            have hG4 := hG3.keep p1 hK4
            refine SeqR.app (c0 := s.c) (b := s3.c) (t := 25) (e := 3) (z := 1) (new := [.int .i64 z]) rfl rfl rfl rfl ty25 rfl ty3 rfl (by decide) (by simp only [rho, T.get_set, Nat.reduceEqDiff, if_true, if_false]) (by simp only [rho, T.get_set, Nat.reduceEqDiff, if_true, if_false]) (by simp only [T.get_set, if_true]) rfl rfl hlo (by simp only; omega) hG4 hF4 (ones_zints _) (by simp only [zints_length, List.length_take, i3]; omega) fun v' s5 q1 q2 q3 q4 => ?_
            have w1 : wr .i64 (Int.ofNat i + 1) = Int.ofNat (i + 1) := wr_add (b := 1) (by omega)
            repeat (first | (refine CodeR.seq ?_) | (refine CodeR.reg rfl ?_) | (refine CodeR.regD rfl rfl rfl ?_) | (refine SeqR.done ?_) | (refine CodeR.block ?_) | (refine CodeR.skip ?_) | (refine CodeR.exit ?_; simp only [sA, Ex.then, Ex.inBlock, Nat.reduceEqDiff]) | (first | (refine SeqR.skipN ?_ rfl rfl ?_; (simp only [sA, wantE, T.get_set, Nat.reduceEqDiff, t5, w1] <;> with_reducible rfl)) | ((first | refine SeqR.stepN (v := ?_) (s' := ?_) rfl ?_ rfl ?_ rfl rfl ?_ | refine SeqR.stepLN (v := ?_) (s' := ?_) rfl ?_ rfl ?_ rfl rfl ?_); rotate_left 3; (intro call lc; simp only [sA, opE, kindOf, pureE, heapE, rho, rhos, T.get_set, Nat.reduceEqDiff, nb00, absV, absS, l_slice, l_void, l_str, l_arr, natE, loadE, isConst, TK.agg, u_notB, b_eqlB, b_neqB, b_add, b_sub, b_mul, b_lss, b_gtr, b_leq, b_geq, b_eql, b_neq, ty3, i3, si3, ty4, i4, si4, ty24, i24, si24, ty25, i25, si25, ty29, i29, si29, ty32, i32, si32, ty49, i49, si49, t5, w1] <;> rfl); rotate_left 1; (simp only [sA, wantE, T.get_set, Nat.reduceEqDiff, t5, w1] <;> with_reducible rfl))))
            refine ⟨k - 1, by omega, q2, (hK3.trans (hK4.le (by omega))).trans q3, i + 1, _, v', rfl, by omega, fun j hj => ?_, .inl ?_, ?_, ?_, ?_⟩
            · by_cases hji : j = i
              · subst hji; rw [hzz]; exact hnz
              · exact hok j (by omega)
            · rw [zints_append] at q1
              rw [take_at hlt' 0, hzz]
              exact q1
            simp only [T.get_set, Nat.reduceEqDiff, if_true, if_false, t0]
            simp only [T.get_set, Nat.reduceEqDiff, if_true, if_false]
            simp only [T.get_set, Nat.reduceEqDiff, if_true, if_false]
      · rename_i hout
        subst hsm
        have hnz : ¬ Near z := by unfold Near; omega
        repeat (first | (refine CodeR.seq ?_) | (refine CodeR.reg rfl ?_) | (refine CodeR.regD rfl rfl rfl ?_) | (refine SeqR.done ?_) | (refine CodeR.block ?_) | (refine CodeR.skip ?_) | (refine CodeR.exit ?_; simp only [sA, Ex.then, Ex.inBlock, Nat.reduceEqDiff]) | (first | (refine SeqR.skipN ?_ rfl rfl ?_; (simp only [sA, wantE, T.get_set, Nat.reduceEqDiff] <;> with_reducible rfl)) | ((first | refine SeqR.stepN (v := ?_) (s' := ?_) rfl ?_ rfl ?_ rfl rfl ?_ | refine SeqR.stepLN (v := ?_) (s' := ?_) rfl ?_ rfl ?_ rfl rfl ?_); rotate_left 3; (intro call lc; simp only [sA, opE, kindOf, pureE, heapE, rho, rhos, T.get_set, Nat.reduceEqDiff, nb00, absV, absS, l_slice, l_void, l_str, l_arr, natE, loadE, isConst, TK.agg, u_notB, b_eqlB, b_neqB, b_add, b_sub, b_mul, b_lss, b_gtr, b_leq, b_geq, b_eql, b_neq, ty3, i3, si3, ty4, i4, si4, ty24, i24, si24, ty25, i25, si25, ty29, i29, si29, ty32, i32, si32, ty49, i49, si49] <;> rfl); rotate_left 1; (simp only [sA, wantE, T.get_set, Nat.reduceEqDiff] <;> with_reducible rfl))))
        refine CodeR.cond (t := true) (by simp only [sA, rho, T.get_set, Nat.reduceEqDiff, u_notB, b_eqlB, b_neqB, b_add, b_sub, b_mul, b_lss, b_gtr, b_leq, b_geq, b_eql, b_neq, ty3, i3, si3, ty4, i4, si4, ty24, i24, si24, ty25, i25, si25, ty29, i29, si29, ty32, i32, si32, ty49, i49, si49]) (fun _ => ?_) (fun h => by cases h)
        repeat (first | (refine CodeR.seq ?_) | (refine CodeR.reg rfl ?_) | (refine CodeR.regD rfl rfl rfl ?_) | (refine SeqR.done ?_) | (refine CodeR.block ?_) | (refine CodeR.skip ?_) | (refine CodeR.exit ?_; simp only [sA, Ex.then, Ex.inBlock, Nat.reduceEqDiff]) | (first | (refine SeqR.skipN ?_ rfl rfl ?_; (simp only [sA, wantE, T.get_set, Nat.reduceEqDiff] <;> with_reducible rfl)) | ((first | refine SeqR.stepN (v := ?_) (s' := ?_) rfl ?_ rfl ?_ rfl rfl ?_ | refine SeqR.stepLN (v := ?_) (s' := ?_) rfl ?_ rfl ?_ rfl rfl ?_); rotate_left 3; (intro call lc; simp only [sA, opE, kindOf, pureE, heapE, rho, rhos, T.get_set, Nat.reduceEqDiff, nb00, absV, absS, l_slice, l_void, l_str, l_arr, natE, loadE, isConst, TK.agg, u_notB, b_eqlB, b_neqB, b_add, b_sub, b_mul, b_lss, b_gtr, b_leq, b_geq, b_eql, b_neq, ty3, i3, si3, ty4, i4, si4, ty24, i24, si24, ty25, i25, si25, ty29, i29, si29, ty32, i32, si32, ty49, i49, si49] <;> rfl); rotate_left 1; (simp only [sA, wantE, T.get_set, Nat.reduceEqDiff] <;> with_reducible rfl))))
        refine CodeR.ret ⟨.inr rfl, [.slice none 0 0 0, .bool false], by (show ressE E _ _ [.tmp 2, .tmp 3] = _; simp only [ressE, resE, T.get_set, Nat.reduceEqDiff, if_true, if_false, Option.bind_some, Option.map_some]), bad hnz p1 hK3⟩
    · intro hge
      have hge' : ¬ i < zs.length := by simpa using hge
      rw [List.take_of_length_le (by omega)] at hG
      repeat (first | (refine CodeR.seq ?_) | (refine CodeR.reg rfl ?_) | (refine CodeR.regD rfl rfl rfl ?_) | (refine SeqR.done ?_) | (refine CodeR.block ?_) | (refine CodeR.skip ?_) | (refine CodeR.exit ?_; simp only [sA, Ex.then, Ex.inBlock, Nat.reduceEqDiff]) | (first | (refine SeqR.skipN ?_ rfl rfl ?_; (simp only [sA, wantE, T.get_set, Nat.reduceEqDiff, t4] <;> with_reducible rfl)) | ((first | refine SeqR.stepN (v := ?_) (s' := ?_) rfl ?_ rfl ?_ rfl rfl ?_ | refine SeqR.stepLN (v := ?_) (s' := ?_) rfl ?_ rfl ?_ rfl rfl ?_); rotate_left 3; (intro call lc; simp only [sA, opE, kindOf, pureE, heapE, rho, rhos, T.get_set, Nat.reduceEqDiff, nb00, absV, absS, l_slice, l_void, l_str, l_arr, natE, loadE, isConst, TK.agg, u_notB, b_eqlB, b_neqB, b_add, b_sub, b_mul, b_lss, b_gtr, b_leq, b_geq, b_eql, b_neq, ty3, i3, si3, ty4, i4, si4, ty24, i24, si24, ty25, i25, si25, ty29, i29, si29, ty32, i32, si32, ty49, i49, si49, t4] <;> rfl); rotate_left 1; (simp only [sA, wantE, T.get_set, Nat.reduceEqDiff, t4] <;> with_reducible rfl))))
      refine CodeR.ret ⟨.inr rfl, [v, .bool true], by (show ressE E _ _ [.tmp 2, .tmp 3] = _; simp only [ressE, resE, T.get_set, Nat.reduceEqDiff, if_true, if_false, Option.bind_some, Option.map_some]), hF2, hK2, .inl ⟨fun j hj => hok j (by omega), v, rfl, hG.row, gro_sl hG⟩⟩
theorem FromRow_run {lo : Nat} {va : AV} {cs : List AV} {zs : List Int} {s : St} (hr : Row s.h 2 cs va) (hW : RW s.h zs cs) (hF : Fresh s) (hlo : lo ≤ s.c) (hl : zs.length ≤ 100000) (hz : ∀ i, i < zs.length → (zs.getD i 0).natAbs < 10 ^ 100) :
    FunR E lo 23 [va] s fun v s' => Fresh s' ∧ Kept s.c s s' ∧ ((NearR zs ∧ ∃ r, v = .tuple [r, .bool true] ∧ RZ s'.h zs r) ∨ (¬ NearR zs ∧ ∃ r, v = .tuple [r, .bool false])) :=
  (FromRow_run' hr hW hF hlo hl hz).mono fun v s' h => ⟨h.1, h.2.1, h.2.2.imp (fun ⟨h1, r, h2, h3, _⟩ => ⟨h1, r, h2, h3⟩) id⟩
end Go.Proofs.YtaocoplfdhcoaaaGreatDoor.EvA

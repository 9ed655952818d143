/- checker.number, equal, times, add, run. -/
import Derived.Test.YtaocoplfdhcoaaaGreatDoorSp28
set_option linter.unusedVariables false
set_option linter.unusedSimpArgs false
set_option maxRecDepth 20000
set_option maxHeartbeats 2000000
namespace Go.Proofs.YtaocoplfdhcoaaaGreatDoor.EvA
open Go Go.RowKit Go.Proofs.YtaocoplfdhcoaaaGreatDoor.Ev
theorem fn108' : E.fns.get 108 = some Tryz.f108 := by kernel_rfl
theorem fn107' : E.fns.get 107 = some Tryz.f107 := by kernel_rfl
theorem fn116' : E.fns.get 116 = some Tryz.f116 := by kernel_rfl
theorem fn115' : E.fns.get 115 = some Tryz.f115 := by kernel_rfl
theorem number_run {lo : Nat} {n : Int} {s : St} (h0 : -9223372036854775808 < n) (h1 : n < 9223372036854775808) (hF : Fresh s) (hlo : lo ≤ s.c) : FunR E lo 108 [.int .i64 n] s fun v s' => Fresh s' ∧ Kept s.c s s' ∧ IV s'.h n v := by
  refine FunR.body (fn := Tryz.f108) fn108' rfl ?_
  have hn : (max ([.int .i64 n] : List AV).length Tryz.f108.ntmps) = 14 := rfl
  generalize max ([.int .i64 n] : List AV).length Tryz.f108.ntmps = n at hn
  subst hn
  have g0 : (argsT 0 ([.int .i64 n] : List AV)).get 0 = some (.int .i64 n) := rfl
  generalize argsT 0 ([.int .i64 n] : List AV) = T0 at g0 ⊢
  have hn : (14 : Nat) = 14 := rfl
  refine CodeR.seq (CodeR.reg rfl ?_)
  refine SeqR.stepN rfl rfl rfl (fun call lc => op_alloc (cs := [.bool false, .slice none 0 0 0]) ty171 rfl rfl call lc _) rfl rfl ?_
  have hF1 := fresh_new hF ⟨171, [.bool false, .slice none 0 0 0]⟩
  have hK1 := kept_new (Kept.refl s.c s) (Nat.le_refl _) ⟨171, [.bool false, .slice none 0 0 0]⟩
  have hb : (s.h.set s.c (⟨171, [.bool false, .slice none 0 0 0]⟩ : Blk)).get s.c = some ⟨171, [.bool false, .slice none 0 0 0]⟩ := by rw [T.get_set, if_pos rfl]
  generalize hs1 : (⟨s.h.set s.c ⟨171, [.bool false, .slice none 0 0 0]⟩, s.c + 1⟩ : St) = s1 at hF1 hK1 ⊢
  have hb1 : s1.h.get s.c = some ⟨171, [.bool false, .slice none 0 0 0]⟩ := by rw [← hs1]; exact hb
  have hc1 : s1.c = s.c + 1 := by rw [← hs1]
  clear hb hs1
  have e0 : ltB n 0 = decide (n < 0) := ltB_eq n 0
  have fin : ∀ {v : AV} {s2 : St} {T1 : T AV} {b : Bool}, T1.get 2 = some (.ptr (some (s.c, 0))) → Fresh s2 → Kept s1.c s1 s2 → NV s2.h n.natAbs v → b = decide (n < 0) → (Ex.ret = .nrm ∨ Ex.ret = .ret) ∧ ∃ us, ressE E T1 ⟨s2.h.set s.c ⟨171, [.bool b, v]⟩, s2.c⟩ Tryz.f108.results.toList = some us ∧ (Fresh ⟨s2.h.set s.c ⟨171, [.bool b, v]⟩, s2.c⟩ ∧ Kept s.c s ⟨s2.h.set s.c ⟨171, [.bool b, v]⟩, s2.c⟩ ∧ IV (s2.h.set s.c ⟨171, [.bool b, v]⟩) n (oneOf us)) := fun {v s2 T1 b} t2 p1 p2 p3 hb => by
    have m2 := p2.mono
    have hg : s2.h.get s.c = some ⟨171, [.bool false, .slice none 0 0 0]⟩ := by rw [p2.keep _ (by omega)]; exact hb1
    refine ⟨.inr rfl, [.agg [.bool b, v]], ?_, fresh_set p1 (by omega), kept_set (hK1.trans (p2.le (by omega))) (Nat.le_refl _), v, by rw [hb]; rfl, nv_other p3 hg zero171⟩
    show ressE E T1 _ [.cell 2 171] = _
    simp only [ressE, resE, t2, Option.bind_some]
    rw [load_box (z := 0) (s := ⟨s2.h.set s.c ⟨171, [.bool b, v]⟩, s2.c⟩) ty171 rfl rfl (by simp only [T.get_set, if_true]; rfl)]
    rfl
  repeat (first | (refine CodeR.seq ?_) | (refine CodeR.reg rfl ?_) | (refine CodeR.regD rfl rfl rfl ?_) | (refine SeqR.done ?_) | (refine CodeR.block ?_) | (refine CodeR.skip ?_) | (refine CodeR.exit ?_; simp only [sA, Ex.then, Ex.inBlock, Nat.reduceEqDiff]) | (first | (refine SeqR.skipN ?_ rfl rfl ?_; (simp only [sA, wantE, T.get_set, Nat.reduceEqDiff, g0, e0] <;> with_reducible rfl)) | ((first | refine SeqR.stepN (v := ?_) (s' := ?_) rfl ?_ rfl ?_ rfl rfl ?_ | refine SeqR.stepLN (v := ?_) (s' := ?_) rfl ?_ rfl ?_ rfl rfl ?_); rotate_left 3; (intro call lc; simp only [sA, opE, kindOf, pureE, heapE, rho, rhos, T.get_set, Nat.reduceEqDiff, nb00, absV, absS, l_slice, l_void, l_str, l_arr, natE, loadE, isConst, TK.agg, u_notB, b_eqlB, b_neqB, b_add, b_sub, b_mul, b_lss, b_gtr, b_leq, b_geq, b_eql, b_neq, ty3, i3, si3, ty4, i4, si4, ty169, i169, si169, ty171, i171, si171, ty245, i245, si245, ty283, i283, si283, g0, e0] <;> rfl); rotate_left 1; (simp only [sA, wantE, T.get_set, Nat.reduceEqDiff, g0, e0] <;> with_reducible rfl))))
  refine CodeR.cond (t := decide (n < 0)) (by simp only [sA, rho, T.get_set, Nat.reduceEqDiff, u_notB, b_eqlB, b_neqB, b_add, b_sub, b_mul, b_lss, b_gtr, b_leq, b_geq, b_eql, b_neq, ty3, i3, si3, ty4, i4, si4, ty169, i169, si169, ty171, i171, si171, ty245, i245, si245, ty283, i283, si283]) ?_ ?_
  · intro hneg
    have hneg' : n < 0 := by simpa using hneg
    have w1 : wr .i64 (0 - n) = Int.ofNat n.natAbs := by
      rw [wr_small (by omega) (by omega)]
      simp only [Int.ofNat_eq_natCast]; omega
    have w2 : wr .u64 (Int.ofNat n.natAbs) = Int.ofNat n.natAbs := wr_u64 (by omega)
    repeat (first | (refine CodeR.seq ?_) | (refine CodeR.reg rfl ?_) | (refine CodeR.regD rfl rfl rfl ?_) | (refine SeqR.done ?_) | (refine CodeR.block ?_) | (refine CodeR.skip ?_) | (refine CodeR.exit ?_; simp only [sA, Ex.then, Ex.inBlock, Nat.reduceEqDiff]) | (first | (refine SeqR.skipN ?_ rfl rfl ?_; (simp only [sA, wantE, T.get_set, Nat.reduceEqDiff, g0, u_neg, w1, w2] <;> with_reducible rfl)) | ((first | refine SeqR.stepN (v := ?_) (s' := ?_) rfl ?_ rfl ?_ rfl rfl ?_ | refine SeqR.stepLN (v := ?_) (s' := ?_) rfl ?_ rfl ?_ rfl rfl ?_); rotate_left 3; (intro call lc; simp only [sA, opE, kindOf, pureE, heapE, rho, rhos, T.get_set, Nat.reduceEqDiff, nb00, absV, absS, l_slice, l_void, l_str, l_arr, natE, loadE, isConst, TK.agg, u_notB, b_eqlB, b_neqB, b_add, b_sub, b_mul, b_lss, b_gtr, b_leq, b_geq, b_eql, b_neq, ty3, i3, si3, ty4, i4, si4, ty169, i169, si169, ty171, i171, si171, ty245, i245, si245, ty283, i283, si283, g0, u_neg, w1, w2] <;> rfl); rotate_left 1; (simp only [sA, wantE, T.get_set, Nat.reduceEqDiff, g0, u_neg, w1, w2] <;> with_reducible rfl))))
    refine SeqR.callN (by first | with_reducible rfl | (simp only [sA, wantE, T.get_set, Nat.reduceEqDiff, u_notB, b_eqlB, b_neqB, b_add, b_sub, b_mul, b_lss, b_gtr, b_leq, b_geq, b_eql, b_neq, ty3, i3, si3, ty4, i4, si4, ty169, i169, si169, ty171, i171, si171, ty245, i245, si245, ty283, i283, si283] <;> with_reducible rfl)) rfl rfl (g := 212) (vs := [.int .u64 (Int.ofNat n.natAbs)]) (by simp only [calleeE, sA, rho, rhos, T.get_set, Nat.reduceEqDiff, u_notB, b_eqlB, b_neqB, b_add, b_sub, b_mul, b_lss, b_gtr, b_leq, b_geq, b_eql, b_neq, ty3, i3, si3, ty4, i4, si4, ty169, i169, si169, ty171, i171, si171, ty245, i245, si245, ty283, i283, si283]; rfl) (by first | rfl | assumption) rfl rfl (fun lc hlc => (of_run (by omega) hF1 (lim_lo hlc (by omega))).mono fun v s2 hp => ?_)
    obtain ⟨p1, p2, p3⟩ := hp
    have m2 := p2.mono
    refine SeqR.step (v := .agg [.bool true, v]) (s' := s2) rfl rfl (fun call lc => op_build171 rfl (by simp only [rho, T.get_set, if_true]) (nv_one p3)) rfl rfl ?_
    refine SeqR.step0 rfl (fun call lc old => op_setW (b := s.c) (cs0 := [.bool false, .slice none 0 0 0]) (cs := [.bool true, v]) (by simp only [rho, T.get_set, Nat.reduceEqDiff, if_true, if_false]) (by simp only [rho, T.get_set, if_true]) (by simp only [ones, nv_one p3]; rfl) si171 (by rw [p2.keep _ (by omega)]; exact hb1) rfl hlo call lc old) rfl ?_
    repeat (first | (refine CodeR.seq ?_) | (refine CodeR.reg rfl ?_) | (refine CodeR.regD rfl rfl rfl ?_) | (refine SeqR.done ?_) | (refine CodeR.block ?_) | (refine CodeR.skip ?_) | (refine CodeR.exit ?_; simp only [sA, Ex.then, Ex.inBlock, Nat.reduceEqDiff]) | (first | (refine SeqR.skipN ?_ rfl rfl ?_; (simp only [sA, wantE, T.get_set, Nat.reduceEqDiff] <;> with_reducible rfl)) | ((first | refine SeqR.stepN (v := ?_) (s' := ?_) rfl ?_ rfl ?_ rfl rfl ?_ | refine SeqR.stepLN (v := ?_) (s' := ?_) rfl ?_ rfl ?_ rfl rfl ?_); rotate_left 3; (intro call lc; simp only [sA, opE, kindOf, pureE, heapE, rho, rhos, T.get_set, Nat.reduceEqDiff, nb00, absV, absS, l_slice, l_void, l_str, l_arr, natE, loadE, isConst, TK.agg, u_notB, b_eqlB, b_neqB, b_add, b_sub, b_mul, b_lss, b_gtr, b_leq, b_geq, b_eql, b_neq, ty3, i3, si3, ty4, i4, si4, ty169, i169, si169, ty171, i171, si171, ty245, i245, si245, ty283, i283, si283] <;> rfl); rotate_left 1; (simp only [sA, wantE, T.get_set, Nat.reduceEqDiff] <;> with_reducible rfl))))
    refine CodeR.ret (fin ?_ p1 p2 p3 (by simp [hneg']))
    simp only [T.get_set, Nat.reduceEqDiff, if_true, if_false]
  · intro hneg
    have hneg' : ¬ n < 0 := by simpa using hneg
    have w2 : wr .u64 n = Int.ofNat n.natAbs := by
      rw [show n = Int.ofNat n.natAbs by simp only [Int.ofNat_eq_natCast]; omega]
      rw [wr_u64 (by omega)]
      rfl
    repeat (first | (refine CodeR.seq ?_) | (refine CodeR.reg rfl ?_) | (refine CodeR.regD rfl rfl rfl ?_) | (refine SeqR.done ?_) | (refine CodeR.block ?_) | (refine CodeR.skip ?_) | (refine CodeR.exit ?_; simp only [sA, Ex.then, Ex.inBlock, Nat.reduceEqDiff]) | (first | (refine SeqR.skipN ?_ rfl rfl ?_; (simp only [sA, wantE, T.get_set, Nat.reduceEqDiff, g0, w2] <;> with_reducible rfl)) | ((first | refine SeqR.stepN (v := ?_) (s' := ?_) rfl ?_ rfl ?_ rfl rfl ?_ | refine SeqR.stepLN (v := ?_) (s' := ?_) rfl ?_ rfl ?_ rfl rfl ?_); rotate_left 3; (intro call lc; simp only [sA, opE, kindOf, pureE, heapE, rho, rhos, T.get_set, Nat.reduceEqDiff, nb00, absV, absS, l_slice, l_void, l_str, l_arr, natE, loadE, isConst, TK.agg, u_notB, b_eqlB, b_neqB, b_add, b_sub, b_mul, b_lss, b_gtr, b_leq, b_geq, b_eql, b_neq, ty3, i3, si3, ty4, i4, si4, ty169, i169, si169, ty171, i171, si171, ty245, i245, si245, ty283, i283, si283, g0, w2] <;> rfl); rotate_left 1; (simp only [sA, wantE, T.get_set, Nat.reduceEqDiff, g0, w2] <;> with_reducible rfl))))
    refine SeqR.callN (by first | with_reducible rfl | (simp only [sA, wantE, T.get_set, Nat.reduceEqDiff, u_notB, b_eqlB, b_neqB, b_add, b_sub, b_mul, b_lss, b_gtr, b_leq, b_geq, b_eql, b_neq, ty3, i3, si3, ty4, i4, si4, ty169, i169, si169, ty171, i171, si171, ty245, i245, si245, ty283, i283, si283] <;> with_reducible rfl)) rfl rfl (g := 212) (vs := [.int .u64 (Int.ofNat n.natAbs)]) (by simp only [calleeE, sA, rho, rhos, T.get_set, Nat.reduceEqDiff, u_notB, b_eqlB, b_neqB, b_add, b_sub, b_mul, b_lss, b_gtr, b_leq, b_geq, b_eql, b_neq, ty3, i3, si3, ty4, i4, si4, ty169, i169, si169, ty171, i171, si171, ty245, i245, si245, ty283, i283, si283]; rfl) (by first | rfl | assumption) rfl rfl (fun lc hlc => (of_run (by omega) hF1 (lim_lo hlc (by omega))).mono fun v s2 hp => ?_)
    obtain ⟨p1, p2, p3⟩ := hp
    have m2 := p2.mono
    refine SeqR.step (v := .agg [.bool false, v]) (s' := s2) rfl rfl (fun call lc => op_build171 rfl (by simp only [rho, T.get_set, if_true]) (nv_one p3)) rfl rfl ?_
    refine SeqR.step0 rfl (fun call lc old => op_setW (b := s.c) (cs0 := [.bool false, .slice none 0 0 0]) (cs := [.bool false, v]) (by simp only [rho, T.get_set, Nat.reduceEqDiff, if_true, if_false]) (by simp only [rho, T.get_set, if_true]) (by simp only [ones, nv_one p3]; rfl) si171 (by rw [p2.keep _ (by omega)]; exact hb1) rfl hlo call lc old) rfl ?_
    repeat (first | (refine CodeR.seq ?_) | (refine CodeR.reg rfl ?_) | (refine CodeR.regD rfl rfl rfl ?_) | (refine SeqR.done ?_) | (refine CodeR.block ?_) | (refine CodeR.skip ?_) | (refine CodeR.exit ?_; simp only [sA, Ex.then, Ex.inBlock, Nat.reduceEqDiff]) | (first | (refine SeqR.skipN ?_ rfl rfl ?_; (simp only [sA, wantE, T.get_set, Nat.reduceEqDiff] <;> with_reducible rfl)) | ((first | refine SeqR.stepN (v := ?_) (s' := ?_) rfl ?_ rfl ?_ rfl rfl ?_ | refine SeqR.stepLN (v := ?_) (s' := ?_) rfl ?_ rfl ?_ rfl rfl ?_); rotate_left 3; (intro call lc; simp only [sA, opE, kindOf, pureE, heapE, rho, rhos, T.get_set, Nat.reduceEqDiff, nb00, absV, absS, l_slice, l_void, l_str, l_arr, natE, loadE, isConst, TK.agg, u_notB, b_eqlB, b_neqB, b_add, b_sub, b_mul, b_lss, b_gtr, b_leq, b_geq, b_eql, b_neq, ty3, i3, si3, ty4, i4, si4, ty169, i169, si169, ty171, i171, si171, ty245, i245, si245, ty283, i283, si283] <;> rfl); rotate_left 1; (simp only [sA, wantE, T.get_set, Nat.reduceEqDiff] <;> with_reducible rfl))))
    refine CodeR.ret (fin ?_ p1 p2 p3 (by simp [hneg']))
    simp only [T.get_set, Nat.reduceEqDiff, if_true, if_false]
theorem ones_pair {h : T Blk} {b : Bool} {d : AV} {n : Nat} (hv : NV h n d) : ones [.bool b, d] = true := by simp only [ones, nv_one hv]; rfl
/-- The state with boxes of two integers. -/
structure TS (s : St) (x y : Bool) (da db : AV) (s1 : St) : Prop where
  fresh : Fresh s1
  kept : Kept s.c s s1
  c : s.c + 2 ≤ s1.c
  b0 : s1.h.get s.c = some ⟨171, [.bool x, da]⟩
  b1 : s1.h.get (s.c + 1) = some ⟨171, [.bool y, db]⟩
theorem ts_new {s : St} (hF : Fresh s) (x y : Bool) (da db : AV) : TS s x y da db ⟨(s.h.set s.c ⟨171, [.bool x, da]⟩).set (s.c + 1) ⟨171, [.bool y, db]⟩, s.c + 1 + 1⟩ :=
  ⟨fresh_new (fresh_new hF _) _, kept_new (kept_new (Kept.refl s.c s) (Nat.le_refl _) _) (by simp) _, by simp, by simp only; rw [T.get_set, if_neg (by omega), T.get_set, if_pos rfl], by simp only; rw [T.get_set, if_pos rfl]⟩
theorem equal_run {lo n : Nat} {a b : Int} {va vb : AV} {s : St} (ha : IV s.h a va) (hb : IV s.h b vb) (hF : Fresh s) (hlo : lo ≤ s.c) (hn : n ≤ 100000) (h1 : a.natAbs < 4294967296 ^ n) :
    FunR E lo 107 [va, vb] s fun v s' => Fresh s' ∧ Kept s.c s s' ∧ v = .bool (decide (a = b)) := by
  obtain ⟨da, rfl, hda⟩ := ha
  obtain ⟨db, rfl, hdb⟩ := hb
  refine FunR.body (fn := Tryz.f107) fn107' rfl ?_
  have hn : (max ([.agg [.bool (decide (a < 0)), da], .agg [.bool (decide (b < 0)), db]] : List AV).length Tryz.f107.ntmps) = 18 := rfl
  generalize max ([.agg [.bool (decide (a < 0)), da], .agg [.bool (decide (b < 0)), db]] : List AV).length Tryz.f107.ntmps = n at hn
  subst hn
  have g0 : (argsT 0 ([.agg [.bool (decide (a < 0)), da], .agg [.bool (decide (b < 0)), db]] : List AV)).get 0 = some (.agg [.bool (decide (a < 0)), da]) := rfl
  have g1 : (argsT 0 ([.agg [.bool (decide (a < 0)), da], .agg [.bool (decide (b < 0)), db]] : List AV)).get 1 = some (.agg [.bool (decide (b < 0)), db]) := rfl
  generalize argsT 0 ([.agg [.bool (decide (a < 0)), da], .agg [.bool (decide (b < 0)), db]] : List AV) = T0 at g0 g1 ⊢
  have hn : (18 : Nat) = 18 := rfl
  refine CodeR.seq (CodeR.reg rfl ?_)
  refine SeqR.stepN rfl rfl rfl (fun call lc => op_box (v := .agg [.bool (decide (a < 0)), da]) (cs := [.bool (decide (a < 0)), da]) (by simp only [rho]; exact g0) rfl (ones_pair hda) call lc _) rfl rfl ?_
  refine SeqR.stepN rfl rfl rfl (fun call lc => op_box (v := .agg [.bool (decide (b < 0)), db]) (cs := [.bool (decide (b < 0)), db]) (by simp only [rho, T.get_set, Nat.reduceEqDiff, if_false]; exact g1) rfl (ones_pair hdb) call lc _) rfl rfl ?_
  have hS := ts_new hF (decide (a < 0)) (decide (b < 0)) da db
  simp only
  generalize (⟨(s.h.set s.c ⟨171, [.bool (decide (a < 0)), da]⟩).set (s.c + 1) ⟨171, [.bool (decide (b < 0)), db]⟩, s.c + 1 + 1⟩ : St) = s1 at hS ⊢
  have hb0 := hS.b0
  have hb1 := hS.b1
  have hcc := hS.c
  have e2 : Nat.blt s.c s1.c = true := blt_iff.2 (by omega)
  have e3 : Nat.blt (s.c + 1) s1.c = true := blt_iff.2 (by omega)
  have hda1 := hda.keep hF.lt hS.kept
  have hdb1 := hdb.keep hF.lt hS.kept
  by_cases hab : decide (a < 0) = decide (b < 0)
  · have e4 : (decide (a < 0) == decide (b < 0)) = true := by rw [hab]; simp
    repeat (first | (refine CodeR.seq ?_) | (refine CodeR.reg rfl ?_) | (refine CodeR.regD rfl rfl rfl ?_) | (refine SeqR.done ?_) | (refine CodeR.block ?_) | (refine CodeR.skip ?_) | (refine CodeR.exit ?_; simp only [sA, Ex.then, Ex.inBlock, Nat.reduceEqDiff]) | (first | (refine SeqR.skipN ?_ rfl rfl ?_; (simp only [sA, wantE, T.get_set, Nat.reduceEqDiff, hb0, hb1, e2, e3, e4] <;> with_reducible rfl)) | ((first | refine SeqR.stepN (v := ?_) (s' := ?_) rfl ?_ rfl ?_ rfl rfl ?_ | refine SeqR.stepLN (v := ?_) (s' := ?_) rfl ?_ rfl ?_ rfl rfl ?_); rotate_left 3; (intro call lc; simp only [sA, opE, kindOf, pureE, heapE, rho, rhos, T.get_set, Nat.reduceEqDiff, nb00, absV, absS, l_slice, l_void, l_str, l_arr, natE, loadE, isConst, TK.agg, u_notB, b_eqlB, b_neqB, b_add, b_sub, b_mul, b_lss, b_gtr, b_leq, b_geq, b_eql, b_neq, ty4, i4, si4, ty169, i169, si169, ty171, i171, si171, ty245, i245, si245, hb0, hb1, e2, e3, e4] <;> rfl); rotate_left 1; (simp only [sA, wantE, T.get_set, Nat.reduceEqDiff, hb0, hb1, e2, e3, e4] <;> with_reducible rfl))))
    obtain ⟨xs, ra, sa, ta, va⟩ := hda1
    obtain ⟨ys, rb, sb, tb, vb⟩ := hdb1
    refine SeqR.callN (by first | with_reducible rfl | (simp only [sA, wantE, T.get_set, Nat.reduceEqDiff, u_notB, b_eqlB, b_neqB, b_add, b_sub, b_mul, b_lss, b_gtr, b_leq, b_geq, b_eql, b_neq, ty4, i4, si4, ty169, i169, si169, ty171, i171, si171, ty245, i245, si245] <;> with_reducible rfl)) rfl rfl (g := 128) (vs := [da, db]) (by simp only [calleeE, sA, rho, rhos, T.get_set, Nat.reduceEqDiff, u_notB, b_eqlB, b_neqB, b_add, b_sub, b_mul, b_lss, b_gtr, b_leq, b_geq, b_eql, b_neq, ty4, i4, si4, ty169, i169, si169, ty171, i171, si171, ty245, i245, si245]; rfl) (by first | rfl | assumption) rfl rfl (fun lc hlc => (order_run ra rb hS.fresh (by have := nv_len ta (n := n) (by rw [va]; exact h1); omega)).mono fun v s2 hp => ?_)
    obtain ⟨rfl, rfl⟩ := hp
    have e5 : eqB (aboveL xs ys) 0 = decide (a = b) := by
      rw [eqB_eq]
      rcases aboveL_g (B := 4294967296) (by omega) sa sb ta tb with ⟨g1, g2⟩ | ⟨g1, g2⟩ | ⟨g1, g2⟩
      · rw [g1, Bool.eq_iff_iff]; simp only [beq_iff_eq, decide_eq_true_eq]; omega
      · rw [g1, Bool.eq_iff_iff]; simp only [beq_iff_eq, decide_eq_true_eq]; omega
      · rw [g1, Bool.eq_iff_iff]
        simp only [beq_iff_eq, decide_eq_true_eq, true_iff]
        have : (a < 0) ↔ (b < 0) := by simpa using hab
        omega
    repeat (first | (refine CodeR.seq ?_) | (refine CodeR.reg rfl ?_) | (refine CodeR.regD rfl rfl rfl ?_) | (refine SeqR.done ?_) | (refine CodeR.block ?_) | (refine CodeR.skip ?_) | (refine CodeR.exit ?_; simp only [sA, Ex.then, Ex.inBlock, Nat.reduceEqDiff]) | (first | (refine SeqR.skipN ?_ rfl rfl ?_; (simp only [sA, wantE, T.get_set, Nat.reduceEqDiff, e4, e5] <;> with_reducible rfl)) | ((first | refine SeqR.stepN (v := ?_) (s' := ?_) rfl ?_ rfl ?_ rfl rfl ?_ | refine SeqR.stepLN (v := ?_) (s' := ?_) rfl ?_ rfl ?_ rfl rfl ?_); rotate_left 3; (intro call lc; simp only [sA, opE, kindOf, pureE, heapE, rho, rhos, T.get_set, Nat.reduceEqDiff, nb00, absV, absS, l_slice, l_void, l_str, l_arr, natE, loadE, isConst, TK.agg, u_notB, b_eqlB, b_neqB, b_add, b_sub, b_mul, b_lss, b_gtr, b_leq, b_geq, b_eql, b_neq, ty4, i4, si4, ty169, i169, si169, ty171, i171, si171, ty245, i245, si245, e4, e5] <;> rfl); rotate_left 1; (simp only [sA, wantE, T.get_set, Nat.reduceEqDiff, e4, e5] <;> with_reducible rfl))))
    refine CodeR.ret ⟨.inr rfl, [.bool (decide (a = b))], by (show ressE E _ _ [.tmp 4] = _; simp only [sA, ressE, resE, T.get_set, Nat.reduceEqDiff, u_notB, b_eqlB, b_neqB, b_add, b_sub, b_mul, b_lss, b_gtr, b_leq, b_geq, b_eql, b_neq, ty4, i4, si4, ty169, i169, si169, ty171, i171, si171, ty245, i245, si245]), ?_⟩
    exact ⟨hS.fresh, hS.kept, rfl⟩
  · have e4 : (decide (a < 0) == decide (b < 0)) = false := by simpa using hab
    repeat (first | (refine CodeR.seq ?_) | (refine CodeR.reg rfl ?_) | (refine CodeR.regD rfl rfl rfl ?_) | (refine SeqR.done ?_) | (refine CodeR.block ?_) | (refine CodeR.skip ?_) | (refine CodeR.exit ?_; simp only [sA, Ex.then, Ex.inBlock, Nat.reduceEqDiff]) | (first | (refine SeqR.skipN ?_ rfl rfl ?_; (simp only [sA, wantE, T.get_set, Nat.reduceEqDiff, hb0, hb1, e2, e3, e4] <;> with_reducible rfl)) | ((first | refine SeqR.stepN (v := ?_) (s' := ?_) rfl ?_ rfl ?_ rfl rfl ?_ | refine SeqR.stepLN (v := ?_) (s' := ?_) rfl ?_ rfl ?_ rfl rfl ?_); rotate_left 3; (intro call lc; simp only [sA, opE, kindOf, pureE, heapE, rho, rhos, T.get_set, Nat.reduceEqDiff, nb00, absV, absS, l_slice, l_void, l_str, l_arr, natE, loadE, isConst, TK.agg, u_notB, b_eqlB, b_neqB, b_add, b_sub, b_mul, b_lss, b_gtr, b_leq, b_geq, b_eql, b_neq, ty4, i4, si4, ty169, i169, si169, ty171, i171, si171, ty245, i245, si245, hb0, hb1, e2, e3, e4] <;> rfl); rotate_left 1; (simp only [sA, wantE, T.get_set, Nat.reduceEqDiff, hb0, hb1, e2, e3, e4] <;> with_reducible rfl))))
    refine CodeR.ret ⟨.inr rfl, [.bool false], by (show ressE E _ _ [.tmp 4] = _; simp only [sA, ressE, resE, T.get_set, Nat.reduceEqDiff, u_notB, b_eqlB, b_neqB, b_add, b_sub, b_mul, b_lss, b_gtr, b_leq, b_geq, b_eql, b_neq, ty4, i4, si4, ty169, i169, si169, ty171, i171, si171, ty245, i245, si245]), ?_⟩
    refine ⟨hS.fresh, hS.kept, ?_⟩
    have : ¬ a = b := fun e => hab (by rw [e])
    simp [oneOf, this]
/-- The state with a box for the result, too. -/
structure RS (s : St) (x y : Bool) (da db : AV) (s1 : St) : Prop where
  fresh : Fresh s1
  kept : Kept s.c s s1
  c : s1.c = s.c + 3
  b0 : s1.h.get s.c = some ⟨171, [.bool x, da]⟩
  b1 : s1.h.get (s.c + 1) = some ⟨171, [.bool y, db]⟩
  b2 : s1.h.get (s.c + 1 + 1) = some ⟨171, [.bool false, .slice none 0 0 0]⟩
theorem rs_new {s : St} (hF : Fresh s) (x y : Bool) (da db : AV) : RS s x y da db ⟨((s.h.set s.c ⟨171, [.bool x, da]⟩).set (s.c + 1) ⟨171, [.bool y, db]⟩).set (s.c + 1 + 1) ⟨171, [.bool false, .slice none 0 0 0]⟩, s.c + 1 + 1 + 1⟩ :=
  ⟨fresh_new (fresh_new (fresh_new hF _) _) _, kept_new (kept_new (kept_new (Kept.refl s.c s) (Nat.le_refl _) _) (by simp) _) (by simp only; omega) _, rfl, by simp only; rw [T.get_set, if_neg (by omega), T.get_set, if_neg (by omega), T.get_set, if_pos rfl], by simp only; rw [T.get_set, if_neg (by omega), T.get_set, if_pos rfl], by simp only; rw [T.get_set, if_pos rfl]⟩
theorem rs_fin {s s1 s2 : St} {x y : Bool} {da db : AV} (hS : RS s x y da db s1) (p1 : Fresh s2) (p2 : Kept s1.c s1 s2) {z : Int} {v : AV} (p3 : NV s2.h z.natAbs v) {b : Bool} (hb : b = decide (z < 0)) {T1 : T AV} (t4 : T1.get 4 = some (.ptr (some (s.c + 1 + 1, 0)))) {rs : List ResultVar} (hr : rs = [.cell 4 171]) :
    (Ex.ret = .nrm ∨ Ex.ret = .ret) ∧ ∃ us, ressE E T1 ⟨s2.h.set (s.c + 1 + 1) ⟨171, [.bool b, v]⟩, s2.c⟩ rs = some us ∧ (Fresh ⟨s2.h.set (s.c + 1 + 1) ⟨171, [.bool b, v]⟩, s2.c⟩ ∧ Kept s.c s ⟨s2.h.set (s.c + 1 + 1) ⟨171, [.bool b, v]⟩, s2.c⟩ ∧ IV (s2.h.set (s.c + 1 + 1) ⟨171, [.bool b, v]⟩) z (oneOf us)) := by
  have m2 := p2.mono
  have hc := hS.c
  have hg : s2.h.get (s.c + 1 + 1) = some ⟨171, [.bool false, .slice none 0 0 0]⟩ := by rw [p2.keep _ (by omega)]; exact hS.b2
  refine ⟨.inr rfl, [.agg [.bool b, v]], ?_, fresh_set p1 (by omega), kept_set (hS.kept.trans (p2.le (by omega))) (by omega), v, by rw [hb]; rfl, nv_other p3 hg zero171⟩
  subst hr
  simp only [ressE, resE, t4, Option.bind_some]
  rw [load_box (z := 0) (s := ⟨s2.h.set (s.c + 1 + 1) ⟨171, [.bool b, v]⟩, s2.c⟩) ty171 rfl rfl (by simp only [T.get_set, if_true]; rfl)]
  rfl
theorem nv_lenE {h : T Blk} {n : Nat} {v : AV} (hv : NV h n v) (e : Nat) : ∃ l, lenE (.slice e) v = some l ∧ (l = 0 ↔ n = 0) := by
  obtain ⟨xs, h1, h2, h3, h4⟩ := hv
  refine ⟨xs.length, lenN h1 e, ?_⟩
  rw [← h4, gval_nil (by omega) h3]
  exact List.length_eq_zero_iff
theorem times_run {lo n : Nat} {a b : Int} {va vb : AV} {s : St} (ha : IV s.h a va) (hb : IV s.h b vb) (hF : Fresh s) (hlo : lo ≤ s.c) (hnn : n ≤ 100000) (h1 : a.natAbs < 4294967296 ^ n) (h2 : b.natAbs < 4294967296 ^ n) :
    FunR E lo 116 [va, vb] s fun v s' => Fresh s' ∧ Kept s.c s s' ∧ IV s'.h (a * b) v := by
  obtain ⟨da, rfl, hda⟩ := ha
  obtain ⟨db, rfl, hdb⟩ := hb
  refine FunR.body (fn := Tryz.f116) fn116' rfl ?_
  have hn : (max ([.agg [.bool (decide (a < 0)), da], .agg [.bool (decide (b < 0)), db]] : List AV).length Tryz.f116.ntmps) = 23 := rfl
  generalize max ([.agg [.bool (decide (a < 0)), da], .agg [.bool (decide (b < 0)), db]] : List AV).length Tryz.f116.ntmps = n at hn
  subst hn
  have g0 : (argsT 0 ([.agg [.bool (decide (a < 0)), da], .agg [.bool (decide (b < 0)), db]] : List AV)).get 0 = some (.agg [.bool (decide (a < 0)), da]) := rfl
  have g1 : (argsT 0 ([.agg [.bool (decide (a < 0)), da], .agg [.bool (decide (b < 0)), db]] : List AV)).get 1 = some (.agg [.bool (decide (b < 0)), db]) := rfl
  generalize argsT 0 ([.agg [.bool (decide (a < 0)), da], .agg [.bool (decide (b < 0)), db]] : List AV) = T0 at g0 g1 ⊢
  have hn : (23 : Nat) = 23 := rfl
  refine CodeR.seq (CodeR.reg rfl ?_)
  refine SeqR.stepN rfl rfl rfl (fun call lc => op_box (v := .agg [.bool (decide (a < 0)), da]) (cs := [.bool (decide (a < 0)), da]) (by simp only [rho]; exact g0) rfl (ones_pair hda) call lc _) rfl rfl ?_
  refine SeqR.stepN rfl rfl rfl (fun call lc => op_box (v := .agg [.bool (decide (b < 0)), db]) (cs := [.bool (decide (b < 0)), db]) (by simp only [rho, T.get_set, Nat.reduceEqDiff, if_false]; exact g1) rfl (ones_pair hdb) call lc _) rfl rfl ?_
  refine SeqR.stepN rfl rfl rfl (fun call lc => op_alloc (cs := [.bool false, .slice none 0 0 0]) ty171 rfl rfl call lc _) rfl rfl ?_
  have hS := rs_new hF (decide (a < 0)) (decide (b < 0)) da db
  simp only
  generalize (⟨((s.h.set s.c ⟨171, [.bool (decide (a < 0)), da]⟩).set (s.c + 1) ⟨171, [.bool (decide (b < 0)), db]⟩).set (s.c + 1 + 1) ⟨171, [.bool false, .slice none 0 0 0]⟩, s.c + 1 + 1 + 1⟩ : St) = s1 at hS ⊢
  have hb0 := hS.b0
  have hb1 := hS.b1
  have hcc := hS.c
  have e2 : Nat.blt s.c s1.c = true := blt_iff.2 (by omega)
  have e3 : Nat.blt (s.c + 1) s1.c = true := blt_iff.2 (by omega)
  have hda1 := hda.keep hF.lt hS.kept
  have hdb1 := hdb.keep hF.lt hS.kept
  repeat (first | (refine CodeR.seq ?_) | (refine CodeR.reg rfl ?_) | (refine CodeR.regD rfl rfl rfl ?_) | (refine SeqR.done ?_) | (refine CodeR.block ?_) | (refine CodeR.skip ?_) | (refine CodeR.exit ?_; simp only [sA, Ex.then, Ex.inBlock, Nat.reduceEqDiff]) | (first | (refine SeqR.skipN ?_ rfl rfl ?_; (simp only [sA, wantE, T.get_set, Nat.reduceEqDiff, hb0, hb1, e2, e3] <;> with_reducible rfl)) | ((first | refine SeqR.stepN (v := ?_) (s' := ?_) rfl ?_ rfl ?_ rfl rfl ?_ | refine SeqR.stepLN (v := ?_) (s' := ?_) rfl ?_ rfl ?_ rfl rfl ?_); rotate_left 3; (intro call lc; simp only [sA, opE, kindOf, pureE, heapE, rho, rhos, T.get_set, Nat.reduceEqDiff, nb00, absV, absS, l_slice, l_void, l_str, l_arr, natE, loadE, isConst, TK.agg, u_notB, b_eqlB, b_neqB, b_add, b_sub, b_mul, b_lss, b_gtr, b_leq, b_geq, b_eql, b_neq, ty4, i4, si4, ty169, i169, si169, ty171, i171, si171, ty245, i245, si245, hb0, hb1, e2, e3] <;> rfl); rotate_left 1; (simp only [sA, wantE, T.get_set, Nat.reduceEqDiff, hb0, hb1, e2, e3] <;> with_reducible rfl))))
  refine SeqR.callN (by first | with_reducible rfl | (simp only [sA, wantE, T.get_set, Nat.reduceEqDiff, u_notB, b_eqlB, b_neqB, b_add, b_sub, b_mul, b_lss, b_gtr, b_leq, b_geq, b_eql, b_neq, ty4, i4, si4, ty169, i169, si169, ty171, i171, si171, ty245, i245, si245] <;> with_reducible rfl)) rfl rfl (g := 217) (vs := [da, db]) (by simp only [calleeE, sA, rho, rhos, T.get_set, Nat.reduceEqDiff, u_notB, b_eqlB, b_neqB, b_add, b_sub, b_mul, b_lss, b_gtr, b_leq, b_geq, b_eql, b_neq, ty4, i4, si4, ty169, i169, si169, ty171, i171, si171, ty245, i245, si245]; rfl) (by first | rfl | assumption) rfl rfl (fun lc hlc => (product_run hda1 hdb1 hS.fresh (lim_lo hlc (by omega)) hnn h1 h2).mono fun v s2 hp => ?_)
  obtain ⟨p1, p2, p3⟩ := hp
  have m2 := p2.mono
  have hc0 : s2.h.get s.c = some ⟨171, [.bool (decide (a < 0)), da]⟩ := by rw [p2.keep _ (by omega)]; exact hb0
  have hc1 : s2.h.get (s.c + 1) = some ⟨171, [.bool (decide (b < 0)), db]⟩ := by rw [p2.keep _ (by omega)]; exact hb1
  have hc2 : s2.h.get (s.c + 1 + 1) = some ⟨171, [.bool false, .slice none 0 0 0]⟩ := by rw [p2.keep _ (by omega)]; exact hS.b2
  have e6 : Nat.blt s.c s2.c = true := blt_iff.2 (by omega)
  have e7 : Nat.blt (s.c + 1) s2.c = true := blt_iff.2 (by omega)
  obtain ⟨l, hl, hl0⟩ := nv_lenE p3 245
  rw [← Int.natAbs_mul] at p3 hl0
  by_cases hz : l = 0
  · have e8 : ltB 0 (Int.ofNat l) = false := by rw [hz]; rfl
    have hab : a * b = 0 := by omega
    repeat (first | (refine CodeR.seq ?_) | (refine CodeR.reg rfl ?_) | (refine CodeR.regD rfl rfl rfl ?_) | (refine SeqR.done ?_) | (refine CodeR.block ?_) | (refine CodeR.skip ?_) | (refine CodeR.exit ?_; simp only [sA, Ex.then, Ex.inBlock, Nat.reduceEqDiff]) | (first | (refine SeqR.skipN ?_ rfl rfl ?_; (simp only [sA, wantE, T.get_set, Nat.reduceEqDiff, hl, e8, hc0, hc1, e6, e7] <;> with_reducible rfl)) | ((first | refine SeqR.stepN (v := ?_) (s' := ?_) rfl ?_ rfl ?_ rfl rfl ?_ | refine SeqR.stepLN (v := ?_) (s' := ?_) rfl ?_ rfl ?_ rfl rfl ?_); rotate_left 3; (intro call lc; simp only [sA, opE, kindOf, pureE, heapE, rho, rhos, T.get_set, Nat.reduceEqDiff, nb00, absV, absS, l_slice, l_void, l_str, l_arr, natE, loadE, isConst, TK.agg, u_notB, b_eqlB, b_neqB, b_add, b_sub, b_mul, b_lss, b_gtr, b_leq, b_geq, b_eql, b_neq, ty4, i4, si4, ty169, i169, si169, ty171, i171, si171, ty245, i245, si245, hl, e8, hc0, hc1, e6, e7] <;> rfl); rotate_left 1; (simp only [sA, wantE, T.get_set, Nat.reduceEqDiff, hl, e8, hc0, hc1, e6, e7] <;> with_reducible rfl))))
    refine SeqR.step (v := .agg [.bool false, v]) (s' := s2) rfl rfl (fun call lc => op_build171 (by simp only [rho, T.get_set, Nat.reduceEqDiff, if_true, if_false]) (by simp only [rho, T.get_set, Nat.reduceEqDiff, if_true, if_false]) (nv_one p3)) rfl rfl ?_
    refine SeqR.step0 rfl (fun call lc old => op_setW (b := s.c + 1 + 1) (cs0 := [.bool false, .slice none 0 0 0]) (cs := [.bool false, v]) (by simp only [rho, T.get_set, Nat.reduceEqDiff, if_true, if_false]) (by simp only [rho, T.get_set, if_true]) (ones_pair p3) si171 hc2 rfl (by omega) call lc old) rfl ?_
    repeat (first | (refine CodeR.seq ?_) | (refine CodeR.reg rfl ?_) | (refine CodeR.regD rfl rfl rfl ?_) | (refine SeqR.done ?_) | (refine CodeR.block ?_) | (refine CodeR.skip ?_) | (refine CodeR.exit ?_; simp only [sA, Ex.then, Ex.inBlock, Nat.reduceEqDiff]) | (first | (refine SeqR.skipN ?_ rfl rfl ?_; (simp only [sA, wantE, T.get_set, Nat.reduceEqDiff] <;> with_reducible rfl)) | ((first | refine SeqR.stepN (v := ?_) (s' := ?_) rfl ?_ rfl ?_ rfl rfl ?_ | refine SeqR.stepLN (v := ?_) (s' := ?_) rfl ?_ rfl ?_ rfl rfl ?_); rotate_left 3; (intro call lc; simp only [sA, opE, kindOf, pureE, heapE, rho, rhos, T.get_set, Nat.reduceEqDiff, nb00, absV, absS, l_slice, l_void, l_str, l_arr, natE, loadE, isConst, TK.agg, u_notB, b_eqlB, b_neqB, b_add, b_sub, b_mul, b_lss, b_gtr, b_leq, b_geq, b_eql, b_neq, ty4, i4, si4, ty169, i169, si169, ty171, i171, si171, ty245, i245, si245] <;> rfl); rotate_left 1; (simp only [sA, wantE, T.get_set, Nat.reduceEqDiff] <;> with_reducible rfl))))
    refine CodeR.ret (rs_fin hS p1 p2 (z := a * b) p3 (by rw [hab]; rfl) ?_ rfl)
    simp only [T.get_set, Nat.reduceEqDiff, if_true, if_false]
  · have e8 : ltB 0 (Int.ofNat l) = true := by rw [show (0 : Int) = Int.ofNat 0 from rfl, ltB_nat]; simp; omega
    have hab : a * b ≠ 0 := by omega
    have ha0 : a ≠ 0 := fun e => hab (by rw [e, Int.zero_mul])
    have hb0' : b ≠ 0 := fun e => hab (by rw [e, Int.mul_zero])
    have hsg : (decide (a < 0) != decide (b < 0)) = decide (a * b < 0) := by
      rw [Bool.eq_iff_iff]
      simp only [bne_iff_ne, ne_eq, decide_eq_decide, decide_eq_true_eq]
      rcases Int.lt_or_gt_of_ne ha0 with g | g <;> rcases Int.lt_or_gt_of_ne hb0' with g' | g'
      · have := Int.mul_pos_of_neg_of_neg g g'; omega
      · have := Int.mul_neg_of_neg_of_pos g g'; omega
      · have := Int.mul_neg_of_pos_of_neg g g'; omega
      · have := Int.mul_pos g g'; omega
    repeat (first | (refine CodeR.seq ?_) | (refine CodeR.reg rfl ?_) | (refine CodeR.regD rfl rfl rfl ?_) | (refine SeqR.done ?_) | (refine CodeR.block ?_) | (refine CodeR.skip ?_) | (refine CodeR.exit ?_; simp only [sA, Ex.then, Ex.inBlock, Nat.reduceEqDiff]) | (first | (refine SeqR.skipN ?_ rfl rfl ?_; (simp only [sA, wantE, T.get_set, Nat.reduceEqDiff, hl, e8, hc0, hc1, e6, e7] <;> with_reducible rfl)) | ((first | refine SeqR.stepN (v := ?_) (s' := ?_) rfl ?_ rfl ?_ rfl rfl ?_ | refine SeqR.stepLN (v := ?_) (s' := ?_) rfl ?_ rfl ?_ rfl rfl ?_); rotate_left 3; (intro call lc; simp only [sA, opE, kindOf, pureE, heapE, rho, rhos, T.get_set, Nat.reduceEqDiff, nb00, absV, absS, l_slice, l_void, l_str, l_arr, natE, loadE, isConst, TK.agg, u_notB, b_eqlB, b_neqB, b_add, b_sub, b_mul, b_lss, b_gtr, b_leq, b_geq, b_eql, b_neq, ty4, i4, si4, ty169, i169, si169, ty171, i171, si171, ty245, i245, si245, hl, e8, hc0, hc1, e6, e7] <;> rfl); rotate_left 1; (simp only [sA, wantE, T.get_set, Nat.reduceEqDiff, hl, e8, hc0, hc1, e6, e7] <;> with_reducible rfl))))
    refine SeqR.step (v := .agg [.bool (decide (a < 0) != decide (b < 0)), v]) (s' := s2) rfl rfl (fun call lc => op_build171 (by simp only [rho, T.get_set, Nat.reduceEqDiff, if_true, if_false]) (by simp only [rho, T.get_set, Nat.reduceEqDiff, if_true, if_false]) (nv_one p3)) rfl rfl ?_
    refine SeqR.step0 rfl (fun call lc old => op_setW (b := s.c + 1 + 1) (cs0 := [.bool false, .slice none 0 0 0]) (cs := [.bool (decide (a < 0) != decide (b < 0)), v]) (by simp only [rho, T.get_set, Nat.reduceEqDiff, if_true, if_false]) (by simp only [rho, T.get_set, if_true]) (ones_pair p3) si171 hc2 rfl (by omega) call lc old) rfl ?_
    repeat (first | (refine CodeR.seq ?_) | (refine CodeR.reg rfl ?_) | (refine CodeR.regD rfl rfl rfl ?_) | (refine SeqR.done ?_) | (refine CodeR.block ?_) | (refine CodeR.skip ?_) | (refine CodeR.exit ?_; simp only [sA, Ex.then, Ex.inBlock, Nat.reduceEqDiff]) | (first | (refine SeqR.skipN ?_ rfl rfl ?_; (simp only [sA, wantE, T.get_set, Nat.reduceEqDiff] <;> with_reducible rfl)) | ((first | refine SeqR.stepN (v := ?_) (s' := ?_) rfl ?_ rfl ?_ rfl rfl ?_ | refine SeqR.stepLN (v := ?_) (s' := ?_) rfl ?_ rfl ?_ rfl rfl ?_); rotate_left 3; (intro call lc; simp only [sA, opE, kindOf, pureE, heapE, rho, rhos, T.get_set, Nat.reduceEqDiff, nb00, absV, absS, l_slice, l_void, l_str, l_arr, natE, loadE, isConst, TK.agg, u_notB, b_eqlB, b_neqB, b_add, b_sub, b_mul, b_lss, b_gtr, b_leq, b_geq, b_eql, b_neq, ty4, i4, si4, ty169, i169, si169, ty171, i171, si171, ty245, i245, si245] <;> rfl); rotate_left 1; (simp only [sA, wantE, T.get_set, Nat.reduceEqDiff] <;> with_reducible rfl))))
    refine CodeR.ret (rs_fin hS p1 p2 (z := a * b) p3 hsg ?_ rfl)
    simp only [T.get_set, Nat.reduceEqDiff, if_true, if_false]
end Go.Proofs.YtaocoplfdhcoaaaGreatDoor.EvA

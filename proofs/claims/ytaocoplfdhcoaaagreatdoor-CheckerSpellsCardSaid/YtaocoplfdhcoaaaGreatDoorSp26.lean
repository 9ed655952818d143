/- slices.IndexFunc and ContainsFunc at rows of integers, run; what lies within the limit. -/
import Derived.Test.YtaocoplfdhcoaaaGreatDoorSp22
import Derived.Test.YtaocoplfdhcoaaaGreatDoorSp25
set_option linter.unusedVariables false
set_option linter.unusedSimpArgs false
set_option maxRecDepth 20000
set_option maxHeartbeats 2000000
namespace Go.Proofs.YtaocoplfdhcoaaaGreatDoor.EvA
open Go Go.RowKit Go.Proofs.YtaocoplfdhcoaaaGreatDoor.Ev
/-- The index of the first element with p, or -1; n: what stands ahead. -/
def idxL {α : Type} (p : α → Bool) (n : Nat) : List α → Int
  | [] => -1
  | x :: xs => if p x then Int.ofNat n else idxL p (n + 1) xs
theorem idx_any {α : Type} (p : α → Bool) : ∀ (n : Nat) (xs : List α), (!ltB (idxL p n xs) 0) = xs.any p
  | n, [] => rfl
  | n, x :: xs => by
    rw [idxL, List.any_cons]
    cases p x with
    | true => simp [ltB_eq]
    | false => simp only [Bool.false_eq_true, if_false, Bool.false_or]; exact idx_any p _ _
theorem drop_at {α : Type} {xs : List α} {i : Nat} (h : i < xs.length) (d : α) : xs.drop i = xs.getD i d :: xs.drop (i + 1) := by
  rw [List.drop_eq_getElem_cons h, List.getD_eq_getElem?_getD, List.getElem?_eq_getElem h]; rfl
theorem fn210' : E.fns.get 210 = some Tryz.f210 := by kernel_rfl
theorem fn95' : E.fns.get 95 = some Tryz.f95 := by kernel_rfl
theorem index_run {lo g : Nat} {d : AV} {xs : List Int} {s : St} {p : Int → Bool} (hd : RZ s.h xs d) (hF : Fresh s) (hx : xs.length ≤ 1000000) (hg : E.ext.get g = none) (hp : ∀ lc z, FunR E lc g [.int .i64 z] s fun v s' => s = s' ∧ v = .bool (p z)) :
    FunR E lo 210 [d, .fn g []] s fun v s' => s = s' ∧ v = .int .i64 (idxL p 0 xs) := by
  refine FunR.body (fn := Tryz.f210) fn210' rfl ?_
  have hn : (max ([d, .fn g []] : List AV).length Tryz.f210.ntmps) = 19 := rfl
  generalize max ([d, .fn g []] : List AV).length Tryz.f210.ntmps = n at hn
  subst hn
  have g0 : (argsT 0 ([d, .fn g []] : List AV)).get 0 = some (d) := rfl
  have g1 : (argsT 0 ([d, .fn g []] : List AV)).get 1 = some (.fn g []) := rfl
  generalize argsT 0 ([d, .fn g []] : List AV) = T0 at g0 g1 ⊢
  have hn : (19 : Nat) = 19 := rfl
  have ld := lenZ hd 3
  repeat (first | (refine CodeR.seq ?_) | (refine CodeR.reg rfl ?_) | (refine CodeR.regD rfl rfl rfl ?_) | (refine SeqR.done ?_) | (refine CodeR.block ?_) | (refine CodeR.skip ?_) | (refine CodeR.exit ?_; simp only [sA, Ex.then, Ex.inBlock, Nat.reduceEqDiff]) | (first | (refine SeqR.skipN ?_ rfl rfl ?_; (simp only [sA, wantE, T.get_set, Nat.reduceEqDiff, g0, ld] <;> with_reducible rfl)) | ((first | refine SeqR.stepN (v := ?_) (s' := ?_) rfl ?_ rfl ?_ rfl rfl ?_ | refine SeqR.stepLN (v := ?_) (s' := ?_) rfl ?_ rfl ?_ rfl rfl ?_); rotate_left 3; (intro call lc; simp only [sA, opE, kindOf, pureE, heapE, rho, rhos, T.get_set, Nat.reduceEqDiff, nb00, absV, absS, l_slice, l_void, l_str, l_arr, natE, loadE, isConst, TK.agg, u_notB, b_eqlB, b_neqB, b_add, b_sub, b_mul, b_lss, b_gtr, b_leq, b_geq, b_eql, b_neq, ty3, i3, si3, ty25, i25, si25, g0, ld] <;> rfl); rotate_left 1; (simp only [sA, wantE, T.get_set, Nat.reduceEqDiff, g0, ld] <;> with_reducible rfl))))
  refine CodeR.loop (fun k m s1 => s = s1 ∧ ∃ i T1, m = ⟨19, T1⟩ ∧ i + k = xs.length ∧ T1.get 0 = some d ∧ T1.get 1 = some (.fn g []) ∧ T1.get 7 = some (.int .i64 (Int.ofNat xs.length)) ∧ T1.get 8 = some (.int .i64 (Int.ofNat i)) ∧ idxL p 0 xs = idxL p i (xs.drop i)) xs.length ?_ ?_
  · refine ⟨rfl, 0, _, rfl, by omega, ?_, ?_, ?_, ?_, rfl⟩
    simp only [T.get_set, Nat.reduceEqDiff, if_true, if_false, g0]
    simp only [T.get_set, Nat.reduceEqDiff, if_true, if_false, g1]
    simp only [T.get_set, Nat.reduceEqDiff, if_true, if_false]
    simp only [T.get_set, Nat.reduceEqDiff, if_true, if_false]
    · rfl
  · rintro k m s1 ⟨rfl, i, T1, rfl, hik, h0, h1, h7, h8, hf⟩
    repeat (first | (refine CodeR.seq ?_) | (refine CodeR.reg rfl ?_) | (refine CodeR.regD rfl rfl rfl ?_) | (refine SeqR.done ?_) | (refine CodeR.block ?_) | (refine CodeR.skip ?_) | (refine CodeR.exit ?_; simp only [sA, Ex.then, Ex.inBlock, Nat.reduceEqDiff]) | (first | (refine SeqR.skipN ?_ rfl rfl ?_; (simp only [sA, wantE, T.get_set, Nat.reduceEqDiff, h7, h8, ltB_nat] <;> with_reducible rfl)) | ((first | refine SeqR.stepN (v := ?_) (s' := ?_) rfl ?_ rfl ?_ rfl rfl ?_ | refine SeqR.stepLN (v := ?_) (s' := ?_) rfl ?_ rfl ?_ rfl rfl ?_); rotate_left 3; (intro call lc; simp only [sA, opE, kindOf, pureE, heapE, rho, rhos, T.get_set, Nat.reduceEqDiff, nb00, absV, absS, l_slice, l_void, l_str, l_arr, natE, loadE, isConst, TK.agg, u_notB, b_eqlB, b_neqB, b_add, b_sub, b_mul, b_lss, b_gtr, b_leq, b_geq, b_eql, b_neq, ty3, i3, si3, ty25, i25, si25, h7, h8, ltB_nat] <;> rfl); rotate_left 1; (simp only [sA, wantE, T.get_set, Nat.reduceEqDiff, h7, h8, ltB_nat] <;> with_reducible rfl))))
    refine CodeR.cond (t := decide (i < xs.length)) (by simp only [sA, rho, T.get_set, Nat.reduceEqDiff, u_notB, b_eqlB, b_neqB, b_add, b_sub, b_mul, b_lss, b_gtr, b_leq, b_geq, b_eql, b_neq, ty3, i3, si3, ty25, i25, si25]) ?_ ?_
    · intro hlt
      have hlt' : i < xs.length := by simpa using hlt
      obtain ⟨b, o, n, c, q, kk, rfl, f1, f2, f3⟩ := Row.zint hd hlt'
      have f4 : Nat.blt b s.c = true := blt_iff.2 (hF.lt b kk f2)
      rw [drop_at hlt' 0, idxL] at hf
      repeat (first | (refine CodeR.seq ?_) | (refine CodeR.reg rfl ?_) | (refine CodeR.regD rfl rfl rfl ?_) | (refine SeqR.done ?_) | (refine CodeR.block ?_) | (refine CodeR.skip ?_) | (refine CodeR.exit ?_; simp only [sA, Ex.then, Ex.inBlock, Nat.reduceEqDiff]) | (first | (refine SeqR.skipN ?_ rfl rfl ?_; (simp only [sA, wantE, T.get_set, Nat.reduceEqDiff, h0, h1, h8, f1, f2, f3, f4] <;> with_reducible rfl)) | ((first | refine SeqR.stepN (v := ?_) (s' := ?_) rfl ?_ rfl ?_ rfl rfl ?_ | refine SeqR.stepLN (v := ?_) (s' := ?_) rfl ?_ rfl ?_ rfl rfl ?_); rotate_left 3; (intro call lc; simp only [sA, opE, kindOf, pureE, heapE, rho, rhos, T.get_set, Nat.reduceEqDiff, nb00, absV, absS, l_slice, l_void, l_str, l_arr, natE, loadE, isConst, TK.agg, u_notB, b_eqlB, b_neqB, b_add, b_sub, b_mul, b_lss, b_gtr, b_leq, b_geq, b_eql, b_neq, ty3, i3, si3, ty25, i25, si25, h0, h1, h8, f1, f2, f3, f4] <;> rfl); rotate_left 1; (simp only [sA, wantE, T.get_set, Nat.reduceEqDiff, h0, h1, h8, f1, f2, f3, f4] <;> with_reducible rfl))))
      refine SeqR.callN (by first | with_reducible rfl | (simp only [sA, wantE, T.get_set, Nat.reduceEqDiff, u_notB, b_eqlB, b_neqB, b_add, b_sub, b_mul, b_lss, b_gtr, b_leq, b_geq, b_eql, b_neq, ty3, i3, si3, ty25, i25, si25, h1] <;> with_reducible rfl)) rfl rfl (g := g) (vs := [.int .i64 (xs.getD i 0)]) (by simp only [calleeE, sA, rho, rhos, T.get_set, Nat.reduceEqDiff, u_notB, b_eqlB, b_neqB, b_add, b_sub, b_mul, b_lss, b_gtr, b_leq, b_geq, b_eql, b_neq, ty3, i3, si3, ty25, i25, si25, h1]; rfl) (by first | rfl | assumption) rfl rfl (fun lc hlc => (hp lc (xs.getD i 0)).mono fun v s' hq => ?_)
      obtain ⟨rfl, rfl⟩ := hq
      repeat (first | (refine CodeR.seq ?_) | (refine CodeR.reg rfl ?_) | (refine CodeR.regD rfl rfl rfl ?_) | (refine SeqR.done ?_) | (refine CodeR.block ?_) | (refine CodeR.skip ?_) | (refine CodeR.exit ?_; simp only [sA, Ex.then, Ex.inBlock, Nat.reduceEqDiff]) | (first | (refine SeqR.skipN ?_ rfl rfl ?_; (simp only [sA, wantE, T.get_set, Nat.reduceEqDiff] <;> with_reducible rfl)) | ((first | refine SeqR.stepN (v := ?_) (s' := ?_) rfl ?_ rfl ?_ rfl rfl ?_ | refine SeqR.stepLN (v := ?_) (s' := ?_) rfl ?_ rfl ?_ rfl rfl ?_); rotate_left 3; (intro call lc; simp only [sA, opE, kindOf, pureE, heapE, rho, rhos, T.get_set, Nat.reduceEqDiff, nb00, absV, absS, l_slice, l_void, l_str, l_arr, natE, loadE, isConst, TK.agg, u_notB, b_eqlB, b_neqB, b_add, b_sub, b_mul, b_lss, b_gtr, b_leq, b_geq, b_eql, b_neq, ty3, i3, si3, ty25, i25, si25] <;> rfl); rotate_left 1; (simp only [sA, wantE, T.get_set, Nat.reduceEqDiff] <;> with_reducible rfl))))
      refine CodeR.cond (t := p (xs.getD i 0)) (by simp only [sA, rho, T.get_set, Nat.reduceEqDiff, u_notB, b_eqlB, b_neqB, b_add, b_sub, b_mul, b_lss, b_gtr, b_leq, b_geq, b_eql, b_neq, ty3, i3, si3, ty25, i25, si25]) ?_ ?_
      · intro hpt
        rw [hpt, if_pos rfl] at hf
        repeat (first | (refine CodeR.seq ?_) | (refine CodeR.reg rfl ?_) | (refine CodeR.regD rfl rfl rfl ?_) | (refine SeqR.done ?_) | (refine CodeR.block ?_) | (refine CodeR.skip ?_) | (refine CodeR.exit ?_; simp only [sA, Ex.then, Ex.inBlock, Nat.reduceEqDiff]) | (first | (refine SeqR.skipN ?_ rfl rfl ?_; (simp only [sA, wantE, T.get_set, Nat.reduceEqDiff, h8] <;> with_reducible rfl)) | ((first | refine SeqR.stepN (v := ?_) (s' := ?_) rfl ?_ rfl ?_ rfl rfl ?_ | refine SeqR.stepLN (v := ?_) (s' := ?_) rfl ?_ rfl ?_ rfl rfl ?_); rotate_left 3; (intro call lc; simp only [sA, opE, kindOf, pureE, heapE, rho, rhos, T.get_set, Nat.reduceEqDiff, nb00, absV, absS, l_slice, l_void, l_str, l_arr, natE, loadE, isConst, TK.agg, u_notB, b_eqlB, b_neqB, b_add, b_sub, b_mul, b_lss, b_gtr, b_leq, b_geq, b_eql, b_neq, ty3, i3, si3, ty25, i25, si25, h8] <;> rfl); rotate_left 1; (simp only [sA, wantE, T.get_set, Nat.reduceEqDiff, h8] <;> with_reducible rfl))))
        refine CodeR.ret ⟨.inr rfl, [.int .i64 (Int.ofNat i)], by (show ressE E _ _ [.tmp 4] = _; simp only [sA, ressE, resE, T.get_set, Nat.reduceEqDiff, u_notB, b_eqlB, b_neqB, b_add, b_sub, b_mul, b_lss, b_gtr, b_leq, b_geq, b_eql, b_neq, ty3, i3, si3, ty25, i25, si25]), ?_⟩
        exact ⟨rfl, by rw [hf]; rfl⟩
      · intro hpf
        rw [hpf, if_neg (by simp)] at hf
        have e5 : wr .i64 (Int.ofNat i + 1) = Int.ofNat (i + 1) := wr_add (b := 1) (by omega)
        repeat (first | (refine CodeR.seq ?_) | (refine CodeR.reg rfl ?_) | (refine CodeR.regD rfl rfl rfl ?_) | (refine SeqR.done ?_) | (refine CodeR.block ?_) | (refine CodeR.skip ?_) | (refine CodeR.exit ?_; simp only [sA, Ex.then, Ex.inBlock, Nat.reduceEqDiff]) | (first | (refine SeqR.skipN ?_ rfl rfl ?_; (simp only [sA, wantE, T.get_set, Nat.reduceEqDiff, h8, e5] <;> with_reducible rfl)) | ((first | refine SeqR.stepN (v := ?_) (s' := ?_) rfl ?_ rfl ?_ rfl rfl ?_ | refine SeqR.stepLN (v := ?_) (s' := ?_) rfl ?_ rfl ?_ rfl rfl ?_); rotate_left 3; (intro call lc; simp only [sA, opE, kindOf, pureE, heapE, rho, rhos, T.get_set, Nat.reduceEqDiff, nb00, absV, absS, l_slice, l_void, l_str, l_arr, natE, loadE, isConst, TK.agg, u_notB, b_eqlB, b_neqB, b_add, b_sub, b_mul, b_lss, b_gtr, b_leq, b_geq, b_eql, b_neq, ty3, i3, si3, ty25, i25, si25, h8, e5] <;> rfl); rotate_left 1; (simp only [sA, wantE, T.get_set, Nat.reduceEqDiff, h8, e5] <;> with_reducible rfl))))
        refine ⟨k - 1, by omega, rfl, i + 1, _, rfl, by omega, ?_, ?_, ?_, ?_, hf⟩
        simp only [T.get_set, Nat.reduceEqDiff, if_true, if_false, h0]
        simp only [T.get_set, Nat.reduceEqDiff, if_true, if_false, h1]
        simp only [T.get_set, Nat.reduceEqDiff, if_true, if_false, h7]
        simp only [T.get_set, Nat.reduceEqDiff, if_true, if_false]
    · intro hge
      have hge' : ¬ i < xs.length := by simpa using hge
      rw [List.drop_eq_nil_of_le (by omega), idxL] at hf
      repeat (first | (refine CodeR.seq ?_) | (refine CodeR.reg rfl ?_) | (refine CodeR.regD rfl rfl rfl ?_) | (refine SeqR.done ?_) | (refine CodeR.block ?_) | (refine CodeR.skip ?_) | (refine CodeR.exit ?_; simp only [sA, Ex.then, Ex.inBlock, Nat.reduceEqDiff]) | (first | (refine SeqR.skipN ?_ rfl rfl ?_; (simp only [sA, wantE, T.get_set, Nat.reduceEqDiff] <;> with_reducible rfl)) | ((first | refine SeqR.stepN (v := ?_) (s' := ?_) rfl ?_ rfl ?_ rfl rfl ?_ | refine SeqR.stepLN (v := ?_) (s' := ?_) rfl ?_ rfl ?_ rfl rfl ?_); rotate_left 3; (intro call lc; simp only [sA, opE, kindOf, pureE, heapE, rho, rhos, T.get_set, Nat.reduceEqDiff, nb00, absV, absS, l_slice, l_void, l_str, l_arr, natE, loadE, isConst, TK.agg, u_notB, b_eqlB, b_neqB, b_add, b_sub, b_mul, b_lss, b_gtr, b_leq, b_geq, b_eql, b_neq, ty3, i3, si3, ty25, i25, si25] <;> rfl); rotate_left 1; (simp only [sA, wantE, T.get_set, Nat.reduceEqDiff] <;> with_reducible rfl))))
      refine CodeR.ret ⟨.inr rfl, [.int .i64 (-1)], by (show ressE E _ _ [.tmp 4] = _; simp only [sA, ressE, resE, T.get_set, Nat.reduceEqDiff, u_notB, b_eqlB, b_neqB, b_add, b_sub, b_mul, b_lss, b_gtr, b_leq, b_geq, b_eql, b_neq, ty3, i3, si3, ty25, i25, si25]), ?_⟩
      exact ⟨rfl, by rw [hf]; rfl⟩
theorem contains_run {lo g : Nat} {d : AV} {xs : List Int} {s : St} {p : Int → Bool} (hd : RZ s.h xs d) (hF : Fresh s) (hx : xs.length ≤ 1000000) (hg : E.ext.get g = none) (hp : ∀ lc z, FunR E lc g [.int .i64 z] s fun v s' => s = s' ∧ v = .bool (p z)) :
    FunR E lo 95 [d, .fn g []] s fun v s' => s = s' ∧ v = .bool (xs.any p) := by
  refine FunR.body (fn := Tryz.f95) fn95' rfl ?_
  have hn : (max ([d, .fn g []] : List AV).length Tryz.f95.ntmps) = 9 := rfl
  generalize max ([d, .fn g []] : List AV).length Tryz.f95.ntmps = n at hn
  subst hn
  have g0 : (argsT 0 ([d, .fn g []] : List AV)).get 0 = some (d) := rfl
  have g1 : (argsT 0 ([d, .fn g []] : List AV)).get 1 = some (.fn g []) := rfl
  generalize argsT 0 ([d, .fn g []] : List AV) = T0 at g0 g1 ⊢
  have hn : (9 : Nat) = 9 := rfl
  repeat (first | (refine CodeR.seq ?_) | (refine CodeR.reg rfl ?_) | (refine CodeR.regD rfl rfl rfl ?_) | (refine SeqR.done ?_) | (refine CodeR.block ?_) | (refine CodeR.skip ?_) | (refine CodeR.exit ?_; simp only [sA, Ex.then, Ex.inBlock, Nat.reduceEqDiff]) | (first | (refine SeqR.skipN ?_ rfl rfl ?_; (simp only [sA, wantE, T.get_set, Nat.reduceEqDiff, g0, g1] <;> with_reducible rfl)) | ((first | refine SeqR.stepN (v := ?_) (s' := ?_) rfl ?_ rfl ?_ rfl rfl ?_ | refine SeqR.stepLN (v := ?_) (s' := ?_) rfl ?_ rfl ?_ rfl rfl ?_); rotate_left 3; (intro call lc; simp only [sA, opE, kindOf, pureE, heapE, rho, rhos, T.get_set, Nat.reduceEqDiff, nb00, absV, absS, l_slice, l_void, l_str, l_arr, natE, loadE, isConst, TK.agg, u_notB, b_eqlB, b_neqB, b_add, b_sub, b_mul, b_lss, b_gtr, b_leq, b_geq, b_eql, b_neq, ty3, i3, si3, ty25, i25, si25, g0, g1] <;> rfl); rotate_left 1; (simp only [sA, wantE, T.get_set, Nat.reduceEqDiff, g0, g1] <;> with_reducible rfl))))
  refine SeqR.callN (by first | with_reducible rfl | (simp only [sA, wantE, T.get_set, Nat.reduceEqDiff, u_notB, b_eqlB, b_neqB, b_add, b_sub, b_mul, b_lss, b_gtr, b_leq, b_geq, b_eql, b_neq, ty3, i3, si3, ty25, i25, si25, g0, g1] <;> with_reducible rfl)) rfl rfl (g := 210) (vs := [d, .fn g []]) (by simp only [calleeE, sA, rho, rhos, T.get_set, Nat.reduceEqDiff, u_notB, b_eqlB, b_neqB, b_add, b_sub, b_mul, b_lss, b_gtr, b_leq, b_geq, b_eql, b_neq, ty3, i3, si3, ty25, i25, si25, g0, g1]; rfl) (by first | rfl | assumption) rfl rfl (fun lc hlc => (index_run hd hF hx hg hp).mono fun v s' hq => ?_)
  obtain ⟨rfl, rfl⟩ := hq
  have e := idx_any p 0 xs
  repeat (first | (refine CodeR.seq ?_) | (refine CodeR.reg rfl ?_) | (refine CodeR.regD rfl rfl rfl ?_) | (refine SeqR.done ?_) | (refine CodeR.block ?_) | (refine CodeR.skip ?_) | (refine CodeR.exit ?_; simp only [sA, Ex.then, Ex.inBlock, Nat.reduceEqDiff]) | (first | (refine SeqR.skipN ?_ rfl rfl ?_; (simp only [sA, wantE, T.get_set, Nat.reduceEqDiff, e] <;> with_reducible rfl)) | ((first | refine SeqR.stepN (v := ?_) (s' := ?_) rfl ?_ rfl ?_ rfl rfl ?_ | refine SeqR.stepLN (v := ?_) (s' := ?_) rfl ?_ rfl ?_ rfl rfl ?_); rotate_left 3; (intro call lc; simp only [sA, opE, kindOf, pureE, heapE, rho, rhos, T.get_set, Nat.reduceEqDiff, nb00, absV, absS, l_slice, l_void, l_str, l_arr, natE, loadE, isConst, TK.agg, u_notB, b_eqlB, b_neqB, b_add, b_sub, b_mul, b_lss, b_gtr, b_leq, b_geq, b_eql, b_neq, ty3, i3, si3, ty25, i25, si25, e] <;> rfl); rotate_left 1; (simp only [sA, wantE, T.get_set, Nat.reduceEqDiff, e] <;> with_reducible rfl))))
  refine CodeR.ret ⟨.inr rfl, [.bool (xs.any p)], by (show ressE E _ _ [.tmp 4] = _; simp only [sA, ressE, resE, T.get_set, Nat.reduceEqDiff, u_notB, b_eqlB, b_neqB, b_add, b_sub, b_mul, b_lss, b_gtr, b_leq, b_geq, b_eql, b_neq, ty3, i3, si3, ty25, i25, si25]), ?_⟩
  exact ⟨rfl, rfl⟩
def farB (z : Int) : Bool := ltB 1000000000 z || ltB z (-1000000000)
theorem fn96' : E.fns.get 96 = some Tryz.f96 := by kernel_rfl
theorem fn211' : E.fns.get 211 = some Tryz.f211 := by kernel_rfl
theorem fn213' : E.fns.get 213 = some Tryz.f213 := by kernel_rfl
theorem far96 (lc : Nat) (s : St) (z : Int) : FunR E lc 96 [.int .i64 z] s fun v s' => s = s' ∧ v = .bool (farB z) := by
  refine FunR.body (fn := Tryz.f96) fn96' rfl ?_
  have hn : (max ([.int .i64 z] : List AV).length Tryz.f96.ntmps) = 9 := rfl
  generalize max ([.int .i64 z] : List AV).length Tryz.f96.ntmps = n at hn
  subst hn
  have g0 : (argsT 0 ([.int .i64 z] : List AV)).get 0 = some (.int .i64 z) := rfl
  generalize argsT 0 ([.int .i64 z] : List AV) = T0 at g0 ⊢
  have hn : (9 : Nat) = 9 := rfl
  cases h : ltB 1000000000 z with
  | true =>
    repeat (first | (refine CodeR.seq ?_) | (refine CodeR.reg rfl ?_) | (refine CodeR.regD rfl rfl rfl ?_) | (refine SeqR.done ?_) | (refine CodeR.block ?_) | (refine CodeR.skip ?_) | (refine CodeR.exit ?_; simp only [sA, Ex.then, Ex.inBlock, Nat.reduceEqDiff]) | (first | (refine SeqR.skipN ?_ rfl rfl ?_; (simp only [sA, wantE, T.get_set, Nat.reduceEqDiff, g0, h] <;> with_reducible rfl)) | ((first | refine SeqR.stepN (v := ?_) (s' := ?_) rfl ?_ rfl ?_ rfl rfl ?_ | refine SeqR.stepLN (v := ?_) (s' := ?_) rfl ?_ rfl ?_ rfl rfl ?_); rotate_left 3; (intro call lc; simp only [sA, opE, kindOf, pureE, heapE, rho, rhos, T.get_set, Nat.reduceEqDiff, nb00, absV, absS, l_slice, l_void, l_str, l_arr, natE, loadE, isConst, TK.agg, u_notB, b_eqlB, b_neqB, b_add, b_sub, b_mul, b_lss, b_gtr, b_leq, b_geq, b_eql, b_neq, g0, h] <;> rfl); rotate_left 1; (simp only [sA, wantE, T.get_set, Nat.reduceEqDiff, g0, h] <;> with_reducible rfl))))
    refine CodeR.ret ⟨.inr rfl, [.bool true], by (show ressE E _ _ [.tmp 2] = _; simp only [sA, ressE, resE, T.get_set, Nat.reduceEqDiff, u_notB, b_eqlB, b_neqB, b_add, b_sub, b_mul, b_lss, b_gtr, b_leq, b_geq, b_eql, b_neq]), ?_⟩
    exact ⟨rfl, by simp [farB, h, oneOf]⟩
  | false =>
    repeat (first | (refine CodeR.seq ?_) | (refine CodeR.reg rfl ?_) | (refine CodeR.regD rfl rfl rfl ?_) | (refine SeqR.done ?_) | (refine CodeR.block ?_) | (refine CodeR.skip ?_) | (refine CodeR.exit ?_; simp only [sA, Ex.then, Ex.inBlock, Nat.reduceEqDiff]) | (first | (refine SeqR.skipN ?_ rfl rfl ?_; (simp only [sA, wantE, T.get_set, Nat.reduceEqDiff, g0, h] <;> with_reducible rfl)) | ((first | refine SeqR.stepN (v := ?_) (s' := ?_) rfl ?_ rfl ?_ rfl rfl ?_ | refine SeqR.stepLN (v := ?_) (s' := ?_) rfl ?_ rfl ?_ rfl rfl ?_); rotate_left 3; (intro call lc; simp only [sA, opE, kindOf, pureE, heapE, rho, rhos, T.get_set, Nat.reduceEqDiff, nb00, absV, absS, l_slice, l_void, l_str, l_arr, natE, loadE, isConst, TK.agg, u_notB, b_eqlB, b_neqB, b_add, b_sub, b_mul, b_lss, b_gtr, b_leq, b_geq, b_eql, b_neq, g0, h] <;> rfl); rotate_left 1; (simp only [sA, wantE, T.get_set, Nat.reduceEqDiff, g0, h] <;> with_reducible rfl))))
    refine CodeR.ret ⟨.inr rfl, [.bool (ltB z (-1000000000))], by (show ressE E _ _ [.tmp 2] = _; simp only [sA, ressE, resE, T.get_set, Nat.reduceEqDiff, u_notB, b_eqlB, b_neqB, b_add, b_sub, b_mul, b_lss, b_gtr, b_leq, b_geq, b_eql, b_neq]), ?_⟩
    exact ⟨rfl, by simp [farB, h, oneOf]⟩
theorem far211 (lc : Nat) (s : St) (z : Int) : FunR E lc 211 [.int .i64 z] s fun v s' => s = s' ∧ v = .bool (farB z) := by
  refine FunR.body (fn := Tryz.f211) fn211' rfl ?_
  have hn : (max ([.int .i64 z] : List AV).length Tryz.f211.ntmps) = 9 := rfl
  generalize max ([.int .i64 z] : List AV).length Tryz.f211.ntmps = n at hn
  subst hn
  have g0 : (argsT 0 ([.int .i64 z] : List AV)).get 0 = some (.int .i64 z) := rfl
  generalize argsT 0 ([.int .i64 z] : List AV) = T0 at g0 ⊢
  have hn : (9 : Nat) = 9 := rfl
  cases h : ltB 1000000000 z with
  | true =>
    repeat (first | (refine CodeR.seq ?_) | (refine CodeR.reg rfl ?_) | (refine CodeR.regD rfl rfl rfl ?_) | (refine SeqR.done ?_) | (refine CodeR.block ?_) | (refine CodeR.skip ?_) | (refine CodeR.exit ?_; simp only [sA, Ex.then, Ex.inBlock, Nat.reduceEqDiff]) | (first | (refine SeqR.skipN ?_ rfl rfl ?_; (simp only [sA, wantE, T.get_set, Nat.reduceEqDiff, g0, h] <;> with_reducible rfl)) | ((first | refine SeqR.stepN (v := ?_) (s' := ?_) rfl ?_ rfl ?_ rfl rfl ?_ | refine SeqR.stepLN (v := ?_) (s' := ?_) rfl ?_ rfl ?_ rfl rfl ?_); rotate_left 3; (intro call lc; simp only [sA, opE, kindOf, pureE, heapE, rho, rhos, T.get_set, Nat.reduceEqDiff, nb00, absV, absS, l_slice, l_void, l_str, l_arr, natE, loadE, isConst, TK.agg, u_notB, b_eqlB, b_neqB, b_add, b_sub, b_mul, b_lss, b_gtr, b_leq, b_geq, b_eql, b_neq, g0, h] <;> rfl); rotate_left 1; (simp only [sA, wantE, T.get_set, Nat.reduceEqDiff, g0, h] <;> with_reducible rfl))))
    refine CodeR.ret ⟨.inr rfl, [.bool true], by (show ressE E _ _ [.tmp 2] = _; simp only [sA, ressE, resE, T.get_set, Nat.reduceEqDiff, u_notB, b_eqlB, b_neqB, b_add, b_sub, b_mul, b_lss, b_gtr, b_leq, b_geq, b_eql, b_neq]), ?_⟩
    exact ⟨rfl, by simp [farB, h, oneOf]⟩
  | false =>
    repeat (first | (refine CodeR.seq ?_) | (refine CodeR.reg rfl ?_) | (refine CodeR.regD rfl rfl rfl ?_) | (refine SeqR.done ?_) | (refine CodeR.block ?_) | (refine CodeR.skip ?_) | (refine CodeR.exit ?_; simp only [sA, Ex.then, Ex.inBlock, Nat.reduceEqDiff]) | (first | (refine SeqR.skipN ?_ rfl rfl ?_; (simp only [sA, wantE, T.get_set, Nat.reduceEqDiff, g0, h] <;> with_reducible rfl)) | ((first | refine SeqR.stepN (v := ?_) (s' := ?_) rfl ?_ rfl ?_ rfl rfl ?_ | refine SeqR.stepLN (v := ?_) (s' := ?_) rfl ?_ rfl ?_ rfl rfl ?_); rotate_left 3; (intro call lc; simp only [sA, opE, kindOf, pureE, heapE, rho, rhos, T.get_set, Nat.reduceEqDiff, nb00, absV, absS, l_slice, l_void, l_str, l_arr, natE, loadE, isConst, TK.agg, u_notB, b_eqlB, b_neqB, b_add, b_sub, b_mul, b_lss, b_gtr, b_leq, b_geq, b_eql, b_neq, g0, h] <;> rfl); rotate_left 1; (simp only [sA, wantE, T.get_set, Nat.reduceEqDiff, g0, h] <;> with_reducible rfl))))
    refine CodeR.ret ⟨.inr rfl, [.bool (ltB z (-1000000000))], by (show ressE E _ _ [.tmp 2] = _; simp only [sA, ressE, resE, T.get_set, Nat.reduceEqDiff, u_notB, b_eqlB, b_neqB, b_add, b_sub, b_mul, b_lss, b_gtr, b_leq, b_geq, b_eql, b_neq]), ?_⟩
    exact ⟨rfl, by simp [farB, h, oneOf]⟩
theorem some213 (lc : Nat) (s : St) (z : Int) : FunR E lc 213 [.int .i64 z] s fun v s' => s = s' ∧ v = .bool (!eqB z 0) := by
  refine FunR.body (fn := Tryz.f213) fn213' rfl ?_
  have hn : (max ([.int .i64 z] : List AV).length Tryz.f213.ntmps) = 5 := rfl
  generalize max ([.int .i64 z] : List AV).length Tryz.f213.ntmps = n at hn
  subst hn
  have g0 : (argsT 0 ([.int .i64 z] : List AV)).get 0 = some (.int .i64 z) := rfl
  generalize argsT 0 ([.int .i64 z] : List AV) = T0 at g0 ⊢
  have hn : (5 : Nat) = 5 := rfl
  repeat (first | (refine CodeR.seq ?_) | (refine CodeR.reg rfl ?_) | (refine CodeR.regD rfl rfl rfl ?_) | (refine SeqR.done ?_) | (refine CodeR.block ?_) | (refine CodeR.skip ?_) | (refine CodeR.exit ?_; simp only [sA, Ex.then, Ex.inBlock, Nat.reduceEqDiff]) | (first | (refine SeqR.skipN ?_ rfl rfl ?_; (simp only [sA, wantE, T.get_set, Nat.reduceEqDiff, g0] <;> with_reducible rfl)) | ((first | refine SeqR.stepN (v := ?_) (s' := ?_) rfl ?_ rfl ?_ rfl rfl ?_ | refine SeqR.stepLN (v := ?_) (s' := ?_) rfl ?_ rfl ?_ rfl rfl ?_); rotate_left 3; (intro call lc; simp only [sA, opE, kindOf, pureE, heapE, rho, rhos, T.get_set, Nat.reduceEqDiff, nb00, absV, absS, l_slice, l_void, l_str, l_arr, natE, loadE, isConst, TK.agg, u_notB, b_eqlB, b_neqB, b_add, b_sub, b_mul, b_lss, b_gtr, b_leq, b_geq, b_eql, b_neq, g0] <;> rfl); rotate_left 1; (simp only [sA, wantE, T.get_set, Nat.reduceEqDiff, g0] <;> with_reducible rfl))))
  refine CodeR.ret ⟨.inr rfl, [.bool (!eqB z 0)], by (show ressE E _ _ [.tmp 2] = _; simp only [sA, ressE, resE, T.get_set, Nat.reduceEqDiff, u_notB, b_eqlB, b_neqB, b_add, b_sub, b_mul, b_lss, b_gtr, b_leq, b_geq, b_eql, b_neq]), ?_⟩
  exact ⟨rfl, rfl⟩
theorem far_near (xs : List Int) : (!xs.any farB) = true ↔ NearR xs := by
  have h1 : ∀ z, farB z = false ↔ Near z := fun z => by
    unfold farB Near
    rw [ltB_eq, ltB_eq]
    simp
    omega
  unfold NearR
  constructor
  · intro h i hi
    have h2 : ∀ z ∈ xs, farB z = false := by simpa using h
    rw [← h1]
    refine h2 _ ?_
    rw [List.getD_eq_getElem?_getD, List.getElem?_eq_getElem hi]
    exact List.getElem_mem hi
  · intro h
    have : ∀ z ∈ xs, farB z = false := fun z hz => by
      obtain ⟨i, hi, rfl⟩ := List.mem_iff_getElem.1 hz
      rw [h1]
      have := h i hi
      rwa [List.getD_eq_getElem?_getD, List.getElem?_eq_getElem hi] at this
    simpa using this
theorem fn104' : E.fns.get 104 = some Tryz.f104 := by kernel_rfl
theorem fn18' : E.fns.get 18 = some Tryz.f18 := by kernel_rfl
theorem fn109' : E.fns.get 109 = some Tryz.f109 := by kernel_rfl
theorem near_run {lo : Nat} {d : AV} {xs : List Int} {s : St} (hd : RZ s.h xs d) (hF : Fresh s) (hx : xs.length ≤ 1000000) :
    FunR E lo 104 [d] s fun v s' => s = s' ∧ ∃ b, v = .bool b ∧ (b = true ↔ NearR xs) := by
  refine FunR.body (fn := Tryz.f104) fn104' rfl ?_
  have hn : (max ([d] : List AV).length Tryz.f104.ntmps) = 6 := rfl
  generalize max ([d] : List AV).length Tryz.f104.ntmps = n at hn
  subst hn
  have g0 : (argsT 0 ([d] : List AV)).get 0 = some (d) := rfl
  generalize argsT 0 ([d] : List AV) = T0 at g0 ⊢
  have hn : (6 : Nat) = 6 := rfl
  repeat (first | (refine CodeR.seq ?_) | (refine CodeR.reg rfl ?_) | (refine CodeR.regD rfl rfl rfl ?_) | (refine SeqR.done ?_) | (refine CodeR.block ?_) | (refine CodeR.skip ?_) | (refine CodeR.exit ?_; simp only [sA, Ex.then, Ex.inBlock, Nat.reduceEqDiff]) | (first | (refine SeqR.skipN ?_ rfl rfl ?_; (simp only [sA, wantE, T.get_set, Nat.reduceEqDiff, g0] <;> with_reducible rfl)) | ((first | refine SeqR.stepN (v := ?_) (s' := ?_) rfl ?_ rfl ?_ rfl rfl ?_ | refine SeqR.stepLN (v := ?_) (s' := ?_) rfl ?_ rfl ?_ rfl rfl ?_); rotate_left 3; (intro call lc; simp only [sA, opE, kindOf, pureE, heapE, rho, rhos, T.get_set, Nat.reduceEqDiff, nb00, absV, absS, l_slice, l_void, l_str, l_arr, natE, loadE, isConst, TK.agg, u_notB, b_eqlB, b_neqB, b_add, b_sub, b_mul, b_lss, b_gtr, b_leq, b_geq, b_eql, b_neq, ty3, i3, si3, ty25, i25, si25, g0] <;> rfl); rotate_left 1; (simp only [sA, wantE, T.get_set, Nat.reduceEqDiff, g0] <;> with_reducible rfl))))
  refine SeqR.callN (by first | with_reducible rfl | (simp only [sA, wantE, T.get_set, Nat.reduceEqDiff, u_notB, b_eqlB, b_neqB, b_add, b_sub, b_mul, b_lss, b_gtr, b_leq, b_geq, b_eql, b_neq, ty3, i3, si3, ty25, i25, si25, g0] <;> with_reducible rfl)) rfl rfl (g := 95) (vs := [d, .fn 211 []]) (by simp only [calleeE, sA, rho, rhos, T.get_set, Nat.reduceEqDiff, u_notB, b_eqlB, b_neqB, b_add, b_sub, b_mul, b_lss, b_gtr, b_leq, b_geq, b_eql, b_neq, ty3, i3, si3, ty25, i25, si25, g0]; rfl) (by first | rfl | assumption) rfl rfl (fun lc hlc => (contains_run hd hF hx rfl (fun lc z => far211 lc s z)).mono fun v s' hq => ?_)
  obtain ⟨rfl, rfl⟩ := hq
  repeat (first | (refine CodeR.seq ?_) | (refine CodeR.reg rfl ?_) | (refine CodeR.regD rfl rfl rfl ?_) | (refine SeqR.done ?_) | (refine CodeR.block ?_) | (refine CodeR.skip ?_) | (refine CodeR.exit ?_; simp only [sA, Ex.then, Ex.inBlock, Nat.reduceEqDiff]) | (first | (refine SeqR.skipN ?_ rfl rfl ?_; (simp only [sA, wantE, T.get_set, Nat.reduceEqDiff] <;> with_reducible rfl)) | ((first | refine SeqR.stepN (v := ?_) (s' := ?_) rfl ?_ rfl ?_ rfl rfl ?_ | refine SeqR.stepLN (v := ?_) (s' := ?_) rfl ?_ rfl ?_ rfl rfl ?_); rotate_left 3; (intro call lc; simp only [sA, opE, kindOf, pureE, heapE, rho, rhos, T.get_set, Nat.reduceEqDiff, nb00, absV, absS, l_slice, l_void, l_str, l_arr, natE, loadE, isConst, TK.agg, u_notB, b_eqlB, b_neqB, b_add, b_sub, b_mul, b_lss, b_gtr, b_leq, b_geq, b_eql, b_neq, ty3, i3, si3, ty25, i25, si25] <;> rfl); rotate_left 1; (simp only [sA, wantE, T.get_set, Nat.reduceEqDiff] <;> with_reducible rfl))))
  refine CodeR.ret ⟨.inr rfl, [.bool (!xs.any farB)], by (show ressE E _ _ [.tmp 2] = _; simp only [sA, ressE, resE, T.get_set, Nat.reduceEqDiff, u_notB, b_eqlB, b_neqB, b_add, b_sub, b_mul, b_lss, b_gtr, b_leq, b_geq, b_eql, b_neq, ty3, i3, si3, ty25, i25, si25]), ?_⟩
  exact ⟨rfl, _, rfl, far_near xs⟩
theorem rowRight_run {lo : Nat} {d : AV} {xs : List Int} {s : St} (hd : RZ s.h xs d) (hF : Fresh s) (hx : xs.length ≤ 1000000) :
    FunR E lo 18 [d] s fun v s' => s = s' ∧ ∃ b, v = .bool b ∧ (b = true ↔ NearR xs) := by
  refine FunR.body (fn := Tryz.f18) fn18' rfl ?_
  have hn : (max ([d] : List AV).length Tryz.f18.ntmps) = 6 := rfl
  generalize max ([d] : List AV).length Tryz.f18.ntmps = n at hn
  subst hn
  have g0 : (argsT 0 ([d] : List AV)).get 0 = some (d) := rfl
  generalize argsT 0 ([d] : List AV) = T0 at g0 ⊢
  have hn : (6 : Nat) = 6 := rfl
  repeat (first | (refine CodeR.seq ?_) | (refine CodeR.reg rfl ?_) | (refine CodeR.regD rfl rfl rfl ?_) | (refine SeqR.done ?_) | (refine CodeR.block ?_) | (refine CodeR.skip ?_) | (refine CodeR.exit ?_; simp only [sA, Ex.then, Ex.inBlock, Nat.reduceEqDiff]) | (first | (refine SeqR.skipN ?_ rfl rfl ?_; (simp only [sA, wantE, T.get_set, Nat.reduceEqDiff, g0] <;> with_reducible rfl)) | ((first | refine SeqR.stepN (v := ?_) (s' := ?_) rfl ?_ rfl ?_ rfl rfl ?_ | refine SeqR.stepLN (v := ?_) (s' := ?_) rfl ?_ rfl ?_ rfl rfl ?_); rotate_left 3; (intro call lc; simp only [sA, opE, kindOf, pureE, heapE, rho, rhos, T.get_set, Nat.reduceEqDiff, nb00, absV, absS, l_slice, l_void, l_str, l_arr, natE, loadE, isConst, TK.agg, u_notB, b_eqlB, b_neqB, b_add, b_sub, b_mul, b_lss, b_gtr, b_leq, b_geq, b_eql, b_neq, ty3, i3, si3, ty25, i25, si25, g0] <;> rfl); rotate_left 1; (simp only [sA, wantE, T.get_set, Nat.reduceEqDiff, g0] <;> with_reducible rfl))))
  refine SeqR.callN (by first | with_reducible rfl | (simp only [sA, wantE, T.get_set, Nat.reduceEqDiff, u_notB, b_eqlB, b_neqB, b_add, b_sub, b_mul, b_lss, b_gtr, b_leq, b_geq, b_eql, b_neq, ty3, i3, si3, ty25, i25, si25, g0] <;> with_reducible rfl)) rfl rfl (g := 95) (vs := [d, .fn 96 []]) (by simp only [calleeE, sA, rho, rhos, T.get_set, Nat.reduceEqDiff, u_notB, b_eqlB, b_neqB, b_add, b_sub, b_mul, b_lss, b_gtr, b_leq, b_geq, b_eql, b_neq, ty3, i3, si3, ty25, i25, si25, g0]; rfl) (by first | rfl | assumption) rfl rfl (fun lc hlc => (contains_run hd hF hx rfl (fun lc z => far96 lc s z)).mono fun v s' hq => ?_)
  obtain ⟨rfl, rfl⟩ := hq
  repeat (first | (refine CodeR.seq ?_) | (refine CodeR.reg rfl ?_) | (refine CodeR.regD rfl rfl rfl ?_) | (refine SeqR.done ?_) | (refine CodeR.block ?_) | (refine CodeR.skip ?_) | (refine CodeR.exit ?_; simp only [sA, Ex.then, Ex.inBlock, Nat.reduceEqDiff]) | (first | (refine SeqR.skipN ?_ rfl rfl ?_; (simp only [sA, wantE, T.get_set, Nat.reduceEqDiff] <;> with_reducible rfl)) | ((first | refine SeqR.stepN (v := ?_) (s' := ?_) rfl ?_ rfl ?_ rfl rfl ?_ | refine SeqR.stepLN (v := ?_) (s' := ?_) rfl ?_ rfl ?_ rfl rfl ?_); rotate_left 3; (intro call lc; simp only [sA, opE, kindOf, pureE, heapE, rho, rhos, T.get_set, Nat.reduceEqDiff, nb00, absV, absS, l_slice, l_void, l_str, l_arr, natE, loadE, isConst, TK.agg, u_notB, b_eqlB, b_neqB, b_add, b_sub, b_mul, b_lss, b_gtr, b_leq, b_geq, b_eql, b_neq, ty3, i3, si3, ty25, i25, si25] <;> rfl); rotate_left 1; (simp only [sA, wantE, T.get_set, Nat.reduceEqDiff] <;> with_reducible rfl))))
  refine CodeR.ret ⟨.inr rfl, [.bool (!xs.any farB)], by (show ressE E _ _ [.tmp 2] = _; simp only [sA, ressE, resE, T.get_set, Nat.reduceEqDiff, u_notB, b_eqlB, b_neqB, b_add, b_sub, b_mul, b_lss, b_gtr, b_leq, b_geq, b_eql, b_neq, ty3, i3, si3, ty25, i25, si25]), ?_⟩
  exact ⟨rfl, _, rfl, far_near xs⟩
theorem first_idx : ∀ (n : Nat) (xs : List Int), idxL (fun z => !eqB z 0) n xs = firstL n xs
  | n, [] => rfl
  | n, x :: xs => by
    rw [idxL, firstL, eqB_eq, first_idx]
    by_cases h : x = 0
    · subst h; rfl
    · rw [if_neg h, if_pos (by simpa using h)]
theorem pivot_run {lo : Nat} {d : AV} {xs : List Int} {s : St} (hd : RZ s.h xs d) (hF : Fresh s) (hx : xs.length ≤ 1000000) :
    FunR E lo 109 [d] s fun v s' => s = s' ∧ v = .int .i64 (firstL 0 xs) := by
  refine FunR.body (fn := Tryz.f109) fn109' rfl ?_
  have hn : (max ([d] : List AV).length Tryz.f109.ntmps) = 5 := rfl
  generalize max ([d] : List AV).length Tryz.f109.ntmps = n at hn
  subst hn
  have g0 : (argsT 0 ([d] : List AV)).get 0 = some (d) := rfl
  generalize argsT 0 ([d] : List AV) = T0 at g0 ⊢
  have hn : (5 : Nat) = 5 := rfl
  repeat (first | (refine CodeR.seq ?_) | (refine CodeR.reg rfl ?_) | (refine CodeR.regD rfl rfl rfl ?_) | (refine SeqR.done ?_) | (refine CodeR.block ?_) | (refine CodeR.skip ?_) | (refine CodeR.exit ?_; simp only [sA, Ex.then, Ex.inBlock, Nat.reduceEqDiff]) | (first | (refine SeqR.skipN ?_ rfl rfl ?_; (simp only [sA, wantE, T.get_set, Nat.reduceEqDiff, g0] <;> with_reducible rfl)) | ((first | refine SeqR.stepN (v := ?_) (s' := ?_) rfl ?_ rfl ?_ rfl rfl ?_ | refine SeqR.stepLN (v := ?_) (s' := ?_) rfl ?_ rfl ?_ rfl rfl ?_); rotate_left 3; (intro call lc; simp only [sA, opE, kindOf, pureE, heapE, rho, rhos, T.get_set, Nat.reduceEqDiff, nb00, absV, absS, l_slice, l_void, l_str, l_arr, natE, loadE, isConst, TK.agg, u_notB, b_eqlB, b_neqB, b_add, b_sub, b_mul, b_lss, b_gtr, b_leq, b_geq, b_eql, b_neq, ty3, i3, si3, ty25, i25, si25, g0] <;> rfl); rotate_left 1; (simp only [sA, wantE, T.get_set, Nat.reduceEqDiff, g0] <;> with_reducible rfl))))
  refine SeqR.callN (by first | with_reducible rfl | (simp only [sA, wantE, T.get_set, Nat.reduceEqDiff, u_notB, b_eqlB, b_neqB, b_add, b_sub, b_mul, b_lss, b_gtr, b_leq, b_geq, b_eql, b_neq, ty3, i3, si3, ty25, i25, si25, g0] <;> with_reducible rfl)) rfl rfl (g := 210) (vs := [d, .fn 213 []]) (by simp only [calleeE, sA, rho, rhos, T.get_set, Nat.reduceEqDiff, u_notB, b_eqlB, b_neqB, b_add, b_sub, b_mul, b_lss, b_gtr, b_leq, b_geq, b_eql, b_neq, ty3, i3, si3, ty25, i25, si25, g0]; rfl) (by first | rfl | assumption) rfl rfl (fun lc hlc => (index_run hd hF hx rfl (fun lc z => some213 lc s z)).mono fun v s' hq => ?_)
  obtain ⟨rfl, rfl⟩ := hq
  repeat (first | (refine CodeR.seq ?_) | (refine CodeR.reg rfl ?_) | (refine CodeR.regD rfl rfl rfl ?_) | (refine SeqR.done ?_) | (refine CodeR.block ?_) | (refine CodeR.skip ?_) | (refine CodeR.exit ?_; simp only [sA, Ex.then, Ex.inBlock, Nat.reduceEqDiff]) | (first | (refine SeqR.skipN ?_ rfl rfl ?_; (simp only [sA, wantE, T.get_set, Nat.reduceEqDiff] <;> with_reducible rfl)) | ((first | refine SeqR.stepN (v := ?_) (s' := ?_) rfl ?_ rfl ?_ rfl rfl ?_ | refine SeqR.stepLN (v := ?_) (s' := ?_) rfl ?_ rfl ?_ rfl rfl ?_); rotate_left 3; (intro call lc; simp only [sA, opE, kindOf, pureE, heapE, rho, rhos, T.get_set, Nat.reduceEqDiff, nb00, absV, absS, l_slice, l_void, l_str, l_arr, natE, loadE, isConst, TK.agg, u_notB, b_eqlB, b_neqB, b_add, b_sub, b_mul, b_lss, b_gtr, b_leq, b_geq, b_eql, b_neq, ty3, i3, si3, ty25, i25, si25] <;> rfl); rotate_left 1; (simp only [sA, wantE, T.get_set, Nat.reduceEqDiff] <;> with_reducible rfl))))
  refine CodeR.ret ⟨.inr rfl, [.int .i64 (idxL (fun z => !eqB z 0) 0 xs)], by (show ressE E _ _ [.tmp 2] = _; simp only [sA, ressE, resE, T.get_set, Nat.reduceEqDiff, u_notB, b_eqlB, b_neqB, b_add, b_sub, b_mul, b_lss, b_gtr, b_leq, b_geq, b_eql, b_neq, ty3, i3, si3, ty25, i25, si25]), ?_⟩
  exact ⟨rfl, by rw [first_idx]; rfl⟩
end Go.Proofs.YtaocoplfdhcoaaaGreatDoor.EvA

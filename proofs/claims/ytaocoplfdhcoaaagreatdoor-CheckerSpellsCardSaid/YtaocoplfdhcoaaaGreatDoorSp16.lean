/- schismaref03.minus, run. -/
import Derived.Test.YtaocoplfdhcoaaaGreatDoorSp15
import Derived.Test.YtaocoplfdhcoaaaGreatDoorSp14
set_option linter.unusedVariables false
set_option linter.unusedSimpArgs false
set_option maxRecDepth 20000
set_option maxHeartbeats 2000000
namespace Go.Proofs.YtaocoplfdhcoaaaGreatDoor.EvA
open Go Go.RowKit Go.Proofs.YtaocoplfdhcoaaaGreatDoor.Ev
theorem fn100' : E.fns.get 100 = some Tryz.f100 := by kernel_rfl
/-- The difference of two magnitudes with the base 10^9, c borrowed. -/
def minusL : Nat → List Nat → List Nat → List Nat
  | _, [], _ => []
  | c, x :: xs, ys => (if x < c + ys.headD 0 then x + 1000000000 - (c + ys.headD 0) else x - (c + ys.headD 0)) :: minusL (if x < c + ys.headD 0 then 1 else 0) xs ys.tail
theorem minusL_step {c i : Nat} {xs ys : List Nat} (h : i < xs.length) :
    minusL c (xs.drop i) (ys.drop i) = (if xs.getD i 0 < c + ys.getD i 0 then xs.getD i 0 + 1000000000 - (c + ys.getD i 0) else xs.getD i 0 - (c + ys.getD i 0)) :: minusL (if xs.getD i 0 < c + ys.getD i 0 then 1 else 0) (xs.drop (i + 1)) (ys.drop (i + 1)) := by
  have hx : xs.drop i = xs.getD i 0 :: xs.drop (i + 1) := by
    rw [List.drop_eq_getElem_cons h]
    simp [List.getD_eq_getElem?_getD, List.getElem?_eq_getElem h]
  have hy : (ys.drop i).headD 0 = ys.getD i 0 := by
    rw [List.getD_eq_getElem?_getD, List.headD_eq_head?_getD, List.head?_drop]
  have ht : (ys.drop i).tail = ys.drop (i + 1) := by rw [List.tail_drop]
  rw [hx, minusL, hy, ht]
def Live100 (a b v : AV) (i : Nat) (T1 : T AV) : Prop := T1.get 0 = some a ∧ T1.get 1 = some b ∧ T1.get 7 = some (.int .i64 (Int.ofNat i)) ∧ T1.get 5 = some v
theorem minus_run {lo : Nat} {a b : AV} {xs ys : List Nat} {s : St} (ha : Row s.h 1 (ints xs) a) (hb : Row s.h 1 (ints ys) b) (hF : Fresh s) (hlo : lo ≤ s.c) (hx : xs.length ≤ 1000000) (hsx : Small xs) (hsy : Small ys) :
    FunR E lo 100 [a, b] s fun v s' => Fresh s' ∧ Kept s.c s s' ∧ Own s.c s' 3 1 (ints (minusL 0 xs ys)) v := by
  refine FunR.body (fn := Tryz.f100) fn100' rfl ?_
  have la := lenE_len ha 3
  have lb := lenE_len hb 3
  have hn : (max [a, b].length Tryz.f100.ntmps) = 40 := rfl
  generalize max [a, b].length Tryz.f100.ntmps = n at hn
  subst hn
  have g0 : (argsT 0 [a, b]).get 0 = some a := rfl
  have g1 : (argsT 0 [a, b]).get 1 = some b := rfl
  generalize argsT 0 [a, b] = T0 at g0 g1
  have hn : (40 : Nat) = 40 := rfl
  refine CodeR.seq (CodeR.reg rfl ?_)
  (first | (refine SeqR.skipN ?_ rfl rfl ?_; (simp only [sA, wantE, T.get_set, Nat.reduceEqDiff] <;> with_reducible rfl)) | ((first | refine SeqR.stepN (v := ?_) (s' := ?_) rfl ?_ rfl ?_ rfl rfl ?_ | refine SeqR.stepLN (v := ?_) (s' := ?_) rfl ?_ rfl ?_ rfl rfl ?_); rotate_left 3; (intro call lc; simp only [sA, opE, kindOf, pureE, heapE, rho, rhos, T.get_set, Nat.reduceEqDiff, nb00, absV, absS, l_slice, l_void, l_str, l_arr, natE, loadE, isConst, TK.agg] <;> rfl); rotate_left 1; (simp only [sA, wantE, T.get_set, Nat.reduceEqDiff] <;> with_reducible rfl)))
  refine SeqR.done ?_
  refine CodeR.seq (CodeR.reg rfl ?_)
  (first | (refine SeqR.skipN ?_ rfl rfl ?_; (simp only [sA, wantE, T.get_set, Nat.reduceEqDiff] <;> with_reducible rfl)) | ((first | refine SeqR.stepN (v := ?_) (s' := ?_) rfl ?_ rfl ?_ rfl rfl ?_ | refine SeqR.stepLN (v := ?_) (s' := ?_) rfl ?_ rfl ?_ rfl rfl ?_); rotate_left 3; (intro call lc; simp only [sA, opE, kindOf, pureE, heapE, rho, rhos, T.get_set, Nat.reduceEqDiff, nb00, absV, absS, l_slice, l_void, l_str, l_arr, natE, loadE, isConst, TK.agg] <;> rfl); rotate_left 1; (simp only [sA, wantE, T.get_set, Nat.reduceEqDiff] <;> with_reducible rfl)))
  refine SeqR.done ?_
  refine CodeR.seq (CodeR.reg rfl ?_)
  (first | (refine SeqR.skipN ?_ rfl rfl ?_; (simp only [sA, wantE, T.get_set, Nat.reduceEqDiff] <;> with_reducible rfl)) | ((first | refine SeqR.stepN (v := ?_) (s' := ?_) rfl ?_ rfl ?_ rfl rfl ?_ | refine SeqR.stepLN (v := ?_) (s' := ?_) rfl ?_ rfl ?_ rfl rfl ?_); rotate_left 3; (intro call lc; simp only [sA, opE, kindOf, pureE, heapE, rho, rhos, T.get_set, Nat.reduceEqDiff, nb00, absV, absS, l_slice, l_void, l_str, l_arr, natE, loadE, isConst, TK.agg] <;> rfl); rotate_left 1; (simp only [sA, wantE, T.get_set, Nat.reduceEqDiff] <;> with_reducible rfl)))
  refine SeqR.done ?_
  refine CodeR.seq (CodeR.seq (CodeR.reg rfl ?_))
  (first | (refine SeqR.skipN ?_ rfl rfl ?_; (simp only [sA, wantE, T.get_set, Nat.reduceEqDiff] <;> with_reducible rfl)) | ((first | refine SeqR.stepN (v := ?_) (s' := ?_) rfl ?_ rfl ?_ rfl rfl ?_ | refine SeqR.stepLN (v := ?_) (s' := ?_) rfl ?_ rfl ?_ rfl rfl ?_); rotate_left 3; (intro call lc; simp only [sA, opE, kindOf, pureE, heapE, rho, rhos, T.get_set, Nat.reduceEqDiff, nb00, absV, absS, l_slice, l_void, l_str, l_arr, natE, loadE, isConst, TK.agg] <;> rfl); rotate_left 1; (simp only [sA, wantE, T.get_set, Nat.reduceEqDiff] <;> with_reducible rfl)))
  refine SeqR.done ?_
  refine CodeR.block (CodeR.loop (fun k m s1 => ∃ i c outs v T1, m = ⟨40, T1⟩ ∧ i + k = xs.length ∧ c ≤ 1 ∧ Live100 a b v i T1 ∧ T1.get 6 = some (.int .i64 (Int.ofNat c)) ∧
    Own s.c s1 3 1 (ints outs) v ∧ Fresh s1 ∧ Kept s.c s s1 ∧ minusL 0 xs ys = outs ++ minusL c (xs.drop i) (ys.drop i) ∧ outs.length = i) xs.length ?_ ?_)
  · refine ⟨0, 0, [], .slice none 0 0 0, _, rfl, by omega, by omega, ⟨?_, ?_, ?_, ?_⟩, ?_, .inl ⟨rfl, rfl⟩, hF, Kept.refl _ _, rfl, rfl⟩
    simp only [T.get_set, Nat.reduceEqDiff, if_true, if_false, g0]
    simp only [T.get_set, Nat.reduceEqDiff, if_true, if_false, g1]
    simp only [T.get_set, Nat.reduceEqDiff, if_true, if_false]
    · rfl
    simp only [T.get_set, Nat.reduceEqDiff, if_true, if_false]
    simp only [T.get_set, Nat.reduceEqDiff, if_true, if_false]
    · rfl
  · rintro k m s1 ⟨i, c, outs, v, T1, rfl, hik, hc1, ⟨h0, h1, h7, h5⟩, h6, hown, hF1, hK1, hpl, hol⟩
    have x0 := hsx.get i
    have y0 := hsy.get i
    refine CodeR.seq (CodeR.seq (CodeR.reg rfl ?_))
    iterate 4 (first | (refine SeqR.skipN ?_ rfl rfl ?_; (simp only [sA, wantE, T.get_set, Nat.reduceEqDiff, h0, h7, tt24, i24, la, b_lss] <;> with_reducible rfl)) | ((first | refine SeqR.stepN (v := ?_) (s' := ?_) rfl ?_ rfl ?_ rfl rfl ?_ | refine SeqR.stepLN (v := ?_) (s' := ?_) rfl ?_ rfl ?_ rfl rfl ?_); rotate_left 3; (intro call lc; simp only [sA, opE, kindOf, pureE, heapE, rho, rhos, T.get_set, Nat.reduceEqDiff, nb00, absV, absS, l_slice, l_void, l_str, l_arr, natE, loadE, isConst, TK.agg, h0, h7, tt24, i24, la, b_lss] <;> rfl); rotate_left 1; (simp only [sA, wantE, T.get_set, Nat.reduceEqDiff, h0, h7, tt24, i24, la, b_lss] <;> with_reducible rfl)))
    refine SeqR.done ?_
    refine CodeR.cond (t := ltB (Int.ofNat i) (Int.ofNat xs.length)) (by simp only [rho, T.get_set, Nat.reduceEqDiff, if_true, if_false]) ?_ ?_
    · intro hA
      rw [ltB_nat] at hA
      have hi : i < xs.length := by simpa using hA
      refine CodeR.skip ?_
      obtain ⟨ba, oa, na, ca, qa, ka, rfl, e1, e2, e3⟩ := Row.int (ha.keep hF.lt hK1) hi
      have e4 : Nat.blt ba s1.c = true := blt_iff.2 (hF1.lt ba ka e2)
      have e5 : wr .i64 (Int.ofNat (xs.getD i 0) - Int.ofNat c) = Int.ofNat (xs.getD i 0) - Int.ofNat c := wr_small (by simp only [Int.ofNat_eq_natCast]; omega) (by simp only [Int.ofNat_eq_natCast]; omega)
      refine CodeR.seq (CodeR.block (CodeR.seq (CodeR.reg rfl ?_)))
      iterate 7 (first | (refine SeqR.skipN ?_ rfl rfl ?_; (simp only [sA, wantE, T.get_set, Nat.reduceEqDiff, h0, h1, h7, h6, tt24, i24, tt3, i3, sz3, e1, e2, e3, e4, e5, b_sub] <;> with_reducible rfl)) | ((first | refine SeqR.stepN (v := ?_) (s' := ?_) rfl ?_ rfl ?_ rfl rfl ?_ | refine SeqR.stepLN (v := ?_) (s' := ?_) rfl ?_ rfl ?_ rfl rfl ?_); rotate_left 3; (intro call lc; simp only [sA, opE, kindOf, pureE, heapE, rho, rhos, T.get_set, Nat.reduceEqDiff, nb00, absV, absS, l_slice, l_void, l_str, l_arr, natE, loadE, isConst, TK.agg, h0, h1, h7, h6, tt24, i24, tt3, i3, sz3, e1, e2, e3, e4, e5, b_sub] <;> rfl); rotate_left 1; (simp only [sA, wantE, T.get_set, Nat.reduceEqDiff, h0, h1, h7, h6, tt24, i24, tt3, i3, sz3, e1, e2, e3, e4, e5, b_sub] <;> with_reducible rfl)))
      refine SeqR.done ?_
      refine CodeR.seq (CodeR.mono (Q := fun e m' s'' => e = .nrm ∧ s'' = s1 ∧ ∃ T2, m' = ⟨40, T2⟩ ∧ Live100 (.slice (some (ba, oa)) na ca qa) b v i T2 ∧ T2.get 8 = some (.int .i64 (Int.ofNat (xs.getD i 0) - Int.ofNat c - Int.ofNat (ys.getD i 0)))) (CodeR.seq (CodeR.reg rfl ?_)) ?_)
      · iterate 4 (first | (refine SeqR.skipN ?_ rfl rfl ?_; (simp only [sA, wantE, T.get_set, Nat.reduceEqDiff, h0, h1, h7, h6, tt24, i24, la, lb, b_lss] <;> with_reducible rfl)) | ((first | refine SeqR.stepN (v := ?_) (s' := ?_) rfl ?_ rfl ?_ rfl rfl ?_ | refine SeqR.stepLN (v := ?_) (s' := ?_) rfl ?_ rfl ?_ rfl rfl ?_); rotate_left 3; (intro call lc; simp only [sA, opE, kindOf, pureE, heapE, rho, rhos, T.get_set, Nat.reduceEqDiff, nb00, absV, absS, l_slice, l_void, l_str, l_arr, natE, loadE, isConst, TK.agg, h0, h1, h7, h6, tt24, i24, la, lb, b_lss] <;> rfl); rotate_left 1; (simp only [sA, wantE, T.get_set, Nat.reduceEqDiff, h0, h1, h7, h6, tt24, i24, la, lb, b_lss] <;> with_reducible rfl)))
        refine SeqR.done ?_
        refine CodeR.cond (t := ltB (Int.ofNat i) (Int.ofNat ys.length)) (by simp only [rho, T.get_set, Nat.reduceEqDiff, if_true, if_false]) ?_ ?_
        · intro hB
          rw [ltB_nat] at hB
          obtain ⟨bb, ob, nb, cb, qb, kb, rfl, f1, f2, f3⟩ := Row.int (hb.keep hF.lt hK1) (show i < ys.length by simpa using hB)
          have f4 : Nat.blt bb s1.c = true := blt_iff.2 (hF1.lt bb kb f2)
          have f5 : wr .i64 (Int.ofNat (xs.getD i 0) - Int.ofNat c - Int.ofNat (ys.getD i 0)) = Int.ofNat (xs.getD i 0) - Int.ofNat c - Int.ofNat (ys.getD i 0) := wr_small (by simp only [Int.ofNat_eq_natCast]; omega) (by simp only [Int.ofNat_eq_natCast]; omega)
          refine CodeR.reg rfl ?_
          iterate 7 (first | (refine SeqR.skipN ?_ rfl rfl ?_; (simp only [sA, wantE, T.get_set, Nat.reduceEqDiff, h0, h1, h7, h6, tt24, i24, tt3, i3, sz3, f1, f2, f3, f4, f5, b_sub] <;> with_reducible rfl)) | ((first | refine SeqR.stepN (v := ?_) (s' := ?_) rfl ?_ rfl ?_ rfl rfl ?_ | refine SeqR.stepLN (v := ?_) (s' := ?_) rfl ?_ rfl ?_ rfl rfl ?_); rotate_left 3; (intro call lc; simp only [sA, opE, kindOf, pureE, heapE, rho, rhos, T.get_set, Nat.reduceEqDiff, nb00, absV, absS, l_slice, l_void, l_str, l_arr, natE, loadE, isConst, TK.agg, h0, h1, h7, h6, tt24, i24, tt3, i3, sz3, f1, f2, f3, f4, f5, b_sub] <;> rfl); rotate_left 1; (simp only [sA, wantE, T.get_set, Nat.reduceEqDiff, h0, h1, h7, h6, tt24, i24, tt3, i3, sz3, f1, f2, f3, f4, f5, b_sub] <;> with_reducible rfl)))
          refine SeqR.done ⟨rfl, rfl, _, rfl, ⟨?_, ?_, ?_, ?_⟩, ?_⟩
          simp only [T.get_set, Nat.reduceEqDiff, if_true, if_false, h0]
          simp only [T.get_set, Nat.reduceEqDiff, if_true, if_false, h1]
          simp only [T.get_set, Nat.reduceEqDiff, if_true, if_false, h7]
          simp only [T.get_set, Nat.reduceEqDiff, if_true, if_false, h5]
          simp only [T.get_set, Nat.reduceEqDiff, if_true, if_false]
        · intro hB
          rw [ltB_nat] at hB
          have e6 : ys.getD i 0 = 0 := by rw [List.getD_eq_getElem?_getD, List.getElem?_eq_none (by simpa using hB)]; rfl
          rw [e6]
          refine CodeR.skip ⟨rfl, rfl, _, rfl, ⟨?_, ?_, ?_, ?_⟩, ?_⟩
          simp only [T.get_set, Nat.reduceEqDiff, if_true, if_false, h0]
          simp only [T.get_set, Nat.reduceEqDiff, if_true, if_false, h1]
          simp only [T.get_set, Nat.reduceEqDiff, if_true, if_false, h7]
          simp only [T.get_set, Nat.reduceEqDiff, if_true, if_false, h5]
          simp only [T.get_set, Nat.reduceEqDiff, if_true, if_false]
          · simp
      · rintro e m' s'' ⟨rfl, rfl, T2, rfl, ⟨h0, h1, h7, h5⟩, h8⟩
        generalize hd : Int.ofNat (xs.getD i 0) - Int.ofNat c - Int.ofNat (ys.getD i 0) = dd at h8
        refine CodeR.seq (CodeR.reg rfl ?_)
        (first | (refine SeqR.skipN ?_ rfl rfl ?_; (simp only [sA, wantE, T.get_set, Nat.reduceEqDiff] <;> with_reducible rfl)) | ((first | refine SeqR.stepN (v := ?_) (s' := ?_) rfl ?_ rfl ?_ rfl rfl ?_ | refine SeqR.stepLN (v := ?_) (s' := ?_) rfl ?_ rfl ?_ rfl rfl ?_); rotate_left 3; (intro call lc; simp only [sA, opE, kindOf, pureE, heapE, rho, rhos, T.get_set, Nat.reduceEqDiff, nb00, absV, absS, l_slice, l_void, l_str, l_arr, natE, loadE, isConst, TK.agg] <;> rfl); rotate_left 1; (simp only [sA, wantE, T.get_set, Nat.reduceEqDiff] <;> with_reducible rfl)))
        refine SeqR.done ?_
        refine CodeR.seq (CodeR.mono (Q := fun e m' s3 => e = .nrm ∧ s3 = s'' ∧ ∃ T3, m' = ⟨40, T3⟩ ∧ Live100 (.slice (some (ba, oa)) na ca qa) b v i T3 ∧ T3.get 8 = some (.int .i64 (Int.ofNat (if xs.getD i 0 < c + ys.getD i 0 then xs.getD i 0 + 1000000000 - (c + ys.getD i 0) else xs.getD i 0 - (c + ys.getD i 0)))) ∧ T3.get 6 = some (.int .i64 (Int.ofNat (if xs.getD i 0 < c + ys.getD i 0 then 1 else 0)))) (CodeR.seq (CodeR.reg rfl ?_)) ?_)
        · iterate 2 (first | (refine SeqR.skipN ?_ rfl rfl ?_; (simp only [sA, wantE, T.get_set, Nat.reduceEqDiff, h8, b_lss] <;> with_reducible rfl)) | ((first | refine SeqR.stepN (v := ?_) (s' := ?_) rfl ?_ rfl ?_ rfl rfl ?_ | refine SeqR.stepLN (v := ?_) (s' := ?_) rfl ?_ rfl ?_ rfl rfl ?_); rotate_left 3; (intro call lc; simp only [sA, opE, kindOf, pureE, heapE, rho, rhos, T.get_set, Nat.reduceEqDiff, nb00, absV, absS, l_slice, l_void, l_str, l_arr, natE, loadE, isConst, TK.agg, h8, b_lss] <;> rfl); rotate_left 1; (simp only [sA, wantE, T.get_set, Nat.reduceEqDiff, h8, b_lss] <;> with_reducible rfl)))
          refine SeqR.done ?_
          have hcond : ltB dd 0 = decide (xs.getD i 0 < c + ys.getD i 0) := by
            rw [ltB_eq, Bool.eq_iff_iff]
            simp only [decide_eq_true_eq, ← hd, Int.ofNat_eq_natCast]
            omega
          refine CodeR.cond (t := ltB dd 0) (by simp only [rho, T.get_set, Nat.reduceEqDiff, if_true, if_false]) ?_ ?_
          · intro hB
            rw [hcond] at hB
            have hB' := of_decide_eq_true hB
            rw [if_pos hB', if_pos hB']
            have f6 : wr .i64 (dd + 1000000000) = Int.ofNat (xs.getD i 0 + 1000000000 - (c + ys.getD i 0)) := by
              rw [wr_small (by rw [← hd]; simp only [Int.ofNat_eq_natCast]; omega) (by rw [← hd]; simp only [Int.ofNat_eq_natCast]; omega), ← hd]
              simp only [Int.ofNat_eq_natCast]
              omega
            refine CodeR.reg rfl ?_
            iterate 4 (first | (refine SeqR.skipN ?_ rfl rfl ?_; (simp only [sA, wantE, T.get_set, Nat.reduceEqDiff, h8, b_add, f6] <;> with_reducible rfl)) | ((first | refine SeqR.stepN (v := ?_) (s' := ?_) rfl ?_ rfl ?_ rfl rfl ?_ | refine SeqR.stepLN (v := ?_) (s' := ?_) rfl ?_ rfl ?_ rfl rfl ?_); rotate_left 3; (intro call lc; simp only [sA, opE, kindOf, pureE, heapE, rho, rhos, T.get_set, Nat.reduceEqDiff, nb00, absV, absS, l_slice, l_void, l_str, l_arr, natE, loadE, isConst, TK.agg, h8, b_add, f6] <;> rfl); rotate_left 1; (simp only [sA, wantE, T.get_set, Nat.reduceEqDiff, h8, b_add, f6] <;> with_reducible rfl)))
            refine SeqR.done ⟨rfl, rfl, _, rfl, ⟨?_, ?_, ?_, ?_⟩, ?_, ?_⟩
            simp only [T.get_set, Nat.reduceEqDiff, if_true, if_false, h0]
            simp only [T.get_set, Nat.reduceEqDiff, if_true, if_false, h1]
            simp only [T.get_set, Nat.reduceEqDiff, if_true, if_false, h7]
            simp only [T.get_set, Nat.reduceEqDiff, if_true, if_false, h5]
            simp only [T.get_set, Nat.reduceEqDiff, if_true, if_false]
            simp only [T.get_set, Nat.reduceEqDiff, if_true, if_false]
            · rfl
          · intro hB
            rw [hcond] at hB
            have hB' := of_decide_eq_false hB
            rw [if_neg hB', if_neg hB']
            have f6 : dd = Int.ofNat (xs.getD i 0 - (c + ys.getD i 0)) := by
              rw [← hd]
              simp only [Int.ofNat_eq_natCast]
              omega
            refine CodeR.skip ⟨rfl, rfl, _, rfl, ⟨?_, ?_, ?_, ?_⟩, ?_, ?_⟩
            simp only [T.get_set, Nat.reduceEqDiff, if_true, if_false, h0]
            simp only [T.get_set, Nat.reduceEqDiff, if_true, if_false, h1]
            simp only [T.get_set, Nat.reduceEqDiff, if_true, if_false, h7]
            simp only [T.get_set, Nat.reduceEqDiff, if_true, if_false, h5]
            simp only [T.get_set, Nat.reduceEqDiff, if_true, if_false, h8]
            · rw [f6]
            simp only [T.get_set, Nat.reduceEqDiff, if_true, if_false]
            · rfl
        · rintro e m' s3 ⟨rfl, rfl, T4, rfl, ⟨h0, h1, h7, h5⟩, h8, h6⟩
          generalize ht : (if xs.getD i 0 < c + ys.getD i 0 then xs.getD i 0 + 1000000000 - (c + ys.getD i 0) else xs.getD i 0 - (c + ys.getD i 0)) = t at h8
          refine CodeR.reg rfl ?_
          iterate 2 (first | (refine SeqR.skipN ?_ rfl rfl ?_; (simp only [sA, wantE, T.get_set, Nat.reduceEqDiff, h5, h8] <;> with_reducible rfl)) | ((first | refine SeqR.stepN (v := ?_) (s' := ?_) rfl ?_ rfl ?_ rfl rfl ?_ | refine SeqR.stepLN (v := ?_) (s' := ?_) rfl ?_ rfl ?_ rfl rfl ?_); rotate_left 3; (intro call lc; simp only [sA, opE, kindOf, pureE, heapE, rho, rhos, T.get_set, Nat.reduceEqDiff, nb00, absV, absS, l_slice, l_void, l_str, l_arr, natE, loadE, isConst, TK.agg, h5, h8] <;> rfl); rotate_left 1; (simp only [sA, wantE, T.get_set, Nat.reduceEqDiff, h5, h8] <;> with_reducible rfl)))
          refine SeqR.step (v := _) (s' := _) rfl rfl (fun call lc => op_build1 (k := .i64) (n := Int.ofNat t) (by simp only [rho, T.get_set, if_true])) rfl rfl ?_
          have hF3 : Fresh ⟨s3.h.set s3.c ⟨3, [.int .i64 (Int.ofNat t)]⟩, s3.c + 1⟩ := fun b' hb' => by
            simp only at hb' ⊢
            rw [T.get_set, if_neg (by omega)]
            exact hF1 b' (by omega)
          have hK3 : Kept s3.c s3 ⟨s3.h.set s3.c ⟨3, [.int .i64 (Int.ofNat t)]⟩, s3.c + 1⟩ := ⟨Nat.le_succ _, fun b' hb' => by simp only; rw [T.get_set, if_neg (by omega)]⟩
          have hcs := hK1.mono
          have hown3 := hown.keep hF1 hK3
          refine SeqR.append1 (x := .tmp 35) (y := .tmp 37) (b := s3.c) (w := .int .i64 (Int.ofNat t)) (cs := ints outs) (v := v) rfl rfl rfl rfl (by simp only [rho, T.get_set, Nat.reduceEqDiff, if_true, if_false, h5]) (by simp only [rho, T.get_set, if_true]) (by simp only [T.get_set, if_true]) rfl hlo (by simp only; omega) hown3 hF3 (ones_ints _) (by rw [ints_length]; omega) ?_
          intro v' s4 q1 q2 q3
          (first | (refine SeqR.skipN ?_ rfl rfl ?_; (simp only [sA, wantE, T.get_set, Nat.reduceEqDiff] <;> with_reducible rfl)) | ((first | refine SeqR.stepN (v := ?_) (s' := ?_) rfl ?_ rfl ?_ rfl rfl ?_ | refine SeqR.stepLN (v := ?_) (s' := ?_) rfl ?_ rfl ?_ rfl rfl ?_); rotate_left 3; (intro call lc; simp only [sA, opE, kindOf, pureE, heapE, rho, rhos, T.get_set, Nat.reduceEqDiff, nb00, absV, absS, l_slice, l_void, l_str, l_arr, natE, loadE, isConst, TK.agg] <;> rfl); rotate_left 1; (simp only [sA, wantE, T.get_set, Nat.reduceEqDiff] <;> with_reducible rfl)))
          refine SeqR.done ?_
          refine CodeR.reg rfl ?_
          have e8 := wr_add (a := i) (b := 1) (by omega)
          have e9 : (1 : Int) = Int.ofNat 1 := rfl
          iterate 3 (first | (refine SeqR.skipN ?_ rfl rfl ?_; (simp only [sA, wantE, T.get_set, Nat.reduceEqDiff, h7, b_add, e9, e8] <;> with_reducible rfl)) | ((first | refine SeqR.stepN (v := ?_) (s' := ?_) rfl ?_ rfl ?_ rfl rfl ?_ | refine SeqR.stepLN (v := ?_) (s' := ?_) rfl ?_ rfl ?_ rfl rfl ?_); rotate_left 3; (intro call lc; simp only [sA, opE, kindOf, pureE, heapE, rho, rhos, T.get_set, Nat.reduceEqDiff, nb00, absV, absS, l_slice, l_void, l_str, l_arr, natE, loadE, isConst, TK.agg, h7, b_add, e9, e8] <;> rfl); rotate_left 1; (simp only [sA, wantE, T.get_set, Nat.reduceEqDiff, h7, b_add, e9, e8] <;> with_reducible rfl)))
          refine SeqR.done ⟨k - 1, by omega, i + 1, (if xs.getD i 0 < c + ys.getD i 0 then 1 else 0), outs ++ [t], v', _, rfl, by omega, by split <;> omega, ⟨?_, ?_, ?_, ?_⟩, ?_, ?_, q2, ?_, ?_, ?_⟩
          simp only [T.get_set, Nat.reduceEqDiff, if_true, if_false, h0]
          simp only [T.get_set, Nat.reduceEqDiff, if_true, if_false, h1]
          simp only [T.get_set, Nat.reduceEqDiff, if_true, if_false]
          simp only [T.get_set, Nat.reduceEqDiff, if_true, if_false]
          simp only [T.get_set, Nat.reduceEqDiff, if_true, if_false, h6]
          · rw [← ints_append]; exact q1
          · exact hK1.trans ((hK3.le (by omega)).trans q3)
          · rw [hpl, minusL_step hi, ht]
            simp
          · simp [hol]
    · intro hA
      rw [ltB_nat] at hA
      have hi : ¬ i < xs.length := by simpa using hA
      refine CodeR.exit ?_
      simp only [Ex.then, Ex.inBlock, if_true]
      refine CodeR.seq (CodeR.reg rfl ?_)
      iterate 2 (first | (refine SeqR.skipN ?_ rfl rfl ?_; (simp only [sA, wantE, T.get_set, Nat.reduceEqDiff, h5] <;> with_reducible rfl)) | ((first | refine SeqR.stepN (v := ?_) (s' := ?_) rfl ?_ rfl ?_ rfl rfl ?_ | refine SeqR.stepLN (v := ?_) (s' := ?_) rfl ?_ rfl ?_ rfl rfl ?_); rotate_left 3; (intro call lc; simp only [sA, opE, kindOf, pureE, heapE, rho, rhos, T.get_set, Nat.reduceEqDiff, nb00, absV, absS, l_slice, l_void, l_str, l_arr, natE, loadE, isConst, TK.agg, h5] <;> rfl); rotate_left 1; (simp only [sA, wantE, T.get_set, Nat.reduceEqDiff, h5] <;> with_reducible rfl)))
      refine SeqR.done ?_
      refine CodeR.ret ⟨.inr rfl, [v], ?_, hF1, hK1, ?_⟩
      · show ressE E _ s1 [.tmp 4] = _
        simp only [ressE, resE, T.get_set, if_true, Option.bind_some, Option.map_some]
      · have : minusL 0 xs ys = outs := by
          rw [hpl, List.drop_eq_nil_of_le (show xs.length ≤ i by omega), minusL, List.append_nil]
        rw [this]
        exact hown
end Go.Proofs.YtaocoplfdhcoaaaGreatDoor.EvA
set_option linter.unusedVariables false
set_option linter.unusedSimpArgs false
set_option maxRecDepth 20000
set_option maxHeartbeats 2000000
namespace Go.Proofs.YtaocoplfdhcoaaaGreatDoor.EvA
open Go Go.RowKit Go.Proofs.YtaocoplfdhcoaaaGreatDoor.Ev
theorem fn20' : E.fns.get 20 = some Tryz.f20 := by kernel_rfl
theorem plusL_length : ∀ (c : Nat) (xs ys : List Nat), (plusL c xs ys).length ≤ max xs.length ys.length + 1
  | c, [], [] => by rw [plusL]; split <;> simp
  | c, x :: xs, [] => by rw [plusL]; have := plusL_length ((c + x) / 1000000000) xs []; simp at this ⊢; omega
  | c, [], y :: ys => by rw [plusL]; have := plusL_length ((c + y) / 1000000000) [] ys; simp at this ⊢; omega
  | c, x :: xs, y :: ys => by rw [plusL]; have := plusL_length ((c + x + y) / 1000000000) xs ys; simp at this ⊢; omega
theorem minusL_length : ∀ (c : Nat) (xs ys : List Nat), (minusL c xs ys).length = xs.length
  | c, [], ys => rfl
  | c, x :: xs, ys => by rw [minusL]; simp [minusL_length]
def trimW (neg : Bool) (zs : List Nat) : Bool × List Nat := (neg && !(trimL zs).isEmpty, trimL zs)
def addWL (x y : Bool × List Nat) : Bool × List Nat :=
  if x.1 = y.1 then trimW x.1 (plusL 0 x.2 y.2) else if 0 ≤ aboveL x.2 y.2 then trimW x.1 (minusL 0 x.2 y.2) else trimW y.1 (minusL 0 y.2 x.2)
/-- A whole number, as a value. -/
def WV (h : T Blk) (x : Bool × List Nat) (v : AV) : Prop := ∃ d, v = wv x.1 d ∧ Row h 1 (ints x.2) d
theorem op_build32 {call : CallT'} {lc lo old : Nat} {m : T AV} {s : St} {x y : Operand} {b : Bool} {v : AV} (hx : rho m x = some (.bool b)) (hy : rho m y = some v) (hone : v.one = true) :
    opE E call lc lo old m s (.build 32 #[(0, x), (1, y)]) = some (.agg [.bool b, v], s) := by
  have hz : v.cells = [v] := one_cells hone
  simp only [opE, kindOf, nb00, cond_true, pureE, tt32, i32, Option.bind_some, List.toList_toArray, fillE, hx, hy, hz, List.getElem?_cons_zero, List.getElem?_cons_succ, sz4, sz24, Option.map_some]
  rfl
theorem Row.set_other {h : T Blk} {zs : List Nat} {v : AV} (hr : Row h 1 (ints zs) v) {b0 : Nat} {k0 k' : Blk} (hg : h.get b0 = some k0) (hk : ∀ x ∈ k0.cells, ∀ n, x ≠ .int .i64 n) : Row (h.set b0 k') 1 (ints zs) v := by
  unfold Row at hr ⊢
  split at hr
  · exact hr
  · rename_i b o n c q
    refine ⟨hr.1, hr.2.1, hr.2.2.1, fun hn => ?_⟩
    have h2 := hr.2.2.2 hn
    have hne : b0 ≠ b := fun e => by
      subst e
      unfold cellsAt at h2
      rw [hg, Option.bind_some] at h2
      cases hle : Nat.ble (o + n * 1) k0.cells.length with
      | false => rw [hle] at h2; cases h2
      | true =>
        rw [hle] at h2
        simp only [cond_true, Option.some.injEq] at h2
        have h3 := hr.1
        rw [ints_length] at h3
        cases zs with
        | nil => simp at h3; omega
        | cons z zs =>
          have : AV.int .i64 (Int.ofNat z) ∈ (k0.cells.drop o).take (n * 1) := by rw [h2]; exact List.mem_cons_self
          exact hk _ (List.mem_of_mem_drop (List.mem_of_mem_take this)) _ rfl
    unfold cellsAt at h2 ⊢
    rw [T.get_set, if_neg hne]
    exact h2
  · exact hr
  · exact hr.elim
theorem zero32 : ∀ x ∈ (⟨32, i32.zero.cells⟩ : Blk).cells, ∀ n, x ≠ .int .i64 n := by
  intro x hx n
  have : x = .bool false ∨ x = .slice none 0 0 0 := by
    have h : x ∈ [AV.bool false, AV.slice none 0 0 0] := hx
    simpa using h
  rcases this with rfl | rfl <;> simp
theorem b_eqlB (c : Bool) (a b : Bool) : binE E .eql 4 c (.bool a) (.bool b) = some (.bool (a == b)) := by cases c <;> rfl
theorem AddW_run {lo : Nat} {va vb : AV} {x y : Bool × List Nat} {s : St} (hva : WV s.h x va) (hvb : WV s.h y vb) (hF : Fresh s) (hlo : lo ≤ s.c) (hx : x.2.length ≤ 100000) (hy : y.2.length ≤ 100000) (hsx : Small x.2) (hsy : Small y.2) :
    FunR E lo 20 [va, vb] s fun v s' => Fresh s' ∧ Kept s.c s s' ∧ WV s'.h (addWL x y) v := by
  obtain ⟨na, xs⟩ := x
  obtain ⟨nb, ys⟩ := y
  obtain ⟨da, rfl, ha⟩ := hva
  obtain ⟨db, rfl, hb⟩ := hvb
  simp only at ha hb hx hy hsx hsy ⊢
  refine FunR.body (fn := Tryz.f20) fn20' rfl ?_
  have hn : (max [wv na da, wv nb db].length Tryz.f20.ntmps) = 43 := rfl
  generalize max [wv na da, wv nb db].length Tryz.f20.ntmps = n at hn
  subst hn
  have g0 : (argsT 0 [wv na da, wv nb db]).get 0 = some (.agg [.bool na, da]) := rfl
  have g1 : (argsT 0 [wv na da, wv nb db]).get 1 = some (.agg [.bool nb, db]) := rfl
  generalize argsT 0 [wv na da, wv nb db] = T0 at g0 g1
  have hn : (43 : Nat) = 43 := rfl
  have oa : da.one = true := Row.one ha
  have ob : db.one = true := Row.one hb
  have h1 : ones [.bool na, da] = true := by simp only [ones, oa, Bool.and_true]; rfl
  have h2 : ones [.bool nb, db] = true := by simp only [ones, ob, Bool.and_true]; rfl
  refine CodeR.seq (CodeR.reg rfl ?_)
  refine SeqR.step (v := .ptr (some (s.c, 0))) (s' := ⟨s.h.set s.c ⟨32, [.bool na, da]⟩, s.c + 1⟩) rfl rfl (fun call lc => ?_) rfl rfl ?_
  · simp only [opE, kindOf, show Nat.beq 2 0 = false from rfl, cond_false, heapE, rho, g0, Option.bind_some, AV.cells, newAt, h1, cond_true, Option.map_some]
  refine SeqR.step (v := .ptr (some (s.c + 1, 0))) (s' := ⟨(s.h.set s.c ⟨32, [.bool na, da]⟩).set (s.c + 1) ⟨32, [.bool nb, db]⟩, s.c + 2⟩) rfl rfl (fun call lc => ?_) rfl rfl ?_
  · simp only [opE, kindOf, show Nat.beq 2 0 = false from rfl, cond_false, heapE, rho, T.get_set, Nat.reduceEqDiff, if_false, g1, Option.bind_some, AV.cells, newAt, h2, cond_true, Option.map_some]
  refine SeqR.step (v := .ptr (some (s.c + 2, 0))) (s' := ⟨((s.h.set s.c ⟨32, [.bool na, da]⟩).set (s.c + 1) ⟨32, [.bool nb, db]⟩).set (s.c + 2) ⟨32, i32.zero.cells⟩, s.c + 3⟩) rfl rfl (fun call lc => ?_) rfl rfl ?_
  · simp only [opE, kindOf, show Nat.beq 2 0 = false from rfl, cond_false, heapE, tt32, Option.bind_some, newAt]
    rfl
  refine SeqR.done ?_
  obtain ⟨s1, hs1⟩ : ∃ s1 : St, s1 = ⟨((s.h.set s.c ⟨32, [.bool na, da]⟩).set (s.c + 1) ⟨32, [.bool nb, db]⟩).set (s.c + 2) ⟨32, i32.zero.cells⟩, s.c + 3⟩ := ⟨_, rfl⟩
  rw [← hs1]
  have hb0 : s1.h.get s.c = some ⟨32, [.bool na, da]⟩ := by
    rw [hs1]; simp only; rw [T.get_set, if_neg (by omega), T.get_set, if_neg (by omega), T.get_set, if_pos rfl]
  have hb1 : s1.h.get (s.c + 1) = some ⟨32, [.bool nb, db]⟩ := by
    rw [hs1]; simp only; rw [T.get_set, if_neg (by omega), T.get_set, if_pos rfl]
  have hb2 : s1.h.get (s.c + 2) = some ⟨32, i32.zero.cells⟩ := by
    rw [hs1]; simp only; rw [T.get_set, if_pos rfl]
  have hF1 : Fresh s1 := fun b hb' => by
    rw [hs1] at hb' ⊢
    simp only at hb' ⊢
    rw [T.get_set, if_neg (by omega), T.get_set, if_neg (by omega), T.get_set, if_neg (by omega)]
    exact hF b (by omega)
  have hK1 : Kept s.c s s1 := ⟨by rw [hs1]; simp, fun b hb' => by
    rw [hs1]
    simp only
    rw [T.get_set, if_neg (by omega), T.get_set, if_neg (by omega), T.get_set, if_neg (by omega)]⟩
  have hc1 : s1.c = s.c + 3 := by rw [hs1]
  have e2 : Nat.blt s.c s1.c = true := blt_iff.2 (by omega)
  have e3 : Nat.blt (s.c + 1) s1.c = true := blt_iff.2 (by omega)
  have ha1 := ha.keep hF.lt hK1
  have hb1' := hb.keep hF.lt hK1
  have t2 : (((T0.set 2 (.ptr (some (s.c, 0)))).set 3 (.ptr (some (s.c + 1, 0)))).set 4 (.ptr (some (s.c + 2, 0)))).get 2 = some (.ptr (some (s.c, 0))) := by simp only [T.get_set, Nat.reduceEqDiff, if_true, if_false]
  have t3 : (((T0.set 2 (.ptr (some (s.c, 0)))).set 3 (.ptr (some (s.c + 1, 0)))).set 4 (.ptr (some (s.c + 2, 0)))).get 3 = some (.ptr (some (s.c + 1, 0))) := by simp only [T.get_set, Nat.reduceEqDiff, if_true, if_false]
  have k4 : (((T0.set 2 (.ptr (some (s.c, 0)))).set 3 (.ptr (some (s.c + 1, 0)))).set 4 (.ptr (some (s.c + 2, 0)))).get 4 = some (.ptr (some (s.c + 2, 0))) := by simp only [T.get_set, Nat.reduceEqDiff, if_true, if_false]
  simp only
  generalize (((T0.set 2 (.ptr (some (s.c, 0)))).set 3 (.ptr (some (s.c + 1, 0)))).set 4 (.ptr (some (s.c + 2, 0)))) = T1 at t2 t3 k4
  refine CodeR.seq (CodeR.seq (CodeR.reg rfl ?_))
  iterate 5 (first | (refine SeqR.skipN ?_ rfl rfl ?_; (simp only [sA, wantE, T.get_set, Nat.reduceEqDiff, t2, t3, tt32, i32, tt4, i4, sz4, hb0, hb1, e2, e3, b_eqlB] <;> with_reducible rfl)) | ((first | refine SeqR.stepN (v := ?_) (s' := ?_) rfl ?_ rfl ?_ rfl rfl ?_ | refine SeqR.stepLN (v := ?_) (s' := ?_) rfl ?_ rfl ?_ rfl rfl ?_); rotate_left 3; (intro call lc; simp only [sA, opE, kindOf, pureE, heapE, rho, rhos, T.get_set, Nat.reduceEqDiff, nb00, absV, absS, l_slice, l_void, l_str, l_arr, natE, loadE, isConst, TK.agg, t2, t3, tt32, i32, tt4, i4, sz4, hb0, hb1, e2, e3, b_eqlB] <;> rfl); rotate_left 1; (simp only [sA, wantE, T.get_set, Nat.reduceEqDiff, t2, t3, tt32, i32, tt4, i4, sz4, hb0, hb1, e2, e3, b_eqlB] <;> with_reducible rfl)))
  refine SeqR.done ?_
  refine CodeR.cond (t := na == nb) (by simp only [rho, T.get_set, Nat.reduceEqDiff, if_true, if_false]) ?_ ?_
  · intro hne
    refine CodeR.seq (CodeR.regD rfl rfl rfl ?_)
    iterate 6 (first | (refine SeqR.skipN ?_ rfl rfl ?_; (simp only [sA, wantE, T.get_set, Nat.reduceEqDiff, t2, t3, tt32, i32, tt4, i4, tt24, i24, sz4, sz24, hb0, hb1, e2, e3] <;> with_reducible rfl)) | ((first | refine SeqR.stepN (v := ?_) (s' := ?_) rfl ?_ rfl ?_ rfl rfl ?_ | refine SeqR.stepLN (v := ?_) (s' := ?_) rfl ?_ rfl ?_ rfl rfl ?_); rotate_left 3; (intro call lc; simp only [sA, opE, kindOf, pureE, heapE, rho, rhos, T.get_set, Nat.reduceEqDiff, nb00, absV, absS, l_slice, l_void, l_str, l_arr, natE, loadE, isConst, TK.agg, t2, t3, tt32, i32, tt4, i4, tt24, i24, sz4, sz24, hb0, hb1, e2, e3] <;> rfl); rotate_left 1; (simp only [sA, wantE, T.get_set, Nat.reduceEqDiff, t2, t3, tt32, i32, tt4, i4, tt24, i24, sz4, sz24, hb0, hb1, e2, e3] <;> with_reducible rfl)))
    refine SeqR.call rfl rfl rfl (g := 98) (vs := [da, db]) (by simp only [calleeE, rho, rhos, T.get_set, Nat.reduceEqDiff, if_true, if_false, Option.bind_some, Option.map_some, List.toList_toArray]; rfl) rfl rfl rfl (fun lc hlc => (plus_run ha1 hb1' hF1 (by rcases hlc with rfl | rfl <;> omega) (by omega) (by omega) hsx hsy).mono fun v1 s2 hp => ?_)
    obtain ⟨p1, p2, p3⟩ := hp
    have m1 := p2.mono
    refine SeqR.step (v := .agg [.bool na, v1]) (s' := s2) rfl rfl (fun call lc => op_build32 (by simp only [rho, T.get_set, Nat.reduceEqDiff, if_true, if_false]) (by simp only [rho, T.get_set, if_true]) (Row.one p3.row)) rfl rfl ?_
    have lz : (plusL 0 xs ys).length ≤ 1000000 := by have := plusL_length 0 xs ys; omega
    refine SeqR.call rfl rfl rfl (g := 97) (vs := [wv na v1]) (by simp only [calleeE, rho, rhos, T.get_set, if_true, Option.bind_some, Option.map_some, List.toList_toArray]; rfl) rfl rfl rfl (fun lc hlc => (trim_run p3.row p1 (by rcases hlc with rfl | rfl <;> omega) lz).mono fun v2 s3 hp => ?_)
    obtain ⟨r1, r2, d3, rfl, r3⟩ := hp
    have m2 := r2.mono
    have hg : s3.h.get (s.c + 2) = some ⟨32, i32.zero.cells⟩ := by rw [r2.keep _ (by omega), p2.keep _ (by omega)]; exact hb2
    refine SeqR.step0 rfl (fun call lc old => op_store (b := s.c + 2) (o := 0) (z := 2) (cs := [.bool (na && !(trimL (plusL 0 xs ys)).isEmpty), d3]) (v := wv (na && !(trimL (plusL 0 xs ys)).isEmpty) d3) (k := ⟨32, i32.zero.cells⟩) (by simp only [rho, T.get_set, Nat.reduceEqDiff, if_false, k4]) (by simp only [rho, T.get_set, if_true]) rfl rfl (by simp only [ones, Row.one r3, Bool.and_true]; rfl) sz32 hg (by decide) (by omega) call lc old) rfl ?_
    refine SeqR.done ?_
    have hK9 : Kept s.c s ⟨s3.h.set (s.c + 2) ⟨32, putL i32.zero.cells 0 [.bool (na && !(trimL (plusL 0 xs ys)).isEmpty), d3]⟩, s3.c⟩ := ⟨by have := hK1.mono; have := p2.mono; have := r2.mono; simp only; omega, fun b' hb' => by simp only; rw [T.get_set, if_neg (by omega), r2.keep _ (by omega), p2.keep _ (by omega)]; exact hK1.keep b' hb'⟩
    refine CodeR.ret ⟨.inr rfl, [.agg [.bool (na && !(trimL (plusL 0 xs ys)).isEmpty), d3]], ?_, fun b' hb' => ?_, hK9, ?_⟩
    · show ressE E _ _ [.cell 4 32] = _
      simp only [ressE, resE, T.get_set, Nat.reduceEqDiff, if_false, k4, Option.bind_some, loadE, tt32, i32, TK.agg, cond_true, cellsAt, if_true]
      rfl
    · simp only at hb' ⊢
      rw [T.get_set, if_neg (by have := p2.mono; have := r2.mono; omega)]
      exact r1 b' hb'
    · refine ⟨d3, ?_, Row.set_other (k' := ⟨32, putL i32.zero.cells 0 [.bool _, d3]⟩) ?_ hg zero32⟩
      · rw [addWL, if_pos (by simpa using hne)]
        rfl
      · rw [addWL, if_pos (by simpa using hne)]
        exact r3
  · intro hne
    refine CodeR.skip ?_
    refine CodeR.seq (CodeR.seq (CodeR.reg rfl ?_))
    iterate 4 (first | (refine SeqR.skipN ?_ rfl rfl ?_; (simp only [sA, wantE, T.get_set, Nat.reduceEqDiff, t2, t3, tt32, i32, tt24, i24, sz24, hb0, hb1, e2, e3] <;> with_reducible rfl)) | ((first | refine SeqR.stepN (v := ?_) (s' := ?_) rfl ?_ rfl ?_ rfl rfl ?_ | refine SeqR.stepLN (v := ?_) (s' := ?_) rfl ?_ rfl ?_ rfl rfl ?_); rotate_left 3; (intro call lc; simp only [sA, opE, kindOf, pureE, heapE, rho, rhos, T.get_set, Nat.reduceEqDiff, nb00, absV, absS, l_slice, l_void, l_str, l_arr, natE, loadE, isConst, TK.agg, t2, t3, tt32, i32, tt24, i24, sz24, hb0, hb1, e2, e3] <;> rfl); rotate_left 1; (simp only [sA, wantE, T.get_set, Nat.reduceEqDiff, t2, t3, tt32, i32, tt24, i24, sz24, hb0, hb1, e2, e3] <;> with_reducible rfl)))
    refine SeqR.call rfl rfl rfl (g := 99) (vs := [da, db]) (by simp only [calleeE, rho, rhos, T.get_set, Nat.reduceEqDiff, if_true, if_false, Option.bind_some, Option.map_some, List.toList_toArray]; rfl) rfl rfl rfl (fun lc hlc => (above_run ha1 hb1' hF1 (by omega)).mono fun v1 s2 hp => ?_)
    obtain ⟨rfl, rfl⟩ := hp
    (first | (refine SeqR.skipN ?_ rfl rfl ?_; (simp only [sA, wantE, T.get_set, Nat.reduceEqDiff, b_geq] <;> with_reducible rfl)) | ((first | refine SeqR.stepN (v := ?_) (s' := ?_) rfl ?_ rfl ?_ rfl rfl ?_ | refine SeqR.stepLN (v := ?_) (s' := ?_) rfl ?_ rfl ?_ rfl rfl ?_); rotate_left 3; (intro call lc; simp only [sA, opE, kindOf, pureE, heapE, rho, rhos, T.get_set, Nat.reduceEqDiff, nb00, absV, absS, l_slice, l_void, l_str, l_arr, natE, loadE, isConst, TK.agg, b_geq] <;> rfl); rotate_left 1; (simp only [sA, wantE, T.get_set, Nat.reduceEqDiff, b_geq] <;> with_reducible rfl)))
    refine SeqR.done ?_
    refine CodeR.cond (t := !ltB (aboveL xs ys) 0) (by simp only [rho, T.get_set, Nat.reduceEqDiff, if_true, if_false]) ?_ ?_
    · intro hge
      have hge : 0 ≤ aboveL xs ys := by rw [ltB_eq] at hge; simpa using hge
      refine CodeR.seq (CodeR.regD rfl rfl rfl ?_)
      iterate 6 (first | (refine SeqR.skipN ?_ rfl rfl ?_; (simp only [sA, wantE, T.get_set, Nat.reduceEqDiff, t2, t3, tt32, i32, tt4, i4, tt24, i24, sz4, sz24, hb0, hb1, e2, e3] <;> with_reducible rfl)) | ((first | refine SeqR.stepN (v := ?_) (s' := ?_) rfl ?_ rfl ?_ rfl rfl ?_ | refine SeqR.stepLN (v := ?_) (s' := ?_) rfl ?_ rfl ?_ rfl rfl ?_); rotate_left 3; (intro call lc; simp only [sA, opE, kindOf, pureE, heapE, rho, rhos, T.get_set, Nat.reduceEqDiff, nb00, absV, absS, l_slice, l_void, l_str, l_arr, natE, loadE, isConst, TK.agg, t2, t3, tt32, i32, tt4, i4, tt24, i24, sz4, sz24, hb0, hb1, e2, e3] <;> rfl); rotate_left 1; (simp only [sA, wantE, T.get_set, Nat.reduceEqDiff, t2, t3, tt32, i32, tt4, i4, tt24, i24, sz4, sz24, hb0, hb1, e2, e3] <;> with_reducible rfl)))
      refine SeqR.call rfl rfl rfl (g := 100) (vs := [da, db]) (by simp only [calleeE, rho, rhos, T.get_set, Nat.reduceEqDiff, if_true, if_false, Option.bind_some, Option.map_some, List.toList_toArray]; rfl) rfl rfl rfl (fun lc hlc => (minus_run ha1 hb1' hF1 (by rcases hlc with rfl | rfl <;> omega) (by omega) hsx hsy).mono fun v1 s2 hp => ?_)
      obtain ⟨p1, p2, p3⟩ := hp
      have m1 := p2.mono
      refine SeqR.step (v := .agg [.bool na, v1]) (s' := s2) rfl rfl (fun call lc => op_build32 (by simp only [rho, T.get_set, Nat.reduceEqDiff, if_true, if_false]) (by simp only [rho, T.get_set, if_true]) (Row.one p3.row)) rfl rfl ?_
      have lz : (minusL 0 xs ys).length ≤ 1000000 := by rw [minusL_length]; omega
      refine SeqR.call rfl rfl rfl (g := 97) (vs := [wv na v1]) (by simp only [calleeE, rho, rhos, T.get_set, if_true, Option.bind_some, Option.map_some, List.toList_toArray]; rfl) rfl rfl rfl (fun lc hlc => (trim_run p3.row p1 (by rcases hlc with rfl | rfl <;> omega) lz).mono fun v2 s3 hp => ?_)
      obtain ⟨r1, r2, d3, rfl, r3⟩ := hp
      have m2 := r2.mono
      have hg : s3.h.get (s.c + 2) = some ⟨32, i32.zero.cells⟩ := by rw [r2.keep _ (by omega), p2.keep _ (by omega)]; exact hb2
      refine SeqR.step0 rfl (fun call lc old => op_store (b := s.c + 2) (o := 0) (z := 2) (cs := [.bool (na && !(trimL (minusL 0 xs ys)).isEmpty), d3]) (v := wv (na && !(trimL (minusL 0 xs ys)).isEmpty) d3) (k := ⟨32, i32.zero.cells⟩) (by simp only [rho, T.get_set, Nat.reduceEqDiff, if_false, k4]) (by simp only [rho, T.get_set, if_true]) rfl rfl (by simp only [ones, Row.one r3, Bool.and_true]; rfl) sz32 hg (by decide) (by omega) call lc old) rfl ?_
      refine SeqR.done ?_
      have hK9 : Kept s.c s ⟨s3.h.set (s.c + 2) ⟨32, putL i32.zero.cells 0 [.bool (na && !(trimL (minusL 0 xs ys)).isEmpty), d3]⟩, s3.c⟩ := ⟨by have := hK1.mono; have := p2.mono; have := r2.mono; simp only; omega, fun b' hb' => by simp only; rw [T.get_set, if_neg (by omega), r2.keep _ (by omega), p2.keep _ (by omega)]; exact hK1.keep b' hb'⟩
      refine CodeR.ret ⟨.inr rfl, [.agg [.bool (na && !(trimL (minusL 0 xs ys)).isEmpty), d3]], ?_, fun b' hb' => ?_, hK9, ?_⟩
      · show ressE E _ _ [.cell 4 32] = _
        simp only [ressE, resE, T.get_set, Nat.reduceEqDiff, if_false, k4, Option.bind_some, loadE, tt32, i32, TK.agg, cond_true, cellsAt, if_true]
        rfl
      · simp only at hb' ⊢
        rw [T.get_set, if_neg (by have := p2.mono; have := r2.mono; omega)]
        exact r1 b' hb'
      · refine ⟨d3, ?_, Row.set_other (k' := ⟨32, putL i32.zero.cells 0 [.bool _, d3]⟩) ?_ hg zero32⟩
        · rw [addWL, if_neg (by simpa using hne), if_pos hge]
          rfl
        · rw [addWL, if_neg (by simpa using hne), if_pos hge]
          exact r3
    · intro hge
      have hge : ¬ 0 ≤ aboveL xs ys := by rw [ltB_eq] at hge; simpa using hge
      refine CodeR.skip ?_
      refine CodeR.seq (CodeR.regD rfl rfl rfl ?_)
      iterate 6 (first | (refine SeqR.skipN ?_ rfl rfl ?_; (simp only [sA, wantE, T.get_set, Nat.reduceEqDiff, t2, t3, tt32, i32, tt4, i4, tt24, i24, sz4, sz24, hb0, hb1, e2, e3] <;> with_reducible rfl)) | ((first | refine SeqR.stepN (v := ?_) (s' := ?_) rfl ?_ rfl ?_ rfl rfl ?_ | refine SeqR.stepLN (v := ?_) (s' := ?_) rfl ?_ rfl ?_ rfl rfl ?_); rotate_left 3; (intro call lc; simp only [sA, opE, kindOf, pureE, heapE, rho, rhos, T.get_set, Nat.reduceEqDiff, nb00, absV, absS, l_slice, l_void, l_str, l_arr, natE, loadE, isConst, TK.agg, t2, t3, tt32, i32, tt4, i4, tt24, i24, sz4, sz24, hb0, hb1, e2, e3] <;> rfl); rotate_left 1; (simp only [sA, wantE, T.get_set, Nat.reduceEqDiff, t2, t3, tt32, i32, tt4, i4, tt24, i24, sz4, sz24, hb0, hb1, e2, e3] <;> with_reducible rfl)))
      refine SeqR.call rfl rfl rfl (g := 100) (vs := [db, da]) (by simp only [calleeE, rho, rhos, T.get_set, Nat.reduceEqDiff, if_true, if_false, Option.bind_some, Option.map_some, List.toList_toArray]; rfl) rfl rfl rfl (fun lc hlc => (minus_run hb1' ha1 hF1 (by rcases hlc with rfl | rfl <;> omega) (by omega) hsy hsx).mono fun v1 s2 hp => ?_)
      obtain ⟨p1, p2, p3⟩ := hp
      have m1 := p2.mono
      refine SeqR.step (v := .agg [.bool nb, v1]) (s' := s2) rfl rfl (fun call lc => op_build32 (by simp only [rho, T.get_set, Nat.reduceEqDiff, if_true, if_false]) (by simp only [rho, T.get_set, if_true]) (Row.one p3.row)) rfl rfl ?_
      have lz : (minusL 0 ys xs).length ≤ 1000000 := by rw [minusL_length]; omega
      refine SeqR.call rfl rfl rfl (g := 97) (vs := [wv nb v1]) (by simp only [calleeE, rho, rhos, T.get_set, if_true, Option.bind_some, Option.map_some, List.toList_toArray]; rfl) rfl rfl rfl (fun lc hlc => (trim_run p3.row p1 (by rcases hlc with rfl | rfl <;> omega) lz).mono fun v2 s3 hp => ?_)
      obtain ⟨r1, r2, d3, rfl, r3⟩ := hp
      have m2 := r2.mono
      have hg : s3.h.get (s.c + 2) = some ⟨32, i32.zero.cells⟩ := by rw [r2.keep _ (by omega), p2.keep _ (by omega)]; exact hb2
      refine SeqR.step0 rfl (fun call lc old => op_store (b := s.c + 2) (o := 0) (z := 2) (cs := [.bool (nb && !(trimL (minusL 0 ys xs)).isEmpty), d3]) (v := wv (nb && !(trimL (minusL 0 ys xs)).isEmpty) d3) (k := ⟨32, i32.zero.cells⟩) (by simp only [rho, T.get_set, Nat.reduceEqDiff, if_false, k4]) (by simp only [rho, T.get_set, if_true]) rfl rfl (by simp only [ones, Row.one r3, Bool.and_true]; rfl) sz32 hg (by decide) (by omega) call lc old) rfl ?_
      refine SeqR.done ?_
      have hK9 : Kept s.c s ⟨s3.h.set (s.c + 2) ⟨32, putL i32.zero.cells 0 [.bool (nb && !(trimL (minusL 0 ys xs)).isEmpty), d3]⟩, s3.c⟩ := ⟨by have := hK1.mono; have := p2.mono; have := r2.mono; simp only; omega, fun b' hb' => by simp only; rw [T.get_set, if_neg (by omega), r2.keep _ (by omega), p2.keep _ (by omega)]; exact hK1.keep b' hb'⟩
      refine CodeR.ret ⟨.inr rfl, [.agg [.bool (nb && !(trimL (minusL 0 ys xs)).isEmpty), d3]], ?_, fun b' hb' => ?_, hK9, ?_⟩
      · show ressE E _ _ [.cell 4 32] = _
        simp only [ressE, resE, T.get_set, Nat.reduceEqDiff, if_false, k4, Option.bind_some, loadE, tt32, i32, TK.agg, cond_true, cellsAt, if_true]
        rfl
      · simp only at hb' ⊢
        rw [T.get_set, if_neg (by have := p2.mono; have := r2.mono; omega)]
        exact r1 b' hb'
      · refine ⟨d3, ?_, Row.set_other (k' := ⟨32, putL i32.zero.cells 0 [.bool _, d3]⟩) ?_ hg zero32⟩
        · rw [addWL, if_neg (by simpa using hne), if_neg hge]
          rfl
        · rw [addWL, if_neg (by simpa using hne), if_neg hge]
          exact r3
end Go.Proofs.YtaocoplfdhcoaaaGreatDoor.EvA

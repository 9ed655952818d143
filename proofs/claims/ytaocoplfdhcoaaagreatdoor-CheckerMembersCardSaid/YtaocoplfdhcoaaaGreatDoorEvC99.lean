/- schismaref03.above, run. -/
import Derived.Test.YtaocoplfdhcoaaaGreatDoorEvB
set_option linter.unusedVariables false
set_option linter.unusedSimpArgs false
set_option maxRecDepth 20000
set_option maxHeartbeats 2000000
namespace Go.Proofs.YtaocoplfdhcoaaaGreatDoor.EvA
open Go Go.RowKit Go.Proofs.YtaocoplfdhcoaaaGreatDoor.Ev
theorem fn99' : E.fns.get 99 = some Tryz.f99 := by kernel_rfl
/-- The first k digits of two magnitudes of one length, compared from the top. -/
def cmpTop (xs ys : List Nat) : Nat → Int
  | 0 => 0
  | k + 1 => if xs.getD k 0 < ys.getD k 0 then -1 else if ys.getD k 0 < xs.getD k 0 then 1 else cmpTop xs ys k
def aboveL (xs ys : List Nat) : Int := if xs.length = ys.length then cmpTop xs ys xs.length else if xs.length < ys.length then -1 else 1
theorem above_run {lo : Nat} {a b : AV} {xs ys : List Nat} {s : St} (ha : Row s.h 1 (ints xs) a) (hb : Row s.h 1 (ints ys) b) (hF : Fresh s) (hx : xs.length ≤ 1000000) :
    FunR E lo 99 [a, b] s fun v s' => s' = s ∧ v = .int .i64 (aboveL xs ys) := by
  refine FunR.body (fn := Tryz.f99) fn99' rfl ?_
  have la := lenE_len ha 3
  have lb := lenE_len hb 3
  have hn : (max [a, b].length Tryz.f99.ntmps) = 41 := rfl
  generalize max [a, b].length Tryz.f99.ntmps = n at hn
  subst hn
  have g0 : (argsT 0 [a, b]).get 0 = some a := rfl
  have g1 : (argsT 0 [a, b]).get 1 = some b := rfl
  generalize argsT 0 [a, b] = T0 at g0 g1
  have hn : (41 : Nat) = 41 := rfl
  refine CodeR.seq (CodeR.reg rfl ?_)
  (first | (refine SeqR.skipN ?_ rfl rfl ?_; (simp only [sA, wantE, T.get_set, Nat.reduceEqDiff] <;> with_reducible rfl)) | ((first | refine SeqR.stepN (v := ?_) (s' := ?_) rfl ?_ rfl ?_ rfl rfl ?_ | refine SeqR.stepLN (v := ?_) (s' := ?_) rfl ?_ rfl ?_ rfl rfl ?_); rotate_left 3; (intro call lc; simp only [sA, opE, kindOf, pureE, heapE, rho, rhos, T.get_set, Nat.reduceEqDiff, nb00, absV, absS, l_slice, l_void, l_str, l_arr, natE, loadE, isConst, TK.agg] <;> rfl); rotate_left 1; (simp only [sA, wantE, T.get_set, Nat.reduceEqDiff] <;> with_reducible rfl)))
  refine SeqR.done ?_
  refine CodeR.seq (CodeR.seq (CodeR.reg rfl ?_))
  iterate 5 (first | (refine SeqR.skipN ?_ rfl rfl ?_; (simp only [sA, wantE, T.get_set, Nat.reduceEqDiff, g0, g1, tt24, la, lb, b_neq, i24] <;> with_reducible rfl)) | ((first | refine SeqR.stepN (v := ?_) (s' := ?_) rfl ?_ rfl ?_ rfl rfl ?_ | refine SeqR.stepLN (v := ?_) (s' := ?_) rfl ?_ rfl ?_ rfl rfl ?_); rotate_left 3; (intro call lc; simp only [sA, opE, kindOf, pureE, heapE, rho, rhos, T.get_set, Nat.reduceEqDiff, nb00, absV, absS, l_slice, l_void, l_str, l_arr, natE, loadE, isConst, TK.agg, g0, g1, tt24, la, lb, b_neq, i24] <;> rfl); rotate_left 1; (simp only [sA, wantE, T.get_set, Nat.reduceEqDiff, g0, g1, tt24, la, lb, b_neq, i24] <;> with_reducible rfl)))
  refine SeqR.done ?_
  have fin : ∀ {T1 : T AV} {v : Int}, T1.get 4 = some (.int .i64 v) → v = aboveL xs ys → (Ex.ret = .nrm ∨ Ex.ret = .ret) ∧ ∃ us, ressE E T1 s Tryz.f99.results.toList = some us ∧ (s = s ∧ oneOf us = .int .i64 (aboveL xs ys)) := fun {T1 v} h4 hv => by
    refine ⟨.inr rfl, [.int .i64 v], ?_, rfl, by rw [hv]; rfl⟩
    show ressE E T1 s [.tmp 4] = _
    simp only [ressE, resE, h4, Option.bind_some, Option.map_some]
  refine CodeR.cond (t := !eqB (Int.ofNat xs.length) (Int.ofNat ys.length)) (by simp only [rho, T.get_set, Nat.reduceEqDiff, if_true, if_false]) ?_ ?_
  · intro hne
    have hne' : xs.length ≠ ys.length := by rw [eqB_nat] at hne; simpa using hne
    refine CodeR.seq (CodeR.seq (CodeR.reg rfl ?_))
    iterate 5 (first | (refine SeqR.skipN ?_ rfl rfl ?_; (simp only [sA, wantE, T.get_set, Nat.reduceEqDiff, g0, g1, tt24, la, lb, b_lss, i24] <;> with_reducible rfl)) | ((first | refine SeqR.stepN (v := ?_) (s' := ?_) rfl ?_ rfl ?_ rfl rfl ?_ | refine SeqR.stepLN (v := ?_) (s' := ?_) rfl ?_ rfl ?_ rfl rfl ?_); rotate_left 3; (intro call lc; simp only [sA, opE, kindOf, pureE, heapE, rho, rhos, T.get_set, Nat.reduceEqDiff, nb00, absV, absS, l_slice, l_void, l_str, l_arr, natE, loadE, isConst, TK.agg, g0, g1, tt24, la, lb, b_lss, i24] <;> rfl); rotate_left 1; (simp only [sA, wantE, T.get_set, Nat.reduceEqDiff, g0, g1, tt24, la, lb, b_lss, i24] <;> with_reducible rfl)))
    refine SeqR.done ?_
    refine CodeR.cond (t := ltB (Int.ofNat xs.length) (Int.ofNat ys.length)) (by simp only [rho, T.get_set, Nat.reduceEqDiff, if_true, if_false]) ?_ ?_
    · intro hlt
      refine CodeR.seq (CodeR.reg rfl ?_)
      (first | (refine SeqR.skipN ?_ rfl rfl ?_; (simp only [sA, wantE, T.get_set, Nat.reduceEqDiff] <;> with_reducible rfl)) | ((first | refine SeqR.stepN (v := ?_) (s' := ?_) rfl ?_ rfl ?_ rfl rfl ?_ | refine SeqR.stepLN (v := ?_) (s' := ?_) rfl ?_ rfl ?_ rfl rfl ?_); rotate_left 3; (intro call lc; simp only [sA, opE, kindOf, pureE, heapE, rho, rhos, T.get_set, Nat.reduceEqDiff, nb00, absV, absS, l_slice, l_void, l_str, l_arr, natE, loadE, isConst, TK.agg] <;> rfl); rotate_left 1; (simp only [sA, wantE, T.get_set, Nat.reduceEqDiff] <;> with_reducible rfl)))
      refine SeqR.done ?_
      refine CodeR.ret (fin (v := -1) (by simp only [T.get_set, if_true]) ?_)
      rw [ltB_nat] at hlt
      rw [aboveL, if_neg hne', if_pos (by simpa using hlt)]
    · intro hlt
      refine CodeR.skip ?_
      refine CodeR.seq (CodeR.reg rfl ?_)
      (first | (refine SeqR.skipN ?_ rfl rfl ?_; (simp only [sA, wantE, T.get_set, Nat.reduceEqDiff] <;> with_reducible rfl)) | ((first | refine SeqR.stepN (v := ?_) (s' := ?_) rfl ?_ rfl ?_ rfl rfl ?_ | refine SeqR.stepLN (v := ?_) (s' := ?_) rfl ?_ rfl ?_ rfl rfl ?_); rotate_left 3; (intro call lc; simp only [sA, opE, kindOf, pureE, heapE, rho, rhos, T.get_set, Nat.reduceEqDiff, nb00, absV, absS, l_slice, l_void, l_str, l_arr, natE, loadE, isConst, TK.agg] <;> rfl); rotate_left 1; (simp only [sA, wantE, T.get_set, Nat.reduceEqDiff] <;> with_reducible rfl)))
      refine SeqR.done ?_
      refine CodeR.ret (fin (v := 1) (by simp only [T.get_set, if_true]) ?_)
      rw [ltB_nat] at hlt
      rw [aboveL, if_neg hne', if_neg (by simpa using hlt)]
  · intro heq
    have heq' : xs.length = ys.length := by rw [eqB_nat] at heq; simpa using heq
    refine CodeR.skip ?_
    refine CodeR.seq (CodeR.seq (CodeR.reg rfl ?_))
    iterate 4 (first | (refine SeqR.skipN ?_ rfl rfl ?_; (simp only [sA, wantE, T.get_set, Nat.reduceEqDiff, g0, tt24, la, b_sub, i24] <;> with_reducible rfl)) | ((first | refine SeqR.stepN (v := ?_) (s' := ?_) rfl ?_ rfl ?_ rfl rfl ?_ | refine SeqR.stepLN (v := ?_) (s' := ?_) rfl ?_ rfl ?_ rfl rfl ?_); rotate_left 3; (intro call lc; simp only [sA, opE, kindOf, pureE, heapE, rho, rhos, T.get_set, Nat.reduceEqDiff, nb00, absV, absS, l_slice, l_void, l_str, l_arr, natE, loadE, isConst, TK.agg, g0, tt24, la, b_sub, i24] <;> rfl); rotate_left 1; (simp only [sA, wantE, T.get_set, Nat.reduceEqDiff, g0, tt24, la, b_sub, i24] <;> with_reducible rfl)))
    refine SeqR.done ?_
    refine CodeR.block (CodeR.loop (fun k m s1 => m.n = 41 ∧ s1 = s ∧ k ≤ xs.length ∧ m.t.get 0 = some a ∧ m.t.get 1 = some b ∧ m.t.get 5 = some (.int .i64 (pred k)) ∧ cmpTop xs ys xs.length = cmpTop xs ys k) xs.length ?_ ?_)
    · refine ⟨rfl, rfl, Nat.le_refl _, ?_, ?_, ?_, rfl⟩
      simp only [T.get_set, Nat.reduceEqDiff, if_true, if_false, g0]
      simp only [T.get_set, Nat.reduceEqDiff, if_true, if_false, g1]
      simp only [T.get_set, Nat.reduceEqDiff, if_true, if_false]
      rw [wr_pred (by omega)]
    · rintro k ⟨n, T1⟩ s1 ⟨hn, rfl, hk, h0, h1, h5, hc⟩
      simp only at hn h0 h1 h5
      subst hn
      have hn : (41 : Nat) = 41 := rfl
      refine CodeR.seq (CodeR.seq (CodeR.reg rfl ?_))
      iterate 2 (first | (refine SeqR.skipN ?_ rfl rfl ?_; (simp only [sA, wantE, T.get_set, Nat.reduceEqDiff, h5, b_geq] <;> with_reducible rfl)) | ((first | refine SeqR.stepN (v := ?_) (s' := ?_) rfl ?_ rfl ?_ rfl rfl ?_ | refine SeqR.stepLN (v := ?_) (s' := ?_) rfl ?_ rfl ?_ rfl rfl ?_); rotate_left 3; (intro call lc; simp only [sA, opE, kindOf, pureE, heapE, rho, rhos, T.get_set, Nat.reduceEqDiff, nb00, absV, absS, l_slice, l_void, l_str, l_arr, natE, loadE, isConst, TK.agg, h5, b_geq] <;> rfl); rotate_left 1; (simp only [sA, wantE, T.get_set, Nat.reduceEqDiff, h5, b_geq] <;> with_reducible rfl)))
      refine SeqR.done ?_
      refine CodeR.cond (t := !ltB (pred k) 0) (by simp only [rho, T.get_set, Nat.reduceEqDiff, if_true, if_false]) ?_ ?_
      · intro hpos
        obtain ⟨i, rfl⟩ : ∃ i, k = i + 1 := by
          cases k with
          | zero => exact absurd hpos (by decide)
          | succ i => exact ⟨i, rfl⟩
        refine CodeR.skip ?_
        obtain ⟨ba, oa, na, ca, qa, rfl, hia, _, ka, hga, hla, hca⟩ := ha.shape (i := i) (by rw [ints_length]; omega) (by omega)
        obtain ⟨bb, ob, nb, cb, qb, rfl, hib, _, kb, hgb, hlb, hcb⟩ := hb.shape (i := i) (by rw [ints_length]; omega) (by omega)
        have ex : xs[i]? = some (xs.getD i 0) := by rw [List.getD_eq_getElem?_getD, List.getElem?_eq_getElem (by omega)]; rfl
        have ey : ys[i]? = some (ys.getD i 0) := by rw [List.getD_eq_getElem?_getD, List.getElem?_eq_getElem (by omega)]; rfl
        have hxa : ka.cells[oa + i]? = some (.int .i64 (Int.ofNat (xs.getD i 0))) := by
          have := hca 0 (by omega)
          simp only [Nat.mul_one, Nat.add_zero] at this
          rw [this, ints_get ex]
        have hyb : kb.cells[ob + i]? = some (.int .i64 (Int.ofNat (ys.getD i 0))) := by
          have := hcb 0 (by omega)
          simp only [Nat.mul_one, Nat.add_zero] at this
          rw [this, ints_get ey]
        have ba1 : Nat.blt i na = true := blt_iff.2 hia
        have bb1 : Nat.blt i nb = true := blt_iff.2 hib
        have ca1 : Nat.blt ba s1.c = true := blt_iff.2 (hF.lt ba ka hga)
        have cb1 : Nat.blt bb s1.c = true := blt_iff.2 (hF.lt bb kb hgb)
        have h5' : T1.get 5 = some (.int .i64 (Int.ofNat i)) := h5
        refine CodeR.seq (CodeR.block (CodeR.seq (CodeR.seq (CodeR.regD rfl rfl rfl ?_))))
        iterate 9 (first | (refine SeqR.skipN ?_ rfl rfl ?_; (simp only [sA, wantE, T.get_set, Nat.reduceEqDiff, h0, h1, h5', tt24, i24, tt3, i3, sz3, ba1, bb1, ca1, cb1, hga, hgb, hxa, hyb, b_lss] <;> with_reducible rfl)) | ((first | refine SeqR.stepN (v := ?_) (s' := ?_) rfl ?_ rfl ?_ rfl rfl ?_ | refine SeqR.stepLN (v := ?_) (s' := ?_) rfl ?_ rfl ?_ rfl rfl ?_); rotate_left 3; (intro call lc; simp only [sA, opE, kindOf, pureE, heapE, rho, rhos, T.get_set, Nat.reduceEqDiff, nb00, absV, absS, l_slice, l_void, l_str, l_arr, natE, loadE, isConst, TK.agg, h0, h1, h5', tt24, i24, tt3, i3, sz3, ba1, bb1, ca1, cb1, hga, hgb, hxa, hyb, b_lss] <;> rfl); rotate_left 1; (simp only [sA, wantE, T.get_set, Nat.reduceEqDiff, h0, h1, h5', tt24, i24, tt3, i3, sz3, ba1, bb1, ca1, cb1, hga, hgb, hxa, hyb, b_lss] <;> with_reducible rfl)))
        refine SeqR.done ?_
        refine CodeR.cond (t := ltB (Int.ofNat (xs.getD i 0)) (Int.ofNat (ys.getD i 0))) (by simp only [rho, T.get_set, Nat.reduceEqDiff, if_true, if_false]) ?_ ?_
        · intro hlt
          refine CodeR.seq (CodeR.reg rfl ?_)
          (first | (refine SeqR.skipN ?_ rfl rfl ?_; (simp only [sA, wantE, T.get_set, Nat.reduceEqDiff] <;> with_reducible rfl)) | ((first | refine SeqR.stepN (v := ?_) (s' := ?_) rfl ?_ rfl ?_ rfl rfl ?_ | refine SeqR.stepLN (v := ?_) (s' := ?_) rfl ?_ rfl ?_ rfl rfl ?_); rotate_left 3; (intro call lc; simp only [sA, opE, kindOf, pureE, heapE, rho, rhos, T.get_set, Nat.reduceEqDiff, nb00, absV, absS, l_slice, l_void, l_str, l_arr, natE, loadE, isConst, TK.agg] <;> rfl); rotate_left 1; (simp only [sA, wantE, T.get_set, Nat.reduceEqDiff] <;> with_reducible rfl)))
          refine SeqR.done ?_
          refine CodeR.ret (fin (v := -1) (by simp only [T.get_set, if_true]) ?_)
          rw [ltB_nat] at hlt
          rw [aboveL, if_pos heq', hc, cmpTop, if_pos (by simpa using hlt)]
        · intro hlt
          rw [ltB_nat] at hlt
          refine CodeR.skip ?_
          refine CodeR.seq (CodeR.regD rfl rfl rfl ?_)
          iterate 9 (first | (refine SeqR.skipN ?_ rfl rfl ?_; (simp only [sA, wantE, T.get_set, Nat.reduceEqDiff, h0, h1, h5', tt24, i24, tt3, i3, sz3, ba1, bb1, ca1, cb1, hga, hgb, hxa, hyb, b_gtr] <;> with_reducible rfl)) | ((first | refine SeqR.stepN (v := ?_) (s' := ?_) rfl ?_ rfl ?_ rfl rfl ?_ | refine SeqR.stepLN (v := ?_) (s' := ?_) rfl ?_ rfl ?_ rfl rfl ?_); rotate_left 3; (intro call lc; simp only [sA, opE, kindOf, pureE, heapE, rho, rhos, T.get_set, Nat.reduceEqDiff, nb00, absV, absS, l_slice, l_void, l_str, l_arr, natE, loadE, isConst, TK.agg, h0, h1, h5', tt24, i24, tt3, i3, sz3, ba1, bb1, ca1, cb1, hga, hgb, hxa, hyb, b_gtr] <;> rfl); rotate_left 1; (simp only [sA, wantE, T.get_set, Nat.reduceEqDiff, h0, h1, h5', tt24, i24, tt3, i3, sz3, ba1, bb1, ca1, cb1, hga, hgb, hxa, hyb, b_gtr] <;> with_reducible rfl)))
          refine SeqR.done ?_
          refine CodeR.cond (t := ltB (Int.ofNat (ys.getD i 0)) (Int.ofNat (xs.getD i 0))) (by simp only [rho, T.get_set, Nat.reduceEqDiff, if_true, if_false]) ?_ ?_
          · intro hgt
            refine CodeR.seq (CodeR.reg rfl ?_)
            (first | (refine SeqR.skipN ?_ rfl rfl ?_; (simp only [sA, wantE, T.get_set, Nat.reduceEqDiff] <;> with_reducible rfl)) | ((first | refine SeqR.stepN (v := ?_) (s' := ?_) rfl ?_ rfl ?_ rfl rfl ?_ | refine SeqR.stepLN (v := ?_) (s' := ?_) rfl ?_ rfl ?_ rfl rfl ?_); rotate_left 3; (intro call lc; simp only [sA, opE, kindOf, pureE, heapE, rho, rhos, T.get_set, Nat.reduceEqDiff, nb00, absV, absS, l_slice, l_void, l_str, l_arr, natE, loadE, isConst, TK.agg] <;> rfl); rotate_left 1; (simp only [sA, wantE, T.get_set, Nat.reduceEqDiff] <;> with_reducible rfl)))
            refine SeqR.done ?_
            refine CodeR.ret (fin (v := 1) (by simp only [T.get_set, if_true]) ?_)
            rw [ltB_nat] at hgt
            rw [aboveL, if_pos heq', hc, cmpTop, if_neg (by simpa using hlt), if_pos (by simpa using hgt)]
          · intro hgt
            rw [ltB_nat] at hgt
            refine CodeR.skip ?_
            refine CodeR.reg rfl ?_
            iterate 3 (first | (refine SeqR.skipN ?_ rfl rfl ?_; (simp only [sA, wantE, T.get_set, Nat.reduceEqDiff, h5', b_sub] <;> with_reducible rfl)) | ((first | refine SeqR.stepN (v := ?_) (s' := ?_) rfl ?_ rfl ?_ rfl rfl ?_ | refine SeqR.stepLN (v := ?_) (s' := ?_) rfl ?_ rfl ?_ rfl rfl ?_); rotate_left 3; (intro call lc; simp only [sA, opE, kindOf, pureE, heapE, rho, rhos, T.get_set, Nat.reduceEqDiff, nb00, absV, absS, l_slice, l_void, l_str, l_arr, natE, loadE, isConst, TK.agg, h5', b_sub] <;> rfl); rotate_left 1; (simp only [sA, wantE, T.get_set, Nat.reduceEqDiff, h5', b_sub] <;> with_reducible rfl)))
            refine SeqR.done ?_
            refine ⟨i, Nat.lt_succ_self _, rfl, rfl, by omega, ?_, ?_, ?_, ?_⟩
            · simp only [T.get_set, Nat.reduceEqDiff, if_true, if_false, h0]
            · simp only [T.get_set, Nat.reduceEqDiff, if_true, if_false, h1]
            · simp only [T.get_set, Nat.reduceEqDiff, if_true, if_false]
              rw [wr_pred (by omega)]
            · rw [hc, cmpTop, if_neg (by simpa using hlt), if_neg (by simpa using hgt)]
      · intro hneg
        have hk0 : k = 0 := by
          cases k with
          | zero => rfl
          | succ i => exact absurd hneg (by simp [pred, ltB, Nat.blt])
        subst hk0
        refine CodeR.exit ?_
        simp only [Ex.then, Ex.inBlock, if_true]
        refine CodeR.seq (CodeR.reg rfl ?_)
        (first | (refine SeqR.skipN ?_ rfl rfl ?_; (simp only [sA, wantE, T.get_set, Nat.reduceEqDiff] <;> with_reducible rfl)) | ((first | refine SeqR.stepN (v := ?_) (s' := ?_) rfl ?_ rfl ?_ rfl rfl ?_ | refine SeqR.stepLN (v := ?_) (s' := ?_) rfl ?_ rfl ?_ rfl rfl ?_); rotate_left 3; (intro call lc; simp only [sA, opE, kindOf, pureE, heapE, rho, rhos, T.get_set, Nat.reduceEqDiff, nb00, absV, absS, l_slice, l_void, l_str, l_arr, natE, loadE, isConst, TK.agg] <;> rfl); rotate_left 1; (simp only [sA, wantE, T.get_set, Nat.reduceEqDiff] <;> with_reducible rfl)))
        refine SeqR.done ?_
        refine CodeR.ret (fin (v := 0) (by simp only [T.get_set, if_true]) ?_)
        rw [aboveL, if_pos heq', hc]
        rfl
end Go.Proofs.YtaocoplfdhcoaaaGreatDoor.EvA
/- schismaref03.plus, run. -/
set_option linter.unusedVariables false
set_option linter.unusedSimpArgs false
set_option maxRecDepth 20000
set_option maxHeartbeats 2000000
namespace Go.Proofs.YtaocoplfdhcoaaaGreatDoor.EvA
open Go Go.RowKit Go.Proofs.YtaocoplfdhcoaaaGreatDoor.Ev
theorem fn98' : E.fns.get 98 = some Tryz.f98 := by kernel_rfl
/-- The sum of two magnitudes with the base 10^9, and a carry. -/
def plusL : Nat → List Nat → List Nat → List Nat
  | c, [], [] => if c = 0 then [] else [c]
  | c, x :: xs, [] => (c + x) % 1000000000 :: plusL ((c + x) / 1000000000) xs []
  | c, [], y :: ys => (c + y) % 1000000000 :: plusL ((c + y) / 1000000000) [] ys
  | c, x :: xs, y :: ys => (c + x + y) % 1000000000 :: plusL ((c + x + y) / 1000000000) xs ys
def Small (xs : List Nat) : Prop := ∀ x ∈ xs, x < 1000000000
theorem Small.get {xs : List Nat} (h : Small xs) (i : Nat) : xs.getD i 0 < 1000000000 := by
  rw [List.getD_eq_getElem?_getD]
  cases hg : xs[i]? with
  | none => simp
  | some x => simpa using h x (List.mem_of_getElem? hg)
theorem plusL_step {c i : Nat} {xs ys : List Nat} (h : i < xs.length ∨ i < ys.length ∨ (0 < c ∧ c < 1000000000)) :
    plusL c (xs.drop i) (ys.drop i) = (c + xs.getD i 0 + ys.getD i 0) % 1000000000 :: plusL ((c + xs.getD i 0 + ys.getD i 0) / 1000000000) (xs.drop (i + 1)) (ys.drop (i + 1)) := by
  have hx : ∀ l : List Nat, i < l.length → l.drop i = l.getD i 0 :: l.drop (i + 1) := fun l hl => by
    rw [List.drop_eq_getElem_cons hl]
    simp [List.getD_eq_getElem?_getD, List.getElem?_eq_getElem hl]
  have hn : ∀ l : List Nat, ¬ i < l.length → l.drop i = [] ∧ l.drop (i + 1) = [] ∧ l.getD i 0 = 0 := fun l hl => by
    refine ⟨List.drop_eq_nil_of_le (by omega), List.drop_eq_nil_of_le (by omega), ?_⟩
    rw [List.getD_eq_getElem?_getD, List.getElem?_eq_none (by omega)]; rfl
  by_cases h1 : i < xs.length
  · by_cases h2 : i < ys.length
    · rw [hx xs h1, hx ys h2, plusL]
    · obtain ⟨e1, e2, e3⟩ := hn ys h2
      rw [hx xs h1, e1, e2, e3, plusL]
      simp
  · obtain ⟨e1, e2, e3⟩ := hn xs h1
    by_cases h2 : i < ys.length
    · rw [hx ys h2, e1, e2, e3, plusL]
      simp
    · obtain ⟨f1, f2, f3⟩ := hn ys h2
      have hc : 0 < c ∧ c < 1000000000 := by omega
      rw [e1, e2, e3, f1, f2, f3, plusL, if_neg (by omega)]
      simp only [Nat.add_zero]
      rw [Nat.mod_eq_of_lt hc.2, Nat.div_eq_of_lt hc.2, plusL, if_pos rfl]
def Live98 (a b v : AV) (i c : Nat) (T1 : T AV) : Prop := T1.get 0 = some a ∧ T1.get 1 = some b ∧ T1.get 7 = some (.int .i64 (Int.ofNat i)) ∧ T1.get 6 = some (.int .i64 (Int.ofNat c)) ∧ T1.get 5 = some v
theorem plus_run {lo : Nat} {a b : AV} {xs ys : List Nat} {s : St} (ha : Row s.h 1 (ints xs) a) (hb : Row s.h 1 (ints ys) b) (hF : Fresh s) (hlo : lo ≤ s.c) (hx : xs.length ≤ 1000000) (hy : ys.length ≤ 1000000) (hsx : Small xs) (hsy : Small ys) :
    FunR E lo 98 [a, b] s fun v s' => Fresh s' ∧ Kept s.c s s' ∧ Own s.c s' 3 1 (ints (plusL 0 xs ys)) v := by
  refine FunR.body (fn := Tryz.f98) fn98' rfl ?_
  have la := lenE_len ha 3
  have lb := lenE_len hb 3
  have hn : (max [a, b].length Tryz.f98.ntmps) = 52 := rfl
  generalize max [a, b].length Tryz.f98.ntmps = n at hn
  subst hn
  have g0 : (argsT 0 [a, b]).get 0 = some a := rfl
  have g1 : (argsT 0 [a, b]).get 1 = some b := rfl
  generalize argsT 0 [a, b] = T0 at g0 g1
  have hn : (52 : Nat) = 52 := rfl
  refine CodeR.seq (CodeR.reg rfl ?_)
  (first | (refine SeqR.skipN ?_ rfl rfl ?_; (simp only [sA, wantE, T.get_set, Nat.reduceEqDiff] <;> with_reducible rfl)) | ((first | refine SeqR.stepN (v := ?_) (s' := ?_) rfl ?_ rfl ?_ rfl rfl ?_ | refine SeqR.stepLN (v := ?_) (s' := ?_) rfl ?_ rfl ?_ rfl rfl ?_); rotate_left 3; (intro call lc; simp only [sA, opE, kindOf, pureE, heapE, rho, rhos, T.get_set, Nat.reduceEqDiff, nb00, absV, absS, l_slice, l_void, l_str, l_arr, natE, loadE, isConst, TK.agg] <;> rfl); rotate_left 1; (simp only [sA, wantE, T.get_set, Nat.reduceEqDiff] <;> with_reducible rfl)))
  refine SeqR.done ?_
  refine CodeR.seq (CodeR.reg rfl ?_)
  (first | (refine SeqR.skipN ?_ rfl rfl ?_; (simp only [sA, wantE, T.get_set, Nat.reduceEqDiff] <;> with_reducible rfl)) | ((first | refine SeqR.stepN (v := ?_) (s' := ?_) rfl ?_ rfl ?_ rfl rfl ?_ | refine SeqR.stepLN (v := ?_) (s' := ?_) rfl ?_ rfl ?_ rfl rfl ?_); rotate_left 3; (intro call lc; simp only [sA, opE, kindOf, pureE, heapE, rho, rhos, T.get_set, Nat.reduceEqDiff, nb00, absV, absS, l_slice, l_void, l_str, l_arr, natE, loadE, isConst, TK.agg] <;> rfl); rotate_left 1; (simp only [sA, wantE, T.get_set, Nat.reduceEqDiff] <;> with_reducible rfl)))
  refine SeqR.done ?_
  refine CodeR.seq (CodeR.reg rfl ?_)
  (first | (refine SeqR.skipN ?_ rfl rfl ?_; (simp only [sA, wantE, T.get_set, Nat.reduceEqDiff] <;> with_reducible rfl)) | ((first | refine SeqR.stepN (v := ?_) (s' := ?_) rfl ?_ rfl ?_ rfl rfl ?_ | refine SeqR.stepLN (v := ?_) (s' := ?_) rfl ?_ rfl ?_ rfl rfl ?_); rotate_left 3; (intro call lc; simp only [sA, opE, kindOf, pureE, heapE, rho, rhos, T.get_set, Nat.reduceEqDiff, nb00, absV, absS, l_slice, l_void, l_str, l_arr, natE, loadE, isConst, TK.agg] <;> rfl); rotate_left 1; (simp only [sA, wantE, T.get_set, Nat.reduceEqDiff] <;> with_reducible rfl)))
  refine SeqR.done ?_
  refine CodeR.seq (CodeR.seq (CodeR.reg rfl ?_))
  (first | (refine SeqR.skipN ?_ rfl rfl ?_; (simp only [sA, wantE, T.get_set, Nat.reduceEqDiff] <;> with_reducible rfl)) | ((first | refine SeqR.stepN (v := ?_) (s' := ?_) rfl ?_ rfl ?_ rfl rfl ?_ | refine SeqR.stepLN (v := ?_) (s' := ?_) rfl ?_ rfl ?_ rfl rfl ?_); rotate_left 3; (intro call lc; simp only [sA, opE, kindOf, pureE, heapE, rho, rhos, T.get_set, Nat.reduceEqDiff, nb00, absV, absS, l_slice, l_void, l_str, l_arr, natE, loadE, isConst, TK.agg] <;> rfl); rotate_left 1; (simp only [sA, wantE, T.get_set, Nat.reduceEqDiff] <;> with_reducible rfl)))
  refine SeqR.done ?_
  refine CodeR.block (CodeR.loop (fun k m s1 => ∃ i c outs v T1, m = ⟨52, T1⟩ ∧ i + k = max xs.length ys.length + 1 ∧ c ≤ 1 ∧ (k = 0 → c = 0) ∧ T1.get 0 = some a ∧ T1.get 1 = some b ∧ T1.get 7 = some (.int .i64 (Int.ofNat i)) ∧ T1.get 6 = some (.int .i64 (Int.ofNat c)) ∧ T1.get 5 = some v ∧
    Own s.c s1 3 1 (ints outs) v ∧ Fresh s1 ∧ Kept s.c s s1 ∧ plusL 0 xs ys = outs ++ plusL c (xs.drop i) (ys.drop i) ∧ outs.length = i) (max xs.length ys.length + 1) ?_ ?_)
  · refine ⟨0, 0, [], .slice none 0 0 0, _, rfl, by omega, by omega, fun _ => rfl, ?_, ?_, ?_, ?_, ?_, .inl ⟨rfl, rfl⟩, hF, Kept.refl _ _, rfl, rfl⟩
    simp only [T.get_set, Nat.reduceEqDiff, if_true, if_false, g0]
    simp only [T.get_set, Nat.reduceEqDiff, if_true, if_false, g1]
    simp only [T.get_set, Nat.reduceEqDiff, if_true, if_false]
    · rfl
    simp only [T.get_set, Nat.reduceEqDiff, if_true, if_false]
    · rfl
    simp only [T.get_set, Nat.reduceEqDiff, if_true, if_false]
  · rintro k m s1 ⟨i, c, outs, v, T1, rfl, hik, hc1, hk0, h0, h1, h7, h6, h5, hown, hF1, hK1, hpl, hol⟩
    have bnd : i ≤ 1000001 := by omega
    have x0 := hsx.get i
    have y0 := hsy.get i
    refine CodeR.seq (CodeR.seq (CodeR.mono (Q := fun e m' s' => e = .nrm ∧ s' = s1 ∧ ∃ T2, m' = ⟨52, T2⟩ ∧ Live98 a b v i c T2 ∧ T2.get 21 = some (.bool (ltB (Int.ofNat i) (Int.ofNat xs.length) || ltB (Int.ofNat i) (Int.ofNat ys.length) || ltB 0 (Int.ofNat c)))) (CodeR.reg rfl ?_) ?_))
    · cases hA : ltB (Int.ofNat i) (Int.ofNat xs.length)
      · cases hB : ltB (Int.ofNat i) (Int.ofNat ys.length)
        · iterate 14 (first | (refine SeqR.skipN ?_ rfl rfl ?_; (simp only [sA, wantE, T.get_set, Nat.reduceEqDiff, h0, h1, h7, h6, tt24, i24, la, lb, b_lss, b_gtr, hA, hB] <;> with_reducible rfl)) | ((first | refine SeqR.stepN (v := ?_) (s' := ?_) rfl ?_ rfl ?_ rfl rfl ?_ | refine SeqR.stepLN (v := ?_) (s' := ?_) rfl ?_ rfl ?_ rfl rfl ?_); rotate_left 3; (intro call lc; simp only [sA, opE, kindOf, pureE, heapE, rho, rhos, T.get_set, Nat.reduceEqDiff, nb00, absV, absS, l_slice, l_void, l_str, l_arr, natE, loadE, isConst, TK.agg, h0, h1, h7, h6, tt24, i24, la, lb, b_lss, b_gtr, hA, hB] <;> rfl); rotate_left 1; (simp only [sA, wantE, T.get_set, Nat.reduceEqDiff, h0, h1, h7, h6, tt24, i24, la, lb, b_lss, b_gtr, hA, hB] <;> with_reducible rfl)))
          refine SeqR.done ⟨rfl, rfl, _, rfl, ⟨?_, ?_, ?_, ?_, ?_⟩, ?_⟩
          simp only [T.get_set, Nat.reduceEqDiff, if_true, if_false, h0]
          simp only [T.get_set, Nat.reduceEqDiff, if_true, if_false, h1]
          simp only [T.get_set, Nat.reduceEqDiff, if_true, if_false, h7]
          simp only [T.get_set, Nat.reduceEqDiff, if_true, if_false, h6]
          simp only [T.get_set, Nat.reduceEqDiff, if_true, if_false, h5]
          simp only [T.get_set, Nat.reduceEqDiff, if_true, if_false]
          · rfl
        · iterate 14 (first | (refine SeqR.skipN ?_ rfl rfl ?_; (simp only [sA, wantE, T.get_set, Nat.reduceEqDiff, h0, h1, h7, h6, tt24, i24, la, lb, b_lss, b_gtr, hA, hB] <;> with_reducible rfl)) | ((first | refine SeqR.stepN (v := ?_) (s' := ?_) rfl ?_ rfl ?_ rfl rfl ?_ | refine SeqR.stepLN (v := ?_) (s' := ?_) rfl ?_ rfl ?_ rfl rfl ?_); rotate_left 3; (intro call lc; simp only [sA, opE, kindOf, pureE, heapE, rho, rhos, T.get_set, Nat.reduceEqDiff, nb00, absV, absS, l_slice, l_void, l_str, l_arr, natE, loadE, isConst, TK.agg, h0, h1, h7, h6, tt24, i24, la, lb, b_lss, b_gtr, hA, hB] <;> rfl); rotate_left 1; (simp only [sA, wantE, T.get_set, Nat.reduceEqDiff, h0, h1, h7, h6, tt24, i24, la, lb, b_lss, b_gtr, hA, hB] <;> with_reducible rfl)))
          refine SeqR.done ⟨rfl, rfl, _, rfl, ⟨?_, ?_, ?_, ?_, ?_⟩, ?_⟩
          simp only [T.get_set, Nat.reduceEqDiff, if_true, if_false, h0]
          simp only [T.get_set, Nat.reduceEqDiff, if_true, if_false, h1]
          simp only [T.get_set, Nat.reduceEqDiff, if_true, if_false, h7]
          simp only [T.get_set, Nat.reduceEqDiff, if_true, if_false, h6]
          simp only [T.get_set, Nat.reduceEqDiff, if_true, if_false, h5]
          simp only [T.get_set, Nat.reduceEqDiff, if_true, if_false]
          · rfl
      · iterate 14 (first | (refine SeqR.skipN ?_ rfl rfl ?_; (simp only [sA, wantE, T.get_set, Nat.reduceEqDiff, h0, h1, h7, h6, tt24, i24, la, lb, b_lss, b_gtr, hA] <;> with_reducible rfl)) | ((first | refine SeqR.stepN (v := ?_) (s' := ?_) rfl ?_ rfl ?_ rfl rfl ?_ | refine SeqR.stepLN (v := ?_) (s' := ?_) rfl ?_ rfl ?_ rfl rfl ?_); rotate_left 3; (intro call lc; simp only [sA, opE, kindOf, pureE, heapE, rho, rhos, T.get_set, Nat.reduceEqDiff, nb00, absV, absS, l_slice, l_void, l_str, l_arr, natE, loadE, isConst, TK.agg, h0, h1, h7, h6, tt24, i24, la, lb, b_lss, b_gtr, hA] <;> rfl); rotate_left 1; (simp only [sA, wantE, T.get_set, Nat.reduceEqDiff, h0, h1, h7, h6, tt24, i24, la, lb, b_lss, b_gtr, hA] <;> with_reducible rfl)))
        refine SeqR.done ⟨rfl, rfl, _, rfl, ⟨?_, ?_, ?_, ?_, ?_⟩, ?_⟩
        simp only [T.get_set, Nat.reduceEqDiff, if_true, if_false, h0]
        simp only [T.get_set, Nat.reduceEqDiff, if_true, if_false, h1]
        simp only [T.get_set, Nat.reduceEqDiff, if_true, if_false, h7]
        simp only [T.get_set, Nat.reduceEqDiff, if_true, if_false, h6]
        simp only [T.get_set, Nat.reduceEqDiff, if_true, if_false, h5]
        simp only [T.get_set, Nat.reduceEqDiff, if_true, if_false]
        · rfl
    · rintro e m' s' ⟨rfl, rfl, T2, rfl, ⟨h0, h1, h7, h6, h5⟩, h21⟩
      refine CodeR.cond h21 ?_ ?_
      · intro hcnd
        have hcnd' : i < xs.length ∨ i < ys.length ∨ 0 < c := by
          rw [ltB_nat, ltB_nat, show (0 : Int) = Int.ofNat 0 from rfl, ltB_nat] at hcnd
          simpa [or_assoc] using hcnd
        refine CodeR.skip ?_
        refine CodeR.seq (CodeR.block (CodeR.seq (CodeR.mono (Q := fun e m' s'' => e = .nrm ∧ s'' = s' ∧ ∃ T2, m' = ⟨52, T2⟩ ∧ Live98 a b v i (c + xs.getD i 0) T2) (CodeR.seq (CodeR.reg rfl ?_)) ?_)))
        · iterate 4 (first | (refine SeqR.skipN ?_ rfl rfl ?_; (simp only [sA, wantE, T.get_set, Nat.reduceEqDiff, h0, h1, h7, h6, tt24, i24, la, lb, b_lss] <;> with_reducible rfl)) | ((first | refine SeqR.stepN (v := ?_) (s' := ?_) rfl ?_ rfl ?_ rfl rfl ?_ | refine SeqR.stepLN (v := ?_) (s' := ?_) rfl ?_ rfl ?_ rfl rfl ?_); rotate_left 3; (intro call lc; simp only [sA, opE, kindOf, pureE, heapE, rho, rhos, T.get_set, Nat.reduceEqDiff, nb00, absV, absS, l_slice, l_void, l_str, l_arr, natE, loadE, isConst, TK.agg, h0, h1, h7, h6, tt24, i24, la, lb, b_lss] <;> rfl); rotate_left 1; (simp only [sA, wantE, T.get_set, Nat.reduceEqDiff, h0, h1, h7, h6, tt24, i24, la, lb, b_lss] <;> with_reducible rfl)))
          refine SeqR.done ?_
          refine CodeR.cond (t := ltB (Int.ofNat i) (Int.ofNat xs.length)) (by simp only [rho, T.get_set, Nat.reduceEqDiff, if_true, if_false]) ?_ ?_
          · intro hA
            rw [ltB_nat] at hA
            obtain ⟨ba, oa, na, ca, qa, ka, rfl, e1, e2, e3⟩ := Row.int (ha.keep hF.lt hK1) (show i < xs.length by simpa using hA)
            have e4 : Nat.blt ba s'.c = true := blt_iff.2 (hF1.lt ba ka e2)
            have e5 := wr_add (a := c) (b := xs.getD i 0) (by omega)
            refine CodeR.reg rfl ?_
            iterate 7 (first | (refine SeqR.skipN ?_ rfl rfl ?_; (simp only [sA, wantE, T.get_set, Nat.reduceEqDiff, h0, h1, h7, h6, tt24, i24, tt3, i3, sz3, e1, e2, e3, e4, e5, b_add] <;> with_reducible rfl)) | ((first | refine SeqR.stepN (v := ?_) (s' := ?_) rfl ?_ rfl ?_ rfl rfl ?_ | refine SeqR.stepLN (v := ?_) (s' := ?_) rfl ?_ rfl ?_ rfl rfl ?_); rotate_left 3; (intro call lc; simp only [sA, opE, kindOf, pureE, heapE, rho, rhos, T.get_set, Nat.reduceEqDiff, nb00, absV, absS, l_slice, l_void, l_str, l_arr, natE, loadE, isConst, TK.agg, h0, h1, h7, h6, tt24, i24, tt3, i3, sz3, e1, e2, e3, e4, e5, b_add] <;> rfl); rotate_left 1; (simp only [sA, wantE, T.get_set, Nat.reduceEqDiff, h0, h1, h7, h6, tt24, i24, tt3, i3, sz3, e1, e2, e3, e4, e5, b_add] <;> with_reducible rfl)))
            refine SeqR.done ⟨rfl, rfl, _, rfl, ?_, ?_, ?_, ?_, ?_⟩
            simp only [T.get_set, Nat.reduceEqDiff, if_true, if_false, h0]
            simp only [T.get_set, Nat.reduceEqDiff, if_true, if_false, h1]
            simp only [T.get_set, Nat.reduceEqDiff, if_true, if_false, h7]
            simp only [T.get_set, Nat.reduceEqDiff, if_true, if_false]
            simp only [T.get_set, Nat.reduceEqDiff, if_true, if_false, h5]
          · intro hA
            rw [ltB_nat] at hA
            have e6 : xs.getD i 0 = 0 := by rw [List.getD_eq_getElem?_getD, List.getElem?_eq_none (by simpa using hA)]; rfl
            rw [e6, Nat.add_zero]
            refine CodeR.skip ⟨rfl, rfl, _, rfl, ?_, ?_, ?_, ?_, ?_⟩
            simp only [T.get_set, Nat.reduceEqDiff, if_true, if_false, h0]
            simp only [T.get_set, Nat.reduceEqDiff, if_true, if_false, h1]
            simp only [T.get_set, Nat.reduceEqDiff, if_true, if_false, h7]
            simp only [T.get_set, Nat.reduceEqDiff, if_true, if_false, h6]
            simp only [T.get_set, Nat.reduceEqDiff, if_true, if_false, h5]
        · rintro e m' s'' ⟨rfl, rfl, T3, rfl, ⟨h0, h1, h7, h6, h5⟩⟩
          refine CodeR.seq (CodeR.mono (Q := fun e m' s3 => e = .nrm ∧ s3 = s'' ∧ ∃ T2, m' = ⟨52, T2⟩ ∧ Live98 a b v i (c + xs.getD i 0 + ys.getD i 0) T2) (CodeR.seq (CodeR.reg rfl ?_)) ?_)
          · iterate 4 (first | (refine SeqR.skipN ?_ rfl rfl ?_; (simp only [sA, wantE, T.get_set, Nat.reduceEqDiff, h0, h1, h7, h6, tt24, i24, la, lb, b_lss] <;> with_reducible rfl)) | ((first | refine SeqR.stepN (v := ?_) (s' := ?_) rfl ?_ rfl ?_ rfl rfl ?_ | refine SeqR.stepLN (v := ?_) (s' := ?_) rfl ?_ rfl ?_ rfl rfl ?_); rotate_left 3; (intro call lc; simp only [sA, opE, kindOf, pureE, heapE, rho, rhos, T.get_set, Nat.reduceEqDiff, nb00, absV, absS, l_slice, l_void, l_str, l_arr, natE, loadE, isConst, TK.agg, h0, h1, h7, h6, tt24, i24, la, lb, b_lss] <;> rfl); rotate_left 1; (simp only [sA, wantE, T.get_set, Nat.reduceEqDiff, h0, h1, h7, h6, tt24, i24, la, lb, b_lss] <;> with_reducible rfl)))
            refine SeqR.done ?_
            refine CodeR.cond (t := ltB (Int.ofNat i) (Int.ofNat ys.length)) (by simp only [rho, T.get_set, Nat.reduceEqDiff, if_true, if_false]) ?_ ?_
            · intro hA
              rw [ltB_nat] at hA
              obtain ⟨ba, oa, na, ca, qa, ka, rfl, e1, e2, e3⟩ := Row.int (hb.keep hF.lt hK1) (show i < ys.length by simpa using hA)
              have e4 : Nat.blt ba s''.c = true := blt_iff.2 (hF1.lt ba ka e2)
              have e5 := wr_add (a := c + xs.getD i 0) (b := ys.getD i 0) (by omega)
              refine CodeR.reg rfl ?_
              iterate 7 (first | (refine SeqR.skipN ?_ rfl rfl ?_; (simp only [sA, wantE, T.get_set, Nat.reduceEqDiff, h0, h1, h7, h6, tt24, i24, tt3, i3, sz3, e1, e2, e3, e4, e5, b_add] <;> with_reducible rfl)) | ((first | refine SeqR.stepN (v := ?_) (s' := ?_) rfl ?_ rfl ?_ rfl rfl ?_ | refine SeqR.stepLN (v := ?_) (s' := ?_) rfl ?_ rfl ?_ rfl rfl ?_); rotate_left 3; (intro call lc; simp only [sA, opE, kindOf, pureE, heapE, rho, rhos, T.get_set, Nat.reduceEqDiff, nb00, absV, absS, l_slice, l_void, l_str, l_arr, natE, loadE, isConst, TK.agg, h0, h1, h7, h6, tt24, i24, tt3, i3, sz3, e1, e2, e3, e4, e5, b_add] <;> rfl); rotate_left 1; (simp only [sA, wantE, T.get_set, Nat.reduceEqDiff, h0, h1, h7, h6, tt24, i24, tt3, i3, sz3, e1, e2, e3, e4, e5, b_add] <;> with_reducible rfl)))
              refine SeqR.done ⟨rfl, rfl, _, rfl, ?_, ?_, ?_, ?_, ?_⟩
              simp only [T.get_set, Nat.reduceEqDiff, if_true, if_false, h0]
              simp only [T.get_set, Nat.reduceEqDiff, if_true, if_false, h1]
              simp only [T.get_set, Nat.reduceEqDiff, if_true, if_false, h7]
              simp only [T.get_set, Nat.reduceEqDiff, if_true, if_false]
              simp only [T.get_set, Nat.reduceEqDiff, if_true, if_false, h5]
            · intro hA
              rw [ltB_nat] at hA
              have e6 : ys.getD i 0 = 0 := by rw [List.getD_eq_getElem?_getD, List.getElem?_eq_none (by simpa using hA)]; rfl
              rw [e6, Nat.add_zero]
              refine CodeR.skip ⟨rfl, rfl, _, rfl, ?_, ?_, ?_, ?_, ?_⟩
              simp only [T.get_set, Nat.reduceEqDiff, if_true, if_false, h0]
              simp only [T.get_set, Nat.reduceEqDiff, if_true, if_false, h1]
              simp only [T.get_set, Nat.reduceEqDiff, if_true, if_false, h7]
              simp only [T.get_set, Nat.reduceEqDiff, if_true, if_false, h6]
              simp only [T.get_set, Nat.reduceEqDiff, if_true, if_false, h5]
          · rintro e m' s3 ⟨rfl, rfl, T4, rfl, ⟨h0, h1, h7, h6, h5⟩⟩
            generalize ht : c + xs.getD i 0 + ys.getD i 0 = t at h6
            refine CodeR.seq (CodeR.reg rfl ?_)
            iterate 3 (first | (refine SeqR.skipN ?_ rfl rfl ?_; (simp only [sA, wantE, T.get_set, Nat.reduceEqDiff, h0, h1, h7, h6, h5, b_remB] <;> with_reducible rfl)) | ((first | refine SeqR.stepN (v := ?_) (s' := ?_) rfl ?_ rfl ?_ rfl rfl ?_ | refine SeqR.stepLN (v := ?_) (s' := ?_) rfl ?_ rfl ?_ rfl rfl ?_); rotate_left 3; (intro call lc; simp only [sA, opE, kindOf, pureE, heapE, rho, rhos, T.get_set, Nat.reduceEqDiff, nb00, absV, absS, l_slice, l_void, l_str, l_arr, natE, loadE, isConst, TK.agg, h0, h1, h7, h6, h5, b_remB] <;> rfl); rotate_left 1; (simp only [sA, wantE, T.get_set, Nat.reduceEqDiff, h0, h1, h7, h6, h5, b_remB] <;> with_reducible rfl)))
            refine SeqR.step (v := _) (s' := _) rfl rfl (fun call lc => op_build1 (k := .i64) (n := Int.ofNat (t % 1000000000)) (by simp only [rho, T.get_set, if_true])) rfl rfl ?_
            have hF3 : Fresh ⟨s3.h.set s3.c ⟨3, [.int .i64 (Int.ofNat (t % 1000000000))]⟩, s3.c + 1⟩ := fun b' hb' => by
              simp only at hb' ⊢
              rw [T.get_set, if_neg (by omega)]
              exact hF1 b' (by omega)
            have hK3 : Kept s3.c s3 ⟨s3.h.set s3.c ⟨3, [.int .i64 (Int.ofNat (t % 1000000000))]⟩, s3.c + 1⟩ := ⟨Nat.le_succ _, fun b' hb' => by simp only; rw [T.get_set, if_neg (by omega)]⟩
            have hcs := hK1.mono
            have hown3 := hown.keep hF1 hK3
            refine SeqR.append1 (x := .tmp 44) (y := .tmp 47) (b := s3.c) (w := .int .i64 (Int.ofNat (t % 1000000000))) (cs := ints outs) (v := v) rfl rfl rfl rfl (by simp only [rho, T.get_set, Nat.reduceEqDiff, if_true, if_false, h5]) (by simp only [rho, T.get_set, if_true]) (by simp only [T.get_set, if_true]) rfl hlo (by simp only; omega) hown3 hF3 (ones_ints _) (by rw [ints_length]; omega) ?_
            intro v' s4 q1 q2 q3
            (first | (refine SeqR.skipN ?_ rfl rfl ?_; (simp only [sA, wantE, T.get_set, Nat.reduceEqDiff] <;> with_reducible rfl)) | ((first | refine SeqR.stepN (v := ?_) (s' := ?_) rfl ?_ rfl ?_ rfl rfl ?_ | refine SeqR.stepLN (v := ?_) (s' := ?_) rfl ?_ rfl ?_ rfl rfl ?_); rotate_left 3; (intro call lc; simp only [sA, opE, kindOf, pureE, heapE, rho, rhos, T.get_set, Nat.reduceEqDiff, nb00, absV, absS, l_slice, l_void, l_str, l_arr, natE, loadE, isConst, TK.agg] <;> rfl); rotate_left 1; (simp only [sA, wantE, T.get_set, Nat.reduceEqDiff] <;> with_reducible rfl)))
            refine SeqR.done ?_
            refine CodeR.reg rfl ?_
            have e7 : wr .i64 (Int.ofNat (t / 1000000000)) = Int.ofNat (t / 1000000000) := wr_nat (by omega)
            iterate 3 (first | (refine SeqR.skipN ?_ rfl rfl ?_; (simp only [sA, wantE, T.get_set, Nat.reduceEqDiff, h6, b_quoB, e7] <;> with_reducible rfl)) | ((first | refine SeqR.stepN (v := ?_) (s' := ?_) rfl ?_ rfl ?_ rfl rfl ?_ | refine SeqR.stepLN (v := ?_) (s' := ?_) rfl ?_ rfl ?_ rfl rfl ?_); rotate_left 3; (intro call lc; simp only [sA, opE, kindOf, pureE, heapE, rho, rhos, T.get_set, Nat.reduceEqDiff, nb00, absV, absS, l_slice, l_void, l_str, l_arr, natE, loadE, isConst, TK.agg, h6, b_quoB, e7] <;> rfl); rotate_left 1; (simp only [sA, wantE, T.get_set, Nat.reduceEqDiff, h6, b_quoB, e7] <;> with_reducible rfl)))
            refine SeqR.done ?_
            refine CodeR.reg rfl ?_
            have e8 := wr_add (a := i) (b := 1) (by omega)
            have e9 : (1 : Int) = Int.ofNat 1 := rfl
            iterate 3 (first | (refine SeqR.skipN ?_ rfl rfl ?_; (simp only [sA, wantE, T.get_set, Nat.reduceEqDiff, h7, b_add, e9, e8] <;> with_reducible rfl)) | ((first | refine SeqR.stepN (v := ?_) (s' := ?_) rfl ?_ rfl ?_ rfl rfl ?_ | refine SeqR.stepLN (v := ?_) (s' := ?_) rfl ?_ rfl ?_ rfl rfl ?_); rotate_left 3; (intro call lc; simp only [sA, opE, kindOf, pureE, heapE, rho, rhos, T.get_set, Nat.reduceEqDiff, nb00, absV, absS, l_slice, l_void, l_str, l_arr, natE, loadE, isConst, TK.agg, h7, b_add, e9, e8] <;> rfl); rotate_left 1; (simp only [sA, wantE, T.get_set, Nat.reduceEqDiff, h7, b_add, e9, e8] <;> with_reducible rfl)))
            have hk1 : k ≠ 0 := fun e => by
              have := hk0 e
              omega
            refine SeqR.done ⟨k - 1, by omega, i + 1, t / 1000000000, outs ++ [t % 1000000000], v', _, rfl, by omega, by omega, fun e => ?_, ?_, ?_, ?_, ?_, ?_, ?_, q2, ?_, ?_, ?_⟩
            · have hz : ∀ l : List Nat, l.length ≤ i → l.getD i 0 = 0 := fun l hl => by rw [List.getD_eq_getElem?_getD, List.getElem?_eq_none hl]; rfl
              have z1 := hz xs (by omega)
              have z2 := hz ys (by omega)
              omega
            simp only [T.get_set, Nat.reduceEqDiff, if_true, if_false, h0]
            simp only [T.get_set, Nat.reduceEqDiff, if_true, if_false, h1]
            simp only [T.get_set, Nat.reduceEqDiff, if_true, if_false]
            simp only [T.get_set, Nat.reduceEqDiff, if_true, if_false]
            simp only [T.get_set, Nat.reduceEqDiff, if_true, if_false]
            · rw [← ints_append]; exact q1
            · exact hK1.trans ((hK3.le (by omega)).trans q3)
            · rw [hpl, plusL_step (by omega), ht]
              simp
            · simp [hol]
      · intro hcnd
        have hcnd' : ¬ i < xs.length ∧ ¬ i < ys.length ∧ ¬ 0 < c := by
          rw [ltB_nat, ltB_nat, show (0 : Int) = Int.ofNat 0 from rfl, ltB_nat] at hcnd
          simpa [and_assoc] using hcnd
        obtain ⟨z1, z2, z3⟩ := hcnd'
        refine CodeR.exit ?_
        simp only [Ex.then, Ex.inBlock, if_true]
        refine CodeR.seq (CodeR.reg rfl ?_)
        iterate 2 (first | (refine SeqR.skipN ?_ rfl rfl ?_; (simp only [sA, wantE, T.get_set, Nat.reduceEqDiff, h5] <;> with_reducible rfl)) | ((first | refine SeqR.stepN (v := ?_) (s' := ?_) rfl ?_ rfl ?_ rfl rfl ?_ | refine SeqR.stepLN (v := ?_) (s' := ?_) rfl ?_ rfl ?_ rfl rfl ?_); rotate_left 3; (intro call lc; simp only [sA, opE, kindOf, pureE, heapE, rho, rhos, T.get_set, Nat.reduceEqDiff, nb00, absV, absS, l_slice, l_void, l_str, l_arr, natE, loadE, isConst, TK.agg, h5] <;> rfl); rotate_left 1; (simp only [sA, wantE, T.get_set, Nat.reduceEqDiff, h5] <;> with_reducible rfl)))
        refine SeqR.done ?_
        refine CodeR.ret ⟨.inr rfl, [v], ?_, hF1, hK1, ?_⟩
        · show ressE E _ s' [.tmp 4] = _
          simp only [ressE, resE, T.get_set, if_true, Option.bind_some, Option.map_some]
        · have : plusL 0 xs ys = outs := by
            rw [hpl, List.drop_eq_nil_of_le (by omega), List.drop_eq_nil_of_le (by omega), plusL, if_pos (by omega), List.append_nil]
          rw [this]
          exact hown
end Go.Proofs.YtaocoplfdhcoaaaGreatDoor.EvA
/- schismaref03.trim, run. -/
set_option linter.unusedVariables false
set_option linter.unusedSimpArgs false
set_option maxRecDepth 20000
set_option maxHeartbeats 2000000
namespace Go.Proofs.YtaocoplfdhcoaaaGreatDoor.EvA
open Go Go.RowKit Go.Proofs.YtaocoplfdhcoaaaGreatDoor.Ev
theorem fn97' : E.fns.get 97 = some Tryz.f97 := by kernel_rfl
/-- How many digits are left without the zeros at the top of the first k. -/
def trimN (xs : List Nat) : Nat → Nat
  | 0 => 0
  | k + 1 => if xs.getD k 0 = 0 then trimN xs k else k + 1
def trimL (xs : List Nat) : List Nat := xs.take (trimN xs xs.length)
theorem trimN_le (xs : List Nat) : ∀ k, trimN xs k ≤ k
  | 0 => Nat.le_refl _
  | k + 1 => by
    rw [trimN]
    split
    · exact Nat.le_succ_of_le (trimN_le xs k)
    · exact Nat.le_refl _
theorem ints_take (xs : List Nat) (k : Nat) : (ints xs).take k = ints (xs.take k) := by simp [ints, List.map_take]
/-- A whole number's value: its sign and digits. -/
def wv (neg : Bool) (d : AV) : AV := .agg [.bool neg, d]
theorem trim_run {lo : Nat} {d : AV} {neg : Bool} {xs : List Nat} {s : St} (hd : Row s.h 1 (ints xs) d) (hF : Fresh s) (hlo : lo ≤ s.c) (hx : xs.length ≤ 1000000) :
    FunR E lo 97 [wv neg d] s fun v s' => Fresh s' ∧ Kept s.c s s' ∧ ∃ d', v = wv (neg && !(trimL xs).isEmpty) d' ∧ Row s'.h 1 (ints (trimL xs)) d' := by
  refine FunR.body (fn := Tryz.f97) fn97' rfl ?_
  have hn : (max [wv neg d].length Tryz.f97.ntmps) = 36 := rfl
  generalize max [wv neg d].length Tryz.f97.ntmps = n at hn
  subst hn
  have g0 : (argsT 0 [wv neg d]).get 0 = some (.agg [.bool neg, d]) := rfl
  generalize argsT 0 [wv neg d] = T0 at g0
  have hn : (36 : Nat) = 36 := rfl
  have done : d.one = true := Row.one hd
  have hones : ones [.bool neg, d] = true := by simp only [ones, done, Bool.and_true]; rfl
  refine CodeR.seq (CodeR.reg rfl ?_)
  refine SeqR.step (v := .ptr (some (s.c, 0))) (s' := ⟨s.h.set s.c ⟨32, [.bool neg, d]⟩, s.c + 1⟩) rfl rfl (fun call lc => ?_) rfl rfl ?_
  · simp only [opE, kindOf, show Nat.beq 2 0 = false from rfl, cond_false, heapE, rho, g0, Option.bind_some, AV.cells, newAt, hones, cond_true, Option.map_some]
  refine SeqR.step (v := .ptr (some (s.c + 1, 0))) (s' := ⟨(s.h.set s.c ⟨32, [.bool neg, d]⟩).set (s.c + 1) ⟨32, i32.zero.cells⟩, s.c + 2⟩) rfl rfl (fun call lc => ?_) rfl rfl ?_
  · simp only [opE, kindOf, show Nat.beq 2 0 = false from rfl, cond_false, heapE, tt32, Option.bind_some, newAt]
    rfl
  refine SeqR.done ?_
  have hF2 : Fresh ⟨(s.h.set s.c ⟨32, [.bool neg, d]⟩).set (s.c + 1) ⟨32, i32.zero.cells⟩, s.c + 2⟩ := fun b hb => by
    simp only at hb ⊢
    rw [T.get_set, if_neg (by omega), T.get_set, if_neg (by omega)]
    exact hF b (by omega)
  have hK2 : Kept s.c s ⟨(s.h.set s.c ⟨32, [.bool neg, d]⟩).set (s.c + 1) ⟨32, i32.zero.cells⟩, s.c + 2⟩ := ⟨by simp, fun b hb => by
    simp only
    rw [T.get_set, if_neg (by omega), T.get_set, if_neg (by omega)]⟩
  refine CodeR.seq (CodeR.mono (Q := fun e m' s' => e = .nrm ∧ Fresh s' ∧ Kept s.c s s' ∧ s'.c = s.c + 2 ∧ ∃ T2 d', m' = ⟨36, T2⟩ ∧ T2.get 1 = some (.ptr (some (s.c, 0))) ∧ T2.get 2 = some (.ptr (some (s.c + 1, 0))) ∧ s'.h.get s.c = some ⟨32, [.bool neg, d']⟩ ∧ s'.h.get (s.c + 1) = some ⟨32, i32.zero.cells⟩ ∧ Row s.h 1 (ints (trimL xs)) d')
    (CodeR.block (CodeR.loop (fun k m s1 => Fresh s1 ∧ Kept s.c s s1 ∧ s1.c = s.c + 2 ∧ k ≤ xs.length ∧ trimN xs xs.length = trimN xs k ∧ ∃ T2 d', m = ⟨36, T2⟩ ∧ T2.get 1 = some (.ptr (some (s.c, 0))) ∧ T2.get 2 = some (.ptr (some (s.c + 1, 0))) ∧ s1.h.get s.c = some ⟨32, [.bool neg, d']⟩ ∧ s1.h.get (s.c + 1) = some ⟨32, i32.zero.cells⟩ ∧ Row s.h 1 (ints (xs.take k)) d') xs.length ?_ ?_)) ?_)
  · refine ⟨hF2, hK2, rfl, Nat.le_refl _, rfl, _, d, rfl, ?_, ?_, ?_, ?_, ?_⟩
    simp only [T.get_set, Nat.reduceEqDiff, if_true, if_false]
    simp only [T.get_set, Nat.reduceEqDiff, if_true, if_false]
    · simp only [T.get_set, if_true]; rw [if_neg (by omega)]
    · simp only [T.get_set, if_true]
    · rw [List.take_length]; exact hd
  · rintro k m s1 ⟨hF1, hK1, hc1, hk, htn, T2, d', rfl, h1, h2, hg1, hg2, hr0⟩
    have hr := hr0.keep hF.lt hK1
    have hlen : (xs.take k).length = k := by rw [List.length_take]; omega
    have ld := lenE_len hr 3
    rw [hlen] at ld
    have e4 : Nat.blt s.c s1.c = true := blt_iff.2 (by omega)
    cases k with
    | zero =>
      refine CodeR.seq (CodeR.seq (CodeR.reg rfl ?_))
      have e0 : ltB 0 (Int.ofNat 0) = false := rfl
      iterate 15 (first | (refine SeqR.skipN ?_ rfl rfl ?_; (simp only [sA, wantE, T.get_set, Nat.reduceEqDiff, h1, tt32, i32, tt24, i24, sz4, sz24, hg1, e4, ld, b_gtr, e0] <;> with_reducible rfl)) | ((first | refine SeqR.stepN (v := ?_) (s' := ?_) rfl ?_ rfl ?_ rfl rfl ?_ | refine SeqR.stepLN (v := ?_) (s' := ?_) rfl ?_ rfl ?_ rfl rfl ?_); rotate_left 3; (intro call lc; simp only [sA, opE, kindOf, pureE, heapE, rho, rhos, T.get_set, Nat.reduceEqDiff, nb00, absV, absS, l_slice, l_void, l_str, l_arr, natE, loadE, isConst, TK.agg, h1, tt32, i32, tt24, i24, sz4, sz24, hg1, e4, ld, b_gtr, e0] <;> rfl); rotate_left 1; (simp only [sA, wantE, T.get_set, Nat.reduceEqDiff, h1, tt32, i32, tt24, i24, sz4, sz24, hg1, e4, ld, b_gtr, e0] <;> with_reducible rfl)))
      refine SeqR.done ?_
      refine CodeR.cond (t := false) (by simp only [rho, T.get_set, Nat.reduceEqDiff, if_true, if_false]) (fun h => by cases h) fun _ => ?_
      refine CodeR.exit ?_
      simp only [Ex.then, Ex.inBlock, if_true]
      refine ⟨trivial, hF1, hK1, hc1, _, d', rfl, ?_, ?_, hg1, hg2, ?_⟩
      simp only [T.get_set, Nat.reduceEqDiff, if_true, if_false, h1]
      simp only [T.get_set, Nat.reduceEqDiff, if_true, if_false, h2]
      · rw [trimL, htn]; exact hr0
    | succ i =>
      have e0 : ltB 0 (Int.ofNat (i + 1)) = true := rfl
      have e5 : wr .i64 (Int.ofNat (i + 1) - 1) = Int.ofNat i := wr_pred (k := i + 1) (by omega)
      obtain ⟨b, o, n, c, q, kk, rfl, f1, f2, f3⟩ := Row.int hr (i := i) (by rw [hlen]; omega)
      have f5 : (xs.take (i + 1)).getD i 0 = xs.getD i 0 := by simp [List.getD_eq_getElem?_getD, List.getElem?_take]
      rw [f5] at f3
      have f4 : Nat.blt b s1.c = true := blt_iff.2 (hF1.lt b kk f2)
      refine CodeR.seq (CodeR.seq (CodeR.reg rfl ?_))
      iterate 15 (first | (refine SeqR.skipN ?_ rfl rfl ?_; (simp only [sA, wantE, T.get_set, Nat.reduceEqDiff, h1, tt32, i32, tt24, i24, tt3, i3, sz3, sz4, sz24, hg1, e4, ld, b_gtr, e0, b_sub, e5, f1, f2, f3, f4, b_eql] <;> with_reducible rfl)) | ((first | refine SeqR.stepN (v := ?_) (s' := ?_) rfl ?_ rfl ?_ rfl rfl ?_ | refine SeqR.stepLN (v := ?_) (s' := ?_) rfl ?_ rfl ?_ rfl rfl ?_); rotate_left 3; (intro call lc; simp only [sA, opE, kindOf, pureE, heapE, rho, rhos, T.get_set, Nat.reduceEqDiff, nb00, absV, absS, l_slice, l_void, l_str, l_arr, natE, loadE, isConst, TK.agg, h1, tt32, i32, tt24, i24, tt3, i3, sz3, sz4, sz24, hg1, e4, ld, b_gtr, e0, b_sub, e5, f1, f2, f3, f4, b_eql] <;> rfl); rotate_left 1; (simp only [sA, wantE, T.get_set, Nat.reduceEqDiff, h1, tt32, i32, tt24, i24, tt3, i3, sz3, sz4, sz24, hg1, e4, ld, b_gtr, e0, b_sub, e5, f1, f2, f3, f4, b_eql] <;> with_reducible rfl)))
      refine SeqR.done ?_
      refine CodeR.cond (t := eqB (Int.ofNat (xs.getD i 0)) 0) (by simp only [rho, T.get_set, Nat.reduceEqDiff, if_true, if_false]) ?_ ?_
      · intro hz
        have hz' : xs.getD i 0 = 0 := by
          rw [show (0 : Int) = Int.ofNat 0 from rfl, eqB_nat] at hz
          simpa using hz
        refine CodeR.skip ?_
        obtain ⟨v', p1, p2⟩ := Row.front hr0 (by omega) (k := i) (by rw [ints_length, hlen]; omega)
        refine CodeR.block (CodeR.reg rfl ?_)
        iterate 8 (first | (refine SeqR.skipN ?_ rfl rfl ?_; (simp only [sA, wantE, T.get_set, Nat.reduceEqDiff, h1, tt32, i32, tt24, i24, tt3, i3, sz3, sz4, sz24, hg1, e4, ld, b_sub, e5, p1] <;> with_reducible rfl)) | ((first | refine SeqR.stepN (v := ?_) (s' := ?_) rfl ?_ rfl ?_ rfl rfl ?_ | refine SeqR.stepLN (v := ?_) (s' := ?_) rfl ?_ rfl ?_ rfl rfl ?_); rotate_left 3; (intro call lc; simp only [sA, opE, kindOf, pureE, heapE, rho, rhos, T.get_set, Nat.reduceEqDiff, nb00, absV, absS, l_slice, l_void, l_str, l_arr, natE, loadE, isConst, TK.agg, h1, tt32, i32, tt24, i24, tt3, i3, sz3, sz4, sz24, hg1, e4, ld, b_sub, e5, p1] <;> rfl); rotate_left 1; (simp only [sA, wantE, T.get_set, Nat.reduceEqDiff, h1, tt32, i32, tt24, i24, tt3, i3, sz3, sz4, sz24, hg1, e4, ld, b_sub, e5, p1] <;> with_reducible rfl)))
        refine SeqR.step0 rfl (fun call lc old => op_store (b := s.c) (o := 1) (z := 1) (cs := [v']) (v := v') (k := ⟨32, [.bool neg, .slice (some (b, o)) n c q]⟩) (by simp only [rho, T.get_set, if_true]) (by simp only [rho, T.get_set, Nat.reduceEqDiff, if_true, if_false]) (one_cells (Row.one p2)) rfl (by simp only [ones, Row.one p2]; rfl) sz24 hg1 (Nat.le_refl 2) hlo call lc old) rfl ?_
        refine SeqR.done ⟨i, Nat.lt_succ_self _, ?_, ?_, hc1, by omega, ?_, _, v', rfl, ?_, ?_, ?_, ?_, ?_⟩
        · intro b' hb'
          simp only at hb' ⊢
          rw [T.get_set, if_neg (by omega)]
          exact hF1 b' hb'
        · exact ⟨hK1.mono, fun b' hb' => by simp only; rw [T.get_set, if_neg (by omega)]; exact hK1.keep b' hb'⟩
        · rw [htn, trimN, if_pos hz']
        simp only [T.get_set, Nat.reduceEqDiff, if_true, if_false, h1]
        simp only [T.get_set, Nat.reduceEqDiff, if_true, if_false, h2]
        · simp only [T.get_set, if_true]; rfl
        · simp only [T.get_set]; rw [if_neg (by omega)]; exact hg2
        · rw [Nat.mul_one, ints_take, List.take_take, Nat.min_eq_left (by omega)] at p2
          exact p2
      · intro hz
        have hz' : xs.getD i 0 ≠ 0 := by
          rw [show (0 : Int) = Int.ofNat 0 from rfl, eqB_nat] at hz
          simpa using hz
        refine CodeR.exit ?_
        simp only [Ex.then, Ex.inBlock, if_true]
        refine ⟨trivial, hF1, hK1, hc1, _, _, rfl, ?_, ?_, hg1, hg2, ?_⟩
        simp only [T.get_set, Nat.reduceEqDiff, if_true, if_false, h1]
        simp only [T.get_set, Nat.reduceEqDiff, if_true, if_false, h2]
        · rw [trimL, htn, trimN, if_neg hz']; exact hr0
  · rintro e m' s' ⟨rfl, hF1, hK1, hc1, T2, d', rfl, h1, h2, hg1, hg2, hr0⟩
    have hr := hr0.keep hF.lt hK1
    have ld := lenE_len hr 3
    have e4 : Nat.blt s.c s'.c = true := blt_iff.2 (by omega)
    have dd' : d'.one = true := Row.one hr
    have hfl : (neg && ltB 0 (Int.ofNat (trimL xs).length)) = (neg && !(trimL xs).isEmpty) := by
      rw [show (0 : Int) = Int.ofNat 0 from rfl, ltB_nat]
      cases trimL xs <;> simp
    refine CodeR.seq (CodeR.mono (Q := fun e m' s1 => e = .nrm ∧ Fresh s1 ∧ Kept s.c s s1 ∧ s1.c = s.c + 2 ∧ ∃ T2, m' = ⟨36, T2⟩ ∧ T2.get 1 = some (.ptr (some (s.c, 0))) ∧ T2.get 2 = some (.ptr (some (s.c + 1, 0))) ∧ s1.h.get s.c = some ⟨32, [.bool (neg && !(trimL xs).isEmpty), d']⟩ ∧ s1.h.get (s.c + 1) = some ⟨32, i32.zero.cells⟩) (CodeR.reg rfl ?_) ?_)
    · have fin : ∀ (T3 : T AV) (x : Bool), x = (neg && !(trimL xs).isEmpty) → T3.get 1 = some (.ptr (some (s.c, 0))) → T3.get 2 = some (.ptr (some (s.c + 1, 0))) → (Ex.nrm = .nrm ∧ Fresh ⟨s'.h.set s.c ⟨32, [.bool x, d']⟩, s'.c⟩ ∧ Kept s.c s ⟨s'.h.set s.c ⟨32, [.bool x, d']⟩, s'.c⟩ ∧ s'.c = s.c + 2 ∧ ∃ T2, (⟨36, T3⟩ : Tm) = ⟨36, T2⟩ ∧ T2.get 1 = some (.ptr (some (s.c, 0))) ∧ T2.get 2 = some (.ptr (some (s.c + 1, 0))) ∧ (s'.h.set s.c ⟨32, [.bool x, d']⟩).get s.c = some ⟨32, [.bool (neg && !(trimL xs).isEmpty), d']⟩ ∧ (s'.h.set s.c ⟨32, [.bool x, d']⟩).get (s.c + 1) = some ⟨32, i32.zero.cells⟩) := fun T3 x hx k1 k2 => by
        refine ⟨rfl, fun b' hb' => ?_, ⟨hK1.mono, fun b' hb' => ?_⟩, hc1, T3, rfl, k1, k2, ?_, ?_⟩
        · simp only at hb' ⊢
          rw [T.get_set, if_neg (by omega)]
          exact hF1 b' hb'
        · simp only
          rw [T.get_set, if_neg (by omega)]
          exact hK1.keep b' hb'
        · rw [T.get_set, if_pos rfl, hx]
        · rw [T.get_set, if_neg (by omega)]; exact hg2
      cases neg with
      | true =>
        iterate 9 (first | (refine SeqR.skipN ?_ rfl rfl ?_; (simp only [sA, wantE, T.get_set, Nat.reduceEqDiff, h1, tt32, i32, tt24, i24, tt4, i4, sz4, sz24, hg1, e4, ld, b_gtr] <;> with_reducible rfl)) | ((first | refine SeqR.stepN (v := ?_) (s' := ?_) rfl ?_ rfl ?_ rfl rfl ?_ | refine SeqR.stepLN (v := ?_) (s' := ?_) rfl ?_ rfl ?_ rfl rfl ?_); rotate_left 3; (intro call lc; simp only [sA, opE, kindOf, pureE, heapE, rho, rhos, T.get_set, Nat.reduceEqDiff, nb00, absV, absS, l_slice, l_void, l_str, l_arr, natE, loadE, isConst, TK.agg, h1, tt32, i32, tt24, i24, tt4, i4, sz4, sz24, hg1, e4, ld, b_gtr] <;> rfl); rotate_left 1; (simp only [sA, wantE, T.get_set, Nat.reduceEqDiff, h1, tt32, i32, tt24, i24, tt4, i4, sz4, sz24, hg1, e4, ld, b_gtr] <;> with_reducible rfl)))
        refine SeqR.step0 rfl (fun call lc old => op_store (b := s.c) (o := 0) (z := 1) (cs := [.bool (ltB 0 (Int.ofNat (trimL xs).length))]) (v := .bool (ltB 0 (Int.ofNat (trimL xs).length))) (k := ⟨32, [.bool true, d']⟩) (by simp only [rho, T.get_set, if_true]) (by simp only [rho, T.get_set, Nat.reduceEqDiff, if_true, if_false]) rfl rfl rfl sz4 hg1 (by simp) hlo call lc old) rfl ?_
        exact SeqR.done (fin _ _ (by rw [← hfl]; simp) (by simp only [T.get_set, Nat.reduceEqDiff, if_false, h1]) (by simp only [T.get_set, Nat.reduceEqDiff, if_false, h2]))
      | false =>
        iterate 9 (first | (refine SeqR.skipN ?_ rfl rfl ?_; (simp only [sA, wantE, T.get_set, Nat.reduceEqDiff, h1, tt32, i32, tt24, i24, tt4, i4, sz4, sz24, hg1, e4, ld, b_gtr] <;> with_reducible rfl)) | ((first | refine SeqR.stepN (v := ?_) (s' := ?_) rfl ?_ rfl ?_ rfl rfl ?_ | refine SeqR.stepLN (v := ?_) (s' := ?_) rfl ?_ rfl ?_ rfl rfl ?_); rotate_left 3; (intro call lc; simp only [sA, opE, kindOf, pureE, heapE, rho, rhos, T.get_set, Nat.reduceEqDiff, nb00, absV, absS, l_slice, l_void, l_str, l_arr, natE, loadE, isConst, TK.agg, h1, tt32, i32, tt24, i24, tt4, i4, sz4, sz24, hg1, e4, ld, b_gtr] <;> rfl); rotate_left 1; (simp only [sA, wantE, T.get_set, Nat.reduceEqDiff, h1, tt32, i32, tt24, i24, tt4, i4, sz4, sz24, hg1, e4, ld, b_gtr] <;> with_reducible rfl)))
        refine SeqR.step0 rfl (fun call lc old => op_store (b := s.c) (o := 0) (z := 1) (cs := [.bool false]) (v := .bool false) (k := ⟨32, [.bool false, d']⟩) (by simp only [rho, T.get_set, if_true]) (by simp only [rho, T.get_set, Nat.reduceEqDiff, if_true, if_false]) rfl rfl rfl sz4 hg1 (by simp) hlo call lc old) rfl ?_
        exact SeqR.done (fin _ _ (by rw [← hfl]; simp) (by simp only [T.get_set, Nat.reduceEqDiff, if_false, h1]) (by simp only [T.get_set, Nat.reduceEqDiff, if_false, h2]))
    · rintro e m' s1 ⟨rfl, hF3, hK3, hc3, T3, rfl, h1, h2, hg1, hg2⟩
      generalize (neg && !(trimL xs).isEmpty) = x at hg1
      have hcell : cellsAt s1.h s.c 0 2 = some [.bool x, d'] := by
        unfold cellsAt
        rw [hg1, Option.bind_some]
        rfl
      have e5 : Nat.blt s.c s1.c = true := blt_iff.2 (by omega)
      refine CodeR.seq (CodeR.reg rfl ?_)
      refine SeqR.step (v := .agg [.bool x, d']) (s' := s1) rfl rfl (fun call lc => ?_) rfl rfl ?_
      · simp only [opE, rho, h1, Option.bind_some, e5, cond_true, loadE, tt32, i32, TK.agg, hcell, Option.map_some]
      refine SeqR.step0 rfl (fun call lc old => op_store (b := s.c + 1) (o := 0) (z := 2) (cs := [.bool x, d']) (v := .agg [.bool x, d']) (k := ⟨32, i32.zero.cells⟩) (by simp only [rho, T.get_set, Nat.reduceEqDiff, if_false, h2]) (by simp only [rho, T.get_set, if_true]) rfl rfl (by simp only [ones, dd', Bool.and_true]; rfl) sz32 hg2 (by decide) (by omega) call lc old) rfl ?_
      refine SeqR.done ?_
      have hK4 : Kept s.c s ⟨s1.h.set (s.c + 1) ⟨32, putL i32.zero.cells 0 [.bool x, d']⟩, s1.c⟩ := ⟨hK3.mono, fun b' hb' => by simp only; rw [T.get_set, if_neg (by omega)]; exact hK3.keep b' hb'⟩
      refine CodeR.ret ⟨.inr rfl, [.agg [.bool x, d']], ?_, fun b' hb' => ?_, hK4, d', rfl, hr0.keep hF.lt hK4⟩
      · show ressE E _ _ [.cell 2 32] = _
        simp only [ressE, resE, T.get_set, Nat.reduceEqDiff, if_false, h2, Option.bind_some, loadE, tt32, i32, TK.agg, cond_true, cellsAt, if_true]
        rfl
      · simp only at hb' ⊢
        rw [T.get_set, if_neg (by omega)]
        exact hF3 b' hb'
end Go.Proofs.YtaocoplfdhcoaaaGreatDoor.EvA
/- schismaref03.minus, run. -/
set_option linter.unusedVariables false
set_option linter.unusedSimpArgs false
set_option maxRecDepth 20000
set_option maxHeartbeats 2000000
namespace Go.Proofs.YtaocoplfdhcoaaaGreatDoor.EvA
open Go Go.RowKit Go.Proofs.YtaocoplfdhcoaaaGreatDoor.Ev
theorem fn100' : E.fns.get 100 = some Tryz.f100 := by kernel_rfl
/-- The difference of two magnitudes with the base 10^9, c borrowed. -/
def minusL : Nat → List Nat → List Nat → List Nat
  | _, [], _ => []
  | c, x :: xs, ys => (if x < c + ys.headD 0 then x + 1000000000 - (c + ys.headD 0) else x - (c + ys.headD 0)) :: minusL (if x < c + ys.headD 0 then 1 else 0) xs ys.tail
theorem minusL_step {c i : Nat} {xs ys : List Nat} (h : i < xs.length) :
    minusL c (xs.drop i) (ys.drop i) = (if xs.getD i 0 < c + ys.getD i 0 then xs.getD i 0 + 1000000000 - (c + ys.getD i 0) else xs.getD i 0 - (c + ys.getD i 0)) :: minusL (if xs.getD i 0 < c + ys.getD i 0 then 1 else 0) (xs.drop (i + 1)) (ys.drop (i + 1)) := by
  have hx : xs.drop i = xs.getD i 0 :: xs.drop (i + 1) := by
    rw [List.drop_eq_getElem_cons h]
    simp [List.getD_eq_getElem?_getD, List.getElem?_eq_getElem h]
  have hy : (ys.drop i).headD 0 = ys.getD i 0 := by
    rw [List.getD_eq_getElem?_getD, List.headD_eq_head?_getD, List.head?_drop]
  have ht : (ys.drop i).tail = ys.drop (i + 1) := by rw [List.tail_drop]
  rw [hx, minusL, hy, ht]
def Live100 (a b v : AV) (i : Nat) (T1 : T AV) : Prop := T1.get 0 = some a ∧ T1.get 1 = some b ∧ T1.get 7 = some (.int .i64 (Int.ofNat i)) ∧ T1.get 5 = some v
theorem minus_run {lo : Nat} {a b : AV} {xs ys : List Nat} {s : St} (ha : Row s.h 1 (ints xs) a) (hb : Row s.h 1 (ints ys) b) (hF : Fresh s) (hlo : lo ≤ s.c) (hx : xs.length ≤ 1000000) (hsx : Small xs) (hsy : Small ys) :
    FunR E lo 100 [a, b] s fun v s' => Fresh s' ∧ Kept s.c s s' ∧ Own s.c s' 3 1 (ints (minusL 0 xs ys)) v := by
  refine FunR.body (fn := Tryz.f100) fn100' rfl ?_
  have la := lenE_len ha 3
  have lb := lenE_len hb 3
  have hn : (max [a, b].length Tryz.f100.ntmps) = 40 := rfl
  generalize max [a, b].length Tryz.f100.ntmps = n at hn
  subst hn
  have g0 : (argsT 0 [a, b]).get 0 = some a := rfl
  have g1 : (argsT 0 [a, b]).get 1 = some b := rfl
  generalize argsT 0 [a, b] = T0 at g0 g1
  have hn : (40 : Nat) = 40 := rfl
  refine CodeR.seq (CodeR.reg rfl ?_)
  (first | (refine SeqR.skipN ?_ rfl rfl ?_; (simp only [sA, wantE, T.get_set, Nat.reduceEqDiff] <;> with_reducible rfl)) | ((first | refine SeqR.stepN (v := ?_) (s' := ?_) rfl ?_ rfl ?_ rfl rfl ?_ | refine SeqR.stepLN (v := ?_) (s' := ?_) rfl ?_ rfl ?_ rfl rfl ?_); rotate_left 3; (intro call lc; simp only [sA, opE, kindOf, pureE, heapE, rho, rhos, T.get_set, Nat.reduceEqDiff, nb00, absV, absS, l_slice, l_void, l_str, l_arr, natE, loadE, isConst, TK.agg] <;> rfl); rotate_left 1; (simp only [sA, wantE, T.get_set, Nat.reduceEqDiff] <;> with_reducible rfl)))
  refine SeqR.done ?_
  refine CodeR.seq (CodeR.reg rfl ?_)
  (first | (refine SeqR.skipN ?_ rfl rfl ?_; (simp only [sA, wantE, T.get_set, Nat.reduceEqDiff] <;> with_reducible rfl)) | ((first | refine SeqR.stepN (v := ?_) (s' := ?_) rfl ?_ rfl ?_ rfl rfl ?_ | refine SeqR.stepLN (v := ?_) (s' := ?_) rfl ?_ rfl ?_ rfl rfl ?_); rotate_left 3; (intro call lc; simp only [sA, opE, kindOf, pureE, heapE, rho, rhos, T.get_set, Nat.reduceEqDiff, nb00, absV, absS, l_slice, l_void, l_str, l_arr, natE, loadE, isConst, TK.agg] <;> rfl); rotate_left 1; (simp only [sA, wantE, T.get_set, Nat.reduceEqDiff] <;> with_reducible rfl)))
  refine SeqR.done ?_
  refine CodeR.seq (CodeR.reg rfl ?_)
  (first | (refine SeqR.skipN ?_ rfl rfl ?_; (simp only [sA, wantE, T.get_set, Nat.reduceEqDiff] <;> with_reducible rfl)) | ((first | refine SeqR.stepN (v := ?_) (s' := ?_) rfl ?_ rfl ?_ rfl rfl ?_ | refine SeqR.stepLN (v := ?_) (s' := ?_) rfl ?_ rfl ?_ rfl rfl ?_); rotate_left 3; (intro call lc; simp only [sA, opE, kindOf, pureE, heapE, rho, rhos, T.get_set, Nat.reduceEqDiff, nb00, absV, absS, l_slice, l_void, l_str, l_arr, natE, loadE, isConst, TK.agg] <;> rfl); rotate_left 1; (simp only [sA, wantE, T.get_set, Nat.reduceEqDiff] <;> with_reducible rfl)))
  refine SeqR.done ?_
  refine CodeR.seq (CodeR.seq (CodeR.reg rfl ?_))
  (first | (refine SeqR.skipN ?_ rfl rfl ?_; (simp only [sA, wantE, T.get_set, Nat.reduceEqDiff] <;> with_reducible rfl)) | ((first | refine SeqR.stepN (v := ?_) (s' := ?_) rfl ?_ rfl ?_ rfl rfl ?_ | refine SeqR.stepLN (v := ?_) (s' := ?_) rfl ?_ rfl ?_ rfl rfl ?_); rotate_left 3; (intro call lc; simp only [sA, opE, kindOf, pureE, heapE, rho, rhos, T.get_set, Nat.reduceEqDiff, nb00, absV, absS, l_slice, l_void, l_str, l_arr, natE, loadE, isConst, TK.agg] <;> rfl); rotate_left 1; (simp only [sA, wantE, T.get_set, Nat.reduceEqDiff] <;> with_reducible rfl)))
  refine SeqR.done ?_
  refine CodeR.block (CodeR.loop (fun k m s1 => ∃ i c outs v T1, m = ⟨40, T1⟩ ∧ i + k = xs.length ∧ c ≤ 1 ∧ Live100 a b v i T1 ∧ T1.get 6 = some (.int .i64 (Int.ofNat c)) ∧
    Own s.c s1 3 1 (ints outs) v ∧ Fresh s1 ∧ Kept s.c s s1 ∧ minusL 0 xs ys = outs ++ minusL c (xs.drop i) (ys.drop i) ∧ outs.length = i) xs.length ?_ ?_)
  · refine ⟨0, 0, [], .slice none 0 0 0, _, rfl, by omega, by omega, ⟨?_, ?_, ?_, ?_⟩, ?_, .inl ⟨rfl, rfl⟩, hF, Kept.refl _ _, rfl, rfl⟩
    simp only [T.get_set, Nat.reduceEqDiff, if_true, if_false, g0]
    simp only [T.get_set, Nat.reduceEqDiff, if_true, if_false, g1]
    simp only [T.get_set, Nat.reduceEqDiff, if_true, if_false]
    · rfl
    simp only [T.get_set, Nat.reduceEqDiff, if_true, if_false]
    simp only [T.get_set, Nat.reduceEqDiff, if_true, if_false]
    · rfl
  · rintro k m s1 ⟨i, c, outs, v, T1, rfl, hik, hc1, ⟨h0, h1, h7, h5⟩, h6, hown, hF1, hK1, hpl, hol⟩
    have x0 := hsx.get i
    have y0 := hsy.get i
    refine CodeR.seq (CodeR.seq (CodeR.reg rfl ?_))
    iterate 4 (first | (refine SeqR.skipN ?_ rfl rfl ?_; (simp only [sA, wantE, T.get_set, Nat.reduceEqDiff, h0, h7, tt24, i24, la, b_lss] <;> with_reducible rfl)) | ((first | refine SeqR.stepN (v := ?_) (s' := ?_) rfl ?_ rfl ?_ rfl rfl ?_ | refine SeqR.stepLN (v := ?_) (s' := ?_) rfl ?_ rfl ?_ rfl rfl ?_); rotate_left 3; (intro call lc; simp only [sA, opE, kindOf, pureE, heapE, rho, rhos, T.get_set, Nat.reduceEqDiff, nb00, absV, absS, l_slice, l_void, l_str, l_arr, natE, loadE, isConst, TK.agg, h0, h7, tt24, i24, la, b_lss] <;> rfl); rotate_left 1; (simp only [sA, wantE, T.get_set, Nat.reduceEqDiff, h0, h7, tt24, i24, la, b_lss] <;> with_reducible rfl)))
    refine SeqR.done ?_
    refine CodeR.cond (t := ltB (Int.ofNat i) (Int.ofNat xs.length)) (by simp only [rho, T.get_set, Nat.reduceEqDiff, if_true, if_false]) ?_ ?_
    · intro hA
      rw [ltB_nat] at hA
      have hi : i < xs.length := by simpa using hA
      refine CodeR.skip ?_
      obtain ⟨ba, oa, na, ca, qa, ka, rfl, e1, e2, e3⟩ := Row.int (ha.keep hF.lt hK1) hi
      have e4 : Nat.blt ba s1.c = true := blt_iff.2 (hF1.lt ba ka e2)
      have e5 : wr .i64 (Int.ofNat (xs.getD i 0) - Int.ofNat c) = Int.ofNat (xs.getD i 0) - Int.ofNat c := wr_small (by simp only [Int.ofNat_eq_natCast]; omega) (by simp only [Int.ofNat_eq_natCast]; omega)
      refine CodeR.seq (CodeR.block (CodeR.seq (CodeR.reg rfl ?_)))
      iterate 7 (first | (refine SeqR.skipN ?_ rfl rfl ?_; (simp only [sA, wantE, T.get_set, Nat.reduceEqDiff, h0, h1, h7, h6, tt24, i24, tt3, i3, sz3, e1, e2, e3, e4, e5, b_sub] <;> with_reducible rfl)) | ((first | refine SeqR.stepN (v := ?_) (s' := ?_) rfl ?_ rfl ?_ rfl rfl ?_ | refine SeqR.stepLN (v := ?_) (s' := ?_) rfl ?_ rfl ?_ rfl rfl ?_); rotate_left 3; (intro call lc; simp only [sA, opE, kindOf, pureE, heapE, rho, rhos, T.get_set, Nat.reduceEqDiff, nb00, absV, absS, l_slice, l_void, l_str, l_arr, natE, loadE, isConst, TK.agg, h0, h1, h7, h6, tt24, i24, tt3, i3, sz3, e1, e2, e3, e4, e5, b_sub] <;> rfl); rotate_left 1; (simp only [sA, wantE, T.get_set, Nat.reduceEqDiff, h0, h1, h7, h6, tt24, i24, tt3, i3, sz3, e1, e2, e3, e4, e5, b_sub] <;> with_reducible rfl)))
      refine SeqR.done ?_
      refine CodeR.seq (CodeR.mono (Q := fun e m' s'' => e = .nrm ∧ s'' = s1 ∧ ∃ T2, m' = ⟨40, T2⟩ ∧ Live100 (.slice (some (ba, oa)) na ca qa) b v i T2 ∧ T2.get 8 = some (.int .i64 (Int.ofNat (xs.getD i 0) - Int.ofNat c - Int.ofNat (ys.getD i 0)))) (CodeR.seq (CodeR.reg rfl ?_)) ?_)
      · iterate 4 (first | (refine SeqR.skipN ?_ rfl rfl ?_; (simp only [sA, wantE, T.get_set, Nat.reduceEqDiff, h0, h1, h7, h6, tt24, i24, la, lb, b_lss] <;> with_reducible rfl)) | ((first | refine SeqR.stepN (v := ?_) (s' := ?_) rfl ?_ rfl ?_ rfl rfl ?_ | refine SeqR.stepLN (v := ?_) (s' := ?_) rfl ?_ rfl ?_ rfl rfl ?_); rotate_left 3; (intro call lc; simp only [sA, opE, kindOf, pureE, heapE, rho, rhos, T.get_set, Nat.reduceEqDiff, nb00, absV, absS, l_slice, l_void, l_str, l_arr, natE, loadE, isConst, TK.agg, h0, h1, h7, h6, tt24, i24, la, lb, b_lss] <;> rfl); rotate_left 1; (simp only [sA, wantE, T.get_set, Nat.reduceEqDiff, h0, h1, h7, h6, tt24, i24, la, lb, b_lss] <;> with_reducible rfl)))
        refine SeqR.done ?_
        refine CodeR.cond (t := ltB (Int.ofNat i) (Int.ofNat ys.length)) (by simp only [rho, T.get_set, Nat.reduceEqDiff, if_true, if_false]) ?_ ?_
        · intro hB
          rw [ltB_nat] at hB
          obtain ⟨bb, ob, nb, cb, qb, kb, rfl, f1, f2, f3⟩ := Row.int (hb.keep hF.lt hK1) (show i < ys.length by simpa using hB)
          have f4 : Nat.blt bb s1.c = true := blt_iff.2 (hF1.lt bb kb f2)
          have f5 : wr .i64 (Int.ofNat (xs.getD i 0) - Int.ofNat c - Int.ofNat (ys.getD i 0)) = Int.ofNat (xs.getD i 0) - Int.ofNat c - Int.ofNat (ys.getD i 0) := wr_small (by simp only [Int.ofNat_eq_natCast]; omega) (by simp only [Int.ofNat_eq_natCast]; omega)
          refine CodeR.reg rfl ?_
          iterate 7 (first | (refine SeqR.skipN ?_ rfl rfl ?_; (simp only [sA, wantE, T.get_set, Nat.reduceEqDiff, h0, h1, h7, h6, tt24, i24, tt3, i3, sz3, f1, f2, f3, f4, f5, b_sub] <;> with_reducible rfl)) | ((first | refine SeqR.stepN (v := ?_) (s' := ?_) rfl ?_ rfl ?_ rfl rfl ?_ | refine SeqR.stepLN (v := ?_) (s' := ?_) rfl ?_ rfl ?_ rfl rfl ?_); rotate_left 3; (intro call lc; simp only [sA, opE, kindOf, pureE, heapE, rho, rhos, T.get_set, Nat.reduceEqDiff, nb00, absV, absS, l_slice, l_void, l_str, l_arr, natE, loadE, isConst, TK.agg, h0, h1, h7, h6, tt24, i24, tt3, i3, sz3, f1, f2, f3, f4, f5, b_sub] <;> rfl); rotate_left 1; (simp only [sA, wantE, T.get_set, Nat.reduceEqDiff, h0, h1, h7, h6, tt24, i24, tt3, i3, sz3, f1, f2, f3, f4, f5, b_sub] <;> with_reducible rfl)))
          refine SeqR.done ⟨rfl, rfl, _, rfl, ⟨?_, ?_, ?_, ?_⟩, ?_⟩
          simp only [T.get_set, Nat.reduceEqDiff, if_true, if_false, h0]
          simp only [T.get_set, Nat.reduceEqDiff, if_true, if_false, h1]
          simp only [T.get_set, Nat.reduceEqDiff, if_true, if_false, h7]
          simp only [T.get_set, Nat.reduceEqDiff, if_true, if_false, h5]
          simp only [T.get_set, Nat.reduceEqDiff, if_true, if_false]
        · intro hB
          rw [ltB_nat] at hB
          have e6 : ys.getD i 0 = 0 := by rw [List.getD_eq_getElem?_getD, List.getElem?_eq_none (by simpa using hB)]; rfl
          rw [e6]
          refine CodeR.skip ⟨rfl, rfl, _, rfl, ⟨?_, ?_, ?_, ?_⟩, ?_⟩
          simp only [T.get_set, Nat.reduceEqDiff, if_true, if_false, h0]
          simp only [T.get_set, Nat.reduceEqDiff, if_true, if_false, h1]
          simp only [T.get_set, Nat.reduceEqDiff, if_true, if_false, h7]
          simp only [T.get_set, Nat.reduceEqDiff, if_true, if_false, h5]
          simp only [T.get_set, Nat.reduceEqDiff, if_true, if_false]
          · simp
      · rintro e m' s'' ⟨rfl, rfl, T2, rfl, ⟨h0, h1, h7, h5⟩, h8⟩
        generalize hd : Int.ofNat (xs.getD i 0) - Int.ofNat c - Int.ofNat (ys.getD i 0) = dd at h8
        refine CodeR.seq (CodeR.reg rfl ?_)
        (first | (refine SeqR.skipN ?_ rfl rfl ?_; (simp only [sA, wantE, T.get_set, Nat.reduceEqDiff] <;> with_reducible rfl)) | ((first | refine SeqR.stepN (v := ?_) (s' := ?_) rfl ?_ rfl ?_ rfl rfl ?_ | refine SeqR.stepLN (v := ?_) (s' := ?_) rfl ?_ rfl ?_ rfl rfl ?_); rotate_left 3; (intro call lc; simp only [sA, opE, kindOf, pureE, heapE, rho, rhos, T.get_set, Nat.reduceEqDiff, nb00, absV, absS, l_slice, l_void, l_str, l_arr, natE, loadE, isConst, TK.agg] <;> rfl); rotate_left 1; (simp only [sA, wantE, T.get_set, Nat.reduceEqDiff] <;> with_reducible rfl)))
        refine SeqR.done ?_
        refine CodeR.seq (CodeR.mono (Q := fun e m' s3 => e = .nrm ∧ s3 = s'' ∧ ∃ T3, m' = ⟨40, T3⟩ ∧ Live100 (.slice (some (ba, oa)) na ca qa) b v i T3 ∧ T3.get 8 = some (.int .i64 (Int.ofNat (if xs.getD i 0 < c + ys.getD i 0 then xs.getD i 0 + 1000000000 - (c + ys.getD i 0) else xs.getD i 0 - (c + ys.getD i 0)))) ∧ T3.get 6 = some (.int .i64 (Int.ofNat (if xs.getD i 0 < c + ys.getD i 0 then 1 else 0)))) (CodeR.seq (CodeR.reg rfl ?_)) ?_)
        · iterate 2 (first | (refine SeqR.skipN ?_ rfl rfl ?_; (simp only [sA, wantE, T.get_set, Nat.reduceEqDiff, h8, b_lss] <;> with_reducible rfl)) | ((first | refine SeqR.stepN (v := ?_) (s' := ?_) rfl ?_ rfl ?_ rfl rfl ?_ | refine SeqR.stepLN (v := ?_) (s' := ?_) rfl ?_ rfl ?_ rfl rfl ?_); rotate_left 3; (intro call lc; simp only [sA, opE, kindOf, pureE, heapE, rho, rhos, T.get_set, Nat.reduceEqDiff, nb00, absV, absS, l_slice, l_void, l_str, l_arr, natE, loadE, isConst, TK.agg, h8, b_lss] <;> rfl); rotate_left 1; (simp only [sA, wantE, T.get_set, Nat.reduceEqDiff, h8, b_lss] <;> with_reducible rfl)))
          refine SeqR.done ?_
          have hcond : ltB dd 0 = decide (xs.getD i 0 < c + ys.getD i 0) := by
            rw [ltB_eq, Bool.eq_iff_iff]
            simp only [decide_eq_true_eq, ← hd, Int.ofNat_eq_natCast]
            omega
          refine CodeR.cond (t := ltB dd 0) (by simp only [rho, T.get_set, Nat.reduceEqDiff, if_true, if_false]) ?_ ?_
          · intro hB
            rw [hcond] at hB
            have hB' := of_decide_eq_true hB
            rw [if_pos hB', if_pos hB']
            have f6 : wr .i64 (dd + 1000000000) = Int.ofNat (xs.getD i 0 + 1000000000 - (c + ys.getD i 0)) := by
              rw [wr_small (by rw [← hd]; simp only [Int.ofNat_eq_natCast]; omega) (by rw [← hd]; simp only [Int.ofNat_eq_natCast]; omega), ← hd]
              simp only [Int.ofNat_eq_natCast]
              omega
            refine CodeR.reg rfl ?_
            iterate 4 (first | (refine SeqR.skipN ?_ rfl rfl ?_; (simp only [sA, wantE, T.get_set, Nat.reduceEqDiff, h8, b_add, f6] <;> with_reducible rfl)) | ((first | refine SeqR.stepN (v := ?_) (s' := ?_) rfl ?_ rfl ?_ rfl rfl ?_ | refine SeqR.stepLN (v := ?_) (s' := ?_) rfl ?_ rfl ?_ rfl rfl ?_); rotate_left 3; (intro call lc; simp only [sA, opE, kindOf, pureE, heapE, rho, rhos, T.get_set, Nat.reduceEqDiff, nb00, absV, absS, l_slice, l_void, l_str, l_arr, natE, loadE, isConst, TK.agg, h8, b_add, f6] <;> rfl); rotate_left 1; (simp only [sA, wantE, T.get_set, Nat.reduceEqDiff, h8, b_add, f6] <;> with_reducible rfl)))
            refine SeqR.done ⟨rfl, rfl, _, rfl, ⟨?_, ?_, ?_, ?_⟩, ?_, ?_⟩
            simp only [T.get_set, Nat.reduceEqDiff, if_true, if_false, h0]
            simp only [T.get_set, Nat.reduceEqDiff, if_true, if_false, h1]
            simp only [T.get_set, Nat.reduceEqDiff, if_true, if_false, h7]
            simp only [T.get_set, Nat.reduceEqDiff, if_true, if_false, h5]
            simp only [T.get_set, Nat.reduceEqDiff, if_true, if_false]
            simp only [T.get_set, Nat.reduceEqDiff, if_true, if_false]
            · rfl
          · intro hB
            rw [hcond] at hB
            have hB' := of_decide_eq_false hB
            rw [if_neg hB', if_neg hB']
            have f6 : dd = Int.ofNat (xs.getD i 0 - (c + ys.getD i 0)) := by
              rw [← hd]
              simp only [Int.ofNat_eq_natCast]
              omega
            refine CodeR.skip ⟨rfl, rfl, _, rfl, ⟨?_, ?_, ?_, ?_⟩, ?_, ?_⟩
            simp only [T.get_set, Nat.reduceEqDiff, if_true, if_false, h0]
            simp only [T.get_set, Nat.reduceEqDiff, if_true, if_false, h1]
            simp only [T.get_set, Nat.reduceEqDiff, if_true, if_false, h7]
            simp only [T.get_set, Nat.reduceEqDiff, if_true, if_false, h5]
            simp only [T.get_set, Nat.reduceEqDiff, if_true, if_false, h8]
            · rw [f6]
            simp only [T.get_set, Nat.reduceEqDiff, if_true, if_false]
            · rfl
        · rintro e m' s3 ⟨rfl, rfl, T4, rfl, ⟨h0, h1, h7, h5⟩, h8, h6⟩
          generalize ht : (if xs.getD i 0 < c + ys.getD i 0 then xs.getD i 0 + 1000000000 - (c + ys.getD i 0) else xs.getD i 0 - (c + ys.getD i 0)) = t at h8
          refine CodeR.reg rfl ?_
          iterate 2 (first | (refine SeqR.skipN ?_ rfl rfl ?_; (simp only [sA, wantE, T.get_set, Nat.reduceEqDiff, h5, h8] <;> with_reducible rfl)) | ((first | refine SeqR.stepN (v := ?_) (s' := ?_) rfl ?_ rfl ?_ rfl rfl ?_ | refine SeqR.stepLN (v := ?_) (s' := ?_) rfl ?_ rfl ?_ rfl rfl ?_); rotate_left 3; (intro call lc; simp only [sA, opE, kindOf, pureE, heapE, rho, rhos, T.get_set, Nat.reduceEqDiff, nb00, absV, absS, l_slice, l_void, l_str, l_arr, natE, loadE, isConst, TK.agg, h5, h8] <;> rfl); rotate_left 1; (simp only [sA, wantE, T.get_set, Nat.reduceEqDiff, h5, h8] <;> with_reducible rfl)))
          refine SeqR.step (v := _) (s' := _) rfl rfl (fun call lc => op_build1 (k := .i64) (n := Int.ofNat t) (by simp only [rho, T.get_set, if_true])) rfl rfl ?_
          have hF3 : Fresh ⟨s3.h.set s3.c ⟨3, [.int .i64 (Int.ofNat t)]⟩, s3.c + 1⟩ := fun b' hb' => by
            simp only at hb' ⊢
            rw [T.get_set, if_neg (by omega)]
            exact hF1 b' (by omega)
          have hK3 : Kept s3.c s3 ⟨s3.h.set s3.c ⟨3, [.int .i64 (Int.ofNat t)]⟩, s3.c + 1⟩ := ⟨Nat.le_succ _, fun b' hb' => by simp only; rw [T.get_set, if_neg (by omega)]⟩
          have hcs := hK1.mono
          have hown3 := hown.keep hF1 hK3
          refine SeqR.append1 (x := .tmp 35) (y := .tmp 37) (b := s3.c) (w := .int .i64 (Int.ofNat t)) (cs := ints outs) (v := v) rfl rfl rfl rfl (by simp only [rho, T.get_set, Nat.reduceEqDiff, if_true, if_false, h5]) (by simp only [rho, T.get_set, if_true]) (by simp only [T.get_set, if_true]) rfl hlo (by simp only; omega) hown3 hF3 (ones_ints _) (by rw [ints_length]; omega) ?_
          intro v' s4 q1 q2 q3
          (first | (refine SeqR.skipN ?_ rfl rfl ?_; (simp only [sA, wantE, T.get_set, Nat.reduceEqDiff] <;> with_reducible rfl)) | ((first | refine SeqR.stepN (v := ?_) (s' := ?_) rfl ?_ rfl ?_ rfl rfl ?_ | refine SeqR.stepLN (v := ?_) (s' := ?_) rfl ?_ rfl ?_ rfl rfl ?_); rotate_left 3; (intro call lc; simp only [sA, opE, kindOf, pureE, heapE, rho, rhos, T.get_set, Nat.reduceEqDiff, nb00, absV, absS, l_slice, l_void, l_str, l_arr, natE, loadE, isConst, TK.agg] <;> rfl); rotate_left 1; (simp only [sA, wantE, T.get_set, Nat.reduceEqDiff] <;> with_reducible rfl)))
          refine SeqR.done ?_
          refine CodeR.reg rfl ?_
          have e8 := wr_add (a := i) (b := 1) (by omega)
          have e9 : (1 : Int) = Int.ofNat 1 := rfl
          iterate 3 (first | (refine SeqR.skipN ?_ rfl rfl ?_; (simp only [sA, wantE, T.get_set, Nat.reduceEqDiff, h7, b_add, e9, e8] <;> with_reducible rfl)) | ((first | refine SeqR.stepN (v := ?_) (s' := ?_) rfl ?_ rfl ?_ rfl rfl ?_ | refine SeqR.stepLN (v := ?_) (s' := ?_) rfl ?_ rfl ?_ rfl rfl ?_); rotate_left 3; (intro call lc; simp only [sA, opE, kindOf, pureE, heapE, rho, rhos, T.get_set, Nat.reduceEqDiff, nb00, absV, absS, l_slice, l_void, l_str, l_arr, natE, loadE, isConst, TK.agg, h7, b_add, e9, e8] <;> rfl); rotate_left 1; (simp only [sA, wantE, T.get_set, Nat.reduceEqDiff, h7, b_add, e9, e8] <;> with_reducible rfl)))
          refine SeqR.done ⟨k - 1, by omega, i + 1, (if xs.getD i 0 < c + ys.getD i 0 then 1 else 0), outs ++ [t], v', _, rfl, by omega, by split <;> omega, ⟨?_, ?_, ?_, ?_⟩, ?_, ?_, q2, ?_, ?_, ?_⟩
          simp only [T.get_set, Nat.reduceEqDiff, if_true, if_false, h0]
          simp only [T.get_set, Nat.reduceEqDiff, if_true, if_false, h1]
          simp only [T.get_set, Nat.reduceEqDiff, if_true, if_false]
          simp only [T.get_set, Nat.reduceEqDiff, if_true, if_false]
          simp only [T.get_set, Nat.reduceEqDiff, if_true, if_false, h6]
          · rw [← ints_append]; exact q1
          · exact hK1.trans ((hK3.le (by omega)).trans q3)
          · rw [hpl, minusL_step hi, ht]
            simp
          · simp [hol]
    · intro hA
      rw [ltB_nat] at hA
      have hi : ¬ i < xs.length := by simpa using hA
      refine CodeR.exit ?_
      simp only [Ex.then, Ex.inBlock, if_true]
      refine CodeR.seq (CodeR.reg rfl ?_)
      iterate 2 (first | (refine SeqR.skipN ?_ rfl rfl ?_; (simp only [sA, wantE, T.get_set, Nat.reduceEqDiff, h5] <;> with_reducible rfl)) | ((first | refine SeqR.stepN (v := ?_) (s' := ?_) rfl ?_ rfl ?_ rfl rfl ?_ | refine SeqR.stepLN (v := ?_) (s' := ?_) rfl ?_ rfl ?_ rfl rfl ?_); rotate_left 3; (intro call lc; simp only [sA, opE, kindOf, pureE, heapE, rho, rhos, T.get_set, Nat.reduceEqDiff, nb00, absV, absS, l_slice, l_void, l_str, l_arr, natE, loadE, isConst, TK.agg, h5] <;> rfl); rotate_left 1; (simp only [sA, wantE, T.get_set, Nat.reduceEqDiff, h5] <;> with_reducible rfl)))
      refine SeqR.done ?_
      refine CodeR.ret ⟨.inr rfl, [v], ?_, hF1, hK1, ?_⟩
      · show ressE E _ s1 [.tmp 4] = _
        simp only [ressE, resE, T.get_set, if_true, Option.bind_some, Option.map_some]
      · have : minusL 0 xs ys = outs := by
          rw [hpl, List.drop_eq_nil_of_le (show xs.length ≤ i by omega), minusL, List.append_nil]
        rw [this]
        exact hown
end Go.Proofs.YtaocoplfdhcoaaaGreatDoor.EvA

/- checker.trim, run. -/
import Derived.Test.YtaocoplfdhcoaaaGreatDoorEvB2
import Derived.Test.YtaocoplfdhcoaaaGreatDoorEvC99
set_option linter.unusedVariables false
set_option linter.unusedSimpArgs false
set_option maxRecDepth 20000
set_option maxHeartbeats 2000000
namespace Go.Proofs.YtaocoplfdhcoaaaGreatDoor.EvA
open Go Go.RowKit Go.Proofs.YtaocoplfdhcoaaaGreatDoor.Ev
theorem fn302' : E.fns.get 302 = some Tryz.f302 := by kernel_rfl
theorem ctrim_run {lo : Nat} {d : AV} {xs : List Nat} {s : St} (hd : Row s.h 1 (nats xs) d) (hF : Fresh s) (hx : xs.length ≤ 1000000) :
    FunR E lo 302 [d] s fun v s' => s' = s ∧ Row s.h 1 (nats (trimL xs)) v := by
  refine FunR.body (fn := Tryz.f302) fn302' rfl ?_
  have hn : (max [d].length Tryz.f302.ntmps) = 21 := rfl
  generalize max [d].length Tryz.f302.ntmps = n at hn
  subst hn
  have g0 : (argsT 0 [d]).get 0 = some d := rfl
  generalize argsT 0 [d] = T0 at g0
  have hn : (21 : Nat) = 21 := rfl
  refine CodeR.seq (CodeR.reg rfl ?_)
  (first | (refine SeqR.skipN ?_ rfl rfl ?_; (simp only [sA, wantE, T.get_set, Nat.reduceEqDiff] <;> with_reducible rfl)) | ((first | refine SeqR.stepN (v := ?_) (s' := ?_) rfl ?_ rfl ?_ rfl rfl ?_ | refine SeqR.stepLN (v := ?_) (s' := ?_) rfl ?_ rfl ?_ rfl rfl ?_); rotate_left 3; (intro call lc; simp only [sA, opE, kindOf, pureE, heapE, rho, rhos, T.get_set, Nat.reduceEqDiff, nb00, absV, absS, l_slice, l_void, l_str, l_arr, natE, loadE, isConst, TK.agg] <;> rfl); rotate_left 1; (simp only [sA, wantE, T.get_set, Nat.reduceEqDiff] <;> with_reducible rfl)))
  refine SeqR.done ?_
  refine CodeR.seq (CodeR.mono (Q := fun e m' s' => e = .nrm ∧ s' = s ∧ ∃ T2 d', m' = ⟨21, T2⟩ ∧ T2.get 0 = some d' ∧ Row s.h 1 (nats (trimL xs)) d')
    (CodeR.block (CodeR.loop (fun k m s1 => s1 = s ∧ k ≤ xs.length ∧ trimN xs xs.length = trimN xs k ∧ ∃ T2 d', m = ⟨21, T2⟩ ∧ T2.get 0 = some d' ∧ Row s.h 1 (nats (xs.take k)) d') xs.length ?_ ?_)) ?_)
  · refine ⟨rfl, Nat.le_refl _, rfl, _, d, rfl, ?_, ?_⟩
    simp only [T.get_set, Nat.reduceEqDiff, if_true, if_false, g0]
    · rw [List.take_length]; exact hd
  · rintro k m s1 ⟨rfl, hk, htn, T2, d', rfl, h0, hr⟩
    have hlen : (xs.take k).length = k := by rw [List.length_take]; omega
    have ld := lenN hr 245
    rw [hlen] at ld
    cases k with
    | zero =>
      have e0 : ltB 0 (Int.ofNat 0) = false := rfl
      refine CodeR.seq (CodeR.seq (CodeR.reg rfl ?_))
      iterate 12 (first | (refine SeqR.skipN ?_ rfl rfl ?_; (simp only [sA, wantE, T.get_set, Nat.reduceEqDiff, h0, tt169, i169, ld, b_gtr, e0] <;> with_reducible rfl)) | ((first | refine SeqR.stepN (v := ?_) (s' := ?_) rfl ?_ rfl ?_ rfl rfl ?_ | refine SeqR.stepLN (v := ?_) (s' := ?_) rfl ?_ rfl ?_ rfl rfl ?_); rotate_left 3; (intro call lc; simp only [sA, opE, kindOf, pureE, heapE, rho, rhos, T.get_set, Nat.reduceEqDiff, nb00, absV, absS, l_slice, l_void, l_str, l_arr, natE, loadE, isConst, TK.agg, h0, tt169, i169, ld, b_gtr, e0] <;> rfl); rotate_left 1; (simp only [sA, wantE, T.get_set, Nat.reduceEqDiff, h0, tt169, i169, ld, b_gtr, e0] <;> with_reducible rfl)))
      refine SeqR.done ?_
      refine CodeR.cond (t := false) (by simp only [rho, T.get_set, Nat.reduceEqDiff, if_true, if_false]) (fun h => by cases h) fun _ => ?_
      refine CodeR.exit ?_
      simp only [Ex.then, Ex.inBlock, if_true]
      refine ⟨trivial, trivial, _, d', rfl, ?_, ?_⟩
      simp only [T.get_set, Nat.reduceEqDiff, if_true, if_false, h0]
      · rw [trimL, htn]; exact hr
    | succ i =>
      have e0 : ltB 0 (Int.ofNat (i + 1)) = true := rfl
      have e5 : wr .i64 (Int.ofNat (i + 1) - 1) = Int.ofNat i := wr_pred (k := i + 1) (by omega)
      obtain ⟨b, o, n, c, q, kk, rfl, f1, f2, f3⟩ := Row.nat hr (i := i) (by rw [hlen]; omega)
      have f5 : (xs.take (i + 1)).getD i 0 = xs.getD i 0 := by simp [List.getD_eq_getElem?_getD, List.getElem?_take]
      rw [f5] at f3
      have f4 : Nat.blt b s1.c = true := blt_iff.2 (hF.lt b kk f2)
      refine CodeR.seq (CodeR.seq (CodeR.reg rfl ?_))
      iterate 12 (first | (refine SeqR.skipN ?_ rfl rfl ?_; (simp only [sA, wantE, T.get_set, Nat.reduceEqDiff, h0, tt169, i169, tt245, i245, sz245, ld, b_gtr, e0, b_sub, e5, f1, f2, f3, f4, b_eql] <;> with_reducible rfl)) | ((first | refine SeqR.stepN (v := ?_) (s' := ?_) rfl ?_ rfl ?_ rfl rfl ?_ | refine SeqR.stepLN (v := ?_) (s' := ?_) rfl ?_ rfl ?_ rfl rfl ?_); rotate_left 3; (intro call lc; simp only [sA, opE, kindOf, pureE, heapE, rho, rhos, T.get_set, Nat.reduceEqDiff, nb00, absV, absS, l_slice, l_void, l_str, l_arr, natE, loadE, isConst, TK.agg, h0, tt169, i169, tt245, i245, sz245, ld, b_gtr, e0, b_sub, e5, f1, f2, f3, f4, b_eql] <;> rfl); rotate_left 1; (simp only [sA, wantE, T.get_set, Nat.reduceEqDiff, h0, tt169, i169, tt245, i245, sz245, ld, b_gtr, e0, b_sub, e5, f1, f2, f3, f4, b_eql] <;> with_reducible rfl)))
      refine SeqR.done ?_
      refine CodeR.cond (t := eqB (Int.ofNat (xs.getD i 0)) 0) (by simp only [rho, T.get_set, Nat.reduceEqDiff, if_true, if_false]) ?_ ?_
      · intro hz
        have hz' : xs.getD i 0 = 0 := by
          rw [show (0 : Int) = Int.ofNat 0 from rfl, eqB_nat] at hz
          simpa using hz
        refine CodeR.skip ?_
        obtain ⟨v', p1, p2⟩ := Row.front hr (by omega) (k := i) (by rw [nats_length, hlen]; omega)
        refine CodeR.block (CodeR.reg rfl ?_)
        iterate 6 (first | (refine SeqR.skipN ?_ rfl rfl ?_; (simp only [sA, wantE, T.get_set, Nat.reduceEqDiff, h0, tt169, i169, tt245, i245, sz245, ld, b_sub, e5, p1] <;> with_reducible rfl)) | ((first | refine SeqR.stepN (v := ?_) (s' := ?_) rfl ?_ rfl ?_ rfl rfl ?_ | refine SeqR.stepLN (v := ?_) (s' := ?_) rfl ?_ rfl ?_ rfl rfl ?_); rotate_left 3; (intro call lc; simp only [sA, opE, kindOf, pureE, heapE, rho, rhos, T.get_set, Nat.reduceEqDiff, nb00, absV, absS, l_slice, l_void, l_str, l_arr, natE, loadE, isConst, TK.agg, h0, tt169, i169, tt245, i245, sz245, ld, b_sub, e5, p1] <;> rfl); rotate_left 1; (simp only [sA, wantE, T.get_set, Nat.reduceEqDiff, h0, tt169, i169, tt245, i245, sz245, ld, b_sub, e5, p1] <;> with_reducible rfl)))
        refine SeqR.done ⟨i, Nat.lt_succ_self _, rfl, by omega, ?_, _, v', rfl, ?_, ?_⟩
        · rw [htn, trimN, if_pos hz']
        simp only [T.get_set, Nat.reduceEqDiff, if_true, if_false]
        · rw [Nat.mul_one, nats_take, List.take_take, Nat.min_eq_left (by omega)] at p2
          exact p2
      · intro hz
        have hz' : xs.getD i 0 ≠ 0 := by
          rw [show (0 : Int) = Int.ofNat 0 from rfl, eqB_nat] at hz
          simpa using hz
        refine CodeR.exit ?_
        simp only [Ex.then, Ex.inBlock, if_true]
        refine ⟨trivial, trivial, _, .slice (some (b, o)) n c q, rfl, ?_, ?_⟩
        simp only [T.get_set, Nat.reduceEqDiff, if_true, if_false, h0]
        · rw [trimL, htn, trimN, if_neg hz']; exact hr
  · rintro e m' s' ⟨rfl, rfl, T2, d', rfl, h0, hr⟩
    refine CodeR.seq (CodeR.reg rfl ?_)
    iterate 2 (first | (refine SeqR.skipN ?_ rfl rfl ?_; (simp only [sA, wantE, T.get_set, Nat.reduceEqDiff, h0] <;> with_reducible rfl)) | ((first | refine SeqR.stepN (v := ?_) (s' := ?_) rfl ?_ rfl ?_ rfl rfl ?_ | refine SeqR.stepLN (v := ?_) (s' := ?_) rfl ?_ rfl ?_ rfl rfl ?_); rotate_left 3; (intro call lc; simp only [sA, opE, kindOf, pureE, heapE, rho, rhos, T.get_set, Nat.reduceEqDiff, nb00, absV, absS, l_slice, l_void, l_str, l_arr, natE, loadE, isConst, TK.agg, h0] <;> rfl); rotate_left 1; (simp only [sA, wantE, T.get_set, Nat.reduceEqDiff, h0] <;> with_reducible rfl)))
    refine SeqR.done ?_
    refine CodeR.ret ⟨.inr rfl, [d'], ?_, rfl, hr⟩
    show ressE E _ s' [.tmp 2] = _
    simp only [ressE, resE, T.get_set, if_true, Option.bind_some, Option.map_some]
end Go.Proofs.YtaocoplfdhcoaaaGreatDoor.EvA
/- checker.order, run. -/
set_option linter.unusedVariables false
set_option linter.unusedSimpArgs false
set_option maxRecDepth 20000
set_option maxHeartbeats 2000000
namespace Go.Proofs.YtaocoplfdhcoaaaGreatDoor.EvA
open Go Go.RowKit Go.Proofs.YtaocoplfdhcoaaaGreatDoor.Ev
theorem fn128' : E.fns.get 128 = some Tryz.f128 := by kernel_rfl
theorem order_run {lo : Nat} {a b : AV} {xs ys : List Nat} {s : St} (ha : Row s.h 1 (nats xs) a) (hb : Row s.h 1 (nats ys) b) (hF : Fresh s) (hx : xs.length ≤ 1000000) :
    FunR E lo 128 [a, b] s fun v s' => s' = s ∧ v = .int .i64 (aboveL xs ys) := by
  refine FunR.body (fn := Tryz.f128) fn128' rfl ?_
  have la := lenN ha 245
  have lb := lenN hb 245
  have hn : (max [a, b].length Tryz.f128.ntmps) = 43 := rfl
  generalize max [a, b].length Tryz.f128.ntmps = n at hn
  subst hn
  have g0 : (argsT 0 [a, b]).get 0 = some a := rfl
  have g1 : (argsT 0 [a, b]).get 1 = some b := rfl
  generalize argsT 0 [a, b] = T0 at g0 g1
  have hn : (43 : Nat) = 43 := rfl
  refine CodeR.seq (CodeR.reg rfl ?_)
  (first | (refine SeqR.skipN ?_ rfl rfl ?_; (simp only [sA, wantE, T.get_set, Nat.reduceEqDiff] <;> with_reducible rfl)) | ((first | refine SeqR.stepN (v := ?_) (s' := ?_) rfl ?_ rfl ?_ rfl rfl ?_ | refine SeqR.stepLN (v := ?_) (s' := ?_) rfl ?_ rfl ?_ rfl rfl ?_); rotate_left 3; (intro call lc; simp only [sA, opE, kindOf, pureE, heapE, rho, rhos, T.get_set, Nat.reduceEqDiff, nb00, absV, absS, l_slice, l_void, l_str, l_arr, natE, loadE, isConst, TK.agg] <;> rfl); rotate_left 1; (simp only [sA, wantE, T.get_set, Nat.reduceEqDiff] <;> with_reducible rfl)))
  refine SeqR.done ?_
  refine CodeR.seq (CodeR.seq (CodeR.reg rfl ?_))
  iterate 5 (first | (refine SeqR.skipN ?_ rfl rfl ?_; (simp only [sA, wantE, T.get_set, Nat.reduceEqDiff, g0, g1, tt169, la, lb, b_neq, i169] <;> with_reducible rfl)) | ((first | refine SeqR.stepN (v := ?_) (s' := ?_) rfl ?_ rfl ?_ rfl rfl ?_ | refine SeqR.stepLN (v := ?_) (s' := ?_) rfl ?_ rfl ?_ rfl rfl ?_); rotate_left 3; (intro call lc; simp only [sA, opE, kindOf, pureE, heapE, rho, rhos, T.get_set, Nat.reduceEqDiff, nb00, absV, absS, l_slice, l_void, l_str, l_arr, natE, loadE, isConst, TK.agg, g0, g1, tt169, la, lb, b_neq, i169] <;> rfl); rotate_left 1; (simp only [sA, wantE, T.get_set, Nat.reduceEqDiff, g0, g1, tt169, la, lb, b_neq, i169] <;> with_reducible rfl)))
  refine SeqR.done ?_
  have fin : ∀ {T1 : T AV} {v : Int}, T1.get 4 = some (.int .i64 v) → v = aboveL xs ys → (Ex.ret = .nrm ∨ Ex.ret = .ret) ∧ ∃ us, ressE E T1 s Tryz.f128.results.toList = some us ∧ (s = s ∧ oneOf us = .int .i64 (aboveL xs ys)) := fun {T1 v} h4 hv => by
    refine ⟨.inr rfl, [.int .i64 v], ?_, rfl, by rw [hv]; rfl⟩
    show ressE E T1 s [.tmp 4] = _
    simp only [ressE, resE, h4, Option.bind_some, Option.map_some]
  refine CodeR.cond (t := !eqB (Int.ofNat xs.length) (Int.ofNat ys.length)) (by simp only [rho, T.get_set, Nat.reduceEqDiff, if_true, if_false]) ?_ ?_
  · intro hne
    have hne' : xs.length ≠ ys.length := by rw [eqB_nat] at hne; simpa using hne
    refine CodeR.seq (CodeR.seq (CodeR.reg rfl ?_))
    iterate 5 (first | (refine SeqR.skipN ?_ rfl rfl ?_; (simp only [sA, wantE, T.get_set, Nat.reduceEqDiff, g0, g1, tt169, la, lb, b_lss, i169] <;> with_reducible rfl)) | ((first | refine SeqR.stepN (v := ?_) (s' := ?_) rfl ?_ rfl ?_ rfl rfl ?_ | refine SeqR.stepLN (v := ?_) (s' := ?_) rfl ?_ rfl ?_ rfl rfl ?_); rotate_left 3; (intro call lc; simp only [sA, opE, kindOf, pureE, heapE, rho, rhos, T.get_set, Nat.reduceEqDiff, nb00, absV, absS, l_slice, l_void, l_str, l_arr, natE, loadE, isConst, TK.agg, g0, g1, tt169, la, lb, b_lss, i169] <;> rfl); rotate_left 1; (simp only [sA, wantE, T.get_set, Nat.reduceEqDiff, g0, g1, tt169, la, lb, b_lss, i169] <;> with_reducible rfl)))
    refine SeqR.done ?_
    refine CodeR.cond (t := ltB (Int.ofNat xs.length) (Int.ofNat ys.length)) (by simp only [rho, T.get_set, Nat.reduceEqDiff, if_true, if_false]) ?_ ?_
    · intro hlt
      refine CodeR.seq (CodeR.reg rfl ?_)
      (first | (refine SeqR.skipN ?_ rfl rfl ?_; (simp only [sA, wantE, T.get_set, Nat.reduceEqDiff] <;> with_reducible rfl)) | ((first | refine SeqR.stepN (v := ?_) (s' := ?_) rfl ?_ rfl ?_ rfl rfl ?_ | refine SeqR.stepLN (v := ?_) (s' := ?_) rfl ?_ rfl ?_ rfl rfl ?_); rotate_left 3; (intro call lc; simp only [sA, opE, kindOf, pureE, heapE, rho, rhos, T.get_set, Nat.reduceEqDiff, nb00, absV, absS, l_slice, l_void, l_str, l_arr, natE, loadE, isConst, TK.agg] <;> rfl); rotate_left 1; (simp only [sA, wantE, T.get_set, Nat.reduceEqDiff] <;> with_reducible rfl)))
      refine SeqR.done ?_
      refine CodeR.ret (fin (v := -1) (by simp only [T.get_set, if_true]) ?_)
      rw [ltB_nat] at hlt
      rw [aboveL, if_neg hne', if_pos (by simpa using hlt)]
    · intro hlt
      refine CodeR.skip ?_
      refine CodeR.seq (CodeR.reg rfl ?_)
      (first | (refine SeqR.skipN ?_ rfl rfl ?_; (simp only [sA, wantE, T.get_set, Nat.reduceEqDiff] <;> with_reducible rfl)) | ((first | refine SeqR.stepN (v := ?_) (s' := ?_) rfl ?_ rfl ?_ rfl rfl ?_ | refine SeqR.stepLN (v := ?_) (s' := ?_) rfl ?_ rfl ?_ rfl rfl ?_); rotate_left 3; (intro call lc; simp only [sA, opE, kindOf, pureE, heapE, rho, rhos, T.get_set, Nat.reduceEqDiff, nb00, absV, absS, l_slice, l_void, l_str, l_arr, natE, loadE, isConst, TK.agg] <;> rfl); rotate_left 1; (simp only [sA, wantE, T.get_set, Nat.reduceEqDiff] <;> with_reducible rfl)))
      refine SeqR.done ?_
      refine CodeR.ret (fin (v := 1) (by simp only [T.get_set, if_true]) ?_)
      rw [ltB_nat] at hlt
      rw [aboveL, if_neg hne', if_neg (by simpa using hlt)]
  · intro heq
    have heq' : xs.length = ys.length := by rw [eqB_nat] at heq; simpa using heq
    refine CodeR.skip ?_
    refine CodeR.seq (CodeR.seq (CodeR.reg rfl ?_))
    iterate 4 (first | (refine SeqR.skipN ?_ rfl rfl ?_; (simp only [sA, wantE, T.get_set, Nat.reduceEqDiff, g0, tt169, la, b_sub, i169] <;> with_reducible rfl)) | ((first | refine SeqR.stepN (v := ?_) (s' := ?_) rfl ?_ rfl ?_ rfl rfl ?_ | refine SeqR.stepLN (v := ?_) (s' := ?_) rfl ?_ rfl ?_ rfl rfl ?_); rotate_left 3; (intro call lc; simp only [sA, opE, kindOf, pureE, heapE, rho, rhos, T.get_set, Nat.reduceEqDiff, nb00, absV, absS, l_slice, l_void, l_str, l_arr, natE, loadE, isConst, TK.agg, g0, tt169, la, b_sub, i169] <;> rfl); rotate_left 1; (simp only [sA, wantE, T.get_set, Nat.reduceEqDiff, g0, tt169, la, b_sub, i169] <;> with_reducible rfl)))
    refine SeqR.done ?_
    refine CodeR.block (CodeR.loop (fun k m s1 => m.n = 43 ∧ s1 = s ∧ k ≤ xs.length ∧ m.t.get 0 = some a ∧ m.t.get 1 = some b ∧ m.t.get 5 = some (.int .i64 (pred k)) ∧ cmpTop xs ys xs.length = cmpTop xs ys k) xs.length ?_ ?_)
    · refine ⟨rfl, rfl, Nat.le_refl _, ?_, ?_, ?_, rfl⟩
      simp only [T.get_set, Nat.reduceEqDiff, if_true, if_false, g0]
      simp only [T.get_set, Nat.reduceEqDiff, if_true, if_false, g1]
      simp only [T.get_set, Nat.reduceEqDiff, if_true, if_false]
      rw [wr_pred (by omega)]
    · rintro k ⟨n, T1⟩ s1 ⟨hn, rfl, hk, h0, h1, h5, hc⟩
      simp only at hn h0 h1 h5
      subst hn
      have hn : (43 : Nat) = 43 := rfl
      refine CodeR.seq (CodeR.seq (CodeR.reg rfl ?_))
      iterate 2 (first | (refine SeqR.skipN ?_ rfl rfl ?_; (simp only [sA, wantE, T.get_set, Nat.reduceEqDiff, h5, b_geq] <;> with_reducible rfl)) | ((first | refine SeqR.stepN (v := ?_) (s' := ?_) rfl ?_ rfl ?_ rfl rfl ?_ | refine SeqR.stepLN (v := ?_) (s' := ?_) rfl ?_ rfl ?_ rfl rfl ?_); rotate_left 3; (intro call lc; simp only [sA, opE, kindOf, pureE, heapE, rho, rhos, T.get_set, Nat.reduceEqDiff, nb00, absV, absS, l_slice, l_void, l_str, l_arr, natE, loadE, isConst, TK.agg, h5, b_geq] <;> rfl); rotate_left 1; (simp only [sA, wantE, T.get_set, Nat.reduceEqDiff, h5, b_geq] <;> with_reducible rfl)))
      refine SeqR.done ?_
      refine CodeR.cond (t := !ltB (pred k) 0) (by simp only [rho, T.get_set, Nat.reduceEqDiff, if_true, if_false]) ?_ ?_
      · intro hpos
        obtain ⟨i, rfl⟩ : ∃ i, k = i + 1 := by
          cases k with
          | zero => exact absurd hpos (by decide)
          | succ i => exact ⟨i, rfl⟩
        refine CodeR.skip ?_
        obtain ⟨ba, oa, na, ca, qa, rfl, hia, _, ka, hga, hla, hca⟩ := ha.shape (i := i) (by rw [nats_length]; omega) (by omega)
        obtain ⟨bb, ob, nb, cb, qb, rfl, hib, _, kb, hgb, hlb, hcb⟩ := hb.shape (i := i) (by rw [nats_length]; omega) (by omega)
        have ex : xs[i]? = some (xs.getD i 0) := by rw [List.getD_eq_getElem?_getD, List.getElem?_eq_getElem (by omega)]; rfl
        have ey : ys[i]? = some (ys.getD i 0) := by rw [List.getD_eq_getElem?_getD, List.getElem?_eq_getElem (by omega)]; rfl
        have hxa : ka.cells[oa + i]? = some (.int .u32 (Int.ofNat (xs.getD i 0))) := by
          have := hca 0 (by omega)
          simp only [Nat.mul_one, Nat.add_zero] at this
          rw [this, nats_get ex]
        have hyb : kb.cells[ob + i]? = some (.int .u32 (Int.ofNat (ys.getD i 0))) := by
          have := hcb 0 (by omega)
          simp only [Nat.mul_one, Nat.add_zero] at this
          rw [this, nats_get ey]
        have ba1 : Nat.blt i na = true := blt_iff.2 hia
        have bb1 : Nat.blt i nb = true := blt_iff.2 hib
        have ca1 : Nat.blt ba s1.c = true := blt_iff.2 (hF.lt ba ka hga)
        have cb1 : Nat.blt bb s1.c = true := blt_iff.2 (hF.lt bb kb hgb)
        have h5' : T1.get 5 = some (.int .i64 (Int.ofNat i)) := h5
        refine CodeR.seq (CodeR.block (CodeR.block (CodeR.seq (CodeR.regD rfl rfl rfl ?_))))
        iterate 10 (first | (refine SeqR.skipN ?_ rfl rfl ?_; (simp only [sA, wantE, T.get_set, Nat.reduceEqDiff, h0, h1, h5', tt169, i169, tt245, i245, sz245, ba1, bb1, ca1, cb1, hga, hgb, hxa, hyb, b_lss] <;> with_reducible rfl)) | ((first | refine SeqR.stepN (v := ?_) (s' := ?_) rfl ?_ rfl ?_ rfl rfl ?_ | refine SeqR.stepLN (v := ?_) (s' := ?_) rfl ?_ rfl ?_ rfl rfl ?_); rotate_left 3; (intro call lc; simp only [sA, opE, kindOf, pureE, heapE, rho, rhos, T.get_set, Nat.reduceEqDiff, nb00, absV, absS, l_slice, l_void, l_str, l_arr, natE, loadE, isConst, TK.agg, h0, h1, h5', tt169, i169, tt245, i245, sz245, ba1, bb1, ca1, cb1, hga, hgb, hxa, hyb, b_lss] <;> rfl); rotate_left 1; (simp only [sA, wantE, T.get_set, Nat.reduceEqDiff, h0, h1, h5', tt169, i169, tt245, i245, sz245, ba1, bb1, ca1, cb1, hga, hgb, hxa, hyb, b_lss] <;> with_reducible rfl)))
        refine SeqR.done ?_
        refine CodeR.cond (t := ltB (Int.ofNat (xs.getD i 0)) (Int.ofNat (ys.getD i 0))) (by simp only [rho, T.get_set, Nat.reduceEqDiff, if_true, if_false]) ?_ ?_
        · intro hlt
          refine CodeR.seq (CodeR.reg rfl ?_)
          (first | (refine SeqR.skipN ?_ rfl rfl ?_; (simp only [sA, wantE, T.get_set, Nat.reduceEqDiff] <;> with_reducible rfl)) | ((first | refine SeqR.stepN (v := ?_) (s' := ?_) rfl ?_ rfl ?_ rfl rfl ?_ | refine SeqR.stepLN (v := ?_) (s' := ?_) rfl ?_ rfl ?_ rfl rfl ?_); rotate_left 3; (intro call lc; simp only [sA, opE, kindOf, pureE, heapE, rho, rhos, T.get_set, Nat.reduceEqDiff, nb00, absV, absS, l_slice, l_void, l_str, l_arr, natE, loadE, isConst, TK.agg] <;> rfl); rotate_left 1; (simp only [sA, wantE, T.get_set, Nat.reduceEqDiff] <;> with_reducible rfl)))
          refine SeqR.done ?_
          refine CodeR.ret (fin (v := -1) (by simp only [T.get_set, if_true]) ?_)
          rw [ltB_nat] at hlt
          rw [aboveL, if_pos heq', hc, cmpTop, if_pos (by simpa using hlt)]
        · intro hlt
          rw [ltB_nat] at hlt
          refine CodeR.seq (CodeR.regD rfl rfl rfl ?_)
          iterate 10 (first | (refine SeqR.skipN ?_ rfl rfl ?_; (simp only [sA, wantE, T.get_set, Nat.reduceEqDiff, h0, h1, h5', tt169, i169, tt245, i245, sz245, ba1, bb1, ca1, cb1, hga, hgb, hxa, hyb, b_gtr] <;> with_reducible rfl)) | ((first | refine SeqR.stepN (v := ?_) (s' := ?_) rfl ?_ rfl ?_ rfl rfl ?_ | refine SeqR.stepLN (v := ?_) (s' := ?_) rfl ?_ rfl ?_ rfl rfl ?_); rotate_left 3; (intro call lc; simp only [sA, opE, kindOf, pureE, heapE, rho, rhos, T.get_set, Nat.reduceEqDiff, nb00, absV, absS, l_slice, l_void, l_str, l_arr, natE, loadE, isConst, TK.agg, h0, h1, h5', tt169, i169, tt245, i245, sz245, ba1, bb1, ca1, cb1, hga, hgb, hxa, hyb, b_gtr] <;> rfl); rotate_left 1; (simp only [sA, wantE, T.get_set, Nat.reduceEqDiff, h0, h1, h5', tt169, i169, tt245, i245, sz245, ba1, bb1, ca1, cb1, hga, hgb, hxa, hyb, b_gtr] <;> with_reducible rfl)))
          refine SeqR.done ?_
          refine CodeR.cond (t := ltB (Int.ofNat (ys.getD i 0)) (Int.ofNat (xs.getD i 0))) (by simp only [rho, T.get_set, Nat.reduceEqDiff, if_true, if_false]) ?_ ?_
          · intro hgt
            refine CodeR.seq (CodeR.reg rfl ?_)
            (first | (refine SeqR.skipN ?_ rfl rfl ?_; (simp only [sA, wantE, T.get_set, Nat.reduceEqDiff] <;> with_reducible rfl)) | ((first | refine SeqR.stepN (v := ?_) (s' := ?_) rfl ?_ rfl ?_ rfl rfl ?_ | refine SeqR.stepLN (v := ?_) (s' := ?_) rfl ?_ rfl ?_ rfl rfl ?_); rotate_left 3; (intro call lc; simp only [sA, opE, kindOf, pureE, heapE, rho, rhos, T.get_set, Nat.reduceEqDiff, nb00, absV, absS, l_slice, l_void, l_str, l_arr, natE, loadE, isConst, TK.agg] <;> rfl); rotate_left 1; (simp only [sA, wantE, T.get_set, Nat.reduceEqDiff] <;> with_reducible rfl)))
            refine SeqR.done ?_
            refine CodeR.ret (fin (v := 1) (by simp only [T.get_set, if_true]) ?_)
            rw [ltB_nat] at hgt
            rw [aboveL, if_pos heq', hc, cmpTop, if_neg (by simpa using hlt), if_pos (by simpa using hgt)]
          · intro hgt
            rw [ltB_nat] at hgt
            refine CodeR.skip ?_
            refine CodeR.reg rfl ?_
            iterate 3 (first | (refine SeqR.skipN ?_ rfl rfl ?_; (simp only [sA, wantE, T.get_set, Nat.reduceEqDiff, h5', b_sub] <;> with_reducible rfl)) | ((first | refine SeqR.stepN (v := ?_) (s' := ?_) rfl ?_ rfl ?_ rfl rfl ?_ | refine SeqR.stepLN (v := ?_) (s' := ?_) rfl ?_ rfl ?_ rfl rfl ?_); rotate_left 3; (intro call lc; simp only [sA, opE, kindOf, pureE, heapE, rho, rhos, T.get_set, Nat.reduceEqDiff, nb00, absV, absS, l_slice, l_void, l_str, l_arr, natE, loadE, isConst, TK.agg, h5', b_sub] <;> rfl); rotate_left 1; (simp only [sA, wantE, T.get_set, Nat.reduceEqDiff, h5', b_sub] <;> with_reducible rfl)))
            refine SeqR.done ?_
            refine ⟨i, Nat.lt_succ_self _, rfl, rfl, by omega, ?_, ?_, ?_, ?_⟩
            · simp only [T.get_set, Nat.reduceEqDiff, if_true, if_false, h0]
            · simp only [T.get_set, Nat.reduceEqDiff, if_true, if_false, h1]
            · simp only [T.get_set, Nat.reduceEqDiff, if_true, if_false]
              rw [wr_pred (by omega)]
            · rw [hc, cmpTop, if_neg (by simpa using hlt), if_neg (by simpa using hgt)]
      · intro hneg
        have hk0 : k = 0 := by
          cases k with
          | zero => rfl
          | succ i => exact absurd hneg (by simp [pred, ltB, Nat.blt])
        subst hk0
        refine CodeR.exit ?_
        simp only [Ex.then, Ex.inBlock, if_true]
        refine CodeR.seq (CodeR.reg rfl ?_)
        (first | (refine SeqR.skipN ?_ rfl rfl ?_; (simp only [sA, wantE, T.get_set, Nat.reduceEqDiff] <;> with_reducible rfl)) | ((first | refine SeqR.stepN (v := ?_) (s' := ?_) rfl ?_ rfl ?_ rfl rfl ?_ | refine SeqR.stepLN (v := ?_) (s' := ?_) rfl ?_ rfl ?_ rfl rfl ?_); rotate_left 3; (intro call lc; simp only [sA, opE, kindOf, pureE, heapE, rho, rhos, T.get_set, Nat.reduceEqDiff, nb00, absV, absS, l_slice, l_void, l_str, l_arr, natE, loadE, isConst, TK.agg] <;> rfl); rotate_left 1; (simp only [sA, wantE, T.get_set, Nat.reduceEqDiff] <;> with_reducible rfl)))
        refine SeqR.done ?_
        refine CodeR.ret (fin (v := 0) (by simp only [T.get_set, if_true]) ?_)
        rw [aboveL, if_pos heq', hc]
        rfl
end Go.Proofs.YtaocoplfdhcoaaaGreatDoor.EvA

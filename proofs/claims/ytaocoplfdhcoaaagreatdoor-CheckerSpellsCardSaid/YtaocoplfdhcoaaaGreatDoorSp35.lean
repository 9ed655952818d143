/- schismaref03.From, schismaref02.Small, run. -/
import Derived.Test.YtaocoplfdhcoaaaGreatDoorSp34
set_option linter.unusedVariables false
set_option linter.unusedSimpArgs false
set_option maxRecDepth 20000
set_option maxHeartbeats 2000000
namespace Go.Proofs.YtaocoplfdhcoaaaGreatDoor.EvA
open Go Go.RowKit Go.Proofs.YtaocoplfdhcoaaaGreatDoor.Ev
theorem fn45' : E.fns.get 45 = some Tryz.f45 := by kernel_rfl
theorem fn102' : E.fns.get 102 = some Tryz.f102 := by kernel_rfl
theorem itoa_ext {z : Int} (h0 : -9223372036854775808 < z) (h1 : z < 9223372036854775808) : itoa [.int .i64 z] = some (.str (Lib.itoa z)) := by
  cases h : itoa [.int .i64 z] with
  | some v => rw [(itoa_int z v h).1]
  | none =>
    exfalso
    cases z with
    | ofNat n =>
      simp only [itoa, ble_iff.2 (show n ≤ 9223372036854775807 by simp only [Int.ofNat_eq_natCast] at h1; omega), cond_true] at h
      cases h
    | negSucc n =>
      simp only [itoa, ble_iff.2 (show n ≤ 9223372036854775807 by omega), cond_true] at h
      cases h
theorem padk_length : ∀ (k d : Nat), (padk k d).length = k
  | 0, _ => rfl
  | k + 1, d => by rw [padk, List.length_append, padk_length k]; rfl
theorem lowT_length : ∀ xs : List Nat, (lowT xs).length = 9 * xs.length
  | [] => rfl
  | x :: xs => by rw [lowT, List.length_append, lowT_length xs, padk_length, List.length_cons]; omega
theorem repeatL_rep (c : UInt8) : ∀ n, Lib.repeatL [c] n = List.replicate n c
  | 0 => rfl
  | n + 1 => by rw [Lib.repeatL, repeatL_rep c n]; rfl
/-- The text when i digits are done. -/
def doneT (xs : List Nat) (i : Nat) : List UInt8 := if i = xs.length then fromL xs else lowT (xs.take i)
theorem doneT_step {xs : List Nat} {i : Nat} (h : i < xs.length) (hn : i + 1 < xs.length) : doneT xs (i + 1) = padk 9 (xs.getD i 0) ++ doneT xs i := by
  unfold doneT
  rw [if_neg (by omega), if_neg (by omega), take_at h 0, lowT_append]
theorem doneT_last {xs : List Nat} {i : Nat} (h : i + 1 = xs.length) : doneT xs (i + 1) = Lib.decDigits (xs.getD i 0) ++ doneT xs i := by
  unfold doneT
  rw [if_pos h, if_neg (by omega)]
  have : xs = xs.take i ++ [xs.getD i 0] := by
    rw [← take_at (by omega) 0, h, List.take_length]
  rw (occs := [1]) [this]
  rw [fromL_last]
theorem doneT_len {xs : List Nat} (hs : GS 1000000000 xs) {i : Nat} (h : i < xs.length) : (doneT xs i).length ≤ 9 * xs.length := by
  unfold doneT
  rw [if_neg (by omega), lowT_length, List.length_take]
  omega
theorem From_run {lo : Nat} {z : Int} {va : AV} {s : St} (hv : WZ s.h z va) (hF : Fresh s) (hlo : lo ≤ s.c) (hz : z.natAbs < 1000000000 ^ 20) :
    FunR E lo 45 [va] s fun v s' => Fresh s' ∧ Kept s.c s s' ∧ v = .str (Lib.itoa z) := by
  obtain ⟨⟨neg, xs⟩, ⟨d, rfl, hd⟩, hw, rfl⟩ := hv
  have hlx := hw.len hz
  have hs := hw.small
  simp only at hd hlx hs
  have od : d.one = true := Row.one hd
  have h1 : ones [.bool neg, d] = true := by simp only [ones, od, Bool.and_true]; rfl
  have htext := itoa_iv hw
  simp only at htext
  refine FunR.body (fn := Tryz.f45) fn45' rfl ?_
  have hn : (max ([wv neg d] : List AV).length Tryz.f45.ntmps) = 43 := rfl
  generalize max ([wv neg d] : List AV).length Tryz.f45.ntmps = n at hn
  subst hn
  have g0 : (argsT 0 ([wv neg d] : List AV)).get 0 = some (wv neg d) := rfl
  generalize argsT 0 ([wv neg d] : List AV) = T0 at g0 ⊢
  have hn : (43 : Nat) = 43 := rfl
  refine CodeR.seq (CodeR.reg rfl ?_)
  refine SeqR.stepN rfl rfl rfl (fun call lc => op_box (v := wv neg d) (cs := [.bool neg, d]) (by simp only [rho]; exact g0) rfl h1 call lc _) rfl rfl ?_
  have hF1 := fresh_new hF ⟨32, [.bool neg, d]⟩
  have hK1 := kept_new (Kept.refl s.c s) (Nat.le_refl _) ⟨32, [.bool neg, d]⟩
  have hb : (s.h.set s.c (⟨32, [.bool neg, d]⟩ : Blk)).get s.c = some ⟨32, [.bool neg, d]⟩ := by rw [T.get_set, if_pos rfl]
  simp only
  generalize hs1 : (⟨s.h.set s.c ⟨32, [.bool neg, d]⟩, s.c + 1⟩ : St) = s1 at hF1 hK1 ⊢
  have hb0 : s1.h.get s.c = some ⟨32, [.bool neg, d]⟩ := by rw [← hs1]; exact hb
  have hc1 : s1.c = s.c + 1 := by rw [← hs1]
  clear hb hs1
  have hd1 := hd.keep hF.lt hK1
  have ld := lenE_len hd1 3
  have e2 : Nat.blt s.c s1.c = true := blt_iff.2 (by omega)
  have e0 : eqB (Int.ofNat xs.length) 0 = decide (xs.length = 0) := eqB_nat _ 0
  repeat (first | (refine CodeR.seq ?_) | (refine CodeR.reg rfl ?_) | (refine CodeR.regD rfl rfl rfl ?_) | (refine SeqR.done ?_) | (refine CodeR.block ?_) | (refine CodeR.skip ?_) | (refine CodeR.exit ?_; simp only [sA, Ex.then, Ex.inBlock, Nat.reduceEqDiff]) | (first | (refine SeqR.skipN ?_ rfl rfl ?_; (simp only [sA, wantE, T.get_set, Nat.reduceEqDiff, hb0, e2, ld, e0] <;> with_reducible rfl)) | ((first | refine SeqR.stepN (v := ?_) (s' := ?_) rfl ?_ rfl ?_ rfl rfl ?_ | refine SeqR.stepLN (v := ?_) (s' := ?_) rfl ?_ rfl ?_ rfl rfl ?_); rotate_left 3; (intro call lc; simp only [sA, opE, kindOf, pureE, heapE, rho, rhos, T.get_set, Nat.reduceEqDiff, nb00, absV, absS, l_slice, l_void, l_str, l_arr, natE, loadE, isConst, TK.agg, u_notB, b_eqlB, b_neqB, b_add, b_sub, b_mul, b_lss, b_gtr, b_leq, b_geq, b_eql, b_neq, ty3, i3, si3, ty4, i4, si4, ty9, i9, si9, ty24, i24, si24, ty32, i32, si32, hb0, e2, ld, e0] <;> rfl); rotate_left 1; (simp only [sA, wantE, T.get_set, Nat.reduceEqDiff, hb0, e2, ld, e0] <;> with_reducible rfl))))
  refine CodeR.cond (t := decide (xs.length = 0)) (by simp only [sA, rho, T.get_set, Nat.reduceEqDiff, u_notB, b_eqlB, b_neqB, b_add, b_sub, b_mul, b_lss, b_gtr, b_leq, b_geq, b_eql, b_neq, ty3, i3, si3, ty4, i4, si4, ty9, i9, si9, ty24, i24, si24, ty32, i32, si32]) ?_ ?_
  · intro h
    have hx0 : xs = [] := List.length_eq_zero_iff.1 (by simpa using h)
    subst hx0
    have hn0 : neg = false := hw.zero rfl
    subst hn0
    repeat (first | (refine CodeR.seq ?_) | (refine CodeR.reg rfl ?_) | (refine CodeR.regD rfl rfl rfl ?_) | (refine SeqR.done ?_) | (refine CodeR.block ?_) | (refine CodeR.skip ?_) | (refine CodeR.exit ?_; simp only [sA, Ex.then, Ex.inBlock, Nat.reduceEqDiff]) | (first | (refine SeqR.skipN ?_ rfl rfl ?_; (simp only [sA, wantE, T.get_set, Nat.reduceEqDiff] <;> with_reducible rfl)) | ((first | refine SeqR.stepN (v := ?_) (s' := ?_) rfl ?_ rfl ?_ rfl rfl ?_ | refine SeqR.stepLN (v := ?_) (s' := ?_) rfl ?_ rfl ?_ rfl rfl ?_); rotate_left 3; (intro call lc; simp only [sA, opE, kindOf, pureE, heapE, rho, rhos, T.get_set, Nat.reduceEqDiff, nb00, absV, absS, l_slice, l_void, l_str, l_arr, natE, loadE, isConst, TK.agg, u_notB, b_eqlB, b_neqB, b_add, b_sub, b_mul, b_lss, b_gtr, b_leq, b_geq, b_eql, b_neq, ty3, i3, si3, ty4, i4, si4, ty9, i9, si9, ty24, i24, si24, ty32, i32, si32] <;> rfl); rotate_left 1; (simp only [sA, wantE, T.get_set, Nat.reduceEqDiff] <;> with_reducible rfl))))
    refine CodeR.ret ⟨.inr rfl, [.str [48]], by (show ressE E _ _ [.tmp 2] = _; simp only [sA, ressE, resE, T.get_set, Nat.reduceEqDiff, u_notB, b_eqlB, b_neqB, b_add, b_sub, b_mul, b_lss, b_gtr, b_leq, b_geq, b_eql, b_neq, ty3, i3, si3, ty4, i4, si4, ty9, i9, si9, ty24, i24, si24, ty32, i32, si32]), ?_⟩
    refine ⟨hF1, hK1, ?_⟩
    rw [htext]
    simp only [Bool.false_eq_true, if_false, val]
    rw [Lib.decDigits]
    rfl
  · intro h
    have hne : xs ≠ [] := fun e => by rw [e] at h; simp at h
    repeat (first | (refine CodeR.seq ?_) | (refine CodeR.reg rfl ?_) | (refine CodeR.regD rfl rfl rfl ?_) | (refine SeqR.done ?_) | (refine CodeR.block ?_) | (refine CodeR.skip ?_) | (refine CodeR.exit ?_; simp only [sA, Ex.then, Ex.inBlock, Nat.reduceEqDiff]) | (first | (refine SeqR.skipN ?_ rfl rfl ?_; (simp only [sA, wantE, T.get_set, Nat.reduceEqDiff] <;> with_reducible rfl)) | ((first | refine SeqR.stepN (v := ?_) (s' := ?_) rfl ?_ rfl ?_ rfl rfl ?_ | refine SeqR.stepLN (v := ?_) (s' := ?_) rfl ?_ rfl ?_ rfl rfl ?_); rotate_left 3; (intro call lc; simp only [sA, opE, kindOf, pureE, heapE, rho, rhos, T.get_set, Nat.reduceEqDiff, nb00, absV, absS, l_slice, l_void, l_str, l_arr, natE, loadE, isConst, TK.agg, u_notB, b_eqlB, b_neqB, b_add, b_sub, b_mul, b_lss, b_gtr, b_leq, b_geq, b_eql, b_neq, ty3, i3, si3, ty4, i4, si4, ty9, i9, si9, ty24, i24, si24, ty32, i32, si32] <;> rfl); rotate_left 1; (simp only [sA, wantE, T.get_set, Nat.reduceEqDiff] <;> with_reducible rfl))))
    refine CodeR.loop (fun k mm s2 => s1 = s2 ∧ ∃ i T1, mm = ⟨43, T1⟩ ∧ i + k = xs.length ∧ T1.get 1 = some (.ptr (some (s.c, 0))) ∧ T1.get 3 = some (.str (doneT xs i)) ∧ T1.get 4 = some (.int .i64 (Int.ofNat i))) xs.length ?_ ?_
    · refine ⟨rfl, 0, _, rfl, by omega, ?_, ?_, ?_⟩
      simp only [T.get_set, Nat.reduceEqDiff, if_true, if_false]
      · have : doneT xs 0 = [] := by
          unfold doneT
          rw [if_neg (fun e => hne (List.length_eq_zero_iff.1 e.symm))]
          rfl
        rw [this]
        simp only [T.get_set, Nat.reduceEqDiff, if_true, if_false]
      simp only [T.get_set, Nat.reduceEqDiff, if_true, if_false]
      · rfl
    · rintro k mm s2 ⟨rfl, i, T1, rfl, hik, t1, t3, t4⟩
      repeat (first | (refine CodeR.seq ?_) | (refine CodeR.reg rfl ?_) | (refine CodeR.regD rfl rfl rfl ?_) | (refine SeqR.done ?_) | (refine CodeR.block ?_) | (refine CodeR.skip ?_) | (refine CodeR.exit ?_; simp only [sA, Ex.then, Ex.inBlock, Nat.reduceEqDiff]) | (first | (refine SeqR.skipN ?_ rfl rfl ?_; (simp only [sA, wantE, T.get_set, Nat.reduceEqDiff, t1, t4, hb0, e2, ld, ltB_nat] <;> with_reducible rfl)) | ((first | refine SeqR.stepN (v := ?_) (s' := ?_) rfl ?_ rfl ?_ rfl rfl ?_ | refine SeqR.stepLN (v := ?_) (s' := ?_) rfl ?_ rfl ?_ rfl rfl ?_); rotate_left 3; (intro call lc; simp only [sA, opE, kindOf, pureE, heapE, rho, rhos, T.get_set, Nat.reduceEqDiff, nb00, absV, absS, l_slice, l_void, l_str, l_arr, natE, loadE, isConst, TK.agg, u_notB, b_eqlB, b_neqB, b_add, b_sub, b_mul, b_lss, b_gtr, b_leq, b_geq, b_eql, b_neq, ty3, i3, si3, ty4, i4, si4, ty9, i9, si9, ty24, i24, si24, ty32, i32, si32, t1, t4, hb0, e2, ld, ltB_nat] <;> rfl); rotate_left 1; (simp only [sA, wantE, T.get_set, Nat.reduceEqDiff, t1, t4, hb0, e2, ld, ltB_nat] <;> with_reducible rfl))))
      refine CodeR.cond (t := decide (i < xs.length)) (by simp only [sA, rho, T.get_set, Nat.reduceEqDiff, u_notB, b_eqlB, b_neqB, b_add, b_sub, b_mul, b_lss, b_gtr, b_leq, b_geq, b_eql, b_neq, ty3, i3, si3, ty4, i4, si4, ty9, i9, si9, ty24, i24, si24, ty32, i32, si32]) ?_ ?_
      · intro hlt
        have hlt' : i < xs.length := by simpa using hlt
        obtain ⟨b, o, n, c, q, kk, rfl, f1, f2, f3⟩ := Row.int hd1 hlt'
        have f4 : Nat.blt b s1.c = true := blt_iff.2 (hF1.lt b kk f2)
        have hxi : xs.getD i 0 < 1000000000 := by
          rw [List.getD_eq_getElem?_getD, List.getElem?_eq_getElem hlt']; exact hs _ (List.getElem_mem hlt')
        have hdl := doneT_len hs hlt'
        have hdd := dec_len hxi
        refine CodeR.skip ?_
        refine CodeR.seq (CodeR.block (CodeR.seq (CodeR.reg rfl ?_)))
        iterate 5 (first | (refine SeqR.skipN ?_ rfl rfl ?_; (simp only [sA, wantE, T.get_set, Nat.reduceEqDiff, t1, t4, hb0, e2, f1, f2, f3, f4] <;> with_reducible rfl)) | ((first | refine SeqR.stepN (v := ?_) (s' := ?_) rfl ?_ rfl ?_ rfl rfl ?_ | refine SeqR.stepLN (v := ?_) (s' := ?_) rfl ?_ rfl ?_ rfl rfl ?_); rotate_left 3; (intro call lc; simp only [sA, opE, kindOf, pureE, heapE, rho, rhos, T.get_set, Nat.reduceEqDiff, nb00, absV, absS, l_slice, l_void, l_str, l_arr, natE, loadE, isConst, TK.agg, u_notB, b_eqlB, b_neqB, b_add, b_sub, b_mul, b_lss, b_gtr, b_leq, b_geq, b_eql, b_neq, ty3, i3, si3, ty4, i4, si4, ty9, i9, si9, ty24, i24, si24, ty32, i32, si32, t1, t4, hb0, e2, f1, f2, f3, f4] <;> rfl); rotate_left 1; (simp only [sA, wantE, T.get_set, Nat.reduceEqDiff, t1, t4, hb0, e2, f1, f2, f3, f4] <;> with_reducible rfl)))
        refine SeqR.extN rfl rfl rfl (g := 132) (vs := [.int .i64 (Int.ofNat (xs.getD i 0))]) (by simp only [calleeE, rho, rhos, T.get_set, Nat.reduceEqDiff, if_true, if_false, Option.bind_some, Option.map_some, List.toList_toArray]; rfl) rfl (itoa_ext (z := Int.ofNat (xs.getD i 0)) (by simp only [Int.ofNat_eq_natCast]; omega) (by simp only [Int.ofNat_eq_natCast]; omega)) rfl rfl ?_
        rw [itoa_nat]
        (first | (refine SeqR.skipN ?_ rfl rfl ?_; (simp only [sA, wantE, T.get_set, Nat.reduceEqDiff] <;> with_reducible rfl)) | ((first | refine SeqR.stepN (v := ?_) (s' := ?_) rfl ?_ rfl ?_ rfl rfl ?_ | refine SeqR.stepLN (v := ?_) (s' := ?_) rfl ?_ rfl ?_ rfl rfl ?_); rotate_left 3; (intro call lc; simp only [sA, opE, kindOf, pureE, heapE, rho, rhos, T.get_set, Nat.reduceEqDiff, nb00, absV, absS, l_slice, l_void, l_str, l_arr, natE, loadE, isConst, TK.agg, u_notB, b_eqlB, b_neqB, b_add, b_sub, b_mul, b_lss, b_gtr, b_leq, b_geq, b_eql, b_neq, ty3, i3, si3, ty4, i4, si4, ty9, i9, si9, ty24, i24, si24, ty32, i32, si32] <;> rfl); rotate_left 1; (simp only [sA, wantE, T.get_set, Nat.reduceEqDiff] <;> with_reducible rfl)))
        refine SeqR.done ?_
        have w1 : wr .i64 (Int.ofNat i + 1) = Int.ofNat (i + 1) := wr_add (b := 1) (by omega)
        refine CodeR.seq (CodeR.mono (Q := fun e m' s' => e = .nrm ∧ s1 = s' ∧ ∃ T2 l, m' = ⟨43, T2⟩ ∧ T2.get 1 = some (.ptr (some (s.c, 0))) ∧ T2.get 3 = some (.str (doneT xs i)) ∧ T2.get 4 = some (.int .i64 (Int.ofNat i)) ∧ T2.get 5 = some (.str l) ∧ l ++ doneT xs i = doneT xs (i + 1) ∧ l.length ≤ 9) (CodeR.seq (CodeR.reg rfl ?_)) ?_)
        · generalize hdg : Lib.decDigits (xs.getD i 0) = dg at *
          iterate 6 (first | (refine SeqR.skipN ?_ rfl rfl ?_; (simp only [sA, wantE, T.get_set, Nat.reduceEqDiff, t1, t4, hb0, e2, ld, w1, ltB_nat] <;> with_reducible rfl)) | ((first | refine SeqR.stepN (v := ?_) (s' := ?_) rfl ?_ rfl ?_ rfl rfl ?_ | refine SeqR.stepLN (v := ?_) (s' := ?_) rfl ?_ rfl ?_ rfl rfl ?_); rotate_left 3; (intro call lc; simp only [sA, opE, kindOf, pureE, heapE, rho, rhos, T.get_set, Nat.reduceEqDiff, nb00, absV, absS, l_slice, l_void, l_str, l_arr, natE, loadE, isConst, TK.agg, u_notB, b_eqlB, b_neqB, b_add, b_sub, b_mul, b_lss, b_gtr, b_leq, b_geq, b_eql, b_neq, ty3, i3, si3, ty4, i4, si4, ty9, i9, si9, ty24, i24, si24, ty32, i32, si32, t1, t4, hb0, e2, ld, w1, ltB_nat] <;> rfl); rotate_left 1; (simp only [sA, wantE, T.get_set, Nat.reduceEqDiff, t1, t4, hb0, e2, ld, w1, ltB_nat] <;> with_reducible rfl)))
          refine SeqR.done ?_
          refine CodeR.cond (t := decide (i + 1 < xs.length)) (by simp only [sA, rho, T.get_set, Nat.reduceEqDiff, u_notB, b_eqlB, b_neqB, b_add, b_sub, b_mul, b_lss, b_gtr, b_leq, b_geq, b_eql, b_neq, ty3, i3, si3, ty4, i4, si4, ty9, i9, si9, ty24, i24, si24, ty32, i32, si32]) ?_ ?_
          · intro hm
            have hm : i + 1 < xs.length := by simpa using hm
            have w2 : wr .i64 (9 - Int.ofNat dg.length) = Int.ofNat (9 - dg.length) := by
              rw [wr_small (by simp only [Int.ofNat_eq_natCast]; omega) (by simp only [Int.ofNat_eq_natCast]; omega)]
              simp only [Int.ofNat_eq_natCast]; omega
            have hrep : rep [.str [48], .int .i64 (Int.ofNat (9 - dg.length))] = some (.str (List.replicate (9 - dg.length) 48)) := by
              simp only [rep, ble_iff.2 (show 9 - dg.length ≤ 1000000 by omega), ble_iff.2 (show [(48 : UInt8)].length * (9 - dg.length) ≤ 1000000 by simp; omega), Bool.and_self, cond_true, repeatL_rep]
            have ad : ∀ c, binE E .add 9 c (.str (List.replicate (9 - dg.length) 48)) (.str dg) = some (.str (List.replicate (9 - dg.length) 48 ++ dg)) := fun c => b_addS 9 c (by simp; omega)
            refine CodeR.reg rfl ?_
            iterate 3 (first | (refine SeqR.skipN ?_ rfl rfl ?_; (simp only [sA, wantE, T.get_set, Nat.reduceEqDiff, w2] <;> with_reducible rfl)) | ((first | refine SeqR.stepN (v := ?_) (s' := ?_) rfl ?_ rfl ?_ rfl rfl ?_ | refine SeqR.stepLN (v := ?_) (s' := ?_) rfl ?_ rfl ?_ rfl rfl ?_); rotate_left 3; (intro call lc; simp only [sA, opE, kindOf, pureE, heapE, rho, rhos, T.get_set, Nat.reduceEqDiff, nb00, absV, absS, l_slice, l_void, l_str, l_arr, natE, loadE, isConst, TK.agg, u_notB, b_eqlB, b_neqB, b_add, b_sub, b_mul, b_lss, b_gtr, b_leq, b_geq, b_eql, b_neq, ty3, i3, si3, ty4, i4, si4, ty9, i9, si9, ty24, i24, si24, ty32, i32, si32, w2] <;> rfl); rotate_left 1; (simp only [sA, wantE, T.get_set, Nat.reduceEqDiff, w2] <;> with_reducible rfl)))
            refine SeqR.extN rfl rfl rfl (g := 133) (vs := [.str [48], .int .i64 (Int.ofNat (9 - dg.length))]) (by simp only [calleeE, rho, rhos, absV, absS, T.get_set, Nat.reduceEqDiff, if_true, if_false, Option.bind_some, Option.map_some, List.toList_toArray]; rfl) rfl hrep rfl rfl ?_
            iterate 3 (first | (refine SeqR.skipN ?_ rfl rfl ?_; (simp only [sA, wantE, T.get_set, Nat.reduceEqDiff, ad] <;> with_reducible rfl)) | ((first | refine SeqR.stepN (v := ?_) (s' := ?_) rfl ?_ rfl ?_ rfl rfl ?_ | refine SeqR.stepLN (v := ?_) (s' := ?_) rfl ?_ rfl ?_ rfl rfl ?_); rotate_left 3; (intro call lc; simp only [sA, opE, kindOf, pureE, heapE, rho, rhos, T.get_set, Nat.reduceEqDiff, nb00, absV, absS, l_slice, l_void, l_str, l_arr, natE, loadE, isConst, TK.agg, u_notB, b_eqlB, b_neqB, b_add, b_sub, b_mul, b_lss, b_gtr, b_leq, b_geq, b_eql, b_neq, ty3, i3, si3, ty4, i4, si4, ty9, i9, si9, ty24, i24, si24, ty32, i32, si32, ad] <;> rfl); rotate_left 1; (simp only [sA, wantE, T.get_set, Nat.reduceEqDiff, ad] <;> with_reducible rfl)))
            have hpk := (padk_eq (k := 8) (d := xs.getD i 0) (by simpa using hxi)).2
            rw [hdg] at hpk
            refine SeqR.done ⟨rfl, rfl, _, List.replicate (9 - dg.length) 48 ++ dg, rfl, ?_, ?_, ?_, ?_, ?_, by simp; omega⟩
            simp only [T.get_set, Nat.reduceEqDiff, if_true, if_false, t1]
            simp only [T.get_set, Nat.reduceEqDiff, if_true, if_false, t3]
            simp only [T.get_set, Nat.reduceEqDiff, if_true, if_false, t4]
            simp only [T.get_set, Nat.reduceEqDiff, if_true, if_false]
            · rw [doneT_step hlt' hm, ← hpk]
          · intro hm
            have hm : ¬ i + 1 < xs.length := by simpa using hm
            refine CodeR.skip ⟨rfl, rfl, _, dg, rfl, ?_, ?_, ?_, ?_, ?_, hdd⟩
            simp only [T.get_set, Nat.reduceEqDiff, if_true, if_false, t1]
            simp only [T.get_set, Nat.reduceEqDiff, if_true, if_false, t3]
            simp only [T.get_set, Nat.reduceEqDiff, if_true, if_false, t4]
            simp only [T.get_set, Nat.reduceEqDiff, if_true, if_false]
            · rw [doneT_last (by omega), hdg]
        · rintro e m' s' ⟨rfl, rfl, T2, l, rfl, t1, t3, t4, t5, hl, hll⟩
          have ad : ∀ c, binE E .add 9 c (.str l) (.str (doneT xs i)) = some (.str (doneT xs (i + 1))) := fun c => by rw [b_addS 9 c (by omega), hl]
          repeat (first | (refine CodeR.seq ?_) | (refine CodeR.reg rfl ?_) | (refine CodeR.regD rfl rfl rfl ?_) | (refine SeqR.done ?_) | (refine CodeR.block ?_) | (refine CodeR.skip ?_) | (refine CodeR.exit ?_; simp only [sA, Ex.then, Ex.inBlock, Nat.reduceEqDiff]) | (first | (refine SeqR.skipN ?_ rfl rfl ?_; (simp only [sA, wantE, T.get_set, Nat.reduceEqDiff, t3, t4, t5, ad, w1] <;> with_reducible rfl)) | ((first | refine SeqR.stepN (v := ?_) (s' := ?_) rfl ?_ rfl ?_ rfl rfl ?_ | refine SeqR.stepLN (v := ?_) (s' := ?_) rfl ?_ rfl ?_ rfl rfl ?_); rotate_left 3; (intro call lc; simp only [sA, opE, kindOf, pureE, heapE, rho, rhos, T.get_set, Nat.reduceEqDiff, nb00, absV, absS, l_slice, l_void, l_str, l_arr, natE, loadE, isConst, TK.agg, u_notB, b_eqlB, b_neqB, b_add, b_sub, b_mul, b_lss, b_gtr, b_leq, b_geq, b_eql, b_neq, ty3, i3, si3, ty4, i4, si4, ty9, i9, si9, ty24, i24, si24, ty32, i32, si32, t3, t4, t5, ad, w1] <;> rfl); rotate_left 1; (simp only [sA, wantE, T.get_set, Nat.reduceEqDiff, t3, t4, t5, ad, w1] <;> with_reducible rfl))))
          refine ⟨k - 1, by omega, rfl, i + 1, _, rfl, by omega, ?_, ?_, ?_⟩
          simp only [T.get_set, Nat.reduceEqDiff, if_true, if_false, t1]
          simp only [T.get_set, Nat.reduceEqDiff, if_true, if_false]
          simp only [T.get_set, Nat.reduceEqDiff, if_true, if_false]
      · intro hge
        have hi : i = xs.length := by have : ¬ i < xs.length := by simpa using hge
                                      omega
        subst hi
        have hdone : doneT xs xs.length = Lib.decDigits (val xs) := by
          unfold doneT
          rw [if_pos rfl, fromL_eq hs hw.top hne, val_g]
        rw [hdone] at t3
        have hvl : (Lib.decDigits (val xs)).length ≤ 180 := by
          have hlt2 : val xs < 10 ^ (179 + 1) := by
            have h1 := gval_lt (show GS 1000000000 xs from hs)
            rw [← val_g] at h1
            have h2 : (1000000000 : Nat) ^ xs.length = 10 ^ (9 * xs.length) := by rw [Nat.pow_mul]
            have h3 : (10 : Nat) ^ (9 * xs.length) ≤ 10 ^ (179 + 1) := Nat.pow_le_pow_right (by omega) (by omega)
            rw [h2] at h1
            exact Nat.lt_of_lt_of_le h1 h3
          exact (padk_eq (k := 179) hlt2).1
        generalize hdg : Lib.decDigits (val xs) = dg at *
        repeat (first | (refine CodeR.seq ?_) | (refine CodeR.reg rfl ?_) | (refine CodeR.regD rfl rfl rfl ?_) | (refine SeqR.done ?_) | (refine CodeR.block ?_) | (refine CodeR.skip ?_) | (refine CodeR.exit ?_; simp only [sA, Ex.then, Ex.inBlock, Nat.reduceEqDiff]) | (first | (refine SeqR.skipN ?_ rfl rfl ?_; (simp only [sA, wantE, T.get_set, Nat.reduceEqDiff, t1, hb0, e2] <;> with_reducible rfl)) | ((first | refine SeqR.stepN (v := ?_) (s' := ?_) rfl ?_ rfl ?_ rfl rfl ?_ | refine SeqR.stepLN (v := ?_) (s' := ?_) rfl ?_ rfl ?_ rfl rfl ?_); rotate_left 3; (intro call lc; simp only [sA, opE, kindOf, pureE, heapE, rho, rhos, T.get_set, Nat.reduceEqDiff, nb00, absV, absS, l_slice, l_void, l_str, l_arr, natE, loadE, isConst, TK.agg, u_notB, b_eqlB, b_neqB, b_add, b_sub, b_mul, b_lss, b_gtr, b_leq, b_geq, b_eql, b_neq, ty3, i3, si3, ty4, i4, si4, ty9, i9, si9, ty24, i24, si24, ty32, i32, si32, t1, hb0, e2] <;> rfl); rotate_left 1; (simp only [sA, wantE, T.get_set, Nat.reduceEqDiff, t1, hb0, e2] <;> with_reducible rfl))))
        refine CodeR.cond (t := neg) (by simp only [sA, rho, T.get_set, Nat.reduceEqDiff, u_notB, b_eqlB, b_neqB, b_add, b_sub, b_mul, b_lss, b_gtr, b_leq, b_geq, b_eql, b_neq, ty3, i3, si3, ty4, i4, si4, ty9, i9, si9, ty24, i24, si24, ty32, i32, si32]) ?_ ?_
        · rintro rfl
          have ad : ∀ c, binE E .add 9 c (.str [45]) (.str dg) = some (.str ([45] ++ dg)) := fun c => b_addS 9 c (by simp; omega)
          repeat (first | (refine CodeR.seq ?_) | (refine CodeR.reg rfl ?_) | (refine CodeR.regD rfl rfl rfl ?_) | (refine SeqR.done ?_) | (refine CodeR.block ?_) | (refine CodeR.skip ?_) | (refine CodeR.exit ?_; simp only [sA, Ex.then, Ex.inBlock, Nat.reduceEqDiff]) | (first | (refine SeqR.skipN ?_ rfl rfl ?_; (simp only [sA, wantE, T.get_set, Nat.reduceEqDiff, t3, ad] <;> with_reducible rfl)) | ((first | refine SeqR.stepN (v := ?_) (s' := ?_) rfl ?_ rfl ?_ rfl rfl ?_ | refine SeqR.stepLN (v := ?_) (s' := ?_) rfl ?_ rfl ?_ rfl rfl ?_); rotate_left 3; (intro call lc; simp only [sA, opE, kindOf, pureE, heapE, rho, rhos, T.get_set, Nat.reduceEqDiff, nb00, absV, absS, l_slice, l_void, l_str, l_arr, natE, loadE, isConst, TK.agg, u_notB, b_eqlB, b_neqB, b_add, b_sub, b_mul, b_lss, b_gtr, b_leq, b_geq, b_eql, b_neq, ty3, i3, si3, ty4, i4, si4, ty9, i9, si9, ty24, i24, si24, ty32, i32, si32, t3, ad] <;> rfl); rotate_left 1; (simp only [sA, wantE, T.get_set, Nat.reduceEqDiff, t3, ad] <;> with_reducible rfl))))
          refine CodeR.ret ⟨.inr rfl, [.str ([45] ++ dg)], by (show ressE E _ _ [.tmp 2] = _; simp only [sA, ressE, resE, T.get_set, Nat.reduceEqDiff, u_notB, b_eqlB, b_neqB, b_add, b_sub, b_mul, b_lss, b_gtr, b_leq, b_geq, b_eql, b_neq, ty3, i3, si3, ty4, i4, si4, ty9, i9, si9, ty24, i24, si24, ty32, i32, si32]), ?_⟩
          exact ⟨hF1, hK1, by rw [htext]; simp [oneOf]⟩
        · rintro rfl
          repeat (first | (refine CodeR.seq ?_) | (refine CodeR.reg rfl ?_) | (refine CodeR.regD rfl rfl rfl ?_) | (refine SeqR.done ?_) | (refine CodeR.block ?_) | (refine CodeR.skip ?_) | (refine CodeR.exit ?_; simp only [sA, Ex.then, Ex.inBlock, Nat.reduceEqDiff]) | (first | (refine SeqR.skipN ?_ rfl rfl ?_; (simp only [sA, wantE, T.get_set, Nat.reduceEqDiff, t3] <;> with_reducible rfl)) | ((first | refine SeqR.stepN (v := ?_) (s' := ?_) rfl ?_ rfl ?_ rfl rfl ?_ | refine SeqR.stepLN (v := ?_) (s' := ?_) rfl ?_ rfl ?_ rfl rfl ?_); rotate_left 3; (intro call lc; simp only [sA, opE, kindOf, pureE, heapE, rho, rhos, T.get_set, Nat.reduceEqDiff, nb00, absV, absS, l_slice, l_void, l_str, l_arr, natE, loadE, isConst, TK.agg, u_notB, b_eqlB, b_neqB, b_add, b_sub, b_mul, b_lss, b_gtr, b_leq, b_geq, b_eql, b_neq, ty3, i3, si3, ty4, i4, si4, ty9, i9, si9, ty24, i24, si24, ty32, i32, si32, t3] <;> rfl); rotate_left 1; (simp only [sA, wantE, T.get_set, Nat.reduceEqDiff, t3] <;> with_reducible rfl))))
          refine CodeR.ret ⟨.inr rfl, [.str dg], by (show ressE E _ _ [.tmp 2] = _; simp only [sA, ressE, resE, T.get_set, Nat.reduceEqDiff, u_notB, b_eqlB, b_neqB, b_add, b_sub, b_mul, b_lss, b_gtr, b_leq, b_geq, b_eql, b_neq, ty3, i3, si3, ty4, i4, si4, ty9, i9, si9, ty24, i24, si24, ty32, i32, si32]), ?_⟩
          exact ⟨hF1, hK1, by rw [htext]; simp [oneOf]⟩
theorem dv_take_le (l : List UInt8) (j : Nat) : dv 0 (l.take j) ≤ dv 0 l := by
  have h0 : dv 0 l = dv 0 (l.take j ++ l.drop j) := by rw [List.take_append_drop]
  have h1 := dv_acc (dv 0 (l.take j)) (l.drop j)
  rw [h0, dv_append]
  have : dv 0 (l.take j) * 1 ≤ dv 0 (l.take j) * 10 ^ (l.drop j).length := Nat.mul_le_mul_left _ (Nat.pow_pos (by omega))
  omega
theorem dv_take_succ {l : List UInt8} {j : Nat} (h : j < l.length) : dv 0 (l.take (j + 1)) = dv 0 (l.take j) * 10 + ((l.getD j 0).toNat - 48) := by
  rw [take_at h 0, dv_append]
  rfl
def SmallP (z : Int) (v : AV) : Prop := if -9223372036854775808 ≤ z ∧ z < 9223372036854775808 then v = .tuple [.int .i64 z, .bool true] else v = .tuple [.int .i64 0, .bool false]
theorem Small_text {lo : Nat} {neg : Bool} {ds : List UInt8} {s : St} (hd : Digs ds) (hne : ds ≠ []) (hl : ds.length ≤ 100000) :
    FunR E lo 102 [.str (if neg then 45 :: ds else ds)] s fun v s' => s = s' ∧ SmallP (if neg then -(dv 0 ds : Int) else (dv 0 ds : Int)) v := by
  have hlen : 0 < ds.length := List.length_pos_iff.2 hne
  have hmin := fun (n : Bool) (h : n = neg) => h
  generalize ht : (if neg then 45 :: ds else ds) = t
  have htl : t.length = (if neg then 1 else 0) + ds.length := by rw [← ht]; cases neg <;> simp; omega
  have hget : ∀ j, j < ds.length → t[(if neg then 1 else 0) + j]? = some (ds.getD j 0) := fun j hj => by
    rw [← ht]
    cases neg with
    | true => simp only [if_true, Nat.add_comm 1 j, List.getElem?_cons_succ]; rw [List.getD_eq_getElem?_getD, List.getElem?_eq_getElem hj]; rfl
    | false => simp only [Bool.false_eq_true, if_false, Nat.zero_add]; rw [List.getD_eq_getElem?_getD, List.getElem?_eq_getElem hj]; rfl
  obtain ⟨c0, hc0⟩ : ∃ c, t[0]? = some c := ⟨t[0], List.getElem?_eq_getElem (by omega)⟩
  have hc45 : eqB (Int.ofNat c0.toNat) 45 = neg := by
    rw [show (45 : Int) = Int.ofNat 45 from rfl, eqB_nat]
    rw [← ht] at hc0
    cases neg with
    | true => simp at hc0; rw [← hc0]; rfl
    | false =>
      simp only [Bool.false_eq_true, if_false] at hc0
      have := (hd c0 (List.mem_of_getElem? hc0)).1
      simp; omega
  have hc45' : eqB (c0.toNat : Int) 45 = neg := hc45
  refine FunR.body (fn := Tryz.f102) fn102' rfl ?_
  have hn : (max ([.str t] : List AV).length Tryz.f102.ntmps) = 58 := rfl
  generalize max ([.str t] : List AV).length Tryz.f102.ntmps = n at hn
  subst hn
  have g0 : (argsT 0 ([.str t] : List AV)).get 0 = some (.str t) := rfl
  generalize argsT 0 ([.str t] : List AV) = T0 at g0 ⊢
  have hn : (58 : Nat) = 58 := rfl
  have e1 : ltB 0 (Int.ofNat t.length) = true := by rw [show (0 : Int) = Int.ofNat 0 from rfl, ltB_nat]; simp; omega
  have hix : (t[0]?).map (fun u : UInt8 => AV.int .u8 u.toNat) = some (.int .u8 (Int.ofNat c0.toNat)) := by rw [hc0]; rfl
  refine CodeR.seq (CodeR.reg rfl ?_)
  iterate 2 (first | (refine SeqR.skipN ?_ rfl rfl ?_; (simp only [sA, wantE, T.get_set, Nat.reduceEqDiff] <;> with_reducible rfl)) | ((first | refine SeqR.stepN (v := ?_) (s' := ?_) rfl ?_ rfl ?_ rfl rfl ?_ | refine SeqR.stepLN (v := ?_) (s' := ?_) rfl ?_ rfl ?_ rfl rfl ?_); rotate_left 3; (intro call lc; simp only [sA, opE, kindOf, pureE, heapE, rho, rhos, T.get_set, Nat.reduceEqDiff, nb00, absV, absS, l_slice, l_void, l_str, l_arr, natE, loadE, isConst, TK.agg, u_notB, b_eqlB, b_neqB, b_add, b_sub, b_mul, b_lss, b_gtr, b_leq, b_geq, b_eql, b_neq, ty3, i3, si3, ty5, i5, si5, ty9, i9, si9] <;> rfl); rotate_left 1; (simp only [sA, wantE, T.get_set, Nat.reduceEqDiff] <;> with_reducible rfl)))
  refine SeqR.done ?_
  refine CodeR.seq (CodeR.reg rfl ?_)
  iterate 2 (first | (refine SeqR.skipN ?_ rfl rfl ?_; (simp only [sA, wantE, T.get_set, Nat.reduceEqDiff, g0] <;> with_reducible rfl)) | ((first | refine SeqR.stepN (v := ?_) (s' := ?_) rfl ?_ rfl ?_ rfl rfl ?_ | refine SeqR.stepLN (v := ?_) (s' := ?_) rfl ?_ rfl ?_ rfl rfl ?_); rotate_left 3; (intro call lc; simp only [sA, opE, kindOf, pureE, heapE, rho, rhos, T.get_set, Nat.reduceEqDiff, nb00, absV, absS, l_slice, l_void, l_str, l_arr, natE, loadE, isConst, TK.agg, u_notB, b_eqlB, b_neqB, b_add, b_sub, b_mul, b_lss, b_gtr, b_leq, b_geq, b_eql, b_neq, ty3, i3, si3, ty5, i5, si5, ty9, i9, si9, g0] <;> rfl); rotate_left 1; (simp only [sA, wantE, T.get_set, Nat.reduceEqDiff, g0] <;> with_reducible rfl)))
  refine SeqR.done ?_
  refine CodeR.seq (CodeR.reg rfl ?_)
  (first | (refine SeqR.skipN ?_ rfl rfl ?_; (simp only [sA, wantE, T.get_set, Nat.reduceEqDiff] <;> with_reducible rfl)) | ((first | refine SeqR.stepN (v := ?_) (s' := ?_) rfl ?_ rfl ?_ rfl rfl ?_ | refine SeqR.stepLN (v := ?_) (s' := ?_) rfl ?_ rfl ?_ rfl rfl ?_); rotate_left 3; (intro call lc; simp only [sA, opE, kindOf, pureE, heapE, rho, rhos, T.get_set, Nat.reduceEqDiff, nb00, absV, absS, l_slice, l_void, l_str, l_arr, natE, loadE, isConst, TK.agg, u_notB, b_eqlB, b_neqB, b_add, b_sub, b_mul, b_lss, b_gtr, b_leq, b_geq, b_eql, b_neq, ty3, i3, si3, ty5, i5, si5, ty9, i9, si9] <;> rfl); rotate_left 1; (simp only [sA, wantE, T.get_set, Nat.reduceEqDiff] <;> with_reducible rfl)))
  refine SeqR.done ?_
  refine CodeR.seq (CodeR.mono (Q := fun e m' s' => e = .nrm ∧ s = s' ∧ ∃ T1, m' = ⟨58, T1⟩ ∧ T1.get 4 = some (.str t) ∧ T1.get 5 = some (.int .i64 (Int.ofNat (if neg then 1 else 0)))) (CodeR.seq (CodeR.reg rfl ?_)) ?_)
  · iterate 8 (first | (refine SeqR.skipN ?_ rfl rfl ?_; (simp only [sA, wantE, T.get_set, Nat.reduceEqDiff, g0, e1, hc0, hc45'] <;> with_reducible rfl)) | ((first | refine SeqR.stepN (v := ?_) (s' := ?_) rfl ?_ rfl ?_ rfl rfl ?_ | refine SeqR.stepLN (v := ?_) (s' := ?_) rfl ?_ rfl ?_ rfl rfl ?_); rotate_left 3; (intro call lc; simp only [sA, opE, kindOf, pureE, heapE, rho, rhos, T.get_set, Nat.reduceEqDiff, nb00, absV, absS, l_slice, l_void, l_str, l_arr, natE, loadE, isConst, TK.agg, u_notB, b_eqlB, b_neqB, b_add, b_sub, b_mul, b_lss, b_gtr, b_leq, b_geq, b_eql, b_neq, ty3, i3, si3, ty5, i5, si5, ty9, i9, si9, g0, e1, hc0, hc45'] <;> rfl); rotate_left 1; (simp only [sA, wantE, T.get_set, Nat.reduceEqDiff, g0, e1, hc0, hc45'] <;> with_reducible rfl)))
    refine SeqR.done ?_
    refine CodeR.cond (t := neg) (by simp only [sA, rho, T.get_set, Nat.reduceEqDiff, u_notB, b_eqlB, b_neqB, b_add, b_sub, b_mul, b_lss, b_gtr, b_leq, b_geq, b_eql, b_neq, ty3, i3, si3, ty5, i5, si5, ty9, i9, si9]) ?_ ?_
    · rintro rfl
      repeat (first | (refine CodeR.seq ?_) | (refine CodeR.reg rfl ?_) | (refine CodeR.regD rfl rfl rfl ?_) | (refine SeqR.done ?_) | (refine CodeR.block ?_) | (refine CodeR.skip ?_) | (refine CodeR.exit ?_; simp only [sA, Ex.then, Ex.inBlock, Nat.reduceEqDiff]) | (first | (refine SeqR.skipN ?_ rfl rfl ?_; (simp only [sA, wantE, T.get_set, Nat.reduceEqDiff] <;> with_reducible rfl)) | ((first | refine SeqR.stepN (v := ?_) (s' := ?_) rfl ?_ rfl ?_ rfl rfl ?_ | refine SeqR.stepLN (v := ?_) (s' := ?_) rfl ?_ rfl ?_ rfl rfl ?_); rotate_left 3; (intro call lc; simp only [sA, opE, kindOf, pureE, heapE, rho, rhos, T.get_set, Nat.reduceEqDiff, nb00, absV, absS, l_slice, l_void, l_str, l_arr, natE, loadE, isConst, TK.agg, u_notB, b_eqlB, b_neqB, b_add, b_sub, b_mul, b_lss, b_gtr, b_leq, b_geq, b_eql, b_neq, ty3, i3, si3, ty5, i5, si5, ty9, i9, si9] <;> rfl); rotate_left 1; (simp only [sA, wantE, T.get_set, Nat.reduceEqDiff] <;> with_reducible rfl))))
      refine ⟨rfl, rfl, _, rfl, ?_, ?_⟩
      simp only [T.get_set, Nat.reduceEqDiff, if_true, if_false]
      simp only [T.get_set, Nat.reduceEqDiff, if_true, if_false]
      · rfl
    · rintro rfl
      refine CodeR.skip ⟨rfl, rfl, _, rfl, ?_, ?_⟩
      simp only [T.get_set, Nat.reduceEqDiff, if_true, if_false]
      simp only [T.get_set, Nat.reduceEqDiff, if_true, if_false]
      · rfl
  · rintro e m' s' ⟨rfl, rfl, T1, rfl, t4, t5⟩
    have e2 : decide ((if neg then 1 else 0) = t.length) = false := by simp; cases neg <;> simp at htl ⊢ <;> omega
    have e3 : eqB (Int.ofNat (if neg then 1 else 0)) 1 = neg := by cases neg <;> rfl
    generalize hoff : (if neg then 1 else 0) = off at *
    repeat (first | (refine CodeR.seq ?_) | (refine CodeR.reg rfl ?_) | (refine CodeR.regD rfl rfl rfl ?_) | (refine SeqR.done ?_) | (refine CodeR.block ?_) | (refine CodeR.skip ?_) | (refine CodeR.exit ?_; simp only [sA, Ex.then, Ex.inBlock, Nat.reduceEqDiff]) | (first | (refine SeqR.skipN ?_ rfl rfl ?_; (simp only [sA, wantE, T.get_set, Nat.reduceEqDiff, t4, t5, eqB_nat, e2] <;> with_reducible rfl)) | ((first | refine SeqR.stepN (v := ?_) (s' := ?_) rfl ?_ rfl ?_ rfl rfl ?_ | refine SeqR.stepLN (v := ?_) (s' := ?_) rfl ?_ rfl ?_ rfl rfl ?_); rotate_left 3; (intro call lc; simp only [sA, opE, kindOf, pureE, heapE, rho, rhos, T.get_set, Nat.reduceEqDiff, nb00, absV, absS, l_slice, l_void, l_str, l_arr, natE, loadE, isConst, TK.agg, u_notB, b_eqlB, b_neqB, b_add, b_sub, b_mul, b_lss, b_gtr, b_leq, b_geq, b_eql, b_neq, ty3, i3, si3, ty5, i5, si5, ty9, i9, si9, t4, t5, eqB_nat, e2] <;> rfl); rotate_left 1; (simp only [sA, wantE, T.get_set, Nat.reduceEqDiff, t4, t5, eqB_nat, e2] <;> with_reducible rfl))))
    refine CodeR.cond (t := false) (by simp only [sA, rho, T.get_set, Nat.reduceEqDiff, u_notB, b_eqlB, b_neqB, b_add, b_sub, b_mul, b_lss, b_gtr, b_leq, b_geq, b_eql, b_neq, ty3, i3, si3, ty5, i5, si5, ty9, i9, si9, e2]) (fun h => by cases h) (fun _ => ?_)
    repeat (first | (refine CodeR.seq ?_) | (refine CodeR.reg rfl ?_) | (refine CodeR.regD rfl rfl rfl ?_) | (refine SeqR.done ?_) | (refine CodeR.block ?_) | (refine CodeR.skip ?_) | (refine CodeR.exit ?_; simp only [sA, Ex.then, Ex.inBlock, Nat.reduceEqDiff]) | (first | (refine SeqR.skipN ?_ rfl rfl ?_; (simp only [sA, wantE, T.get_set, Nat.reduceEqDiff, t5, e3] <;> with_reducible rfl)) | ((first | refine SeqR.stepN (v := ?_) (s' := ?_) rfl ?_ rfl ?_ rfl rfl ?_ | refine SeqR.stepLN (v := ?_) (s' := ?_) rfl ?_ rfl ?_ rfl rfl ?_); rotate_left 3; (intro call lc; simp only [sA, opE, kindOf, pureE, heapE, rho, rhos, T.get_set, Nat.reduceEqDiff, nb00, absV, absS, l_slice, l_void, l_str, l_arr, natE, loadE, isConst, TK.agg, u_notB, b_eqlB, b_neqB, b_add, b_sub, b_mul, b_lss, b_gtr, b_leq, b_geq, b_eql, b_neq, ty3, i3, si3, ty5, i5, si5, ty9, i9, si9, t5, e3] <;> rfl); rotate_left 1; (simp only [sA, wantE, T.get_set, Nat.reduceEqDiff, t5, e3] <;> with_reducible rfl))))
    refine CodeR.loop (fun k mm s2 => s = s2 ∧ ∃ j T2, mm = ⟨58, T2⟩ ∧ j + k = ds.length ∧ dv 0 (ds.take j) ≤ 9223372036854775808 ∧ T2.get 4 = some (.str t) ∧ T2.get 5 = some (.int .i64 (Int.ofNat (off + j))) ∧ T2.get 6 = some (.bool neg) ∧ T2.get 7 = some (.int .i64 (-(dv 0 (ds.take j) : Int)))) ds.length ?_ ?_
    · refine ⟨rfl, 0, _, rfl, by omega, by simp [dv], ?_, ?_, ?_, ?_⟩
      simp only [T.get_set, Nat.reduceEqDiff, if_true, if_false, t4]
      simp only [T.get_set, Nat.reduceEqDiff, if_true, if_false, t5]
      · rfl
      simp only [T.get_set, Nat.reduceEqDiff, if_true, if_false]
      simp only [T.get_set, Nat.reduceEqDiff, if_true, if_false]
      · rfl
    · rintro k mm s2 ⟨rfl, j, T2, rfl, hjk, hvb, t4, t5, t6, t7⟩
      have e4 : ltB (Int.ofNat (off + j)) (Int.ofNat t.length) = decide (j < ds.length) := by
        rw [ltB_nat, decide_eq_decide]; omega
      repeat (first | (refine CodeR.seq ?_) | (refine CodeR.reg rfl ?_) | (refine CodeR.regD rfl rfl rfl ?_) | (refine SeqR.done ?_) | (refine CodeR.block ?_) | (refine CodeR.skip ?_) | (refine CodeR.exit ?_; simp only [sA, Ex.then, Ex.inBlock, Nat.reduceEqDiff]) | (first | (refine SeqR.skipN ?_ rfl rfl ?_; (simp only [sA, wantE, T.get_set, Nat.reduceEqDiff, t4, t5, e4] <;> with_reducible rfl)) | ((first | refine SeqR.stepN (v := ?_) (s' := ?_) rfl ?_ rfl ?_ rfl rfl ?_ | refine SeqR.stepLN (v := ?_) (s' := ?_) rfl ?_ rfl ?_ rfl rfl ?_); rotate_left 3; (intro call lc; simp only [sA, opE, kindOf, pureE, heapE, rho, rhos, T.get_set, Nat.reduceEqDiff, nb00, absV, absS, l_slice, l_void, l_str, l_arr, natE, loadE, isConst, TK.agg, u_notB, b_eqlB, b_neqB, b_add, b_sub, b_mul, b_lss, b_gtr, b_leq, b_geq, b_eql, b_neq, ty3, i3, si3, ty5, i5, si5, ty9, i9, si9, t4, t5, e4] <;> rfl); rotate_left 1; (simp only [sA, wantE, T.get_set, Nat.reduceEqDiff, t4, t5, e4] <;> with_reducible rfl))))
      refine CodeR.cond (t := decide (j < ds.length)) (by simp only [sA, rho, T.get_set, Nat.reduceEqDiff, u_notB, b_eqlB, b_neqB, b_add, b_sub, b_mul, b_lss, b_gtr, b_leq, b_geq, b_eql, b_neq, ty3, i3, si3, ty5, i5, si5, ty9, i9, si9]) ?_ ?_
      · intro hlt
        have hlt' : j < ds.length := by simpa using hlt
        have hg := hget j hlt'
        have hdig := hd (ds.getD j 0) (by rw [List.getD_eq_getElem?_getD, List.getElem?_eq_getElem hlt']; exact List.getElem_mem hlt')
        have hsucc := dv_take_succ hlt'
        have hle := dv_take_le ds (j + 1)
        generalize hcc : (ds.getD j 0).toNat = c at *
        have hix2 : (t[off + j]?).map (fun u : UInt8 => AV.int .u8 u.toNat) = some (.int .u8 (Int.ofNat c)) := by rw [hg, ← hcc]; rfl
        generalize hV : dv 0 (ds.take j) = V at *
        have w1 : wr .i64 (Int.ofNat c) = Int.ofNat c := wr_nat (by omega)
        have w2 : wr .i64 (Int.ofNat c - 48) = Int.ofNat (c - 48) := by
          rw [wr_small (by simp only [Int.ofNat_eq_natCast]; omega) (by simp only [Int.ofNat_eq_natCast]; omega)]
          simp only [Int.ofNat_eq_natCast]; omega
        generalize hdd : c - 48 = dg at *
        have hdg9 : dg ≤ 9 := by omega
        have e5 : ltB (Int.ofNat dg) 0 = false := by rw [ltB_eq]; simp
        have e6 : ltB 9 (Int.ofNat dg) = false := by rw [ltB_eq]; simp only [Int.ofNat_eq_natCast, decide_eq_false_iff_not]; omega
        have w3 : wr .i64 (-9223372036854775808 + Int.ofNat dg) = -9223372036854775808 + Int.ofNat dg := wr_small (by simp only [Int.ofNat_eq_natCast]; omega) (by simp only [Int.ofNat_eq_natCast]; omega)
        have hq : (-9223372036854775808 + Int.ofNat dg).tdiv 10 = -((9223372036854775808 - dg : Nat) / 10 : Nat) := by
          have h1 : (-9223372036854775808 + Int.ofNat dg) = -(Int.ofNat (9223372036854775808 - dg)) := by simp only [Int.ofNat_eq_natCast]; omega
          rw [h1, Int.neg_tdiv]
          rfl
        have b_q : ∀ c, binE E .quo 3 c (.int .i64 (-9223372036854775808 + Int.ofNat dg)) (.int .i64 10) = some (.int .i64 (-((9223372036854775808 - dg : Nat) / 10 : Nat))) := fun c => by
          have h0 : eqB 10 0 = false := rfl
          simp only [binE, intE, if_true, h0, cond_false, hq]
          rw [wr_small (by omega) (by omega)]
        have e7 : ltB (-(V : Int)) (-((9223372036854775808 - dg : Nat) / 10 : Nat)) = decide (9223372036854775808 < V * 10 + dg) := by
          rw [ltB_eq, decide_eq_decide]; omega
        repeat (first | (refine CodeR.seq ?_) | (refine CodeR.reg rfl ?_) | (refine CodeR.regD rfl rfl rfl ?_) | (refine SeqR.done ?_) | (refine CodeR.block ?_) | (refine CodeR.skip ?_) | (refine CodeR.exit ?_; simp only [sA, Ex.then, Ex.inBlock, Nat.reduceEqDiff]) | (first | (refine SeqR.skipN ?_ rfl rfl ?_; (simp only [sA, wantE, T.get_set, Nat.reduceEqDiff, t4, t5, t7, hix2, w1, w2, w3, e5, e6, e7, b_q] <;> with_reducible rfl)) | ((first | refine SeqR.stepN (v := ?_) (s' := ?_) rfl ?_ rfl ?_ rfl rfl ?_ | refine SeqR.stepLN (v := ?_) (s' := ?_) rfl ?_ rfl ?_ rfl rfl ?_); rotate_left 3; (intro call lc; simp only [sA, opE, kindOf, pureE, heapE, rho, rhos, T.get_set, Nat.reduceEqDiff, nb00, absV, absS, l_slice, l_void, l_str, l_arr, natE, loadE, isConst, TK.agg, u_notB, b_eqlB, b_neqB, b_add, b_sub, b_mul, b_lss, b_gtr, b_leq, b_geq, b_eql, b_neq, ty3, i3, si3, ty5, i5, si5, ty9, i9, si9, t4, t5, t7, hix2, w1, w2, w3, e5, e6, e7, b_q] <;> rfl); rotate_left 1; (simp only [sA, wantE, T.get_set, Nat.reduceEqDiff, t4, t5, t7, hix2, w1, w2, w3, e5, e6, e7, b_q] <;> with_reducible rfl))))
        refine CodeR.cond (t := decide (9223372036854775808 < V * 10 + dg)) (by simp only [sA, rho, T.get_set, Nat.reduceEqDiff, u_notB, b_eqlB, b_neqB, b_add, b_sub, b_mul, b_lss, b_gtr, b_leq, b_geq, b_eql, b_neq, ty3, i3, si3, ty5, i5, si5, ty9, i9, si9, e5, e6, e7]) ?_ ?_
        · intro hbig
          have hbig : 9223372036854775808 < V * 10 + dg := by simpa using hbig
          repeat (first | (refine CodeR.seq ?_) | (refine CodeR.reg rfl ?_) | (refine CodeR.regD rfl rfl rfl ?_) | (refine SeqR.done ?_) | (refine CodeR.block ?_) | (refine CodeR.skip ?_) | (refine CodeR.exit ?_; simp only [sA, Ex.then, Ex.inBlock, Nat.reduceEqDiff]) | (first | (refine SeqR.skipN ?_ rfl rfl ?_; (simp only [sA, wantE, T.get_set, Nat.reduceEqDiff] <;> with_reducible rfl)) | ((first | refine SeqR.stepN (v := ?_) (s' := ?_) rfl ?_ rfl ?_ rfl rfl ?_ | refine SeqR.stepLN (v := ?_) (s' := ?_) rfl ?_ rfl ?_ rfl rfl ?_); rotate_left 3; (intro call lc; simp only [sA, opE, kindOf, pureE, heapE, rho, rhos, T.get_set, Nat.reduceEqDiff, nb00, absV, absS, l_slice, l_void, l_str, l_arr, natE, loadE, isConst, TK.agg, u_notB, b_eqlB, b_neqB, b_add, b_sub, b_mul, b_lss, b_gtr, b_leq, b_geq, b_eql, b_neq, ty3, i3, si3, ty5, i5, si5, ty9, i9, si9] <;> rfl); rotate_left 1; (simp only [sA, wantE, T.get_set, Nat.reduceEqDiff] <;> with_reducible rfl))))
          refine CodeR.ret ⟨.inr rfl, [.int .i64 0, .bool false], by (show ressE E _ _ [.tmp 2, .tmp 3] = _; simp only [ressE, resE, T.get_set, Nat.reduceEqDiff, if_true, if_false, Option.bind_some, Option.map_some]), rfl, ?_⟩
          unfold SmallP
          rw [if_neg (by cases neg <;> simp <;> omega)]
          rfl
        · intro hbig
          have hbig : ¬ 9223372036854775808 < V * 10 + dg := by simpa using hbig
          have w4 : wr .i64 (-(V : Int) * 10) = -(V : Int) * 10 := wr_small (by omega) (by omega)
          have w5 : wr .i64 (-(V : Int) * 10 - Int.ofNat dg) = -((V * 10 + dg : Nat) : Int) := by
            rw [wr_small (by simp only [Int.ofNat_eq_natCast]; omega) (by simp only [Int.ofNat_eq_natCast]; omega)]
            simp only [Int.ofNat_eq_natCast]; omega
          have w6 : wr .i64 (Int.ofNat (off + j) + 1) = Int.ofNat (off + (j + 1)) := wr_add (b := 1) (by cases neg <;> simp at hoff <;> omega)
          repeat (first | (refine CodeR.seq ?_) | (refine CodeR.reg rfl ?_) | (refine CodeR.regD rfl rfl rfl ?_) | (refine SeqR.done ?_) | (refine CodeR.block ?_) | (refine CodeR.skip ?_) | (refine CodeR.exit ?_; simp only [sA, Ex.then, Ex.inBlock, Nat.reduceEqDiff]) | (first | (refine SeqR.skipN ?_ rfl rfl ?_; (simp only [sA, wantE, T.get_set, Nat.reduceEqDiff, t7, t5, w4, w5, w6] <;> with_reducible rfl)) | ((first | refine SeqR.stepN (v := ?_) (s' := ?_) rfl ?_ rfl ?_ rfl rfl ?_ | refine SeqR.stepLN (v := ?_) (s' := ?_) rfl ?_ rfl ?_ rfl rfl ?_); rotate_left 3; (intro call lc; simp only [sA, opE, kindOf, pureE, heapE, rho, rhos, T.get_set, Nat.reduceEqDiff, nb00, absV, absS, l_slice, l_void, l_str, l_arr, natE, loadE, isConst, TK.agg, u_notB, b_eqlB, b_neqB, b_add, b_sub, b_mul, b_lss, b_gtr, b_leq, b_geq, b_eql, b_neq, ty3, i3, si3, ty5, i5, si5, ty9, i9, si9, t7, t5, w4, w5, w6] <;> rfl); rotate_left 1; (simp only [sA, wantE, T.get_set, Nat.reduceEqDiff, t7, t5, w4, w5, w6] <;> with_reducible rfl))))
          refine ⟨k - 1, by omega, rfl, j + 1, _, rfl, by omega, by omega, ?_, ?_, ?_, ?_⟩
          simp only [T.get_set, Nat.reduceEqDiff, if_true, if_false, t4]
          simp only [T.get_set, Nat.reduceEqDiff, if_true, if_false]
          simp only [T.get_set, Nat.reduceEqDiff, if_true, if_false, t6]
          · simp only [T.get_set, Nat.reduceEqDiff, if_true, if_false, hsucc]
      · intro hge
        have hj : j = ds.length := by have : ¬ j < ds.length := by simpa using hge
                                      omega
        subst hj
        rw [List.take_length] at hvb t7
        repeat (first | (refine CodeR.seq ?_) | (refine CodeR.reg rfl ?_) | (refine CodeR.regD rfl rfl rfl ?_) | (refine SeqR.done ?_) | (refine CodeR.block ?_) | (refine CodeR.skip ?_) | (refine CodeR.exit ?_; simp only [sA, Ex.then, Ex.inBlock, Nat.reduceEqDiff]) | (first | (refine SeqR.skipN ?_ rfl rfl ?_; (simp only [sA, wantE, T.get_set, Nat.reduceEqDiff, t6] <;> with_reducible rfl)) | ((first | refine SeqR.stepN (v := ?_) (s' := ?_) rfl ?_ rfl ?_ rfl rfl ?_ | refine SeqR.stepLN (v := ?_) (s' := ?_) rfl ?_ rfl ?_ rfl rfl ?_); rotate_left 3; (intro call lc; simp only [sA, opE, kindOf, pureE, heapE, rho, rhos, T.get_set, Nat.reduceEqDiff, nb00, absV, absS, l_slice, l_void, l_str, l_arr, natE, loadE, isConst, TK.agg, u_notB, b_eqlB, b_neqB, b_add, b_sub, b_mul, b_lss, b_gtr, b_leq, b_geq, b_eql, b_neq, ty3, i3, si3, ty5, i5, si5, ty9, i9, si9, t6] <;> rfl); rotate_left 1; (simp only [sA, wantE, T.get_set, Nat.reduceEqDiff, t6] <;> with_reducible rfl))))
        refine CodeR.cond (t := neg) (by simp only [sA, rho, T.get_set, Nat.reduceEqDiff, u_notB, b_eqlB, b_neqB, b_add, b_sub, b_mul, b_lss, b_gtr, b_leq, b_geq, b_eql, b_neq, ty3, i3, si3, ty5, i5, si5, ty9, i9, si9]) ?_ ?_
        · rintro rfl
          repeat (first | (refine CodeR.seq ?_) | (refine CodeR.reg rfl ?_) | (refine CodeR.regD rfl rfl rfl ?_) | (refine SeqR.done ?_) | (refine CodeR.block ?_) | (refine CodeR.skip ?_) | (refine CodeR.exit ?_; simp only [sA, Ex.then, Ex.inBlock, Nat.reduceEqDiff]) | (first | (refine SeqR.skipN ?_ rfl rfl ?_; (simp only [sA, wantE, T.get_set, Nat.reduceEqDiff, t7] <;> with_reducible rfl)) | ((first | refine SeqR.stepN (v := ?_) (s' := ?_) rfl ?_ rfl ?_ rfl rfl ?_ | refine SeqR.stepLN (v := ?_) (s' := ?_) rfl ?_ rfl ?_ rfl rfl ?_); rotate_left 3; (intro call lc; simp only [sA, opE, kindOf, pureE, heapE, rho, rhos, T.get_set, Nat.reduceEqDiff, nb00, absV, absS, l_slice, l_void, l_str, l_arr, natE, loadE, isConst, TK.agg, u_notB, b_eqlB, b_neqB, b_add, b_sub, b_mul, b_lss, b_gtr, b_leq, b_geq, b_eql, b_neq, ty3, i3, si3, ty5, i5, si5, ty9, i9, si9, t7] <;> rfl); rotate_left 1; (simp only [sA, wantE, T.get_set, Nat.reduceEqDiff, t7] <;> with_reducible rfl))))
          refine CodeR.ret ⟨.inr rfl, [.int .i64 (-(dv 0 ds : Int)), .bool true], by (show ressE E _ _ [.tmp 2, .tmp 3] = _; simp only [ressE, resE, T.get_set, Nat.reduceEqDiff, if_true, if_false, Option.bind_some, Option.map_some]), rfl, ?_⟩
          unfold SmallP
          simp only [if_true]
          rw [if_pos (by omega)]
          rfl
        · rintro rfl
          have e8 : eqB (-(dv 0 ds : Int)) (-9223372036854775808) = decide (dv 0 ds = 9223372036854775808) := by
            rw [eqB_eq, Bool.eq_iff_iff]; simp only [beq_iff_eq, decide_eq_true_eq]; omega
          repeat (first | (refine CodeR.seq ?_) | (refine CodeR.reg rfl ?_) | (refine CodeR.regD rfl rfl rfl ?_) | (refine SeqR.done ?_) | (refine CodeR.block ?_) | (refine CodeR.skip ?_) | (refine CodeR.exit ?_; simp only [sA, Ex.then, Ex.inBlock, Nat.reduceEqDiff]) | (first | (refine SeqR.skipN ?_ rfl rfl ?_; (simp only [sA, wantE, T.get_set, Nat.reduceEqDiff, t7, e8] <;> with_reducible rfl)) | ((first | refine SeqR.stepN (v := ?_) (s' := ?_) rfl ?_ rfl ?_ rfl rfl ?_ | refine SeqR.stepLN (v := ?_) (s' := ?_) rfl ?_ rfl ?_ rfl rfl ?_); rotate_left 3; (intro call lc; simp only [sA, opE, kindOf, pureE, heapE, rho, rhos, T.get_set, Nat.reduceEqDiff, nb00, absV, absS, l_slice, l_void, l_str, l_arr, natE, loadE, isConst, TK.agg, u_notB, b_eqlB, b_neqB, b_add, b_sub, b_mul, b_lss, b_gtr, b_leq, b_geq, b_eql, b_neq, ty3, i3, si3, ty5, i5, si5, ty9, i9, si9, t7, e8] <;> rfl); rotate_left 1; (simp only [sA, wantE, T.get_set, Nat.reduceEqDiff, t7, e8] <;> with_reducible rfl))))
          refine CodeR.cond (t := decide (dv 0 ds = 9223372036854775808)) (by simp only [sA, rho, T.get_set, Nat.reduceEqDiff, u_notB, b_eqlB, b_neqB, b_add, b_sub, b_mul, b_lss, b_gtr, b_leq, b_geq, b_eql, b_neq, ty3, i3, si3, ty5, i5, si5, ty9, i9, si9]) ?_ ?_
          · intro hmx
            have hmx : dv 0 ds = 9223372036854775808 := by simpa using hmx
            repeat (first | (refine CodeR.seq ?_) | (refine CodeR.reg rfl ?_) | (refine CodeR.regD rfl rfl rfl ?_) | (refine SeqR.done ?_) | (refine CodeR.block ?_) | (refine CodeR.skip ?_) | (refine CodeR.exit ?_; simp only [sA, Ex.then, Ex.inBlock, Nat.reduceEqDiff]) | (first | (refine SeqR.skipN ?_ rfl rfl ?_; (simp only [sA, wantE, T.get_set, Nat.reduceEqDiff] <;> with_reducible rfl)) | ((first | refine SeqR.stepN (v := ?_) (s' := ?_) rfl ?_ rfl ?_ rfl rfl ?_ | refine SeqR.stepLN (v := ?_) (s' := ?_) rfl ?_ rfl ?_ rfl rfl ?_); rotate_left 3; (intro call lc; simp only [sA, opE, kindOf, pureE, heapE, rho, rhos, T.get_set, Nat.reduceEqDiff, nb00, absV, absS, l_slice, l_void, l_str, l_arr, natE, loadE, isConst, TK.agg, u_notB, b_eqlB, b_neqB, b_add, b_sub, b_mul, b_lss, b_gtr, b_leq, b_geq, b_eql, b_neq, ty3, i3, si3, ty5, i5, si5, ty9, i9, si9] <;> rfl); rotate_left 1; (simp only [sA, wantE, T.get_set, Nat.reduceEqDiff] <;> with_reducible rfl))))
            refine CodeR.ret ⟨.inr rfl, [.int .i64 0, .bool false], by (show ressE E _ _ [.tmp 2, .tmp 3] = _; simp only [ressE, resE, T.get_set, Nat.reduceEqDiff, if_true, if_false, Option.bind_some, Option.map_some]), rfl, ?_⟩
            unfold SmallP
            simp only [Bool.false_eq_true, if_false]
            rw [if_neg (by omega)]
            rfl
          · intro hmx
            have hmx : ¬ dv 0 ds = 9223372036854775808 := by simpa using hmx
            have w7 : wr .i64 (0 - -(dv 0 ds : Int)) = (dv 0 ds : Int) := by rw [wr_small (by omega) (by omega)]; omega
            repeat (first | (refine CodeR.seq ?_) | (refine CodeR.reg rfl ?_) | (refine CodeR.regD rfl rfl rfl ?_) | (refine SeqR.done ?_) | (refine CodeR.block ?_) | (refine CodeR.skip ?_) | (refine CodeR.exit ?_; simp only [sA, Ex.then, Ex.inBlock, Nat.reduceEqDiff]) | (first | (refine SeqR.skipN ?_ rfl rfl ?_; (simp only [sA, wantE, T.get_set, Nat.reduceEqDiff, t7, w7] <;> with_reducible rfl)) | ((first | refine SeqR.stepN (v := ?_) (s' := ?_) rfl ?_ rfl ?_ rfl rfl ?_ | refine SeqR.stepLN (v := ?_) (s' := ?_) rfl ?_ rfl ?_ rfl rfl ?_); rotate_left 3; (intro call lc; simp only [sA, opE, kindOf, pureE, heapE, rho, rhos, T.get_set, Nat.reduceEqDiff, nb00, absV, absS, l_slice, l_void, l_str, l_arr, natE, loadE, isConst, TK.agg, u_notB, b_eqlB, b_neqB, b_add, b_sub, b_mul, b_lss, b_gtr, b_leq, b_geq, b_eql, b_neq, ty3, i3, si3, ty5, i5, si5, ty9, i9, si9, t7, w7] <;> rfl); rotate_left 1; (simp only [sA, wantE, T.get_set, Nat.reduceEqDiff, t7, w7] <;> with_reducible rfl))))
            refine CodeR.ret ⟨.inr rfl, [.int .i64 (dv 0 ds : Int), .bool true], by (show ressE E _ _ [.tmp 2, .tmp 3] = _; simp only [ressE, resE, T.get_set, Nat.reduceEqDiff, if_true, if_false, Option.bind_some, Option.map_some]), rfl, ?_⟩
            unfold SmallP
            simp only [Bool.false_eq_true, if_false]
            rw [if_pos (by omega)]
            rfl
theorem Small_run {lo : Nat} {z : Int} {s : St} (hz : z.natAbs < 10 ^ 200) : FunR E lo 102 [.str (Lib.itoa z)] s fun v s' => s = s' ∧ SmallP z v := by
  obtain ⟨q1, q2⟩ := dec_spec z.natAbs
  have hlen := (padk_eq (k := 199) (d := z.natAbs) hz).1
  have htxt : Lib.itoa z = if decide (z < 0) then 45 :: Lib.decDigits z.natAbs else Lib.decDigits z.natAbs := by
    unfold Lib.itoa
    by_cases hz : z < 0
    · simp only [hz, if_true, decide_true]
    · simp only [hz, if_false, decide_false, Bool.false_eq_true]
      rw [show z.toNat = z.natAbs by omega]
  rw [htxt]
  have := Small_text (lo := lo) (neg := decide (z < 0)) (s := s) q1 (dec_ne _) (by omega)
  rw [q2, show (if decide (z < 0) = true then -(z.natAbs : Int) else (z.natAbs : Int)) = z by by_cases hz : z < 0 <;> simp [hz] <;> omega] at this
  exact this
end Go.Proofs.YtaocoplfdhcoaaaGreatDoor.EvA

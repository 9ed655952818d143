/- checker.product, run. -/
import Derived.Test.YtaocoplfdhcoaaaGreatDoorSp27
set_option linter.unusedVariables false
set_option linter.unusedSimpArgs false
set_option maxRecDepth 20000
set_option maxHeartbeats 2000000
namespace Go.Proofs.YtaocoplfdhcoaaaGreatDoor.EvA
open Go Go.RowKit Go.Proofs.YtaocoplfdhcoaaaGreatDoor.Ev
theorem fn217' : E.fns.get 217 = some Tryz.f217 := by kernel_rfl
/-- Zeros from the n-th on. -/
def Zer (n : Nat) (l : List Nat) : Prop := ∀ j, n ≤ j → l.getD j 0 = 0
theorem zer_tail {n o : Nat} {os : List Nat} (h : Zer (n + 1) (o :: os)) : Zer n os := fun j hj => by simpa using h (j + 1) (by omega)
theorem set_at3 (d r : List Nat) (o v : Nat) (os : List Nat) : (d ++ (r ++ o :: os)).set (d.length + r.length) v = d ++ (r ++ v :: os) := set_at d r o v os
theorem get_at3 (d r : List Nat) (o : Nat) (os : List Nat) : (nats (d ++ (r ++ o :: os)))[d.length + r.length]? = some (.int .u32 (Int.ofNat o)) := by
  refine nats_get ?_
  rw [List.getElem?_append_right (by omega), Nat.add_sub_cancel_left, List.getElem?_append_right (by omega), Nat.sub_self]
  rfl
theorem product_run {lo a b : Nat} {va vb : AV} {s : St} (ha : NV s.h a va) (hb : NV s.h b vb) (hF : Fresh s) (hlo : lo ≤ s.c) {n : Nat} (hn' : n ≤ 100000) (h1 : a < 4294967296 ^ n) (h2 : b < 4294967296 ^ n) :
    FunR E lo 217 [va, vb] s fun v s' => Fresh s' ∧ Kept s.c s s' ∧ NV s'.h (a * b) v := by
  obtain ⟨xs, ra, sa, ta, rfl⟩ := ha
  obtain ⟨ys, rb, sb, tb, rfl⟩ := hb
  have lx := nv_len ta h1
  have ly := nv_len tb h2
  clear h1 h2
  have la := lenN ra 245
  have lb := lenN rb 245
  refine FunR.body (fn := Tryz.f217) fn217' rfl ?_
  have hn : (max ([va, vb] : List AV).length Tryz.f217.ntmps) = 67 := rfl
  generalize max ([va, vb] : List AV).length Tryz.f217.ntmps = n at hn
  subst hn
  have g0 : (argsT 0 ([va, vb] : List AV)).get 0 = some (va) := rfl
  have g1 : (argsT 0 ([va, vb] : List AV)).get 1 = some (vb) := rfl
  generalize argsT 0 ([va, vb] : List AV) = T0 at g0 g1 ⊢
  have hn : (67 : Nat) = 67 := rfl
  have w1 : wr .i64 (Int.ofNat xs.length + Int.ofNat ys.length) = Int.ofNat (xs.length + ys.length) := wr_add (by omega)
  repeat (first | (refine CodeR.seq ?_) | (refine CodeR.reg rfl ?_) | (refine CodeR.regD rfl rfl rfl ?_) | (refine SeqR.done ?_) | (refine CodeR.block ?_) | (refine CodeR.skip ?_) | (refine CodeR.exit ?_; simp only [sA, Ex.then, Ex.inBlock, Nat.reduceEqDiff]) | (first | (refine SeqR.skipN ?_ rfl rfl ?_; (simp only [sA, wantE, T.get_set, Nat.reduceEqDiff, g0, g1, la, lb, w1] <;> with_reducible rfl)) | ((first | refine SeqR.stepN (v := ?_) (s' := ?_) rfl ?_ rfl ?_ rfl rfl ?_ | refine SeqR.stepLN (v := ?_) (s' := ?_) rfl ?_ rfl ?_ rfl rfl ?_); rotate_left 3; (intro call lc; simp only [sA, opE, kindOf, pureE, heapE, rho, rhos, T.get_set, Nat.reduceEqDiff, nb00, absV, absS, l_slice, l_void, l_str, l_arr, natE, loadE, isConst, TK.agg, u_notB, b_eqlB, b_neqB, b_add, b_sub, b_mul, b_lss, b_gtr, b_leq, b_geq, b_eql, b_neq, ty169, i169, si169, ty245, i245, si245, ty283, i283, si283, g0, g1, la, lb, w1] <;> rfl); rotate_left 1; (simp only [sA, wantE, T.get_set, Nat.reduceEqDiff, g0, g1, la, lb, w1] <;> with_reducible rfl))))
  refine SeqR.stepN rfl rfl rfl (fun call lc => op_make (n := xs.length + ys.length) (v := .int .u32 0) (by simp only [rho, T.get_set, if_true]) ty169 rfl ty245 rfl rfl (by simp only [i245]; omega) (by omega) call lc _) rfl rfl ?_
  rw [reps_nats]
  generalize hL : xs.length + ys.length = L
  have hS : FS s s.c (List.replicate L 0) ⟨s.h.set s.c ⟨245, nats (List.replicate L 0)⟩, s.c + 1⟩ := ⟨fresh_new hF _, kept_new (Kept.refl _ _) (Nat.le_refl _) _, Nat.le_refl _, by simp, by simp only; rw [T.get_set, if_pos rfl]⟩
  have ra1 := ra.keep hF.lt hS.kept
  have la1 := lenN ra1 245
  generalize (⟨s.h.set s.c ⟨245, nats (List.replicate L 0)⟩, s.c + 1⟩ : St) = s2 at hS ra1 ⊢
  repeat (first | (refine CodeR.seq ?_) | (refine CodeR.reg rfl ?_) | (refine CodeR.regD rfl rfl rfl ?_) | (refine SeqR.done ?_) | (refine CodeR.block ?_) | (refine CodeR.skip ?_) | (refine CodeR.exit ?_; simp only [sA, Ex.then, Ex.inBlock, Nat.reduceEqDiff]) | (first | (refine SeqR.skipN ?_ rfl rfl ?_; (simp only [sA, wantE, T.get_set, Nat.reduceEqDiff, g0, la] <;> with_reducible rfl)) | ((first | refine SeqR.stepN (v := ?_) (s' := ?_) rfl ?_ rfl ?_ rfl rfl ?_ | refine SeqR.stepLN (v := ?_) (s' := ?_) rfl ?_ rfl ?_ rfl rfl ?_); rotate_left 3; (intro call lc; simp only [sA, opE, kindOf, pureE, heapE, rho, rhos, T.get_set, Nat.reduceEqDiff, nb00, absV, absS, l_slice, l_void, l_str, l_arr, natE, loadE, isConst, TK.agg, u_notB, b_eqlB, b_neqB, b_add, b_sub, b_mul, b_lss, b_gtr, b_leq, b_geq, b_eql, b_neq, ty169, i169, si169, ty245, i245, si245, ty283, i283, si283, g0, la] <;> rfl); rotate_left 1; (simp only [sA, wantE, T.get_set, Nat.reduceEqDiff, g0, la] <;> with_reducible rfl))))
  have hfit0 := mul_fits (B := 4294967296) (by omega) (n := L) sa sb (by omega)
  generalize hgoal : mulGo 4294967296 ys xs (List.replicate L 0) = G
  refine CodeR.loop (fun k m s1 => ∃ i T1 d cur, m = ⟨67, T1⟩ ∧ i + k = xs.length ∧ d.length = i ∧ FS s s.c (d ++ cur) s1 ∧ d ++ mulGo 4294967296 ys (xs.drop i) cur = G ∧ GS 4294967296 cur ∧ cur.length = k + ys.length ∧ Zer ys.length cur ∧ gval 4294967296 cur + gval 4294967296 (xs.drop i) * gval 4294967296 ys < 4294967296 ^ cur.length ∧ T1.get 0 = some va ∧ T1.get 1 = some vb ∧ T1.get 5 = some (.slice (some (s.c, 0)) L L 0) ∧ T1.get 17 = some va ∧ T1.get 18 = some (.int .i64 (Int.ofNat xs.length)) ∧ T1.get 19 = some (.int .i64 (Int.ofNat i))) xs.length ?_ ?_
  · refine ⟨0, _, [], List.replicate L 0, rfl, by omega, rfl, hS, hgoal, gs_rep (by omega) _, by simp; omega, fun j hj => ?_, hfit0, ?_, ?_, ?_, ?_, ?_, ?_⟩
    · rw [List.getD_eq_getElem?_getD, List.getElem?_replicate]; split <;> rfl
    simp only [T.get_set, Nat.reduceEqDiff, if_true, if_false, g0]
    simp only [T.get_set, Nat.reduceEqDiff, if_true, if_false, g1]
    simp only [T.get_set, Nat.reduceEqDiff, if_true, if_false]
    simp only [T.get_set, Nat.reduceEqDiff, if_true, if_false]
    simp only [T.get_set, Nat.reduceEqDiff, if_true, if_false]
    simp only [T.get_set, Nat.reduceEqDiff, if_true, if_false]
    · rfl
  · rintro k m s3 ⟨i, T2, d, cur, rfl, hik, hd, hM, hgo, hgs, hlen, hzer, hfit, h0, h1, h5, h17, h18, h19⟩
    have ha3 := ra.keep hF.lt hM.kept
    have hb3 := rb.keep hF.lt hM.kept
    have lb := lenN hb3 245
    repeat (first | (refine CodeR.seq ?_) | (refine CodeR.reg rfl ?_) | (refine CodeR.regD rfl rfl rfl ?_) | (refine SeqR.done ?_) | (refine CodeR.block ?_) | (refine CodeR.skip ?_) | (refine CodeR.exit ?_; simp only [sA, Ex.then, Ex.inBlock, Nat.reduceEqDiff]) | (first | (refine SeqR.skipN ?_ rfl rfl ?_; (simp only [sA, wantE, T.get_set, Nat.reduceEqDiff, h18, h19, ltB_nat] <;> with_reducible rfl)) | ((first | refine SeqR.stepN (v := ?_) (s' := ?_) rfl ?_ rfl ?_ rfl rfl ?_ | refine SeqR.stepLN (v := ?_) (s' := ?_) rfl ?_ rfl ?_ rfl rfl ?_); rotate_left 3; (intro call lc; simp only [sA, opE, kindOf, pureE, heapE, rho, rhos, T.get_set, Nat.reduceEqDiff, nb00, absV, absS, l_slice, l_void, l_str, l_arr, natE, loadE, isConst, TK.agg, u_notB, b_eqlB, b_neqB, b_add, b_sub, b_mul, b_lss, b_gtr, b_leq, b_geq, b_eql, b_neq, ty169, i169, si169, ty245, i245, si245, ty283, i283, si283, h18, h19, ltB_nat] <;> rfl); rotate_left 1; (simp only [sA, wantE, T.get_set, Nat.reduceEqDiff, h18, h19, ltB_nat] <;> with_reducible rfl))))
    refine CodeR.cond (t := decide (i < xs.length)) (by simp only [sA, rho, T.get_set, Nat.reduceEqDiff, u_notB, b_eqlB, b_neqB, b_add, b_sub, b_mul, b_lss, b_gtr, b_leq, b_geq, b_eql, b_neq, ty169, i169, si169, ty245, i245, si245, ty283, i283, si283]) ?_ ?_
    · intro hlt
      have hlt' : i < xs.length := by simpa using hlt
      obtain ⟨k', rfl⟩ : ∃ k', k = k' + 1 := ⟨k - 1, by omega⟩
      rw [drop_at hlt' 0] at hgo hfit
      have hx := nat_lt sa i
      obtain ⟨b1, o1, n1, c1, q1, k1, rfl, f1, f2, f3⟩ := Row.nat ha3 hlt'
      have f4 : Nat.blt b1 s3.c = true := blt_iff.2 (hM.fresh.lt b1 k1 f2)
      generalize xs.getD i 0 = x at *
      have hfirst := go_first hfit
      repeat (first | (refine CodeR.seq ?_) | (refine CodeR.reg rfl ?_) | (refine CodeR.regD rfl rfl rfl ?_) | (refine SeqR.done ?_) | (refine CodeR.block ?_) | (refine CodeR.skip ?_) | (refine CodeR.exit ?_; simp only [sA, Ex.then, Ex.inBlock, Nat.reduceEqDiff]) | (first | (refine SeqR.skipN ?_ rfl rfl ?_; (simp only [sA, wantE, T.get_set, Nat.reduceEqDiff, h1, h17, h19, f1, f2, f3, f4, lb] <;> with_reducible rfl)) | ((first | refine SeqR.stepN (v := ?_) (s' := ?_) rfl ?_ rfl ?_ rfl rfl ?_ | refine SeqR.stepLN (v := ?_) (s' := ?_) rfl ?_ rfl ?_ rfl rfl ?_); rotate_left 3; (intro call lc; simp only [sA, opE, kindOf, pureE, heapE, rho, rhos, T.get_set, Nat.reduceEqDiff, nb00, absV, absS, l_slice, l_void, l_str, l_arr, natE, loadE, isConst, TK.agg, u_notB, b_eqlB, b_neqB, b_add, b_sub, b_mul, b_lss, b_gtr, b_leq, b_geq, b_eql, b_neq, ty169, i169, si169, ty245, i245, si245, ty283, i283, si283, h1, h17, h19, f1, f2, f3, f4, lb] <;> rfl); rotate_left 1; (simp only [sA, wantE, T.get_set, Nat.reduceEqDiff, h1, h17, h19, f1, f2, f3, f4, lb] <;> with_reducible rfl))))
      refine CodeR.loop (fun q m s4 => ∃ c r rest T3, m = ⟨67, T3⟩ ∧ r.length + q = ys.length ∧ FS s s.c (d ++ (r ++ rest)) s4 ∧ r ++ mulRow 4294967296 x c rest (ys.drop r.length) = mulRow 4294967296 x 0 cur ys ∧ GS 4294967296 rest ∧ c < 4294967296 ∧ r.length + rest.length = cur.length ∧ Zer q rest ∧ T3.get 0 = some (.slice (some (b1, o1)) n1 c1 q1) ∧ T3.get 1 = some vb ∧ T3.get 5 = some (.slice (some (s.c, 0)) L L 0) ∧ T3.get 6 = some (.int .i64 (Int.ofNat i)) ∧ T3.get 7 = some (.int .u32 (Int.ofNat x)) ∧ T3.get 8 = some (.int .u64 (Int.ofNat c)) ∧ T3.get 17 = some (.slice (some (b1, o1)) n1 c1 q1) ∧ T3.get 18 = some (.int .i64 (Int.ofNat xs.length)) ∧ T3.get 19 = some (.int .i64 (Int.ofNat i)) ∧ T3.get 24 = some vb ∧ T3.get 25 = some (.int .i64 (Int.ofNat ys.length)) ∧ T3.get 26 = some (.int .i64 (Int.ofNat r.length))) ys.length ?_ ?_
      · refine ⟨0, [], cur, _, rfl, by simp, hM, rfl, hgs, by omega, by simp, hzer, ?_, ?_, ?_, ?_, ?_, ?_, ?_, ?_, ?_, ?_, ?_, ?_⟩
        simp only [T.get_set, Nat.reduceEqDiff, if_true, if_false, h0]
        simp only [T.get_set, Nat.reduceEqDiff, if_true, if_false, h1]
        simp only [T.get_set, Nat.reduceEqDiff, if_true, if_false, h5]
        simp only [T.get_set, Nat.reduceEqDiff, if_true, if_false]
        simp only [T.get_set, Nat.reduceEqDiff, if_true, if_false]
        simp only [T.get_set, Nat.reduceEqDiff, if_true, if_false]
        · rfl
        simp only [T.get_set, Nat.reduceEqDiff, if_true, if_false, h17]
        simp only [T.get_set, Nat.reduceEqDiff, if_true, if_false, h18]
        simp only [T.get_set, Nat.reduceEqDiff, if_true, if_false, h19]
        simp only [T.get_set, Nat.reduceEqDiff, if_true, if_false]
        simp only [T.get_set, Nat.reduceEqDiff, if_true, if_false]
        simp only [T.get_set, Nat.reduceEqDiff, if_true, if_false]
        · rfl
      · rintro q m s4 ⟨c, r, rest, T3, rfl, hq, hM4, hrow, hgr, hc, hrl, hz4, h0, h1, h5, h6, h7, h8, h17, h18, h19, h24, h25, h26⟩
        have hb4 := rb.keep hF.lt hM4.kept
        have lb4 := lenN hb4 245
        have e5 : Nat.blt s.c s4.c = true := blt_iff.2 hM4.lt
        cases rest with
        | nil => simp only [List.length_nil] at hrl; omega
        | cons o os =>
        have hos := gs_cons hgr
        have hin : d.length + r.length < L := by simp only [List.length_cons] at hrl; omega
        have hin' : Nat.blt (i + r.length) L = true := blt_iff.2 (by omega)
        have hcell := get_at3 d r o os
        rw [hd] at hcell
        have w3 : wr .i64 (Int.ofNat i + Int.ofNat r.length) = Int.ofNat (i + r.length) := wr_add (by omega)
        have hb3' := hM4.b3
        repeat (first | (refine CodeR.seq ?_) | (refine CodeR.reg rfl ?_) | (refine CodeR.regD rfl rfl rfl ?_) | (refine SeqR.done ?_) | (refine CodeR.block ?_) | (refine CodeR.skip ?_) | (refine CodeR.exit ?_; simp only [sA, Ex.then, Ex.inBlock, Nat.reduceEqDiff]) | (first | (refine SeqR.skipN ?_ rfl rfl ?_; (simp only [sA, wantE, T.get_set, Nat.reduceEqDiff, h25, h26, ltB_nat] <;> with_reducible rfl)) | ((first | refine SeqR.stepN (v := ?_) (s' := ?_) rfl ?_ rfl ?_ rfl rfl ?_ | refine SeqR.stepLN (v := ?_) (s' := ?_) rfl ?_ rfl ?_ rfl rfl ?_); rotate_left 3; (intro call lc; simp only [sA, opE, kindOf, pureE, heapE, rho, rhos, T.get_set, Nat.reduceEqDiff, nb00, absV, absS, l_slice, l_void, l_str, l_arr, natE, loadE, isConst, TK.agg, u_notB, b_eqlB, b_neqB, b_add, b_sub, b_mul, b_lss, b_gtr, b_leq, b_geq, b_eql, b_neq, ty169, i169, si169, ty245, i245, si245, ty283, i283, si283, h25, h26, ltB_nat] <;> rfl); rotate_left 1; (simp only [sA, wantE, T.get_set, Nat.reduceEqDiff, h25, h26, ltB_nat] <;> with_reducible rfl))))
        refine CodeR.cond (t := decide (r.length < ys.length)) (by simp only [sA, rho, T.get_set, Nat.reduceEqDiff, u_notB, b_eqlB, b_neqB, b_add, b_sub, b_mul, b_lss, b_gtr, b_leq, b_geq, b_eql, b_neq, ty169, i169, si169, ty245, i245, si245, ty283, i283, si283]) ?_ ?_
        · intro hk
          have hk : r.length < ys.length := by simpa using hk
          obtain ⟨q', rfl⟩ : ∃ q', q = q' + 1 := ⟨q - 1, by omega⟩
          rw [mulRow, List.tail_drop, headD_drop] at hrow
          have hyy := nat_lt sb r.length
          obtain ⟨b2, o2, n2, c2, q2, k2, rfl, p1, p2, p3⟩ := Row.nat hb4 hk
          have p4 : Nat.blt b2 s4.c = true := blt_iff.2 (hM4.fresh.lt b2 k2 p2)
          generalize ys.getD r.length 0 = y at *
          have hxy : x * y ≤ 4294967295 * 4294967295 := Nat.mul_le_mul (by omega) (by omega)
          have w4 : wr .u64 (Int.ofNat x) = Int.ofNat x := wr_u64 (by omega)
          have w5 : wr .u64 (Int.ofNat y) = Int.ofNat y := wr_u64 (by omega)
          have w6 : wr .u64 (Int.ofNat x * Int.ofNat y) = Int.ofNat (x * y) := by
            rw [show Int.ofNat x * Int.ofNat y = Int.ofNat (x * y) from rfl]
            exact wr_u64 (by omega)
          have w7 : wr .u64 (Int.ofNat o) = Int.ofNat o := wr_u64 (by omega)
          have w8 : wr .u64 (Int.ofNat (x * y) + Int.ofNat o) = Int.ofNat (x * y + o) := wr_u64 (by omega)
          have w9 : wr .u64 (Int.ofNat c + Int.ofNat (x * y + o)) = Int.ofNat (c + o + x * y) := by
            rw [show Int.ofNat c + Int.ofNat (x * y + o) = Int.ofNat (c + o + x * y) by simp only [Int.ofNat_eq_natCast]; omega]
            exact wr_u64 (by omega)
          repeat (first | (refine CodeR.seq ?_) | (refine CodeR.reg rfl ?_) | (refine CodeR.regD rfl rfl rfl ?_) | (refine SeqR.done ?_) | (refine CodeR.block ?_) | (refine CodeR.skip ?_) | (refine CodeR.exit ?_; simp only [sA, Ex.then, Ex.inBlock, Nat.reduceEqDiff]) | (first | (refine SeqR.skipN ?_ rfl rfl ?_; (simp only [sA, wantE, T.get_set, Nat.reduceEqDiff, h1, h5, h6, h7, h8, h24, h26, p1, p2, p3, p4, hb3', hcell, e5, hin', w3, w4, w5, w6, w7, w8, w9] <;> with_reducible rfl)) | ((first | refine SeqR.stepN (v := ?_) (s' := ?_) rfl ?_ rfl ?_ rfl rfl ?_ | refine SeqR.stepLN (v := ?_) (s' := ?_) rfl ?_ rfl ?_ rfl rfl ?_); rotate_left 3; (intro call lc; simp only [sA, opE, kindOf, pureE, heapE, rho, rhos, T.get_set, Nat.reduceEqDiff, nb00, absV, absS, l_slice, l_void, l_str, l_arr, natE, loadE, isConst, TK.agg, u_notB, b_eqlB, b_neqB, b_add, b_sub, b_mul, b_lss, b_gtr, b_leq, b_geq, b_eql, b_neq, ty169, i169, si169, ty245, i245, si245, ty283, i283, si283, h1, h5, h6, h7, h8, h24, h26, p1, p2, p3, p4, hb3', hcell, e5, hin', w3, w4, w5, w6, w7, w8, w9] <;> rfl); rotate_left 1; (simp only [sA, wantE, T.get_set, Nat.reduceEqDiff, h1, h5, h6, h7, h8, h24, h26, p1, p2, p3, p4, hb3', hcell, e5, hin', w3, w4, w5, w6, w7, w8, w9] <;> with_reducible rfl))))
          generalize ht : c + o + x * y = t at *
          have w10 := wr_u32 t
          have htb : t / 4294967296 < 4294967296 := by omega
          repeat (first | (refine CodeR.seq ?_) | (refine CodeR.reg rfl ?_) | (refine CodeR.regD rfl rfl rfl ?_) | (refine SeqR.done ?_) | (refine CodeR.block ?_) | (refine CodeR.skip ?_) | (refine CodeR.exit ?_; simp only [sA, Ex.then, Ex.inBlock, Nat.reduceEqDiff]) | (first | (refine SeqR.skipN ?_ rfl rfl ?_; (simp only [sA, wantE, T.get_set, Nat.reduceEqDiff, h5, h6, h26, w3, w10, hin'] <;> with_reducible rfl)) | ((first | refine SeqR.stepN (v := ?_) (s' := ?_) rfl ?_ rfl ?_ rfl rfl ?_ | refine SeqR.stepLN (v := ?_) (s' := ?_) rfl ?_ rfl ?_ rfl rfl ?_); rotate_left 3; (intro call lc; simp only [sA, opE, kindOf, pureE, heapE, rho, rhos, T.get_set, Nat.reduceEqDiff, nb00, absV, absS, l_slice, l_void, l_str, l_arr, natE, loadE, isConst, TK.agg, u_notB, b_eqlB, b_neqB, b_add, b_sub, b_mul, b_lss, b_gtr, b_leq, b_geq, b_eql, b_neq, ty169, i169, si169, ty245, i245, si245, ty283, i283, si283, h5, h6, h26, w3, w10, hin'] <;> rfl); rotate_left 1; (simp only [sA, wantE, T.get_set, Nat.reduceEqDiff, h5, h6, h26, w3, w10, hin'] <;> with_reducible rfl))))
          refine SeqR.step0 rfl (fun call lc old => op_put (b := s.c) (o := i + r.length) (v := .int .u32 (Int.ofNat (t % 4294967296))) (by simp only [rho, T.get_set, Nat.reduceEqDiff, if_true, if_false]) (by simp only [rho, T.get_set, Nat.reduceEqDiff, if_true, if_false, w10]) rfl si245 hb3' (by rw [nats_length]; simp only [List.length_append, List.length_cons] at hrl ⊢; omega) hlo call lc old) rfl ?_
          have hM5 := hM4.put (i + r.length) (t % 4294967296)
          rw [show i + r.length = d.length + r.length by omega, set_at3] at hM5
          have w11 : wr .i64 (Int.ofNat r.length + 1) = Int.ofNat (r.length + 1) := wr_add (b := 1) (by omega)
          repeat (first | (refine CodeR.seq ?_) | (refine CodeR.reg rfl ?_) | (refine CodeR.regD rfl rfl rfl ?_) | (refine SeqR.done ?_) | (refine CodeR.block ?_) | (refine CodeR.skip ?_) | (refine CodeR.exit ?_; simp only [sA, Ex.then, Ex.inBlock, Nat.reduceEqDiff]) | (first | (refine SeqR.skipN ?_ rfl rfl ?_; (simp only [sA, wantE, T.get_set, Nat.reduceEqDiff, h26, b_shr32, w11] <;> with_reducible rfl)) | ((first | refine SeqR.stepN (v := ?_) (s' := ?_) rfl ?_ rfl ?_ rfl rfl ?_ | refine SeqR.stepLN (v := ?_) (s' := ?_) rfl ?_ rfl ?_ rfl rfl ?_); rotate_left 3; (intro call lc; simp only [sA, opE, kindOf, pureE, heapE, rho, rhos, T.get_set, Nat.reduceEqDiff, nb00, absV, absS, l_slice, l_void, l_str, l_arr, natE, loadE, isConst, TK.agg, u_notB, b_eqlB, b_neqB, b_add, b_sub, b_mul, b_lss, b_gtr, b_leq, b_geq, b_eql, b_neq, ty169, i169, si169, ty245, i245, si245, ty283, i283, si283, h26, b_shr32, w11] <;> rfl); rotate_left 1; (simp only [sA, wantE, T.get_set, Nat.reduceEqDiff, h26, b_shr32, w11] <;> with_reducible rfl))))
          refine ⟨q', by omega, t / 4294967296, r ++ [t % 4294967296], os, _, rfl, by simp only [List.length_append, List.length_singleton]; omega, ?_, ?_, hos.2, htb, by simp only [List.length_append, List.length_cons, List.length_nil] at hrl ⊢; omega, zer_tail hz4, ?_, ?_, ?_, ?_, ?_, ?_, ?_, ?_, ?_, ?_, ?_, ?_⟩
          · rw [List.append_assoc, List.singleton_append, show i + r.length = d.length + r.length by omega]; exact hM5
          · rw [List.append_assoc, List.singleton_append, List.length_append, List.length_singleton]; exact hrow
          simp only [T.get_set, Nat.reduceEqDiff, if_true, if_false, h0]
          simp only [T.get_set, Nat.reduceEqDiff, if_true, if_false, h1]
          simp only [T.get_set, Nat.reduceEqDiff, if_true, if_false, h5]
          simp only [T.get_set, Nat.reduceEqDiff, if_true, if_false, h6]
          simp only [T.get_set, Nat.reduceEqDiff, if_true, if_false, h7]
          simp only [T.get_set, Nat.reduceEqDiff, if_true, if_false]
          simp only [T.get_set, Nat.reduceEqDiff, if_true, if_false, h17]
          simp only [T.get_set, Nat.reduceEqDiff, if_true, if_false, h18]
          simp only [T.get_set, Nat.reduceEqDiff, if_true, if_false, h19]
          simp only [T.get_set, Nat.reduceEqDiff, if_true, if_false, h24]
          simp only [T.get_set, Nat.reduceEqDiff, if_true, if_false, h25]
          · simp only [T.get_set, Nat.reduceEqDiff, if_true, if_false, List.length_append, List.length_singleton]
        · intro hk
          have hk : ¬ r.length < ys.length := by simpa using hk
          have hq0 : q = 0 := by omega
          subst hq0
          have hry : r.length = ys.length := by omega
          have ho0 : o = 0 := by simpa using hz4 0 (by omega)
          subst ho0
          rw [List.drop_eq_nil_of_le (by omega), mulRow] at hrow
          simp only [List.headD_nil, Nat.mul_zero, Nat.add_zero, List.tail_nil, Nat.mod_eq_of_lt hc, Nat.div_eq_of_lt hc] at hrow
          rw [mulRow_same hos.2] at hrow
          have w10 := wr_u32 c
          rw [Nat.mod_eq_of_lt hc] at w10
          have w12 : wr .i64 (Int.ofNat i + Int.ofNat ys.length) = Int.ofNat (i + ys.length) := wr_add (by omega)
          rw [hry] at hin'
          repeat (first | (refine CodeR.seq ?_) | (refine CodeR.reg rfl ?_) | (refine CodeR.regD rfl rfl rfl ?_) | (refine SeqR.done ?_) | (refine CodeR.block ?_) | (refine CodeR.skip ?_) | (refine CodeR.exit ?_; simp only [sA, Ex.then, Ex.inBlock, Nat.reduceEqDiff]) | (first | (refine SeqR.skipN ?_ rfl rfl ?_; (simp only [sA, wantE, T.get_set, Nat.reduceEqDiff, h1, h5, h6, h8, lb4, w10, w12, hin'] <;> with_reducible rfl)) | ((first | refine SeqR.stepN (v := ?_) (s' := ?_) rfl ?_ rfl ?_ rfl rfl ?_ | refine SeqR.stepLN (v := ?_) (s' := ?_) rfl ?_ rfl ?_ rfl rfl ?_); rotate_left 3; (intro call lc; simp only [sA, opE, kindOf, pureE, heapE, rho, rhos, T.get_set, Nat.reduceEqDiff, nb00, absV, absS, l_slice, l_void, l_str, l_arr, natE, loadE, isConst, TK.agg, u_notB, b_eqlB, b_neqB, b_add, b_sub, b_mul, b_lss, b_gtr, b_leq, b_geq, b_eql, b_neq, ty169, i169, si169, ty245, i245, si245, ty283, i283, si283, h1, h5, h6, h8, lb4, w10, w12, hin'] <;> rfl); rotate_left 1; (simp only [sA, wantE, T.get_set, Nat.reduceEqDiff, h1, h5, h6, h8, lb4, w10, w12, hin'] <;> with_reducible rfl))))
          refine SeqR.step0 rfl (fun call lc old => op_put (b := s.c) (o := i + ys.length) (v := .int .u32 (Int.ofNat c)) (by simp only [rho, T.get_set, Nat.reduceEqDiff, if_true, if_false]) (by simp only [rho, T.get_set, Nat.reduceEqDiff, if_true, if_false]) rfl si245 hb3' (by rw [nats_length]; simp only [List.length_append, List.length_cons] at hrl ⊢; omega) hlo call lc old) rfl ?_
          have hM5 := hM4.put (i + ys.length) c
          rw [show i + ys.length = d.length + r.length by omega, set_at3] at hM5
          have w11 : wr .i64 (Int.ofNat i + 1) = Int.ofNat (i + 1) := wr_add (b := 1) (by omega)
          repeat (first | (refine CodeR.seq ?_) | (refine CodeR.reg rfl ?_) | (refine CodeR.regD rfl rfl rfl ?_) | (refine SeqR.done ?_) | (refine CodeR.block ?_) | (refine CodeR.skip ?_) | (refine CodeR.exit ?_; simp only [sA, Ex.then, Ex.inBlock, Nat.reduceEqDiff]) | (first | (refine SeqR.skipN ?_ rfl rfl ?_; (simp only [sA, wantE, T.get_set, Nat.reduceEqDiff, h19, w11] <;> with_reducible rfl)) | ((first | refine SeqR.stepN (v := ?_) (s' := ?_) rfl ?_ rfl ?_ rfl rfl ?_ | refine SeqR.stepLN (v := ?_) (s' := ?_) rfl ?_ rfl ?_ rfl rfl ?_); rotate_left 3; (intro call lc; simp only [sA, opE, kindOf, pureE, heapE, rho, rhos, T.get_set, Nat.reduceEqDiff, nb00, absV, absS, l_slice, l_void, l_str, l_arr, natE, loadE, isConst, TK.agg, u_notB, b_eqlB, b_neqB, b_add, b_sub, b_mul, b_lss, b_gtr, b_leq, b_geq, b_eql, b_neq, ty169, i169, si169, ty245, i245, si245, ty283, i283, si283, h19, w11] <;> rfl); rotate_left 1; (simp only [sA, wantE, T.get_set, Nat.reduceEqDiff, h19, w11] <;> with_reducible rfl))))
          cases hrow' : r ++ c :: os with
          | nil => simp at hrow'
          | cons o' os' =>
            rw [hrow'] at hrow hM5
            obtain ⟨k1, k2, k3, k4⟩ := go_fits (by omega) (by simp only [List.length_cons, List.length_drop]; omega) hfit hrow.symm
            refine ⟨k', by omega, i + 1, _, d ++ [o'], os', rfl, by omega, by simp [hd], ?_, ?_, (gs_cons k2).2, by omega, fun j hj => ?_, k3, ?_, ?_, ?_, ?_, ?_, ?_⟩
            · rw [List.append_assoc, List.singleton_append, show i + ys.length = d.length + r.length by omega]; exact hM5
            · rw [List.append_assoc, List.singleton_append]
              rw [mulGo, ← hrow] at hgo
              exact hgo
            · have e1 : os'.getD j 0 = (r ++ c :: os).getD (j + 1) 0 := by rw [hrow']; simp
              rw [e1, List.getD_eq_getElem?_getD, List.getElem?_append_right (by omega), show j + 1 - r.length = (j - r.length) + 1 by omega, List.getElem?_cons_succ, ← List.getD_eq_getElem?_getD]
              have := hz4 (j - r.length + 1) (by omega)
              simpa using this
            simp only [T.get_set, Nat.reduceEqDiff, if_true, if_false, h0]
            simp only [T.get_set, Nat.reduceEqDiff, if_true, if_false, h1]
            simp only [T.get_set, Nat.reduceEqDiff, if_true, if_false, h5]
            simp only [T.get_set, Nat.reduceEqDiff, if_true, if_false, h17]
            simp only [T.get_set, Nat.reduceEqDiff, if_true, if_false, h18]
            simp only [T.get_set, Nat.reduceEqDiff, if_true, if_false]
    · intro hge
      have hge' : i = xs.length := by have : ¬ i < xs.length := by simpa using hge
                                      omega
      subst hge'
      rw [List.drop_length, mulGo] at hgo
      rw [hgo] at hM
      obtain ⟨g1', g2', g3'⟩ := mulGo_spec (B := 4294967296) (by omega) (b := ys) xs (List.replicate L 0) (by simp; omega) (gs_rep (by omega) _) hfit0
      rw [hgoal] at g1' g2' g3'
      rw [gval_rep, Nat.zero_add] at g1'
      rw [List.length_replicate] at g3'
      have hr := row_own hM.b3 L (by rw [nats_length, g3'])
      repeat (first | (refine CodeR.seq ?_) | (refine CodeR.reg rfl ?_) | (refine CodeR.regD rfl rfl rfl ?_) | (refine SeqR.done ?_) | (refine CodeR.block ?_) | (refine CodeR.skip ?_) | (refine CodeR.exit ?_; simp only [sA, Ex.then, Ex.inBlock, Nat.reduceEqDiff]) | (first | (refine SeqR.skipN ?_ rfl rfl ?_; (simp only [sA, wantE, T.get_set, Nat.reduceEqDiff, h5] <;> with_reducible rfl)) | ((first | refine SeqR.stepN (v := ?_) (s' := ?_) rfl ?_ rfl ?_ rfl rfl ?_ | refine SeqR.stepLN (v := ?_) (s' := ?_) rfl ?_ rfl ?_ rfl rfl ?_); rotate_left 3; (intro call lc; simp only [sA, opE, kindOf, pureE, heapE, rho, rhos, T.get_set, Nat.reduceEqDiff, nb00, absV, absS, l_slice, l_void, l_str, l_arr, natE, loadE, isConst, TK.agg, u_notB, b_eqlB, b_neqB, b_add, b_sub, b_mul, b_lss, b_gtr, b_leq, b_geq, b_eql, b_neq, ty169, i169, si169, ty245, i245, si245, ty283, i283, si283, h5] <;> rfl); rotate_left 1; (simp only [sA, wantE, T.get_set, Nat.reduceEqDiff, h5] <;> with_reducible rfl))))
      refine SeqR.callN (by first | with_reducible rfl | (simp only [sA, wantE, T.get_set, Nat.reduceEqDiff, u_notB, b_eqlB, b_neqB, b_add, b_sub, b_mul, b_lss, b_gtr, b_leq, b_geq, b_eql, b_neq, ty169, i169, si169, ty245, i245, si245, ty283, i283, si283] <;> with_reducible rfl)) rfl rfl (g := 302) (vs := [.slice (some (s.c, 0)) L L 0]) (by simp only [calleeE, sA, rho, rhos, T.get_set, Nat.reduceEqDiff, u_notB, b_eqlB, b_neqB, b_add, b_sub, b_mul, b_lss, b_gtr, b_leq, b_geq, b_eql, b_neq, ty169, i169, si169, ty245, i245, si245, ty283, i283, si283]; rfl) (by first | rfl | assumption) rfl rfl (fun lc hlc => (ctrim_run hr hM.fresh (by omega)).mono fun v s' hq => ?_)
      obtain ⟨rfl, hv'⟩ := hq
      have := nv_trim hv' g2'
      rw [g1'] at this
      repeat (first | (refine CodeR.seq ?_) | (refine CodeR.reg rfl ?_) | (refine CodeR.regD rfl rfl rfl ?_) | (refine SeqR.done ?_) | (refine CodeR.block ?_) | (refine CodeR.skip ?_) | (refine CodeR.exit ?_; simp only [sA, Ex.then, Ex.inBlock, Nat.reduceEqDiff]) | (first | (refine SeqR.skipN ?_ rfl rfl ?_; (simp only [sA, wantE, T.get_set, Nat.reduceEqDiff] <;> with_reducible rfl)) | ((first | refine SeqR.stepN (v := ?_) (s' := ?_) rfl ?_ rfl ?_ rfl rfl ?_ | refine SeqR.stepLN (v := ?_) (s' := ?_) rfl ?_ rfl ?_ rfl rfl ?_); rotate_left 3; (intro call lc; simp only [sA, opE, kindOf, pureE, heapE, rho, rhos, T.get_set, Nat.reduceEqDiff, nb00, absV, absS, l_slice, l_void, l_str, l_arr, natE, loadE, isConst, TK.agg, u_notB, b_eqlB, b_neqB, b_add, b_sub, b_mul, b_lss, b_gtr, b_leq, b_geq, b_eql, b_neq, ty169, i169, si169, ty245, i245, si245, ty283, i283, si283] <;> rfl); rotate_left 1; (simp only [sA, wantE, T.get_set, Nat.reduceEqDiff] <;> with_reducible rfl))))
      refine CodeR.ret ⟨.inr rfl, [v], by (show ressE E _ _ [.tmp 4] = _; simp only [sA, ressE, resE, T.get_set, Nat.reduceEqDiff, u_notB, b_eqlB, b_neqB, b_add, b_sub, b_mul, b_lss, b_gtr, b_leq, b_geq, b_eql, b_neq, ty169, i169, si169, ty245, i245, si245, ty283, i283, si283]), ?_⟩
      exact ⟨hM.fresh, hM.kept, this⟩
end Go.Proofs.YtaocoplfdhcoaaaGreatDoor.EvA
set_option linter.unusedVariables false
set_option linter.unusedSimpArgs false
namespace Go.Proofs.YtaocoplfdhcoaaaGreatDoor.EvA
open Go Go.RowKit Go.Proofs.YtaocoplfdhcoaaaGreatDoor.Ev
theorem u_neg (k : IntKind) (n : Int) : unE .neg (.int k n) = some (.int k (wr k (0 - n))) := rfl
theorem nb10 : Nat.beq 1 0 = false := rfl
theorem nb20 : Nat.beq 2 0 = false := rfl
/-- A whole structure is stored into its box. -/
theorem op_setW {lo b t ty : Nat} {m : T AV} {s : St} {x y : Operand} {cs0 cs : List AV} (hx : rho m x = some (.ptr (some (b, 0)))) (hy : rho m y = some (.agg cs)) (hone : ones cs = true) (hsz : szE E t = some cs.length) (hg : s.h.get b = some ⟨ty, cs0⟩) (hl : cs0.length = cs.length) (hlo : lo ≤ b)
    (call : CallT') (lc old : Nat) : opE E call lc lo old m s (.store t x y) = some (.tuple [], ⟨s.h.set b ⟨ty, cs⟩, s.c⟩) := by
  rw [op_store (cs := cs) (z := cs.length) hx hy rfl rfl hone hsz hg (by simp only; omega) hlo, putL_whole hl]
theorem load_box {t b ty z : Nat} {s : St} {i : TI} {cs : List AV} (ht : E.tt.get t = some i) (hk : i.k.agg = true) (hz : i.size = cs.length) (hg : s.h.get b = some ⟨ty, cs⟩) : loadE E s t (.ptr (some (b, 0))) = some (.agg cs) := by
  simp only [loadE, ht, Option.bind_some, hk, cond_true, cellsAt, hg, hz, Nat.zero_add, ble_iff.2 (Nat.le_refl _), List.drop_zero, Option.map_some]
  rw [List.take_of_length_le (Nat.le_refl _)]
theorem op_loadW {lo b t ty old : Nat} {m : T AV} {s : St} {x : Operand} {i : TI} {cs : List AV} (hx : rho m x = some (.ptr (some (b, 0)))) (ht : E.tt.get t = some i) (hk : i.k.agg = true) (hz : i.size = cs.length) (hg : s.h.get b = some ⟨ty, cs⟩) (ho : Nat.blt b old = true)
    (call : CallT') (lc : Nat) : opE E call lc lo old m s (.load t x) = some (.agg cs, s) := by
  simp only [opE, hx, Option.bind_some, ho, cond_true, load_box (z := 0) ht hk hz hg, Option.map_some]
/-- A structure's block is none of a row of numbers. -/
theorem Row.other {h : T Blk} {cs : List AV} {v : AV} (hr : Row h 1 cs v) (hi : ∀ x ∈ cs, ∃ k n, x = .int k n) {b0 : Nat} {k0 k' : Blk} (hg : h.get b0 = some k0) (hk : ∀ x ∈ k0.cells, ∀ k n, x ≠ .int k n) : Row (h.set b0 k') 1 cs v := by
  unfold Row at hr ⊢
  split at hr
  · exact hr
  · rename_i b o n c q
    refine ⟨hr.1, hr.2.1, hr.2.2.1, fun hn => ?_⟩
    have h2 := hr.2.2.2 hn
    have hne : b0 ≠ b := fun e => by
      subst e
      unfold cellsAt at h2
      rw [hg, Option.bind_some] at h2
      cases hle : Nat.ble (o + n * 1) k0.cells.length with
      | false => rw [hle] at h2; cases h2
      | true =>
        rw [hle] at h2
        simp only [cond_true, Option.some.injEq] at h2
        have h3 := hr.1
        cases cs with
        | nil => simp at h3; omega
        | cons z zs =>
          obtain ⟨k, nn, rfl⟩ := hi z List.mem_cons_self
          have : AV.int k nn ∈ (k0.cells.drop o).take (n * 1) := by rw [h2]; exact List.mem_cons_self
          exact hk _ (List.mem_of_mem_drop (List.mem_of_mem_take this)) _ _ rfl
    unfold cellsAt at h2 ⊢
    rw [T.get_set, if_neg hne]
    exact h2
  · exact hr
  · exact hr.elim
theorem nats_ints (xs : List Nat) : ∀ x ∈ nats xs, ∃ k n, x = .int k n := fun x hx => by
  obtain ⟨n, _, rfl⟩ := List.mem_map.1 hx
  exact ⟨_, _, rfl⟩
theorem nv_other {h : T Blk} {n : Nat} {v : AV} (hv : NV h n v) {b0 : Nat} {k0 k' : Blk} (hg : h.get b0 = some k0) (hk : ∀ x ∈ k0.cells, ∀ k n, x ≠ .int k n) : NV (h.set b0 k') n v := by
  obtain ⟨xs, h1, h2⟩ := hv
  exact ⟨xs, Row.other h1 (nats_ints xs) hg hk, h2⟩
theorem nv_one {h : T Blk} {n : Nat} {v : AV} (hv : NV h n v) : v.one = true := by
  obtain ⟨xs, h1, _⟩ := hv
  exact Row.one h1
theorem pairNo {b : Bool} {d : AV} {h : T Blk} {n : Nat} (hv : NV h n d) {ty : Nat} : ∀ x ∈ (⟨ty, [.bool b, d]⟩ : Blk).cells, ∀ k n, x ≠ .int k n := by
  intro x hx k n e
  subst e
  obtain ⟨xs, h1, _⟩ := hv
  have hx' : AV.int k n ∈ [AV.bool b, d] := hx
  simp only [List.mem_cons, List.not_mem_nil, or_false, reduceCtorEq, false_or] at hx'
  rw [← hx'] at h1
  exact h1.elim
theorem zero171 : ∀ x ∈ (⟨171, [.bool false, .slice none 0 0 0]⟩ : Blk).cells, ∀ k n, x ≠ .int k n := by
  intro x hx k n e
  subst e
  have hx' : AV.int k n ∈ [AV.bool false, AV.slice none 0 0 0] := hx
  simp at hx'
theorem iv_zero (h : T Blk) : IV h 0 (.agg [.bool false, .slice none 0 0 0]) := ⟨_, rfl, [], ⟨rfl, rfl, rfl⟩, fun y hy => by simp at hy, fun k hk => by simp at hk, rfl⟩
theorem iv_cells {h : T Blk} {z : Int} {v : AV} (hv : IV h z v) : ∃ cs, v = .agg cs ∧ cs.length = 2 ∧ ones cs = true := by
  obtain ⟨d, rfl, hd⟩ := hv
  exact ⟨_, rfl, rfl, by simp only [ones, nv_one hd]; rfl⟩
end Go.Proofs.YtaocoplfdhcoaaaGreatDoor.EvA

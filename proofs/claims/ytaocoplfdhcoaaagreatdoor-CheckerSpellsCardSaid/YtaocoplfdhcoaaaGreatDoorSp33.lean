/- checker.column, dot, run. -/
import Derived.Test.YtaocoplfdhcoaaaGreatDoorSp30
import Derived.Test.YtaocoplfdhcoaaaGreatDoorSp32
set_option linter.unusedVariables false
set_option linter.unusedSimpArgs false
set_option maxRecDepth 20000
set_option maxHeartbeats 2000000
namespace Go.Proofs.YtaocoplfdhcoaaaGreatDoor.EvA
open Go Go.RowKit Go.Proofs.YtaocoplfdhcoaaaGreatDoor.Ev
theorem fn106' : E.fns.get 106 = some Tryz.f106 := by kernel_rfl
theorem fn105' : E.fns.get 105 = some Tryz.f105 := by kernel_rfl
theorem cells_box {h : T Blk} {b ty n : Nat} {cs : List AV} (hg : h.get b = some ⟨ty, cs⟩) (hn : cs.length = n) : cellsAt h b 0 n = some cs := by
  unfold cellsAt
  rw [hg, Option.bind_some]
  simp only [Nat.zero_add, List.drop_zero]
  rw [ble_iff.2 (by omega), cond_true, List.take_of_length_le (by omega)]
def colL (m : List (List Int)) (c : Nat) : List Int := m.map fun r => r.getD c 0
theorem ones_zints : ∀ xs : List Int, ones (zints xs) = true
  | [] => rfl
  | x :: xs => by
    show (true && ones (zints xs)) = true
    rw [ones_zints xs]
    rfl
theorem zints_append (xs : List Int) (x : Int) : zints xs ++ [.int .i64 x] = zints (xs ++ [x]) := by simp [zints]
theorem take_at {α : Type} {xs : List α} {i : Nat} (h : i < xs.length) (d : α) : xs.take (i + 1) = xs.take i ++ [xs.getD i d] := by
  rw [List.take_add_one, List.getD_eq_getElem?_getD, List.getElem?_eq_getElem h]; rfl
theorem column_run {lo c : Nat} {d : AV} {m : List (List Int)} {s : St} (hd : MZ s.h m d) (hF : Fresh s) (hlo : lo ≤ s.c) (hm : m.length ≤ 100000) (hc : ∀ i, i < m.length → c < (m.getD i []).length) :
    FunR E lo 106 [d, .int .i64 (Int.ofNat c)] s fun v s' => Fresh s' ∧ Kept s.c s s' ∧ RZ s'.h (colL m c) v := by
  refine FunR.body (fn := Tryz.f106) fn106' rfl ?_
  have hn : (max ([d, .int .i64 (Int.ofNat c)] : List AV).length Tryz.f106.ntmps) = 23 := rfl
  generalize max ([d, .int .i64 (Int.ofNat c)] : List AV).length Tryz.f106.ntmps = n at hn
  subst hn
  have g0 : (argsT 0 ([d, .int .i64 (Int.ofNat c)] : List AV)).get 0 = some (d) := rfl
  have g1 : (argsT 0 ([d, .int .i64 (Int.ofNat c)] : List AV)).get 1 = some (.int .i64 (Int.ofNat c)) := rfl
  generalize argsT 0 ([d, .int .i64 (Int.ofNat c)] : List AV) = T0 at g0 g1 ⊢
  have hn : (23 : Nat) = 23 := rfl
  have ld := hd.len 25
  repeat (first | (refine CodeR.seq ?_) | (refine CodeR.reg rfl ?_) | (refine CodeR.regD rfl rfl rfl ?_) | (refine SeqR.done ?_) | (refine CodeR.block ?_) | (refine CodeR.skip ?_) | (refine CodeR.exit ?_; simp only [sA, Ex.then, Ex.inBlock, Nat.reduceEqDiff]) | (first | (refine SeqR.skipN ?_ rfl rfl ?_; (simp only [sA, wantE, T.get_set, Nat.reduceEqDiff, g0, ld] <;> with_reducible rfl)) | ((first | refine SeqR.stepN (v := ?_) (s' := ?_) rfl ?_ rfl ?_ rfl rfl ?_ | refine SeqR.stepLN (v := ?_) (s' := ?_) rfl ?_ rfl ?_ rfl rfl ?_); rotate_left 3; (intro call lc; simp only [sA, opE, kindOf, pureE, heapE, rho, rhos, T.get_set, Nat.reduceEqDiff, nb00, absV, absS, l_slice, l_void, l_str, l_arr, natE, loadE, isConst, TK.agg, u_notB, b_eqlB, b_neqB, b_add, b_sub, b_mul, b_lss, b_gtr, b_leq, b_geq, b_eql, b_neq, ty3, i3, si3, ty22, i22, si22, ty24, i24, si24, ty25, i25, si25, g0, ld] <;> rfl); rotate_left 1; (simp only [sA, wantE, T.get_set, Nat.reduceEqDiff, g0, ld] <;> with_reducible rfl))))
  refine CodeR.loop (fun k mm s1 => Fresh s1 ∧ Kept s.c s s1 ∧ ∃ i T1 v, mm = ⟨23, T1⟩ ∧ i + k = m.length ∧ Gro s.c s1 3 1 (zints (colL (m.take i) c)) v ∧ T1.get 0 = some d ∧ T1.get 1 = some (.int .i64 (Int.ofNat c)) ∧ T1.get 5 = some v ∧ T1.get 8 = some d ∧ T1.get 9 = some (.int .i64 (Int.ofNat m.length)) ∧ T1.get 10 = some (.int .i64 (Int.ofNat i))) m.length ?_ ?_
  · refine ⟨hF, Kept.refl _ _, 0, _, _, rfl, by omega, Gro.nil _ _ _ _, ?_, ?_, ?_, ?_, ?_, ?_⟩
    simp only [T.get_set, Nat.reduceEqDiff, if_true, if_false, g0]
    simp only [T.get_set, Nat.reduceEqDiff, if_true, if_false, g1]
    simp only [T.get_set, Nat.reduceEqDiff, if_true, if_false]
    simp only [T.get_set, Nat.reduceEqDiff, if_true, if_false]
    simp only [T.get_set, Nat.reduceEqDiff, if_true, if_false]
    simp only [T.get_set, Nat.reduceEqDiff, if_true, if_false]
    · rfl
  · rintro k mm s1 ⟨hF1, hK1, i, T1, v, rfl, hik, hG, h0, h1, h5, h8, h9, h10⟩
    have m1 := hK1.mono
    have hd1 := hd.keep hF.lt hK1
    repeat (first | (refine CodeR.seq ?_) | (refine CodeR.reg rfl ?_) | (refine CodeR.regD rfl rfl rfl ?_) | (refine SeqR.done ?_) | (refine CodeR.block ?_) | (refine CodeR.skip ?_) | (refine CodeR.exit ?_; simp only [sA, Ex.then, Ex.inBlock, Nat.reduceEqDiff]) | (first | (refine SeqR.skipN ?_ rfl rfl ?_; (simp only [sA, wantE, T.get_set, Nat.reduceEqDiff, h9, h10, ltB_nat] <;> with_reducible rfl)) | ((first | refine SeqR.stepN (v := ?_) (s' := ?_) rfl ?_ rfl ?_ rfl rfl ?_ | refine SeqR.stepLN (v := ?_) (s' := ?_) rfl ?_ rfl ?_ rfl rfl ?_); rotate_left 3; (intro call lc; simp only [sA, opE, kindOf, pureE, heapE, rho, rhos, T.get_set, Nat.reduceEqDiff, nb00, absV, absS, l_slice, l_void, l_str, l_arr, natE, loadE, isConst, TK.agg, u_notB, b_eqlB, b_neqB, b_add, b_sub, b_mul, b_lss, b_gtr, b_leq, b_geq, b_eql, b_neq, ty3, i3, si3, ty22, i22, si22, ty24, i24, si24, ty25, i25, si25, h9, h10, ltB_nat] <;> rfl); rotate_left 1; (simp only [sA, wantE, T.get_set, Nat.reduceEqDiff, h9, h10, ltB_nat] <;> with_reducible rfl))))
    refine CodeR.cond (t := decide (i < m.length)) (by simp only [sA, rho, T.get_set, Nat.reduceEqDiff, u_notB, b_eqlB, b_neqB, b_add, b_sub, b_mul, b_lss, b_gtr, b_leq, b_geq, b_eql, b_neq, ty3, i3, si3, ty22, i22, si22, ty24, i24, si24, ty25, i25, si25]) ?_ ?_
    · intro hlt
      have hlt' : i < m.length := by simpa using hlt
      obtain ⟨b, o, n, cc, q, kk, r, rfl, f1, f2, f3, f4⟩ := hd1.row hlt'
      have f9 : Nat.blt b s1.c = true := blt_iff.2 (hF1.lt b kk f2)
      obtain ⟨b2, o2, n2, c2, q2, k2, rfl, p1, p2, p3⟩ := Row.zint f4 (hc i hlt')
      have p4 : Nat.blt b2 s1.c = true := blt_iff.2 (hF1.lt b2 k2 p2)
      repeat (first | (refine CodeR.seq ?_) | (refine CodeR.reg rfl ?_) | (refine CodeR.regD rfl rfl rfl ?_) | (refine SeqR.done ?_) | (refine CodeR.block ?_) | (refine CodeR.skip ?_) | (refine CodeR.exit ?_; simp only [sA, Ex.then, Ex.inBlock, Nat.reduceEqDiff]) | (first | (refine SeqR.skipN ?_ rfl rfl ?_; (simp only [sA, wantE, T.get_set, Nat.reduceEqDiff, h1, h5, h8, h10, f1, f2, f3, f9, p1, p2, p3, p4] <;> with_reducible rfl)) | ((first | refine SeqR.stepN (v := ?_) (s' := ?_) rfl ?_ rfl ?_ rfl rfl ?_ | refine SeqR.stepLN (v := ?_) (s' := ?_) rfl ?_ rfl ?_ rfl rfl ?_); rotate_left 3; (intro call lc; simp only [sA, opE, kindOf, pureE, heapE, rho, rhos, T.get_set, Nat.reduceEqDiff, nb00, absV, absS, l_slice, l_void, l_str, l_arr, natE, loadE, isConst, TK.agg, u_notB, b_eqlB, b_neqB, b_add, b_sub, b_mul, b_lss, b_gtr, b_leq, b_geq, b_eql, b_neq, ty3, i3, si3, ty22, i22, si22, ty24, i24, si24, ty25, i25, si25, h1, h5, h8, h10, f1, f2, f3, f9, p1, p2, p3, p4] <;> rfl); rotate_left 1; (simp only [sA, wantE, T.get_set, Nat.reduceEqDiff, h1, h5, h8, h10, f1, f2, f3, f9, p1, p2, p3, p4] <;> with_reducible rfl))))
      refine SeqR.step rfl rfl (fun call lc => op_buildS (v := .int .i64 ((m.getD i []).getD c 0)) (cs := [.int .i64 ((m.getD i []).getD c 0)]) ty24 rfl ty3 rfl (by decide) (by simp only [rho, T.get_set, Nat.reduceEqDiff, if_true, if_false]) rfl rfl rfl call lc _) rfl rfl ?_
      have hF2 := fresh_new hF1 ⟨3, [.int .i64 ((m.getD i []).getD c 0)]⟩
      have hK2 := kept_new hK1 m1 ⟨3, [.int .i64 ((m.getD i []).getD c 0)]⟩
      have hG2 := hG.keep hF1 (kept_new (Kept.refl s1.c s1) (Nat.le_refl _) ⟨3, [.int .i64 ((m.getD i []).getD c 0)]⟩)
      refine SeqR.app (c0 := s.c) (b := s1.c) (t := 24) (e := 3) (z := 1) (new := [.int .i64 ((m.getD i []).getD c 0)]) rfl rfl rfl rfl ty24 rfl ty3 rfl (by decide) (by simp only [rho, T.get_set, Nat.reduceEqDiff, if_true, if_false, h5]) (by simp only [rho, T.get_set, Nat.reduceEqDiff, if_true, if_false]) (by simp only [T.get_set, if_true]) rfl rfl hlo (by simp only; omega) hG2 hF2 (ones_zints _) (by simp only [zints_length, colL, List.length_map, List.length_take, i3]; omega) fun v' s3 q1 q2 q3 q4 => ?_
      have e5 : wr .i64 (Int.ofNat i + 1) = Int.ofNat (i + 1) := wr_add (b := 1) (by omega)
      repeat (first | (refine CodeR.seq ?_) | (refine CodeR.reg rfl ?_) | (refine CodeR.regD rfl rfl rfl ?_) | (refine SeqR.done ?_) | (refine CodeR.block ?_) | (refine CodeR.skip ?_) | (refine CodeR.exit ?_; simp only [sA, Ex.then, Ex.inBlock, Nat.reduceEqDiff]) | (first | (refine SeqR.skipN ?_ rfl rfl ?_; (simp only [sA, wantE, T.get_set, Nat.reduceEqDiff, h10, e5] <;> with_reducible rfl)) | ((first | refine SeqR.stepN (v := ?_) (s' := ?_) rfl ?_ rfl ?_ rfl rfl ?_ | refine SeqR.stepLN (v := ?_) (s' := ?_) rfl ?_ rfl ?_ rfl rfl ?_); rotate_left 3; (intro call lc; simp only [sA, opE, kindOf, pureE, heapE, rho, rhos, T.get_set, Nat.reduceEqDiff, nb00, absV, absS, l_slice, l_void, l_str, l_arr, natE, loadE, isConst, TK.agg, u_notB, b_eqlB, b_neqB, b_add, b_sub, b_mul, b_lss, b_gtr, b_leq, b_geq, b_eql, b_neq, ty3, i3, si3, ty22, i22, si22, ty24, i24, si24, ty25, i25, si25, h10, e5] <;> rfl); rotate_left 1; (simp only [sA, wantE, T.get_set, Nat.reduceEqDiff, h10, e5] <;> with_reducible rfl))))
      refine ⟨k - 1, by omega, q2, hK2.trans q3, i + 1, _, v', rfl, by omega, .inl ?_, ?_, ?_, ?_, ?_, ?_, ?_⟩
      · rw [zints_append] at q1
        rw [take_at hlt' [], colL, List.map_append]
        exact q1
      simp only [T.get_set, Nat.reduceEqDiff, if_true, if_false, h0]
      simp only [T.get_set, Nat.reduceEqDiff, if_true, if_false, h1]
      simp only [T.get_set, Nat.reduceEqDiff, if_true, if_false]
      simp only [T.get_set, Nat.reduceEqDiff, if_true, if_false, h8]
      simp only [T.get_set, Nat.reduceEqDiff, if_true, if_false, h9]
      simp only [T.get_set, Nat.reduceEqDiff, if_true, if_false]
    · intro hge
      have hge' : ¬ i < m.length := by simpa using hge
      rw [List.take_of_length_le (by omega)] at hG
      repeat (first | (refine CodeR.seq ?_) | (refine CodeR.reg rfl ?_) | (refine CodeR.regD rfl rfl rfl ?_) | (refine SeqR.done ?_) | (refine CodeR.block ?_) | (refine CodeR.skip ?_) | (refine CodeR.exit ?_; simp only [sA, Ex.then, Ex.inBlock, Nat.reduceEqDiff]) | (first | (refine SeqR.skipN ?_ rfl rfl ?_; (simp only [sA, wantE, T.get_set, Nat.reduceEqDiff, h5] <;> with_reducible rfl)) | ((first | refine SeqR.stepN (v := ?_) (s' := ?_) rfl ?_ rfl ?_ rfl rfl ?_ | refine SeqR.stepLN (v := ?_) (s' := ?_) rfl ?_ rfl ?_ rfl rfl ?_); rotate_left 3; (intro call lc; simp only [sA, opE, kindOf, pureE, heapE, rho, rhos, T.get_set, Nat.reduceEqDiff, nb00, absV, absS, l_slice, l_void, l_str, l_arr, natE, loadE, isConst, TK.agg, u_notB, b_eqlB, b_neqB, b_add, b_sub, b_mul, b_lss, b_gtr, b_leq, b_geq, b_eql, b_neq, ty3, i3, si3, ty22, i22, si22, ty24, i24, si24, ty25, i25, si25, h5] <;> rfl); rotate_left 1; (simp only [sA, wantE, T.get_set, Nat.reduceEqDiff, h5] <;> with_reducible rfl))))
      refine CodeR.ret ⟨.inr rfl, [v], by (show ressE E _ _ [.tmp 4] = _; simp only [sA, ressE, resE, T.get_set, Nat.reduceEqDiff, u_notB, b_eqlB, b_neqB, b_add, b_sub, b_mul, b_lss, b_gtr, b_leq, b_geq, b_eql, b_neq, ty3, i3, si3, ty22, i22, si22, ty24, i24, si24, ty25, i25, si25]), ?_⟩
      exact ⟨hF1, hK1, hG.row⟩
/-- The sum of the first n products. -/
def dotN (a b : List Int) (n : Nat) : Int := sumN (fun i => a.getD i 0 * b.getD i 0) n
theorem near_i64 {z : Int} (h : Near z) : -9223372036854775808 < z ∧ z < 9223372036854775808 := by unfold Near at h; omega
theorem near_w {z : Int} (h : Near z) : z.natAbs < 4294967296 ^ 10 := by unfold Near at h; omega
theorem dotN_w {a b : List Int} (ha : NearR a) (hb : NearR b) {n : Nat} (h1 : n ≤ a.length) (h2 : n ≤ b.length) (hn : n ≤ 1000) : (dotN a b n).natAbs < 4294967296 ^ 10 := by
  have := sumN_bound (f := fun i => a.getD i 0 * b.getD i 0) (B := 1000000000000000000) n fun i hi => near_mul (ha i (by omega)) (hb i (by omega))
  unfold dotN
  omega
theorem dot_run {lo : Nat} {va vb : AV} {a b : List Int} {s : St} (ha : RZ s.h a va) (hb : RZ s.h b vb) (hF : Fresh s) (hlo : lo ≤ s.c) (hl : a.length ≤ b.length) (hl2 : a.length ≤ 1000) (na : NearR a) (nb : NearR b) :
    FunR E lo 105 [va, vb] s fun v s' => Fresh s' ∧ Kept s.c s s' ∧ IV s'.h (dotN a b a.length) v := by
  refine FunR.body (fn := Tryz.f105) fn105' rfl ?_
  have hn : (max ([va, vb] : List AV).length Tryz.f105.ntmps) = 27 := rfl
  generalize max ([va, vb] : List AV).length Tryz.f105.ntmps = n at hn
  subst hn
  have g0 : (argsT 0 ([va, vb] : List AV)).get 0 = some (va) := rfl
  have g1 : (argsT 0 ([va, vb] : List AV)).get 1 = some (vb) := rfl
  generalize argsT 0 ([va, vb] : List AV) = T0 at g0 g1 ⊢
  have hn : (27 : Nat) = 27 := rfl
  have la := lenR ha 3
  refine CodeR.seq (CodeR.reg rfl ?_)
  refine SeqR.stepN rfl rfl rfl (fun call lc => op_alloc (cs := [.bool false, .slice none 0 0 0]) ty171 rfl rfl call lc _) rfl rfl ?_
  refine SeqR.done ?_
  refine CodeR.seq (CodeR.reg rfl ?_)
  refine SeqR.stepN rfl rfl rfl (fun call lc => op_alloc (cs := [.bool false, .slice none 0 0 0]) ty171 rfl rfl call lc _) rfl rfl ?_
  have hF1 := fresh_new (fresh_new hF ⟨171, [.bool false, .slice none 0 0 0]⟩) ⟨171, [.bool false, .slice none 0 0 0]⟩
  have hK1 : Kept s.c s _ := kept_new (kept_new (Kept.refl s.c s) (Nat.le_refl _) ⟨171, [.bool false, .slice none 0 0 0]⟩) (by simp) ⟨171, [.bool false, .slice none 0 0 0]⟩
  simp only at hF1 hK1 ⊢
  have hb0 : ((s.h.set s.c (⟨171, [.bool false, .slice none 0 0 0]⟩ : Blk)).set (s.c + 1) ⟨171, [.bool false, .slice none 0 0 0]⟩).get s.c = some ⟨171, [.bool false, .slice none 0 0 0]⟩ := by rw [T.get_set, if_neg (by omega), T.get_set, if_pos rfl]
  have hb1 : ((s.h.set s.c (⟨171, [.bool false, .slice none 0 0 0]⟩ : Blk)).set (s.c + 1) ⟨171, [.bool false, .slice none 0 0 0]⟩).get (s.c + 1) = some ⟨171, [.bool false, .slice none 0 0 0]⟩ := by rw [T.get_set, if_pos rfl]
  generalize hs1 : (⟨(s.h.set s.c ⟨171, [.bool false, .slice none 0 0 0]⟩).set (s.c + 1) ⟨171, [.bool false, .slice none 0 0 0]⟩, s.c + 1 + 1⟩ : St) = s1 at hF1 hK1 ⊢
  have hb0' : s1.h.get s.c = some ⟨171, [.bool false, .slice none 0 0 0]⟩ := by rw [← hs1]; exact hb0
  have hb1' : s1.h.get (s.c + 1) = some ⟨171, [.bool false, .slice none 0 0 0]⟩ := by rw [← hs1]; exact hb1
  have hc1 : s1.c = s.c + 2 := by rw [← hs1]
  clear hb0 hb1 hs1
  repeat (first | (refine CodeR.seq ?_) | (refine CodeR.reg rfl ?_) | (refine CodeR.regD rfl rfl rfl ?_) | (refine SeqR.done ?_) | (refine CodeR.block ?_) | (refine CodeR.skip ?_) | (refine CodeR.exit ?_; simp only [sA, Ex.then, Ex.inBlock, Nat.reduceEqDiff]) | (first | (refine SeqR.skipN ?_ rfl rfl ?_; (simp only [sA, wantE, T.get_set, Nat.reduceEqDiff, g0, la] <;> with_reducible rfl)) | ((first | refine SeqR.stepN (v := ?_) (s' := ?_) rfl ?_ rfl ?_ rfl rfl ?_ | refine SeqR.stepLN (v := ?_) (s' := ?_) rfl ?_ rfl ?_ rfl rfl ?_); rotate_left 3; (intro call lc; simp only [sA, opE, kindOf, pureE, heapE, rho, rhos, T.get_set, Nat.reduceEqDiff, nb00, absV, absS, l_slice, l_void, l_str, l_arr, natE, loadE, isConst, TK.agg, u_notB, b_eqlB, b_neqB, b_add, b_sub, b_mul, b_lss, b_gtr, b_leq, b_geq, b_eql, b_neq, ty3, i3, si3, ty4, i4, si4, ty24, i24, si24, ty169, i169, si169, ty171, i171, si171, ty245, i245, si245, g0, la] <;> rfl); rotate_left 1; (simp only [sA, wantE, T.get_set, Nat.reduceEqDiff, g0, la] <;> with_reducible rfl))))
  refine CodeR.loop (fun k mm s1 => Fresh s1 ∧ Kept s.c s s1 ∧ s.c + 2 ≤ s1.c ∧ ∃ i T1 cs, mm = ⟨27, T1⟩ ∧ i + k = a.length ∧ s1.h.get s.c = some ⟨171, [.bool false, .slice none 0 0 0]⟩ ∧ s1.h.get (s.c + 1) = some ⟨171, cs⟩ ∧ IV s1.h (dotN a b i) (.agg cs) ∧ T1.get 0 = some va ∧ T1.get 1 = some vb ∧ T1.get 4 = some (.ptr (some (s.c, 0))) ∧ T1.get 5 = some (.ptr (some (s.c + 1, 0))) ∧ T1.get 8 = some va ∧ T1.get 9 = some (.int .i64 (Int.ofNat a.length)) ∧ T1.get 10 = some (.int .i64 (Int.ofNat i))) a.length ?_ ?_
  · refine ⟨hF1, hK1, by omega, 0, _, _, rfl, by omega, hb0', hb1', iv_zero _, ?_, ?_, ?_, ?_, ?_, ?_, ?_⟩
    simp only [T.get_set, Nat.reduceEqDiff, if_true, if_false, g0]
    simp only [T.get_set, Nat.reduceEqDiff, if_true, if_false, g1]
    simp only [T.get_set, Nat.reduceEqDiff, if_true, if_false]
    simp only [T.get_set, Nat.reduceEqDiff, if_true, if_false]
    simp only [T.get_set, Nat.reduceEqDiff, if_true, if_false]
    simp only [T.get_set, Nat.reduceEqDiff, if_true, if_false]
    simp only [T.get_set, Nat.reduceEqDiff, if_true, if_false]
    · rfl
  · rintro k mm s2 ⟨hF2, hK2, hc2, i, T1, cs, rfl, hik, hb0, hb1, hI, h0, h1, h4, h5, h8, h9, h10⟩
    have ha2 := RZ.keep ha hF.lt hK2
    have hb2 := RZ.keep hb hF.lt hK2
    obtain ⟨ds, hds, hl3, ho3⟩ := iv_cells hI
    cases hds
    have hcell := cells_box hb1 hl3
    have e2 : Nat.blt (s.c + 1) s2.c = true := blt_iff.2 (by omega)
    repeat (first | (refine CodeR.seq ?_) | (refine CodeR.reg rfl ?_) | (refine CodeR.regD rfl rfl rfl ?_) | (refine SeqR.done ?_) | (refine CodeR.block ?_) | (refine CodeR.skip ?_) | (refine CodeR.exit ?_; simp only [sA, Ex.then, Ex.inBlock, Nat.reduceEqDiff]) | (first | (refine SeqR.skipN ?_ rfl rfl ?_; (simp only [sA, wantE, T.get_set, Nat.reduceEqDiff, h9, h10, ltB_nat] <;> with_reducible rfl)) | ((first | refine SeqR.stepN (v := ?_) (s' := ?_) rfl ?_ rfl ?_ rfl rfl ?_ | refine SeqR.stepLN (v := ?_) (s' := ?_) rfl ?_ rfl ?_ rfl rfl ?_); rotate_left 3; (intro call lc; simp only [sA, opE, kindOf, pureE, heapE, rho, rhos, T.get_set, Nat.reduceEqDiff, nb00, absV, absS, l_slice, l_void, l_str, l_arr, natE, loadE, isConst, TK.agg, u_notB, b_eqlB, b_neqB, b_add, b_sub, b_mul, b_lss, b_gtr, b_leq, b_geq, b_eql, b_neq, ty3, i3, si3, ty4, i4, si4, ty24, i24, si24, ty169, i169, si169, ty171, i171, si171, ty245, i245, si245, h9, h10, ltB_nat] <;> rfl); rotate_left 1; (simp only [sA, wantE, T.get_set, Nat.reduceEqDiff, h9, h10, ltB_nat] <;> with_reducible rfl))))
    refine CodeR.cond (t := decide (i < a.length)) (by simp only [sA, rho, T.get_set, Nat.reduceEqDiff, u_notB, b_eqlB, b_neqB, b_add, b_sub, b_mul, b_lss, b_gtr, b_leq, b_geq, b_eql, b_neq, ty3, i3, si3, ty4, i4, si4, ty24, i24, si24, ty169, i169, si169, ty171, i171, si171, ty245, i245, si245]) ?_ ?_
    · intro hlt
      have hlt' : i < a.length := by simpa using hlt
      obtain ⟨b1, o1, n1, c1, q1, k1, rfl, f1, f2, f3⟩ := Row.zint ha2 hlt'
      have f4 : Nat.blt b1 s2.c = true := blt_iff.2 (hF2.lt b1 k1 f2)
      repeat (first | (refine CodeR.seq ?_) | (refine CodeR.reg rfl ?_) | (refine CodeR.regD rfl rfl rfl ?_) | (refine SeqR.done ?_) | (refine CodeR.block ?_) | (refine CodeR.skip ?_) | (refine CodeR.exit ?_; simp only [sA, Ex.then, Ex.inBlock, Nat.reduceEqDiff]) | (first | (refine SeqR.skipN ?_ rfl rfl ?_; (simp only [sA, wantE, T.get_set, Nat.reduceEqDiff, h5, h8, h10, f1, f2, f3, f4, e2, hcell] <;> with_reducible rfl)) | ((first | refine SeqR.stepN (v := ?_) (s' := ?_) rfl ?_ rfl ?_ rfl rfl ?_ | refine SeqR.stepLN (v := ?_) (s' := ?_) rfl ?_ rfl ?_ rfl rfl ?_); rotate_left 3; (intro call lc; simp only [sA, opE, kindOf, pureE, heapE, rho, rhos, T.get_set, Nat.reduceEqDiff, nb00, absV, absS, l_slice, l_void, l_str, l_arr, natE, loadE, isConst, TK.agg, u_notB, b_eqlB, b_neqB, b_add, b_sub, b_mul, b_lss, b_gtr, b_leq, b_geq, b_eql, b_neq, ty3, i3, si3, ty4, i4, si4, ty24, i24, si24, ty169, i169, si169, ty171, i171, si171, ty245, i245, si245, h5, h8, h10, f1, f2, f3, f4, e2, hcell] <;> rfl); rotate_left 1; (simp only [sA, wantE, T.get_set, Nat.reduceEqDiff, h5, h8, h10, f1, f2, f3, f4, e2, hcell] <;> with_reducible rfl))))
      have nai := na i hlt'
      have nbi := nb i (by omega)
      refine SeqR.callN (by first | with_reducible rfl | (simp only [sA, wantE, T.get_set, Nat.reduceEqDiff, u_notB, b_eqlB, b_neqB, b_add, b_sub, b_mul, b_lss, b_gtr, b_leq, b_geq, b_eql, b_neq, ty3, i3, si3, ty4, i4, si4, ty24, i24, si24, ty169, i169, si169, ty171, i171, si171, ty245, i245, si245] <;> with_reducible rfl)) rfl rfl (g := 108) (vs := [.int .i64 (a.getD i 0)]) (by simp only [calleeE, sA, rho, rhos, T.get_set, Nat.reduceEqDiff, u_notB, b_eqlB, b_neqB, b_add, b_sub, b_mul, b_lss, b_gtr, b_leq, b_geq, b_eql, b_neq, ty3, i3, si3, ty4, i4, si4, ty24, i24, si24, ty169, i169, si169, ty171, i171, si171, ty245, i245, si245]; rfl) (by first | rfl | assumption) rfl rfl (fun lc hlc => (number_run (near_i64 nai).1 (near_i64 nai).2 hF2 (lim_lo hlc (by omega))).mono fun v3 s3 hp => ?_)
      obtain ⟨p1, p2, p3⟩ := hp
      have m3 := p2.mono
      have hb3 := RZ.keep hb2 hF2.lt p2
      obtain ⟨b4, o4, n4, c4, q4, k4, rfl, f5, f6, f7⟩ := Row.zint hb3 (i := i) (by omega)
      have f8 : Nat.blt b4 s2.c = true := by
        obtain ⟨b5, o5, n5, c5, q5, k5, hv5, _, f10, _⟩ := Row.zint hb2 (i := i) (by omega)
        cases hv5
        exact blt_iff.2 (hF2.lt b4 k5 f10)
      have f9 : Nat.blt b4 s3.c = true := by rw [blt_iff] at f8 ⊢; omega
      repeat (first | (refine CodeR.seq ?_) | (refine CodeR.reg rfl ?_) | (refine CodeR.regD rfl rfl rfl ?_) | (refine SeqR.done ?_) | (refine CodeR.block ?_) | (refine CodeR.skip ?_) | (refine CodeR.exit ?_; simp only [sA, Ex.then, Ex.inBlock, Nat.reduceEqDiff]) | (first | (refine SeqR.skipN ?_ rfl rfl ?_; (simp only [sA, wantE, T.get_set, Nat.reduceEqDiff, h1, h10, f5, f6, f7, f8, f9] <;> with_reducible rfl)) | ((first | refine SeqR.stepN (v := ?_) (s' := ?_) rfl ?_ rfl ?_ rfl rfl ?_ | refine SeqR.stepLN (v := ?_) (s' := ?_) rfl ?_ rfl ?_ rfl rfl ?_); rotate_left 3; (intro call lc; simp only [sA, opE, kindOf, pureE, heapE, rho, rhos, T.get_set, Nat.reduceEqDiff, nb00, absV, absS, l_slice, l_void, l_str, l_arr, natE, loadE, isConst, TK.agg, u_notB, b_eqlB, b_neqB, b_add, b_sub, b_mul, b_lss, b_gtr, b_leq, b_geq, b_eql, b_neq, ty3, i3, si3, ty4, i4, si4, ty24, i24, si24, ty169, i169, si169, ty171, i171, si171, ty245, i245, si245, h1, h10, f5, f6, f7, f8, f9] <;> rfl); rotate_left 1; (simp only [sA, wantE, T.get_set, Nat.reduceEqDiff, h1, h10, f5, f6, f7, f8, f9] <;> with_reducible rfl))))
      refine SeqR.callN (by first | with_reducible rfl | (simp only [sA, wantE, T.get_set, Nat.reduceEqDiff, u_notB, b_eqlB, b_neqB, b_add, b_sub, b_mul, b_lss, b_gtr, b_leq, b_geq, b_eql, b_neq, ty3, i3, si3, ty4, i4, si4, ty24, i24, si24, ty169, i169, si169, ty171, i171, si171, ty245, i245, si245] <;> with_reducible rfl)) rfl rfl (g := 108) (vs := [.int .i64 (b.getD i 0)]) (by simp only [calleeE, sA, rho, rhos, T.get_set, Nat.reduceEqDiff, u_notB, b_eqlB, b_neqB, b_add, b_sub, b_mul, b_lss, b_gtr, b_leq, b_geq, b_eql, b_neq, ty3, i3, si3, ty4, i4, si4, ty24, i24, si24, ty169, i169, si169, ty171, i171, si171, ty245, i245, si245]; rfl) (by first | rfl | assumption) rfl rfl (fun lc hlc => (number_run (near_i64 nbi).1 (near_i64 nbi).2 p1 (lim_lo hlc (by omega))).mono fun v4 s4 hp => ?_)
      obtain ⟨r1, r2, r3⟩ := hp
      have m4 := r2.mono
      refine SeqR.callN (by first | with_reducible rfl | (simp only [sA, wantE, T.get_set, Nat.reduceEqDiff, u_notB, b_eqlB, b_neqB, b_add, b_sub, b_mul, b_lss, b_gtr, b_leq, b_geq, b_eql, b_neq, ty3, i3, si3, ty4, i4, si4, ty24, i24, si24, ty169, i169, si169, ty171, i171, si171, ty245, i245, si245] <;> with_reducible rfl)) rfl rfl (g := 116) (vs := [v3, v4]) (by simp only [calleeE, sA, rho, rhos, T.get_set, Nat.reduceEqDiff, u_notB, b_eqlB, b_neqB, b_add, b_sub, b_mul, b_lss, b_gtr, b_leq, b_geq, b_eql, b_neq, ty3, i3, si3, ty4, i4, si4, ty24, i24, si24, ty169, i169, si169, ty171, i171, si171, ty245, i245, si245]; rfl) (by first | rfl | assumption) rfl rfl (fun lc hlc => (times_run (p3.keep p1.lt r2) r3 r1 (lim_lo hlc (by omega)) (n := 10) (by omega) (near_w nai) (near_w nbi)).mono fun v5 s5 hp => ?_)
      obtain ⟨t1, t2, t3⟩ := hp
      have m5 := t2.mono
      have hI5 := ((hI.keep hF2.lt p2).keep p1.lt r2).keep r1.lt t2
      have hmul : (a.getD i 0 * b.getD i 0).natAbs < 4294967296 ^ 10 := by have := near_mul nai nbi; omega
      refine SeqR.callN (by first | with_reducible rfl | (simp only [sA, wantE, T.get_set, Nat.reduceEqDiff, u_notB, b_eqlB, b_neqB, b_add, b_sub, b_mul, b_lss, b_gtr, b_leq, b_geq, b_eql, b_neq, ty3, i3, si3, ty4, i4, si4, ty24, i24, si24, ty169, i169, si169, ty171, i171, si171, ty245, i245, si245] <;> with_reducible rfl)) rfl rfl (g := 115) (vs := [.agg cs, v5]) (by simp only [calleeE, sA, rho, rhos, T.get_set, Nat.reduceEqDiff, u_notB, b_eqlB, b_neqB, b_add, b_sub, b_mul, b_lss, b_gtr, b_leq, b_geq, b_eql, b_neq, ty3, i3, si3, ty4, i4, si4, ty24, i24, si24, ty169, i169, si169, ty171, i171, si171, ty245, i245, si245]; rfl) (by first | rfl | assumption) rfl rfl (fun lc hlc => (add_run hI5 t3 t1 (lim_lo hlc (by omega)) (n := 10) (by omega) (dotN_w na nb (by omega) (by omega) (by omega)) hmul).mono fun v6 s6 hp => ?_)
      obtain ⟨u1, u2, u3⟩ := hp
      have m6 := u2.mono
      have kk : ∀ b', b' < s2.c → s6.h.get b' = s2.h.get b' := fun b' hb' => by rw [u2.keep _ (by omega), t2.keep _ (by omega), r2.keep _ (by omega), p2.keep _ (by omega)]
      obtain ⟨d6, rfl, hd6⟩ := u3
      refine SeqR.step0 rfl (fun call lc old => op_setW (b := s.c + 1) (cs0 := cs) (cs := [.bool (decide (dotN a b i + a.getD i 0 * b.getD i 0 < 0)), d6]) (by simp only [rho, T.get_set, Nat.reduceEqDiff, if_true, if_false, h5]) (by simp only [rho, T.get_set, Nat.reduceEqDiff, if_true, if_false]) (ones_pair hd6) si171 (by rw [kk _ (by omega)]; exact hb1) hl3 (by omega) call lc old) rfl ?_
      have e5 : wr .i64 (Int.ofNat i + 1) = Int.ofNat (i + 1) := wr_add (b := 1) (by omega)
      have hno : ∀ x ∈ (⟨171, cs⟩ : Blk).cells, ∀ k n, x ≠ .int k n := by
        obtain ⟨d0, hd0, hdn⟩ := hI
        cases hd0
        exact pairNo hdn
      repeat (first | (refine CodeR.seq ?_) | (refine CodeR.reg rfl ?_) | (refine CodeR.regD rfl rfl rfl ?_) | (refine SeqR.done ?_) | (refine CodeR.block ?_) | (refine CodeR.skip ?_) | (refine CodeR.exit ?_; simp only [sA, Ex.then, Ex.inBlock, Nat.reduceEqDiff]) | (first | (refine SeqR.skipN ?_ rfl rfl ?_; (simp only [sA, wantE, T.get_set, Nat.reduceEqDiff, h10, e5] <;> with_reducible rfl)) | ((first | refine SeqR.stepN (v := ?_) (s' := ?_) rfl ?_ rfl ?_ rfl rfl ?_ | refine SeqR.stepLN (v := ?_) (s' := ?_) rfl ?_ rfl ?_ rfl rfl ?_); rotate_left 3; (intro call lc; simp only [sA, opE, kindOf, pureE, heapE, rho, rhos, T.get_set, Nat.reduceEqDiff, nb00, absV, absS, l_slice, l_void, l_str, l_arr, natE, loadE, isConst, TK.agg, u_notB, b_eqlB, b_neqB, b_add, b_sub, b_mul, b_lss, b_gtr, b_leq, b_geq, b_eql, b_neq, ty3, i3, si3, ty4, i4, si4, ty24, i24, si24, ty169, i169, si169, ty171, i171, si171, ty245, i245, si245, h10, e5] <;> rfl); rotate_left 1; (simp only [sA, wantE, T.get_set, Nat.reduceEqDiff, h10, e5] <;> with_reducible rfl))))
      refine ⟨k - 1, by omega, fresh_set u1 (by omega), kept_set ((((hK2.trans (p2.le (by omega))).trans (r2.le (by omega))).trans (t2.le (by omega))).trans (u2.le (by omega))) (by omega), by simp only; omega, i + 1, _, [.bool (decide (dotN a b i + a.getD i 0 * b.getD i 0 < 0)), d6], rfl, by omega, ?_, ?_, ?_, ?_, ?_, ?_, ?_, ?_, ?_, ?_⟩
      · simp only; rw [T.get_set, if_neg (by omega), kk _ (by omega)]; exact hb0
      · simp only; rw [T.get_set, if_pos rfl]
      · refine ⟨d6, rfl, nv_other hd6 (k0 := ⟨171, cs⟩) (by rw [kk _ (by omega)]; exact hb1) hno⟩
      simp only [T.get_set, Nat.reduceEqDiff, if_true, if_false, h0]
      simp only [T.get_set, Nat.reduceEqDiff, if_true, if_false, h1]
      simp only [T.get_set, Nat.reduceEqDiff, if_true, if_false, h4]
      simp only [T.get_set, Nat.reduceEqDiff, if_true, if_false, h5]
      simp only [T.get_set, Nat.reduceEqDiff, if_true, if_false, h8]
      simp only [T.get_set, Nat.reduceEqDiff, if_true, if_false, h9]
      simp only [T.get_set, Nat.reduceEqDiff, if_true, if_false]
    · intro hge
      have hge' : i = a.length := by have : ¬ i < a.length := by simpa using hge
                                     omega
      subst hge'
      obtain ⟨d0, hd0, hdn⟩ := hI
      cases hd0
      repeat (first | (refine CodeR.seq ?_) | (refine CodeR.reg rfl ?_) | (refine CodeR.regD rfl rfl rfl ?_) | (refine SeqR.done ?_) | (refine CodeR.block ?_) | (refine CodeR.skip ?_) | (refine CodeR.exit ?_; simp only [sA, Ex.then, Ex.inBlock, Nat.reduceEqDiff]) | (first | (refine SeqR.skipN ?_ rfl rfl ?_; (simp only [sA, wantE, T.get_set, Nat.reduceEqDiff, h5, e2, hcell] <;> with_reducible rfl)) | ((first | refine SeqR.stepN (v := ?_) (s' := ?_) rfl ?_ rfl ?_ rfl rfl ?_ | refine SeqR.stepLN (v := ?_) (s' := ?_) rfl ?_ rfl ?_ rfl rfl ?_); rotate_left 3; (intro call lc; simp only [sA, opE, kindOf, pureE, heapE, rho, rhos, T.get_set, Nat.reduceEqDiff, nb00, absV, absS, l_slice, l_void, l_str, l_arr, natE, loadE, isConst, TK.agg, u_notB, b_eqlB, b_neqB, b_add, b_sub, b_mul, b_lss, b_gtr, b_leq, b_geq, b_eql, b_neq, ty3, i3, si3, ty4, i4, si4, ty24, i24, si24, ty169, i169, si169, ty171, i171, si171, ty245, i245, si245, h5, e2, hcell] <;> rfl); rotate_left 1; (simp only [sA, wantE, T.get_set, Nat.reduceEqDiff, h5, e2, hcell] <;> with_reducible rfl))))
      refine SeqR.step0 rfl (fun call lc old => op_setW (b := s.c) (cs0 := [.bool false, .slice none 0 0 0]) (cs := [.bool (decide (dotN a b a.length < 0)), d0]) (by simp only [rho, T.get_set, Nat.reduceEqDiff, if_true, if_false, h4]) (by simp only [rho, T.get_set, Nat.reduceEqDiff, if_true, if_false]) ho3 si171 hb0 rfl hlo call lc old) rfl ?_
      repeat (first | (refine CodeR.seq ?_) | (refine CodeR.reg rfl ?_) | (refine CodeR.regD rfl rfl rfl ?_) | (refine SeqR.done ?_) | (refine CodeR.block ?_) | (refine CodeR.skip ?_) | (refine CodeR.exit ?_; simp only [sA, Ex.then, Ex.inBlock, Nat.reduceEqDiff]) | (first | (refine SeqR.skipN ?_ rfl rfl ?_; (simp only [sA, wantE, T.get_set, Nat.reduceEqDiff] <;> with_reducible rfl)) | ((first | refine SeqR.stepN (v := ?_) (s' := ?_) rfl ?_ rfl ?_ rfl rfl ?_ | refine SeqR.stepLN (v := ?_) (s' := ?_) rfl ?_ rfl ?_ rfl rfl ?_); rotate_left 3; (intro call lc; simp only [sA, opE, kindOf, pureE, heapE, rho, rhos, T.get_set, Nat.reduceEqDiff, nb00, absV, absS, l_slice, l_void, l_str, l_arr, natE, loadE, isConst, TK.agg, u_notB, b_eqlB, b_neqB, b_add, b_sub, b_mul, b_lss, b_gtr, b_leq, b_geq, b_eql, b_neq, ty3, i3, si3, ty4, i4, si4, ty24, i24, si24, ty169, i169, si169, ty171, i171, si171, ty245, i245, si245] <;> rfl); rotate_left 1; (simp only [sA, wantE, T.get_set, Nat.reduceEqDiff] <;> with_reducible rfl))))
      refine CodeR.ret ⟨.inr rfl, [.agg [.bool (decide (dotN a b a.length < 0)), d0]], ?_, fresh_set hF2 (by omega), kept_set hK2 (Nat.le_refl _), d0, rfl, nv_other hdn hb0 zero171⟩
      show ressE E _ _ [.cell 4 171] = _
      simp only [ressE, resE, T.get_set, Nat.reduceEqDiff, if_true, if_false, h4, Option.bind_some]
      rw [load_box (z := 0) (s := ⟨s2.h.set s.c ⟨171, [.bool (decide (dotN a b a.length < 0)), d0]⟩, s2.c⟩) ty171 rfl rfl (by simp only [T.get_set, if_true]; rfl)]
      rfl
end Go.Proofs.YtaocoplfdhcoaaaGreatDoor.EvA

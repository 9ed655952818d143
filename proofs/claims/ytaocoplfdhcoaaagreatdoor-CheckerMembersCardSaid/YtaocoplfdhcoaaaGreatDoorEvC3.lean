/- The law CheckerMembers, run. -/
import Derived.Test.YtaocoplfdhcoaaaGreatDoorEvC25
import Derived.Test.YtaocoplfdhcoaaaGreatDoorEvC27
import Derived.Test.YtaocoplfdhcoaaaGreatDoorEvC19
set_option linter.unusedVariables false
set_option linter.unusedSimpArgs false
set_option maxRecDepth 20000
set_option maxHeartbeats 2000000
namespace Go.Proofs.YtaocoplfdhcoaaaGreatDoor.EvA
open Go Go.RowKit Go.Proofs.YtaocoplfdhcoaaaGreatDoor.Ev
theorem fn3' : E.fns.get 3 = some Tryz.f3 := by kernel_rfl
theorem RW.put {h : T Blk} {zs : List Int} {cs : List AV} (hr : RW h zs cs) {c : Nat} (hc : c < zs.length) {z : Int} {a d : AV} (hz : WZ h z (.agg [a, d])) : RW h (zs.set c z) (putL cs (c * 2) [a, d]) := by
  have hl := hr.1
  have hfit : c * 2 + [a, d].length ≤ cs.length := by simp; omega
  refine ⟨by rw [putL_length hfit, List.length_set, hl], fun i y hi => ?_⟩
  rw [putL_get hfit, putL_get hfit]
  simp only [List.length_cons, List.length_nil]
  rw [List.getElem?_set] at hi
  by_cases hci : c = i
  · subst hci
    rw [if_pos rfl, if_pos hc] at hi
    cases hi
    refine ⟨a, d, ?_, ?_, hz⟩
    · rw [if_neg (by omega), if_pos (by omega), Nat.sub_self]; rfl
    · rw [if_neg (by omega), if_pos (by omega), show c * 2 + 1 - c * 2 = 1 by omega]; rfl
  · rw [if_neg hci] at hi
    obtain ⟨a', d', h1, h2, h3⟩ := hr.2 i y hi
    refine ⟨a', d', ?_, ?_, h3⟩
    · rcases Nat.lt_or_gt_of_ne hci with g | g
      · rw [if_neg (by omega), if_neg (by omega)]; exact h1
      · rw [if_pos (by omega)]; exact h1
    · rcases Nat.lt_or_gt_of_ne hci with g | g
      · rw [if_neg (by omega), if_neg (by omega)]; exact h2
      · rw [if_pos (by omega)]; exact h2
theorem reps_zints (n : Nat) : reps n [.int .i64 0] = zints (List.replicate n 0) := by rw [reps_one, zints, List.map_replicate]
theorem comb_w {k : List Int} {m : List (List Int)} {c i : Nat} (nk : NearR k) (nm : ∀ i, NearR (m.getD i [])) (hi : i ≤ 1000) : (comb k m c i).natAbs < 10 ^ 30 := by
  have := sumN_bound (f := fun i => k.getD i 0 * (m.getD i []).getD c 0) (B := 1000000000000000000) i fun j hj => near_mul (near_getD nk j) (near_getD (nm j) c)
  unfold comb
  omega
theorem getD_set {zs : List Int} {c : Nat} {z : Int} (hc : c < zs.length) (j : Nat) : (zs.set c z).getD j 0 = if j = c then z else zs.getD j 0 := by
  rw [List.getD_eq_getElem?_getD, List.getElem?_set]
  by_cases h : c = j
  · subst h; simp [hc]
  · rw [if_neg h, if_neg (fun e => h e.symm), List.getD_eq_getElem?_getD]
theorem ones_iff {xs : List AV} : ones xs = true ↔ ∀ v ∈ xs, v.one = true := by
  induction xs with
  | nil => simp [ones]
  | cons x xs ih => rw [ones, Bool.and_eq_true, ih]; simp
theorem ones_putL {cs new : List AV} {o : Nat} (h1 : ones cs = true) (h2 : ones new = true) : ones (putL cs o new) = true := by
  rw [ones_iff] at h1 h2 ⊢
  intro v hv
  unfold putL at hv
  rcases List.mem_append.1 hv with hv | hv
  · exact h1 v (List.mem_of_mem_take hv)
  · rcases List.mem_append.1 hv with hv | hv
    · exact h2 v hv
    · exact h1 v (List.mem_of_mem_drop hv)
/-- The sum of the multiples of the rows, in the sum's slice. -/
theorem sum_loop {lo : Nat} {vm vk vx v : AV} {m : List (List Int)} {k x : List Int} {s s0 : St} {T0 : T AV} {cs0 : List AV} (hm : MZ s.h m vm) (hk : RZ s.h k vk) (hF : Fresh s) (hlo : lo ≤ s.c) (hP : PreM m k x)
    (hF0 : Fresh s0) (hK0 : Kept s.c s s0) (hO : Own s.c s0 32 2 cs0 v) (hW : RW s0.h (List.replicate x.length 0) cs0) (ho : ones cs0 = true)
    (g0 : T0.get 0 = some vm) (g1 : T0.get 1 = some vk) (g2 : T0.get 2 = some vx) (g8 : T0.get 8 = some v) (g69 : T0.get 69 = some vm) (g70 : T0.get 70 = some (.int .i64 (Int.ofNat m.length))) (g71 : T0.get 71 = some (.int .i64 0))
    {Q : Ex → Tm → St → Prop} (hQ : ∀ T1 s1 cs, Fresh s1 → Kept s.c s s1 → Row s1.h 2 cs v → RW s1.h ((List.range x.length).map fun c => comb k m c m.length) cs → T1.get 0 = some vm → T1.get 1 = some vk → T1.get 2 = some vx → T1.get 8 = some v → Q (.exit 0) ⟨129, T1⟩ s1) {c : Code} (hc : ∃ a1 a2 a3 a4 a5 a6 a7 a8 a9, Tryz.f3.body = some (.seq a1 (.seq a2 (.seq a3 (.seq (.seq a4 (.cond a5 (.seq a6 (.seq (.seq a7 (.block 0 (.loop c))) a8)) .skip)) a9))))) : CodeR E lo (.loop c) ⟨129, T0⟩ s0 Q := by
  obtain ⟨a1, a2, a3, a4, a5, a6, a7, a8, a9, hc⟩ := hc
  injection hc with hc
  injection hc with _ hc
  injection hc with _ hc
  injection hc with _ hc
  injection hc with hc _
  injection hc with _ hc
  injection hc with _ hc _
  injection hc with _ hc
  injection hc with hc _
  injection hc with _ hc
  injection hc with _ hc
  injection hc with hc
  subst hc
  obtain ⟨hR, e1, e4, nk, nx⟩ := hP
  have hm12 := hR.1
  have nm : ∀ i, NearR (m.getD i []) := fun i => by
    rcases Nat.lt_or_ge i m.length with h | h
    · exact (hR.2 i h).2.2
    · intro j hj
      rw [List.getD_eq_getElem?_getD, List.getElem?_eq_none h] at hj
      simp at hj
  have hn : (129 : Nat) = 129 := rfl
  refine CodeR.loop (fun q mm s1 => ∃ i T1 zs cs, mm = ⟨129, T1⟩ ∧ i + q = m.length ∧ Fresh s1 ∧ Kept s.c s s1 ∧ Own s.c s1 32 2 cs v ∧ RW s1.h zs cs ∧ ones cs = true ∧ zs.length = x.length ∧ (∀ j, j < x.length → zs.getD j 0 = comb k m j i) ∧ T1.get 0 = some vm ∧ T1.get 1 = some vk ∧ T1.get 2 = some vx ∧ T1.get 8 = some v ∧ T1.get 69 = some vm ∧ T1.get 70 = some (.int .i64 (Int.ofNat m.length)) ∧ T1.get 71 = some (.int .i64 (Int.ofNat i))) m.length ?_ ?_
  · refine ⟨0, T0, List.replicate x.length 0, cs0, rfl, by omega, hF0, hK0, hO, hW, ho, by simp, fun j hj => ?_, g0, g1, g2, g8, g69, g70, g71⟩
    rw [List.getD_eq_getElem?_getD, List.getElem?_replicate, if_pos hj]; rfl
  · rintro q mm s1 ⟨i, T1, zs, cs, rfl, hiq, hF1, hK1, hO1, hW1, ho1, hzl, hzs, t0, t1, t2, t8, t69, t70, t71⟩
    have m1 := hK1.mono
    have hm1 := hm.keep hF.lt hK1
    repeat (first | (refine CodeR.seq ?_) | (refine CodeR.reg rfl ?_) | (refine CodeR.regD rfl rfl rfl ?_) | (refine SeqR.done ?_) | (refine CodeR.block ?_) | (refine CodeR.skip ?_) | (refine CodeR.exit ?_; simp only [sA, Ex.then, Ex.inBlock, Nat.reduceEqDiff]) | (first | (refine SeqR.skipN ?_ rfl rfl ?_; (simp only [sA, wantE, T.get_set, Nat.reduceEqDiff, t70, t71, ltB_nat] <;> with_reducible rfl)) | ((first | refine SeqR.stepN (v := ?_) (s' := ?_) rfl ?_ rfl ?_ rfl rfl ?_ | refine SeqR.stepLN (v := ?_) (s' := ?_) rfl ?_ rfl ?_ rfl rfl ?_); rotate_left 3; (intro call lc; simp only [sA, opE, kindOf, pureE, heapE, rho, rhos, T.get_set, Nat.reduceEqDiff, nb00, absV, absS, l_slice, l_void, l_str, l_arr, natE, loadE, isConst, TK.agg, u_notB, b_eqlB, b_neqB, b_add, b_sub, b_mul, b_lss, b_gtr, b_leq, b_geq, b_eql, b_neq, ty3, i3, si3, ty4, i4, si4, ty23, i23, si23, ty24, i24, si24, ty25, i25, si25, ty29, i29, si29, ty32, i32, si32, t70, t71, ltB_nat] <;> rfl); rotate_left 1; (simp only [sA, wantE, T.get_set, Nat.reduceEqDiff, t70, t71, ltB_nat] <;> with_reducible rfl))))
    refine CodeR.cond (t := decide (i < m.length)) (by simp only [sA, rho, T.get_set, Nat.reduceEqDiff, u_notB, b_eqlB, b_neqB, b_add, b_sub, b_mul, b_lss, b_gtr, b_leq, b_geq, b_eql, b_neq, ty3, i3, si3, ty4, i4, si4, ty23, i23, si23, ty24, i24, si24, ty25, i25, si25, ty29, i29, si29, ty32, i32, si32]) ?_ ?_
    · intro hlt
      have hlt' : i < m.length := by simpa using hlt
      obtain ⟨b, o, n, c, qq, kk, r, rfl, f1, f2, f3, f4⟩ := hm.row hlt'
      have f0 : b < s.c := hF.lt b kk f2
      have f2' : s1.h.get b = some kk := by rw [hK1.keep _ f0]; exact f2
      have f9 : Nat.blt b s1.c = true := blt_iff.2 (by omega)
      have hrl : (m.getD i []).length = x.length := by
        have := (hR.2 i hlt').2.1
        have := e4 (by omega)
        omega
      have lr := lenR f4 3
      rw [hrl] at lr
      have hx12 : x.length ≤ 12 := by have := (hR.2 i hlt').1; omega
      repeat (first | (refine CodeR.seq ?_) | (refine CodeR.reg rfl ?_) | (refine CodeR.regD rfl rfl rfl ?_) | (refine SeqR.done ?_) | (refine CodeR.block ?_) | (refine CodeR.skip ?_) | (refine CodeR.exit ?_; simp only [sA, Ex.then, Ex.inBlock, Nat.reduceEqDiff]) | (first | (refine SeqR.skipN ?_ rfl rfl ?_; (simp only [sA, wantE, T.get_set, Nat.reduceEqDiff, t69, t71, f1, f2', f3, f9, lr] <;> with_reducible rfl)) | ((first | refine SeqR.stepN (v := ?_) (s' := ?_) rfl ?_ rfl ?_ rfl rfl ?_ | refine SeqR.stepLN (v := ?_) (s' := ?_) rfl ?_ rfl ?_ rfl rfl ?_); rotate_left 3; (intro call lc; simp only [sA, opE, kindOf, pureE, heapE, rho, rhos, T.get_set, Nat.reduceEqDiff, nb00, absV, absS, l_slice, l_void, l_str, l_arr, natE, loadE, isConst, TK.agg, u_notB, b_eqlB, b_neqB, b_add, b_sub, b_mul, b_lss, b_gtr, b_leq, b_geq, b_eql, b_neq, ty3, i3, si3, ty4, i4, si4, ty23, i23, si23, ty24, i24, si24, ty25, i25, si25, ty29, i29, si29, ty32, i32, si32, t69, t71, f1, f2', f3, f9, lr] <;> rfl); rotate_left 1; (simp only [sA, wantE, T.get_set, Nat.reduceEqDiff, t69, t71, f1, f2', f3, f9, lr] <;> with_reducible rfl))))
      refine CodeR.loop (fun q2 mm s2 => ∃ c' T2 zs cs, mm = ⟨129, T2⟩ ∧ c' + q2 = x.length ∧ Fresh s2 ∧ Kept s.c s s2 ∧ Own s.c s2 32 2 cs v ∧ RW s2.h zs cs ∧ ones cs = true ∧ zs.length = x.length ∧ (∀ j, j < x.length → zs.getD j 0 = if j < c' then comb k m j (i + 1) else comb k m j i) ∧ T2.get 0 = some (.slice (some (b, o)) n c qq) ∧ T2.get 1 = some vk ∧ T2.get 2 = some vx ∧ T2.get 8 = some v ∧ T2.get 9 = some (.int .i64 (Int.ofNat i)) ∧ T2.get 69 = some (.slice (some (b, o)) n c qq) ∧ T2.get 70 = some (.int .i64 (Int.ofNat m.length)) ∧ T2.get 71 = some (.int .i64 (Int.ofNat i)) ∧ T2.get 76 = some r ∧ T2.get 77 = some (.int .i64 (Int.ofNat x.length)) ∧ T2.get 78 = some (.int .i64 (Int.ofNat c'))) x.length ?_ ?_
      · refine ⟨0, _, zs, cs, rfl, by omega, hF1, hK1, hO1, hW1, ho1, hzl, fun j hj => by rw [hzs j hj, if_neg (by omega)], ?_, ?_, ?_, ?_, ?_, ?_, ?_, ?_, ?_, ?_, ?_⟩
        simp only [T.get_set, Nat.reduceEqDiff, if_true, if_false, t0]
        simp only [T.get_set, Nat.reduceEqDiff, if_true, if_false, t1]
        simp only [T.get_set, Nat.reduceEqDiff, if_true, if_false, t2]
        simp only [T.get_set, Nat.reduceEqDiff, if_true, if_false, t8]
        simp only [T.get_set, Nat.reduceEqDiff, if_true, if_false]
        simp only [T.get_set, Nat.reduceEqDiff, if_true, if_false, t69]
        simp only [T.get_set, Nat.reduceEqDiff, if_true, if_false, t70]
        simp only [T.get_set, Nat.reduceEqDiff, if_true, if_false, t71]
        simp only [T.get_set, Nat.reduceEqDiff, if_true, if_false]
        simp only [T.get_set, Nat.reduceEqDiff, if_true, if_false]
        simp only [T.get_set, Nat.reduceEqDiff, if_true, if_false]
        · rfl
      · clear zs cs hO1 hW1 ho1 hzl hzs
        rintro q2 mm s2 ⟨c', T2, zs, cs, rfl, hcq, hF2, hK2, hO2, hW2, ho2, hzl, hzs, t0, t1, t2, t8, t9, t69, t70, t71, t76, t77, t78⟩
        have m2 := hK2.mono
        repeat (first | (refine CodeR.seq ?_) | (refine CodeR.reg rfl ?_) | (refine CodeR.regD rfl rfl rfl ?_) | (refine SeqR.done ?_) | (refine CodeR.block ?_) | (refine CodeR.skip ?_) | (refine CodeR.exit ?_; simp only [sA, Ex.then, Ex.inBlock, Nat.reduceEqDiff]) | (first | (refine SeqR.skipN ?_ rfl rfl ?_; (simp only [sA, wantE, T.get_set, Nat.reduceEqDiff, t77, t78, ltB_nat] <;> with_reducible rfl)) | ((first | refine SeqR.stepN (v := ?_) (s' := ?_) rfl ?_ rfl ?_ rfl rfl ?_ | refine SeqR.stepLN (v := ?_) (s' := ?_) rfl ?_ rfl ?_ rfl rfl ?_); rotate_left 3; (intro call lc; simp only [sA, opE, kindOf, pureE, heapE, rho, rhos, T.get_set, Nat.reduceEqDiff, nb00, absV, absS, l_slice, l_void, l_str, l_arr, natE, loadE, isConst, TK.agg, u_notB, b_eqlB, b_neqB, b_add, b_sub, b_mul, b_lss, b_gtr, b_leq, b_geq, b_eql, b_neq, ty3, i3, si3, ty4, i4, si4, ty23, i23, si23, ty24, i24, si24, ty25, i25, si25, ty29, i29, si29, ty32, i32, si32, t77, t78, ltB_nat] <;> rfl); rotate_left 1; (simp only [sA, wantE, T.get_set, Nat.reduceEqDiff, t77, t78, ltB_nat] <;> with_reducible rfl))))
        refine CodeR.cond (t := decide (c' < x.length)) (by simp only [sA, rho, T.get_set, Nat.reduceEqDiff, u_notB, b_eqlB, b_neqB, b_add, b_sub, b_mul, b_lss, b_gtr, b_leq, b_geq, b_eql, b_neq, ty3, i3, si3, ty4, i4, si4, ty23, i23, si23, ty24, i24, si24, ty25, i25, si25, ty29, i29, si29, ty32, i32, si32]) ?_ ?_
        · intro hcl
          have hcl' : c' < x.length := by simpa using hcl
          have hr2 := RZ.keep f4 hF.lt hK2
          have hk2 := RZ.keep hk hF.lt hK2
          obtain ⟨b1, o1, n1, c1, q1, k1, rfl, p1, p2, p3⟩ := Row.zint hr2 (i := c') (by omega)
          have p4 : Nat.blt b1 s2.c = true := blt_iff.2 (hF2.lt b1 k1 p2)
          obtain ⟨b3, o3, n3, c3, q3, k3, rfl, u1, u2, u3⟩ := Row.zint hk2 (i := i) (by omega)
          have u4 : Nat.blt b3 s2.c = true := blt_iff.2 (hF2.lt b3 k3 u2)
          rcases hO2 with ⟨rfl, rfl⟩ | ⟨bS, nS, rfl, hge, hgS, hlS, hnS⟩
          · have := hW2.1
            simp at this
            omega
          obtain ⟨a0, d0, w1, w2, hz0⟩ := hW2.2 c' (zs.getD c' 0) (by rw [List.getD_eq_getElem?_getD, List.getElem?_eq_getElem (by omega)]; rfl)
          have hbS : bS < s2.c := hF2.lt bS _ hgS
          have e9 : Nat.blt bS s2.c = true := blt_iff.2 hbS
          have hcl2 : Nat.blt c' nS = true := blt_iff.2 (by have := hW2.1; omega)
          have hcell : cellsAt s2.h bS (c' * 2) 2 = some [a0, d0] := by
            unfold cellsAt
            rw [hgS, Option.bind_some]
            simp only
            rw [ble_iff.2 (by have := hW2.1; omega), cond_true, take_two w1 w2]
          have hz1 : zs.getD c' 0 = comb k m c' i := by rw [hzs c' hcl', if_neg (by omega)]
          rw [hz1] at hz0
          have nki : Near (k.getD i 0) := near_getD nk i
          have nmi : Near ((m.getD i []).getD c' 0) := near_getD (nm i) c'
          have hcw := comb_w (c := c') nk nm (show i ≤ 1000 by omega)
          have hmul := near_mul nki nmi
          generalize hki : k.getD i 0 = ki at *
          generalize hmi : (m.getD i []).getD c' 0 = mi at *
          repeat (first | (refine CodeR.seq ?_) | (refine CodeR.reg rfl ?_) | (refine CodeR.regD rfl rfl rfl ?_) | (refine SeqR.done ?_) | (refine CodeR.block ?_) | (refine CodeR.skip ?_) | (refine CodeR.exit ?_; simp only [sA, Ex.then, Ex.inBlock, Nat.reduceEqDiff]) | (first | (refine SeqR.skipN ?_ rfl rfl ?_; (simp only [sA, wantE, T.get_set, Nat.reduceEqDiff, t1, t8, t9, t76, t78, p1, p2, p3, p4, u1, u2, u3, u4, e9, hcl2, hcell] <;> with_reducible rfl)) | ((first | refine SeqR.stepN (v := ?_) (s' := ?_) rfl ?_ rfl ?_ rfl rfl ?_ | refine SeqR.stepLN (v := ?_) (s' := ?_) rfl ?_ rfl ?_ rfl rfl ?_); rotate_left 3; (intro call lc; simp only [sA, opE, kindOf, pureE, heapE, rho, rhos, T.get_set, Nat.reduceEqDiff, nb00, absV, absS, l_slice, l_void, l_str, l_arr, natE, loadE, isConst, TK.agg, u_notB, b_eqlB, b_neqB, b_add, b_sub, b_mul, b_lss, b_gtr, b_leq, b_geq, b_eql, b_neq, ty3, i3, si3, ty4, i4, si4, ty23, i23, si23, ty24, i24, si24, ty25, i25, si25, ty29, i29, si29, ty32, i32, si32, t1, t8, t9, t76, t78, p1, p2, p3, p4, u1, u2, u3, u4, e9, hcl2, hcell] <;> rfl); rotate_left 1; (simp only [sA, wantE, T.get_set, Nat.reduceEqDiff, t1, t8, t9, t76, t78, p1, p2, p3, p4, u1, u2, u3, u4, e9, hcl2, hcell] <;> with_reducible rfl))))
          refine SeqR.callN (by first | with_reducible rfl | (simp only [sA, wantE, T.get_set, Nat.reduceEqDiff, u_notB, b_eqlB, b_neqB, b_add, b_sub, b_mul, b_lss, b_gtr, b_leq, b_geq, b_eql, b_neq, ty3, i3, si3, ty4, i4, si4, ty23, i23, si23, ty24, i24, si24, ty25, i25, si25, ty29, i29, si29, ty32, i32, si32] <;> with_reducible rfl)) rfl rfl (g := 22) (vs := [.int .i64 ki]) (by simp only [calleeE, sA, rho, rhos, T.get_set, Nat.reduceEqDiff, u_notB, b_eqlB, b_neqB, b_add, b_sub, b_mul, b_lss, b_gtr, b_leq, b_geq, b_eql, b_neq, ty3, i3, si3, ty4, i4, si4, ty23, i23, si23, ty24, i24, si24, ty25, i25, si25, ty29, i29, si29, ty32, i32, si32]; rfl) (by first | rfl | assumption) rfl rfl (fun lc hlc => (Of_run (near_i64 nki).1 (near_i64 nki).2 hF2 (lim_lo hlc (by omega))).mono fun v3 s3 hp => ?_)
          obtain ⟨x1, x2, x3⟩ := hp
          have m3 := x2.mono
          repeat (first | (refine CodeR.seq ?_) | (refine CodeR.reg rfl ?_) | (refine CodeR.regD rfl rfl rfl ?_) | (refine SeqR.done ?_) | (refine CodeR.block ?_) | (refine CodeR.skip ?_) | (refine CodeR.exit ?_; simp only [sA, Ex.then, Ex.inBlock, Nat.reduceEqDiff]) | (first | (refine SeqR.skipN ?_ rfl rfl ?_; (simp only [sA, wantE, T.get_set, Nat.reduceEqDiff] <;> with_reducible rfl)) | ((first | refine SeqR.stepN (v := ?_) (s' := ?_) rfl ?_ rfl ?_ rfl rfl ?_ | refine SeqR.stepLN (v := ?_) (s' := ?_) rfl ?_ rfl ?_ rfl rfl ?_); rotate_left 3; (intro call lc; simp only [sA, opE, kindOf, pureE, heapE, rho, rhos, T.get_set, Nat.reduceEqDiff, nb00, absV, absS, l_slice, l_void, l_str, l_arr, natE, loadE, isConst, TK.agg, u_notB, b_eqlB, b_neqB, b_add, b_sub, b_mul, b_lss, b_gtr, b_leq, b_geq, b_eql, b_neq, ty3, i3, si3, ty4, i4, si4, ty23, i23, si23, ty24, i24, si24, ty25, i25, si25, ty29, i29, si29, ty32, i32, si32] <;> rfl); rotate_left 1; (simp only [sA, wantE, T.get_set, Nat.reduceEqDiff] <;> with_reducible rfl))))
          refine SeqR.callN (by first | with_reducible rfl | (simp only [sA, wantE, T.get_set, Nat.reduceEqDiff, u_notB, b_eqlB, b_neqB, b_add, b_sub, b_mul, b_lss, b_gtr, b_leq, b_geq, b_eql, b_neq, ty3, i3, si3, ty4, i4, si4, ty23, i23, si23, ty24, i24, si24, ty25, i25, si25, ty29, i29, si29, ty32, i32, si32] <;> with_reducible rfl)) rfl rfl (g := 22) (vs := [.int .i64 mi]) (by simp only [calleeE, sA, rho, rhos, T.get_set, Nat.reduceEqDiff, u_notB, b_eqlB, b_neqB, b_add, b_sub, b_mul, b_lss, b_gtr, b_leq, b_geq, b_eql, b_neq, ty3, i3, si3, ty4, i4, si4, ty23, i23, si23, ty24, i24, si24, ty25, i25, si25, ty29, i29, si29, ty32, i32, si32]; rfl) (by first | rfl | assumption) rfl rfl (fun lc hlc => (Of_run (near_i64 nmi).1 (near_i64 nmi).2 x1 (lim_lo hlc (by omega))).mono fun v4 s4 hp => ?_)
          obtain ⟨y1, y2, y3⟩ := hp
          have m4 := y2.mono
          refine SeqR.callN (by first | with_reducible rfl | (simp only [sA, wantE, T.get_set, Nat.reduceEqDiff, u_notB, b_eqlB, b_neqB, b_add, b_sub, b_mul, b_lss, b_gtr, b_leq, b_geq, b_eql, b_neq, ty3, i3, si3, ty4, i4, si4, ty23, i23, si23, ty24, i24, si24, ty25, i25, si25, ty29, i29, si29, ty32, i32, si32] <;> with_reducible rfl)) rfl rfl (g := 21) (vs := [v3, v4]) (by simp only [calleeE, sA, rho, rhos, T.get_set, Nat.reduceEqDiff, u_notB, b_eqlB, b_neqB, b_add, b_sub, b_mul, b_lss, b_gtr, b_leq, b_geq, b_eql, b_neq, ty3, i3, si3, ty4, i4, si4, ty23, i23, si23, ty24, i24, si24, ty25, i25, si25, ty29, i29, si29, ty32, i32, si32]; rfl) (by first | rfl | assumption) rfl rfl (fun lc hlc => (mulW_z (x3.keep x1.lt y2) y3 y1 (lim_lo hlc (by omega)) (n := 20) (by omega) (by unfold Near at nki; omega) (by unfold Near at nmi; omega)).mono fun v5 s5 hp => ?_)
          obtain ⟨r1, r2, r3⟩ := hp
          have m5 := r2.mono
          have hz5 := ((hz0.keep hF2.lt x2).keep x1.lt y2).keep y1.lt r2
          refine SeqR.callN (by first | with_reducible rfl | (simp only [sA, wantE, T.get_set, Nat.reduceEqDiff, u_notB, b_eqlB, b_neqB, b_add, b_sub, b_mul, b_lss, b_gtr, b_leq, b_geq, b_eql, b_neq, ty3, i3, si3, ty4, i4, si4, ty23, i23, si23, ty24, i24, si24, ty25, i25, si25, ty29, i29, si29, ty32, i32, si32] <;> with_reducible rfl)) rfl rfl (g := 20) (vs := [.agg [a0, d0], v5]) (by simp only [calleeE, sA, rho, rhos, T.get_set, Nat.reduceEqDiff, u_notB, b_eqlB, b_neqB, b_add, b_sub, b_mul, b_lss, b_gtr, b_leq, b_geq, b_eql, b_neq, ty3, i3, si3, ty4, i4, si4, ty23, i23, si23, ty24, i24, si24, ty25, i25, si25, ty29, i29, si29, ty32, i32, si32]; rfl) (by first | rfl | assumption) rfl rfl (fun lc hlc => (addW_z hz5 r3 r1 (lim_lo hlc (by omega)) (n := 20) (by omega) (by omega) (by omega)).mono fun v6 s6 hp => ?_)
          obtain ⟨z1, z2, z3⟩ := hp
          have m6 := z2.mono
          have kk6 : ∀ b', b' < s2.c → s6.h.get b' = s2.h.get b' := fun b' hb' => by rw [z2.keep _ (by omega), r2.keep _ (by omega), y2.keep _ (by omega), x2.keep _ (by omega)]
          have hW6 := (((hW2.keep hF2.lt x2).keep x1.lt y2).keep y1.lt r2).keep r1.lt z2
          obtain ⟨a6, d6, rfl, ho6⟩ := wz_cells z3
          have hg6 : s6.h.get bS = some ⟨32, cs⟩ := by rw [kk6 _ hbS]; exact hgS
          repeat (first | (refine CodeR.seq ?_) | (refine CodeR.reg rfl ?_) | (refine CodeR.regD rfl rfl rfl ?_) | (refine SeqR.done ?_) | (refine CodeR.block ?_) | (refine CodeR.skip ?_) | (refine CodeR.exit ?_; simp only [sA, Ex.then, Ex.inBlock, Nat.reduceEqDiff]) | (first | (refine SeqR.skipN ?_ rfl rfl ?_; (simp only [sA, wantE, T.get_set, Nat.reduceEqDiff, hcl2] <;> with_reducible rfl)) | ((first | refine SeqR.stepN (v := ?_) (s' := ?_) rfl ?_ rfl ?_ rfl rfl ?_ | refine SeqR.stepLN (v := ?_) (s' := ?_) rfl ?_ rfl ?_ rfl rfl ?_); rotate_left 3; (intro call lc; simp only [sA, opE, kindOf, pureE, heapE, rho, rhos, T.get_set, Nat.reduceEqDiff, nb00, absV, absS, l_slice, l_void, l_str, l_arr, natE, loadE, isConst, TK.agg, u_notB, b_eqlB, b_neqB, b_add, b_sub, b_mul, b_lss, b_gtr, b_leq, b_geq, b_eql, b_neq, ty3, i3, si3, ty4, i4, si4, ty23, i23, si23, ty24, i24, si24, ty25, i25, si25, ty29, i29, si29, ty32, i32, si32, hcl2] <;> rfl); rotate_left 1; (simp only [sA, wantE, T.get_set, Nat.reduceEqDiff, hcl2] <;> with_reducible rfl))))
          refine SeqR.step0 rfl (fun call lc old => op_store (b := bS) (o := c' * 2) (z := 2) (cs := [a6, d6]) (v := .agg [a6, d6]) (k := ⟨32, cs⟩) (by simp only [rho, T.get_set, Nat.reduceEqDiff, if_true, if_false]) (by simp only [rho, T.get_set, Nat.reduceEqDiff, if_true, if_false]) rfl rfl ho6 si32 hg6 (by simp only; have := hW2.1; omega) (by omega) call lc old) rfl ?_
          have hch : Chg s6.h (s6.h.set bS ⟨32, putL cs (c' * 2) [a6, d6]⟩) := fun b' k' hb' => by
            by_cases e : bS = b'
            · subst e
              rw [hg6] at hb'
              cases hb'
              exact .inr hW6.noint
            · rw [T.get_set, if_neg e]; exact .inl hb'
          have w9 : wr .i64 (Int.ofNat c' + 1) = Int.ofNat (c' + 1) := wr_add (b := 1) (by omega)
          have hK6 := (((hK2.trans (x2.le m2)).trans (y2.le (by omega))).trans (r2.le (by omega))).trans (z2.le (by omega))
          repeat (first | (refine CodeR.seq ?_) | (refine CodeR.reg rfl ?_) | (refine CodeR.regD rfl rfl rfl ?_) | (refine SeqR.done ?_) | (refine CodeR.block ?_) | (refine CodeR.skip ?_) | (refine CodeR.exit ?_; simp only [sA, Ex.then, Ex.inBlock, Nat.reduceEqDiff]) | (first | (refine SeqR.skipN ?_ rfl rfl ?_; (simp only [sA, wantE, T.get_set, Nat.reduceEqDiff, t78, w9] <;> with_reducible rfl)) | ((first | refine SeqR.stepN (v := ?_) (s' := ?_) rfl ?_ rfl ?_ rfl rfl ?_ | refine SeqR.stepLN (v := ?_) (s' := ?_) rfl ?_ rfl ?_ rfl rfl ?_); rotate_left 3; (intro call lc; simp only [sA, opE, kindOf, pureE, heapE, rho, rhos, T.get_set, Nat.reduceEqDiff, nb00, absV, absS, l_slice, l_void, l_str, l_arr, natE, loadE, isConst, TK.agg, u_notB, b_eqlB, b_neqB, b_add, b_sub, b_mul, b_lss, b_gtr, b_leq, b_geq, b_eql, b_neq, ty3, i3, si3, ty4, i4, si4, ty23, i23, si23, ty24, i24, si24, ty25, i25, si25, ty29, i29, si29, ty32, i32, si32, t78, w9] <;> rfl); rotate_left 1; (simp only [sA, wantE, T.get_set, Nat.reduceEqDiff, t78, w9] <;> with_reducible rfl))))
          refine ⟨q2 - 1, by omega, c' + 1, _, zs.set c' (comb k m c' i + ki * mi), putL cs (c' * 2) [a6, d6], rfl, by omega, fresh_set z1 (by omega), kept_set hK6 hge, .inr ⟨bS, nS, rfl, hge, by simp only [T.get_set, if_true], ?_, hnS⟩, (hW6.chg hch).put (by omega) (z3.chg hch), ones_putL ho2 ho6, by rw [List.length_set]; exact hzl, fun j hj => ?_, ?_, ?_, ?_, ?_, ?_, ?_, ?_, ?_, ?_, ?_, ?_⟩
          · rw [putL_length (by simp; have := hW2.1; omega)]; exact hlS
          · rw [getD_set (by omega)]
            by_cases hjc : j = c'
            · subst hjc
              rw [if_pos rfl, if_pos (by omega)]
              show _ = sumN _ (i + 1)
              rw [sumN, hki, hmi]
              rfl
            · rw [if_neg hjc, hzs j hj]
              by_cases hjl : j < c'
              · rw [if_pos hjl, if_pos (by omega)]
              · rw [if_neg hjl, if_neg (by omega)]
          simp only [T.get_set, Nat.reduceEqDiff, if_true, if_false, t0]
          simp only [T.get_set, Nat.reduceEqDiff, if_true, if_false, t1]
          simp only [T.get_set, Nat.reduceEqDiff, if_true, if_false, t2]
          simp only [T.get_set, Nat.reduceEqDiff, if_true, if_false, t8]
          simp only [T.get_set, Nat.reduceEqDiff, if_true, if_false, t9]
          simp only [T.get_set, Nat.reduceEqDiff, if_true, if_false, t69]
          simp only [T.get_set, Nat.reduceEqDiff, if_true, if_false, t70]
          simp only [T.get_set, Nat.reduceEqDiff, if_true, if_false, t71]
          simp only [T.get_set, Nat.reduceEqDiff, if_true, if_false, t76]
          simp only [T.get_set, Nat.reduceEqDiff, if_true, if_false, t77]
          simp only [T.get_set, Nat.reduceEqDiff, if_true, if_false]
        · intro hcl
          have hc : c' = x.length := by have : ¬ c' < x.length := by simpa using hcl
                                        omega
          subst hc
          have w9 : wr .i64 (Int.ofNat i + 1) = Int.ofNat (i + 1) := wr_add (b := 1) (by omega)
          repeat (first | (refine CodeR.seq ?_) | (refine CodeR.reg rfl ?_) | (refine CodeR.regD rfl rfl rfl ?_) | (refine SeqR.done ?_) | (refine CodeR.block ?_) | (refine CodeR.skip ?_) | (refine CodeR.exit ?_; simp only [sA, Ex.then, Ex.inBlock, Nat.reduceEqDiff]) | (first | (refine SeqR.skipN ?_ rfl rfl ?_; (simp only [sA, wantE, T.get_set, Nat.reduceEqDiff, t71, w9] <;> with_reducible rfl)) | ((first | refine SeqR.stepN (v := ?_) (s' := ?_) rfl ?_ rfl ?_ rfl rfl ?_ | refine SeqR.stepLN (v := ?_) (s' := ?_) rfl ?_ rfl ?_ rfl rfl ?_); rotate_left 3; (intro call lc; simp only [sA, opE, kindOf, pureE, heapE, rho, rhos, T.get_set, Nat.reduceEqDiff, nb00, absV, absS, l_slice, l_void, l_str, l_arr, natE, loadE, isConst, TK.agg, u_notB, b_eqlB, b_neqB, b_add, b_sub, b_mul, b_lss, b_gtr, b_leq, b_geq, b_eql, b_neq, ty3, i3, si3, ty4, i4, si4, ty23, i23, si23, ty24, i24, si24, ty25, i25, si25, ty29, i29, si29, ty32, i32, si32, t71, w9] <;> rfl); rotate_left 1; (simp only [sA, wantE, T.get_set, Nat.reduceEqDiff, t71, w9] <;> with_reducible rfl))))
          refine ⟨q - 1, by omega, i + 1, _, zs, cs, rfl, by omega, hF2, hK2, hO2, hW2, ho2, hzl, fun j hj => by rw [hzs j hj, if_pos hj], ?_, ?_, ?_, ?_, ?_, ?_, ?_⟩
          simp only [T.get_set, Nat.reduceEqDiff, if_true, if_false, t0]
          simp only [T.get_set, Nat.reduceEqDiff, if_true, if_false, t1]
          simp only [T.get_set, Nat.reduceEqDiff, if_true, if_false, t2]
          simp only [T.get_set, Nat.reduceEqDiff, if_true, if_false, t8]
          simp only [T.get_set, Nat.reduceEqDiff, if_true, if_false, t69]
          simp only [T.get_set, Nat.reduceEqDiff, if_true, if_false, t70]
          simp only [T.get_set, Nat.reduceEqDiff, if_true, if_false]
    · intro hge
      have hi : i = m.length := by have : ¬ i < m.length := by simpa using hge
                                   omega
      subst hi
      have hzz : zs = (List.range x.length).map fun c => comb k m c m.length := by
        apply List.ext_getElem?
        intro j
        rcases Nat.lt_or_ge j x.length with h | h
        · have := hzs j h
          rw [List.getD_eq_getElem?_getD, List.getElem?_eq_getElem (by omega)] at this
          rw [List.getElem?_eq_getElem (by omega), List.getElem?_map, List.getElem?_range h]
          simp at this ⊢
          exact this
        · rw [List.getElem?_eq_none (by omega), List.getElem?_eq_none (by simp; omega)]
      repeat (first | (refine CodeR.seq ?_) | (refine CodeR.reg rfl ?_) | (refine CodeR.regD rfl rfl rfl ?_) | (refine SeqR.done ?_) | (refine CodeR.block ?_) | (refine CodeR.skip ?_) | (refine CodeR.exit ?_; simp only [sA, Ex.then, Ex.inBlock, Nat.reduceEqDiff]) | (first | (refine SeqR.skipN ?_ rfl rfl ?_; (simp only [sA, wantE, T.get_set, Nat.reduceEqDiff] <;> with_reducible rfl)) | ((first | refine SeqR.stepN (v := ?_) (s' := ?_) rfl ?_ rfl ?_ rfl rfl ?_ | refine SeqR.stepLN (v := ?_) (s' := ?_) rfl ?_ rfl ?_ rfl rfl ?_); rotate_left 3; (intro call lc; simp only [sA, opE, kindOf, pureE, heapE, rho, rhos, T.get_set, Nat.reduceEqDiff, nb00, absV, absS, l_slice, l_void, l_str, l_arr, natE, loadE, isConst, TK.agg, u_notB, b_eqlB, b_neqB, b_add, b_sub, b_mul, b_lss, b_gtr, b_leq, b_geq, b_eql, b_neq, ty3, i3, si3, ty4, i4, si4, ty23, i23, si23, ty24, i24, si24, ty25, i25, si25, ty29, i29, si29, ty32, i32, si32] <;> rfl); rotate_left 1; (simp only [sA, wantE, T.get_set, Nat.reduceEqDiff] <;> with_reducible rfl))))
      exact hQ _ _ cs hF1 hK1 hO1.row (by rw [← hzz]; exact hW1) (by simp only [T.get_set, Nat.reduceEqDiff, if_false, t0]) (by simp only [T.get_set, Nat.reduceEqDiff, if_false, t1]) (by simp only [T.get_set, Nat.reduceEqDiff, if_false, t2]) (by simp only [T.get_set, Nat.reduceEqDiff, if_false, t8])
theorem MemberP_pre {m : List (List Int)} {k x : List Int} : MemberP m k x ↔ PreM m k x ∧ ∀ c, c < x.length → comb k m c m.length = x.getD c 0 :=
  ⟨fun h => ⟨⟨h.1, h.2.1, h.2.2.1, h.2.2.2.1, h.2.2.2.2.1⟩, h.2.2.2.2.2⟩, fun h => ⟨h.1.1, h.1.2.1, h.1.2.2.1, h.1.2.2.2.1, h.1.2.2.2.2, h.2⟩⟩
theorem members_run {lo : Nat} {vm vk vx : AV} {m : List (List Int)} {k x : List Int} {s : St} (hm : MZ s.h m vm) (hk : RZ s.h k vk) (hx : RZ s.h x vx) (hF : Fresh s) (hlo : lo ≤ s.c) :
    FunR E lo 3 [vm, vk, vx] s fun v s' => v = .bool true := by
  refine FunR.body (fn := Tryz.f3) fn3' rfl ?_
  have hn : (max ([vm, vk, vx] : List AV).length Tryz.f3.ntmps) = 129 := rfl
  generalize max ([vm, vk, vx] : List AV).length Tryz.f3.ntmps = n at hn
  subst hn
  have g0 : (argsT 0 ([vm, vk, vx] : List AV)).get 0 = some (vm) := rfl
  have g1 : (argsT 0 ([vm, vk, vx] : List AV)).get 1 = some (vk) := rfl
  have g2 : (argsT 0 ([vm, vk, vx] : List AV)).get 2 = some (vx) := rfl
  generalize argsT 0 ([vm, vk, vx] : List AV) = T0 at g0 g1 g2 ⊢
  have hn : (129 : Nat) = 129 := rfl
  have ldm := hm.len 25
  have ldk := lenR hk 3
  have ldx := lenR hx 3
  refine CodeR.seq (CodeR.reg rfl ?_)
  (first | (refine SeqR.skipN ?_ rfl rfl ?_; (simp only [sA, wantE, T.get_set, Nat.reduceEqDiff] <;> with_reducible rfl)) | ((first | refine SeqR.stepN (v := ?_) (s' := ?_) rfl ?_ rfl ?_ rfl rfl ?_ | refine SeqR.stepLN (v := ?_) (s' := ?_) rfl ?_ rfl ?_ rfl rfl ?_); rotate_left 3; (intro call lc; simp only [sA, opE, kindOf, pureE, heapE, rho, rhos, T.get_set, Nat.reduceEqDiff, nb00, absV, absS, l_slice, l_void, l_str, l_arr, natE, loadE, isConst, TK.agg, u_notB, b_eqlB, b_neqB, b_add, b_sub, b_mul, b_lss, b_gtr, b_leq, b_geq, b_eql, b_neq, ty3, i3, si3, ty4, i4, si4, ty23, i23, si23, ty24, i24, si24, ty25, i25, si25, ty29, i29, si29, ty32, i32, si32] <;> rfl); rotate_left 1; (simp only [sA, wantE, T.get_set, Nat.reduceEqDiff] <;> with_reducible rfl)))
  refine SeqR.done ?_
  refine CodeR.seq (CodeR.seq (CodeR.mono (Q := fun e m' s' => e = .nrm ∧ s = s' ∧ ∃ T1 b, m' = ⟨129, T1⟩ ∧ T1.get 0 = some vm ∧ T1.get 1 = some vk ∧ T1.get 2 = some vx ∧ T1.get 31 = some (.bool b) ∧ (b = false → m.length ≤ 14 ∧ k.length ≤ 14 ∧ x.length ≤ 14)) (CodeR.reg rfl ?_) ?_))
  · refine SeqR.extN rfl rfl rfl (g := 15) (vs := []) (v := .bool true) rfl rfl rfl rfl rfl ?_
    repeat (first | (refine CodeR.seq ?_) | (refine CodeR.reg rfl ?_) | (refine CodeR.regD rfl rfl rfl ?_) | (refine SeqR.done ?_) | (refine CodeR.block ?_) | (refine CodeR.skip ?_) | (refine CodeR.exit ?_; simp only [sA, Ex.then, Ex.inBlock, Nat.reduceEqDiff]) | (first | (refine SeqR.skipN ?_ rfl rfl ?_; (simp only [sA, wantE, T.get_set, Nat.reduceEqDiff, g0] <;> with_reducible rfl)) | ((first | refine SeqR.stepN (v := ?_) (s' := ?_) rfl ?_ rfl ?_ rfl rfl ?_ | refine SeqR.stepLN (v := ?_) (s' := ?_) rfl ?_ rfl ?_ rfl rfl ?_); rotate_left 3; (intro call lc; simp only [sA, opE, kindOf, pureE, heapE, rho, rhos, T.get_set, Nat.reduceEqDiff, nb00, absV, absS, l_slice, l_void, l_str, l_arr, natE, loadE, isConst, TK.agg, u_notB, b_eqlB, b_neqB, b_add, b_sub, b_mul, b_lss, b_gtr, b_leq, b_geq, b_eql, b_neq, ty3, i3, si3, ty4, i4, si4, ty23, i23, si23, ty24, i24, si24, ty25, i25, si25, ty29, i29, si29, ty32, i32, si32, g0] <;> rfl); rotate_left 1; (simp only [sA, wantE, T.get_set, Nat.reduceEqDiff, g0] <;> with_reducible rfl))))
    refine SeqR.callN (by first | with_reducible rfl | (simp only [sA, wantE, T.get_set, Nat.reduceEqDiff, u_notB, b_eqlB, b_neqB, b_add, b_sub, b_mul, b_lss, b_gtr, b_leq, b_geq, b_eql, b_neq, ty3, i3, si3, ty4, i4, si4, ty23, i23, si23, ty24, i24, si24, ty25, i25, si25, ty29, i29, si29, ty32, i32, si32, g0] <;> with_reducible rfl)) rfl rfl (g := 16) (vs := [vm]) (by simp only [calleeE, sA, rho, rhos, T.get_set, Nat.reduceEqDiff, u_notB, b_eqlB, b_neqB, b_add, b_sub, b_mul, b_lss, b_gtr, b_leq, b_geq, b_eql, b_neq, ty3, i3, si3, ty4, i4, si4, ty23, i23, si23, ty24, i24, si24, ty25, i25, si25, ty29, i29, si29, ty32, i32, si32, g0]; rfl) (by first | rfl | assumption) rfl rfl (fun lc hlc => (few_run hm hF).mono fun v s' hq => ?_)
    obtain ⟨rfl, bf, rfl, hbf⟩ := hq
    cases bf with
    | false =>
      repeat (first | (refine CodeR.seq ?_) | (refine CodeR.reg rfl ?_) | (refine CodeR.regD rfl rfl rfl ?_) | (refine SeqR.done ?_) | (refine CodeR.block ?_) | (refine CodeR.skip ?_) | (refine CodeR.exit ?_; simp only [sA, Ex.then, Ex.inBlock, Nat.reduceEqDiff]) | (first | (refine SeqR.skipN ?_ rfl rfl ?_; (simp only [sA, wantE, T.get_set, Nat.reduceEqDiff] <;> with_reducible rfl)) | ((first | refine SeqR.stepN (v := ?_) (s' := ?_) rfl ?_ rfl ?_ rfl rfl ?_ | refine SeqR.stepLN (v := ?_) (s' := ?_) rfl ?_ rfl ?_ rfl rfl ?_); rotate_left 3; (intro call lc; simp only [sA, opE, kindOf, pureE, heapE, rho, rhos, T.get_set, Nat.reduceEqDiff, nb00, absV, absS, l_slice, l_void, l_str, l_arr, natE, loadE, isConst, TK.agg, u_notB, b_eqlB, b_neqB, b_add, b_sub, b_mul, b_lss, b_gtr, b_leq, b_geq, b_eql, b_neq, ty3, i3, si3, ty4, i4, si4, ty23, i23, si23, ty24, i24, si24, ty25, i25, si25, ty29, i29, si29, ty32, i32, si32] <;> rfl); rotate_left 1; (simp only [sA, wantE, T.get_set, Nat.reduceEqDiff] <;> with_reducible rfl))))
      refine ⟨rfl, rfl, _, true, rfl, ?_, ?_, ?_, ?_, fun h => by cases h⟩
      simp only [T.get_set, Nat.reduceEqDiff, if_true, if_false, g0]
      simp only [T.get_set, Nat.reduceEqDiff, if_true, if_false, g1]
      simp only [T.get_set, Nat.reduceEqDiff, if_true, if_false, g2]
      simp only [T.get_set, Nat.reduceEqDiff, if_true, if_false]
    | true =>
      have hm14 := (hbf rfl).1
      have ek : ltB 14 (Int.ofNat k.length) = decide (14 < k.length) := ltB_nat 14 _
      have ex : ltB 14 (Int.ofNat x.length) = decide (14 < x.length) := ltB_nat 14 _
      by_cases ck : 14 < k.length
      · have dk : decide (14 < k.length) = true := by simpa using ck
        repeat (first | (refine CodeR.seq ?_) | (refine CodeR.reg rfl ?_) | (refine CodeR.regD rfl rfl rfl ?_) | (refine SeqR.done ?_) | (refine CodeR.block ?_) | (refine CodeR.skip ?_) | (refine CodeR.exit ?_; simp only [sA, Ex.then, Ex.inBlock, Nat.reduceEqDiff]) | (first | (refine SeqR.skipN ?_ rfl rfl ?_; (simp only [sA, wantE, T.get_set, Nat.reduceEqDiff, g1, ldk, ek, dk] <;> with_reducible rfl)) | ((first | refine SeqR.stepN (v := ?_) (s' := ?_) rfl ?_ rfl ?_ rfl rfl ?_ | refine SeqR.stepLN (v := ?_) (s' := ?_) rfl ?_ rfl ?_ rfl rfl ?_); rotate_left 3; (intro call lc; simp only [sA, opE, kindOf, pureE, heapE, rho, rhos, T.get_set, Nat.reduceEqDiff, nb00, absV, absS, l_slice, l_void, l_str, l_arr, natE, loadE, isConst, TK.agg, u_notB, b_eqlB, b_neqB, b_add, b_sub, b_mul, b_lss, b_gtr, b_leq, b_geq, b_eql, b_neq, ty3, i3, si3, ty4, i4, si4, ty23, i23, si23, ty24, i24, si24, ty25, i25, si25, ty29, i29, si29, ty32, i32, si32, g1, ldk, ek, dk] <;> rfl); rotate_left 1; (simp only [sA, wantE, T.get_set, Nat.reduceEqDiff, g1, ldk, ek, dk] <;> with_reducible rfl))))
        refine ⟨rfl, rfl, _, true, rfl, ?_, ?_, ?_, ?_, fun h => by cases h⟩
        simp only [T.get_set, Nat.reduceEqDiff, if_true, if_false, g0]
        simp only [T.get_set, Nat.reduceEqDiff, if_true, if_false, g1]
        simp only [T.get_set, Nat.reduceEqDiff, if_true, if_false, g2]
        simp only [T.get_set, Nat.reduceEqDiff, if_true, if_false]
      · have dk : decide (14 < k.length) = false := by simpa using ck
        repeat (first | (refine CodeR.seq ?_) | (refine CodeR.reg rfl ?_) | (refine CodeR.regD rfl rfl rfl ?_) | (refine SeqR.done ?_) | (refine CodeR.block ?_) | (refine CodeR.skip ?_) | (refine CodeR.exit ?_; simp only [sA, Ex.then, Ex.inBlock, Nat.reduceEqDiff]) | (first | (refine SeqR.skipN ?_ rfl rfl ?_; (simp only [sA, wantE, T.get_set, Nat.reduceEqDiff, g1, g2, ldk, ldx, ek, dk, ex] <;> with_reducible rfl)) | ((first | refine SeqR.stepN (v := ?_) (s' := ?_) rfl ?_ rfl ?_ rfl rfl ?_ | refine SeqR.stepLN (v := ?_) (s' := ?_) rfl ?_ rfl ?_ rfl rfl ?_); rotate_left 3; (intro call lc; simp only [sA, opE, kindOf, pureE, heapE, rho, rhos, T.get_set, Nat.reduceEqDiff, nb00, absV, absS, l_slice, l_void, l_str, l_arr, natE, loadE, isConst, TK.agg, u_notB, b_eqlB, b_neqB, b_add, b_sub, b_mul, b_lss, b_gtr, b_leq, b_geq, b_eql, b_neq, ty3, i3, si3, ty4, i4, si4, ty23, i23, si23, ty24, i24, si24, ty25, i25, si25, ty29, i29, si29, ty32, i32, si32, g1, g2, ldk, ldx, ek, dk, ex] <;> rfl); rotate_left 1; (simp only [sA, wantE, T.get_set, Nat.reduceEqDiff, g1, g2, ldk, ldx, ek, dk, ex] <;> with_reducible rfl))))
        refine ⟨rfl, rfl, _, decide (14 < x.length), rfl, ?_, ?_, ?_, ?_, fun h => ?_⟩
        simp only [T.get_set, Nat.reduceEqDiff, if_true, if_false, g0]
        simp only [T.get_set, Nat.reduceEqDiff, if_true, if_false, g1]
        simp only [T.get_set, Nat.reduceEqDiff, if_true, if_false, g2]
        simp only [T.get_set, Nat.reduceEqDiff, if_true, if_false]
        · have : ¬ 14 < x.length := by simpa using h
          omega
  · rintro e m' s' ⟨rfl, rfl, T1, b, rfl, t0, t1, t2, t31, hsm⟩
    refine CodeR.cond (t := b) (by simp only [sA, rho, T.get_set, Nat.reduceEqDiff, u_notB, b_eqlB, b_neqB, b_add, b_sub, b_mul, b_lss, b_gtr, b_leq, b_geq, b_eql, b_neq, ty3, i3, si3, ty4, i4, si4, ty23, i23, si23, ty24, i24, si24, ty25, i25, si25, ty29, i29, si29, ty32, i32, si32, t31]) ?_ ?_
    · intro hb
      refine CodeR.seq (CodeR.reg rfl ?_)
      refine SeqR.extN rfl rfl rfl (g := 15) (vs := []) (v := .bool true) rfl rfl rfl rfl rfl ?_
      repeat (first | (refine CodeR.seq ?_) | (refine CodeR.reg rfl ?_) | (refine CodeR.regD rfl rfl rfl ?_) | (refine SeqR.done ?_) | (refine CodeR.block ?_) | (refine CodeR.skip ?_) | (refine CodeR.exit ?_; simp only [sA, Ex.then, Ex.inBlock, Nat.reduceEqDiff]) | (first | (refine SeqR.skipN ?_ rfl rfl ?_; (simp only [sA, wantE, T.get_set, Nat.reduceEqDiff] <;> with_reducible rfl)) | ((first | refine SeqR.stepN (v := ?_) (s' := ?_) rfl ?_ rfl ?_ rfl rfl ?_ | refine SeqR.stepLN (v := ?_) (s' := ?_) rfl ?_ rfl ?_ rfl rfl ?_); rotate_left 3; (intro call lc; simp only [sA, opE, kindOf, pureE, heapE, rho, rhos, T.get_set, Nat.reduceEqDiff, nb00, absV, absS, l_slice, l_void, l_str, l_arr, natE, loadE, isConst, TK.agg, u_notB, b_eqlB, b_neqB, b_add, b_sub, b_mul, b_lss, b_gtr, b_leq, b_geq, b_eql, b_neq, ty3, i3, si3, ty4, i4, si4, ty23, i23, si23, ty24, i24, si24, ty25, i25, si25, ty29, i29, si29, ty32, i32, si32] <;> rfl); rotate_left 1; (simp only [sA, wantE, T.get_set, Nat.reduceEqDiff] <;> with_reducible rfl))))
      refine CodeR.ret ⟨.inr rfl, [.bool true], by (show ressE E _ _ [.tmp 6] = _; simp only [sA, ressE, resE, T.get_set, Nat.reduceEqDiff, u_notB, b_eqlB, b_neqB, b_add, b_sub, b_mul, b_lss, b_gtr, b_leq, b_geq, b_eql, b_neq, ty3, i3, si3, ty4, i4, si4, ty23, i23, si23, ty24, i24, si24, ty25, i25, si25, ty29, i29, si29, ty32, i32, si32]), ?_⟩
      rfl
    · intro hb
      obtain ⟨lm, lk, lx⟩ := hsm hb
      refine CodeR.skip ?_
      refine CodeR.seq (CodeR.mono (Q := fun e m' s' => e = .nrm ∧ s = s' ∧ ∃ T1 w, m' = ⟨129, T1⟩ ∧ T1.get 0 = some vm ∧ T1.get 1 = some vk ∧ T1.get 2 = some vx ∧ T1.get 7 = some (.bool w) ∧ (w = true ↔ PreM m k x)) (CodeR.reg rfl ?_) ?_)
      · repeat (first | (refine CodeR.seq ?_) | (refine CodeR.reg rfl ?_) | (refine CodeR.regD rfl rfl rfl ?_) | (refine SeqR.done ?_) | (refine CodeR.block ?_) | (refine CodeR.skip ?_) | (refine CodeR.exit ?_; simp only [sA, Ex.then, Ex.inBlock, Nat.reduceEqDiff]) | (first | (refine SeqR.skipN ?_ rfl rfl ?_; (simp only [sA, wantE, T.get_set, Nat.reduceEqDiff, t0] <;> with_reducible rfl)) | ((first | refine SeqR.stepN (v := ?_) (s' := ?_) rfl ?_ rfl ?_ rfl rfl ?_ | refine SeqR.stepLN (v := ?_) (s' := ?_) rfl ?_ rfl ?_ rfl rfl ?_); rotate_left 3; (intro call lc; simp only [sA, opE, kindOf, pureE, heapE, rho, rhos, T.get_set, Nat.reduceEqDiff, nb00, absV, absS, l_slice, l_void, l_str, l_arr, natE, loadE, isConst, TK.agg, u_notB, b_eqlB, b_neqB, b_add, b_sub, b_mul, b_lss, b_gtr, b_leq, b_geq, b_eql, b_neq, ty3, i3, si3, ty4, i4, si4, ty23, i23, si23, ty24, i24, si24, ty25, i25, si25, ty29, i29, si29, ty32, i32, si32, t0] <;> rfl); rotate_left 1; (simp only [sA, wantE, T.get_set, Nat.reduceEqDiff, t0] <;> with_reducible rfl))))
        refine SeqR.callN (by first | with_reducible rfl | (simp only [sA, wantE, T.get_set, Nat.reduceEqDiff, u_notB, b_eqlB, b_neqB, b_add, b_sub, b_mul, b_lss, b_gtr, b_leq, b_geq, b_eql, b_neq, ty3, i3, si3, ty4, i4, si4, ty23, i23, si23, ty24, i24, si24, ty25, i25, si25, ty29, i29, si29, ty32, i32, si32, t0] <;> with_reducible rfl)) rfl rfl (g := 17) (vs := [vm]) (by simp only [calleeE, sA, rho, rhos, T.get_set, Nat.reduceEqDiff, u_notB, b_eqlB, b_neqB, b_add, b_sub, b_mul, b_lss, b_gtr, b_leq, b_geq, b_eql, b_neq, ty3, i3, si3, ty4, i4, si4, ty23, i23, si23, ty24, i24, si24, ty25, i25, si25, ty29, i29, si29, ty32, i32, si32, t0]; rfl) (by first | rfl | assumption) rfl rfl (fun lc hlc => (right_run hm hF).mono fun v s' hq => ?_)
        obtain ⟨rfl, br, rfl, hbr⟩ := hq
        cases br with
        | false =>
          repeat (first | (refine CodeR.seq ?_) | (refine CodeR.reg rfl ?_) | (refine CodeR.regD rfl rfl rfl ?_) | (refine SeqR.done ?_) | (refine CodeR.block ?_) | (refine CodeR.skip ?_) | (refine CodeR.exit ?_; simp only [sA, Ex.then, Ex.inBlock, Nat.reduceEqDiff]) | (first | (refine SeqR.skipN ?_ rfl rfl ?_; (simp only [sA, wantE, T.get_set, Nat.reduceEqDiff] <;> with_reducible rfl)) | ((first | refine SeqR.stepN (v := ?_) (s' := ?_) rfl ?_ rfl ?_ rfl rfl ?_ | refine SeqR.stepLN (v := ?_) (s' := ?_) rfl ?_ rfl ?_ rfl rfl ?_); rotate_left 3; (intro call lc; simp only [sA, opE, kindOf, pureE, heapE, rho, rhos, T.get_set, Nat.reduceEqDiff, nb00, absV, absS, l_slice, l_void, l_str, l_arr, natE, loadE, isConst, TK.agg, u_notB, b_eqlB, b_neqB, b_add, b_sub, b_mul, b_lss, b_gtr, b_leq, b_geq, b_eql, b_neq, ty3, i3, si3, ty4, i4, si4, ty23, i23, si23, ty24, i24, si24, ty25, i25, si25, ty29, i29, si29, ty32, i32, si32] <;> rfl); rotate_left 1; (simp only [sA, wantE, T.get_set, Nat.reduceEqDiff] <;> with_reducible rfl))))
          refine ⟨rfl, rfl, _, false, rfl, ?_, ?_, ?_, ?_, ?_⟩
          simp only [T.get_set, Nat.reduceEqDiff, if_true, if_false, t0]
          simp only [T.get_set, Nat.reduceEqDiff, if_true, if_false, t1]
          simp only [T.get_set, Nat.reduceEqDiff, if_true, if_false, t2]
          simp only [T.get_set, Nat.reduceEqDiff, if_true, if_false]
          · simp only [Bool.false_eq_true, false_iff]; intro h; have := hbr.2 h.1; cases this
        | true =>
        repeat (first | (refine CodeR.seq ?_) | (refine CodeR.reg rfl ?_) | (refine CodeR.regD rfl rfl rfl ?_) | (refine SeqR.done ?_) | (refine CodeR.block ?_) | (refine CodeR.skip ?_) | (refine CodeR.exit ?_; simp only [sA, Ex.then, Ex.inBlock, Nat.reduceEqDiff]) | (first | (refine SeqR.skipN ?_ rfl rfl ?_; (simp only [sA, wantE, T.get_set, Nat.reduceEqDiff, t1] <;> with_reducible rfl)) | ((first | refine SeqR.stepN (v := ?_) (s' := ?_) rfl ?_ rfl ?_ rfl rfl ?_ | refine SeqR.stepLN (v := ?_) (s' := ?_) rfl ?_ rfl ?_ rfl rfl ?_); rotate_left 3; (intro call lc; simp only [sA, opE, kindOf, pureE, heapE, rho, rhos, T.get_set, Nat.reduceEqDiff, nb00, absV, absS, l_slice, l_void, l_str, l_arr, natE, loadE, isConst, TK.agg, u_notB, b_eqlB, b_neqB, b_add, b_sub, b_mul, b_lss, b_gtr, b_leq, b_geq, b_eql, b_neq, ty3, i3, si3, ty4, i4, si4, ty23, i23, si23, ty24, i24, si24, ty25, i25, si25, ty29, i29, si29, ty32, i32, si32, t1] <;> rfl); rotate_left 1; (simp only [sA, wantE, T.get_set, Nat.reduceEqDiff, t1] <;> with_reducible rfl))))
        refine SeqR.callN (by first | with_reducible rfl | (simp only [sA, wantE, T.get_set, Nat.reduceEqDiff, u_notB, b_eqlB, b_neqB, b_add, b_sub, b_mul, b_lss, b_gtr, b_leq, b_geq, b_eql, b_neq, ty3, i3, si3, ty4, i4, si4, ty23, i23, si23, ty24, i24, si24, ty25, i25, si25, ty29, i29, si29, ty32, i32, si32, t1] <;> with_reducible rfl)) rfl rfl (g := 18) (vs := [vk]) (by simp only [calleeE, sA, rho, rhos, T.get_set, Nat.reduceEqDiff, u_notB, b_eqlB, b_neqB, b_add, b_sub, b_mul, b_lss, b_gtr, b_leq, b_geq, b_eql, b_neq, ty3, i3, si3, ty4, i4, si4, ty23, i23, si23, ty24, i24, si24, ty25, i25, si25, ty29, i29, si29, ty32, i32, si32, t1]; rfl) (by first | rfl | assumption) rfl rfl (fun lc hlc => (rowRight_run hk hF (by omega)).mono fun v s' hq => ?_)
        obtain ⟨rfl, bk, rfl, hbk⟩ := hq
        cases bk with
        | false =>
          repeat (first | (refine CodeR.seq ?_) | (refine CodeR.reg rfl ?_) | (refine CodeR.regD rfl rfl rfl ?_) | (refine SeqR.done ?_) | (refine CodeR.block ?_) | (refine CodeR.skip ?_) | (refine CodeR.exit ?_; simp only [sA, Ex.then, Ex.inBlock, Nat.reduceEqDiff]) | (first | (refine SeqR.skipN ?_ rfl rfl ?_; (simp only [sA, wantE, T.get_set, Nat.reduceEqDiff] <;> with_reducible rfl)) | ((first | refine SeqR.stepN (v := ?_) (s' := ?_) rfl ?_ rfl ?_ rfl rfl ?_ | refine SeqR.stepLN (v := ?_) (s' := ?_) rfl ?_ rfl ?_ rfl rfl ?_); rotate_left 3; (intro call lc; simp only [sA, opE, kindOf, pureE, heapE, rho, rhos, T.get_set, Nat.reduceEqDiff, nb00, absV, absS, l_slice, l_void, l_str, l_arr, natE, loadE, isConst, TK.agg, u_notB, b_eqlB, b_neqB, b_add, b_sub, b_mul, b_lss, b_gtr, b_leq, b_geq, b_eql, b_neq, ty3, i3, si3, ty4, i4, si4, ty23, i23, si23, ty24, i24, si24, ty25, i25, si25, ty29, i29, si29, ty32, i32, si32] <;> rfl); rotate_left 1; (simp only [sA, wantE, T.get_set, Nat.reduceEqDiff] <;> with_reducible rfl))))
          refine ⟨rfl, rfl, _, false, rfl, ?_, ?_, ?_, ?_, ?_⟩
          simp only [T.get_set, Nat.reduceEqDiff, if_true, if_false, t0]
          simp only [T.get_set, Nat.reduceEqDiff, if_true, if_false, t1]
          simp only [T.get_set, Nat.reduceEqDiff, if_true, if_false, t2]
          simp only [T.get_set, Nat.reduceEqDiff, if_true, if_false]
          · simp only [Bool.false_eq_true, false_iff]; intro h; have := hbk.2 h.2.2.2.1; cases this
        | true =>
        repeat (first | (refine CodeR.seq ?_) | (refine CodeR.reg rfl ?_) | (refine CodeR.regD rfl rfl rfl ?_) | (refine SeqR.done ?_) | (refine CodeR.block ?_) | (refine CodeR.skip ?_) | (refine CodeR.exit ?_; simp only [sA, Ex.then, Ex.inBlock, Nat.reduceEqDiff]) | (first | (refine SeqR.skipN ?_ rfl rfl ?_; (simp only [sA, wantE, T.get_set, Nat.reduceEqDiff, t2] <;> with_reducible rfl)) | ((first | refine SeqR.stepN (v := ?_) (s' := ?_) rfl ?_ rfl ?_ rfl rfl ?_ | refine SeqR.stepLN (v := ?_) (s' := ?_) rfl ?_ rfl ?_ rfl rfl ?_); rotate_left 3; (intro call lc; simp only [sA, opE, kindOf, pureE, heapE, rho, rhos, T.get_set, Nat.reduceEqDiff, nb00, absV, absS, l_slice, l_void, l_str, l_arr, natE, loadE, isConst, TK.agg, u_notB, b_eqlB, b_neqB, b_add, b_sub, b_mul, b_lss, b_gtr, b_leq, b_geq, b_eql, b_neq, ty3, i3, si3, ty4, i4, si4, ty23, i23, si23, ty24, i24, si24, ty25, i25, si25, ty29, i29, si29, ty32, i32, si32, t2] <;> rfl); rotate_left 1; (simp only [sA, wantE, T.get_set, Nat.reduceEqDiff, t2] <;> with_reducible rfl))))
        refine SeqR.callN (by first | with_reducible rfl | (simp only [sA, wantE, T.get_set, Nat.reduceEqDiff, u_notB, b_eqlB, b_neqB, b_add, b_sub, b_mul, b_lss, b_gtr, b_leq, b_geq, b_eql, b_neq, ty3, i3, si3, ty4, i4, si4, ty23, i23, si23, ty24, i24, si24, ty25, i25, si25, ty29, i29, si29, ty32, i32, si32, t2] <;> with_reducible rfl)) rfl rfl (g := 18) (vs := [vx]) (by simp only [calleeE, sA, rho, rhos, T.get_set, Nat.reduceEqDiff, u_notB, b_eqlB, b_neqB, b_add, b_sub, b_mul, b_lss, b_gtr, b_leq, b_geq, b_eql, b_neq, ty3, i3, si3, ty4, i4, si4, ty23, i23, si23, ty24, i24, si24, ty25, i25, si25, ty29, i29, si29, ty32, i32, si32, t2]; rfl) (by first | rfl | assumption) rfl rfl (fun lc hlc => (rowRight_run hx hF (by omega)).mono fun v s' hq => ?_)
        obtain ⟨rfl, bx, rfl, hbx⟩ := hq
        cases bx with
        | false =>
          repeat (first | (refine CodeR.seq ?_) | (refine CodeR.reg rfl ?_) | (refine CodeR.regD rfl rfl rfl ?_) | (refine SeqR.done ?_) | (refine CodeR.block ?_) | (refine CodeR.skip ?_) | (refine CodeR.exit ?_; simp only [sA, Ex.then, Ex.inBlock, Nat.reduceEqDiff]) | (first | (refine SeqR.skipN ?_ rfl rfl ?_; (simp only [sA, wantE, T.get_set, Nat.reduceEqDiff] <;> with_reducible rfl)) | ((first | refine SeqR.stepN (v := ?_) (s' := ?_) rfl ?_ rfl ?_ rfl rfl ?_ | refine SeqR.stepLN (v := ?_) (s' := ?_) rfl ?_ rfl ?_ rfl rfl ?_); rotate_left 3; (intro call lc; simp only [sA, opE, kindOf, pureE, heapE, rho, rhos, T.get_set, Nat.reduceEqDiff, nb00, absV, absS, l_slice, l_void, l_str, l_arr, natE, loadE, isConst, TK.agg, u_notB, b_eqlB, b_neqB, b_add, b_sub, b_mul, b_lss, b_gtr, b_leq, b_geq, b_eql, b_neq, ty3, i3, si3, ty4, i4, si4, ty23, i23, si23, ty24, i24, si24, ty25, i25, si25, ty29, i29, si29, ty32, i32, si32] <;> rfl); rotate_left 1; (simp only [sA, wantE, T.get_set, Nat.reduceEqDiff] <;> with_reducible rfl))))
          refine ⟨rfl, rfl, _, false, rfl, ?_, ?_, ?_, ?_, ?_⟩
          simp only [T.get_set, Nat.reduceEqDiff, if_true, if_false, t0]
          simp only [T.get_set, Nat.reduceEqDiff, if_true, if_false, t1]
          simp only [T.get_set, Nat.reduceEqDiff, if_true, if_false, t2]
          simp only [T.get_set, Nat.reduceEqDiff, if_true, if_false]
          · simp only [Bool.false_eq_true, false_iff]; intro h; have := hbx.2 h.2.2.2.2; cases this
        | true =>
        have e0 : eqB (Int.ofNat m.length) 0 = decide (m.length = 0) := eqB_nat _ 0
        by_cases c1 : k.length = m.length
        case neg =>
          have d1 : decide (k.length = m.length) = false := by simpa using c1
          repeat (first | (refine CodeR.seq ?_) | (refine CodeR.reg rfl ?_) | (refine CodeR.regD rfl rfl rfl ?_) | (refine SeqR.done ?_) | (refine CodeR.block ?_) | (refine CodeR.skip ?_) | (refine CodeR.exit ?_; simp only [sA, Ex.then, Ex.inBlock, Nat.reduceEqDiff]) | (first | (refine SeqR.skipN ?_ rfl rfl ?_; (simp only [sA, wantE, T.get_set, Nat.reduceEqDiff, t0, t1, ldm, ldk, eqB_nat, d1] <;> with_reducible rfl)) | ((first | refine SeqR.stepN (v := ?_) (s' := ?_) rfl ?_ rfl ?_ rfl rfl ?_ | refine SeqR.stepLN (v := ?_) (s' := ?_) rfl ?_ rfl ?_ rfl rfl ?_); rotate_left 3; (intro call lc; simp only [sA, opE, kindOf, pureE, heapE, rho, rhos, T.get_set, Nat.reduceEqDiff, nb00, absV, absS, l_slice, l_void, l_str, l_arr, natE, loadE, isConst, TK.agg, u_notB, b_eqlB, b_neqB, b_add, b_sub, b_mul, b_lss, b_gtr, b_leq, b_geq, b_eql, b_neq, ty3, i3, si3, ty4, i4, si4, ty23, i23, si23, ty24, i24, si24, ty25, i25, si25, ty29, i29, si29, ty32, i32, si32, t0, t1, ldm, ldk, eqB_nat, d1] <;> rfl); rotate_left 1; (simp only [sA, wantE, T.get_set, Nat.reduceEqDiff, t0, t1, ldm, ldk, eqB_nat, d1] <;> with_reducible rfl))))
          refine ⟨rfl, rfl, _, false, rfl, ?_, ?_, ?_, ?_, ?_⟩
          simp only [T.get_set, Nat.reduceEqDiff, if_true, if_false, t0]
          simp only [T.get_set, Nat.reduceEqDiff, if_true, if_false, t1]
          simp only [T.get_set, Nat.reduceEqDiff, if_true, if_false, t2]
          simp only [T.get_set, Nat.reduceEqDiff, if_true, if_false]
          · simp only [Bool.false_eq_true, false_iff]; intro h; exact c1 h.2.1
        have d1 : decide (k.length = m.length) = true := by simpa using c1
        by_cases c2 : m.length = 0
        · have d2 : decide (m.length = 0) = true := by simpa using c2
          repeat (first | (refine CodeR.seq ?_) | (refine CodeR.reg rfl ?_) | (refine CodeR.regD rfl rfl rfl ?_) | (refine SeqR.done ?_) | (refine CodeR.block ?_) | (refine CodeR.skip ?_) | (refine CodeR.exit ?_; simp only [sA, Ex.then, Ex.inBlock, Nat.reduceEqDiff]) | (first | (refine SeqR.skipN ?_ rfl rfl ?_; (simp only [sA, wantE, T.get_set, Nat.reduceEqDiff, t0, t1, t2, ldm, ldk, ldx, e0, d2, eqB_nat, d1] <;> with_reducible rfl)) | ((first | refine SeqR.stepN (v := ?_) (s' := ?_) rfl ?_ rfl ?_ rfl rfl ?_ | refine SeqR.stepLN (v := ?_) (s' := ?_) rfl ?_ rfl ?_ rfl rfl ?_); rotate_left 3; (intro call lc; simp only [sA, opE, kindOf, pureE, heapE, rho, rhos, T.get_set, Nat.reduceEqDiff, nb00, absV, absS, l_slice, l_void, l_str, l_arr, natE, loadE, isConst, TK.agg, u_notB, b_eqlB, b_neqB, b_add, b_sub, b_mul, b_lss, b_gtr, b_leq, b_geq, b_eql, b_neq, ty3, i3, si3, ty4, i4, si4, ty23, i23, si23, ty24, i24, si24, ty25, i25, si25, ty29, i29, si29, ty32, i32, si32, t0, t1, t2, ldm, ldk, ldx, e0, d2, eqB_nat, d1] <;> rfl); rotate_left 1; (simp only [sA, wantE, T.get_set, Nat.reduceEqDiff, t0, t1, t2, ldm, ldk, ldx, e0, d2, eqB_nat, d1] <;> with_reducible rfl))))
          refine ⟨rfl, rfl, _, true, rfl, ?_, ?_, ?_, ?_, ?_⟩
          simp only [T.get_set, Nat.reduceEqDiff, if_true, if_false, t0]
          simp only [T.get_set, Nat.reduceEqDiff, if_true, if_false, t1]
          simp only [T.get_set, Nat.reduceEqDiff, if_true, if_false, t2]
          simp only [T.get_set, Nat.reduceEqDiff, if_true, if_false]
          · simp only [true_iff]; exact ⟨hbr.1 rfl, c1, fun h => absurd c2 h, hbk.1 rfl, hbx.1 rfl⟩
        · have d2 : decide (m.length = 0) = false := by simpa using c2
          obtain ⟨b', o, n, c, q, kk, r, rfl, f1, f2, f3, f4⟩ := hm.row (i := 0) (by omega)
          have f9 : Nat.blt b' s.c = true := blt_iff.2 (hF.lt b' kk f2)
          rw [Nat.add_zero] at f3
          have lr := lenR f4 3
          repeat (first | (refine CodeR.seq ?_) | (refine CodeR.reg rfl ?_) | (refine CodeR.regD rfl rfl rfl ?_) | (refine SeqR.done ?_) | (refine CodeR.block ?_) | (refine CodeR.skip ?_) | (refine CodeR.exit ?_; simp only [sA, Ex.then, Ex.inBlock, Nat.reduceEqDiff]) | (first | (refine SeqR.skipN ?_ rfl rfl ?_; (simp only [sA, wantE, T.get_set, Nat.reduceEqDiff, t0, t1, t2, ldm, ldk, ldx, e0, d2, eqB_nat, d1, f1, f2, f3, f9, lr] <;> with_reducible rfl)) | ((first | refine SeqR.stepN (v := ?_) (s' := ?_) rfl ?_ rfl ?_ rfl rfl ?_ | refine SeqR.stepLN (v := ?_) (s' := ?_) rfl ?_ rfl ?_ rfl rfl ?_); rotate_left 3; (intro call lc; simp only [sA, opE, kindOf, pureE, heapE, rho, rhos, T.get_set, Nat.reduceEqDiff, nb00, absV, absS, l_slice, l_void, l_str, l_arr, natE, loadE, isConst, TK.agg, u_notB, b_eqlB, b_neqB, b_add, b_sub, b_mul, b_lss, b_gtr, b_leq, b_geq, b_eql, b_neq, ty3, i3, si3, ty4, i4, si4, ty23, i23, si23, ty24, i24, si24, ty25, i25, si25, ty29, i29, si29, ty32, i32, si32, t0, t1, t2, ldm, ldk, ldx, e0, d2, eqB_nat, d1, f1, f2, f3, f9, lr] <;> rfl); rotate_left 1; (simp only [sA, wantE, T.get_set, Nat.reduceEqDiff, t0, t1, t2, ldm, ldk, ldx, e0, d2, eqB_nat, d1, f1, f2, f3, f9, lr] <;> with_reducible rfl))))
          refine ⟨rfl, rfl, _, decide (x.length = (m.getD 0 []).length), rfl, ?_, ?_, ?_, ?_, ?_⟩
          simp only [T.get_set, Nat.reduceEqDiff, if_true, if_false, t0]
          simp only [T.get_set, Nat.reduceEqDiff, if_true, if_false, t1]
          simp only [T.get_set, Nat.reduceEqDiff, if_true, if_false, t2]
          simp only [T.get_set, Nat.reduceEqDiff, if_true, if_false]
          · simp only [decide_eq_true_eq]
            exact ⟨fun h => ⟨hbr.1 rfl, c1, fun _ => h, hbk.1 rfl, hbx.1 rfl⟩, fun h => h.2.2.1 c2⟩
      · rintro e m' s' ⟨rfl, rfl, T2, w, rfl, t0, t1, t2, t7, hw⟩
        refine CodeR.seq (CodeR.mono (Q := fun e m' s' => e = .nrm ∧ Fresh s' ∧ Kept s.c s s' ∧ ∃ T1 w, m' = ⟨129, T1⟩ ∧ T1.get 0 = some vm ∧ T1.get 1 = some vk ∧ T1.get 2 = some vx ∧ T1.get 7 = some (.bool w) ∧ (w = true ↔ MemberP m k x)) (CodeR.seq (CodeR.reg rfl ?_)) ?_)
        · (first | (refine SeqR.skipN ?_ rfl rfl ?_; (simp only [sA, wantE, T.get_set, Nat.reduceEqDiff, t7] <;> with_reducible rfl)) | ((first | refine SeqR.stepN (v := ?_) (s' := ?_) rfl ?_ rfl ?_ rfl rfl ?_ | refine SeqR.stepLN (v := ?_) (s' := ?_) rfl ?_ rfl ?_ rfl rfl ?_); rotate_left 3; (intro call lc; simp only [sA, opE, kindOf, pureE, heapE, rho, rhos, T.get_set, Nat.reduceEqDiff, nb00, absV, absS, l_slice, l_void, l_str, l_arr, natE, loadE, isConst, TK.agg, u_notB, b_eqlB, b_neqB, b_add, b_sub, b_mul, b_lss, b_gtr, b_leq, b_geq, b_eql, b_neq, ty3, i3, si3, ty4, i4, si4, ty23, i23, si23, ty24, i24, si24, ty25, i25, si25, ty29, i29, si29, ty32, i32, si32, t7] <;> rfl); rotate_left 1; (simp only [sA, wantE, T.get_set, Nat.reduceEqDiff, t7] <;> with_reducible rfl)))
          refine SeqR.done ?_
          refine CodeR.cond (t := w) (by simp only [sA, rho, T.get_set, Nat.reduceEqDiff, u_notB, b_eqlB, b_neqB, b_add, b_sub, b_mul, b_lss, b_gtr, b_leq, b_geq, b_eql, b_neq, ty3, i3, si3, ty4, i4, si4, ty23, i23, si23, ty24, i24, si24, ty25, i25, si25, ty29, i29, si29, ty32, i32, si32]) ?_ ?_
          · intro hwt
            have hP := hw.1 hwt
            refine CodeR.seq (CodeR.reg rfl ?_)
            iterate 2 (first | (refine SeqR.skipN ?_ rfl rfl ?_; (simp only [sA, wantE, T.get_set, Nat.reduceEqDiff, t2, ldx] <;> with_reducible rfl)) | ((first | refine SeqR.stepN (v := ?_) (s' := ?_) rfl ?_ rfl ?_ rfl rfl ?_ | refine SeqR.stepLN (v := ?_) (s' := ?_) rfl ?_ rfl ?_ rfl rfl ?_); rotate_left 3; (intro call lc; simp only [sA, opE, kindOf, pureE, heapE, rho, rhos, T.get_set, Nat.reduceEqDiff, nb00, absV, absS, l_slice, l_void, l_str, l_arr, natE, loadE, isConst, TK.agg, u_notB, b_eqlB, b_neqB, b_add, b_sub, b_mul, b_lss, b_gtr, b_leq, b_geq, b_eql, b_neq, ty3, i3, si3, ty4, i4, si4, ty23, i23, si23, ty24, i24, si24, ty25, i25, si25, ty29, i29, si29, ty32, i32, si32, t2, ldx] <;> rfl); rotate_left 1; (simp only [sA, wantE, T.get_set, Nat.reduceEqDiff, t2, ldx] <;> with_reducible rfl)))
            refine SeqR.stepN rfl rfl rfl (fun call lc => op_make (n := x.length) (v := .int .i64 0) (by simp only [rho, T.get_set, if_true]) ty25 rfl ty3 rfl rfl (by simp only [i3]; omega) (by omega) call lc _) rfl rfl ?_
            rw [reps_zints]
            have hF1 := fresh_new hF ⟨3, zints (List.replicate x.length 0)⟩
            have hK1 := kept_new (Kept.refl s.c s) (Nat.le_refl _) ⟨3, zints (List.replicate x.length 0)⟩
            have hr1 : RZ (s.h.set s.c ⟨3, zints (List.replicate x.length 0)⟩) (List.replicate x.length 0) (.slice (some (s.c, 0)) x.length x.length 0) := row_own (by rw [T.get_set, if_pos rfl]) x.length (by rw [zints_length]; simp)
            have hc1 : (⟨s.h.set s.c ⟨3, zints (List.replicate x.length 0)⟩, s.c + 1⟩ : St).c = s.c + 1 := rfl
            generalize hs1 : (⟨s.h.set s.c ⟨3, zints (List.replicate x.length 0)⟩, s.c + 1⟩ : St) = s1 at hF1 hK1 hc1 ⊢
            rw [show s.h.set s.c ⟨3, zints (List.replicate x.length 0)⟩ = s1.h by rw [← hs1]] at hr1
            refine SeqR.callN (by first | with_reducible rfl | (simp only [sA, wantE, T.get_set, Nat.reduceEqDiff, u_notB, b_eqlB, b_neqB, b_add, b_sub, b_mul, b_lss, b_gtr, b_leq, b_geq, b_eql, b_neq, ty3, i3, si3, ty4, i4, si4, ty23, i23, si23, ty24, i24, si24, ty25, i25, si25, ty29, i29, si29, ty32, i32, si32] <;> with_reducible rfl)) rfl rfl (g := 19) (vs := [.slice (some (s.c, 0)) x.length x.length 0]) (by simp only [calleeE, sA, rho, rhos, T.get_set, Nat.reduceEqDiff, u_notB, b_eqlB, b_neqB, b_add, b_sub, b_mul, b_lss, b_gtr, b_leq, b_geq, b_eql, b_neq, ty3, i3, si3, ty4, i4, si4, ty23, i23, si23, ty24, i24, si24, ty25, i25, si25, ty29, i29, si29, ty32, i32, si32]; rfl) (by first | rfl | assumption) rfl rfl (fun lc hlc => (ToRow_run hr1 hF1 (lim_lo hlc (by omega)) (by simp; omega) (fun i hi => by rw [List.getD_eq_getElem?_getD, List.getElem?_replicate]; split <;> (unfold I64; decide))).mono fun v s2 hp => ?_)
            obtain ⟨p1, p2, cs, p3, p4, p5⟩ := hp
            have m2 := p2.mono
            have hK2 := hK1.trans (p2.le (by omega))
            have hO2 : Own s.c s2 32 2 cs v := by
              rcases p3 with h | ⟨b, n, h0, h1, h2, h3, h4⟩
              · exact .inl h
              · exact .inr ⟨b, n, h0, by omega, h2, h3, h4⟩
            (first | (refine SeqR.skipN ?_ rfl rfl ?_; (simp only [sA, wantE, T.get_set, Nat.reduceEqDiff] <;> with_reducible rfl)) | ((first | refine SeqR.stepN (v := ?_) (s' := ?_) rfl ?_ rfl ?_ rfl rfl ?_ | refine SeqR.stepLN (v := ?_) (s' := ?_) rfl ?_ rfl ?_ rfl rfl ?_); rotate_left 3; (intro call lc; simp only [sA, opE, kindOf, pureE, heapE, rho, rhos, T.get_set, Nat.reduceEqDiff, nb00, absV, absS, l_slice, l_void, l_str, l_arr, natE, loadE, isConst, TK.agg, u_notB, b_eqlB, b_neqB, b_add, b_sub, b_mul, b_lss, b_gtr, b_leq, b_geq, b_eql, b_neq, ty3, i3, si3, ty4, i4, si4, ty23, i23, si23, ty24, i24, si24, ty25, i25, si25, ty29, i29, si29, ty32, i32, si32] <;> rfl); rotate_left 1; (simp only [sA, wantE, T.get_set, Nat.reduceEqDiff] <;> with_reducible rfl)))
            refine SeqR.done ?_
            refine CodeR.seq (CodeR.seq (CodeR.reg rfl ?_))
            iterate 3 (first | (refine SeqR.skipN ?_ rfl rfl ?_; (simp only [sA, wantE, T.get_set, Nat.reduceEqDiff, t0, ldm] <;> with_reducible rfl)) | ((first | refine SeqR.stepN (v := ?_) (s' := ?_) rfl ?_ rfl ?_ rfl rfl ?_ | refine SeqR.stepLN (v := ?_) (s' := ?_) rfl ?_ rfl ?_ rfl rfl ?_); rotate_left 3; (intro call lc; simp only [sA, opE, kindOf, pureE, heapE, rho, rhos, T.get_set, Nat.reduceEqDiff, nb00, absV, absS, l_slice, l_void, l_str, l_arr, natE, loadE, isConst, TK.agg, u_notB, b_eqlB, b_neqB, b_add, b_sub, b_mul, b_lss, b_gtr, b_leq, b_geq, b_eql, b_neq, ty3, i3, si3, ty4, i4, si4, ty23, i23, si23, ty24, i24, si24, ty25, i25, si25, ty29, i29, si29, ty32, i32, si32, t0, ldm] <;> rfl); rotate_left 1; (simp only [sA, wantE, T.get_set, Nat.reduceEqDiff, t0, ldm] <;> with_reducible rfl)))
            refine SeqR.done ?_
            refine CodeR.block (sum_loop (vx := vx) hm hk hF hlo hP p1 hK2 hO2 p4 p5 ?_ ?_ ?_ ?_ ?_ ?_ ?_ ?_ ⟨_, _, _, _, _, _, _, _, _, rfl⟩)
            simp only [T.get_set, Nat.reduceEqDiff, if_true, if_false, t0]
            simp only [T.get_set, Nat.reduceEqDiff, if_true, if_false, t1]
            simp only [T.get_set, Nat.reduceEqDiff, if_true, if_false, t2]
            simp only [T.get_set, Nat.reduceEqDiff, if_true, if_false]
            simp only [T.get_set, Nat.reduceEqDiff, if_true, if_false]
            simp only [T.get_set, Nat.reduceEqDiff, if_true, if_false]
            simp only [T.get_set, Nat.reduceEqDiff, if_true, if_false]
            · intro T3 s3 cs3 hF3 hK3 hr3 hW3 t0 t1 t2 t8
              simp only [Ex.then, Ex.inBlock, if_true]
              have m3 := hK3.mono
              have hlz : ((List.range x.length).map fun c => comb k m c m.length).length = x.length := by simp
              have hget : ∀ c, c < x.length → ((List.range x.length).map fun c => comb k m c m.length).getD c 0 = comb k m c m.length := fun c hc => by
                rw [List.getD_eq_getElem?_getD, List.getElem?_map, List.getElem?_range hc]; rfl
              have nm : ∀ i, NearR (m.getD i []) := fun i => by
                rcases Nat.lt_or_ge i m.length with h | h
                · exact (hP.1.2 i h).2.2
                · intro j hj
                  rw [List.getD_eq_getElem?_getD, List.getElem?_eq_none h] at hj
                  simp at hj
              generalize hzs : (List.range x.length).map (fun c => comb k m c m.length) = zs at *
              repeat (first | (refine CodeR.seq ?_) | (refine CodeR.reg rfl ?_) | (refine CodeR.regD rfl rfl rfl ?_) | (refine SeqR.done ?_) | (refine CodeR.block ?_) | (refine CodeR.skip ?_) | (refine CodeR.exit ?_; simp only [sA, Ex.then, Ex.inBlock, Nat.reduceEqDiff]) | (first | (refine SeqR.skipN ?_ rfl rfl ?_; (simp only [sA, wantE, T.get_set, Nat.reduceEqDiff, t8] <;> with_reducible rfl)) | ((first | refine SeqR.stepN (v := ?_) (s' := ?_) rfl ?_ rfl ?_ rfl rfl ?_ | refine SeqR.stepLN (v := ?_) (s' := ?_) rfl ?_ rfl ?_ rfl rfl ?_); rotate_left 3; (intro call lc; simp only [sA, opE, kindOf, pureE, heapE, rho, rhos, T.get_set, Nat.reduceEqDiff, nb00, absV, absS, l_slice, l_void, l_str, l_arr, natE, loadE, isConst, TK.agg, u_notB, b_eqlB, b_neqB, b_add, b_sub, b_mul, b_lss, b_gtr, b_leq, b_geq, b_eql, b_neq, ty3, i3, si3, ty4, i4, si4, ty23, i23, si23, ty24, i24, si24, ty25, i25, si25, ty29, i29, si29, ty32, i32, si32, t8] <;> rfl); rotate_left 1; (simp only [sA, wantE, T.get_set, Nat.reduceEqDiff, t8] <;> with_reducible rfl))))
              refine SeqR.callN (by first | with_reducible rfl | (simp only [sA, wantE, T.get_set, Nat.reduceEqDiff, u_notB, b_eqlB, b_neqB, b_add, b_sub, b_mul, b_lss, b_gtr, b_leq, b_geq, b_eql, b_neq, ty3, i3, si3, ty4, i4, si4, ty23, i23, si23, ty24, i24, si24, ty25, i25, si25, ty29, i29, si29, ty32, i32, si32] <;> with_reducible rfl)) rfl rfl (g := 23) (vs := [v]) (by simp only [calleeE, sA, rho, rhos, T.get_set, Nat.reduceEqDiff, u_notB, b_eqlB, b_neqB, b_add, b_sub, b_mul, b_lss, b_gtr, b_leq, b_geq, b_eql, b_neq, ty3, i3, si3, ty4, i4, si4, ty23, i23, si23, ty24, i24, si24, ty25, i25, si25, ty29, i29, si29, ty32, i32, si32]; rfl) (by first | rfl | assumption) rfl rfl (fun lc hlc => (FromRow_run hr3 hW3 hF3 (lim_lo hlc (by omega)) (by omega) (fun i hi => by rw [hget i (by omega)]; have := comb_w (c := i) hP.2.2.2.1 nm (show m.length ≤ 1000 by omega); omega)).mono fun v4 s4 hp => ?_)
              obtain ⟨q1, q2, hq⟩ := hp
              have m4 := q2.mono
              have hK4 := hK3.trans (q2.le m3)
              rcases hq with ⟨hnz, r, rfl, hrz⟩ | ⟨hnz, r, rfl⟩
              · repeat (first | (refine CodeR.seq ?_) | (refine CodeR.reg rfl ?_) | (refine CodeR.regD rfl rfl rfl ?_) | (refine SeqR.done ?_) | (refine CodeR.block ?_) | (refine CodeR.skip ?_) | (refine CodeR.exit ?_; simp only [sA, Ex.then, Ex.inBlock, Nat.reduceEqDiff]) | (first | (refine SeqR.skipN ?_ rfl rfl ?_; (simp only [sA, wantE, T.get_set, Nat.reduceEqDiff, t2] <;> with_reducible rfl)) | ((first | refine SeqR.stepN (v := ?_) (s' := ?_) rfl ?_ rfl ?_ rfl rfl ?_ | refine SeqR.stepLN (v := ?_) (s' := ?_) rfl ?_ rfl ?_ rfl rfl ?_); rotate_left 3; (intro call lc; simp only [sA, opE, kindOf, pureE, heapE, rho, rhos, T.get_set, Nat.reduceEqDiff, nb00, absV, absS, l_slice, l_void, l_str, l_arr, natE, loadE, isConst, TK.agg, u_notB, b_eqlB, b_neqB, b_add, b_sub, b_mul, b_lss, b_gtr, b_leq, b_geq, b_eql, b_neq, ty3, i3, si3, ty4, i4, si4, ty23, i23, si23, ty24, i24, si24, ty25, i25, si25, ty29, i29, si29, ty32, i32, si32, t2] <;> rfl); rotate_left 1; (simp only [sA, wantE, T.get_set, Nat.reduceEqDiff, t2] <;> with_reducible rfl))))
                have hx4 := RZ.keep hx hF.lt hK4
                refine SeqR.callN (by first | with_reducible rfl | (simp only [sA, wantE, T.get_set, Nat.reduceEqDiff, u_notB, b_eqlB, b_neqB, b_add, b_sub, b_mul, b_lss, b_gtr, b_leq, b_geq, b_eql, b_neq, ty3, i3, si3, ty4, i4, si4, ty23, i23, si23, ty24, i24, si24, ty25, i25, si25, ty29, i29, si29, ty32, i32, si32, t2] <;> with_reducible rfl)) rfl rfl (g := 24) (vs := [r, vx]) (by simp only [calleeE, sA, rho, rhos, T.get_set, Nat.reduceEqDiff, u_notB, b_eqlB, b_neqB, b_add, b_sub, b_mul, b_lss, b_gtr, b_leq, b_geq, b_eql, b_neq, ty3, i3, si3, ty4, i4, si4, ty23, i23, si23, ty24, i24, si24, ty25, i25, si25, ty29, i29, si29, ty32, i32, si32, t2]; rfl) (by first | rfl | assumption) rfl rfl (fun lc hlc => (equal24 hrz hx4 q1 (by omega)).mono fun v5 s5 hp => ?_)
                obtain ⟨rfl, be, rfl, hbe⟩ := hp
                repeat (first | (refine CodeR.seq ?_) | (refine CodeR.reg rfl ?_) | (refine CodeR.regD rfl rfl rfl ?_) | (refine SeqR.done ?_) | (refine CodeR.block ?_) | (refine CodeR.skip ?_) | (refine CodeR.exit ?_; simp only [sA, Ex.then, Ex.inBlock, Nat.reduceEqDiff]) | (first | (refine SeqR.skipN ?_ rfl rfl ?_; (simp only [sA, wantE, T.get_set, Nat.reduceEqDiff] <;> with_reducible rfl)) | ((first | refine SeqR.stepN (v := ?_) (s' := ?_) rfl ?_ rfl ?_ rfl rfl ?_ | refine SeqR.stepLN (v := ?_) (s' := ?_) rfl ?_ rfl ?_ rfl rfl ?_); rotate_left 3; (intro call lc; simp only [sA, opE, kindOf, pureE, heapE, rho, rhos, T.get_set, Nat.reduceEqDiff, nb00, absV, absS, l_slice, l_void, l_str, l_arr, natE, loadE, isConst, TK.agg, u_notB, b_eqlB, b_neqB, b_add, b_sub, b_mul, b_lss, b_gtr, b_leq, b_geq, b_eql, b_neq, ty3, i3, si3, ty4, i4, si4, ty23, i23, si23, ty24, i24, si24, ty25, i25, si25, ty29, i29, si29, ty32, i32, si32] <;> rfl); rotate_left 1; (simp only [sA, wantE, T.get_set, Nat.reduceEqDiff] <;> with_reducible rfl))))
                refine ⟨rfl, q1, hK4, _, be, rfl, ?_, ?_, ?_, ?_, ?_⟩
                simp only [T.get_set, Nat.reduceEqDiff, if_true, if_false, t0]
                simp only [T.get_set, Nat.reduceEqDiff, if_true, if_false, t1]
                simp only [T.get_set, Nat.reduceEqDiff, if_true, if_false, t2]
                simp only [T.get_set, Nat.reduceEqDiff, if_true, if_false]
                · rw [hbe, MemberP_pre, hlz]
                  constructor
                  · rintro ⟨_, h⟩
                    exact ⟨hP, fun c hc => by rw [← hget c hc]; exact h c hc⟩
                  · rintro ⟨_, h⟩
                    exact ⟨rfl, fun c hc => by rw [hget c hc]; exact h c hc⟩
              · repeat (first | (refine CodeR.seq ?_) | (refine CodeR.reg rfl ?_) | (refine CodeR.regD rfl rfl rfl ?_) | (refine SeqR.done ?_) | (refine CodeR.block ?_) | (refine CodeR.skip ?_) | (refine CodeR.exit ?_; simp only [sA, Ex.then, Ex.inBlock, Nat.reduceEqDiff]) | (first | (refine SeqR.skipN ?_ rfl rfl ?_; (simp only [sA, wantE, T.get_set, Nat.reduceEqDiff] <;> with_reducible rfl)) | ((first | refine SeqR.stepN (v := ?_) (s' := ?_) rfl ?_ rfl ?_ rfl rfl ?_ | refine SeqR.stepLN (v := ?_) (s' := ?_) rfl ?_ rfl ?_ rfl rfl ?_); rotate_left 3; (intro call lc; simp only [sA, opE, kindOf, pureE, heapE, rho, rhos, T.get_set, Nat.reduceEqDiff, nb00, absV, absS, l_slice, l_void, l_str, l_arr, natE, loadE, isConst, TK.agg, u_notB, b_eqlB, b_neqB, b_add, b_sub, b_mul, b_lss, b_gtr, b_leq, b_geq, b_eql, b_neq, ty3, i3, si3, ty4, i4, si4, ty23, i23, si23, ty24, i24, si24, ty25, i25, si25, ty29, i29, si29, ty32, i32, si32] <;> rfl); rotate_left 1; (simp only [sA, wantE, T.get_set, Nat.reduceEqDiff] <;> with_reducible rfl))))
                refine ⟨rfl, q1, hK4, _, false, rfl, ?_, ?_, ?_, ?_, ?_⟩
                simp only [T.get_set, Nat.reduceEqDiff, if_true, if_false, t0]
                simp only [T.get_set, Nat.reduceEqDiff, if_true, if_false, t1]
                simp only [T.get_set, Nat.reduceEqDiff, if_true, if_false, t2]
                simp only [T.get_set, Nat.reduceEqDiff, if_true, if_false]
                · simp only [Bool.false_eq_true, false_iff, MemberP_pre]
                  rintro ⟨_, h⟩
                  refine hnz fun c hc => ?_
                  rw [hget c (by omega), h c (by omega)]
                  exact hP.2.2.2.2 c (by omega)
          · intro hwf
            refine CodeR.skip ⟨rfl, hF, Kept.refl _ _, _, w, rfl, ?_, ?_, ?_, ?_, ?_⟩
            simp only [T.get_set, Nat.reduceEqDiff, if_true, if_false, t0]
            simp only [T.get_set, Nat.reduceEqDiff, if_true, if_false, t1]
            simp only [T.get_set, Nat.reduceEqDiff, if_true, if_false, t2]
            simp only [T.get_set, Nat.reduceEqDiff, if_true, if_false, t7]
            · rw [hwf]
              simp only [Bool.false_eq_true, false_iff, MemberP_pre]
              rintro ⟨h, _⟩
              have := hw.2 h
              rw [hwf] at this
              cases this
        · rintro e m' s1 ⟨rfl, hF1, hK1, T3, w1, rfl, t0, t1, t2, t7, hw1⟩
          have m1 := hK1.mono
          have hm1 := hm.keep hF.lt hK1
          have hk1 := RZ.keep hk hF.lt hK1
          have hx1 := RZ.keep hx hF.lt hK1
          repeat (first | (refine CodeR.seq ?_) | (refine CodeR.reg rfl ?_) | (refine CodeR.regD rfl rfl rfl ?_) | (refine SeqR.done ?_) | (refine CodeR.block ?_) | (refine CodeR.skip ?_) | (refine CodeR.exit ?_; simp only [sA, Ex.then, Ex.inBlock, Nat.reduceEqDiff]) | (first | (refine SeqR.skipN ?_ rfl rfl ?_; (simp only [sA, wantE, T.get_set, Nat.reduceEqDiff, t0, t1, t2] <;> with_reducible rfl)) | ((first | refine SeqR.stepN (v := ?_) (s' := ?_) rfl ?_ rfl ?_ rfl rfl ?_ | refine SeqR.stepLN (v := ?_) (s' := ?_) rfl ?_ rfl ?_ rfl rfl ?_); rotate_left 3; (intro call lc; simp only [sA, opE, kindOf, pureE, heapE, rho, rhos, T.get_set, Nat.reduceEqDiff, nb00, absV, absS, l_slice, l_void, l_str, l_arr, natE, loadE, isConst, TK.agg, u_notB, b_eqlB, b_neqB, b_add, b_sub, b_mul, b_lss, b_gtr, b_leq, b_geq, b_eql, b_neq, ty3, i3, si3, ty4, i4, si4, ty23, i23, si23, ty24, i24, si24, ty25, i25, si25, ty29, i29, si29, ty32, i32, si32, t0, t1, t2] <;> rfl); rotate_left 1; (simp only [sA, wantE, T.get_set, Nat.reduceEqDiff, t0, t1, t2] <;> with_reducible rfl))))
          refine SeqR.callN (by first | with_reducible rfl | (simp only [sA, wantE, T.get_set, Nat.reduceEqDiff, u_notB, b_eqlB, b_neqB, b_add, b_sub, b_mul, b_lss, b_gtr, b_leq, b_geq, b_eql, b_neq, ty3, i3, si3, ty4, i4, si4, ty23, i23, si23, ty24, i24, si24, ty25, i25, si25, ty29, i29, si29, ty32, i32, si32] <;> with_reducible rfl)) rfl rfl (g := 25) (vs := [vm, vk, vx]) (by simp only [calleeE, sA, rho, rhos, T.get_set, Nat.reduceEqDiff, u_notB, b_eqlB, b_neqB, b_add, b_sub, b_mul, b_lss, b_gtr, b_leq, b_geq, b_eql, b_neq, ty3, i3, si3, ty4, i4, si4, ty23, i23, si23, ty24, i24, si24, ty25, i25, si25, ty29, i29, si29, ty32, i32, si32]; rfl) (by first | rfl | assumption) rfl rfl (fun lc hlc => (Member_run hm1 hk1 hx1 hF1 (lim_lo hlc (by omega)) (by omega) (by omega)).mono fun v s2 hp => ?_)
          obtain ⟨p1, p2, b1, rfl, hb1⟩ := hp
          have m2 := p2.mono
          have hm2 := hm1.keep hF1.lt p2
          have hww : b1 = w1 := by rw [Bool.eq_iff_iff, hb1, hw1]
          subst hww
          have e1 : (b1 == b1) = true := by simp
          repeat (first | (refine CodeR.seq ?_) | (refine CodeR.reg rfl ?_) | (refine CodeR.regD rfl rfl rfl ?_) | (refine SeqR.done ?_) | (refine CodeR.block ?_) | (refine CodeR.skip ?_) | (refine CodeR.exit ?_; simp only [sA, Ex.then, Ex.inBlock, Nat.reduceEqDiff]) | (first | (refine SeqR.skipN ?_ rfl rfl ?_; (simp only [sA, wantE, T.get_set, Nat.reduceEqDiff, t0, t7, e1] <;> with_reducible rfl)) | ((first | refine SeqR.stepN (v := ?_) (s' := ?_) rfl ?_ rfl ?_ rfl rfl ?_ | refine SeqR.stepLN (v := ?_) (s' := ?_) rfl ?_ rfl ?_ rfl rfl ?_); rotate_left 3; (intro call lc; simp only [sA, opE, kindOf, pureE, heapE, rho, rhos, T.get_set, Nat.reduceEqDiff, nb00, absV, absS, l_slice, l_void, l_str, l_arr, natE, loadE, isConst, TK.agg, u_notB, b_eqlB, b_neqB, b_add, b_sub, b_mul, b_lss, b_gtr, b_leq, b_geq, b_eql, b_neq, ty3, i3, si3, ty4, i4, si4, ty23, i23, si23, ty24, i24, si24, ty25, i25, si25, ty29, i29, si29, ty32, i32, si32, t0, t7, e1] <;> rfl); rotate_left 1; (simp only [sA, wantE, T.get_set, Nat.reduceEqDiff, t0, t7, e1] <;> with_reducible rfl))))
          refine SeqR.callN (by first | with_reducible rfl | (simp only [sA, wantE, T.get_set, Nat.reduceEqDiff, u_notB, b_eqlB, b_neqB, b_add, b_sub, b_mul, b_lss, b_gtr, b_leq, b_geq, b_eql, b_neq, ty3, i3, si3, ty4, i4, si4, ty23, i23, si23, ty24, i24, si24, ty25, i25, si25, ty29, i29, si29, ty32, i32, si32, t0, e1] <;> with_reducible rfl)) rfl rfl (g := 26) (vs := [vm]) (by simp only [calleeE, sA, rho, rhos, T.get_set, Nat.reduceEqDiff, u_notB, b_eqlB, b_neqB, b_add, b_sub, b_mul, b_lss, b_gtr, b_leq, b_geq, b_eql, b_neq, ty3, i3, si3, ty4, i4, si4, ty23, i23, si23, ty24, i24, si24, ty25, i25, si25, ty29, i29, si29, ty32, i32, si32, t0, e1]; rfl) (by first | rfl | assumption) rfl rfl (fun lc hlc => (form_run hm2 p1).mono fun v s3 hq => ?_)
          obtain ⟨rfl, b2, rfl, hb2⟩ := hq
          repeat (first | (refine CodeR.seq ?_) | (refine CodeR.reg rfl ?_) | (refine CodeR.regD rfl rfl rfl ?_) | (refine SeqR.done ?_) | (refine CodeR.block ?_) | (refine CodeR.skip ?_) | (refine CodeR.exit ?_; simp only [sA, Ex.then, Ex.inBlock, Nat.reduceEqDiff]) | (first | (refine SeqR.skipN ?_ rfl rfl ?_; (simp only [sA, wantE, T.get_set, Nat.reduceEqDiff, t0, e1] <;> with_reducible rfl)) | ((first | refine SeqR.stepN (v := ?_) (s' := ?_) rfl ?_ rfl ?_ rfl rfl ?_ | refine SeqR.stepLN (v := ?_) (s' := ?_) rfl ?_ rfl ?_ rfl rfl ?_); rotate_left 3; (intro call lc; simp only [sA, opE, kindOf, pureE, heapE, rho, rhos, T.get_set, Nat.reduceEqDiff, nb00, absV, absS, l_slice, l_void, l_str, l_arr, natE, loadE, isConst, TK.agg, u_notB, b_eqlB, b_neqB, b_add, b_sub, b_mul, b_lss, b_gtr, b_leq, b_geq, b_eql, b_neq, ty3, i3, si3, ty4, i4, si4, ty23, i23, si23, ty24, i24, si24, ty25, i25, si25, ty29, i29, si29, ty32, i32, si32, t0, e1] <;> rfl); rotate_left 1; (simp only [sA, wantE, T.get_set, Nat.reduceEqDiff, t0, e1] <;> with_reducible rfl))))
          refine SeqR.callN (by first | with_reducible rfl | (simp only [sA, wantE, T.get_set, Nat.reduceEqDiff, u_notB, b_eqlB, b_neqB, b_add, b_sub, b_mul, b_lss, b_gtr, b_leq, b_geq, b_eql, b_neq, ty3, i3, si3, ty4, i4, si4, ty23, i23, si23, ty24, i24, si24, ty25, i25, si25, ty29, i29, si29, ty32, i32, si32, t0, e1] <;> with_reducible rfl)) rfl rfl (g := 17) (vs := [vm]) (by simp only [calleeE, sA, rho, rhos, T.get_set, Nat.reduceEqDiff, u_notB, b_eqlB, b_neqB, b_add, b_sub, b_mul, b_lss, b_gtr, b_leq, b_geq, b_eql, b_neq, ty3, i3, si3, ty4, i4, si4, ty23, i23, si23, ty24, i24, si24, ty25, i25, si25, ty29, i29, si29, ty32, i32, si32, t0, e1]; rfl) (by first | rfl | assumption) rfl rfl (fun lc hlc => (right_run hm2 p1).mono fun v s3 hq => ?_)
          obtain ⟨rfl, b3, rfl, hb3⟩ := hq
          cases b3 with
          | false =>
            have hb2f : b2 = false := by
              cases b2 with
              | false => rfl
              | true => have := hb3.2 (hb2.1 rfl).1; cases this
            subst hb2f
            have e2 : (false == false) = true := rfl
            repeat (first | (refine CodeR.seq ?_) | (refine CodeR.reg rfl ?_) | (refine CodeR.regD rfl rfl rfl ?_) | (refine SeqR.done ?_) | (refine CodeR.block ?_) | (refine CodeR.skip ?_) | (refine CodeR.exit ?_; simp only [sA, Ex.then, Ex.inBlock, Nat.reduceEqDiff]) | (first | (refine SeqR.skipN ?_ rfl rfl ?_; (simp only [sA, wantE, T.get_set, Nat.reduceEqDiff, e1, e2] <;> with_reducible rfl)) | ((first | refine SeqR.stepN (v := ?_) (s' := ?_) rfl ?_ rfl ?_ rfl rfl ?_ | refine SeqR.stepLN (v := ?_) (s' := ?_) rfl ?_ rfl ?_ rfl rfl ?_); rotate_left 3; (intro call lc; simp only [sA, opE, kindOf, pureE, heapE, rho, rhos, T.get_set, Nat.reduceEqDiff, nb00, absV, absS, l_slice, l_void, l_str, l_arr, natE, loadE, isConst, TK.agg, u_notB, b_eqlB, b_neqB, b_add, b_sub, b_mul, b_lss, b_gtr, b_leq, b_geq, b_eql, b_neq, ty3, i3, si3, ty4, i4, si4, ty23, i23, si23, ty24, i24, si24, ty25, i25, si25, ty29, i29, si29, ty32, i32, si32, e1, e2] <;> rfl); rotate_left 1; (simp only [sA, wantE, T.get_set, Nat.reduceEqDiff, e1, e2] <;> with_reducible rfl))))
            refine CodeR.ret ⟨.inr rfl, [.bool true], by (show ressE E _ _ [.tmp 6] = _; simp only [sA, ressE, resE, T.get_set, Nat.reduceEqDiff, u_notB, b_eqlB, b_neqB, b_add, b_sub, b_mul, b_lss, b_gtr, b_leq, b_geq, b_eql, b_neq, ty3, i3, si3, ty4, i4, si4, ty23, i23, si23, ty24, i24, si24, ty25, i25, si25, ty29, i29, si29, ty32, i32, si32, e1, e2]), ?_⟩
            rfl
          | true =>
            have hR := hb3.1 rfl
            repeat (first | (refine CodeR.seq ?_) | (refine CodeR.reg rfl ?_) | (refine CodeR.regD rfl rfl rfl ?_) | (refine SeqR.done ?_) | (refine CodeR.block ?_) | (refine CodeR.skip ?_) | (refine CodeR.exit ?_; simp only [sA, Ex.then, Ex.inBlock, Nat.reduceEqDiff]) | (first | (refine SeqR.skipN ?_ rfl rfl ?_; (simp only [sA, wantE, T.get_set, Nat.reduceEqDiff, t0, e1] <;> with_reducible rfl)) | ((first | refine SeqR.stepN (v := ?_) (s' := ?_) rfl ?_ rfl ?_ rfl rfl ?_ | refine SeqR.stepLN (v := ?_) (s' := ?_) rfl ?_ rfl ?_ rfl rfl ?_); rotate_left 3; (intro call lc; simp only [sA, opE, kindOf, pureE, heapE, rho, rhos, T.get_set, Nat.reduceEqDiff, nb00, absV, absS, l_slice, l_void, l_str, l_arr, natE, loadE, isConst, TK.agg, u_notB, b_eqlB, b_neqB, b_add, b_sub, b_mul, b_lss, b_gtr, b_leq, b_geq, b_eql, b_neq, ty3, i3, si3, ty4, i4, si4, ty23, i23, si23, ty24, i24, si24, ty25, i25, si25, ty29, i29, si29, ty32, i32, si32, t0, e1] <;> rfl); rotate_left 1; (simp only [sA, wantE, T.get_set, Nat.reduceEqDiff, t0, e1] <;> with_reducible rfl))))
            refine SeqR.callN (by first | with_reducible rfl | (simp only [sA, wantE, T.get_set, Nat.reduceEqDiff, u_notB, b_eqlB, b_neqB, b_add, b_sub, b_mul, b_lss, b_gtr, b_leq, b_geq, b_eql, b_neq, ty3, i3, si3, ty4, i4, si4, ty23, i23, si23, ty24, i24, si24, ty25, i25, si25, ty29, i29, si29, ty32, i32, si32, t0, e1] <;> with_reducible rfl)) rfl rfl (g := 27) (vs := [vm]) (by simp only [calleeE, sA, rho, rhos, T.get_set, Nat.reduceEqDiff, u_notB, b_eqlB, b_neqB, b_add, b_sub, b_mul, b_lss, b_gtr, b_leq, b_geq, b_eql, b_neq, ty3, i3, si3, ty4, i4, si4, ty23, i23, si23, ty24, i24, si24, ty25, i25, si25, ty29, i29, si29, ty32, i32, si32, t0, e1]; rfl) (by first | rfl | assumption) rfl rfl (fun lc hlc => (isForm_run hm2 p1 hR).mono fun v s3 hq => ?_)
            obtain ⟨rfl, b4, rfl, hb4⟩ := hq
            have h24 : b2 = b4 := by rw [Bool.eq_iff_iff, hb2, hb4]; exact ⟨fun h => h.2, fun h => ⟨hR, h⟩⟩
            subst h24
            have e2 : (b2 == b2) = true := by simp
            repeat (first | (refine CodeR.seq ?_) | (refine CodeR.reg rfl ?_) | (refine CodeR.regD rfl rfl rfl ?_) | (refine SeqR.done ?_) | (refine CodeR.block ?_) | (refine CodeR.skip ?_) | (refine CodeR.exit ?_; simp only [sA, Ex.then, Ex.inBlock, Nat.reduceEqDiff]) | (first | (refine SeqR.skipN ?_ rfl rfl ?_; (simp only [sA, wantE, T.get_set, Nat.reduceEqDiff, e1, e2] <;> with_reducible rfl)) | ((first | refine SeqR.stepN (v := ?_) (s' := ?_) rfl ?_ rfl ?_ rfl rfl ?_ | refine SeqR.stepLN (v := ?_) (s' := ?_) rfl ?_ rfl ?_ rfl rfl ?_); rotate_left 3; (intro call lc; simp only [sA, opE, kindOf, pureE, heapE, rho, rhos, T.get_set, Nat.reduceEqDiff, nb00, absV, absS, l_slice, l_void, l_str, l_arr, natE, loadE, isConst, TK.agg, u_notB, b_eqlB, b_neqB, b_add, b_sub, b_mul, b_lss, b_gtr, b_leq, b_geq, b_eql, b_neq, ty3, i3, si3, ty4, i4, si4, ty23, i23, si23, ty24, i24, si24, ty25, i25, si25, ty29, i29, si29, ty32, i32, si32, e1, e2] <;> rfl); rotate_left 1; (simp only [sA, wantE, T.get_set, Nat.reduceEqDiff, e1, e2] <;> with_reducible rfl))))
            refine CodeR.ret ⟨.inr rfl, [.bool true], by (show ressE E _ _ [.tmp 6] = _; simp only [sA, ressE, resE, T.get_set, Nat.reduceEqDiff, u_notB, b_eqlB, b_neqB, b_add, b_sub, b_mul, b_lss, b_gtr, b_leq, b_geq, b_eql, b_neq, ty3, i3, si3, ty4, i4, si4, ty23, i23, si23, ty24, i24, si24, ty25, i25, si25, ty29, i29, si29, ty32, i32, si32, e1, e2]), ?_⟩
            rfl
end Go.Proofs.YtaocoplfdhcoaaaGreatDoor.EvA

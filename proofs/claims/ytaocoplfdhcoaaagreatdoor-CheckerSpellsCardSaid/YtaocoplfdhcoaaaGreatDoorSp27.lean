/- checker.of, plus, less, run. -/
import Derived.Test.YtaocoplfdhcoaaaGreatDoorSp23
import Derived.Test.YtaocoplfdhcoaaaGreatDoorSp24
import Derived.Test.YtaocoplfdhcoaaaGreatDoorSp26
set_option linter.unusedVariables false
set_option linter.unusedSimpArgs false
set_option maxRecDepth 20000
set_option maxHeartbeats 2000000
namespace Go.Proofs.YtaocoplfdhcoaaaGreatDoor.EvA
open Go Go.RowKit Go.Proofs.YtaocoplfdhcoaaaGreatDoor.Ev
theorem fn212' : E.fns.get 212 = some Tryz.f212 := by kernel_rfl
theorem fn215' : E.fns.get 215 = some Tryz.f215 := by kernel_rfl
theorem fn216' : E.fns.get 216 = some Tryz.f216 := by kernel_rfl
theorem of_run {lo n : Nat} {s : St} (hn64 : n < 18446744073709551616) (hF : Fresh s) (hlo : lo ≤ s.c) : FunR E lo 212 [.int .u64 (Int.ofNat n)] s fun v s' => Fresh s' ∧ Kept s.c s s' ∧ NV s'.h n v := by
  refine FunR.body (fn := Tryz.f212) fn212' rfl ?_
  have hn : (max ([.int .u64 (Int.ofNat n)] : List AV).length Tryz.f212.ntmps) = 10 := rfl
  generalize max ([.int .u64 (Int.ofNat n)] : List AV).length Tryz.f212.ntmps = n at hn
  subst hn
  have g0 : (argsT 0 ([.int .u64 (Int.ofNat n)] : List AV)).get 0 = some (.int .u64 (Int.ofNat n)) := rfl
  generalize argsT 0 ([.int .u64 (Int.ofNat n)] : List AV) = T0 at g0 ⊢
  have hn : (10 : Nat) = 10 := rfl
  have w1 := wr_u32 n
  have w2 := wr_u32 (n / 4294967296)
  repeat (first | (refine CodeR.seq ?_) | (refine CodeR.reg rfl ?_) | (refine CodeR.regD rfl rfl rfl ?_) | (refine SeqR.done ?_) | (refine CodeR.block ?_) | (refine CodeR.skip ?_) | (refine CodeR.exit ?_; simp only [sA, Ex.then, Ex.inBlock, Nat.reduceEqDiff]) | (first | (refine SeqR.skipN ?_ rfl rfl ?_; (simp only [sA, wantE, T.get_set, Nat.reduceEqDiff, g0, w1, w2, b_shr32] <;> with_reducible rfl)) | ((first | refine SeqR.stepN (v := ?_) (s' := ?_) rfl ?_ rfl ?_ rfl rfl ?_ | refine SeqR.stepLN (v := ?_) (s' := ?_) rfl ?_ rfl ?_ rfl rfl ?_); rotate_left 3; (intro call lc; simp only [sA, opE, kindOf, pureE, heapE, rho, rhos, T.get_set, Nat.reduceEqDiff, nb00, absV, absS, l_slice, l_void, l_str, l_arr, natE, loadE, isConst, TK.agg, u_notB, b_eqlB, b_neqB, b_add, b_sub, b_mul, b_lss, b_gtr, b_leq, b_geq, b_eql, b_neq, ty2, i2, si2, ty169, i169, si169, ty245, i245, si245, ty283, i283, si283, g0, w1, w2, b_shr32] <;> rfl); rotate_left 1; (simp only [sA, wantE, T.get_set, Nat.reduceEqDiff, g0, w1, w2, b_shr32] <;> with_reducible rfl))))
  refine SeqR.stepN (v := .slice (some (s.c, 0)) 2 2 0) (s' := ⟨s.h.set s.c ⟨245, nats [n % 4294967296, n / 4294967296 % 4294967296]⟩, s.c + 1⟩) rfl rfl rfl (fun call lc => ?_) rfl rfl ?_
  · simp only [opE, kindOf, show Nat.beq 2 0 = false from rfl, cond_false, heapE, ty169, i169, ty245, i245, Option.bind_some, List.toList_toArray, fillE, rho, T.get_set, Nat.reduceEqDiff, if_true, if_false]
    rfl
  have hF1 := fresh_new hF ⟨245, nats [n % 4294967296, n / 4294967296 % 4294967296]⟩
  have hK1 := kept_new (Kept.refl s.c s) (Nat.le_refl _) ⟨245, nats [n % 4294967296, n / 4294967296 % 4294967296]⟩
  have hr : Row (s.h.set s.c ⟨245, nats [n % 4294967296, n / 4294967296 % 4294967296]⟩) 1 (nats [n % 4294967296, n / 4294967296 % 4294967296]) (.slice (some (s.c, 0)) 2 2 0) := row_own (by rw [T.get_set, if_pos rfl]) 2 rfl
  refine SeqR.callN (by first | with_reducible rfl | (simp only [sA, wantE, T.get_set, Nat.reduceEqDiff, u_notB, b_eqlB, b_neqB, b_add, b_sub, b_mul, b_lss, b_gtr, b_leq, b_geq, b_eql, b_neq, ty2, i2, si2, ty169, i169, si169, ty245, i245, si245, ty283, i283, si283] <;> with_reducible rfl)) rfl rfl (g := 302) (vs := [.slice (some (s.c, 0)) 2 2 0]) (by simp only [calleeE, sA, rho, rhos, T.get_set, Nat.reduceEqDiff, u_notB, b_eqlB, b_neqB, b_add, b_sub, b_mul, b_lss, b_gtr, b_leq, b_geq, b_eql, b_neq, ty2, i2, si2, ty169, i169, si169, ty245, i245, si245, ty283, i283, si283]; rfl) (by first | rfl | assumption) rfl rfl (fun lc hlc => (ctrim_run hr hF1 (by simp)).mono fun v s' hq => ?_)
  obtain ⟨rfl, hv⟩ := hq
  repeat (first | (refine CodeR.seq ?_) | (refine CodeR.reg rfl ?_) | (refine CodeR.regD rfl rfl rfl ?_) | (refine SeqR.done ?_) | (refine CodeR.block ?_) | (refine CodeR.skip ?_) | (refine CodeR.exit ?_; simp only [sA, Ex.then, Ex.inBlock, Nat.reduceEqDiff]) | (first | (refine SeqR.skipN ?_ rfl rfl ?_; (simp only [sA, wantE, T.get_set, Nat.reduceEqDiff] <;> with_reducible rfl)) | ((first | refine SeqR.stepN (v := ?_) (s' := ?_) rfl ?_ rfl ?_ rfl rfl ?_ | refine SeqR.stepLN (v := ?_) (s' := ?_) rfl ?_ rfl ?_ rfl rfl ?_); rotate_left 3; (intro call lc; simp only [sA, opE, kindOf, pureE, heapE, rho, rhos, T.get_set, Nat.reduceEqDiff, nb00, absV, absS, l_slice, l_void, l_str, l_arr, natE, loadE, isConst, TK.agg, u_notB, b_eqlB, b_neqB, b_add, b_sub, b_mul, b_lss, b_gtr, b_leq, b_geq, b_eql, b_neq, ty2, i2, si2, ty169, i169, si169, ty245, i245, si245, ty283, i283, si283] <;> rfl); rotate_left 1; (simp only [sA, wantE, T.get_set, Nat.reduceEqDiff] <;> with_reducible rfl))))
  refine CodeR.ret ⟨.inr rfl, [v], by (show ressE E _ _ [.tmp 2] = _; simp only [sA, ressE, resE, T.get_set, Nat.reduceEqDiff, u_notB, b_eqlB, b_neqB, b_add, b_sub, b_mul, b_lss, b_gtr, b_leq, b_geq, b_eql, b_neq, ty2, i2, si2, ty169, i169, si169, ty245, i245, si245, ty283, i283, si283]), ?_⟩
  refine ⟨hF1, hK1, ?_⟩
  have hs : GS 4294967296 [n % 4294967296, n / 4294967296 % 4294967296] := gs_mk (Nat.mod_lt _ (by omega)) (gs_mk (Nat.mod_lt _ (by omega)) fun y hy => by simp at hy)
  have := nv_trim hv hs
  rw [show gval 4294967296 [n % 4294967296, n / 4294967296 % 4294967296] = n by simp only [gval]; omega] at this
  exact this
/-- The state within a run that fills a row of words at block b. -/
structure FS (s : St) (b : Nat) (out : List Nat) (s1 : St) : Prop where
  fresh : Fresh s1
  kept : Kept s.c s s1
  ge : s.c ≤ b
  lt : b < s1.c
  b3 : s1.h.get b = some ⟨245, nats out⟩
theorem FS.put {s s1 : St} {b : Nat} {out : List Nat} (h : FS s b out s1) (j v : Nat) : FS s b (out.set j v) ⟨s1.h.set b ⟨245, (nats out).set j (.int .u32 (Int.ofNat v))⟩, s1.c⟩ := by
  obtain ⟨h1, h2, h3, h4, h5⟩ := h
  exact ⟨fresh_set h1 h4, kept_set h2 h3, h3, h4, by simp only; rw [T.get_set, if_pos rfl, nats_set]⟩
theorem set_at0 (d : List Nat) (o v : Nat) (os : List Nat) : (d ++ o :: os).set d.length v = d ++ v :: os := by
  rw [List.set_append_right _ _ (by omega), Nat.sub_self]
  rfl
theorem get_at0 (d : List Nat) (o : Nat) (os : List Nat) : (nats (d ++ o :: os))[d.length]? = some (.int .u32 (Int.ofNat o)) := by
  refine nats_get ?_
  rw [List.getElem?_append_right (by omega), Nat.sub_self]
  rfl
theorem getD_pad {xs : List Nat} {i : Nat} : (xs ++ [0]).getD i 0 = xs.getD i 0 := by
  rw [List.getD_eq_getElem?_getD, List.getD_eq_getElem?_getD]
  rcases Nat.lt_trichotomy i xs.length with h | h | h
  · rw [List.getElem?_append_left h]
  · subst h
    rw [List.getElem?_append_right (Nat.le_refl _), List.getElem?_eq_none (Nat.le_refl _)]
    simp
  · rw [List.getElem?_eq_none (by simp; omega), List.getElem?_eq_none (by omega)]
theorem nat_lt {xs : List Nat} (h : GS 4294967296 xs) (i : Nat) : xs.getD i 0 < 4294967296 := by
  rw [List.getD_eq_getElem?_getD]
  cases hx : xs[i]? with
  | none => decide
  | some x => exact h x (List.mem_of_getElem? hx)
theorem plus_loop {lo : Nat} {va vb : AV} {xs ys : List Nat} {s : St} (ha : Row s.h 1 (nats xs) va) (hb : Row s.h 1 (nats ys) vb) (hF : Fresh s) (hlo : lo ≤ s.c) (hx : xs.length ≤ 100000) (hxy : ys.length ≤ xs.length) (hsx : GS 4294967296 xs) (hsy : GS 4294967296 ys) {c : Code} {T0 : T AV}
    (g0 : T0.get 0 = some va) (g1 : T0.get 1 = some vb)
    {Q : Ex → Tm → St → Prop} (hQ : ∀ v s' T1, Fresh s' → Kept s.c s s' → NV s'.h (gval 4294967296 xs + gval 4294967296 ys) v → T1.get 4 = some v → Q .ret ⟨56, T1⟩ s') (hc : Tryz.f215.body = some c) {c1 c2 c3 : Code} (e : c = c1.seq (c2.seq c3)) : CodeR E lo c3 ⟨56, T0⟩ s Q := by
  obtain rfl : c3 = _ := by
    have h1 : Tryz.f215.body = some (c1.seq (c2.seq c3)) := by rw [hc, e]
    injection h1 with h2
    injection h2 with h3 h4
    injection h4 with h5 h6
    exact h6.symm
  have hn : (56 : Nat) = 56 := rfl
  have la := lenN ha 245
  have w1 : wr .i64 (Int.ofNat xs.length + 1) = Int.ofNat (xs.length + 1) := wr_add (b := 1) (by omega)
  repeat (first | (refine CodeR.seq ?_) | (refine CodeR.reg rfl ?_) | (refine CodeR.regD rfl rfl rfl ?_) | (refine SeqR.done ?_) | (refine CodeR.block ?_) | (refine CodeR.skip ?_) | (refine CodeR.exit ?_; simp only [sA, Ex.then, Ex.inBlock, Nat.reduceEqDiff]) | (first | (refine SeqR.skipN ?_ rfl rfl ?_; (simp only [sA, wantE, T.get_set, Nat.reduceEqDiff, g0, la, w1] <;> with_reducible rfl)) | ((first | refine SeqR.stepN (v := ?_) (s' := ?_) rfl ?_ rfl ?_ rfl rfl ?_ | refine SeqR.stepLN (v := ?_) (s' := ?_) rfl ?_ rfl ?_ rfl rfl ?_); rotate_left 3; (intro call lc; simp only [sA, opE, kindOf, pureE, heapE, rho, rhos, T.get_set, Nat.reduceEqDiff, nb00, absV, absS, l_slice, l_void, l_str, l_arr, natE, loadE, isConst, TK.agg, u_notB, b_eqlB, b_neqB, b_add, b_sub, b_mul, b_lss, b_gtr, b_leq, b_geq, b_eql, b_neq, ty169, i169, si169, ty245, i245, si245, ty283, i283, si283, g0, la, w1] <;> rfl); rotate_left 1; (simp only [sA, wantE, T.get_set, Nat.reduceEqDiff, g0, la, w1] <;> with_reducible rfl))))
  refine SeqR.stepN rfl rfl rfl (fun call lc => op_make (n := xs.length + 1) (v := .int .u32 0) (by simp only [rho, T.get_set, if_true]) ty169 rfl ty245 rfl rfl (by simp only [i245]; omega) (by omega) call lc _) rfl rfl ?_
  rw [reps_nats]
  have hS : FS s s.c (List.replicate (xs.length + 1) 0) ⟨s.h.set s.c ⟨245, nats (List.replicate (xs.length + 1) 0)⟩, s.c + 1⟩ := ⟨fresh_new hF _, kept_new (Kept.refl _ _) (Nat.le_refl _) _, Nat.le_refl _, by simp, by simp only; rw [T.get_set, if_pos rfl]⟩
  generalize (⟨s.h.set s.c ⟨245, nats (List.replicate (xs.length + 1) 0)⟩, s.c + 1⟩ : St) = s2 at hS ⊢
  repeat (first | (refine CodeR.seq ?_) | (refine CodeR.reg rfl ?_) | (refine CodeR.regD rfl rfl rfl ?_) | (refine SeqR.done ?_) | (refine CodeR.block ?_) | (refine CodeR.skip ?_) | (refine CodeR.exit ?_; simp only [sA, Ex.then, Ex.inBlock, Nat.reduceEqDiff]) | (first | (refine SeqR.skipN ?_ rfl rfl ?_; (simp only [sA, wantE, T.get_set, Nat.reduceEqDiff] <;> with_reducible rfl)) | ((first | refine SeqR.stepN (v := ?_) (s' := ?_) rfl ?_ rfl ?_ rfl rfl ?_ | refine SeqR.stepLN (v := ?_) (s' := ?_) rfl ?_ rfl ?_ rfl rfl ?_); rotate_left 3; (intro call lc; simp only [sA, opE, kindOf, pureE, heapE, rho, rhos, T.get_set, Nat.reduceEqDiff, nb00, absV, absS, l_slice, l_void, l_str, l_arr, natE, loadE, isConst, TK.agg, u_notB, b_eqlB, b_neqB, b_add, b_sub, b_mul, b_lss, b_gtr, b_leq, b_geq, b_eql, b_neq, ty169, i169, si169, ty245, i245, si245, ty283, i283, si283] <;> rfl); rotate_left 1; (simp only [sA, wantE, T.get_set, Nat.reduceEqDiff] <;> with_reducible rfl))))
  have hfit : gval 4294967296 (xs ++ [0]) + 1 * gval 4294967296 ys + 0 < 4294967296 ^ (xs ++ [0]).length := by
    rw [gval_append]
    simp only [gval, Nat.mul_zero, Nat.add_zero, Nat.one_mul, List.length_append, List.length_singleton, Nat.pow_succ]
    have h1 := gval_lt hsx
    have h2 := gval_lt hsy
    have h3 : 4294967296 ^ ys.length ≤ 4294967296 ^ xs.length := Nat.pow_le_pow_right (by omega) hxy
    omega
  refine CodeR.loop (fun k m s1 => ∃ i T1 d c, m = ⟨56, T1⟩ ∧ i + k = xs.length + 1 ∧ d.length = i ∧ FS s s.c (d ++ List.replicate k 0) s1 ∧ d ++ mulRow 4294967296 1 c ((xs ++ [0]).drop i) (ys.drop i) = mulRow 4294967296 1 0 (xs ++ [0]) ys ∧ c ≤ 1 ∧ T1.get 0 = some va ∧ T1.get 1 = some vb ∧ T1.get 5 = some (.slice (some (s.c, 0)) (xs.length + 1) (xs.length + 1) 0) ∧ T1.get 6 = some (.int .u64 (Int.ofNat c)) ∧ T1.get 20 = some (.int .i64 (Int.ofNat (xs.length + 1))) ∧ T1.get 21 = some (.int .i64 (Int.ofNat i))) (xs.length + 1) ?_ ?_
  · refine ⟨0, _, [], 0, rfl, by omega, rfl, hS, rfl, by omega, ?_, ?_, ?_, ?_, ?_, ?_⟩
    simp only [T.get_set, Nat.reduceEqDiff, if_true, if_false, g0]
    simp only [T.get_set, Nat.reduceEqDiff, if_true, if_false, g1]
    simp only [T.get_set, Nat.reduceEqDiff, if_true, if_false]
    simp only [T.get_set, Nat.reduceEqDiff, if_true, if_false]
    · rfl
    simp only [T.get_set, Nat.reduceEqDiff, if_true, if_false]
    simp only [T.get_set, Nat.reduceEqDiff, if_true, if_false]
    · rfl
  · rintro k m s3 ⟨i, T1, d, c, rfl, hik, hd, hM, hrow, hc1, h0, h1, h5, h6, h20, h21⟩
    have ha3 := ha.keep hF.lt hM.kept
    have hb3 := hb.keep hF.lt hM.kept
    have la := lenN ha3 245
    have lb := lenN hb3 245
    have e5 : Nat.blt s.c s3.c = true := blt_iff.2 hM.lt
    repeat (first | (refine CodeR.seq ?_) | (refine CodeR.reg rfl ?_) | (refine CodeR.regD rfl rfl rfl ?_) | (refine SeqR.done ?_) | (refine CodeR.block ?_) | (refine CodeR.skip ?_) | (refine CodeR.exit ?_; simp only [sA, Ex.then, Ex.inBlock, Nat.reduceEqDiff]) | (first | (refine SeqR.skipN ?_ rfl rfl ?_; (simp only [sA, wantE, T.get_set, Nat.reduceEqDiff, h20, h21, ltB_nat] <;> with_reducible rfl)) | ((first | refine SeqR.stepN (v := ?_) (s' := ?_) rfl ?_ rfl ?_ rfl rfl ?_ | refine SeqR.stepLN (v := ?_) (s' := ?_) rfl ?_ rfl ?_ rfl rfl ?_); rotate_left 3; (intro call lc; simp only [sA, opE, kindOf, pureE, heapE, rho, rhos, T.get_set, Nat.reduceEqDiff, nb00, absV, absS, l_slice, l_void, l_str, l_arr, natE, loadE, isConst, TK.agg, u_notB, b_eqlB, b_neqB, b_add, b_sub, b_mul, b_lss, b_gtr, b_leq, b_geq, b_eql, b_neq, ty169, i169, si169, ty245, i245, si245, ty283, i283, si283, h20, h21, ltB_nat] <;> rfl); rotate_left 1; (simp only [sA, wantE, T.get_set, Nat.reduceEqDiff, h20, h21, ltB_nat] <;> with_reducible rfl))))
    refine CodeR.cond (t := decide (i < xs.length + 1)) (by simp only [sA, rho, T.get_set, Nat.reduceEqDiff, u_notB, b_eqlB, b_neqB, b_add, b_sub, b_mul, b_lss, b_gtr, b_leq, b_geq, b_eql, b_neq, ty169, i169, si169, ty245, i245, si245, ty283, i283, si283]) ?_ ?_
    · intro hlt
      have hlt' : i < xs.length + 1 := by simpa using hlt
      obtain ⟨k', rfl⟩ : ∃ k', k = k' + 1 := ⟨k - 1, by omega⟩
      rw [drop_at (xs := xs ++ [0]) (by simpa using hlt') 0, mulRow, getD_pad, List.tail_drop, headD_drop, Nat.one_mul] at hrow
      have hxi := nat_lt hsx i
      have hyi := nat_lt hsy i
      repeat (first | (refine CodeR.seq ?_) | (refine CodeR.reg rfl ?_) | (refine CodeR.regD rfl rfl rfl ?_) | (refine SeqR.done ?_) | (refine CodeR.block ?_) | (refine CodeR.skip ?_) | (refine CodeR.exit ?_; simp only [sA, Ex.then, Ex.inBlock, Nat.reduceEqDiff]) | (first | (refine SeqR.skipN ?_ rfl rfl ?_; (simp only [sA, wantE, T.get_set, Nat.reduceEqDiff, h0, h21, la, ltB_nat] <;> with_reducible rfl)) | ((first | refine SeqR.stepN (v := ?_) (s' := ?_) rfl ?_ rfl ?_ rfl rfl ?_ | refine SeqR.stepLN (v := ?_) (s' := ?_) rfl ?_ rfl ?_ rfl rfl ?_); rotate_left 3; (intro call lc; simp only [sA, opE, kindOf, pureE, heapE, rho, rhos, T.get_set, Nat.reduceEqDiff, nb00, absV, absS, l_slice, l_void, l_str, l_arr, natE, loadE, isConst, TK.agg, u_notB, b_eqlB, b_neqB, b_add, b_sub, b_mul, b_lss, b_gtr, b_leq, b_geq, b_eql, b_neq, ty169, i169, si169, ty245, i245, si245, ty283, i283, si283, h0, h21, la, ltB_nat] <;> rfl); rotate_left 1; (simp only [sA, wantE, T.get_set, Nat.reduceEqDiff, h0, h21, la, ltB_nat] <;> with_reducible rfl))))
      refine CodeR.mono (Q := fun e m' s' => e = .nrm ∧ s3 = s' ∧ ∃ T2, m' = ⟨56, T2⟩ ∧ T2.get 0 = some va ∧ T2.get 1 = some vb ∧ T2.get 5 = some (.slice (some (s.c, 0)) (xs.length + 1) (xs.length + 1) 0) ∧ T2.get 6 = some (.int .u64 (Int.ofNat (c + xs.getD i 0))) ∧ T2.get 20 = some (.int .i64 (Int.ofNat (xs.length + 1))) ∧ T2.get 21 = some (.int .i64 (Int.ofNat i)) ∧ T2.get 7 = some (.int .i64 (Int.ofNat i))) ?_ ?_
      · refine CodeR.cond (t := decide (i < xs.length)) (by simp only [sA, rho, T.get_set, Nat.reduceEqDiff, u_notB, b_eqlB, b_neqB, b_add, b_sub, b_mul, b_lss, b_gtr, b_leq, b_geq, b_eql, b_neq, ty169, i169, si169, ty245, i245, si245, ty283, i283, si283]) ?_ ?_
        · intro hix
          have hix : i < xs.length := by simpa using hix
          obtain ⟨b1, o1, n1, c1, q1, k1, rfl, f1, f2, f3⟩ := Row.nat ha3 hix
          have f4 : Nat.blt b1 s3.c = true := blt_iff.2 (hM.fresh.lt b1 k1 f2)
          have w2 : wr .u64 (Int.ofNat (xs.getD i 0)) = Int.ofNat (xs.getD i 0) := wr_u64 (by omega)
          have w3 : wr .u64 (Int.ofNat c + Int.ofNat (xs.getD i 0)) = Int.ofNat (c + xs.getD i 0) := wr_u64 (by omega)
          repeat (first | (refine CodeR.seq ?_) | (refine CodeR.reg rfl ?_) | (refine CodeR.regD rfl rfl rfl ?_) | (refine SeqR.done ?_) | (refine CodeR.block ?_) | (refine CodeR.skip ?_) | (refine CodeR.exit ?_; simp only [sA, Ex.then, Ex.inBlock, Nat.reduceEqDiff]) | (first | (refine SeqR.skipN ?_ rfl rfl ?_; (simp only [sA, wantE, T.get_set, Nat.reduceEqDiff, h0, h6, f1, f2, f3, f4, w2, w3] <;> with_reducible rfl)) | ((first | refine SeqR.stepN (v := ?_) (s' := ?_) rfl ?_ rfl ?_ rfl rfl ?_ | refine SeqR.stepLN (v := ?_) (s' := ?_) rfl ?_ rfl ?_ rfl rfl ?_); rotate_left 3; (intro call lc; simp only [sA, opE, kindOf, pureE, heapE, rho, rhos, T.get_set, Nat.reduceEqDiff, nb00, absV, absS, l_slice, l_void, l_str, l_arr, natE, loadE, isConst, TK.agg, u_notB, b_eqlB, b_neqB, b_add, b_sub, b_mul, b_lss, b_gtr, b_leq, b_geq, b_eql, b_neq, ty169, i169, si169, ty245, i245, si245, ty283, i283, si283, h0, h6, f1, f2, f3, f4, w2, w3] <;> rfl); rotate_left 1; (simp only [sA, wantE, T.get_set, Nat.reduceEqDiff, h0, h6, f1, f2, f3, f4, w2, w3] <;> with_reducible rfl))))
          refine ⟨rfl, rfl, _, rfl, ?_, ?_, ?_, ?_, ?_, ?_, ?_⟩
          simp only [T.get_set, Nat.reduceEqDiff, if_true, if_false, h0]
          simp only [T.get_set, Nat.reduceEqDiff, if_true, if_false, h1]
          simp only [T.get_set, Nat.reduceEqDiff, if_true, if_false, h5]
          simp only [T.get_set, Nat.reduceEqDiff, if_true, if_false]
          simp only [T.get_set, Nat.reduceEqDiff, if_true, if_false, h20]
          simp only [T.get_set, Nat.reduceEqDiff, if_true, if_false, h21]
          simp only [T.get_set, Nat.reduceEqDiff, if_true, if_false]
        · intro hix
          have hix : ¬ i < xs.length := by simpa using hix
          have hz : xs.getD i 0 = 0 := by rw [List.getD_eq_getElem?_getD, List.getElem?_eq_none (by omega)]; rfl
          refine CodeR.skip ⟨rfl, rfl, _, rfl, ?_, ?_, ?_, ?_, ?_, ?_, ?_⟩
          simp only [T.get_set, Nat.reduceEqDiff, if_true, if_false, h0]
          simp only [T.get_set, Nat.reduceEqDiff, if_true, if_false, h1]
          simp only [T.get_set, Nat.reduceEqDiff, if_true, if_false, h5]
          · simp only [T.get_set, Nat.reduceEqDiff, if_true, if_false, hz, Nat.add_zero, h6]
          simp only [T.get_set, Nat.reduceEqDiff, if_true, if_false, h20]
          simp only [T.get_set, Nat.reduceEqDiff, if_true, if_false, h21]
          simp only [T.get_set, Nat.reduceEqDiff, if_true, if_false]
      · rintro e m' s' ⟨rfl, rfl, T2, rfl, h0, h1, h5, h6, h20, h21, h7⟩
        refine CodeR.seq (CodeR.mono (Q := fun e m' s' => e = .nrm ∧ s3 = s' ∧ ∃ T2, m' = ⟨56, T2⟩ ∧ T2.get 0 = some va ∧ T2.get 1 = some vb ∧ T2.get 5 = some (.slice (some (s.c, 0)) (xs.length + 1) (xs.length + 1) 0) ∧ T2.get 6 = some (.int .u64 (Int.ofNat (c + xs.getD i 0 + ys.getD i 0))) ∧ T2.get 20 = some (.int .i64 (Int.ofNat (xs.length + 1))) ∧ T2.get 21 = some (.int .i64 (Int.ofNat i)) ∧ T2.get 7 = some (.int .i64 (Int.ofNat i))) ?_ ?_)
        · repeat (first | (refine CodeR.seq ?_) | (refine CodeR.reg rfl ?_) | (refine CodeR.regD rfl rfl rfl ?_) | (refine SeqR.done ?_) | (refine CodeR.block ?_) | (refine CodeR.skip ?_) | (refine CodeR.exit ?_; simp only [sA, Ex.then, Ex.inBlock, Nat.reduceEqDiff]) | (first | (refine SeqR.skipN ?_ rfl rfl ?_; (simp only [sA, wantE, T.get_set, Nat.reduceEqDiff, h1, h7, lb, ltB_nat] <;> with_reducible rfl)) | ((first | refine SeqR.stepN (v := ?_) (s' := ?_) rfl ?_ rfl ?_ rfl rfl ?_ | refine SeqR.stepLN (v := ?_) (s' := ?_) rfl ?_ rfl ?_ rfl rfl ?_); rotate_left 3; (intro call lc; simp only [sA, opE, kindOf, pureE, heapE, rho, rhos, T.get_set, Nat.reduceEqDiff, nb00, absV, absS, l_slice, l_void, l_str, l_arr, natE, loadE, isConst, TK.agg, u_notB, b_eqlB, b_neqB, b_add, b_sub, b_mul, b_lss, b_gtr, b_leq, b_geq, b_eql, b_neq, ty169, i169, si169, ty245, i245, si245, ty283, i283, si283, h1, h7, lb, ltB_nat] <;> rfl); rotate_left 1; (simp only [sA, wantE, T.get_set, Nat.reduceEqDiff, h1, h7, lb, ltB_nat] <;> with_reducible rfl))))
          refine CodeR.cond (t := decide (i < ys.length)) (by simp only [sA, rho, T.get_set, Nat.reduceEqDiff, u_notB, b_eqlB, b_neqB, b_add, b_sub, b_mul, b_lss, b_gtr, b_leq, b_geq, b_eql, b_neq, ty169, i169, si169, ty245, i245, si245, ty283, i283, si283]) ?_ ?_
          · intro hix
            have hix : i < ys.length := by simpa using hix
            obtain ⟨b1, o1, n1, c1, q1, k1, rfl, f1, f2, f3⟩ := Row.nat hb3 hix
            have f4 : Nat.blt b1 s3.c = true := blt_iff.2 (hM.fresh.lt b1 k1 f2)
            have w2 : wr .u64 (Int.ofNat (ys.getD i 0)) = Int.ofNat (ys.getD i 0) := wr_u64 (by omega)
            have w3 : wr .u64 (Int.ofNat (c + xs.getD i 0) + Int.ofNat (ys.getD i 0)) = Int.ofNat (c + xs.getD i 0 + ys.getD i 0) := wr_u64 (by omega)
            repeat (first | (refine CodeR.seq ?_) | (refine CodeR.reg rfl ?_) | (refine CodeR.regD rfl rfl rfl ?_) | (refine SeqR.done ?_) | (refine CodeR.block ?_) | (refine CodeR.skip ?_) | (refine CodeR.exit ?_; simp only [sA, Ex.then, Ex.inBlock, Nat.reduceEqDiff]) | (first | (refine SeqR.skipN ?_ rfl rfl ?_; (simp only [sA, wantE, T.get_set, Nat.reduceEqDiff, h1, h6, h7, f1, f2, f3, f4, w2, w3] <;> with_reducible rfl)) | ((first | refine SeqR.stepN (v := ?_) (s' := ?_) rfl ?_ rfl ?_ rfl rfl ?_ | refine SeqR.stepLN (v := ?_) (s' := ?_) rfl ?_ rfl ?_ rfl rfl ?_); rotate_left 3; (intro call lc; simp only [sA, opE, kindOf, pureE, heapE, rho, rhos, T.get_set, Nat.reduceEqDiff, nb00, absV, absS, l_slice, l_void, l_str, l_arr, natE, loadE, isConst, TK.agg, u_notB, b_eqlB, b_neqB, b_add, b_sub, b_mul, b_lss, b_gtr, b_leq, b_geq, b_eql, b_neq, ty169, i169, si169, ty245, i245, si245, ty283, i283, si283, h1, h6, h7, f1, f2, f3, f4, w2, w3] <;> rfl); rotate_left 1; (simp only [sA, wantE, T.get_set, Nat.reduceEqDiff, h1, h6, h7, f1, f2, f3, f4, w2, w3] <;> with_reducible rfl))))
            refine ⟨rfl, rfl, _, rfl, ?_, ?_, ?_, ?_, ?_, ?_, ?_⟩
            simp only [T.get_set, Nat.reduceEqDiff, if_true, if_false, h0]
            simp only [T.get_set, Nat.reduceEqDiff, if_true, if_false, h1]
            simp only [T.get_set, Nat.reduceEqDiff, if_true, if_false, h5]
            simp only [T.get_set, Nat.reduceEqDiff, if_true, if_false]
            simp only [T.get_set, Nat.reduceEqDiff, if_true, if_false, h20]
            simp only [T.get_set, Nat.reduceEqDiff, if_true, if_false, h21]
            simp only [T.get_set, Nat.reduceEqDiff, if_true, if_false, h7]
          · intro hix
            have hix : ¬ i < ys.length := by simpa using hix
            have hz : ys.getD i 0 = 0 := by rw [List.getD_eq_getElem?_getD, List.getElem?_eq_none (by omega)]; rfl
            refine CodeR.skip ⟨rfl, rfl, _, rfl, ?_, ?_, ?_, ?_, ?_, ?_, ?_⟩
            simp only [T.get_set, Nat.reduceEqDiff, if_true, if_false, h0]
            simp only [T.get_set, Nat.reduceEqDiff, if_true, if_false, h1]
            simp only [T.get_set, Nat.reduceEqDiff, if_true, if_false, h5]
            · simp only [T.get_set, Nat.reduceEqDiff, if_true, if_false, hz, Nat.add_zero, h6]
            simp only [T.get_set, Nat.reduceEqDiff, if_true, if_false, h20]
            simp only [T.get_set, Nat.reduceEqDiff, if_true, if_false, h21]
            simp only [T.get_set, Nat.reduceEqDiff, if_true, if_false, h7]
        · rintro e m' s' ⟨rfl, rfl, T3, rfl, h0, h1, h5, h6, h20, h21, h7⟩
          generalize ht : c + xs.getD i 0 + ys.getD i 0 = t at *
          have w4 := wr_u32 t
          have hin : Nat.blt i (xs.length + 1) = true := blt_iff.2 hlt'
          repeat (first | (refine CodeR.seq ?_) | (refine CodeR.reg rfl ?_) | (refine CodeR.regD rfl rfl rfl ?_) | (refine SeqR.done ?_) | (refine CodeR.block ?_) | (refine CodeR.skip ?_) | (refine CodeR.exit ?_; simp only [sA, Ex.then, Ex.inBlock, Nat.reduceEqDiff]) | (first | (refine SeqR.skipN ?_ rfl rfl ?_; (simp only [sA, wantE, T.get_set, Nat.reduceEqDiff, h5, h6, h7, w4, hin] <;> with_reducible rfl)) | ((first | refine SeqR.stepN (v := ?_) (s' := ?_) rfl ?_ rfl ?_ rfl rfl ?_ | refine SeqR.stepLN (v := ?_) (s' := ?_) rfl ?_ rfl ?_ rfl rfl ?_); rotate_left 3; (intro call lc; simp only [sA, opE, kindOf, pureE, heapE, rho, rhos, T.get_set, Nat.reduceEqDiff, nb00, absV, absS, l_slice, l_void, l_str, l_arr, natE, loadE, isConst, TK.agg, u_notB, b_eqlB, b_neqB, b_add, b_sub, b_mul, b_lss, b_gtr, b_leq, b_geq, b_eql, b_neq, ty169, i169, si169, ty245, i245, si245, ty283, i283, si283, h5, h6, h7, w4, hin] <;> rfl); rotate_left 1; (simp only [sA, wantE, T.get_set, Nat.reduceEqDiff, h5, h6, h7, w4, hin] <;> with_reducible rfl))))
          refine SeqR.step0 rfl (fun call lc old => op_put (b := s.c) (o := i) (v := .int .u32 (Int.ofNat (t % 4294967296))) (by simp only [rho, T.get_set, Nat.reduceEqDiff, if_true, if_false]) (by simp only [rho, T.get_set, Nat.reduceEqDiff, if_true, if_false]) rfl si245 hM.b3 (by rw [nats_length]; simp; omega) hlo call lc old) rfl ?_
          have hM5 := hM.put i (t % 4294967296)
          rw [List.replicate_succ, ← hd, set_at0, hd] at hM5
          have w5 : wr .i64 (Int.ofNat i + 1) = Int.ofNat (i + 1) := wr_add (b := 1) (by omega)
          repeat (first | (refine CodeR.seq ?_) | (refine CodeR.reg rfl ?_) | (refine CodeR.regD rfl rfl rfl ?_) | (refine SeqR.done ?_) | (refine CodeR.block ?_) | (refine CodeR.skip ?_) | (refine CodeR.exit ?_; simp only [sA, Ex.then, Ex.inBlock, Nat.reduceEqDiff]) | (first | (refine SeqR.skipN ?_ rfl rfl ?_; (simp only [sA, wantE, T.get_set, Nat.reduceEqDiff, h6, h21, b_shr32, w5] <;> with_reducible rfl)) | ((first | refine SeqR.stepN (v := ?_) (s' := ?_) rfl ?_ rfl ?_ rfl rfl ?_ | refine SeqR.stepLN (v := ?_) (s' := ?_) rfl ?_ rfl ?_ rfl rfl ?_); rotate_left 3; (intro call lc; simp only [sA, opE, kindOf, pureE, heapE, rho, rhos, T.get_set, Nat.reduceEqDiff, nb00, absV, absS, l_slice, l_void, l_str, l_arr, natE, loadE, isConst, TK.agg, u_notB, b_eqlB, b_neqB, b_add, b_sub, b_mul, b_lss, b_gtr, b_leq, b_geq, b_eql, b_neq, ty169, i169, si169, ty245, i245, si245, ty283, i283, si283, h6, h21, b_shr32, w5] <;> rfl); rotate_left 1; (simp only [sA, wantE, T.get_set, Nat.reduceEqDiff, h6, h21, b_shr32, w5] <;> with_reducible rfl))))
          refine ⟨k', by omega, i + 1, _, d ++ [t % 4294967296], t / 4294967296, rfl, by omega, by simp [hd], ?_, ?_, by omega, ?_, ?_, ?_, ?_, ?_, ?_⟩
          · rw [List.append_assoc, List.singleton_append, List.replicate_succ]; exact hM5
          · rw [List.append_assoc, List.singleton_append]; exact hrow
          simp only [T.get_set, Nat.reduceEqDiff, if_true, if_false, h0]
          simp only [T.get_set, Nat.reduceEqDiff, if_true, if_false, h1]
          simp only [T.get_set, Nat.reduceEqDiff, if_true, if_false, h5]
          simp only [T.get_set, Nat.reduceEqDiff, if_true, if_false]
          simp only [T.get_set, Nat.reduceEqDiff, if_true, if_false, h20]
          simp only [T.get_set, Nat.reduceEqDiff, if_true, if_false]
    · intro hge
      have hge' : i = xs.length + 1 := by have : ¬ i < xs.length + 1 := by simpa using hge
                                          omega
      have hk0 : k = 0 := by omega
      subst hk0
      rw [List.drop_eq_nil_of_le (by simp; omega), mulRow, List.append_nil] at hrow
      simp only [List.replicate_zero, List.append_nil] at hM
      rw [hrow] at hM
      have hl := mulRow_length 4294967296 1 0 (xs ++ [0]) ys
      have hr := row_own hM.b3 (xs.length + 1) (by rw [nats_length, hl]; simp)
      have hs := mulRow_small (B := 4294967296) (x := 1) (by omega) 0 (xs ++ [0]) ys
      have hv := mulRow_val (B := 4294967296) (x := 1) (by omega) 0 (xs ++ [0]) ys (by simp; omega) hfit
      rw [gval_append] at hv
      simp only [gval, Nat.mul_zero, Nat.add_zero, Nat.one_mul] at hv
      repeat (first | (refine CodeR.seq ?_) | (refine CodeR.reg rfl ?_) | (refine CodeR.regD rfl rfl rfl ?_) | (refine SeqR.done ?_) | (refine CodeR.block ?_) | (refine CodeR.skip ?_) | (refine CodeR.exit ?_; simp only [sA, Ex.then, Ex.inBlock, Nat.reduceEqDiff]) | (first | (refine SeqR.skipN ?_ rfl rfl ?_; (simp only [sA, wantE, T.get_set, Nat.reduceEqDiff, h5] <;> with_reducible rfl)) | ((first | refine SeqR.stepN (v := ?_) (s' := ?_) rfl ?_ rfl ?_ rfl rfl ?_ | refine SeqR.stepLN (v := ?_) (s' := ?_) rfl ?_ rfl ?_ rfl rfl ?_); rotate_left 3; (intro call lc; simp only [sA, opE, kindOf, pureE, heapE, rho, rhos, T.get_set, Nat.reduceEqDiff, nb00, absV, absS, l_slice, l_void, l_str, l_arr, natE, loadE, isConst, TK.agg, u_notB, b_eqlB, b_neqB, b_add, b_sub, b_mul, b_lss, b_gtr, b_leq, b_geq, b_eql, b_neq, ty169, i169, si169, ty245, i245, si245, ty283, i283, si283, h5] <;> rfl); rotate_left 1; (simp only [sA, wantE, T.get_set, Nat.reduceEqDiff, h5] <;> with_reducible rfl))))
      refine SeqR.callN (by first | with_reducible rfl | (simp only [sA, wantE, T.get_set, Nat.reduceEqDiff, u_notB, b_eqlB, b_neqB, b_add, b_sub, b_mul, b_lss, b_gtr, b_leq, b_geq, b_eql, b_neq, ty169, i169, si169, ty245, i245, si245, ty283, i283, si283] <;> with_reducible rfl)) rfl rfl (g := 302) (vs := [.slice (some (s.c, 0)) (xs.length + 1) (xs.length + 1) 0]) (by simp only [calleeE, sA, rho, rhos, T.get_set, Nat.reduceEqDiff, u_notB, b_eqlB, b_neqB, b_add, b_sub, b_mul, b_lss, b_gtr, b_leq, b_geq, b_eql, b_neq, ty169, i169, si169, ty245, i245, si245, ty283, i283, si283]; rfl) (by first | rfl | assumption) rfl rfl (fun lc hlc => (ctrim_run hr hM.fresh (by rw [hl]; simp; omega)).mono fun v s' hq => ?_)
      obtain ⟨rfl, hv'⟩ := hq
      have := nv_trim hv' hs
      rw [hv] at this
      repeat (first | (refine CodeR.seq ?_) | (refine CodeR.reg rfl ?_) | (refine CodeR.regD rfl rfl rfl ?_) | (refine SeqR.done ?_) | (refine CodeR.block ?_) | (refine CodeR.skip ?_) | (refine CodeR.exit ?_; simp only [sA, Ex.then, Ex.inBlock, Nat.reduceEqDiff]) | (first | (refine SeqR.skipN ?_ rfl rfl ?_; (simp only [sA, wantE, T.get_set, Nat.reduceEqDiff] <;> with_reducible rfl)) | ((first | refine SeqR.stepN (v := ?_) (s' := ?_) rfl ?_ rfl ?_ rfl rfl ?_ | refine SeqR.stepLN (v := ?_) (s' := ?_) rfl ?_ rfl ?_ rfl rfl ?_); rotate_left 3; (intro call lc; simp only [sA, opE, kindOf, pureE, heapE, rho, rhos, T.get_set, Nat.reduceEqDiff, nb00, absV, absS, l_slice, l_void, l_str, l_arr, natE, loadE, isConst, TK.agg, u_notB, b_eqlB, b_neqB, b_add, b_sub, b_mul, b_lss, b_gtr, b_leq, b_geq, b_eql, b_neq, ty169, i169, si169, ty245, i245, si245, ty283, i283, si283] <;> rfl); rotate_left 1; (simp only [sA, wantE, T.get_set, Nat.reduceEqDiff] <;> with_reducible rfl))))
      exact CodeR.ret (hQ v _ _ hM.fresh hM.kept this (by simp only [T.get_set, Nat.reduceEqDiff, if_true, if_false]))
theorem plus_run' {lo a b : Nat} {va vb : AV} {s : St} (ha : NV s.h a va) (hb : NV s.h b vb) (hF : Fresh s) (hlo : lo ≤ s.c) {n : Nat} (hn : n ≤ 100000) (h1 : a < 4294967296 ^ n) (h2 : b < 4294967296 ^ n) :
    FunR E lo 215 [va, vb] s fun v s' => Fresh s' ∧ Kept s.c s s' ∧ NV s'.h (a + b) v := by
  obtain ⟨xs, ra, sa, ta, rfl⟩ := ha
  obtain ⟨ys, rb, sb, tb, rfl⟩ := hb
  have lx := nv_len ta h1
  have ly := nv_len tb h2
  have la := lenN ra 245
  have lb := lenN rb 245
  refine FunR.body (fn := Tryz.f215) fn215' rfl ?_
  have hn : (max ([va, vb] : List AV).length Tryz.f215.ntmps) = 56 := rfl
  generalize max ([va, vb] : List AV).length Tryz.f215.ntmps = n at hn
  subst hn
  have g0 : (argsT 0 ([va, vb] : List AV)).get 0 = some (va) := rfl
  have g1 : (argsT 0 ([va, vb] : List AV)).get 1 = some (vb) := rfl
  generalize argsT 0 ([va, vb] : List AV) = T0 at g0 g1 ⊢
  have hn : (56 : Nat) = 56 := rfl
  refine CodeR.seq (CodeR.reg rfl ?_)
  (first | (refine SeqR.skipN ?_ rfl rfl ?_; (simp only [sA, wantE, T.get_set, Nat.reduceEqDiff] <;> with_reducible rfl)) | ((first | refine SeqR.stepN (v := ?_) (s' := ?_) rfl ?_ rfl ?_ rfl rfl ?_ | refine SeqR.stepLN (v := ?_) (s' := ?_) rfl ?_ rfl ?_ rfl rfl ?_); rotate_left 3; (intro call lc; simp only [sA, opE, kindOf, pureE, heapE, rho, rhos, T.get_set, Nat.reduceEqDiff, nb00, absV, absS, l_slice, l_void, l_str, l_arr, natE, loadE, isConst, TK.agg, u_notB, b_eqlB, b_neqB, b_add, b_sub, b_mul, b_lss, b_gtr, b_leq, b_geq, b_eql, b_neq, ty169, i169, si169, ty245, i245, si245, ty283, i283, si283] <;> rfl); rotate_left 1; (simp only [sA, wantE, T.get_set, Nat.reduceEqDiff] <;> with_reducible rfl)))
  refine SeqR.done ?_
  refine CodeR.seq (CodeR.seq (CodeR.reg rfl ?_))
  iterate 5 (first | (refine SeqR.skipN ?_ rfl rfl ?_; (simp only [sA, wantE, T.get_set, Nat.reduceEqDiff, g0, g1, la, lb, ltB_nat] <;> with_reducible rfl)) | ((first | refine SeqR.stepN (v := ?_) (s' := ?_) rfl ?_ rfl ?_ rfl rfl ?_ | refine SeqR.stepLN (v := ?_) (s' := ?_) rfl ?_ rfl ?_ rfl rfl ?_); rotate_left 3; (intro call lc; simp only [sA, opE, kindOf, pureE, heapE, rho, rhos, T.get_set, Nat.reduceEqDiff, nb00, absV, absS, l_slice, l_void, l_str, l_arr, natE, loadE, isConst, TK.agg, u_notB, b_eqlB, b_neqB, b_add, b_sub, b_mul, b_lss, b_gtr, b_leq, b_geq, b_eql, b_neq, ty169, i169, si169, ty245, i245, si245, ty283, i283, si283, g0, g1, la, lb, ltB_nat] <;> rfl); rotate_left 1; (simp only [sA, wantE, T.get_set, Nat.reduceEqDiff, g0, g1, la, lb, ltB_nat] <;> with_reducible rfl)))
  refine SeqR.done ?_
  refine CodeR.cond (t := decide (xs.length < ys.length)) (by simp only [sA, rho, T.get_set, Nat.reduceEqDiff, u_notB, b_eqlB, b_neqB, b_add, b_sub, b_mul, b_lss, b_gtr, b_leq, b_geq, b_eql, b_neq, ty169, i169, si169, ty245, i245, si245, ty283, i283, si283]) ?_ ?_
  · intro h
    have h : xs.length < ys.length := by simpa using h
    refine CodeR.reg rfl ?_
    iterate 4 (first | (refine SeqR.skipN ?_ rfl rfl ?_; (simp only [sA, wantE, T.get_set, Nat.reduceEqDiff, g0, g1] <;> with_reducible rfl)) | ((first | refine SeqR.stepN (v := ?_) (s' := ?_) rfl ?_ rfl ?_ rfl rfl ?_ | refine SeqR.stepLN (v := ?_) (s' := ?_) rfl ?_ rfl ?_ rfl rfl ?_); rotate_left 3; (intro call lc; simp only [sA, opE, kindOf, pureE, heapE, rho, rhos, T.get_set, Nat.reduceEqDiff, nb00, absV, absS, l_slice, l_void, l_str, l_arr, natE, loadE, isConst, TK.agg, u_notB, b_eqlB, b_neqB, b_add, b_sub, b_mul, b_lss, b_gtr, b_leq, b_geq, b_eql, b_neq, ty169, i169, si169, ty245, i245, si245, ty283, i283, si283, g0, g1] <;> rfl); rotate_left 1; (simp only [sA, wantE, T.get_set, Nat.reduceEqDiff, g0, g1] <;> with_reducible rfl)))
    refine SeqR.done ?_
    refine plus_loop rb ra hF hlo (by omega) (by omega) sb sa (c := _) (T0 := _) ?_ ?_ (fun v s' T1 p1 p2 p3 p4 => ⟨.inr rfl, [v], ?_, p1, p2, ?_⟩) rfl rfl
    simp only [T.get_set, Nat.reduceEqDiff, if_true, if_false, g1]
    simp only [T.get_set, Nat.reduceEqDiff, if_true, if_false, g0]
    · show ressE E T1 s' [.tmp 4] = _
      simp only [ressE, resE, p4, Option.bind_some, Option.map_some]
    · rw [Nat.add_comm]; exact p3
  · intro h
    have h : ¬ xs.length < ys.length := by simpa using h
    refine CodeR.skip ?_
    refine plus_loop ra rb hF hlo (by omega) (by omega) sa sb (c := _) (T0 := _) ?_ ?_ (fun v s' T1 p1 p2 p3 p4 => ⟨.inr rfl, [v], ?_, p1, p2, p3⟩) rfl rfl
    simp only [T.get_set, Nat.reduceEqDiff, if_true, if_false, g0]
    simp only [T.get_set, Nat.reduceEqDiff, if_true, if_false, g1]
    · show ressE E T1 s' [.tmp 4] = _
      simp only [ressE, resE, p4, Option.bind_some, Option.map_some]
theorem less_run {lo a b : Nat} {va vb : AV} {s : St} (ha : NV s.h a va) (hb : NV s.h b vb) (hF : Fresh s) (hlo : lo ≤ s.c) (hba : b ≤ a) {n : Nat} (hn : n ≤ 100000) (h1 : a < 4294967296 ^ n) :
    FunR E lo 216 [va, vb] s fun v s' => Fresh s' ∧ Kept s.c s s' ∧ NV s'.h (a - b) v := by
  obtain ⟨xs, ra, sa, ta, rfl⟩ := ha
  obtain ⟨ys, rb, sb, tb, rfl⟩ := hb
  have lx := nv_len ta h1
  have la := lenN ra 245
  refine FunR.body (fn := Tryz.f216) fn216' rfl ?_
  have hn : (max ([va, vb] : List AV).length Tryz.f216.ntmps) = 47 := rfl
  generalize max ([va, vb] : List AV).length Tryz.f216.ntmps = n at hn
  subst hn
  have g0 : (argsT 0 ([va, vb] : List AV)).get 0 = some (va) := rfl
  have g1 : (argsT 0 ([va, vb] : List AV)).get 1 = some (vb) := rfl
  generalize argsT 0 ([va, vb] : List AV) = T0 at g0 g1 ⊢
  have hn : (47 : Nat) = 47 := rfl
  repeat (first | (refine CodeR.seq ?_) | (refine CodeR.reg rfl ?_) | (refine CodeR.regD rfl rfl rfl ?_) | (refine SeqR.done ?_) | (refine CodeR.block ?_) | (refine CodeR.skip ?_) | (refine CodeR.exit ?_; simp only [sA, Ex.then, Ex.inBlock, Nat.reduceEqDiff]) | (first | (refine SeqR.skipN ?_ rfl rfl ?_; (simp only [sA, wantE, T.get_set, Nat.reduceEqDiff, g0, la] <;> with_reducible rfl)) | ((first | refine SeqR.stepN (v := ?_) (s' := ?_) rfl ?_ rfl ?_ rfl rfl ?_ | refine SeqR.stepLN (v := ?_) (s' := ?_) rfl ?_ rfl ?_ rfl rfl ?_); rotate_left 3; (intro call lc; simp only [sA, opE, kindOf, pureE, heapE, rho, rhos, T.get_set, Nat.reduceEqDiff, nb00, absV, absS, l_slice, l_void, l_str, l_arr, natE, loadE, isConst, TK.agg, u_notB, b_eqlB, b_neqB, b_add, b_sub, b_mul, b_lss, b_gtr, b_leq, b_geq, b_eql, b_neq, ty2, i2, si2, ty169, i169, si169, ty245, i245, si245, g0, la] <;> rfl); rotate_left 1; (simp only [sA, wantE, T.get_set, Nat.reduceEqDiff, g0, la] <;> with_reducible rfl))))
  refine SeqR.stepN rfl rfl rfl (fun call lc => op_make (n := xs.length) (v := .int .u32 0) (by simp only [rho, T.get_set, if_true]) ty169 rfl ty245 rfl rfl (by simp only [i245]; omega) (by omega) call lc _) rfl rfl ?_
  rw [reps_nats]
  have hS : FS s s.c (List.replicate xs.length 0) ⟨s.h.set s.c ⟨245, nats (List.replicate xs.length 0)⟩, s.c + 1⟩ := ⟨fresh_new hF _, kept_new (Kept.refl _ _) (Nat.le_refl _) _, Nat.le_refl _, by simp, by simp only; rw [T.get_set, if_pos rfl]⟩
  have ra1 := ra.keep hF.lt hS.kept
  have la1 := lenN ra1 245
  generalize (⟨s.h.set s.c ⟨245, nats (List.replicate xs.length 0)⟩, s.c + 1⟩ : St) = s2 at hS ra1 ⊢
  repeat (first | (refine CodeR.seq ?_) | (refine CodeR.reg rfl ?_) | (refine CodeR.regD rfl rfl rfl ?_) | (refine SeqR.done ?_) | (refine CodeR.block ?_) | (refine CodeR.skip ?_) | (refine CodeR.exit ?_; simp only [sA, Ex.then, Ex.inBlock, Nat.reduceEqDiff]) | (first | (refine SeqR.skipN ?_ rfl rfl ?_; (simp only [sA, wantE, T.get_set, Nat.reduceEqDiff, g0, la] <;> with_reducible rfl)) | ((first | refine SeqR.stepN (v := ?_) (s' := ?_) rfl ?_ rfl ?_ rfl rfl ?_ | refine SeqR.stepLN (v := ?_) (s' := ?_) rfl ?_ rfl ?_ rfl rfl ?_); rotate_left 3; (intro call lc; simp only [sA, opE, kindOf, pureE, heapE, rho, rhos, T.get_set, Nat.reduceEqDiff, nb00, absV, absS, l_slice, l_void, l_str, l_arr, natE, loadE, isConst, TK.agg, u_notB, b_eqlB, b_neqB, b_add, b_sub, b_mul, b_lss, b_gtr, b_leq, b_geq, b_eql, b_neq, ty2, i2, si2, ty169, i169, si169, ty245, i245, si245, g0, la] <;> rfl); rotate_left 1; (simp only [sA, wantE, T.get_set, Nat.reduceEqDiff, g0, la] <;> with_reducible rfl))))
  refine CodeR.loop (fun k m s1 => ∃ i T1 d c, m = ⟨47, T1⟩ ∧ i + k = xs.length ∧ d.length = i ∧ FS s s.c (d ++ List.replicate k 0) s1 ∧ d ++ subRow 4294967296 c (xs.drop i) (ys.drop i) = subRow 4294967296 0 xs ys ∧ c ≤ 1 ∧ T1.get 0 = some va ∧ T1.get 1 = some vb ∧ T1.get 5 = some (.slice (some (s.c, 0)) xs.length xs.length 0) ∧ T1.get 6 = some (.int .i64 (Int.ofNat c)) ∧ T1.get 13 = some (.int .i64 (Int.ofNat xs.length)) ∧ T1.get 14 = some (.int .i64 (Int.ofNat i))) xs.length ?_ ?_
  · refine ⟨0, _, [], 0, rfl, by omega, rfl, hS, rfl, by omega, ?_, ?_, ?_, ?_, ?_, ?_⟩
    simp only [T.get_set, Nat.reduceEqDiff, if_true, if_false, g0]
    simp only [T.get_set, Nat.reduceEqDiff, if_true, if_false, g1]
    simp only [T.get_set, Nat.reduceEqDiff, if_true, if_false]
    simp only [T.get_set, Nat.reduceEqDiff, if_true, if_false]
    · rfl
    simp only [T.get_set, Nat.reduceEqDiff, if_true, if_false]
    simp only [T.get_set, Nat.reduceEqDiff, if_true, if_false]
    · rfl
  · rintro k m s3 ⟨i, T1, d, c, rfl, hik, hd, hM, hrow, hc1, h0, h1, h5, h6, h13, h14⟩
    have ha3 := ra.keep hF.lt hM.kept
    have hb3 := rb.keep hF.lt hM.kept
    have lb := lenN hb3 245
    repeat (first | (refine CodeR.seq ?_) | (refine CodeR.reg rfl ?_) | (refine CodeR.regD rfl rfl rfl ?_) | (refine SeqR.done ?_) | (refine CodeR.block ?_) | (refine CodeR.skip ?_) | (refine CodeR.exit ?_; simp only [sA, Ex.then, Ex.inBlock, Nat.reduceEqDiff]) | (first | (refine SeqR.skipN ?_ rfl rfl ?_; (simp only [sA, wantE, T.get_set, Nat.reduceEqDiff, h13, h14, ltB_nat] <;> with_reducible rfl)) | ((first | refine SeqR.stepN (v := ?_) (s' := ?_) rfl ?_ rfl ?_ rfl rfl ?_ | refine SeqR.stepLN (v := ?_) (s' := ?_) rfl ?_ rfl ?_ rfl rfl ?_); rotate_left 3; (intro call lc; simp only [sA, opE, kindOf, pureE, heapE, rho, rhos, T.get_set, Nat.reduceEqDiff, nb00, absV, absS, l_slice, l_void, l_str, l_arr, natE, loadE, isConst, TK.agg, u_notB, b_eqlB, b_neqB, b_add, b_sub, b_mul, b_lss, b_gtr, b_leq, b_geq, b_eql, b_neq, ty2, i2, si2, ty169, i169, si169, ty245, i245, si245, h13, h14, ltB_nat] <;> rfl); rotate_left 1; (simp only [sA, wantE, T.get_set, Nat.reduceEqDiff, h13, h14, ltB_nat] <;> with_reducible rfl))))
    refine CodeR.cond (t := decide (i < xs.length)) (by simp only [sA, rho, T.get_set, Nat.reduceEqDiff, u_notB, b_eqlB, b_neqB, b_add, b_sub, b_mul, b_lss, b_gtr, b_leq, b_geq, b_eql, b_neq, ty2, i2, si2, ty169, i169, si169, ty245, i245, si245]) ?_ ?_
    · intro hlt
      have hlt' : i < xs.length := by simpa using hlt
      obtain ⟨k', rfl⟩ : ∃ k', k = k' + 1 := ⟨k - 1, by omega⟩
      rw [drop_at hlt' 0, subRow, List.tail_drop, headD_drop] at hrow
      have hxi := nat_lt sa i
      have hyi := nat_lt sb i
      obtain ⟨b1, o1, n1, c1, q1, k1, rfl, f1, f2, f3⟩ := Row.nat ha3 hlt'
      have f4 : Nat.blt b1 s3.c = true := blt_iff.2 (hM.fresh.lt b1 k1 f2)
      have w2 : wr .i64 (Int.ofNat (xs.getD i 0)) = Int.ofNat (xs.getD i 0) := wr_nat (by omega)
      have w3 : wr .i64 (Int.ofNat (xs.getD i 0) - Int.ofNat c) = Int.ofNat (xs.getD i 0) - Int.ofNat c := wr_small (by simp only [Int.ofNat_eq_natCast]; omega) (by simp only [Int.ofNat_eq_natCast]; omega)
      repeat (first | (refine CodeR.seq ?_) | (refine CodeR.reg rfl ?_) | (refine CodeR.regD rfl rfl rfl ?_) | (refine SeqR.done ?_) | (refine CodeR.block ?_) | (refine CodeR.skip ?_) | (refine CodeR.exit ?_; simp only [sA, Ex.then, Ex.inBlock, Nat.reduceEqDiff]) | (first | (refine SeqR.skipN ?_ rfl rfl ?_; (simp only [sA, wantE, T.get_set, Nat.reduceEqDiff, h0, h1, h6, h14, f1, f2, f3, f4, w2, w3, lb, ltB_nat] <;> with_reducible rfl)) | ((first | refine SeqR.stepN (v := ?_) (s' := ?_) rfl ?_ rfl ?_ rfl rfl ?_ | refine SeqR.stepLN (v := ?_) (s' := ?_) rfl ?_ rfl ?_ rfl rfl ?_); rotate_left 3; (intro call lc; simp only [sA, opE, kindOf, pureE, heapE, rho, rhos, T.get_set, Nat.reduceEqDiff, nb00, absV, absS, l_slice, l_void, l_str, l_arr, natE, loadE, isConst, TK.agg, u_notB, b_eqlB, b_neqB, b_add, b_sub, b_mul, b_lss, b_gtr, b_leq, b_geq, b_eql, b_neq, ty2, i2, si2, ty169, i169, si169, ty245, i245, si245, h0, h1, h6, h14, f1, f2, f3, f4, w2, w3, lb, ltB_nat] <;> rfl); rotate_left 1; (simp only [sA, wantE, T.get_set, Nat.reduceEqDiff, h0, h1, h6, h14, f1, f2, f3, f4, w2, w3, lb, ltB_nat] <;> with_reducible rfl))))
      refine CodeR.mono (Q := fun e m' s' => e = .nrm ∧ s3 = s' ∧ ∃ T2, m' = ⟨47, T2⟩ ∧ T2.get 0 = some (.slice (some (b1, o1)) n1 c1 q1) ∧ T2.get 1 = some vb ∧ T2.get 5 = some (.slice (some (s.c, 0)) xs.length xs.length 0) ∧ T2.get 8 = some (.int .i64 (Int.ofNat (xs.getD i 0) - Int.ofNat (c + ys.getD i 0))) ∧ T2.get 13 = some (.int .i64 (Int.ofNat xs.length)) ∧ T2.get 14 = some (.int .i64 (Int.ofNat i)) ∧ T2.get 7 = some (.int .i64 (Int.ofNat i))) ?_ ?_
      · refine CodeR.cond (t := decide (i < ys.length)) (by simp only [sA, rho, T.get_set, Nat.reduceEqDiff, u_notB, b_eqlB, b_neqB, b_add, b_sub, b_mul, b_lss, b_gtr, b_leq, b_geq, b_eql, b_neq, ty2, i2, si2, ty169, i169, si169, ty245, i245, si245]) ?_ ?_
        · intro hix
          have hix : i < ys.length := by simpa using hix
          obtain ⟨b2, o2, n2, c2, q2, k2, rfl, p1, p2, p3⟩ := Row.nat hb3 hix
          have p4 : Nat.blt b2 s3.c = true := blt_iff.2 (hM.fresh.lt b2 k2 p2)
          have w4 : wr .i64 (Int.ofNat (ys.getD i 0)) = Int.ofNat (ys.getD i 0) := wr_nat (by omega)
          have w5 : wr .i64 (Int.ofNat (xs.getD i 0) - Int.ofNat c - Int.ofNat (ys.getD i 0)) = Int.ofNat (xs.getD i 0) - Int.ofNat (c + ys.getD i 0) := by
            rw [wr_small (by simp only [Int.ofNat_eq_natCast]; omega) (by simp only [Int.ofNat_eq_natCast]; omega)]
            simp only [Int.ofNat_eq_natCast]; omega
          repeat (first | (refine CodeR.seq ?_) | (refine CodeR.reg rfl ?_) | (refine CodeR.regD rfl rfl rfl ?_) | (refine SeqR.done ?_) | (refine CodeR.block ?_) | (refine CodeR.skip ?_) | (refine CodeR.exit ?_; simp only [sA, Ex.then, Ex.inBlock, Nat.reduceEqDiff]) | (first | (refine SeqR.skipN ?_ rfl rfl ?_; (simp only [sA, wantE, T.get_set, Nat.reduceEqDiff, h1, p1, p2, p3, p4, w4, w5] <;> with_reducible rfl)) | ((first | refine SeqR.stepN (v := ?_) (s' := ?_) rfl ?_ rfl ?_ rfl rfl ?_ | refine SeqR.stepLN (v := ?_) (s' := ?_) rfl ?_ rfl ?_ rfl rfl ?_); rotate_left 3; (intro call lc; simp only [sA, opE, kindOf, pureE, heapE, rho, rhos, T.get_set, Nat.reduceEqDiff, nb00, absV, absS, l_slice, l_void, l_str, l_arr, natE, loadE, isConst, TK.agg, u_notB, b_eqlB, b_neqB, b_add, b_sub, b_mul, b_lss, b_gtr, b_leq, b_geq, b_eql, b_neq, ty2, i2, si2, ty169, i169, si169, ty245, i245, si245, h1, p1, p2, p3, p4, w4, w5] <;> rfl); rotate_left 1; (simp only [sA, wantE, T.get_set, Nat.reduceEqDiff, h1, p1, p2, p3, p4, w4, w5] <;> with_reducible rfl))))
          refine ⟨rfl, rfl, _, rfl, ?_, ?_, ?_, ?_, ?_, ?_, ?_⟩
          simp only [T.get_set, Nat.reduceEqDiff, if_true, if_false, h0]
          simp only [T.get_set, Nat.reduceEqDiff, if_true, if_false, h1]
          simp only [T.get_set, Nat.reduceEqDiff, if_true, if_false, h5]
          simp only [T.get_set, Nat.reduceEqDiff, if_true, if_false]
          simp only [T.get_set, Nat.reduceEqDiff, if_true, if_false, h13]
          simp only [T.get_set, Nat.reduceEqDiff, if_true, if_false, h14]
          simp only [T.get_set, Nat.reduceEqDiff, if_true, if_false]
        · intro hix
          have hix : ¬ i < ys.length := by simpa using hix
          have hz : ys.getD i 0 = 0 := by rw [List.getD_eq_getElem?_getD, List.getElem?_eq_none (by omega)]; rfl
          refine CodeR.skip ⟨rfl, rfl, _, rfl, ?_, ?_, ?_, ?_, ?_, ?_, ?_⟩
          simp only [T.get_set, Nat.reduceEqDiff, if_true, if_false, h0]
          simp only [T.get_set, Nat.reduceEqDiff, if_true, if_false, h1]
          simp only [T.get_set, Nat.reduceEqDiff, if_true, if_false, h5]
          · simp only [T.get_set, Nat.reduceEqDiff, if_true, if_false, hz, Nat.add_zero]
          simp only [T.get_set, Nat.reduceEqDiff, if_true, if_false, h13]
          simp only [T.get_set, Nat.reduceEqDiff, if_true, if_false, h14]
          simp only [T.get_set, Nat.reduceEqDiff, if_true, if_false]
      · rintro e m' s' ⟨rfl, rfl, T2, rfl, h0, h1, h5, h8, h13, h14, h7⟩
        generalize hx : xs.getD i 0 = x at *
        generalize hy : ys.getD i 0 = y at *
        have e0 : ltB (Int.ofNat x - Int.ofNat (c + y)) 0 = decide (x < c + y) := by
          rw [ltB_eq]
          simp only [Int.ofNat_eq_natCast, decide_eq_decide]
          omega
        repeat (first | (refine CodeR.seq ?_) | (refine CodeR.reg rfl ?_) | (refine CodeR.regD rfl rfl rfl ?_) | (refine SeqR.done ?_) | (refine CodeR.block ?_) | (refine CodeR.skip ?_) | (refine CodeR.exit ?_; simp only [sA, Ex.then, Ex.inBlock, Nat.reduceEqDiff]) | (first | (refine SeqR.skipN ?_ rfl rfl ?_; (simp only [sA, wantE, T.get_set, Nat.reduceEqDiff, h8, e0] <;> with_reducible rfl)) | ((first | refine SeqR.stepN (v := ?_) (s' := ?_) rfl ?_ rfl ?_ rfl rfl ?_ | refine SeqR.stepLN (v := ?_) (s' := ?_) rfl ?_ rfl ?_ rfl rfl ?_); rotate_left 3; (intro call lc; simp only [sA, opE, kindOf, pureE, heapE, rho, rhos, T.get_set, Nat.reduceEqDiff, nb00, absV, absS, l_slice, l_void, l_str, l_arr, natE, loadE, isConst, TK.agg, u_notB, b_eqlB, b_neqB, b_add, b_sub, b_mul, b_lss, b_gtr, b_leq, b_geq, b_eql, b_neq, ty2, i2, si2, ty169, i169, si169, ty245, i245, si245, h8, e0] <;> rfl); rotate_left 1; (simp only [sA, wantE, T.get_set, Nat.reduceEqDiff, h8, e0] <;> with_reducible rfl))))
        refine CodeR.mono (Q := fun e m' s' => e = .nrm ∧ s3 = s' ∧ ∃ T3, m' = ⟨47, T3⟩ ∧ T3.get 0 = some (.slice (some (b1, o1)) n1 c1 q1) ∧ T3.get 1 = some vb ∧ T3.get 5 = some (.slice (some (s.c, 0)) xs.length xs.length 0) ∧ T3.get 6 = some (.int .i64 (Int.ofNat (if x < c + y then 1 else 0))) ∧ T3.get 8 = some (.int .i64 (Int.ofNat (if x < c + y then x + 4294967296 - (c + y) else x - (c + y)))) ∧ T3.get 13 = some (.int .i64 (Int.ofNat xs.length)) ∧ T3.get 14 = some (.int .i64 (Int.ofNat i)) ∧ T3.get 7 = some (.int .i64 (Int.ofNat i))) ?_ ?_
        · refine CodeR.cond (t := decide (x < c + y)) (by simp only [sA, rho, T.get_set, Nat.reduceEqDiff, u_notB, b_eqlB, b_neqB, b_add, b_sub, b_mul, b_lss, b_gtr, b_leq, b_geq, b_eql, b_neq, ty2, i2, si2, ty169, i169, si169, ty245, i245, si245]) ?_ ?_
          · intro hxy
            have hxy : x < c + y := by simpa using hxy
            have w6 : wr .i64 (Int.ofNat x - Int.ofNat (c + y) + 4294967296) = Int.ofNat (x + 4294967296 - (c + y)) := by
              rw [wr_small (by simp only [Int.ofNat_eq_natCast]; omega) (by simp only [Int.ofNat_eq_natCast]; omega)]
              simp only [Int.ofNat_eq_natCast]; omega
            repeat (first | (refine CodeR.seq ?_) | (refine CodeR.reg rfl ?_) | (refine CodeR.regD rfl rfl rfl ?_) | (refine SeqR.done ?_) | (refine CodeR.block ?_) | (refine CodeR.skip ?_) | (refine CodeR.exit ?_; simp only [sA, Ex.then, Ex.inBlock, Nat.reduceEqDiff]) | (first | (refine SeqR.skipN ?_ rfl rfl ?_; (simp only [sA, wantE, T.get_set, Nat.reduceEqDiff, h8, w6] <;> with_reducible rfl)) | ((first | refine SeqR.stepN (v := ?_) (s' := ?_) rfl ?_ rfl ?_ rfl rfl ?_ | refine SeqR.stepLN (v := ?_) (s' := ?_) rfl ?_ rfl ?_ rfl rfl ?_); rotate_left 3; (intro call lc; simp only [sA, opE, kindOf, pureE, heapE, rho, rhos, T.get_set, Nat.reduceEqDiff, nb00, absV, absS, l_slice, l_void, l_str, l_arr, natE, loadE, isConst, TK.agg, u_notB, b_eqlB, b_neqB, b_add, b_sub, b_mul, b_lss, b_gtr, b_leq, b_geq, b_eql, b_neq, ty2, i2, si2, ty169, i169, si169, ty245, i245, si245, h8, w6] <;> rfl); rotate_left 1; (simp only [sA, wantE, T.get_set, Nat.reduceEqDiff, h8, w6] <;> with_reducible rfl))))
            refine ⟨rfl, rfl, _, rfl, ?_, ?_, ?_, ?_, ?_, ?_, ?_, ?_⟩
            simp only [T.get_set, Nat.reduceEqDiff, if_true, if_false, h0]
            simp only [T.get_set, Nat.reduceEqDiff, if_true, if_false, h1]
            simp only [T.get_set, Nat.reduceEqDiff, if_true, if_false, h5]
            · simp only [T.get_set, Nat.reduceEqDiff, if_true, if_false, if_pos hxy]; rfl
            · simp only [T.get_set, Nat.reduceEqDiff, if_true, if_false, if_pos hxy]
            simp only [T.get_set, Nat.reduceEqDiff, if_true, if_false, h13]
            simp only [T.get_set, Nat.reduceEqDiff, if_true, if_false, h14]
            simp only [T.get_set, Nat.reduceEqDiff, if_true, if_false, h7]
          · intro hxy
            have hxy : ¬ x < c + y := by simpa using hxy
            refine CodeR.skip ⟨rfl, rfl, _, rfl, ?_, ?_, ?_, ?_, ?_, ?_, ?_, ?_⟩
            simp only [T.get_set, Nat.reduceEqDiff, if_true, if_false, h0]
            simp only [T.get_set, Nat.reduceEqDiff, if_true, if_false, h1]
            simp only [T.get_set, Nat.reduceEqDiff, if_true, if_false, h5]
            · simp only [T.get_set, Nat.reduceEqDiff, if_true, if_false, if_neg hxy]; rfl
            · simp only [T.get_set, Nat.reduceEqDiff, if_true, if_false, if_neg hxy, h8]
              rw [show Int.ofNat x - Int.ofNat (c + y) = Int.ofNat (x - (c + y)) by simp only [Int.ofNat_eq_natCast]; omega]
            simp only [T.get_set, Nat.reduceEqDiff, if_true, if_false, h13]
            simp only [T.get_set, Nat.reduceEqDiff, if_true, if_false, h14]
            simp only [T.get_set, Nat.reduceEqDiff, if_true, if_false, h7]
        · rintro e m' s' ⟨rfl, rfl, T3, rfl, h0, h1, h5, h6, h8, h13, h14, h7⟩
          have hcb : (if x < c + y then 1 else 0) ≤ 1 := by split <;> omega
          have htb : (if x < c + y then x + 4294967296 - (c + y) else x - (c + y)) < 4294967296 := by split <;> omega
          generalize (if x < c + y then 1 else 0) = c' at *
          generalize (if x < c + y then x + 4294967296 - (c + y) else x - (c + y)) = t at *
          have w4 : wr .u32 (Int.ofNat t) = Int.ofNat t := by rw [wr_u32, Nat.mod_eq_of_lt htb]
          have hin : Nat.blt i xs.length = true := blt_iff.2 hlt'
          repeat (first | (refine CodeR.seq ?_) | (refine CodeR.reg rfl ?_) | (refine CodeR.regD rfl rfl rfl ?_) | (refine SeqR.done ?_) | (refine CodeR.block ?_) | (refine CodeR.skip ?_) | (refine CodeR.exit ?_; simp only [sA, Ex.then, Ex.inBlock, Nat.reduceEqDiff]) | (first | (refine SeqR.skipN ?_ rfl rfl ?_; (simp only [sA, wantE, T.get_set, Nat.reduceEqDiff, h5, h7, h8, w4, hin] <;> with_reducible rfl)) | ((first | refine SeqR.stepN (v := ?_) (s' := ?_) rfl ?_ rfl ?_ rfl rfl ?_ | refine SeqR.stepLN (v := ?_) (s' := ?_) rfl ?_ rfl ?_ rfl rfl ?_); rotate_left 3; (intro call lc; simp only [sA, opE, kindOf, pureE, heapE, rho, rhos, T.get_set, Nat.reduceEqDiff, nb00, absV, absS, l_slice, l_void, l_str, l_arr, natE, loadE, isConst, TK.agg, u_notB, b_eqlB, b_neqB, b_add, b_sub, b_mul, b_lss, b_gtr, b_leq, b_geq, b_eql, b_neq, ty2, i2, si2, ty169, i169, si169, ty245, i245, si245, h5, h7, h8, w4, hin] <;> rfl); rotate_left 1; (simp only [sA, wantE, T.get_set, Nat.reduceEqDiff, h5, h7, h8, w4, hin] <;> with_reducible rfl))))
          refine SeqR.step0 rfl (fun call lc old => op_put (b := s.c) (o := i) (v := .int .u32 (Int.ofNat t)) (by simp only [rho, T.get_set, Nat.reduceEqDiff, if_true, if_false]) (by simp only [rho, T.get_set, Nat.reduceEqDiff, if_true, if_false]) rfl si245 hM.b3 (by rw [nats_length]; simp; omega) hlo call lc old) rfl ?_
          have hM5 := hM.put i t
          rw [List.replicate_succ, ← hd, set_at0, hd] at hM5
          have w5 : wr .i64 (Int.ofNat i + 1) = Int.ofNat (i + 1) := wr_add (b := 1) (by omega)
          repeat (first | (refine CodeR.seq ?_) | (refine CodeR.reg rfl ?_) | (refine CodeR.regD rfl rfl rfl ?_) | (refine SeqR.done ?_) | (refine CodeR.block ?_) | (refine CodeR.skip ?_) | (refine CodeR.exit ?_; simp only [sA, Ex.then, Ex.inBlock, Nat.reduceEqDiff]) | (first | (refine SeqR.skipN ?_ rfl rfl ?_; (simp only [sA, wantE, T.get_set, Nat.reduceEqDiff, h14, w5] <;> with_reducible rfl)) | ((first | refine SeqR.stepN (v := ?_) (s' := ?_) rfl ?_ rfl ?_ rfl rfl ?_ | refine SeqR.stepLN (v := ?_) (s' := ?_) rfl ?_ rfl ?_ rfl rfl ?_); rotate_left 3; (intro call lc; simp only [sA, opE, kindOf, pureE, heapE, rho, rhos, T.get_set, Nat.reduceEqDiff, nb00, absV, absS, l_slice, l_void, l_str, l_arr, natE, loadE, isConst, TK.agg, u_notB, b_eqlB, b_neqB, b_add, b_sub, b_mul, b_lss, b_gtr, b_leq, b_geq, b_eql, b_neq, ty2, i2, si2, ty169, i169, si169, ty245, i245, si245, h14, w5] <;> rfl); rotate_left 1; (simp only [sA, wantE, T.get_set, Nat.reduceEqDiff, h14, w5] <;> with_reducible rfl))))
          refine ⟨k', by omega, i + 1, _, d ++ [t], c', rfl, by omega, by simp [hd], ?_, ?_, hcb, ?_, ?_, ?_, ?_, ?_, ?_⟩
          · rw [List.append_assoc, List.singleton_append, List.replicate_succ]; exact hM5
          · rw [List.append_assoc, List.singleton_append]; exact hrow
          simp only [T.get_set, Nat.reduceEqDiff, if_true, if_false, h0]
          simp only [T.get_set, Nat.reduceEqDiff, if_true, if_false, h1]
          simp only [T.get_set, Nat.reduceEqDiff, if_true, if_false, h5]
          simp only [T.get_set, Nat.reduceEqDiff, if_true, if_false, h6]
          simp only [T.get_set, Nat.reduceEqDiff, if_true, if_false, h13]
          simp only [T.get_set, Nat.reduceEqDiff, if_true, if_false]
    · intro hge
      have hge' : i = xs.length := by have : ¬ i < xs.length := by simpa using hge
                                      omega
      have hk0 : k = 0 := by omega
      subst hk0
      rw [List.drop_eq_nil_of_le (by omega), subRow, List.append_nil] at hrow
      simp only [List.replicate_zero, List.append_nil] at hM
      rw [hrow] at hM
      have hl := subRow_length 4294967296 0 xs ys
      have hr := row_own hM.b3 xs.length (by rw [nats_length, hl])
      have hs := subRow_small (B := 4294967296) 0 xs ys (by omega) sa sb (by omega)
      have hv := subRow_val (B := 4294967296) (by omega) 0 xs ys (by omega) sa sb (by omega)
      repeat (first | (refine CodeR.seq ?_) | (refine CodeR.reg rfl ?_) | (refine CodeR.regD rfl rfl rfl ?_) | (refine SeqR.done ?_) | (refine CodeR.block ?_) | (refine CodeR.skip ?_) | (refine CodeR.exit ?_; simp only [sA, Ex.then, Ex.inBlock, Nat.reduceEqDiff]) | (first | (refine SeqR.skipN ?_ rfl rfl ?_; (simp only [sA, wantE, T.get_set, Nat.reduceEqDiff, h5] <;> with_reducible rfl)) | ((first | refine SeqR.stepN (v := ?_) (s' := ?_) rfl ?_ rfl ?_ rfl rfl ?_ | refine SeqR.stepLN (v := ?_) (s' := ?_) rfl ?_ rfl ?_ rfl rfl ?_); rotate_left 3; (intro call lc; simp only [sA, opE, kindOf, pureE, heapE, rho, rhos, T.get_set, Nat.reduceEqDiff, nb00, absV, absS, l_slice, l_void, l_str, l_arr, natE, loadE, isConst, TK.agg, u_notB, b_eqlB, b_neqB, b_add, b_sub, b_mul, b_lss, b_gtr, b_leq, b_geq, b_eql, b_neq, ty2, i2, si2, ty169, i169, si169, ty245, i245, si245, h5] <;> rfl); rotate_left 1; (simp only [sA, wantE, T.get_set, Nat.reduceEqDiff, h5] <;> with_reducible rfl))))
      refine SeqR.callN (by first | with_reducible rfl | (simp only [sA, wantE, T.get_set, Nat.reduceEqDiff, u_notB, b_eqlB, b_neqB, b_add, b_sub, b_mul, b_lss, b_gtr, b_leq, b_geq, b_eql, b_neq, ty2, i2, si2, ty169, i169, si169, ty245, i245, si245] <;> with_reducible rfl)) rfl rfl (g := 302) (vs := [.slice (some (s.c, 0)) xs.length xs.length 0]) (by simp only [calleeE, sA, rho, rhos, T.get_set, Nat.reduceEqDiff, u_notB, b_eqlB, b_neqB, b_add, b_sub, b_mul, b_lss, b_gtr, b_leq, b_geq, b_eql, b_neq, ty2, i2, si2, ty169, i169, si169, ty245, i245, si245]; rfl) (by first | rfl | assumption) rfl rfl (fun lc hlc => (ctrim_run hr hM.fresh (by rw [hl]; omega)).mono fun v s' hq => ?_)
      obtain ⟨rfl, hv'⟩ := hq
      have := nv_trim hv' hs
      rw [show gval 4294967296 (subRow 4294967296 0 xs ys) = gval 4294967296 xs - gval 4294967296 ys by omega] at this
      repeat (first | (refine CodeR.seq ?_) | (refine CodeR.reg rfl ?_) | (refine CodeR.regD rfl rfl rfl ?_) | (refine SeqR.done ?_) | (refine CodeR.block ?_) | (refine CodeR.skip ?_) | (refine CodeR.exit ?_; simp only [sA, Ex.then, Ex.inBlock, Nat.reduceEqDiff]) | (first | (refine SeqR.skipN ?_ rfl rfl ?_; (simp only [sA, wantE, T.get_set, Nat.reduceEqDiff] <;> with_reducible rfl)) | ((first | refine SeqR.stepN (v := ?_) (s' := ?_) rfl ?_ rfl ?_ rfl rfl ?_ | refine SeqR.stepLN (v := ?_) (s' := ?_) rfl ?_ rfl ?_ rfl rfl ?_); rotate_left 3; (intro call lc; simp only [sA, opE, kindOf, pureE, heapE, rho, rhos, T.get_set, Nat.reduceEqDiff, nb00, absV, absS, l_slice, l_void, l_str, l_arr, natE, loadE, isConst, TK.agg, u_notB, b_eqlB, b_neqB, b_add, b_sub, b_mul, b_lss, b_gtr, b_leq, b_geq, b_eql, b_neq, ty2, i2, si2, ty169, i169, si169, ty245, i245, si245] <;> rfl); rotate_left 1; (simp only [sA, wantE, T.get_set, Nat.reduceEqDiff] <;> with_reducible rfl))))
      refine CodeR.ret ⟨.inr rfl, [v], by (show ressE E _ _ [.tmp 4] = _; simp only [sA, ressE, resE, T.get_set, Nat.reduceEqDiff, u_notB, b_eqlB, b_neqB, b_add, b_sub, b_mul, b_lss, b_gtr, b_leq, b_geq, b_eql, b_neq, ty2, i2, si2, ty169, i169, si169, ty245, i245, si245]), ?_⟩
      exact ⟨hM.fresh, hM.kept, this⟩
end Go.Proofs.YtaocoplfdhcoaaaGreatDoor.EvA

/- schismaref03.To, Of, run. -/
import Derived.Test.YtaocoplfdhcoaaaGreatDoorSp33
set_option linter.unusedVariables false
set_option linter.unusedSimpArgs false
set_option maxRecDepth 20000
set_option maxHeartbeats 2000000
namespace Go.Proofs.YtaocoplfdhcoaaaGreatDoor.EvA
open Go Go.RowKit Go.Proofs.YtaocoplfdhcoaaaGreatDoor.Ev
theorem fn238' : E.fns.get 238 = some Tryz.f238 := by kernel_rfl
theorem fn134' : E.fns.get 134 = some Tryz.f134 := by kernel_rfl
theorem fn46' : E.fns.get 46 = some Tryz.f46 := by kernel_rfl
theorem fn101' : E.fns.get 101 = some Tryz.f101 := by kernel_rfl
theorem fn22' : E.fns.get 22 = some Tryz.f22 := by kernel_rfl
theorem b_eqlS (t : Nat) (c : Bool) (a b : List UInt8) : binE E .eql t c (.str a) (.str b) = some (.bool (eqL a b)) := by cases c <;> rfl
theorem b_addS {a b : List UInt8} (t : Nat) (c : Bool) (h : a.length + b.length ≤ 4611686018427387904) : binE E .add t c (.str a) (.str b) = some (.str (a ++ b)) := by
  have : binE E .add t c (.str a) (.str b) = strE .add a b := by cases c <;> rfl
  rw [this]
  simp only [strE, ble_iff.2 h, cond_true]
def minusB (t : List UInt8) : Bool := match t with
  | [] => false
  | c :: _ => eqL [c] [45]
theorem pre238 (lc : Nat) (s : St) (t : List UInt8) : FunR E lc 238 [.str t, .str [45]] s fun v s' => s = s' ∧ v = .bool (minusB t) := by
  refine FunR.body (fn := Tryz.f238) fn238' rfl ?_
  have hn : (max ([.str t, .str [45]] : List AV).length Tryz.f238.ntmps) = 18 := rfl
  generalize max ([.str t, .str [45]] : List AV).length Tryz.f238.ntmps = n at hn
  subst hn
  have g0 : (argsT 0 ([.str t, .str [45]] : List AV)).get 0 = some (.str t) := rfl
  have g1 : (argsT 0 ([.str t, .str [45]] : List AV)).get 1 = some (.str [45]) := rfl
  generalize argsT 0 ([.str t, .str [45]] : List AV) = T0 at g0 g1 ⊢
  have hn : (18 : Nat) = 18 := rfl
  cases t with
  | nil =>
    have e1 : ltB (Int.ofNat ([] : List UInt8).length) (Int.ofNat ([45] : List UInt8).length) = true := rfl
    repeat (first | (refine CodeR.seq ?_) | (refine CodeR.reg rfl ?_) | (refine CodeR.regD rfl rfl rfl ?_) | (refine SeqR.done ?_) | (refine CodeR.block ?_) | (refine CodeR.skip ?_) | (refine CodeR.exit ?_; simp only [sA, Ex.then, Ex.inBlock, Nat.reduceEqDiff]) | (first | (refine SeqR.skipN ?_ rfl rfl ?_; (simp only [sA, wantE, T.get_set, Nat.reduceEqDiff, g0, g1, e1] <;> with_reducible rfl)) | ((first | refine SeqR.stepN (v := ?_) (s' := ?_) rfl ?_ rfl ?_ rfl rfl ?_ | refine SeqR.stepLN (v := ?_) (s' := ?_) rfl ?_ rfl ?_ rfl rfl ?_); rotate_left 3; (intro call lc; simp only [sA, opE, kindOf, pureE, heapE, rho, rhos, T.get_set, Nat.reduceEqDiff, nb00, absV, absS, l_slice, l_void, l_str, l_arr, natE, loadE, isConst, TK.agg, u_notB, b_eqlB, b_neqB, b_add, b_sub, b_mul, b_lss, b_gtr, b_leq, b_geq, b_eql, b_neq, ty9, i9, si9, g0, g1, e1] <;> rfl); rotate_left 1; (simp only [sA, wantE, T.get_set, Nat.reduceEqDiff, g0, g1, e1] <;> with_reducible rfl))))
    refine CodeR.ret ⟨.inr rfl, [.bool false], by (show ressE E _ _ [.tmp 4] = _; simp only [sA, ressE, resE, T.get_set, Nat.reduceEqDiff, u_notB, b_eqlB, b_neqB, b_add, b_sub, b_mul, b_lss, b_gtr, b_leq, b_geq, b_eql, b_neq, ty9, i9, si9]), ?_⟩
    exact ⟨rfl, rfl⟩
  | cons c t =>
    have e1 : ltB (Int.ofNat (c :: t).length) (Int.ofNat ([45] : List UInt8).length) = false := rfl
    have p1 : sliceE 1 (.str (c :: t)) none (some (.int .i64 (Int.ofNat ([45] : List UInt8).length))) none = some (.str [c]) := rfl
    repeat (first | (refine CodeR.seq ?_) | (refine CodeR.reg rfl ?_) | (refine CodeR.regD rfl rfl rfl ?_) | (refine SeqR.done ?_) | (refine CodeR.block ?_) | (refine CodeR.skip ?_) | (refine CodeR.exit ?_; simp only [sA, Ex.then, Ex.inBlock, Nat.reduceEqDiff]) | (first | (refine SeqR.skipN ?_ rfl rfl ?_; (simp only [sA, wantE, T.get_set, Nat.reduceEqDiff, g0, g1, e1, p1, b_eqlS] <;> with_reducible rfl)) | ((first | refine SeqR.stepN (v := ?_) (s' := ?_) rfl ?_ rfl ?_ rfl rfl ?_ | refine SeqR.stepLN (v := ?_) (s' := ?_) rfl ?_ rfl ?_ rfl rfl ?_); rotate_left 3; (intro call lc; simp only [sA, opE, kindOf, pureE, heapE, rho, rhos, T.get_set, Nat.reduceEqDiff, nb00, absV, absS, l_slice, l_void, l_str, l_arr, natE, loadE, isConst, TK.agg, u_notB, b_eqlB, b_neqB, b_add, b_sub, b_mul, b_lss, b_gtr, b_leq, b_geq, b_eql, b_neq, ty9, i9, si9, g0, g1, e1, p1, b_eqlS] <;> rfl); rotate_left 1; (simp only [sA, wantE, T.get_set, Nat.reduceEqDiff, g0, g1, e1, p1, b_eqlS] <;> with_reducible rfl))))
    refine CodeR.ret ⟨.inr rfl, [.bool (eqL [c] [45])], by (show ressE E _ _ [.tmp 4] = _; simp only [sA, ressE, resE, T.get_set, Nat.reduceEqDiff, u_notB, b_eqlB, b_neqB, b_add, b_sub, b_mul, b_lss, b_gtr, b_leq, b_geq, b_eql, b_neq, ty9, i9, si9]), ?_⟩
    exact ⟨rfl, rfl⟩
theorem pre134 (lc : Nat) (s : St) (t : List UInt8) : FunR E lc 134 [.str t, .str [45]] s fun v s' => s = s' ∧ v = .bool (minusB t) := by
  refine FunR.body (fn := Tryz.f134) fn134' rfl ?_
  have hn : (max ([.str t, .str [45]] : List AV).length Tryz.f134.ntmps) = 8 := rfl
  generalize max ([.str t, .str [45]] : List AV).length Tryz.f134.ntmps = n at hn
  subst hn
  have g0 : (argsT 0 ([.str t, .str [45]] : List AV)).get 0 = some (.str t) := rfl
  have g1 : (argsT 0 ([.str t, .str [45]] : List AV)).get 1 = some (.str [45]) := rfl
  generalize argsT 0 ([.str t, .str [45]] : List AV) = T0 at g0 g1 ⊢
  have hn : (8 : Nat) = 8 := rfl
  repeat (first | (refine CodeR.seq ?_) | (refine CodeR.reg rfl ?_) | (refine CodeR.regD rfl rfl rfl ?_) | (refine SeqR.done ?_) | (refine CodeR.block ?_) | (refine CodeR.skip ?_) | (refine CodeR.exit ?_; simp only [sA, Ex.then, Ex.inBlock, Nat.reduceEqDiff]) | (first | (refine SeqR.skipN ?_ rfl rfl ?_; (simp only [sA, wantE, T.get_set, Nat.reduceEqDiff, g0, g1] <;> with_reducible rfl)) | ((first | refine SeqR.stepN (v := ?_) (s' := ?_) rfl ?_ rfl ?_ rfl rfl ?_ | refine SeqR.stepLN (v := ?_) (s' := ?_) rfl ?_ rfl ?_ rfl rfl ?_); rotate_left 3; (intro call lc; simp only [sA, opE, kindOf, pureE, heapE, rho, rhos, T.get_set, Nat.reduceEqDiff, nb00, absV, absS, l_slice, l_void, l_str, l_arr, natE, loadE, isConst, TK.agg, u_notB, b_eqlB, b_neqB, b_add, b_sub, b_mul, b_lss, b_gtr, b_leq, b_geq, b_eql, b_neq, ty9, i9, si9, g0, g1] <;> rfl); rotate_left 1; (simp only [sA, wantE, T.get_set, Nat.reduceEqDiff, g0, g1] <;> with_reducible rfl))))
  refine SeqR.callN (by first | with_reducible rfl | (simp only [sA, wantE, T.get_set, Nat.reduceEqDiff, u_notB, b_eqlB, b_neqB, b_add, b_sub, b_mul, b_lss, b_gtr, b_leq, b_geq, b_eql, b_neq, ty9, i9, si9, g0, g1] <;> with_reducible rfl)) rfl rfl (g := 238) (vs := [.str t, .str [45]]) (by simp only [calleeE, sA, rho, rhos, T.get_set, Nat.reduceEqDiff, u_notB, b_eqlB, b_neqB, b_add, b_sub, b_mul, b_lss, b_gtr, b_leq, b_geq, b_eql, b_neq, ty9, i9, si9, g0, g1]; rfl) (by first | rfl | assumption) rfl rfl (fun lc hlc => (pre238 lc s t).mono fun v s' hq => ?_)
  obtain ⟨rfl, rfl⟩ := hq
  repeat (first | (refine CodeR.seq ?_) | (refine CodeR.reg rfl ?_) | (refine CodeR.regD rfl rfl rfl ?_) | (refine SeqR.done ?_) | (refine CodeR.block ?_) | (refine CodeR.skip ?_) | (refine CodeR.exit ?_; simp only [sA, Ex.then, Ex.inBlock, Nat.reduceEqDiff]) | (first | (refine SeqR.skipN ?_ rfl rfl ?_; (simp only [sA, wantE, T.get_set, Nat.reduceEqDiff] <;> with_reducible rfl)) | ((first | refine SeqR.stepN (v := ?_) (s' := ?_) rfl ?_ rfl ?_ rfl rfl ?_ | refine SeqR.stepLN (v := ?_) (s' := ?_) rfl ?_ rfl ?_ rfl rfl ?_); rotate_left 3; (intro call lc; simp only [sA, opE, kindOf, pureE, heapE, rho, rhos, T.get_set, Nat.reduceEqDiff, nb00, absV, absS, l_slice, l_void, l_str, l_arr, natE, loadE, isConst, TK.agg, u_notB, b_eqlB, b_neqB, b_add, b_sub, b_mul, b_lss, b_gtr, b_leq, b_geq, b_eql, b_neq, ty9, i9, si9] <;> rfl); rotate_left 1; (simp only [sA, wantE, T.get_set, Nat.reduceEqDiff] <;> with_reducible rfl))))
  refine CodeR.ret ⟨.inr rfl, [.bool (minusB t)], by (show ressE E _ _ [.tmp 4] = _; simp only [sA, ressE, resE, T.get_set, Nat.reduceEqDiff, u_notB, b_eqlB, b_neqB, b_add, b_sub, b_mul, b_lss, b_gtr, b_leq, b_geq, b_eql, b_neq, ty9, i9, si9]), ?_⟩
  exact ⟨rfl, rfl⟩
theorem minus_dig {ds : List UInt8} (h : Digs ds) : minusB ds = false := by
  cases ds with
  | nil => rfl
  | cons c ds =>
    have := (h c List.mem_cons_self).1
    show eqL [c] [45] = false
    have hb : Nat.beq c.toNat (45 : UInt8).toNat = false := by
      cases hq : Nat.beq c.toNat (45 : UInt8).toNat with
      | false => rfl
      | true =>
        have := beq_iff.1 hq
        have e : (45 : UInt8).toNat = 45 := rfl
        omega
    simp only [eqL, hb, cond_false]
theorem op_buildN {call : CallT'} {lc lo old : Nat} {m : T AV} {s : St} {x : Operand} {b : Bool} (hx : rho m x = some (.bool b)) :
    opE E call lc lo old m s (.build 32 #[(0, x)]) = some (.agg [.bool b, .slice none 0 0 0], s) := by
  simp only [opE, kindOf, nb00, cond_true, pureE, ty32, i32, Option.bind_some, List.toList_toArray, fillE, hx, List.getElem?_cons_zero, List.getElem?_cons_succ, si4, Option.map_some]
  rfl
theorem drop_str {p : List UInt8} {f : Nat} (h : f ≤ p.length) : sliceE 1 (.str p) (some (.int .i64 (Int.ofNat f))) none none = some (.str (p.drop f)) := by
  simp only [sliceE, boundE, natE, Option.bind_some, ble_iff.2 h, ble_iff.2 (Nat.le_refl _), Bool.and_self, Option.isNone_none, cond_true]
  rw [List.take_of_length_le (by rw [List.length_drop]; omega)]
theorem take_str {p : List UInt8} {f : Nat} (h : f ≤ p.length) : sliceE 1 (.str p) none (some (.int .i64 (Int.ofNat f))) none = some (.str (p.take f)) := by
  simp only [sliceE, boundE, natE, Option.bind_some, ble_iff.2 h, ble_iff.2 (Nat.zero_le _), Bool.and_self, Option.isNone_none, cond_true, Nat.sub_zero, List.drop_zero]
theorem To_run {lo : Nat} {neg : Bool} {ds : List UInt8} {s : St} (hd : Digs ds) (hl : ds.length ≤ 100000) (hF : Fresh s) (hlo : lo ≤ s.c) :
    FunR E lo 46 [.str (if neg then 45 :: ds else ds)] s fun v s' => Fresh s' ∧ Kept s.c s s' ∧ WZ s'.h (if neg then -(dv 0 ds : Int) else (dv 0 ds : Int)) v := by
  have hmin : minusB (if neg then 45 :: ds else ds) = neg := by
    cases neg with
    | true => rfl
    | false => exact minus_dig hd
  refine FunR.body (fn := Tryz.f46) fn46' rfl ?_
  have hn : (max ([.str (if neg then 45 :: ds else ds)] : List AV).length Tryz.f46.ntmps) = 41 := rfl
  generalize max ([.str (if neg then 45 :: ds else ds)] : List AV).length Tryz.f46.ntmps = n at hn
  subst hn
  have g0 : (argsT 0 ([.str (if neg then 45 :: ds else ds)] : List AV)).get 0 = some (.str (if neg then 45 :: ds else ds)) := rfl
  generalize argsT 0 ([.str (if neg then 45 :: ds else ds)] : List AV) = T0 at g0 ⊢
  have hn : (41 : Nat) = 41 := rfl
  refine CodeR.seq (CodeR.reg rfl ?_)
  refine SeqR.stepN rfl rfl rfl (fun call lc => op_alloc (cs := i32.zero.cells) ty32 rfl rfl call lc _) rfl rfl ?_
  have hF1 := fresh_new hF ⟨32, i32.zero.cells⟩
  have hK1 := kept_new (Kept.refl s.c s) (Nat.le_refl _) ⟨32, i32.zero.cells⟩
  have hb : (s.h.set s.c (⟨32, i32.zero.cells⟩ : Blk)).get s.c = some ⟨32, i32.zero.cells⟩ := by rw [T.get_set, if_pos rfl]
  generalize hs1 : (⟨s.h.set s.c ⟨32, i32.zero.cells⟩, s.c + 1⟩ : St) = s1 at hF1 hK1 ⊢
  have hb0 : s1.h.get s.c = some ⟨32, i32.zero.cells⟩ := by rw [← hs1]; exact hb
  have hc1 : s1.c = s.c + 1 := by rw [← hs1]
  clear hb hs1
  repeat (first | (refine CodeR.seq ?_) | (refine CodeR.reg rfl ?_) | (refine CodeR.regD rfl rfl rfl ?_) | (refine SeqR.done ?_) | (refine CodeR.block ?_) | (refine CodeR.skip ?_) | (refine CodeR.exit ?_; simp only [sA, Ex.then, Ex.inBlock, Nat.reduceEqDiff]) | (first | (refine SeqR.skipN ?_ rfl rfl ?_; (simp only [sA, wantE, T.get_set, Nat.reduceEqDiff, g0] <;> with_reducible rfl)) | ((first | refine SeqR.stepN (v := ?_) (s' := ?_) rfl ?_ rfl ?_ rfl rfl ?_ | refine SeqR.stepLN (v := ?_) (s' := ?_) rfl ?_ rfl ?_ rfl rfl ?_); rotate_left 3; (intro call lc; simp only [sA, opE, kindOf, pureE, heapE, rho, rhos, T.get_set, Nat.reduceEqDiff, nb00, absV, absS, l_slice, l_void, l_str, l_arr, natE, loadE, isConst, TK.agg, u_notB, b_eqlB, b_neqB, b_add, b_sub, b_mul, b_lss, b_gtr, b_leq, b_geq, b_eql, b_neq, ty3, i3, si3, ty4, i4, si4, ty9, i9, si9, ty24, i24, si24, ty32, i32, si32, g0] <;> rfl); rotate_left 1; (simp only [sA, wantE, T.get_set, Nat.reduceEqDiff, g0] <;> with_reducible rfl))))
  refine SeqR.callN (by first | with_reducible rfl | (simp only [sA, wantE, T.get_set, Nat.reduceEqDiff, u_notB, b_eqlB, b_neqB, b_add, b_sub, b_mul, b_lss, b_gtr, b_leq, b_geq, b_eql, b_neq, ty3, i3, si3, ty4, i4, si4, ty9, i9, si9, ty24, i24, si24, ty32, i32, si32, g0] <;> with_reducible rfl)) rfl rfl (g := 134) (vs := [.str (if neg then 45 :: ds else ds), .str [45]]) (by simp only [calleeE, sA, rho, rhos, T.get_set, Nat.reduceEqDiff, u_notB, b_eqlB, b_neqB, b_add, b_sub, b_mul, b_lss, b_gtr, b_leq, b_geq, b_eql, b_neq, ty3, i3, si3, ty4, i4, si4, ty9, i9, si9, ty24, i24, si24, ty32, i32, si32, g0]; rfl) (by first | rfl | assumption) rfl rfl (fun lc hlc => (pre134 lc s1 _).mono fun v s' hq => ?_)
  obtain ⟨rfl, rfl⟩ := hq
  rw [hmin]
  refine SeqR.step (v := .agg [.bool neg, .slice none 0 0 0]) (s' := s1) rfl rfl (fun call lc => op_buildN (by simp only [rho, T.get_set, if_true])) rfl rfl ?_
  refine SeqR.stepN rfl rfl rfl (fun call lc => op_alloc (cs := i32.zero.cells) ty32 rfl rfl call lc _) rfl rfl ?_
  refine SeqR.step0 rfl (fun call lc old => op_setW (b := s1.c) (ty := 32) (cs0 := i32.zero.cells) (cs := [.bool neg, .slice none 0 0 0]) (by simp only [rho, T.get_set, if_true]) (by simp only [rho, T.get_set, Nat.reduceEqDiff, if_true, if_false]) rfl si32 (by simp only [T.get_set, if_true]) rfl (by omega) call lc old) rfl ?_
  have hF2 := fresh_set (fresh_new hF1 ⟨32, i32.zero.cells⟩) (b := s1.c) (k := ⟨32, [.bool neg, .slice none 0 0 0]⟩) (by simp)
  have hK2 := kept_set (kept_new hK1 (by omega) ⟨32, i32.zero.cells⟩) (b := s1.c) (k := ⟨32, [.bool neg, .slice none 0 0 0]⟩) (by omega)
  have hbb0 : ((s1.h.set s1.c ⟨32, i32.zero.cells⟩).set s1.c ⟨32, [.bool neg, .slice none 0 0 0]⟩).get s.c = some ⟨32, i32.zero.cells⟩ := by rw [T.get_set, if_neg (by omega), T.get_set, if_neg (by omega)]; exact hb0
  have hbb1 : ((s1.h.set s1.c ⟨32, i32.zero.cells⟩).set s1.c ⟨32, [.bool neg, .slice none 0 0 0]⟩).get s1.c = some ⟨32, [.bool neg, .slice none 0 0 0]⟩ := by rw [T.get_set, if_pos rfl]
  simp only at hF2 hK2 ⊢
  generalize hs2 : (⟨(s1.h.set s1.c ⟨32, i32.zero.cells⟩).set s1.c ⟨32, [.bool neg, .slice none 0 0 0]⟩, s1.c + 1⟩ : St) = s2 at hF2 hK2 ⊢
  have hb0 : s2.h.get s.c = some ⟨32, i32.zero.cells⟩ := by rw [← hs2]; exact hbb0
  have hb1 : s2.h.get s1.c = some ⟨32, [.bool neg, .slice none 0 0 0]⟩ := by rw [← hs2]; exact hbb1
  have hc2 : s2.c = s.c + 2 := by rw [← hs2]; simp only; omega
  rw [hc1] at hb1 ⊢
  clear hbb0 hbb1 hs2
  have e2 : Nat.blt (s.c + 1) s2.c = true := blt_iff.2 (by omega)
  refine SeqR.done ?_
  refine CodeR.seq (CodeR.mono (Q := fun e m' s' => e = .nrm ∧ s2 = s' ∧ ∃ T1, m' = ⟨41, T1⟩ ∧ T1.get 2 = some (.ptr (some (s.c, 0))) ∧ T1.get 3 = some (.str ds) ∧ T1.get 4 = some (.ptr (some (s.c + 1, 0)))) ?_ ?_)
  · repeat (first | (refine CodeR.seq ?_) | (refine CodeR.reg rfl ?_) | (refine CodeR.regD rfl rfl rfl ?_) | (refine SeqR.done ?_) | (refine CodeR.block ?_) | (refine CodeR.skip ?_) | (refine CodeR.exit ?_; simp only [sA, Ex.then, Ex.inBlock, Nat.reduceEqDiff]) | (first | (refine SeqR.skipN ?_ rfl rfl ?_; (simp only [sA, wantE, T.get_set, Nat.reduceEqDiff, hb1, e2] <;> with_reducible rfl)) | ((first | refine SeqR.stepN (v := ?_) (s' := ?_) rfl ?_ rfl ?_ rfl rfl ?_ | refine SeqR.stepLN (v := ?_) (s' := ?_) rfl ?_ rfl ?_ rfl rfl ?_); rotate_left 3; (intro call lc; simp only [sA, opE, kindOf, pureE, heapE, rho, rhos, T.get_set, Nat.reduceEqDiff, nb00, absV, absS, l_slice, l_void, l_str, l_arr, natE, loadE, isConst, TK.agg, u_notB, b_eqlB, b_neqB, b_add, b_sub, b_mul, b_lss, b_gtr, b_leq, b_geq, b_eql, b_neq, ty3, i3, si3, ty4, i4, si4, ty9, i9, si9, ty24, i24, si24, ty32, i32, si32, hb1, e2] <;> rfl); rotate_left 1; (simp only [sA, wantE, T.get_set, Nat.reduceEqDiff, hb1, e2] <;> with_reducible rfl))))
    refine CodeR.cond (t := neg) (by simp only [sA, rho, T.get_set, Nat.reduceEqDiff, u_notB, b_eqlB, b_neqB, b_add, b_sub, b_mul, b_lss, b_gtr, b_leq, b_geq, b_eql, b_neq, ty3, i3, si3, ty4, i4, si4, ty9, i9, si9, ty24, i24, si24, ty32, i32, si32]) ?_ ?_
    · rintro rfl
      have p1 : sliceE 1 (.str (45 :: ds)) (some (.int .i64 1)) none none = some (.str ds) := drop_str (p := 45 :: ds) (f := 1) (by simp)
      simp only [if_true]
      repeat (first | (refine CodeR.seq ?_) | (refine CodeR.reg rfl ?_) | (refine CodeR.regD rfl rfl rfl ?_) | (refine SeqR.done ?_) | (refine CodeR.block ?_) | (refine CodeR.skip ?_) | (refine CodeR.exit ?_; simp only [sA, Ex.then, Ex.inBlock, Nat.reduceEqDiff]) | (first | (refine SeqR.skipN ?_ rfl rfl ?_; (simp only [sA, wantE, T.get_set, Nat.reduceEqDiff, p1] <;> with_reducible rfl)) | ((first | refine SeqR.stepN (v := ?_) (s' := ?_) rfl ?_ rfl ?_ rfl rfl ?_ | refine SeqR.stepLN (v := ?_) (s' := ?_) rfl ?_ rfl ?_ rfl rfl ?_); rotate_left 3; (intro call lc; simp only [sA, opE, kindOf, pureE, heapE, rho, rhos, T.get_set, Nat.reduceEqDiff, nb00, absV, absS, l_slice, l_void, l_str, l_arr, natE, loadE, isConst, TK.agg, u_notB, b_eqlB, b_neqB, b_add, b_sub, b_mul, b_lss, b_gtr, b_leq, b_geq, b_eql, b_neq, ty3, i3, si3, ty4, i4, si4, ty9, i9, si9, ty24, i24, si24, ty32, i32, si32, p1] <;> rfl); rotate_left 1; (simp only [sA, wantE, T.get_set, Nat.reduceEqDiff, p1] <;> with_reducible rfl))))
      refine ⟨rfl, rfl, _, rfl, ?_, ?_, ?_⟩
      simp only [T.get_set, Nat.reduceEqDiff, if_true, if_false]
      simp only [T.get_set, Nat.reduceEqDiff, if_true, if_false]
      simp only [T.get_set, Nat.reduceEqDiff, if_true, if_false]
    · rintro rfl
      simp only [Bool.false_eq_true, if_false]
      refine CodeR.skip ⟨rfl, rfl, _, rfl, ?_, ?_, ?_⟩
      simp only [T.get_set, Nat.reduceEqDiff, if_true, if_false]
      simp only [T.get_set, Nat.reduceEqDiff, if_true, if_false]
      simp only [T.get_set, Nat.reduceEqDiff, if_true, if_false]
  · rintro e m' s' ⟨rfl, rfl, T1, rfl, t2, t3, t4⟩
    repeat (first | (refine CodeR.seq ?_) | (refine CodeR.reg rfl ?_) | (refine CodeR.regD rfl rfl rfl ?_) | (refine SeqR.done ?_) | (refine CodeR.block ?_) | (refine CodeR.skip ?_) | (refine CodeR.exit ?_; simp only [sA, Ex.then, Ex.inBlock, Nat.reduceEqDiff]) | (first | (refine SeqR.skipN ?_ rfl rfl ?_; (simp only [sA, wantE, T.get_set, Nat.reduceEqDiff] <;> with_reducible rfl)) | ((first | refine SeqR.stepN (v := ?_) (s' := ?_) rfl ?_ rfl ?_ rfl rfl ?_ | refine SeqR.stepLN (v := ?_) (s' := ?_) rfl ?_ rfl ?_ rfl rfl ?_); rotate_left 3; (intro call lc; simp only [sA, opE, kindOf, pureE, heapE, rho, rhos, T.get_set, Nat.reduceEqDiff, nb00, absV, absS, l_slice, l_void, l_str, l_arr, natE, loadE, isConst, TK.agg, u_notB, b_eqlB, b_neqB, b_add, b_sub, b_mul, b_lss, b_gtr, b_leq, b_geq, b_eql, b_neq, ty3, i3, si3, ty4, i4, si4, ty9, i9, si9, ty24, i24, si24, ty32, i32, si32] <;> rfl); rotate_left 1; (simp only [sA, wantE, T.get_set, Nat.reduceEqDiff] <;> with_reducible rfl))))
    refine CodeR.loop (fun k mm s3 => Fresh s3 ∧ Kept s.c s s3 ∧ s.c + 2 ≤ s3.c ∧ s3.h.get s.c = some ⟨32, i32.zero.cells⟩ ∧ ∃ T3 p zs d, mm = ⟨41, T3⟩ ∧ k = p.length ∧ Digs p ∧ p.length ≤ ds.length ∧ GS 1000000000 zs ∧ zs.length + p.length ≤ ds.length ∧ dv 0 p * 1000000000 ^ zs.length + gval 1000000000 zs = dv 0 ds ∧ s3.h.get (s.c + 1) = some ⟨32, [.bool neg, d]⟩ ∧ Gro (s.c + 2) s3 3 1 (ints zs) d ∧ T3.get 2 = some (.ptr (some (s.c, 0))) ∧ T3.get 3 = some (.str p) ∧ T3.get 4 = some (.ptr (some (s.c + 1, 0)))) ds.length ?_ ?_
    · exact ⟨hF2, hK2, by omega, hb0, T1, ds, [], _, rfl, rfl, hd, Nat.le_refl _, fun y hy => by simp at hy, by simp, by simp [gval], hb1, Gro.nil _ _ _ _, t2, t3, t4⟩
    · rintro k mm s3 ⟨hF3, hK3, hc3, hb0, T3, p, zs, d, rfl, hk, hp, hpl, hzs, hlz, hval, hb1, hG, t2, t3, t4⟩
      have e2 : Nat.blt (s.c + 1) s3.c = true := blt_iff.2 (by omega)
      have e0 : ltB 0 (Int.ofNat p.length) = decide (0 < p.length) := ltB_nat 0 _
      repeat (first | (refine CodeR.seq ?_) | (refine CodeR.reg rfl ?_) | (refine CodeR.regD rfl rfl rfl ?_) | (refine SeqR.done ?_) | (refine CodeR.block ?_) | (refine CodeR.skip ?_) | (refine CodeR.exit ?_; simp only [sA, Ex.then, Ex.inBlock, Nat.reduceEqDiff]) | (first | (refine SeqR.skipN ?_ rfl rfl ?_; (simp only [sA, wantE, T.get_set, Nat.reduceEqDiff, t3, e0] <;> with_reducible rfl)) | ((first | refine SeqR.stepN (v := ?_) (s' := ?_) rfl ?_ rfl ?_ rfl rfl ?_ | refine SeqR.stepLN (v := ?_) (s' := ?_) rfl ?_ rfl ?_ rfl rfl ?_); rotate_left 3; (intro call lc; simp only [sA, opE, kindOf, pureE, heapE, rho, rhos, T.get_set, Nat.reduceEqDiff, nb00, absV, absS, l_slice, l_void, l_str, l_arr, natE, loadE, isConst, TK.agg, u_notB, b_eqlB, b_neqB, b_add, b_sub, b_mul, b_lss, b_gtr, b_leq, b_geq, b_eql, b_neq, ty3, i3, si3, ty4, i4, si4, ty9, i9, si9, ty24, i24, si24, ty32, i32, si32, t3, e0] <;> rfl); rotate_left 1; (simp only [sA, wantE, T.get_set, Nat.reduceEqDiff, t3, e0] <;> with_reducible rfl))))
      refine CodeR.cond (t := decide (0 < p.length)) (by simp only [sA, rho, T.get_set, Nat.reduceEqDiff, u_notB, b_eqlB, b_neqB, b_add, b_sub, b_mul, b_lss, b_gtr, b_leq, b_geq, b_eql, b_neq, ty3, i3, si3, ty4, i4, si4, ty9, i9, si9, ty24, i24, si24, ty32, i32, si32]) ?_ ?_
      · intro hpos
        have hpos : 0 < p.length := by simpa using hpos
        have w1 : wr .i64 (Int.ofNat p.length - 9) = Int.ofNat p.length - 9 := wr_small (by simp only [Int.ofNat_eq_natCast]; omega) (by simp only [Int.ofNat_eq_natCast]; omega)
        have hmx : mxE [.int .i64 0, .int .i64 (Int.ofNat p.length - 9)] = some (.int .i64 (Int.ofNat (p.length - 9))) := by
          simp only [mxE]
          by_cases h9 : 9 < p.length
          · have : ltB 0 (Int.ofNat p.length - 9) = true := by rw [ltB_eq]; simp only [Int.ofNat_eq_natCast, decide_eq_true_eq]; omega
            rw [this, cond_true]
            simp only [Int.ofNat_eq_natCast]
            rw [show ((p.length : Int) - 9) = ((p.length - 9 : Nat) : Int) by omega]
          · have : ltB 0 (Int.ofNat p.length - 9) = false := by rw [ltB_eq]; simp only [Int.ofNat_eq_natCast, decide_eq_false_iff_not]; omega
            rw [this, cond_false, show p.length - 9 = 0 by omega]
            rfl
        have ps1 := drop_str (p := p) (f := p.length - 9) (by omega)
        have ps2 := take_str (p := p) (f := p.length - 9) (by omega)
        have hlast := digs_drop hp (p.length - 9)
        have hne : p.drop (p.length - 9) ≠ [] := by
          intro h
          have := congrArg List.length h
          simp only [List.length_drop, List.length_nil] at this
          omega
        have hat : atoi [.str (p.drop (p.length - 9))] = some (.tuple [.int .i64 (Int.ofNat (dv 0 (p.drop (p.length - 9)))), .nilIface]) := by
          simp only [atoi, ble_iff.2 (show (p.drop (p.length - 9)).length ≤ 18 by rw [List.length_drop]; omega), cond_true, atoi_digs hlast hne, Option.map_some]
        repeat (first | (refine CodeR.seq ?_) | (refine CodeR.reg rfl ?_) | (refine CodeR.regD rfl rfl rfl ?_) | (refine SeqR.done ?_) | (refine CodeR.block ?_) | (refine CodeR.skip ?_) | (refine CodeR.exit ?_; simp only [sA, Ex.then, Ex.inBlock, Nat.reduceEqDiff]) | (first | (refine SeqR.skipN ?_ rfl rfl ?_; (simp only [sA, wantE, T.get_set, Nat.reduceEqDiff, t3, w1, hmx, ps1] <;> with_reducible rfl)) | ((first | refine SeqR.stepN (v := ?_) (s' := ?_) rfl ?_ rfl ?_ rfl rfl ?_ | refine SeqR.stepLN (v := ?_) (s' := ?_) rfl ?_ rfl ?_ rfl rfl ?_); rotate_left 3; (intro call lc; simp only [sA, opE, kindOf, pureE, heapE, rho, rhos, T.get_set, Nat.reduceEqDiff, nb00, absV, absS, l_slice, l_void, l_str, l_arr, natE, loadE, isConst, TK.agg, u_notB, b_eqlB, b_neqB, b_add, b_sub, b_mul, b_lss, b_gtr, b_leq, b_geq, b_eql, b_neq, ty3, i3, si3, ty4, i4, si4, ty9, i9, si9, ty24, i24, si24, ty32, i32, si32, t3, w1, hmx, ps1] <;> rfl); rotate_left 1; (simp only [sA, wantE, T.get_set, Nat.reduceEqDiff, t3, w1, hmx, ps1] <;> with_reducible rfl))))
        refine SeqR.extN rfl rfl rfl (g := 135) (vs := [.str (p.drop (p.length - 9))]) (by simp only [calleeE, rho, rhos, T.get_set, Nat.reduceEqDiff, if_true, if_false, Option.bind_some, Option.map_some, List.toList_toArray]; rfl) rfl hat rfl rfl ?_
        have hdig : dv 0 (p.drop (p.length - 9)) < 1000000000 := by
          have h1 := dv_lt hlast
          have h2 : (p.drop (p.length - 9)).length ≤ 9 := by rw [List.length_drop]; omega
          have h3 : 10 ^ (p.drop (p.length - 9)).length ≤ 10 ^ 9 := Nat.pow_le_pow_right (by omega) h2
          have h4 : (10 : Nat) ^ 9 = 1000000000 := rfl
          omega
        have hsplit : dv 0 p = dv 0 (p.take (p.length - 9)) * 1000000000 + dv 0 (p.drop (p.length - 9)) := by
          have h1 : dv 0 p = dv 0 (p.take (p.length - 9) ++ p.drop (p.length - 9)) := by rw [List.take_append_drop]
          rw [h1, dv_append, dv_acc]
          by_cases h9 : 9 ≤ p.length
          · rw [List.length_drop, show p.length - (p.length - 9) = 9 by omega]
          · rw [show p.length - 9 = 0 by omega, List.take_zero]
            simp [dv]
        generalize dv 0 (p.drop (p.length - 9)) = dgt at *
        iterate 5 (first | (refine SeqR.skipN ?_ rfl rfl ?_; (simp only [sA, wantE, T.get_set, Nat.reduceEqDiff] <;> with_reducible rfl)) | ((first | refine SeqR.stepN (v := ?_) (s' := ?_) rfl ?_ rfl ?_ rfl rfl ?_ | refine SeqR.stepLN (v := ?_) (s' := ?_) rfl ?_ rfl ?_ rfl rfl ?_); rotate_left 3; (intro call lc; simp only [sA, opE, kindOf, pureE, heapE, rho, rhos, T.get_set, Nat.reduceEqDiff, nb00, absV, absS, l_slice, l_void, l_str, l_arr, natE, loadE, isConst, TK.agg, u_notB, b_eqlB, b_neqB, b_add, b_sub, b_mul, b_lss, b_gtr, b_leq, b_geq, b_eql, b_neq, ty3, i3, si3, ty4, i4, si4, ty9, i9, si9, ty24, i24, si24, ty32, i32, si32] <;> rfl); rotate_left 1; (simp only [sA, wantE, T.get_set, Nat.reduceEqDiff] <;> with_reducible rfl)))
        refine SeqR.done ?_
        refine CodeR.seq (CodeR.reg rfl ?_)
        iterate 3 (first | (refine SeqR.skipN ?_ rfl rfl ?_; (simp only [sA, wantE, T.get_set, Nat.reduceEqDiff, t4, hb1, e2] <;> with_reducible rfl)) | ((first | refine SeqR.stepN (v := ?_) (s' := ?_) rfl ?_ rfl ?_ rfl rfl ?_ | refine SeqR.stepLN (v := ?_) (s' := ?_) rfl ?_ rfl ?_ rfl rfl ?_); rotate_left 3; (intro call lc; simp only [sA, opE, kindOf, pureE, heapE, rho, rhos, T.get_set, Nat.reduceEqDiff, nb00, absV, absS, l_slice, l_void, l_str, l_arr, natE, loadE, isConst, TK.agg, u_notB, b_eqlB, b_neqB, b_add, b_sub, b_mul, b_lss, b_gtr, b_leq, b_geq, b_eql, b_neq, ty3, i3, si3, ty4, i4, si4, ty9, i9, si9, ty24, i24, si24, ty32, i32, si32, t4, hb1, e2] <;> rfl); rotate_left 1; (simp only [sA, wantE, T.get_set, Nat.reduceEqDiff, t4, hb1, e2] <;> with_reducible rfl)))
        refine SeqR.step rfl rfl (fun call lc => op_buildS (v := .int .i64 (Int.ofNat (dgt))) (cs := [.int .i64 (Int.ofNat (dgt))]) ty24 rfl ty3 rfl (by decide) (by simp only [rho, T.get_set, Nat.reduceEqDiff, if_true, if_false]) rfl rfl rfl call lc _) rfl rfl ?_
        have hF4 := fresh_new hF3 ⟨3, [.int .i64 (Int.ofNat (dgt))]⟩
        have hK4 := kept_new (Kept.refl s3.c s3) (Nat.le_refl _) ⟨3, [.int .i64 (Int.ofNat (dgt))]⟩
        have hG4 := hG.keep hF3 hK4
        refine SeqR.app (c0 := s.c + 2) (b := s3.c) (t := 24) (e := 3) (z := 1) (new := [.int .i64 (Int.ofNat (dgt))]) rfl rfl rfl rfl ty24 rfl ty3 rfl (by decide) (by simp only [rho, T.get_set, Nat.reduceEqDiff, if_true, if_false]) (by simp only [rho, T.get_set, Nat.reduceEqDiff, if_true, if_false]) (by simp only [T.get_set, if_true]) rfl rfl (by omega) (by simp only; omega) hG4 hF4 (ones_ints _) (by simp only [ints_length, i3]; omega) fun v' s5 q1 q2 q3 q4 => ?_
        have hc5 : s5.c = s3.c + 1 + 1 := q4
        have hb0' : s5.h.get s.c = some ⟨32, i32.zero.cells⟩ := by rw [q3.keep _ (by omega), hK4.keep _ (by omega)]; exact hb0
        have hb1' : s5.h.get (s.c + 1) = some ⟨32, [.bool neg, d]⟩ := by rw [q3.keep _ (by omega), hK4.keep _ (by omega)]; exact hb1
        rw [ints_append] at q1
        repeat (first | (refine CodeR.seq ?_) | (refine CodeR.reg rfl ?_) | (refine CodeR.regD rfl rfl rfl ?_) | (refine SeqR.done ?_) | (refine CodeR.block ?_) | (refine CodeR.skip ?_) | (refine CodeR.exit ?_; simp only [sA, Ex.then, Ex.inBlock, Nat.reduceEqDiff]) | (first | (refine SeqR.skipN ?_ rfl rfl ?_; (simp only [sA, wantE, T.get_set, Nat.reduceEqDiff, t4] <;> with_reducible rfl)) | ((first | refine SeqR.stepN (v := ?_) (s' := ?_) rfl ?_ rfl ?_ rfl rfl ?_ | refine SeqR.stepLN (v := ?_) (s' := ?_) rfl ?_ rfl ?_ rfl rfl ?_); rotate_left 3; (intro call lc; simp only [sA, opE, kindOf, pureE, heapE, rho, rhos, T.get_set, Nat.reduceEqDiff, nb00, absV, absS, l_slice, l_void, l_str, l_arr, natE, loadE, isConst, TK.agg, u_notB, b_eqlB, b_neqB, b_add, b_sub, b_mul, b_lss, b_gtr, b_leq, b_geq, b_eql, b_neq, ty3, i3, si3, ty4, i4, si4, ty9, i9, si9, ty24, i24, si24, ty32, i32, si32, t4] <;> rfl); rotate_left 1; (simp only [sA, wantE, T.get_set, Nat.reduceEqDiff, t4] <;> with_reducible rfl))))
        refine SeqR.step0 rfl (fun call lc old => op_store (b := s.c + 1) (o := 1) (z := 1) (cs := [v']) (v := v') (k := ⟨32, [.bool neg, d]⟩) (by simp only [rho, T.get_set, Nat.reduceEqDiff, if_true, if_false]) (by simp only [rho, T.get_set, Nat.reduceEqDiff, if_true, if_false]) (one_cells (Gro.one (.inl q1))) rfl (by simp only [ones, Gro.one (.inl q1)]; rfl) si24 hb1' (by simp) (by omega) call lc old) rfl ?_
        repeat (first | (refine CodeR.seq ?_) | (refine CodeR.reg rfl ?_) | (refine CodeR.regD rfl rfl rfl ?_) | (refine SeqR.done ?_) | (refine CodeR.block ?_) | (refine CodeR.skip ?_) | (refine CodeR.exit ?_; simp only [sA, Ex.then, Ex.inBlock, Nat.reduceEqDiff]) | (first | (refine SeqR.skipN ?_ rfl rfl ?_; (simp only [sA, wantE, T.get_set, Nat.reduceEqDiff, t3, ps2] <;> with_reducible rfl)) | ((first | refine SeqR.stepN (v := ?_) (s' := ?_) rfl ?_ rfl ?_ rfl rfl ?_ | refine SeqR.stepLN (v := ?_) (s' := ?_) rfl ?_ rfl ?_ rfl rfl ?_); rotate_left 3; (intro call lc; simp only [sA, opE, kindOf, pureE, heapE, rho, rhos, T.get_set, Nat.reduceEqDiff, nb00, absV, absS, l_slice, l_void, l_str, l_arr, natE, loadE, isConst, TK.agg, u_notB, b_eqlB, b_neqB, b_add, b_sub, b_mul, b_lss, b_gtr, b_leq, b_geq, b_eql, b_neq, ty3, i3, si3, ty4, i4, si4, ty9, i9, si9, ty24, i24, si24, ty32, i32, si32, t3, ps2] <;> rfl); rotate_left 1; (simp only [sA, wantE, T.get_set, Nat.reduceEqDiff, t3, ps2] <;> with_reducible rfl))))
        refine ⟨(p.take (p.length - 9)).length, by rw [hk, List.length_take]; omega, fresh_set q2 (by omega), kept_set ((hK3.trans (hK4.le (by omega))).trans (q3.le (by omega))) (by omega), by simp only; omega, ?_, _, p.take (p.length - 9), zs ++ [dgt], v', rfl, rfl, digs_take hp _, by rw [List.length_take]; omega, ?_, ?_, ?_, ?_, Gro.set (.inl q1) (by omega), ?_, ?_, ?_⟩
        · simp only; rw [T.get_set, if_neg (by omega)]; exact hb0'
        · intro y hy
          rcases List.mem_append.1 hy with hy | hy
          · exact hzs y hy
          · rw [List.mem_singleton.1 hy]; exact hdig
        · rw [List.length_append, List.length_singleton, List.length_take]; omega
        · rw [gval_append, List.length_append, List.length_singleton, Nat.pow_succ, ← hval, hsplit, Nat.add_mul, Nat.mul_assoc, Nat.mul_comm 1000000000]
          simp only [gval, Nat.mul_zero, Nat.add_zero]
          rw [Nat.mul_comm (1000000000 ^ zs.length) (dgt)]
          omega
        · simp only; rw [T.get_set, if_pos rfl]; rfl
        simp only [T.get_set, Nat.reduceEqDiff, if_true, if_false, t2]
        simp only [T.get_set, Nat.reduceEqDiff, if_true, if_false]
        simp only [T.get_set, Nat.reduceEqDiff, if_true, if_false, t4]
      · intro hz
        have hp0 : p = [] := List.length_eq_zero_iff.1 (by have : ¬ 0 < p.length := by simpa using hz
                                                           omega)
        subst hp0
        have hv : gval 1000000000 zs = dv 0 ds := by rw [← hval]; simp [dv]
        have hcell := cells_box hb1 (show [AV.bool neg, d].length = 2 from rfl)
        repeat (first | (refine CodeR.seq ?_) | (refine CodeR.reg rfl ?_) | (refine CodeR.regD rfl rfl rfl ?_) | (refine SeqR.done ?_) | (refine CodeR.block ?_) | (refine CodeR.skip ?_) | (refine CodeR.exit ?_; simp only [sA, Ex.then, Ex.inBlock, Nat.reduceEqDiff]) | (first | (refine SeqR.skipN ?_ rfl rfl ?_; (simp only [sA, wantE, T.get_set, Nat.reduceEqDiff, t4, hcell, e2] <;> with_reducible rfl)) | ((first | refine SeqR.stepN (v := ?_) (s' := ?_) rfl ?_ rfl ?_ rfl rfl ?_ | refine SeqR.stepLN (v := ?_) (s' := ?_) rfl ?_ rfl ?_ rfl rfl ?_); rotate_left 3; (intro call lc; simp only [sA, opE, kindOf, pureE, heapE, rho, rhos, T.get_set, Nat.reduceEqDiff, nb00, absV, absS, l_slice, l_void, l_str, l_arr, natE, loadE, isConst, TK.agg, u_notB, b_eqlB, b_neqB, b_add, b_sub, b_mul, b_lss, b_gtr, b_leq, b_geq, b_eql, b_neq, ty3, i3, si3, ty4, i4, si4, ty9, i9, si9, ty24, i24, si24, ty32, i32, si32, t4, hcell, e2] <;> rfl); rotate_left 1; (simp only [sA, wantE, T.get_set, Nat.reduceEqDiff, t4, hcell, e2] <;> with_reducible rfl))))
        refine SeqR.callN (by first | with_reducible rfl | (simp only [sA, wantE, T.get_set, Nat.reduceEqDiff, u_notB, b_eqlB, b_neqB, b_add, b_sub, b_mul, b_lss, b_gtr, b_leq, b_geq, b_eql, b_neq, ty3, i3, si3, ty4, i4, si4, ty9, i9, si9, ty24, i24, si24, ty32, i32, si32] <;> with_reducible rfl)) rfl rfl (g := 97) (vs := [wv neg d]) (by simp only [calleeE, sA, rho, rhos, T.get_set, Nat.reduceEqDiff, u_notB, b_eqlB, b_neqB, b_add, b_sub, b_mul, b_lss, b_gtr, b_leq, b_geq, b_eql, b_neq, ty3, i3, si3, ty4, i4, si4, ty9, i9, si9, ty24, i24, si24, ty32, i32, si32]; rfl) (by first | rfl | assumption) rfl rfl (fun lc hlc => (trim_run hG.row hF3 (lim_lo hlc (by omega)) (by omega)).mono fun v s4 hq => ?_)
        obtain ⟨r1, r2, d3, rfl, r3⟩ := hq
        have m2 := r2.mono
        have hg : s4.h.get s.c = some ⟨32, i32.zero.cells⟩ := by rw [r2.keep _ (by omega)]; exact hb0
        refine SeqR.step0 rfl (fun call lc old => op_setW (b := s.c) (cs0 := i32.zero.cells) (cs := [.bool (neg && !(trimL zs).isEmpty), d3]) (by simp only [rho, T.get_set, Nat.reduceEqDiff, if_true, if_false, t2]) (by simp only [rho, T.get_set, Nat.reduceEqDiff, if_true, if_false]; rfl) (by simp only [ones, Row.one r3, Bool.and_true]; rfl) si32 hg rfl hlo call lc old) rfl ?_
        repeat (first | (refine CodeR.seq ?_) | (refine CodeR.reg rfl ?_) | (refine CodeR.regD rfl rfl rfl ?_) | (refine SeqR.done ?_) | (refine CodeR.block ?_) | (refine CodeR.skip ?_) | (refine CodeR.exit ?_; simp only [sA, Ex.then, Ex.inBlock, Nat.reduceEqDiff]) | (first | (refine SeqR.skipN ?_ rfl rfl ?_; (simp only [sA, wantE, T.get_set, Nat.reduceEqDiff] <;> with_reducible rfl)) | ((first | refine SeqR.stepN (v := ?_) (s' := ?_) rfl ?_ rfl ?_ rfl rfl ?_ | refine SeqR.stepLN (v := ?_) (s' := ?_) rfl ?_ rfl ?_ rfl rfl ?_); rotate_left 3; (intro call lc; simp only [sA, opE, kindOf, pureE, heapE, rho, rhos, T.get_set, Nat.reduceEqDiff, nb00, absV, absS, l_slice, l_void, l_str, l_arr, natE, loadE, isConst, TK.agg, u_notB, b_eqlB, b_neqB, b_add, b_sub, b_mul, b_lss, b_gtr, b_leq, b_geq, b_eql, b_neq, ty3, i3, si3, ty4, i4, si4, ty9, i9, si9, ty24, i24, si24, ty32, i32, si32] <;> rfl); rotate_left 1; (simp only [sA, wantE, T.get_set, Nat.reduceEqDiff] <;> with_reducible rfl))))
        refine CodeR.ret ⟨.inr rfl, [.agg [.bool (neg && !(trimL zs).isEmpty), d3]], ?_, fresh_set r1 (by omega), kept_set (hK3.trans (r2.le (by omega))) (Nat.le_refl _), trimW neg zs, ⟨d3, rfl, Row.set_other r3 hg zero32⟩, whole_trimW hzs, ?_⟩
        · show ressE E _ _ [.cell 2 32] = _
          simp only [ressE, resE, T.get_set, Nat.reduceEqDiff, if_true, if_false, t2, Option.bind_some]
          rw [load_box (z := 0) (s := ⟨s4.h.set s.c ⟨32, [.bool (neg && !(trimL zs).isEmpty), d3]⟩, s4.c⟩) ty32 rfl rfl (by simp only [T.get_set, if_true]; rfl)]
          rfl
        · rw [iv_trimW, val_g, hv]
theorem Int_run {lo : Nat} {z : Int} {s : St} (h0 : -9223372036854775808 < z) (h1 : z < 9223372036854775808) : FunR E lo 101 [.int .i64 z] s fun v s' => s = s' ∧ v = .str (Lib.itoa z) := by
  refine FunR.body (fn := Tryz.f101) fn101' rfl ?_
  have hn : (max ([.int .i64 z] : List AV).length Tryz.f101.ntmps) = 5 := rfl
  generalize max ([.int .i64 z] : List AV).length Tryz.f101.ntmps = n at hn
  subst hn
  have g0 : (argsT 0 ([.int .i64 z] : List AV)).get 0 = some (.int .i64 z) := rfl
  generalize argsT 0 ([.int .i64 z] : List AV) = T0 at g0 ⊢
  have hn : (5 : Nat) = 5 := rfl
  have hit : itoa [.int .i64 z] = some (.str (Lib.itoa z)) := by
    cases h : itoa [.int .i64 z] with
    | some v => rw [(itoa_int z v h).1]
    | none =>
      exfalso
      cases z with
      | ofNat n =>
        simp only [itoa, ble_iff.2 (show n ≤ 9223372036854775807 by simp only [Int.ofNat_eq_natCast] at h1; omega), cond_true] at h
        cases h
      | negSucc n =>
        simp only [itoa, ble_iff.2 (show n ≤ 9223372036854775807 by omega), cond_true] at h
        cases h
  repeat (first | (refine CodeR.seq ?_) | (refine CodeR.reg rfl ?_) | (refine CodeR.regD rfl rfl rfl ?_) | (refine SeqR.done ?_) | (refine CodeR.block ?_) | (refine CodeR.skip ?_) | (refine CodeR.exit ?_; simp only [sA, Ex.then, Ex.inBlock, Nat.reduceEqDiff]) | (first | (refine SeqR.skipN ?_ rfl rfl ?_; (simp only [sA, wantE, T.get_set, Nat.reduceEqDiff, g0] <;> with_reducible rfl)) | ((first | refine SeqR.stepN (v := ?_) (s' := ?_) rfl ?_ rfl ?_ rfl rfl ?_ | refine SeqR.stepLN (v := ?_) (s' := ?_) rfl ?_ rfl ?_ rfl rfl ?_); rotate_left 3; (intro call lc; simp only [sA, opE, kindOf, pureE, heapE, rho, rhos, T.get_set, Nat.reduceEqDiff, nb00, absV, absS, l_slice, l_void, l_str, l_arr, natE, loadE, isConst, TK.agg, u_notB, b_eqlB, b_neqB, b_add, b_sub, b_mul, b_lss, b_gtr, b_leq, b_geq, b_eql, b_neq, ty3, i3, si3, g0] <;> rfl); rotate_left 1; (simp only [sA, wantE, T.get_set, Nat.reduceEqDiff, g0] <;> with_reducible rfl))))
  refine SeqR.extN rfl rfl rfl (g := 132) (vs := [.int .i64 z]) (by simp only [calleeE, rho, rhos, T.get_set, Nat.reduceEqDiff, if_true, if_false, Option.bind_some, Option.map_some, List.toList_toArray, g0]; rfl) rfl hit rfl rfl ?_
  repeat (first | (refine CodeR.seq ?_) | (refine CodeR.reg rfl ?_) | (refine CodeR.regD rfl rfl rfl ?_) | (refine SeqR.done ?_) | (refine CodeR.block ?_) | (refine CodeR.skip ?_) | (refine CodeR.exit ?_; simp only [sA, Ex.then, Ex.inBlock, Nat.reduceEqDiff]) | (first | (refine SeqR.skipN ?_ rfl rfl ?_; (simp only [sA, wantE, T.get_set, Nat.reduceEqDiff] <;> with_reducible rfl)) | ((first | refine SeqR.stepN (v := ?_) (s' := ?_) rfl ?_ rfl ?_ rfl rfl ?_ | refine SeqR.stepLN (v := ?_) (s' := ?_) rfl ?_ rfl ?_ rfl rfl ?_); rotate_left 3; (intro call lc; simp only [sA, opE, kindOf, pureE, heapE, rho, rhos, T.get_set, Nat.reduceEqDiff, nb00, absV, absS, l_slice, l_void, l_str, l_arr, natE, loadE, isConst, TK.agg, u_notB, b_eqlB, b_neqB, b_add, b_sub, b_mul, b_lss, b_gtr, b_leq, b_geq, b_eql, b_neq, ty3, i3, si3] <;> rfl); rotate_left 1; (simp only [sA, wantE, T.get_set, Nat.reduceEqDiff] <;> with_reducible rfl))))
  refine CodeR.ret ⟨.inr rfl, [.str (Lib.itoa z)], by (show ressE E _ _ [.tmp 2] = _; simp only [sA, ressE, resE, T.get_set, Nat.reduceEqDiff, u_notB, b_eqlB, b_neqB, b_add, b_sub, b_mul, b_lss, b_gtr, b_leq, b_geq, b_eql, b_neq, ty3, i3, si3]), ?_⟩
  exact ⟨rfl, rfl⟩
theorem Of_run {lo : Nat} {z : Int} {s : St} (h0 : -9223372036854775808 < z) (h1 : z < 9223372036854775808) (hF : Fresh s) (hlo : lo ≤ s.c) : FunR E lo 22 [.int .i64 z] s fun v s' => Fresh s' ∧ Kept s.c s s' ∧ WZ s'.h z v := by
  refine FunR.body (fn := Tryz.f22) fn22' rfl ?_
  have hn : (max ([.int .i64 z] : List AV).length Tryz.f22.ntmps) = 6 := rfl
  generalize max ([.int .i64 z] : List AV).length Tryz.f22.ntmps = n at hn
  subst hn
  have g0 : (argsT 0 ([.int .i64 z] : List AV)).get 0 = some (.int .i64 z) := rfl
  generalize argsT 0 ([.int .i64 z] : List AV) = T0 at g0 ⊢
  have hn : (6 : Nat) = 6 := rfl
  refine CodeR.seq (CodeR.reg rfl ?_)
  refine SeqR.stepN rfl rfl rfl (fun call lc => op_alloc (cs := i32.zero.cells) ty32 rfl rfl call lc _) rfl rfl ?_
  have hF1 := fresh_new hF ⟨32, i32.zero.cells⟩
  have hK1 := kept_new (Kept.refl s.c s) (Nat.le_refl _) ⟨32, i32.zero.cells⟩
  have hb : (s.h.set s.c (⟨32, i32.zero.cells⟩ : Blk)).get s.c = some ⟨32, i32.zero.cells⟩ := by rw [T.get_set, if_pos rfl]
  generalize hs1 : (⟨s.h.set s.c ⟨32, i32.zero.cells⟩, s.c + 1⟩ : St) = s1 at hF1 hK1 ⊢
  have hb0 : s1.h.get s.c = some ⟨32, i32.zero.cells⟩ := by rw [← hs1]; exact hb
  have hc1 : s1.c = s.c + 1 := by rw [← hs1]
  clear hb hs1
  repeat (first | (refine CodeR.seq ?_) | (refine CodeR.reg rfl ?_) | (refine CodeR.regD rfl rfl rfl ?_) | (refine SeqR.done ?_) | (refine CodeR.block ?_) | (refine CodeR.skip ?_) | (refine CodeR.exit ?_; simp only [sA, Ex.then, Ex.inBlock, Nat.reduceEqDiff]) | (first | (refine SeqR.skipN ?_ rfl rfl ?_; (simp only [sA, wantE, T.get_set, Nat.reduceEqDiff, g0] <;> with_reducible rfl)) | ((first | refine SeqR.stepN (v := ?_) (s' := ?_) rfl ?_ rfl ?_ rfl rfl ?_ | refine SeqR.stepLN (v := ?_) (s' := ?_) rfl ?_ rfl ?_ rfl rfl ?_); rotate_left 3; (intro call lc; simp only [sA, opE, kindOf, pureE, heapE, rho, rhos, T.get_set, Nat.reduceEqDiff, nb00, absV, absS, l_slice, l_void, l_str, l_arr, natE, loadE, isConst, TK.agg, u_notB, b_eqlB, b_neqB, b_add, b_sub, b_mul, b_lss, b_gtr, b_leq, b_geq, b_eql, b_neq, ty3, i3, si3, ty4, i4, si4, ty24, i24, si24, ty32, i32, si32, ty49, i49, si49, g0] <;> rfl); rotate_left 1; (simp only [sA, wantE, T.get_set, Nat.reduceEqDiff, g0] <;> with_reducible rfl))))
  refine SeqR.callN (by first | with_reducible rfl | (simp only [sA, wantE, T.get_set, Nat.reduceEqDiff, u_notB, b_eqlB, b_neqB, b_add, b_sub, b_mul, b_lss, b_gtr, b_leq, b_geq, b_eql, b_neq, ty3, i3, si3, ty4, i4, si4, ty24, i24, si24, ty32, i32, si32, ty49, i49, si49, g0] <;> with_reducible rfl)) rfl rfl (g := 101) (vs := [.int .i64 z]) (by simp only [calleeE, sA, rho, rhos, T.get_set, Nat.reduceEqDiff, u_notB, b_eqlB, b_neqB, b_add, b_sub, b_mul, b_lss, b_gtr, b_leq, b_geq, b_eql, b_neq, ty3, i3, si3, ty4, i4, si4, ty24, i24, si24, ty32, i32, si32, ty49, i49, si49, g0]; rfl) (by first | rfl | assumption) rfl rfl (fun lc hlc => (Int_run h0 h1).mono fun v s' hq => ?_)
  obtain ⟨rfl, rfl⟩ := hq
  obtain ⟨q1, q2⟩ := dec_spec z.natAbs
  have hlen : (Lib.decDigits z.natAbs).length ≤ 100000 := by
    have := (padk_eq (k := 99) (d := z.natAbs) (by omega)).1
    omega
  have htxt : Lib.itoa z = if decide (z < 0) then 45 :: Lib.decDigits z.natAbs else Lib.decDigits z.natAbs := by
    unfold Lib.itoa
    by_cases hz : z < 0
    · simp only [hz, if_true, decide_true]
    · simp only [hz, if_false, decide_false, Bool.false_eq_true]
      rw [show z.toNat = z.natAbs by omega]
  rw [htxt]
  refine SeqR.callN (by first | with_reducible rfl | (simp only [sA, wantE, T.get_set, Nat.reduceEqDiff, u_notB, b_eqlB, b_neqB, b_add, b_sub, b_mul, b_lss, b_gtr, b_leq, b_geq, b_eql, b_neq, ty3, i3, si3, ty4, i4, si4, ty24, i24, si24, ty32, i32, si32, ty49, i49, si49] <;> with_reducible rfl)) rfl rfl (g := 46) (vs := [.str (if decide (z < 0) then 45 :: Lib.decDigits z.natAbs else Lib.decDigits z.natAbs)]) (by simp only [calleeE, sA, rho, rhos, T.get_set, Nat.reduceEqDiff, u_notB, b_eqlB, b_neqB, b_add, b_sub, b_mul, b_lss, b_gtr, b_leq, b_geq, b_eql, b_neq, ty3, i3, si3, ty4, i4, si4, ty24, i24, si24, ty32, i32, si32, ty49, i49, si49]; rfl) (by first | rfl | assumption) rfl rfl (fun lc hlc => (To_run q1 hlen hF1 (lim_lo hlc (by omega))).mono fun v s2 hp => ?_)
  obtain ⟨p1, p2, p3⟩ := hp
  have m2 := p2.mono
  rw [q2, show (if decide (z < 0) = true then -(z.natAbs : Int) else (z.natAbs : Int)) = z by by_cases hz : z < 0 <;> simp [hz] <;> omega] at p3
  obtain ⟨x, ⟨d, rfl, hd⟩, hw, hiv⟩ := p3
  have hg : s2.h.get s.c = some ⟨32, i32.zero.cells⟩ := by rw [p2.keep _ (by omega)]; exact hb0
  refine SeqR.step0 rfl (fun call lc old => op_setW (b := s.c) (cs0 := i32.zero.cells) (cs := [.bool x.1, d]) (by simp only [rho, T.get_set, Nat.reduceEqDiff, if_true, if_false]) (by simp only [rho, T.get_set, Nat.reduceEqDiff, if_true, if_false]; rfl) (by simp only [ones, Row.one hd, Bool.and_true]; rfl) si32 hg rfl hlo call lc old) rfl ?_
  repeat (first | (refine CodeR.seq ?_) | (refine CodeR.reg rfl ?_) | (refine CodeR.regD rfl rfl rfl ?_) | (refine SeqR.done ?_) | (refine CodeR.block ?_) | (refine CodeR.skip ?_) | (refine CodeR.exit ?_; simp only [sA, Ex.then, Ex.inBlock, Nat.reduceEqDiff]) | (first | (refine SeqR.skipN ?_ rfl rfl ?_; (simp only [sA, wantE, T.get_set, Nat.reduceEqDiff] <;> with_reducible rfl)) | ((first | refine SeqR.stepN (v := ?_) (s' := ?_) rfl ?_ rfl ?_ rfl rfl ?_ | refine SeqR.stepLN (v := ?_) (s' := ?_) rfl ?_ rfl ?_ rfl rfl ?_); rotate_left 3; (intro call lc; simp only [sA, opE, kindOf, pureE, heapE, rho, rhos, T.get_set, Nat.reduceEqDiff, nb00, absV, absS, l_slice, l_void, l_str, l_arr, natE, loadE, isConst, TK.agg, u_notB, b_eqlB, b_neqB, b_add, b_sub, b_mul, b_lss, b_gtr, b_leq, b_geq, b_eql, b_neq, ty3, i3, si3, ty4, i4, si4, ty24, i24, si24, ty32, i32, si32, ty49, i49, si49] <;> rfl); rotate_left 1; (simp only [sA, wantE, T.get_set, Nat.reduceEqDiff] <;> with_reducible rfl))))
  refine CodeR.ret ⟨.inr rfl, [.agg [.bool x.1, d]], ?_, fresh_set p1 (by omega), kept_set (hK1.trans (p2.le (by omega))) (Nat.le_refl _), x, ⟨d, rfl, Row.set_other hd hg zero32⟩, hw, hiv⟩
  show ressE E _ _ [.cell 2 32] = _
  simp only [ressE, resE, T.get_set, Nat.reduceEqDiff, if_true, if_false, Option.bind_some]
  rw [load_box (z := 0) (s := ⟨s2.h.set s.c ⟨32, [.bool x.1, d]⟩, s2.c⟩) ty32 rfl rfl (by simp only [T.get_set, if_true]; rfl)]
  rfl
end Go.Proofs.YtaocoplfdhcoaaaGreatDoor.EvA

/- schismaref03.plus, run. -/
import Derived.Test.YtaocoplfdhcoaaaGreatDoorSp14
set_option linter.unusedVariables false
set_option linter.unusedSimpArgs false
set_option maxRecDepth 20000
set_option maxHeartbeats 2000000
namespace Go.Proofs.YtaocoplfdhcoaaaGreatDoor.EvA
open Go Go.RowKit Go.Proofs.YtaocoplfdhcoaaaGreatDoor.Ev
theorem fn98' : E.fns.get 98 = some Tryz.f98 := by kernel_rfl
/-- The sum of two magnitudes with the base 10^9, and a carry. -/
def plusL : Nat → List Nat → List Nat → List Nat
  | c, [], [] => if c = 0 then [] else [c]
  | c, x :: xs, [] => (c + x) % 1000000000 :: plusL ((c + x) / 1000000000) xs []
  | c, [], y :: ys => (c + y) % 1000000000 :: plusL ((c + y) / 1000000000) [] ys
  | c, x :: xs, y :: ys => (c + x + y) % 1000000000 :: plusL ((c + x + y) / 1000000000) xs ys
def Small (xs : List Nat) : Prop := ∀ x ∈ xs, x < 1000000000
theorem Small.get {xs : List Nat} (h : Small xs) (i : Nat) : xs.getD i 0 < 1000000000 := by
  rw [List.getD_eq_getElem?_getD]
  cases hg : xs[i]? with
  | none => simp
  | some x => simpa using h x (List.mem_of_getElem? hg)
theorem plusL_step {c i : Nat} {xs ys : List Nat} (h : i < xs.length ∨ i < ys.length ∨ (0 < c ∧ c < 1000000000)) :
    plusL c (xs.drop i) (ys.drop i) = (c + xs.getD i 0 + ys.getD i 0) % 1000000000 :: plusL ((c + xs.getD i 0 + ys.getD i 0) / 1000000000) (xs.drop (i + 1)) (ys.drop (i + 1)) := by
  have hx : ∀ l : List Nat, i < l.length → l.drop i = l.getD i 0 :: l.drop (i + 1) := fun l hl => by
    rw [List.drop_eq_getElem_cons hl]
    simp [List.getD_eq_getElem?_getD, List.getElem?_eq_getElem hl]
  have hn : ∀ l : List Nat, ¬ i < l.length → l.drop i = [] ∧ l.drop (i + 1) = [] ∧ l.getD i 0 = 0 := fun l hl => by
    refine ⟨List.drop_eq_nil_of_le (by omega), List.drop_eq_nil_of_le (by omega), ?_⟩
    rw [List.getD_eq_getElem?_getD, List.getElem?_eq_none (by omega)]; rfl
  by_cases h1 : i < xs.length
  · by_cases h2 : i < ys.length
    · rw [hx xs h1, hx ys h2, plusL]
    · obtain ⟨e1, e2, e3⟩ := hn ys h2
      rw [hx xs h1, e1, e2, e3, plusL]
      simp
  · obtain ⟨e1, e2, e3⟩ := hn xs h1
    by_cases h2 : i < ys.length
    · rw [hx ys h2, e1, e2, e3, plusL]
      simp
    · obtain ⟨f1, f2, f3⟩ := hn ys h2
      have hc : 0 < c ∧ c < 1000000000 := by omega
      rw [e1, e2, e3, f1, f2, f3, plusL, if_neg (by omega)]
      simp only [Nat.add_zero]
      rw [Nat.mod_eq_of_lt hc.2, Nat.div_eq_of_lt hc.2, plusL, if_pos rfl]
def Live98 (a b v : AV) (i c : Nat) (T1 : T AV) : Prop := T1.get 0 = some a ∧ T1.get 1 = some b ∧ T1.get 7 = some (.int .i64 (Int.ofNat i)) ∧ T1.get 6 = some (.int .i64 (Int.ofNat c)) ∧ T1.get 5 = some v
theorem plus_run {lo : Nat} {a b : AV} {xs ys : List Nat} {s : St} (ha : Row s.h 1 (ints xs) a) (hb : Row s.h 1 (ints ys) b) (hF : Fresh s) (hlo : lo ≤ s.c) (hx : xs.length ≤ 1000000) (hy : ys.length ≤ 1000000) (hsx : Small xs) (hsy : Small ys) :
    FunR E lo 98 [a, b] s fun v s' => Fresh s' ∧ Kept s.c s s' ∧ Own s.c s' 3 1 (ints (plusL 0 xs ys)) v := by
  refine FunR.body (fn := Tryz.f98) fn98' rfl ?_
  have la := lenE_len ha 3
  have lb := lenE_len hb 3
  have hn : (max [a, b].length Tryz.f98.ntmps) = 52 := rfl
  generalize max [a, b].length Tryz.f98.ntmps = n at hn
  subst hn
  have g0 : (argsT 0 [a, b]).get 0 = some a := rfl
  have g1 : (argsT 0 [a, b]).get 1 = some b := rfl
  generalize argsT 0 [a, b] = T0 at g0 g1
  have hn : (52 : Nat) = 52 := rfl
  refine CodeR.seq (CodeR.reg rfl ?_)
  (first | (refine SeqR.skipN ?_ rfl rfl ?_; (simp only [sA, wantE, T.get_set, Nat.reduceEqDiff] <;> with_reducible rfl)) | ((first | refine SeqR.stepN (v := ?_) (s' := ?_) rfl ?_ rfl ?_ rfl rfl ?_ | refine SeqR.stepLN (v := ?_) (s' := ?_) rfl ?_ rfl ?_ rfl rfl ?_); rotate_left 3; (intro call lc; simp only [sA, opE, kindOf, pureE, heapE, rho, rhos, T.get_set, Nat.reduceEqDiff, nb00, absV, absS, l_slice, l_void, l_str, l_arr, natE, loadE, isConst, TK.agg] <;> rfl); rotate_left 1; (simp only [sA, wantE, T.get_set, Nat.reduceEqDiff] <;> with_reducible rfl)))
  refine SeqR.done ?_
  refine CodeR.seq (CodeR.reg rfl ?_)
  (first | (refine SeqR.skipN ?_ rfl rfl ?_; (simp only [sA, wantE, T.get_set, Nat.reduceEqDiff] <;> with_reducible rfl)) | ((first | refine SeqR.stepN (v := ?_) (s' := ?_) rfl ?_ rfl ?_ rfl rfl ?_ | refine SeqR.stepLN (v := ?_) (s' := ?_) rfl ?_ rfl ?_ rfl rfl ?_); rotate_left 3; (intro call lc; simp only [sA, opE, kindOf, pureE, heapE, rho, rhos, T.get_set, Nat.reduceEqDiff, nb00, absV, absS, l_slice, l_void, l_str, l_arr, natE, loadE, isConst, TK.agg] <;> rfl); rotate_left 1; (simp only [sA, wantE, T.get_set, Nat.reduceEqDiff] <;> with_reducible rfl)))
  refine SeqR.done ?_
  refine CodeR.seq (CodeR.reg rfl ?_)
  (first | (refine SeqR.skipN ?_ rfl rfl ?_; (simp only [sA, wantE, T.get_set, Nat.reduceEqDiff] <;> with_reducible rfl)) | ((first | refine SeqR.stepN (v := ?_) (s' := ?_) rfl ?_ rfl ?_ rfl rfl ?_ | refine SeqR.stepLN (v := ?_) (s' := ?_) rfl ?_ rfl ?_ rfl rfl ?_); rotate_left 3; (intro call lc; simp only [sA, opE, kindOf, pureE, heapE, rho, rhos, T.get_set, Nat.reduceEqDiff, nb00, absV, absS, l_slice, l_void, l_str, l_arr, natE, loadE, isConst, TK.agg] <;> rfl); rotate_left 1; (simp only [sA, wantE, T.get_set, Nat.reduceEqDiff] <;> with_reducible rfl)))
  refine SeqR.done ?_
  refine CodeR.seq (CodeR.seq (CodeR.reg rfl ?_))
  (first | (refine SeqR.skipN ?_ rfl rfl ?_; (simp only [sA, wantE, T.get_set, Nat.reduceEqDiff] <;> with_reducible rfl)) | ((first | refine SeqR.stepN (v := ?_) (s' := ?_) rfl ?_ rfl ?_ rfl rfl ?_ | refine SeqR.stepLN (v := ?_) (s' := ?_) rfl ?_ rfl ?_ rfl rfl ?_); rotate_left 3; (intro call lc; simp only [sA, opE, kindOf, pureE, heapE, rho, rhos, T.get_set, Nat.reduceEqDiff, nb00, absV, absS, l_slice, l_void, l_str, l_arr, natE, loadE, isConst, TK.agg] <;> rfl); rotate_left 1; (simp only [sA, wantE, T.get_set, Nat.reduceEqDiff] <;> with_reducible rfl)))
  refine SeqR.done ?_
  refine CodeR.block (CodeR.loop (fun k m s1 => ∃ i c outs v T1, m = ⟨52, T1⟩ ∧ i + k = max xs.length ys.length + 1 ∧ c ≤ 1 ∧ (k = 0 → c = 0) ∧ T1.get 0 = some a ∧ T1.get 1 = some b ∧ T1.get 7 = some (.int .i64 (Int.ofNat i)) ∧ T1.get 6 = some (.int .i64 (Int.ofNat c)) ∧ T1.get 5 = some v ∧
    Own s.c s1 3 1 (ints outs) v ∧ Fresh s1 ∧ Kept s.c s s1 ∧ plusL 0 xs ys = outs ++ plusL c (xs.drop i) (ys.drop i) ∧ outs.length = i) (max xs.length ys.length + 1) ?_ ?_)
  · refine ⟨0, 0, [], .slice none 0 0 0, _, rfl, by omega, by omega, fun _ => rfl, ?_, ?_, ?_, ?_, ?_, .inl ⟨rfl, rfl⟩, hF, Kept.refl _ _, rfl, rfl⟩
    simp only [T.get_set, Nat.reduceEqDiff, if_true, if_false, g0]
    simp only [T.get_set, Nat.reduceEqDiff, if_true, if_false, g1]
    simp only [T.get_set, Nat.reduceEqDiff, if_true, if_false]
    · rfl
    simp only [T.get_set, Nat.reduceEqDiff, if_true, if_false]
    · rfl
    simp only [T.get_set, Nat.reduceEqDiff, if_true, if_false]
  · rintro k m s1 ⟨i, c, outs, v, T1, rfl, hik, hc1, hk0, h0, h1, h7, h6, h5, hown, hF1, hK1, hpl, hol⟩
    have bnd : i ≤ 1000001 := by omega
    have x0 := hsx.get i
    have y0 := hsy.get i
    refine CodeR.seq (CodeR.seq (CodeR.mono (Q := fun e m' s' => e = .nrm ∧ s' = s1 ∧ ∃ T2, m' = ⟨52, T2⟩ ∧ Live98 a b v i c T2 ∧ T2.get 21 = some (.bool (ltB (Int.ofNat i) (Int.ofNat xs.length) || ltB (Int.ofNat i) (Int.ofNat ys.length) || ltB 0 (Int.ofNat c)))) (CodeR.reg rfl ?_) ?_))
    · cases hA : ltB (Int.ofNat i) (Int.ofNat xs.length)
      · cases hB : ltB (Int.ofNat i) (Int.ofNat ys.length)
        · iterate 14 (first | (refine SeqR.skipN ?_ rfl rfl ?_; (simp only [sA, wantE, T.get_set, Nat.reduceEqDiff, h0, h1, h7, h6, tt24, i24, la, lb, b_lss, b_gtr, hA, hB] <;> with_reducible rfl)) | ((first | refine SeqR.stepN (v := ?_) (s' := ?_) rfl ?_ rfl ?_ rfl rfl ?_ | refine SeqR.stepLN (v := ?_) (s' := ?_) rfl ?_ rfl ?_ rfl rfl ?_); rotate_left 3; (intro call lc; simp only [sA, opE, kindOf, pureE, heapE, rho, rhos, T.get_set, Nat.reduceEqDiff, nb00, absV, absS, l_slice, l_void, l_str, l_arr, natE, loadE, isConst, TK.agg, h0, h1, h7, h6, tt24, i24, la, lb, b_lss, b_gtr, hA, hB] <;> rfl); rotate_left 1; (simp only [sA, wantE, T.get_set, Nat.reduceEqDiff, h0, h1, h7, h6, tt24, i24, la, lb, b_lss, b_gtr, hA, hB] <;> with_reducible rfl)))
          refine SeqR.done ⟨rfl, rfl, _, rfl, ⟨?_, ?_, ?_, ?_, ?_⟩, ?_⟩
          simp only [T.get_set, Nat.reduceEqDiff, if_true, if_false, h0]
          simp only [T.get_set, Nat.reduceEqDiff, if_true, if_false, h1]
          simp only [T.get_set, Nat.reduceEqDiff, if_true, if_false, h7]
          simp only [T.get_set, Nat.reduceEqDiff, if_true, if_false, h6]
          simp only [T.get_set, Nat.reduceEqDiff, if_true, if_false, h5]
          simp only [T.get_set, Nat.reduceEqDiff, if_true, if_false]
          · rfl
        · iterate 14 (first | (refine SeqR.skipN ?_ rfl rfl ?_; (simp only [sA, wantE, T.get_set, Nat.reduceEqDiff, h0, h1, h7, h6, tt24, i24, la, lb, b_lss, b_gtr, hA, hB] <;> with_reducible rfl)) | ((first | refine SeqR.stepN (v := ?_) (s' := ?_) rfl ?_ rfl ?_ rfl rfl ?_ | refine SeqR.stepLN (v := ?_) (s' := ?_) rfl ?_ rfl ?_ rfl rfl ?_); rotate_left 3; (intro call lc; simp only [sA, opE, kindOf, pureE, heapE, rho, rhos, T.get_set, Nat.reduceEqDiff, nb00, absV, absS, l_slice, l_void, l_str, l_arr, natE, loadE, isConst, TK.agg, h0, h1, h7, h6, tt24, i24, la, lb, b_lss, b_gtr, hA, hB] <;> rfl); rotate_left 1; (simp only [sA, wantE, T.get_set, Nat.reduceEqDiff, h0, h1, h7, h6, tt24, i24, la, lb, b_lss, b_gtr, hA, hB] <;> with_reducible rfl)))
          refine SeqR.done ⟨rfl, rfl, _, rfl, ⟨?_, ?_, ?_, ?_, ?_⟩, ?_⟩
          simp only [T.get_set, Nat.reduceEqDiff, if_true, if_false, h0]
          simp only [T.get_set, Nat.reduceEqDiff, if_true, if_false, h1]
          simp only [T.get_set, Nat.reduceEqDiff, if_true, if_false, h7]
          simp only [T.get_set, Nat.reduceEqDiff, if_true, if_false, h6]
          simp only [T.get_set, Nat.reduceEqDiff, if_true, if_false, h5]
          simp only [T.get_set, Nat.reduceEqDiff, if_true, if_false]
          · rfl
      · iterate 14 (first | (refine SeqR.skipN ?_ rfl rfl ?_; (simp only [sA, wantE, T.get_set, Nat.reduceEqDiff, h0, h1, h7, h6, tt24, i24, la, lb, b_lss, b_gtr, hA] <;> with_reducible rfl)) | ((first | refine SeqR.stepN (v := ?_) (s' := ?_) rfl ?_ rfl ?_ rfl rfl ?_ | refine SeqR.stepLN (v := ?_) (s' := ?_) rfl ?_ rfl ?_ rfl rfl ?_); rotate_left 3; (intro call lc; simp only [sA, opE, kindOf, pureE, heapE, rho, rhos, T.get_set, Nat.reduceEqDiff, nb00, absV, absS, l_slice, l_void, l_str, l_arr, natE, loadE, isConst, TK.agg, h0, h1, h7, h6, tt24, i24, la, lb, b_lss, b_gtr, hA] <;> rfl); rotate_left 1; (simp only [sA, wantE, T.get_set, Nat.reduceEqDiff, h0, h1, h7, h6, tt24, i24, la, lb, b_lss, b_gtr, hA] <;> with_reducible rfl)))
        refine SeqR.done ⟨rfl, rfl, _, rfl, ⟨?_, ?_, ?_, ?_, ?_⟩, ?_⟩
        simp only [T.get_set, Nat.reduceEqDiff, if_true, if_false, h0]
        simp only [T.get_set, Nat.reduceEqDiff, if_true, if_false, h1]
        simp only [T.get_set, Nat.reduceEqDiff, if_true, if_false, h7]
        simp only [T.get_set, Nat.reduceEqDiff, if_true, if_false, h6]
        simp only [T.get_set, Nat.reduceEqDiff, if_true, if_false, h5]
        simp only [T.get_set, Nat.reduceEqDiff, if_true, if_false]
        · rfl
    · rintro e m' s' ⟨rfl, rfl, T2, rfl, ⟨h0, h1, h7, h6, h5⟩, h21⟩
      refine CodeR.cond h21 ?_ ?_
      · intro hcnd
        have hcnd' : i < xs.length ∨ i < ys.length ∨ 0 < c := by
          rw [ltB_nat, ltB_nat, show (0 : Int) = Int.ofNat 0 from rfl, ltB_nat] at hcnd
          simpa [or_assoc] using hcnd
        refine CodeR.skip ?_
        refine CodeR.seq (CodeR.block (CodeR.seq (CodeR.mono (Q := fun e m' s'' => e = .nrm ∧ s'' = s' ∧ ∃ T2, m' = ⟨52, T2⟩ ∧ Live98 a b v i (c + xs.getD i 0) T2) (CodeR.seq (CodeR.reg rfl ?_)) ?_)))
        · iterate 4 (first | (refine SeqR.skipN ?_ rfl rfl ?_; (simp only [sA, wantE, T.get_set, Nat.reduceEqDiff, h0, h1, h7, h6, tt24, i24, la, lb, b_lss] <;> with_reducible rfl)) | ((first | refine SeqR.stepN (v := ?_) (s' := ?_) rfl ?_ rfl ?_ rfl rfl ?_ | refine SeqR.stepLN (v := ?_) (s' := ?_) rfl ?_ rfl ?_ rfl rfl ?_); rotate_left 3; (intro call lc; simp only [sA, opE, kindOf, pureE, heapE, rho, rhos, T.get_set, Nat.reduceEqDiff, nb00, absV, absS, l_slice, l_void, l_str, l_arr, natE, loadE, isConst, TK.agg, h0, h1, h7, h6, tt24, i24, la, lb, b_lss] <;> rfl); rotate_left 1; (simp only [sA, wantE, T.get_set, Nat.reduceEqDiff, h0, h1, h7, h6, tt24, i24, la, lb, b_lss] <;> with_reducible rfl)))
          refine SeqR.done ?_
          refine CodeR.cond (t := ltB (Int.ofNat i) (Int.ofNat xs.length)) (by simp only [rho, T.get_set, Nat.reduceEqDiff, if_true, if_false]) ?_ ?_
          · intro hA
            rw [ltB_nat] at hA
            obtain ⟨ba, oa, na, ca, qa, ka, rfl, e1, e2, e3⟩ := Row.int (ha.keep hF.lt hK1) (show i < xs.length by simpa using hA)
            have e4 : Nat.blt ba s'.c = true := blt_iff.2 (hF1.lt ba ka e2)
            have e5 := wr_add (a := c) (b := xs.getD i 0) (by omega)
            refine CodeR.reg rfl ?_
            iterate 7 (first | (refine SeqR.skipN ?_ rfl rfl ?_; (simp only [sA, wantE, T.get_set, Nat.reduceEqDiff, h0, h1, h7, h6, tt24, i24, tt3, i3, sz3, e1, e2, e3, e4, e5, b_add] <;> with_reducible rfl)) | ((first | refine SeqR.stepN (v := ?_) (s' := ?_) rfl ?_ rfl ?_ rfl rfl ?_ | refine SeqR.stepLN (v := ?_) (s' := ?_) rfl ?_ rfl ?_ rfl rfl ?_); rotate_left 3; (intro call lc; simp only [sA, opE, kindOf, pureE, heapE, rho, rhos, T.get_set, Nat.reduceEqDiff, nb00, absV, absS, l_slice, l_void, l_str, l_arr, natE, loadE, isConst, TK.agg, h0, h1, h7, h6, tt24, i24, tt3, i3, sz3, e1, e2, e3, e4, e5, b_add] <;> rfl); rotate_left 1; (simp only [sA, wantE, T.get_set, Nat.reduceEqDiff, h0, h1, h7, h6, tt24, i24, tt3, i3, sz3, e1, e2, e3, e4, e5, b_add] <;> with_reducible rfl)))
            refine SeqR.done ⟨rfl, rfl, _, rfl, ?_, ?_, ?_, ?_, ?_⟩
            simp only [T.get_set, Nat.reduceEqDiff, if_true, if_false, h0]
            simp only [T.get_set, Nat.reduceEqDiff, if_true, if_false, h1]
            simp only [T.get_set, Nat.reduceEqDiff, if_true, if_false, h7]
            simp only [T.get_set, Nat.reduceEqDiff, if_true, if_false]
            simp only [T.get_set, Nat.reduceEqDiff, if_true, if_false, h5]
          · intro hA
            rw [ltB_nat] at hA
            have e6 : xs.getD i 0 = 0 := by rw [List.getD_eq_getElem?_getD, List.getElem?_eq_none (by simpa using hA)]; rfl
            rw [e6, Nat.add_zero]
            refine CodeR.skip ⟨rfl, rfl, _, rfl, ?_, ?_, ?_, ?_, ?_⟩
            simp only [T.get_set, Nat.reduceEqDiff, if_true, if_false, h0]
            simp only [T.get_set, Nat.reduceEqDiff, if_true, if_false, h1]
            simp only [T.get_set, Nat.reduceEqDiff, if_true, if_false, h7]
            simp only [T.get_set, Nat.reduceEqDiff, if_true, if_false, h6]
            simp only [T.get_set, Nat.reduceEqDiff, if_true, if_false, h5]
        · rintro e m' s'' ⟨rfl, rfl, T3, rfl, ⟨h0, h1, h7, h6, h5⟩⟩
          refine CodeR.seq (CodeR.mono (Q := fun e m' s3 => e = .nrm ∧ s3 = s'' ∧ ∃ T2, m' = ⟨52, T2⟩ ∧ Live98 a b v i (c + xs.getD i 0 + ys.getD i 0) T2) (CodeR.seq (CodeR.reg rfl ?_)) ?_)
          · iterate 4 (first | (refine SeqR.skipN ?_ rfl rfl ?_; (simp only [sA, wantE, T.get_set, Nat.reduceEqDiff, h0, h1, h7, h6, tt24, i24, la, lb, b_lss] <;> with_reducible rfl)) | ((first | refine SeqR.stepN (v := ?_) (s' := ?_) rfl ?_ rfl ?_ rfl rfl ?_ | refine SeqR.stepLN (v := ?_) (s' := ?_) rfl ?_ rfl ?_ rfl rfl ?_); rotate_left 3; (intro call lc; simp only [sA, opE, kindOf, pureE, heapE, rho, rhos, T.get_set, Nat.reduceEqDiff, nb00, absV, absS, l_slice, l_void, l_str, l_arr, natE, loadE, isConst, TK.agg, h0, h1, h7, h6, tt24, i24, la, lb, b_lss] <;> rfl); rotate_left 1; (simp only [sA, wantE, T.get_set, Nat.reduceEqDiff, h0, h1, h7, h6, tt24, i24, la, lb, b_lss] <;> with_reducible rfl)))
            refine SeqR.done ?_
            refine CodeR.cond (t := ltB (Int.ofNat i) (Int.ofNat ys.length)) (by simp only [rho, T.get_set, Nat.reduceEqDiff, if_true, if_false]) ?_ ?_
            · intro hA
              rw [ltB_nat] at hA
              obtain ⟨ba, oa, na, ca, qa, ka, rfl, e1, e2, e3⟩ := Row.int (hb.keep hF.lt hK1) (show i < ys.length by simpa using hA)
              have e4 : Nat.blt ba s''.c = true := blt_iff.2 (hF1.lt ba ka e2)
              have e5 := wr_add (a := c + xs.getD i 0) (b := ys.getD i 0) (by omega)
              refine CodeR.reg rfl ?_
              iterate 7 (first | (refine SeqR.skipN ?_ rfl rfl ?_; (simp only [sA, wantE, T.get_set, Nat.reduceEqDiff, h0, h1, h7, h6, tt24, i24, tt3, i3, sz3, e1, e2, e3, e4, e5, b_add] <;> with_reducible rfl)) | ((first | refine SeqR.stepN (v := ?_) (s' := ?_) rfl ?_ rfl ?_ rfl rfl ?_ | refine SeqR.stepLN (v := ?_) (s' := ?_) rfl ?_ rfl ?_ rfl rfl ?_); rotate_left 3; (intro call lc; simp only [sA, opE, kindOf, pureE, heapE, rho, rhos, T.get_set, Nat.reduceEqDiff, nb00, absV, absS, l_slice, l_void, l_str, l_arr, natE, loadE, isConst, TK.agg, h0, h1, h7, h6, tt24, i24, tt3, i3, sz3, e1, e2, e3, e4, e5, b_add] <;> rfl); rotate_left 1; (simp only [sA, wantE, T.get_set, Nat.reduceEqDiff, h0, h1, h7, h6, tt24, i24, tt3, i3, sz3, e1, e2, e3, e4, e5, b_add] <;> with_reducible rfl)))
              refine SeqR.done ⟨rfl, rfl, _, rfl, ?_, ?_, ?_, ?_, ?_⟩
              simp only [T.get_set, Nat.reduceEqDiff, if_true, if_false, h0]
              simp only [T.get_set, Nat.reduceEqDiff, if_true, if_false, h1]
              simp only [T.get_set, Nat.reduceEqDiff, if_true, if_false, h7]
              simp only [T.get_set, Nat.reduceEqDiff, if_true, if_false]
              simp only [T.get_set, Nat.reduceEqDiff, if_true, if_false, h5]
            · intro hA
              rw [ltB_nat] at hA
              have e6 : ys.getD i 0 = 0 := by rw [List.getD_eq_getElem?_getD, List.getElem?_eq_none (by simpa using hA)]; rfl
              rw [e6, Nat.add_zero]
              refine CodeR.skip ⟨rfl, rfl, _, rfl, ?_, ?_, ?_, ?_, ?_⟩
              simp only [T.get_set, Nat.reduceEqDiff, if_true, if_false, h0]
              simp only [T.get_set, Nat.reduceEqDiff, if_true, if_false, h1]
              simp only [T.get_set, Nat.reduceEqDiff, if_true, if_false, h7]
              simp only [T.get_set, Nat.reduceEqDiff, if_true, if_false, h6]
              simp only [T.get_set, Nat.reduceEqDiff, if_true, if_false, h5]
          · rintro e m' s3 ⟨rfl, rfl, T4, rfl, ⟨h0, h1, h7, h6, h5⟩⟩
            generalize ht : c + xs.getD i 0 + ys.getD i 0 = t at h6
            refine CodeR.seq (CodeR.reg rfl ?_)
            iterate 3 (first | (refine SeqR.skipN ?_ rfl rfl ?_; (simp only [sA, wantE, T.get_set, Nat.reduceEqDiff, h0, h1, h7, h6, h5, b_remB] <;> with_reducible rfl)) | ((first | refine SeqR.stepN (v := ?_) (s' := ?_) rfl ?_ rfl ?_ rfl rfl ?_ | refine SeqR.stepLN (v := ?_) (s' := ?_) rfl ?_ rfl ?_ rfl rfl ?_); rotate_left 3; (intro call lc; simp only [sA, opE, kindOf, pureE, heapE, rho, rhos, T.get_set, Nat.reduceEqDiff, nb00, absV, absS, l_slice, l_void, l_str, l_arr, natE, loadE, isConst, TK.agg, h0, h1, h7, h6, h5, b_remB] <;> rfl); rotate_left 1; (simp only [sA, wantE, T.get_set, Nat.reduceEqDiff, h0, h1, h7, h6, h5, b_remB] <;> with_reducible rfl)))
            refine SeqR.step (v := _) (s' := _) rfl rfl (fun call lc => op_build1 (k := .i64) (n := Int.ofNat (t % 1000000000)) (by simp only [rho, T.get_set, if_true])) rfl rfl ?_
            have hF3 : Fresh ⟨s3.h.set s3.c ⟨3, [.int .i64 (Int.ofNat (t % 1000000000))]⟩, s3.c + 1⟩ := fun b' hb' => by
              simp only at hb' ⊢
              rw [T.get_set, if_neg (by omega)]
              exact hF1 b' (by omega)
            have hK3 : Kept s3.c s3 ⟨s3.h.set s3.c ⟨3, [.int .i64 (Int.ofNat (t % 1000000000))]⟩, s3.c + 1⟩ := ⟨Nat.le_succ _, fun b' hb' => by simp only; rw [T.get_set, if_neg (by omega)]⟩
            have hcs := hK1.mono
            have hown3 := hown.keep hF1 hK3
            refine SeqR.append1 (x := .tmp 44) (y := .tmp 47) (b := s3.c) (w := .int .i64 (Int.ofNat (t % 1000000000))) (cs := ints outs) (v := v) rfl rfl rfl rfl (by simp only [rho, T.get_set, Nat.reduceEqDiff, if_true, if_false, h5]) (by simp only [rho, T.get_set, if_true]) (by simp only [T.get_set, if_true]) rfl hlo (by simp only; omega) hown3 hF3 (ones_ints _) (by rw [ints_length]; omega) ?_
            intro v' s4 q1 q2 q3
            (first | (refine SeqR.skipN ?_ rfl rfl ?_; (simp only [sA, wantE, T.get_set, Nat.reduceEqDiff] <;> with_reducible rfl)) | ((first | refine SeqR.stepN (v := ?_) (s' := ?_) rfl ?_ rfl ?_ rfl rfl ?_ | refine SeqR.stepLN (v := ?_) (s' := ?_) rfl ?_ rfl ?_ rfl rfl ?_); rotate_left 3; (intro call lc; simp only [sA, opE, kindOf, pureE, heapE, rho, rhos, T.get_set, Nat.reduceEqDiff, nb00, absV, absS, l_slice, l_void, l_str, l_arr, natE, loadE, isConst, TK.agg] <;> rfl); rotate_left 1; (simp only [sA, wantE, T.get_set, Nat.reduceEqDiff] <;> with_reducible rfl)))
            refine SeqR.done ?_
            refine CodeR.reg rfl ?_
            have e7 : wr .i64 (Int.ofNat (t / 1000000000)) = Int.ofNat (t / 1000000000) := wr_nat (by omega)
            iterate 3 (first | (refine SeqR.skipN ?_ rfl rfl ?_; (simp only [sA, wantE, T.get_set, Nat.reduceEqDiff, h6, b_quoB, e7] <;> with_reducible rfl)) | ((first | refine SeqR.stepN (v := ?_) (s' := ?_) rfl ?_ rfl ?_ rfl rfl ?_ | refine SeqR.stepLN (v := ?_) (s' := ?_) rfl ?_ rfl ?_ rfl rfl ?_); rotate_left 3; (intro call lc; simp only [sA, opE, kindOf, pureE, heapE, rho, rhos, T.get_set, Nat.reduceEqDiff, nb00, absV, absS, l_slice, l_void, l_str, l_arr, natE, loadE, isConst, TK.agg, h6, b_quoB, e7] <;> rfl); rotate_left 1; (simp only [sA, wantE, T.get_set, Nat.reduceEqDiff, h6, b_quoB, e7] <;> with_reducible rfl)))
            refine SeqR.done ?_
            refine CodeR.reg rfl ?_
            have e8 := wr_add (a := i) (b := 1) (by omega)
            have e9 : (1 : Int) = Int.ofNat 1 := rfl
            iterate 3 (first | (refine SeqR.skipN ?_ rfl rfl ?_; (simp only [sA, wantE, T.get_set, Nat.reduceEqDiff, h7, b_add, e9, e8] <;> with_reducible rfl)) | ((first | refine SeqR.stepN (v := ?_) (s' := ?_) rfl ?_ rfl ?_ rfl rfl ?_ | refine SeqR.stepLN (v := ?_) (s' := ?_) rfl ?_ rfl ?_ rfl rfl ?_); rotate_left 3; (intro call lc; simp only [sA, opE, kindOf, pureE, heapE, rho, rhos, T.get_set, Nat.reduceEqDiff, nb00, absV, absS, l_slice, l_void, l_str, l_arr, natE, loadE, isConst, TK.agg, h7, b_add, e9, e8] <;> rfl); rotate_left 1; (simp only [sA, wantE, T.get_set, Nat.reduceEqDiff, h7, b_add, e9, e8] <;> with_reducible rfl)))
            have hk1 : k ≠ 0 := fun e => by
              have := hk0 e
              omega
            refine SeqR.done ⟨k - 1, by omega, i + 1, t / 1000000000, outs ++ [t % 1000000000], v', _, rfl, by omega, by omega, fun e => ?_, ?_, ?_, ?_, ?_, ?_, ?_, q2, ?_, ?_, ?_⟩
            · have hz : ∀ l : List Nat, l.length ≤ i → l.getD i 0 = 0 := fun l hl => by rw [List.getD_eq_getElem?_getD, List.getElem?_eq_none hl]; rfl
              have z1 := hz xs (by omega)
              have z2 := hz ys (by omega)
              omega
            simp only [T.get_set, Nat.reduceEqDiff, if_true, if_false, h0]
            simp only [T.get_set, Nat.reduceEqDiff, if_true, if_false, h1]
            simp only [T.get_set, Nat.reduceEqDiff, if_true, if_false]
            simp only [T.get_set, Nat.reduceEqDiff, if_true, if_false]
            simp only [T.get_set, Nat.reduceEqDiff, if_true, if_false]
            · rw [← ints_append]; exact q1
            · exact hK1.trans ((hK3.le (by omega)).trans q3)
            · rw [hpl, plusL_step (by omega), ht]
              simp
            · simp [hol]
      · intro hcnd
        have hcnd' : ¬ i < xs.length ∧ ¬ i < ys.length ∧ ¬ 0 < c := by
          rw [ltB_nat, ltB_nat, show (0 : Int) = Int.ofNat 0 from rfl, ltB_nat] at hcnd
          simpa [and_assoc] using hcnd
        obtain ⟨z1, z2, z3⟩ := hcnd'
        refine CodeR.exit ?_
        simp only [Ex.then, Ex.inBlock, if_true]
        refine CodeR.seq (CodeR.reg rfl ?_)
        iterate 2 (first | (refine SeqR.skipN ?_ rfl rfl ?_; (simp only [sA, wantE, T.get_set, Nat.reduceEqDiff, h5] <;> with_reducible rfl)) | ((first | refine SeqR.stepN (v := ?_) (s' := ?_) rfl ?_ rfl ?_ rfl rfl ?_ | refine SeqR.stepLN (v := ?_) (s' := ?_) rfl ?_ rfl ?_ rfl rfl ?_); rotate_left 3; (intro call lc; simp only [sA, opE, kindOf, pureE, heapE, rho, rhos, T.get_set, Nat.reduceEqDiff, nb00, absV, absS, l_slice, l_void, l_str, l_arr, natE, loadE, isConst, TK.agg, h5] <;> rfl); rotate_left 1; (simp only [sA, wantE, T.get_set, Nat.reduceEqDiff, h5] <;> with_reducible rfl)))
        refine SeqR.done ?_
        refine CodeR.ret ⟨.inr rfl, [v], ?_, hF1, hK1, ?_⟩
        · show ressE E _ s' [.tmp 4] = _
          simp only [ressE, resE, T.get_set, if_true, Option.bind_some, Option.map_some]
        · have : plusL 0 xs ys = outs := by
            rw [hpl, List.drop_eq_nil_of_le (by omega), List.drop_eq_nil_of_le (by omega), plusL, if_pos (by omega), List.append_nil]
          rw [this]
          exact hown
end Go.Proofs.YtaocoplfdhcoaaaGreatDoor.EvA
set_option linter.unusedVariables false
set_option linter.unusedSimpArgs false
set_option maxRecDepth 20000
set_option maxHeartbeats 2000000
namespace Go.Proofs.YtaocoplfdhcoaaaGreatDoor.EvA
open Go Go.RowKit Go.Proofs.YtaocoplfdhcoaaaGreatDoor.Ev
theorem fn99' : E.fns.get 99 = some Tryz.f99 := by kernel_rfl
/-- The first k digits of two magnitudes of one length, compared from the top. -/
def cmpTop (xs ys : List Nat) : Nat → Int
  | 0 => 0
  | k + 1 => if xs.getD k 0 < ys.getD k 0 then -1 else if ys.getD k 0 < xs.getD k 0 then 1 else cmpTop xs ys k
def aboveL (xs ys : List Nat) : Int := if xs.length = ys.length then cmpTop xs ys xs.length else if xs.length < ys.length then -1 else 1
theorem above_run {lo : Nat} {a b : AV} {xs ys : List Nat} {s : St} (ha : Row s.h 1 (ints xs) a) (hb : Row s.h 1 (ints ys) b) (hF : Fresh s) (hx : xs.length ≤ 1000000) :
    FunR E lo 99 [a, b] s fun v s' => s' = s ∧ v = .int .i64 (aboveL xs ys) := by
  refine FunR.body (fn := Tryz.f99) fn99' rfl ?_
  have la := lenE_len ha 3
  have lb := lenE_len hb 3
  have hn : (max [a, b].length Tryz.f99.ntmps) = 41 := rfl
  generalize max [a, b].length Tryz.f99.ntmps = n at hn
  subst hn
  have g0 : (argsT 0 [a, b]).get 0 = some a := rfl
  have g1 : (argsT 0 [a, b]).get 1 = some b := rfl
  generalize argsT 0 [a, b] = T0 at g0 g1
  have hn : (41 : Nat) = 41 := rfl
  refine CodeR.seq (CodeR.reg rfl ?_)
  (first | (refine SeqR.skipN ?_ rfl rfl ?_; (simp only [sA, wantE, T.get_set, Nat.reduceEqDiff] <;> with_reducible rfl)) | ((first | refine SeqR.stepN (v := ?_) (s' := ?_) rfl ?_ rfl ?_ rfl rfl ?_ | refine SeqR.stepLN (v := ?_) (s' := ?_) rfl ?_ rfl ?_ rfl rfl ?_); rotate_left 3; (intro call lc; simp only [sA, opE, kindOf, pureE, heapE, rho, rhos, T.get_set, Nat.reduceEqDiff, nb00, absV, absS, l_slice, l_void, l_str, l_arr, natE, loadE, isConst, TK.agg] <;> rfl); rotate_left 1; (simp only [sA, wantE, T.get_set, Nat.reduceEqDiff] <;> with_reducible rfl)))
  refine SeqR.done ?_
  refine CodeR.seq (CodeR.seq (CodeR.reg rfl ?_))
  iterate 5 (first | (refine SeqR.skipN ?_ rfl rfl ?_; (simp only [sA, wantE, T.get_set, Nat.reduceEqDiff, g0, g1, tt24, la, lb, b_neq, i24] <;> with_reducible rfl)) | ((first | refine SeqR.stepN (v := ?_) (s' := ?_) rfl ?_ rfl ?_ rfl rfl ?_ | refine SeqR.stepLN (v := ?_) (s' := ?_) rfl ?_ rfl ?_ rfl rfl ?_); rotate_left 3; (intro call lc; simp only [sA, opE, kindOf, pureE, heapE, rho, rhos, T.get_set, Nat.reduceEqDiff, nb00, absV, absS, l_slice, l_void, l_str, l_arr, natE, loadE, isConst, TK.agg, g0, g1, tt24, la, lb, b_neq, i24] <;> rfl); rotate_left 1; (simp only [sA, wantE, T.get_set, Nat.reduceEqDiff, g0, g1, tt24, la, lb, b_neq, i24] <;> with_reducible rfl)))
  refine SeqR.done ?_
  have fin : ∀ {T1 : T AV} {v : Int}, T1.get 4 = some (.int .i64 v) → v = aboveL xs ys → (Ex.ret = .nrm ∨ Ex.ret = .ret) ∧ ∃ us, ressE E T1 s Tryz.f99.results.toList = some us ∧ (s = s ∧ oneOf us = .int .i64 (aboveL xs ys)) := fun {T1 v} h4 hv => by
    refine ⟨.inr rfl, [.int .i64 v], ?_, rfl, by rw [hv]; rfl⟩
    show ressE E T1 s [.tmp 4] = _
    simp only [ressE, resE, h4, Option.bind_some, Option.map_some]
  refine CodeR.cond (t := !eqB (Int.ofNat xs.length) (Int.ofNat ys.length)) (by simp only [rho, T.get_set, Nat.reduceEqDiff, if_true, if_false]) ?_ ?_
  · intro hne
    have hne' : xs.length ≠ ys.length := by rw [eqB_nat] at hne; simpa using hne
    refine CodeR.seq (CodeR.seq (CodeR.reg rfl ?_))
    iterate 5 (first | (refine SeqR.skipN ?_ rfl rfl ?_; (simp only [sA, wantE, T.get_set, Nat.reduceEqDiff, g0, g1, tt24, la, lb, b_lss, i24] <;> with_reducible rfl)) | ((first | refine SeqR.stepN (v := ?_) (s' := ?_) rfl ?_ rfl ?_ rfl rfl ?_ | refine SeqR.stepLN (v := ?_) (s' := ?_) rfl ?_ rfl ?_ rfl rfl ?_); rotate_left 3; (intro call lc; simp only [sA, opE, kindOf, pureE, heapE, rho, rhos, T.get_set, Nat.reduceEqDiff, nb00, absV, absS, l_slice, l_void, l_str, l_arr, natE, loadE, isConst, TK.agg, g0, g1, tt24, la, lb, b_lss, i24] <;> rfl); rotate_left 1; (simp only [sA, wantE, T.get_set, Nat.reduceEqDiff, g0, g1, tt24, la, lb, b_lss, i24] <;> with_reducible rfl)))
    refine SeqR.done ?_
    refine CodeR.cond (t := ltB (Int.ofNat xs.length) (Int.ofNat ys.length)) (by simp only [rho, T.get_set, Nat.reduceEqDiff, if_true, if_false]) ?_ ?_
    · intro hlt
      refine CodeR.seq (CodeR.reg rfl ?_)
      (first | (refine SeqR.skipN ?_ rfl rfl ?_; (simp only [sA, wantE, T.get_set, Nat.reduceEqDiff] <;> with_reducible rfl)) | ((first | refine SeqR.stepN (v := ?_) (s' := ?_) rfl ?_ rfl ?_ rfl rfl ?_ | refine SeqR.stepLN (v := ?_) (s' := ?_) rfl ?_ rfl ?_ rfl rfl ?_); rotate_left 3; (intro call lc; simp only [sA, opE, kindOf, pureE, heapE, rho, rhos, T.get_set, Nat.reduceEqDiff, nb00, absV, absS, l_slice, l_void, l_str, l_arr, natE, loadE, isConst, TK.agg] <;> rfl); rotate_left 1; (simp only [sA, wantE, T.get_set, Nat.reduceEqDiff] <;> with_reducible rfl)))
      refine SeqR.done ?_
      refine CodeR.ret (fin (v := -1) (by simp only [T.get_set, if_true]) ?_)
      rw [ltB_nat] at hlt
      rw [aboveL, if_neg hne', if_pos (by simpa using hlt)]
    · intro hlt
      refine CodeR.skip ?_
      refine CodeR.seq (CodeR.reg rfl ?_)
      (first | (refine SeqR.skipN ?_ rfl rfl ?_; (simp only [sA, wantE, T.get_set, Nat.reduceEqDiff] <;> with_reducible rfl)) | ((first | refine SeqR.stepN (v := ?_) (s' := ?_) rfl ?_ rfl ?_ rfl rfl ?_ | refine SeqR.stepLN (v := ?_) (s' := ?_) rfl ?_ rfl ?_ rfl rfl ?_); rotate_left 3; (intro call lc; simp only [sA, opE, kindOf, pureE, heapE, rho, rhos, T.get_set, Nat.reduceEqDiff, nb00, absV, absS, l_slice, l_void, l_str, l_arr, natE, loadE, isConst, TK.agg] <;> rfl); rotate_left 1; (simp only [sA, wantE, T.get_set, Nat.reduceEqDiff] <;> with_reducible rfl)))
      refine SeqR.done ?_
      refine CodeR.ret (fin (v := 1) (by simp only [T.get_set, if_true]) ?_)
      rw [ltB_nat] at hlt
      rw [aboveL, if_neg hne', if_neg (by simpa using hlt)]
  · intro heq
    have heq' : xs.length = ys.length := by rw [eqB_nat] at heq; simpa using heq
    refine CodeR.skip ?_
    refine CodeR.seq (CodeR.seq (CodeR.reg rfl ?_))
    iterate 4 (first | (refine SeqR.skipN ?_ rfl rfl ?_; (simp only [sA, wantE, T.get_set, Nat.reduceEqDiff, g0, tt24, la, b_sub, i24] <;> with_reducible rfl)) | ((first | refine SeqR.stepN (v := ?_) (s' := ?_) rfl ?_ rfl ?_ rfl rfl ?_ | refine SeqR.stepLN (v := ?_) (s' := ?_) rfl ?_ rfl ?_ rfl rfl ?_); rotate_left 3; (intro call lc; simp only [sA, opE, kindOf, pureE, heapE, rho, rhos, T.get_set, Nat.reduceEqDiff, nb00, absV, absS, l_slice, l_void, l_str, l_arr, natE, loadE, isConst, TK.agg, g0, tt24, la, b_sub, i24] <;> rfl); rotate_left 1; (simp only [sA, wantE, T.get_set, Nat.reduceEqDiff, g0, tt24, la, b_sub, i24] <;> with_reducible rfl)))
    refine SeqR.done ?_
    refine CodeR.block (CodeR.loop (fun k m s1 => m.n = 41 ∧ s1 = s ∧ k ≤ xs.length ∧ m.t.get 0 = some a ∧ m.t.get 1 = some b ∧ m.t.get 5 = some (.int .i64 (pred k)) ∧ cmpTop xs ys xs.length = cmpTop xs ys k) xs.length ?_ ?_)
    · refine ⟨rfl, rfl, Nat.le_refl _, ?_, ?_, ?_, rfl⟩
      simp only [T.get_set, Nat.reduceEqDiff, if_true, if_false, g0]
      simp only [T.get_set, Nat.reduceEqDiff, if_true, if_false, g1]
      simp only [T.get_set, Nat.reduceEqDiff, if_true, if_false]
      rw [wr_pred (by omega)]
    · rintro k ⟨n, T1⟩ s1 ⟨hn, rfl, hk, h0, h1, h5, hc⟩
      simp only at hn h0 h1 h5
      subst hn
      have hn : (41 : Nat) = 41 := rfl
      refine CodeR.seq (CodeR.seq (CodeR.reg rfl ?_))
      iterate 2 (first | (refine SeqR.skipN ?_ rfl rfl ?_; (simp only [sA, wantE, T.get_set, Nat.reduceEqDiff, h5, b_geq] <;> with_reducible rfl)) | ((first | refine SeqR.stepN (v := ?_) (s' := ?_) rfl ?_ rfl ?_ rfl rfl ?_ | refine SeqR.stepLN (v := ?_) (s' := ?_) rfl ?_ rfl ?_ rfl rfl ?_); rotate_left 3; (intro call lc; simp only [sA, opE, kindOf, pureE, heapE, rho, rhos, T.get_set, Nat.reduceEqDiff, nb00, absV, absS, l_slice, l_void, l_str, l_arr, natE, loadE, isConst, TK.agg, h5, b_geq] <;> rfl); rotate_left 1; (simp only [sA, wantE, T.get_set, Nat.reduceEqDiff, h5, b_geq] <;> with_reducible rfl)))
      refine SeqR.done ?_
      refine CodeR.cond (t := !ltB (pred k) 0) (by simp only [rho, T.get_set, Nat.reduceEqDiff, if_true, if_false]) ?_ ?_
      · intro hpos
        obtain ⟨i, rfl⟩ : ∃ i, k = i + 1 := by
          cases k with
          | zero => exact absurd hpos (by decide)
          | succ i => exact ⟨i, rfl⟩
        refine CodeR.skip ?_
        obtain ⟨ba, oa, na, ca, qa, rfl, hia, _, ka, hga, hla, hca⟩ := ha.shape (i := i) (by rw [ints_length]; omega) (by omega)
        obtain ⟨bb, ob, nb, cb, qb, rfl, hib, _, kb, hgb, hlb, hcb⟩ := hb.shape (i := i) (by rw [ints_length]; omega) (by omega)
        have ex : xs[i]? = some (xs.getD i 0) := by rw [List.getD_eq_getElem?_getD, List.getElem?_eq_getElem (by omega)]; rfl
        have ey : ys[i]? = some (ys.getD i 0) := by rw [List.getD_eq_getElem?_getD, List.getElem?_eq_getElem (by omega)]; rfl
        have hxa : ka.cells[oa + i]? = some (.int .i64 (Int.ofNat (xs.getD i 0))) := by
          have := hca 0 (by omega)
          simp only [Nat.mul_one, Nat.add_zero] at this
          rw [this, ints_get ex]
        have hyb : kb.cells[ob + i]? = some (.int .i64 (Int.ofNat (ys.getD i 0))) := by
          have := hcb 0 (by omega)
          simp only [Nat.mul_one, Nat.add_zero] at this
          rw [this, ints_get ey]
        have ba1 : Nat.blt i na = true := blt_iff.2 hia
        have bb1 : Nat.blt i nb = true := blt_iff.2 hib
        have ca1 : Nat.blt ba s1.c = true := blt_iff.2 (hF.lt ba ka hga)
        have cb1 : Nat.blt bb s1.c = true := blt_iff.2 (hF.lt bb kb hgb)
        have h5' : T1.get 5 = some (.int .i64 (Int.ofNat i)) := h5
        refine CodeR.seq (CodeR.block (CodeR.seq (CodeR.seq (CodeR.regD rfl rfl rfl ?_))))
        iterate 9 (first | (refine SeqR.skipN ?_ rfl rfl ?_; (simp only [sA, wantE, T.get_set, Nat.reduceEqDiff, h0, h1, h5', tt24, i24, tt3, i3, sz3, ba1, bb1, ca1, cb1, hga, hgb, hxa, hyb, b_lss] <;> with_reducible rfl)) | ((first | refine SeqR.stepN (v := ?_) (s' := ?_) rfl ?_ rfl ?_ rfl rfl ?_ | refine SeqR.stepLN (v := ?_) (s' := ?_) rfl ?_ rfl ?_ rfl rfl ?_); rotate_left 3; (intro call lc; simp only [sA, opE, kindOf, pureE, heapE, rho, rhos, T.get_set, Nat.reduceEqDiff, nb00, absV, absS, l_slice, l_void, l_str, l_arr, natE, loadE, isConst, TK.agg, h0, h1, h5', tt24, i24, tt3, i3, sz3, ba1, bb1, ca1, cb1, hga, hgb, hxa, hyb, b_lss] <;> rfl); rotate_left 1; (simp only [sA, wantE, T.get_set, Nat.reduceEqDiff, h0, h1, h5', tt24, i24, tt3, i3, sz3, ba1, bb1, ca1, cb1, hga, hgb, hxa, hyb, b_lss] <;> with_reducible rfl)))
        refine SeqR.done ?_
        refine CodeR.cond (t := ltB (Int.ofNat (xs.getD i 0)) (Int.ofNat (ys.getD i 0))) (by simp only [rho, T.get_set, Nat.reduceEqDiff, if_true, if_false]) ?_ ?_
        · intro hlt
          refine CodeR.seq (CodeR.reg rfl ?_)
          (first | (refine SeqR.skipN ?_ rfl rfl ?_; (simp only [sA, wantE, T.get_set, Nat.reduceEqDiff] <;> with_reducible rfl)) | ((first | refine SeqR.stepN (v := ?_) (s' := ?_) rfl ?_ rfl ?_ rfl rfl ?_ | refine SeqR.stepLN (v := ?_) (s' := ?_) rfl ?_ rfl ?_ rfl rfl ?_); rotate_left 3; (intro call lc; simp only [sA, opE, kindOf, pureE, heapE, rho, rhos, T.get_set, Nat.reduceEqDiff, nb00, absV, absS, l_slice, l_void, l_str, l_arr, natE, loadE, isConst, TK.agg] <;> rfl); rotate_left 1; (simp only [sA, wantE, T.get_set, Nat.reduceEqDiff] <;> with_reducible rfl)))
          refine SeqR.done ?_
          refine CodeR.ret (fin (v := -1) (by simp only [T.get_set, if_true]) ?_)
          rw [ltB_nat] at hlt
          rw [aboveL, if_pos heq', hc, cmpTop, if_pos (by simpa using hlt)]
        · intro hlt
          rw [ltB_nat] at hlt
          refine CodeR.skip ?_
          refine CodeR.seq (CodeR.regD rfl rfl rfl ?_)
          iterate 9 (first | (refine SeqR.skipN ?_ rfl rfl ?_; (simp only [sA, wantE, T.get_set, Nat.reduceEqDiff, h0, h1, h5', tt24, i24, tt3, i3, sz3, ba1, bb1, ca1, cb1, hga, hgb, hxa, hyb, b_gtr] <;> with_reducible rfl)) | ((first | refine SeqR.stepN (v := ?_) (s' := ?_) rfl ?_ rfl ?_ rfl rfl ?_ | refine SeqR.stepLN (v := ?_) (s' := ?_) rfl ?_ rfl ?_ rfl rfl ?_); rotate_left 3; (intro call lc; simp only [sA, opE, kindOf, pureE, heapE, rho, rhos, T.get_set, Nat.reduceEqDiff, nb00, absV, absS, l_slice, l_void, l_str, l_arr, natE, loadE, isConst, TK.agg, h0, h1, h5', tt24, i24, tt3, i3, sz3, ba1, bb1, ca1, cb1, hga, hgb, hxa, hyb, b_gtr] <;> rfl); rotate_left 1; (simp only [sA, wantE, T.get_set, Nat.reduceEqDiff, h0, h1, h5', tt24, i24, tt3, i3, sz3, ba1, bb1, ca1, cb1, hga, hgb, hxa, hyb, b_gtr] <;> with_reducible rfl)))
          refine SeqR.done ?_
          refine CodeR.cond (t := ltB (Int.ofNat (ys.getD i 0)) (Int.ofNat (xs.getD i 0))) (by simp only [rho, T.get_set, Nat.reduceEqDiff, if_true, if_false]) ?_ ?_
          · intro hgt
            refine CodeR.seq (CodeR.reg rfl ?_)
            (first | (refine SeqR.skipN ?_ rfl rfl ?_; (simp only [sA, wantE, T.get_set, Nat.reduceEqDiff] <;> with_reducible rfl)) | ((first | refine SeqR.stepN (v := ?_) (s' := ?_) rfl ?_ rfl ?_ rfl rfl ?_ | refine SeqR.stepLN (v := ?_) (s' := ?_) rfl ?_ rfl ?_ rfl rfl ?_); rotate_left 3; (intro call lc; simp only [sA, opE, kindOf, pureE, heapE, rho, rhos, T.get_set, Nat.reduceEqDiff, nb00, absV, absS, l_slice, l_void, l_str, l_arr, natE, loadE, isConst, TK.agg] <;> rfl); rotate_left 1; (simp only [sA, wantE, T.get_set, Nat.reduceEqDiff] <;> with_reducible rfl)))
            refine SeqR.done ?_
            refine CodeR.ret (fin (v := 1) (by simp only [T.get_set, if_true]) ?_)
            rw [ltB_nat] at hgt
            rw [aboveL, if_pos heq', hc, cmpTop, if_neg (by simpa using hlt), if_pos (by simpa using hgt)]
          · intro hgt
            rw [ltB_nat] at hgt
            refine CodeR.skip ?_
            refine CodeR.reg rfl ?_
            iterate 3 (first | (refine SeqR.skipN ?_ rfl rfl ?_; (simp only [sA, wantE, T.get_set, Nat.reduceEqDiff, h5', b_sub] <;> with_reducible rfl)) | ((first | refine SeqR.stepN (v := ?_) (s' := ?_) rfl ?_ rfl ?_ rfl rfl ?_ | refine SeqR.stepLN (v := ?_) (s' := ?_) rfl ?_ rfl ?_ rfl rfl ?_); rotate_left 3; (intro call lc; simp only [sA, opE, kindOf, pureE, heapE, rho, rhos, T.get_set, Nat.reduceEqDiff, nb00, absV, absS, l_slice, l_void, l_str, l_arr, natE, loadE, isConst, TK.agg, h5', b_sub] <;> rfl); rotate_left 1; (simp only [sA, wantE, T.get_set, Nat.reduceEqDiff, h5', b_sub] <;> with_reducible rfl)))
            refine SeqR.done ?_
            refine ⟨i, Nat.lt_succ_self _, rfl, rfl, by omega, ?_, ?_, ?_, ?_⟩
            · simp only [T.get_set, Nat.reduceEqDiff, if_true, if_false, h0]
            · simp only [T.get_set, Nat.reduceEqDiff, if_true, if_false, h1]
            · simp only [T.get_set, Nat.reduceEqDiff, if_true, if_false]
              rw [wr_pred (by omega)]
            · rw [hc, cmpTop, if_neg (by simpa using hlt), if_neg (by simpa using hgt)]
      · intro hneg
        have hk0 : k = 0 := by
          cases k with
          | zero => rfl
          | succ i => exact absurd hneg (by simp [pred, ltB, Nat.blt])
        subst hk0
        refine CodeR.exit ?_
        simp only [Ex.then, Ex.inBlock, if_true]
        refine CodeR.seq (CodeR.reg rfl ?_)
        (first | (refine SeqR.skipN ?_ rfl rfl ?_; (simp only [sA, wantE, T.get_set, Nat.reduceEqDiff] <;> with_reducible rfl)) | ((first | refine SeqR.stepN (v := ?_) (s' := ?_) rfl ?_ rfl ?_ rfl rfl ?_ | refine SeqR.stepLN (v := ?_) (s' := ?_) rfl ?_ rfl ?_ rfl rfl ?_); rotate_left 3; (intro call lc; simp only [sA, opE, kindOf, pureE, heapE, rho, rhos, T.get_set, Nat.reduceEqDiff, nb00, absV, absS, l_slice, l_void, l_str, l_arr, natE, loadE, isConst, TK.agg] <;> rfl); rotate_left 1; (simp only [sA, wantE, T.get_set, Nat.reduceEqDiff] <;> with_reducible rfl)))
        refine SeqR.done ?_
        refine CodeR.ret (fin (v := 0) (by simp only [T.get_set, if_true]) ?_)
        rw [aboveL, if_pos heq', hc]
        rfl
end Go.Proofs.YtaocoplfdhcoaaaGreatDoor.EvA

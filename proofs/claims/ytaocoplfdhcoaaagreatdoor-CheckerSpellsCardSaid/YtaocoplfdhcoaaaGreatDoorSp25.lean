/- schismaref07.first, run. -/
import Derived.Test.YtaocoplfdhcoaaaGreatDoorSp17
set_option linter.unusedVariables false
set_option linter.unusedSimpArgs false
set_option maxRecDepth 20000
set_option maxHeartbeats 2000000
namespace Go.Proofs.YtaocoplfdhcoaaaGreatDoor.EvA
open Go Go.RowKit Go.Proofs.YtaocoplfdhcoaaaGreatDoor.Ev
theorem fn110' : E.fns.get 110 = some Tryz.f110 := by kernel_rfl
theorem tt25 : E.tt.get 25 = some i25 := rfl
/-- The index of the first element that is not 0, or -1; n: what stands ahead. -/
def firstL (n : Nat) : List Int → Int
  | [] => -1
  | x :: xs => if x = 0 then firstL (n + 1) xs else Int.ofNat n
theorem first_run {lo : Nat} {d : AV} {xs : List Int} {s : St} (hd : Row s.h 1 (zints xs) d) (hF : Fresh s) (hx : xs.length ≤ 1000000) :
    FunR E lo 110 [d] s fun v s' => s' = s ∧ v = .int .i64 (firstL 0 xs) := by
  refine FunR.body (fn := Tryz.f110) fn110' rfl ?_
  have hn : (max [d].length Tryz.f110.ntmps) = 16 := rfl
  generalize max [d].length Tryz.f110.ntmps = n at hn
  subst hn
  have g0 : (argsT 0 [d]).get 0 = some d := rfl
  generalize argsT 0 [d] = T0 at g0
  have hn : (16 : Nat) = 16 := rfl
  have ld := lenZ hd 3
  have fin : ∀ {T1 : T AV} {v : Int}, T1.get 2 = some (.int .i64 v) → v = firstL 0 xs → (Ex.ret = .nrm ∨ Ex.ret = .ret) ∧ ∃ us, ressE E T1 s Tryz.f110.results.toList = some us ∧ (s = s ∧ oneOf us = .int .i64 (firstL 0 xs)) := fun {T1 v} h4 hv => by
    refine ⟨.inr rfl, [.int .i64 v], ?_, rfl, by rw [hv]; rfl⟩
    show ressE E T1 s [.tmp 2] = _
    simp only [ressE, resE, h4, Option.bind_some, Option.map_some]
  refine CodeR.seq (CodeR.reg rfl ?_)
  (first | (refine SeqR.skipN ?_ rfl rfl ?_; (simp only [sA, wantE, T.get_set, Nat.reduceEqDiff] <;> with_reducible rfl)) | ((first | refine SeqR.stepN (v := ?_) (s' := ?_) rfl ?_ rfl ?_ rfl rfl ?_ | refine SeqR.stepLN (v := ?_) (s' := ?_) rfl ?_ rfl ?_ rfl rfl ?_); rotate_left 3; (intro call lc; simp only [sA, opE, kindOf, pureE, heapE, rho, rhos, T.get_set, Nat.reduceEqDiff, nb00, absV, absS, l_slice, l_void, l_str, l_arr, natE, loadE, isConst, TK.agg] <;> rfl); rotate_left 1; (simp only [sA, wantE, T.get_set, Nat.reduceEqDiff] <;> with_reducible rfl)))
  refine SeqR.done ?_
  refine CodeR.seq (CodeR.seq (CodeR.reg rfl ?_))
  (first | (refine SeqR.skipN ?_ rfl rfl ?_; (simp only [sA, wantE, T.get_set, Nat.reduceEqDiff] <;> with_reducible rfl)) | ((first | refine SeqR.stepN (v := ?_) (s' := ?_) rfl ?_ rfl ?_ rfl rfl ?_ | refine SeqR.stepLN (v := ?_) (s' := ?_) rfl ?_ rfl ?_ rfl rfl ?_); rotate_left 3; (intro call lc; simp only [sA, opE, kindOf, pureE, heapE, rho, rhos, T.get_set, Nat.reduceEqDiff, nb00, absV, absS, l_slice, l_void, l_str, l_arr, natE, loadE, isConst, TK.agg] <;> rfl); rotate_left 1; (simp only [sA, wantE, T.get_set, Nat.reduceEqDiff] <;> with_reducible rfl)))
  refine SeqR.done ?_
  refine CodeR.block (CodeR.loop (fun k m s1 => s1 = s ∧ ∃ i T1, m = ⟨16, T1⟩ ∧ i + k = xs.length ∧ T1.get 0 = some d ∧ T1.get 3 = some (.int .i64 (Int.ofNat i)) ∧ firstL 0 xs = firstL i (xs.drop i)) xs.length ?_ ?_)
  · refine ⟨rfl, 0, _, rfl, by omega, ?_, ?_, rfl⟩
    simp only [T.get_set, Nat.reduceEqDiff, if_true, if_false, g0]
    simp only [T.get_set, Nat.reduceEqDiff, if_true, if_false]
    · rfl
  · rintro k m s1 ⟨rfl, i, T1, rfl, hik, h0, h3, hf⟩
    refine CodeR.seq (CodeR.seq (CodeR.reg rfl ?_))
    iterate 4 (first | (refine SeqR.skipN ?_ rfl rfl ?_; (simp only [sA, wantE, T.get_set, Nat.reduceEqDiff, h0, h3, tt25, i25, ld, b_lss] <;> with_reducible rfl)) | ((first | refine SeqR.stepN (v := ?_) (s' := ?_) rfl ?_ rfl ?_ rfl rfl ?_ | refine SeqR.stepLN (v := ?_) (s' := ?_) rfl ?_ rfl ?_ rfl rfl ?_); rotate_left 3; (intro call lc; simp only [sA, opE, kindOf, pureE, heapE, rho, rhos, T.get_set, Nat.reduceEqDiff, nb00, absV, absS, l_slice, l_void, l_str, l_arr, natE, loadE, isConst, TK.agg, h0, h3, tt25, i25, ld, b_lss] <;> rfl); rotate_left 1; (simp only [sA, wantE, T.get_set, Nat.reduceEqDiff, h0, h3, tt25, i25, ld, b_lss] <;> with_reducible rfl)))
    refine SeqR.done ?_
    refine CodeR.cond (t := ltB (Int.ofNat i) (Int.ofNat xs.length)) (by simp only [rho, T.get_set, Nat.reduceEqDiff, if_true, if_false]) ?_ ?_
    · intro hA
      rw [ltB_nat] at hA
      have hi : i < xs.length := by simpa using hA
      have hdrop : xs.drop i = xs.getD i 0 :: xs.drop (i + 1) := by
        rw [List.drop_eq_getElem_cons hi]
        simp [List.getD_eq_getElem?_getD, List.getElem?_eq_getElem hi]
      obtain ⟨b, o, n, c, q, kk, rfl, f1, f2, f3⟩ := Row.zint hd hi
      have f4 : Nat.blt b s1.c = true := blt_iff.2 (hF.lt b kk f2)
      refine CodeR.skip ?_
      refine CodeR.seq (CodeR.block (CodeR.seq (CodeR.reg rfl ?_)))
      iterate 5 (first | (refine SeqR.skipN ?_ rfl rfl ?_; (simp only [sA, wantE, T.get_set, Nat.reduceEqDiff, h0, h3, tt25, i25, tt3, i3, sz3, f1, f2, f3, f4, b_neq] <;> with_reducible rfl)) | ((first | refine SeqR.stepN (v := ?_) (s' := ?_) rfl ?_ rfl ?_ rfl rfl ?_ | refine SeqR.stepLN (v := ?_) (s' := ?_) rfl ?_ rfl ?_ rfl rfl ?_); rotate_left 3; (intro call lc; simp only [sA, opE, kindOf, pureE, heapE, rho, rhos, T.get_set, Nat.reduceEqDiff, nb00, absV, absS, l_slice, l_void, l_str, l_arr, natE, loadE, isConst, TK.agg, h0, h3, tt25, i25, tt3, i3, sz3, f1, f2, f3, f4, b_neq] <;> rfl); rotate_left 1; (simp only [sA, wantE, T.get_set, Nat.reduceEqDiff, h0, h3, tt25, i25, tt3, i3, sz3, f1, f2, f3, f4, b_neq] <;> with_reducible rfl)))
      refine SeqR.done ?_
      refine CodeR.cond (t := !eqB (xs.getD i 0) 0) (by simp only [rho, T.get_set, Nat.reduceEqDiff, if_true, if_false]) ?_ ?_
      · intro hz
        have hz' : xs.getD i 0 ≠ 0 := by rw [eqB_eq] at hz; simpa using hz
        refine CodeR.seq (CodeR.reg rfl ?_)
        iterate 2 (first | (refine SeqR.skipN ?_ rfl rfl ?_; (simp only [sA, wantE, T.get_set, Nat.reduceEqDiff, h3] <;> with_reducible rfl)) | ((first | refine SeqR.stepN (v := ?_) (s' := ?_) rfl ?_ rfl ?_ rfl rfl ?_ | refine SeqR.stepLN (v := ?_) (s' := ?_) rfl ?_ rfl ?_ rfl rfl ?_); rotate_left 3; (intro call lc; simp only [sA, opE, kindOf, pureE, heapE, rho, rhos, T.get_set, Nat.reduceEqDiff, nb00, absV, absS, l_slice, l_void, l_str, l_arr, natE, loadE, isConst, TK.agg, h3] <;> rfl); rotate_left 1; (simp only [sA, wantE, T.get_set, Nat.reduceEqDiff, h3] <;> with_reducible rfl)))
        refine SeqR.done ?_
        refine CodeR.ret (fin (v := Int.ofNat i) (by simp only [T.get_set, if_true]) ?_)
        rw [hf, hdrop, firstL, if_neg hz']
      · intro hz
        have hz' : xs.getD i 0 = 0 := by rw [eqB_eq] at hz; simpa using hz
        refine CodeR.skip ?_
        refine CodeR.reg rfl ?_
        have e8 := wr_add (a := i) (b := 1) (by omega)
        have e9 : (1 : Int) = Int.ofNat 1 := rfl
        iterate 3 (first | (refine SeqR.skipN ?_ rfl rfl ?_; (simp only [sA, wantE, T.get_set, Nat.reduceEqDiff, h3, b_add, e9, e8] <;> with_reducible rfl)) | ((first | refine SeqR.stepN (v := ?_) (s' := ?_) rfl ?_ rfl ?_ rfl rfl ?_ | refine SeqR.stepLN (v := ?_) (s' := ?_) rfl ?_ rfl ?_ rfl rfl ?_); rotate_left 3; (intro call lc; simp only [sA, opE, kindOf, pureE, heapE, rho, rhos, T.get_set, Nat.reduceEqDiff, nb00, absV, absS, l_slice, l_void, l_str, l_arr, natE, loadE, isConst, TK.agg, h3, b_add, e9, e8] <;> rfl); rotate_left 1; (simp only [sA, wantE, T.get_set, Nat.reduceEqDiff, h3, b_add, e9, e8] <;> with_reducible rfl)))
        refine SeqR.done ⟨k - 1, by omega, rfl, i + 1, _, rfl, by omega, ?_, ?_, ?_⟩
        simp only [T.get_set, Nat.reduceEqDiff, if_true, if_false, h0]
        simp only [T.get_set, Nat.reduceEqDiff, if_true, if_false]
        · rw [hf, hdrop, firstL, if_pos hz']
    · intro hA
      rw [ltB_nat] at hA
      have hi : ¬ i < xs.length := by simpa using hA
      refine CodeR.exit ?_
      simp only [Ex.then, Ex.inBlock, if_true]
      refine CodeR.seq (CodeR.reg rfl ?_)
      (first | (refine SeqR.skipN ?_ rfl rfl ?_; (simp only [sA, wantE, T.get_set, Nat.reduceEqDiff] <;> with_reducible rfl)) | ((first | refine SeqR.stepN (v := ?_) (s' := ?_) rfl ?_ rfl ?_ rfl rfl ?_ | refine SeqR.stepLN (v := ?_) (s' := ?_) rfl ?_ rfl ?_ rfl rfl ?_); rotate_left 3; (intro call lc; simp only [sA, opE, kindOf, pureE, heapE, rho, rhos, T.get_set, Nat.reduceEqDiff, nb00, absV, absS, l_slice, l_void, l_str, l_arr, natE, loadE, isConst, TK.agg] <;> rfl); rotate_left 1; (simp only [sA, wantE, T.get_set, Nat.reduceEqDiff] <;> with_reducible rfl)))
      refine SeqR.done ?_
      refine CodeR.ret (fin (v := -1) (by simp only [T.get_set, if_true]) ?_)
      rw [hf, List.drop_eq_nil_of_le (by omega), firstL]
end Go.Proofs.YtaocoplfdhcoaaaGreatDoor.EvA
set_option linter.unusedVariables false
set_option linter.unusedSimpArgs false
namespace Go.Proofs.YtaocoplfdhcoaaaGreatDoor.EvA
open Go
def Near (z : Int) : Prop := -1000000000 ≤ z ∧ z ≤ 1000000000
def NearR (r : List Int) : Prop := ∀ i, i < r.length → Near (r.getD i 0)
/-- A right matrix. -/
def RightM (m : List (List Int)) : Prop := m.length ≤ 12 ∧ ∀ i, i < m.length → (m.getD i []).length ≤ 12 ∧ (m.getD i []).length = (m.getD 0 []).length ∧ NearR (m.getD i [])
def sumN (f : Nat → Int) : Nat → Int
  | 0 => 0
  | n + 1 => sumN f n + f n
/-- The c-th element of the combination. -/
def comb (k : List Int) (m : List (List Int)) (c : Nat) (n : Nat) : Int := sumN (fun i => k.getD i 0 * (m.getD i []).getD c 0) n
def MemberP (m : List (List Int)) (k x : List Int) : Prop := RightM m ∧ k.length = m.length ∧ (m.length ≠ 0 → x.length = (m.getD 0 []).length) ∧ NearR k ∧ NearR x ∧ ∀ c, c < x.length → comb k m c m.length = x.getD c 0
theorem sumN_bound {f : Nat → Int} {B : Int} : ∀ n : Nat, (∀ i, i < n → -B ≤ f i ∧ f i ≤ B) → -(n * B) ≤ sumN f n ∧ sumN f n ≤ n * B
  | 0, _ => by simp [sumN]
  | n + 1, h => by
    have h1 := sumN_bound n fun i hi => h i (by omega)
    have h2 := h n (by omega)
    rw [sumN, show ((n + 1 : Nat) : Int) * B = n * B + B by rw [Int.natCast_succ, Int.add_mul, Int.one_mul]]
    omega
theorem sumN_congr {f g : Nat → Int} : ∀ n : Nat, (∀ i, i < n → f i = g i) → sumN f n = sumN g n
  | 0, _ => rfl
  | n + 1, h => by rw [sumN, sumN, sumN_congr n fun i hi => h i (by omega), h n (by omega)]
theorem near_mul {a b : Int} (ha : Near a) (hb : Near b) : -1000000000000000000 ≤ a * b ∧ a * b ≤ 1000000000000000000 := by
  have h : (a * b).natAbs ≤ 1000000000 * 1000000000 := by
    rw [Int.natAbs_mul]
    exact Nat.mul_le_mul (by have := ha.1; have := ha.2; omega) (by have := hb.1; have := hb.2; omega)
  omega
/-- Is the matrix in normal form, from the i-th row on (n rows)? -/
def formL (m : List (List Int)) : Nat → Nat → Int → Prop
  | 0, _, _ => True
  | n + 1, i, last => last < firstL 0 (m.getD i []) ∧ 0 ≤ (m.getD i []).getD (firstL 0 (m.getD i [])).toNat 0 ∧
      (∀ k, k < i → 0 ≤ (m.getD k []).getD (firstL 0 (m.getD i [])).toNat 0 ∧ (m.getD k []).getD (firstL 0 (m.getD i [])).toNat 0 < (m.getD i []).getD (firstL 0 (m.getD i [])).toNat 0) ∧
      formL m n (i + 1) (firstL 0 (m.getD i []))
end Go.Proofs.YtaocoplfdhcoaaaGreatDoor.EvA

/- What the library's functions tell, by the shelf's contracts. -/
import Derived.Test.YtaocoplfdhcoaaaGreatDoorEvS14
import Derived.Test.YtaocoplfdhcoaaaGreatDoorEvSh
set_option linter.unusedVariables false
set_option linter.unusedSimpArgs false
namespace Go.Proofs.YtaocoplfdhcoaaaGreatDoor.Ev
open Go Go.RowKit
def decs : Nat → Nat → List UInt8 → List UInt8
  | 0, _, acc => acc
  | f + 1, n, acc => bif Nat.blt n 10 then UInt8.ofNat (48 + n) :: acc else decs f (n / 10) (UInt8.ofNat (48 + n % 10) :: acc)
theorem decs_eq : ∀ (f n : Nat) (acc : List UInt8), n < 10 ^ (f + 1) → decs (f + 1) n acc = Lib.decDigits n ++ acc
  | 0, n, acc, h => by
    have h' : n < 10 := by simpa using h
    rw [decs, blt_iff.2 h', Lib.decDigits, dif_pos h']
    rfl
  | f + 1, n, acc, h => by
    rw [decs]
    by_cases h' : n < 10
    · rw [blt_iff.2 h', Lib.decDigits, dif_pos h']
      rfl
    · have : Nat.blt n 10 = false := by
        cases hb : Nat.blt n 10 with
        | false => rfl
        | true => exact absurd (blt_iff.1 hb) h'
      rw [this, cond_false, decs_eq f (n / 10) _ (by rw [Nat.pow_succ] at h; omega)]
      conv => rhs; rw [Lib.decDigits, dif_neg h']
      simp
def itoa : List AV → Option AV
  | [.int .i64 (.ofNat m)] => bif Nat.ble m 9223372036854775807 then some (.str (decs 20 m [])) else none
  | [.int .i64 (.negSucc m)] => bif Nat.ble m 9223372036854775807 then some (.str (45 :: decs 20 (m + 1) [])) else none
  | _ => none
def atoi : List AV → Option AV
  | [.str l] => bif Nat.ble l.length 18 then (Lib.atoi l).map fun n => .tuple [.int .i64 n, .nilIface] else none
  | _ => none
/-- What these lean on: the library's table, as the run finds it. -/
def Tab (W : World) : Prop := Lib.TabIs Tryz.prog W "internal/strconv.uint64pow10" .u64 Lib.pow10Tab
theorem Tab.below {W w : World} (h : Tab W) (hb : Below W.heap.size W w) : Tab w := by
  unfold Tab Lib.TabIs at h ⊢
  rw [← h]
  unfold World.var?
  cases hg : Tryz.prog.globalNamed "internal/strconv.uint64pow10" with
  | none => rfl
  | some g =>
    unfold World.var? at h
    rw [hg] at h
    simp only [Option.bind_some] at h ⊢
    have hlt : g < W.heap.size := by
      rcases Nat.lt_or_ge g W.heap.size with h' | h'
      · exact h'
      · rw [Array.getElem?_eq_none h'] at h
        simp at h
    rw [hb.block g hlt]
theorem itoa_int (n : Int) (v : AV) (h : itoa [.int .i64 n] = some v) : v = .str (Lib.itoa n) ∧ -9223372036854775808 ≤ n ∧ n ≤ 9223372036854775807 := by
  cases n with
  | ofNat m =>
    simp only [itoa] at h
    cases hb : Nat.ble m 9223372036854775807 with
    | false => rw [hb] at h; cases h
    | true =>
      rw [hb] at h
      have hm := ble_iff.1 hb
      simp only [cond_true, Option.some.injEq] at h
      rw [← h, decs_eq 19 m [] (by omega)]
      refine ⟨?_, by simp only [Int.ofNat_eq_natCast]; omega, by simp only [Int.ofNat_eq_natCast]; omega⟩
      unfold Lib.itoa
      rw [if_neg (by simp)]
      simp
  | negSucc m =>
    simp only [itoa] at h
    cases hb : Nat.ble m 9223372036854775807 with
    | false => rw [hb] at h; cases h
    | true =>
      rw [hb] at h
      have hm := ble_iff.1 hb
      simp only [cond_true, Option.some.injEq] at h
      rw [← h, decs_eq 19 (m + 1) [] (by omega)]
      refine ⟨?_, by omega, by omega⟩
      unfold Lib.itoa
      rw [if_pos (by omega)]
      simp
theorem plain132 : Plain Tryz.prog 132 := ⟨Tryz.f132, _, Tryz.func132, rfl, by kernel_rfl⟩
theorem plain135 : Plain Tryz.prog 135 := ⟨Tryz.f135, _, Tryz.func135, rfl, by kernel_rfl⟩
theorem itoa_ok {N0 : Nat} {W : World} (hN : N0 = W.heap.size) (hW : Tab W) (vs : List AV) (v : AV) (h : itoa vs = some v) (S : Nat → Prop) (μ : Nat → Loc) (w : World) (hb : Below N0 W w) (hs : N0 ≤ w.heap.size) (hw : wfs S μ vs) :
    wf S μ v ∧ Calls Tryz.prog 132 (concs μ vs).toArray w fun e w' => e = .returned (conc μ v) ∧ Below w.heap.size w w' := by
  have : ∃ n, vs = [.int .i64 n] := by
    unfold itoa at h
    split at h
    · exact ⟨_, rfl⟩
    · exact ⟨_, rfl⟩
    · cases h
  obtain ⟨n, rfl⟩ := this
  obtain ⟨rfl, h0, h1⟩ := itoa_int n v h
  refine ⟨trivial, ?_⟩
  subst hN
  refine (Tryz.strconv_Itoa n h0 h1 w (hW.below hb)).mono fun e w' he => ?_
  obtain ⟨rfl, k, os, rfl⟩ := he
  refine ⟨rfl, rfl, rfl, rfl, ?_, fun i hi => ?_⟩
  · show _ ≤ (w.heap ++ os).size
    simp
  · show (w.heap ++ os)[i]? = _
    rw [Array.getElem?_append_left hi]
theorem atoi_ok (vs : List AV) (v : AV) (h : atoi vs = some v) (S : Nat → Prop) (μ : Nat → Loc) (w : World) (hw : wfs S μ vs) :
    wf S μ v ∧ Calls Tryz.prog 135 (concs μ vs).toArray w fun e w' => e = .returned (conc μ v) ∧ Below w.heap.size w w' := by
  unfold atoi at h
  split at h
  · rename_i l
    cases hb : Nat.ble l.length 18 with
    | false => rw [hb] at h; cases h
    | true =>
      rw [hb] at h
      obtain ⟨n, hn, rfl⟩ := Option.map_eq_some_iff.1 h
      refine ⟨⟨trivial, trivial, trivial⟩, ?_⟩
      refine (Tryz.strconv_Atoi ⟨l.toArray⟩ n (by have := ble_iff.1 hb; show l.toArray.size ≤ 18; simpa using this) (by simpa using hn) w).mono fun e w' he => ?_
      obtain ⟨rfl, t, rfl⟩ := he
      exact ⟨rfl, rfl, rfl, rfl, by rw [Lib.bytesWorld_size]; omega, fun i hi => Lib.bytesWorld_at_old w 5 t i hi⟩
  · cases h
end Go.Proofs.YtaocoplfdhcoaaaGreatDoor.Ev

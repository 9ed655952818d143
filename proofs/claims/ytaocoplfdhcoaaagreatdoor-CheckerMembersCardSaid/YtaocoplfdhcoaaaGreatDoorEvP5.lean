/- Members of lattices and normal forms, plainly. -/
import Derived.Test.YtaocoplfdhcoaaaGreatDoorEvP
import Derived.Test.YtaocoplfdhcoaaaGreatDoorEvC110
set_option linter.unusedVariables false
set_option linter.unusedSimpArgs false
namespace Go.Proofs.YtaocoplfdhcoaaaGreatDoor.EvA
open Go
def Near (z : Int) : Prop := -1000000000 ≤ z ∧ z ≤ 1000000000
def NearR (r : List Int) : Prop := ∀ i, i < r.length → Near (r.getD i 0)
/-- A right matrix. -/
def RightM (m : List (List Int)) : Prop := m.length ≤ 12 ∧ ∀ i, i < m.length → (m.getD i []).length ≤ 12 ∧ (m.getD i []).length = (m.getD 0 []).length ∧ NearR (m.getD i [])
def sumN (f : Nat → Int) : Nat → Int
  | 0 => 0
  | n + 1 => sumN f n + f n
/-- The c-th element of the combination. -/
def comb (k : List Int) (m : List (List Int)) (c : Nat) (n : Nat) : Int := sumN (fun i => k.getD i 0 * (m.getD i []).getD c 0) n
def MemberP (m : List (List Int)) (k x : List Int) : Prop := RightM m ∧ k.length = m.length ∧ (m.length ≠ 0 → x.length = (m.getD 0 []).length) ∧ NearR k ∧ NearR x ∧ ∀ c, c < x.length → comb k m c m.length = x.getD c 0
theorem sumN_bound {f : Nat → Int} {B : Int} : ∀ n : Nat, (∀ i, i < n → -B ≤ f i ∧ f i ≤ B) → -(n * B) ≤ sumN f n ∧ sumN f n ≤ n * B
  | 0, _ => by simp [sumN]
  | n + 1, h => by
    have h1 := sumN_bound n fun i hi => h i (by omega)
    have h2 := h n (by omega)
    rw [sumN, show ((n + 1 : Nat) : Int) * B = n * B + B by rw [Int.natCast_succ, Int.add_mul, Int.one_mul]]
    omega
theorem sumN_congr {f g : Nat → Int} : ∀ n : Nat, (∀ i, i < n → f i = g i) → sumN f n = sumN g n
  | 0, _ => rfl
  | n + 1, h => by rw [sumN, sumN, sumN_congr n fun i hi => h i (by omega), h n (by omega)]
theorem near_mul {a b : Int} (ha : Near a) (hb : Near b) : -1000000000000000000 ≤ a * b ∧ a * b ≤ 1000000000000000000 := by
  have h : (a * b).natAbs ≤ 1000000000 * 1000000000 := by
    rw [Int.natAbs_mul]
    exact Nat.mul_le_mul (by have := ha.1; have := ha.2; omega) (by have := hb.1; have := hb.2; omega)
  omega
/-- Is the matrix in normal form, from the i-th row on (n rows)? -/
def formL (m : List (List Int)) : Nat → Nat → Int → Prop
  | 0, _, _ => True
  | n + 1, i, last => last < firstL 0 (m.getD i []) ∧ 0 ≤ (m.getD i []).getD (firstL 0 (m.getD i [])).toNat 0 ∧
      (∀ k, k < i → 0 ≤ (m.getD k []).getD (firstL 0 (m.getD i [])).toNat 0 ∧ (m.getD k []).getD (firstL 0 (m.getD i [])).toNat 0 < (m.getD i []).getD (firstL 0 (m.getD i [])).toNat 0) ∧
      formL m n (i + 1) (firstL 0 (m.getD i []))
end Go.Proofs.YtaocoplfdhcoaaaGreatDoor.EvA

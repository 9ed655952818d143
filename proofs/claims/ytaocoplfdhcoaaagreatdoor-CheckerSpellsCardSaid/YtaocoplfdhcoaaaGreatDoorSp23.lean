/- Words of 32 and 64 bits; differences of digit lists. -/
import Derived.Test.YtaocoplfdhcoaaaGreatDoorSp22
set_option linter.unusedVariables false
set_option linter.unusedSimpArgs false
namespace Go.Proofs.YtaocoplfdhcoaaaGreatDoor.EvA
open Go Go.RowKit Go.Proofs.YtaocoplfdhcoaaaGreatDoor.Ev
theorem wr_u64 {n : Nat} (h : n < 18446744073709551616) : wr .u64 (Int.ofNat n) = Int.ofNat n := by
  show (bif Nat.ble n 18446744073709551615 then Int.ofNat n else .ofNat (n % 18446744073709551616)) = _
  rw [ble_iff.2 (by omega), cond_true]
theorem wr_u32 (n : Nat) : wr .u32 (Int.ofNat n) = Int.ofNat (n % 4294967296) := by
  show (bif Nat.ble n 4294967295 then Int.ofNat n else .ofNat (n % 4294967296)) = _
  cases h : Nat.ble n 4294967295 with
  | true => rw [cond_true, Nat.mod_eq_of_lt (by have := ble_iff.1 h; omega)]
  | false => rw [cond_false]
theorem b_shr32 (t : Nat) (c : Bool) (k : IntKind) (n : Nat) : binE E .shr t c (.int .u64 (Int.ofNat n)) (.int k 32) = some (.int .u64 (Int.ofNat (n / 4294967296))) := by
  have h1 : ltB 32 0 = false := rfl
  simp only [binE, h1, cond_false]
  have h2 : (Int.ofNat n).fdiv (Int.ofNat (2 ^ min (32 : Int).toNat IntKind.u64.bits)) = Int.ofNat (n / 4294967296) := by
    show (Int.ofNat n).fdiv (Int.ofNat 4294967296) = _
    cases n with
    | zero => rfl
    | succ n => rfl
  rw [h2]
theorem op_build171 {call : CallT'} {lc lo old : Nat} {m : T AV} {s : St} {x y : Operand} {b : Bool} {v : AV} (hx : rho m x = some (.bool b)) (hy : rho m y = some v) (hone : v.one = true) :
    opE E call lc lo old m s (.build 171 #[(0, x), (1, y)]) = some (.agg [.bool b, v], s) := by
  have hz : v.cells = [v] := one_cells hone
  simp only [opE, kindOf, nb00, cond_true, pureE, ty171, i171, Option.bind_some, List.toList_toArray, fillE, hx, hy, hz, List.getElem?_cons_zero, List.getElem?_cons_succ, si4, si169, Option.map_some]
  rfl
theorem nats_single (a b : Nat) : nats [a, b] = [.int .u32 (Int.ofNat a), .int .u32 (Int.ofNat b)] := rfl
/-- xs less ys, and the borrow c. -/
def subRow (B : Nat) : Nat → List Nat → List Nat → List Nat
  | _, [], _ => []
  | c, x :: xs, ys => (if x < c + ys.headD 0 then x + B - (c + ys.headD 0) else x - (c + ys.headD 0)) :: subRow B (if x < c + ys.headD 0 then 1 else 0) xs ys.tail
theorem subRow_length (B : Nat) : ∀ (c : Nat) (xs ys : List Nat), (subRow B c xs ys).length = xs.length
  | c, [], ys => rfl
  | c, x :: xs, ys => by rw [subRow, List.length_cons, List.length_cons, subRow_length]
theorem gs_headD {B : Nat} (hB : 0 < B) {ys : List Nat} (h : GS B ys) : ys.headD 0 < B ∧ GS B ys.tail := by
  cases ys with
  | nil => exact ⟨hB, h⟩
  | cons y ys => exact gs_cons h
theorem subRow_small {B : Nat} : ∀ (c : Nat) (xs ys : List Nat), c ≤ 1 → GS B xs → GS B ys → 0 < B → GS B (subRow B c xs ys)
  | c, [], ys, hc, hx, hy, hB => fun y hy => by simp [subRow] at hy
  | c, x :: xs, ys, hc, hx, hy, hB => by
    have h1 := gs_cons hx
    have h2 := gs_headD hB hy
    rw [subRow]
    refine gs_mk ?_ (subRow_small _ _ _ (by split <;> omega) h1.2 h2.2 hB)
    split <;> omega
theorem subRow_val {B : Nat} (hB : 0 < B) : ∀ (c : Nat) (xs ys : List Nat), c ≤ 1 → GS B xs → GS B ys → c + gval B ys ≤ gval B xs → gval B (subRow B c xs ys) + (c + gval B ys) = gval B xs
  | c, [], ys, hc, hx, hy, h => by simp only [gval] at h; simp only [subRow, gval]; omega
  | c, x :: xs, ys, hc, hx, hy, h => by
    have h1 := gs_cons hx
    have h2 := gs_headD hB hy
    rw [subRow, gval]
    rw [gval_ht B ys, gval] at h ⊢
    generalize ys.headD 0 = y at *
    by_cases hlt : x < c + y
    · simp only [hlt, if_true]
      have hle : 1 + gval B ys.tail ≤ gval B xs := by
        rcases Nat.lt_or_ge (gval B ys.tail) (gval B xs) with g | g
        · omega
        · have := Nat.mul_le_mul_left B g
          omega
      have ih := subRow_val hB 1 xs ys.tail (by omega) h1.2 h2.2 hle
      have e : B * gval B xs = B * gval B (subRow B 1 xs ys.tail) + (B + B * gval B ys.tail) := by
        rw [← ih, Nat.mul_add, Nat.mul_add, Nat.mul_one]
      omega
    · simp only [hlt, if_false]
      have hle : 0 + gval B ys.tail ≤ gval B xs := by
        rcases Nat.lt_or_ge (gval B xs) (gval B ys.tail) with g | g
        · have h3 : B * (gval B xs + 1) ≤ B * gval B ys.tail := Nat.mul_le_mul_left B g
          rw [Nat.mul_add] at h3
          omega
        · omega
      have ih := subRow_val hB 0 xs ys.tail (by omega) h1.2 h2.2 hle
      have e : B * gval B xs = B * gval B (subRow B 0 xs ys.tail) + B * gval B ys.tail := by
        rw [← ih, Nat.zero_add, Nat.mul_add]
      omega
/-- The order of canonical numbers. -/
theorem gval_take_top {B : Nat} : ∀ (xs : List Nat) (k : Nat), k < xs.length → gval B (xs.take (k + 1)) = gval B (xs.take k) + B ^ k * xs.getD k 0 := fun xs k h => by
  rw [List.take_add_one, get_lt h, Option.toList_some, gval_append, List.length_take, Nat.min_eq_left (by omega)]
  simp [gval]
theorem gs_take {B : Nat} {xs : List Nat} (h : GS B xs) (k : Nat) : GS B (xs.take k) := fun y hy => h y (List.mem_of_mem_take hy)
theorem cmpTop_g {B : Nat} {xs ys : List Nat} (hx : GS B xs) (hy : GS B ys) : ∀ k, k ≤ xs.length → k ≤ ys.length →
    (cmpTop xs ys k = -1 ∧ gval B (xs.take k) < gval B (ys.take k)) ∨ (cmpTop xs ys k = 1 ∧ gval B (ys.take k) < gval B (xs.take k)) ∨ (cmpTop xs ys k = 0 ∧ gval B (xs.take k) = gval B (ys.take k))
  | 0, _, _ => .inr (.inr ⟨rfl, by simp⟩)
  | k + 1, h1, h2 => by
    have b1 := gval_lt (gs_take hx k)
    have b2 := gval_lt (gs_take hy k)
    rw [List.length_take, Nat.min_eq_left (by omega)] at b1 b2
    rw [gval_take_top xs k h1, gval_take_top ys k h2, cmpTop]
    generalize xs.getD k 0 = a
    generalize ys.getD k 0 = b
    generalize B ^ k = p at *
    have key : ∀ a b : Nat, a < b → p * a + p ≤ p * b := fun a b hab => by
      have := Nat.mul_le_mul_left p (show a + 1 ≤ b from hab)
      rw [Nat.mul_add, Nat.mul_one] at this
      exact this
    by_cases hab : a < b
    · rw [if_pos hab]
      have := key a b hab
      exact .inl ⟨rfl, by omega⟩
    · rw [if_neg hab]
      by_cases hba : b < a
      · rw [if_pos hba]
        have := key b a hba
        exact .inr (.inl ⟨rfl, by omega⟩)
      · rw [if_neg hba]
        have e : a = b := by omega
        subst e
        rcases cmpTop_g hx hy k (by omega) (by omega) with ⟨c1, c2⟩ | ⟨c1, c2⟩ | ⟨c1, c2⟩
        · exact .inl ⟨c1, by omega⟩
        · exact .inr (.inl ⟨c1, by omega⟩)
        · exact .inr (.inr ⟨c1, by omega⟩)
theorem gval_len {B : Nat} (hB : 1 < B) {xs ys : List Nat} (hx : GS B xs) (hy : Top ys) (h : xs.length < ys.length) : gval B xs < gval B ys := by
  obtain ⟨k, hk⟩ : ∃ k, ys.length = k + 1 := ⟨ys.length - 1, by omega⟩
  have h1 := gval_lt hx
  have h2 := top_ge (B := B) (by omega) hy hk
  have h3 : B ^ xs.length ≤ B ^ k := Nat.pow_le_pow_right (by omega) (by omega)
  omega
theorem aboveL_g {B : Nat} (hB : 1 < B) {xs ys : List Nat} (hx : GS B xs) (hy : GS B ys) (tx : Top xs) (ty : Top ys) :
    (aboveL xs ys = -1 ∧ gval B xs < gval B ys) ∨ (aboveL xs ys = 1 ∧ gval B ys < gval B xs) ∨ (aboveL xs ys = 0 ∧ gval B xs = gval B ys) := by
  unfold aboveL
  by_cases hl : xs.length = ys.length
  · rw [if_pos hl]
    have := cmpTop_g hx hy xs.length (Nat.le_refl _) (by omega)
    rw [List.take_length, hl, List.take_length] at this
    rw [hl]
    exact this
  · rw [if_neg hl]
    by_cases h2 : xs.length < ys.length
    · rw [if_pos h2]
      exact .inl ⟨rfl, gval_len hB hx ty h2⟩
    · rw [if_neg h2]
      exact .inr (.inl ⟨rfl, gval_len hB hy tx (by omega)⟩)
/-- A number that was trimmed. -/
theorem nv_trim {h : T Blk} {zs : List Nat} {v : AV} (hr : Row h 1 (nats (trimL zs)) v) (hs : GS 4294967296 zs) : NV h (gval 4294967296 zs) v := ⟨trimL zs, hr, gs_trim hs, top_trim zs, gval_trim _ zs⟩
theorem nv_len {xs : List Nat} (ht : Top xs) {n : Nat} (h : gval 4294967296 xs < 4294967296 ^ n) : xs.length ≤ n := len_le (by omega) ht h
end Go.Proofs.YtaocoplfdhcoaaaGreatDoor.EvA

/- The plain law of the digit lists. -/
import Derived.Test.YtaocoplfdhcoaaaGreatDoorSp16
import Derived.Test.YtaocoplfdhcoaaaGreatDoorSp14
set_option linter.unusedVariables false
set_option linter.unusedSimpArgs false
namespace Go.Proofs.YtaocoplfdhcoaaaGreatDoor.EvA
/-- The number of a list of digits with the base 10^9. -/
def val : List Nat → Nat
  | [] => 0
  | x :: xs => x + 1000000000 * val xs
theorem plusL_val : ∀ (c : Nat) (xs ys : List Nat), val (plusL c xs ys) = c + val xs + val ys
  | c, [], [] => by rw [plusL]; split <;> simp [val] <;> omega
  | c, x :: xs, [] => by have := plusL_val ((c + x) / 1000000000) xs []; rw [plusL]; simp only [val] at this ⊢; omega
  | c, [], y :: ys => by have := plusL_val ((c + y) / 1000000000) [] ys; rw [plusL]; simp only [val] at this ⊢; omega
  | c, x :: xs, y :: ys => by have := plusL_val ((c + x + y) / 1000000000) xs ys; rw [plusL]; simp only [val] at this ⊢; omega
theorem small_cons {x : Nat} {xs : List Nat} (h : Small (x :: xs)) : x < 1000000000 ∧ Small xs := ⟨h x List.mem_cons_self, fun y hy => h y (List.mem_cons_of_mem _ hy)⟩
theorem small_mk {x : Nat} {xs : List Nat} (h : x < 1000000000) (h' : Small xs) : Small (x :: xs) := fun y hy => by
  rcases List.mem_cons.1 hy with rfl | hy
  · exact h
  · exact h' y hy
theorem plusL_small : ∀ (c : Nat) (xs ys : List Nat), c < 1000000000 → Small xs → Small ys → Small (plusL c xs ys)
  | c, [], [], hc, hx, hy => by
    rw [plusL]
    split
    · intro y hy; simp at hy
    · exact small_mk hc (fun y hy => by simp at hy)
  | c, x :: xs, [], hc, hx, hy => by
    rw [plusL]
    have := (small_cons hx).1
    exact small_mk (Nat.mod_lt _ (by omega)) (plusL_small _ _ _ (by omega) (small_cons hx).2 hy)
  | c, [], y :: ys, hc, hx, hy => by
    rw [plusL]
    have := (small_cons hy).1
    exact small_mk (Nat.mod_lt _ (by omega)) (plusL_small _ _ _ (by omega) hx (small_cons hy).2)
  | c, x :: xs, y :: ys, hc, hx, hy => by
    rw [plusL]
    have := (small_cons hx).1
    have := (small_cons hy).1
    exact small_mk (Nat.mod_lt _ (by omega)) (plusL_small _ _ _ (by omega) (small_cons hx).2 (small_cons hy).2)
theorem minusL_val : ∀ (c : Nat) (xs ys : List Nat), c ≤ 1 → Small xs → Small ys → c + val ys ≤ val xs → val (minusL c xs ys) + (c + val ys) = val xs
  | c, [], ys, hc, hx, hy, h => by simp only [val] at h; rw [minusL]; simp only [val]; omega
  | c, x :: xs, [], hc, hx, hy, h => by
    have h1 := (small_cons hx).1
    rw [minusL, val]
    simp only [List.headD_nil, List.tail_nil, val, Nat.add_zero] at h ⊢
    by_cases hlt : x < c
    · simp only [hlt, if_true]
      have := minusL_val 1 xs [] (by omega) (small_cons hx).2 hy (by simp only [val]; omega)
      simp only [val] at this
      omega
    · simp only [hlt, if_false]
      have := minusL_val 0 xs [] (by omega) (small_cons hx).2 hy (by simp only [val]; omega)
      simp only [val] at this
      omega
  | c, x :: xs, y :: ys, hc, hx, hy, h => by
    have h1 := (small_cons hx).1
    have h2 := (small_cons hy).1
    rw [minusL, val]
    simp only [List.headD_cons, List.tail_cons, val] at h ⊢
    by_cases hlt : x < c + y
    · simp only [hlt, if_true]
      have := minusL_val 1 xs ys (by omega) (small_cons hx).2 (small_cons hy).2 (by omega)
      omega
    · simp only [hlt, if_false]
      have := minusL_val 0 xs ys (by omega) (small_cons hx).2 (small_cons hy).2 (by omega)
      omega
theorem val_append : ∀ (xs ys : List Nat), val (xs ++ ys) = val xs + 1000000000 ^ xs.length * val ys
  | [], ys => by simp [val]
  | x :: xs, ys => by
    rw [List.cons_append, val, val, val_append xs ys, List.length_cons, Nat.pow_succ, Nat.mul_add, ← Nat.mul_assoc, Nat.mul_comm 1000000000 (1000000000 ^ xs.length)]
    omega
theorem trimN_val (xs : List Nat) : ∀ k, k ≤ xs.length → val (xs.take (trimN xs k)) = val (xs.take k)
  | 0, _ => rfl
  | k + 1, h => by
    rw [trimN]
    split
    · rename_i hz
      rw [trimN_val xs k (by omega), List.take_add_one, get_lt (show k < xs.length by omega), hz, val_append]
      simp [val]
    · rfl
theorem trimL_val (xs : List Nat) : val (trimL xs) = val xs := by rw [trimL, trimN_val xs _ (Nat.le_refl _), List.take_length]
end Go.Proofs.YtaocoplfdhcoaaaGreatDoor.EvA
set_option linter.unusedVariables false
set_option linter.unusedSimpArgs false
namespace Go.Proofs.YtaocoplfdhcoaaaGreatDoor.EvA
theorem val_lt : ∀ {xs : List Nat}, Small xs → val xs < 1000000000 ^ xs.length
  | [], _ => by simp [val]
  | x :: xs, h => by
    have h1 := (small_cons h).1
    have h2 := val_lt (small_cons h).2
    rw [val, List.length_cons, Nat.pow_succ]
    omega
theorem small_take {xs : List Nat} (h : Small xs) (k : Nat) : Small (xs.take k) := fun y hy => h y (List.mem_of_mem_take hy)
theorem val_take {xs : List Nat} {k : Nat} (h : k < xs.length) : val (xs.take (k + 1)) = val (xs.take k) + 1000000000 ^ k * xs.getD k 0 := by
  rw [List.take_add_one, get_lt h, Option.toList_some, val_append, List.length_take, Nat.min_eq_left (by omega)]
  simp [val]
theorem cmpTop_spec {xs ys : List Nat} (hx : Small xs) (hy : Small ys) : ∀ k, k ≤ xs.length → k ≤ ys.length →
    (cmpTop xs ys k = -1 ∧ val (xs.take k) < val (ys.take k)) ∨ (cmpTop xs ys k = 1 ∧ val (ys.take k) < val (xs.take k)) ∨ (cmpTop xs ys k = 0 ∧ val (xs.take k) = val (ys.take k))
  | 0, _, _ => .inr (.inr ⟨rfl, by simp⟩)
  | k + 1, h1, h2 => by
    have b1 := val_lt (small_take hx k)
    have b2 := val_lt (small_take hy k)
    rw [List.length_take, Nat.min_eq_left (by omega)] at b1 b2
    rw [val_take h1, val_take h2, cmpTop]
    generalize xs.getD k 0 = a
    generalize ys.getD k 0 = b
    generalize 1000000000 ^ k = p at *
    have key : ∀ a b : Nat, a < b → p * a + p ≤ p * b := fun a b hab => by
      have := Nat.mul_le_mul_left p (show a + 1 ≤ b from hab)
      rw [Nat.mul_add, Nat.mul_one] at this
      exact this
    by_cases hab : a < b
    · rw [if_pos hab]
      have := key a b hab
      exact .inl ⟨rfl, by omega⟩
    · rw [if_neg hab]
      by_cases hba : b < a
      · rw [if_pos hba]
        have := key b a hba
        exact .inr (.inl ⟨rfl, by omega⟩)
      · rw [if_neg hba]
        have e : a = b := by omega
        subst e
        rcases cmpTop_spec hx hy k (by omega) (by omega) with ⟨c1, c2⟩ | ⟨c1, c2⟩ | ⟨c1, c2⟩
        · exact .inl ⟨c1, by omega⟩
        · exact .inr (.inl ⟨c1, by omega⟩)
        · exact .inr (.inr ⟨c1, by omega⟩)
/-- No zero at the top. -/
def Top (xs : List Nat) : Prop := ∀ k, xs.length = k + 1 → xs.getD k 0 ≠ 0
theorem top_le {xs : List Nat} (h : Top xs) {k : Nat} (hk : xs.length = k + 1) : 1000000000 ^ k ≤ val xs := by
  have h1 := h k hk
  have h2 := val_take (xs := xs) (k := k) (by omega)
  rw [← hk, List.take_length] at h2
  have h3 : 1000000000 ^ k * 1 ≤ 1000000000 ^ k * xs.getD k 0 := Nat.mul_le_mul_left _ (by omega)
  omega
theorem val_len {xs ys : List Nat} (hx : Small xs) (hy : Top ys) (h : xs.length < ys.length) : val xs < val ys := by
  obtain ⟨k, hk⟩ : ∃ k, ys.length = k + 1 := ⟨ys.length - 1, by omega⟩
  have h1 := val_lt hx
  have h2 := top_le hy hk
  have h3 : 1000000000 ^ xs.length ≤ 1000000000 ^ k := Nat.pow_le_pow_right (by omega) (by omega)
  omega
theorem aboveL_spec {xs ys : List Nat} (hx : Small xs) (hy : Small ys) (tx : Top xs) (ty : Top ys) :
    (aboveL xs ys = -1 ∧ val xs < val ys) ∨ (aboveL xs ys = 1 ∧ val ys < val xs) ∨ (aboveL xs ys = 0 ∧ val xs = val ys) := by
  unfold aboveL
  by_cases hl : xs.length = ys.length
  · rw [if_pos hl]
    have := cmpTop_spec hx hy xs.length (Nat.le_refl _) (by omega)
    rw [List.take_length, hl, List.take_length] at this
    rw [hl]
    exact this
  · rw [if_neg hl]
    by_cases h2 : xs.length < ys.length
    · rw [if_pos h2]
      exact .inl ⟨rfl, val_len hx ty h2⟩
    · rw [if_neg h2]
      exact .inr (.inl ⟨rfl, val_len hy tx (by omega)⟩)
/-- The integer. -/
def iv (x : Bool × List Nat) : Int := if x.1 then -(val x.2 : Int) else (val x.2 : Int)
theorem iv_trimW (neg : Bool) (zs : List Nat) : iv (trimW neg zs) = if neg then -(val zs : Int) else (val zs : Int) := by
  have h := trimL_val zs
  unfold trimW iv
  simp only [h]
  cases hz : (trimL zs).isEmpty with
  | true =>
    have : trimL zs = [] := by simpa using hz
    rw [this] at h
    simp only [val] at h
    cases neg <;> simp [← h]
  | false => cases neg <;> simp
theorem addWL_iv {x y : Bool × List Nat} (hx : Small x.2) (hy : Small y.2) (tx : Top x.2) (ty : Top y.2) : iv (addWL x y) = iv x + iv y := by
  obtain ⟨na, xs⟩ := x
  obtain ⟨nb, ys⟩ := y
  simp only at hx hy tx ty
  unfold addWL
  simp only
  have hp := plusL_val 0 xs ys
  by_cases hn : na = nb
  · rw [if_pos hn, iv_trimW, hp]
    subst hn
    unfold iv
    cases na <;> simp <;> omega
  · rw [if_neg hn]
    rcases aboveL_spec hx hy tx ty with ⟨h1, h2⟩ | ⟨h1, h2⟩ | ⟨h1, h2⟩
    · rw [h1, if_neg (by decide), iv_trimW]
      have := minusL_val 0 ys xs (by omega) hy hx (by omega)
      unfold iv
      cases na <;> cases nb <;> simp at hn ⊢ <;> omega
    · rw [h1, if_pos (by decide), iv_trimW]
      have := minusL_val 0 xs ys (by omega) hx hy (by omega)
      unfold iv
      cases na <;> cases nb <;> simp at hn ⊢ <;> omega
    · rw [h1, if_pos (by decide), iv_trimW]
      have := minusL_val 0 xs ys (by omega) hx hy (by omega)
      unfold iv
      cases na <;> cases nb <;> simp at hn ⊢ <;> omega
theorem trimN_top (xs : List Nat) : ∀ k j, trimN xs k = j + 1 → xs.getD j 0 ≠ 0
  | 0, j, h => by simp [trimN] at h
  | k + 1, j, h => by
    rw [trimN] at h
    split at h
    · exact trimN_top xs k j h
    · rename_i hz
      have : j = k := by omega
      rw [this]
      exact hz
theorem top_trim (xs : List Nat) : Top (trimL xs) := fun k hk => by
  unfold trimL at hk ⊢
  rw [List.length_take, Nat.min_eq_left (trimN_le xs _)] at hk
  have := trimN_top xs _ k hk
  rw [hk]
  simpa [List.getD_eq_getElem?_getD, List.getElem?_take] using this
theorem small_trim {xs : List Nat} (h : Small xs) : Small (trimL xs) := small_take h _
/-- A whole number in its form. -/
structure Whole (x : Bool × List Nat) : Prop where
  small : Small x.2
  top : Top x.2
  zero : x.2 = [] → x.1 = false
theorem whole_trimW {neg : Bool} {zs : List Nat} (h : Small zs) : Whole (trimW neg zs) := by
  refine ⟨small_trim h, top_trim zs, fun he => ?_⟩
  unfold trimW at he ⊢
  simp only at he
  simp [he]
theorem minusL_small : ∀ (c : Nat) (xs ys : List Nat), c ≤ 1 → Small xs → Small ys → Small (minusL c xs ys)
  | c, [], ys, hc, hx, hy => fun y hy => by simp [minusL] at hy
  | c, x :: xs, [], hc, hx, hy => by
    have h1 := (small_cons hx).1
    rw [minusL]
    exact small_mk (by by_cases hlt : x < c + 0 <;> simp only [List.headD_nil, hlt, if_true, if_false] <;> omega) (minusL_small _ _ _ (by split <;> omega) (small_cons hx).2 (fun y hy => by simp at hy))
  | c, x :: xs, y :: ys, hc, hx, hy => by
    have h1 := (small_cons hx).1
    have h2 := (small_cons hy).1
    rw [minusL]
    exact small_mk (by by_cases hlt : x < c + y <;> simp only [List.headD_cons, hlt, if_true, if_false] <;> omega) (minusL_small _ _ _ (by split <;> omega) (small_cons hx).2 (small_cons hy).2)
theorem whole_add {x y : Bool × List Nat} (hx : Whole x) (hy : Whole y) : Whole (addWL x y) := by
  unfold addWL
  split
  · exact whole_trimW (plusL_small _ _ _ (by omega) hx.small hy.small)
  · split
    · exact whole_trimW (minusL_small _ _ _ (by omega) hx.small hy.small)
    · exact whole_trimW (minusL_small _ _ _ (by omega) hy.small hx.small)
end Go.Proofs.YtaocoplfdhcoaaaGreatDoor.EvA
set_option linter.unusedVariables false
set_option linter.unusedSimpArgs false
namespace Go.Proofs.YtaocoplfdhcoaaaGreatDoor.EvA
def gval (B : Nat) : List Nat → Nat
  | [] => 0
  | x :: xs => x + B * gval B xs
def GS (B : Nat) (xs : List Nat) : Prop := ∀ x ∈ xs, x < B
theorem val_g : ∀ xs, val xs = gval 1000000000 xs
  | [] => rfl
  | x :: xs => by rw [val, gval, val_g xs]
theorem gs_cons {B x : Nat} {xs : List Nat} (h : GS B (x :: xs)) : x < B ∧ GS B xs := ⟨h x List.mem_cons_self, fun y hy => h y (List.mem_cons_of_mem _ hy)⟩
theorem gs_mk {B x : Nat} {xs : List Nat} (h : x < B) (h' : GS B xs) : GS B (x :: xs) := fun y hy => by
  rcases List.mem_cons.1 hy with rfl | hy
  · exact h
  · exact h' y hy
theorem gval_ht (B : Nat) (ys : List Nat) : gval B ys = ys.headD 0 + B * gval B ys.tail := by
  cases ys with
  | nil => simp [gval]
  | cons y ys => rfl
theorem gval_lt {B : Nat} : ∀ {xs : List Nat}, GS B xs → gval B xs < B ^ xs.length
  | [], _ => by simp [gval]
  | x :: xs, h => by
    have h1 := (gs_cons h).1
    have h2 := gval_lt (gs_cons h).2
    rw [gval, List.length_cons, Nat.pow_succ, Nat.mul_comm (B ^ xs.length) B]
    have h3 : B * (gval B xs + 1) ≤ B * B ^ xs.length := Nat.mul_le_mul_left _ h2
    rw [Nat.mul_add] at h3
    omega
theorem gval_append (B : Nat) : ∀ (xs ys : List Nat), gval B (xs ++ ys) = gval B xs + B ^ xs.length * gval B ys
  | [], ys => by simp [gval]
  | x :: xs, ys => by
    rw [List.cons_append, gval, gval, gval_append B xs ys, List.length_cons, Nat.pow_succ, Nat.mul_add, ← Nat.mul_assoc, Nat.mul_comm B (B ^ xs.length)]
    omega
theorem gval_rep (B n : Nat) : gval B (List.replicate n 0) = 0 := by
  induction n with
  | zero => rfl
  | succ n ih => rw [List.replicate_succ, gval, ih]; simp
/-- x times ys, and c, added to the digits os. -/
def mulRow (B x : Nat) : Nat → List Nat → List Nat → List Nat
  | _, [], _ => []
  | c, o :: os, ys => ((c + o + x * ys.headD 0) % B) :: mulRow B x ((c + o + x * ys.headD 0) / B) os ys.tail
theorem mulRow_length (B x : Nat) : ∀ (c : Nat) (os ys : List Nat), (mulRow B x c os ys).length = os.length
  | c, [], ys => rfl
  | c, o :: os, ys => by rw [mulRow, List.length_cons, List.length_cons, mulRow_length]
theorem mulRow_small {B x : Nat} (hB : 0 < B) : ∀ (c : Nat) (os ys : List Nat), GS B (mulRow B x c os ys)
  | c, [], ys => fun y hy => by simp [mulRow] at hy
  | c, o :: os, ys => by rw [mulRow]; exact gs_mk (Nat.mod_lt _ hB) (mulRow_small hB _ _ _)
theorem mulRow_val {B x : Nat} (hB : 0 < B) : ∀ (c : Nat) (os ys : List Nat), ys.length ≤ os.length → gval B os + x * gval B ys + c < B ^ os.length → gval B (mulRow B x c os ys) = gval B os + x * gval B ys + c
  | c, [], ys, hl, h => by
    have : ys = [] := List.length_eq_zero_iff.1 (by simpa using hl)
    subst this
    simp [gval, mulRow] at h ⊢
    omega
  | c, o :: os, ys, hl, h => by
    rw [mulRow, gval]
    have e : gval B (o :: os) + x * gval B ys + c = (c + o + x * ys.headD 0) + B * (gval B os + x * gval B ys.tail) := by
      rw [gval_ht B ys, gval, Nat.mul_add, Nat.mul_add, ← Nat.mul_assoc x B, Nat.mul_comm x B, Nat.mul_assoc]
      omega
    rw [e] at h ⊢
    generalize c + o + x * ys.headD 0 = t at *
    have ht := Nat.mod_add_div t B
    have h2 : gval B os + x * gval B ys.tail + t / B < B ^ os.length := by
      rw [List.length_cons, Nat.pow_succ, Nat.mul_comm (B ^ os.length) B] at h
      have h3 : B * (gval B os + x * gval B ys.tail + t / B) < B * B ^ os.length := by
        rw [Nat.mul_add]
        omega
      exact Nat.lt_of_mul_lt_mul_left h3
    rw [mulRow_val hB (t / B) os ys.tail (by rw [List.length_tail]; simp at hl; omega) h2, Nat.mul_add]
    omega
theorem row_fits {B x c o : Nat} {os ys : List Nat} (h : gval B (o :: os) + x * gval B ys + c < B ^ (o :: os).length) : gval B os + x * gval B ys.tail + (c + o + x * ys.headD 0) / B < B ^ os.length := by
  have e : gval B (o :: os) + x * gval B ys + c = (c + o + x * ys.headD 0) + B * (gval B os + x * gval B ys.tail) := by
    rw [gval_ht B ys, gval, Nat.mul_add, Nat.mul_add, ← Nat.mul_assoc x B, Nat.mul_comm x B, Nat.mul_assoc]
    omega
  rw [e] at h
  generalize c + o + x * ys.headD 0 = t at *
  have ht := Nat.mod_add_div t B
  rw [List.length_cons, Nat.pow_succ, Nat.mul_comm (B ^ os.length) B] at h
  have h3 : B * (gval B os + x * gval B ys.tail + t / B) < B * B ^ os.length := by
    rw [Nat.mul_add]
    omega
  exact Nat.lt_of_mul_lt_mul_left h3
theorem mulRow_same {B x : Nat} : ∀ {os : List Nat}, GS B os → mulRow B x 0 os [] = os
  | [], _ => rfl
  | o :: os, h => by
    have h1 := (gs_cons h).1
    rw [mulRow]
    simp only [Nat.zero_add, List.headD_nil, Nat.mul_zero, Nat.add_zero, Nat.mod_eq_of_lt h1, Nat.div_eq_of_lt h1, List.tail_nil]
    rw [mulRow_same (gs_cons h).2]
def mulGo (B : Nat) (b : List Nat) : List Nat → List Nat → List Nat
  | [], out => out
  | x :: xs, out => match mulRow B x 0 out b with
    | [] => []
    | o :: os => o :: mulGo B b xs os
theorem mulGo_spec {B : Nat} (hB : 0 < B) {b : List Nat} : ∀ (us out : List Nat), us.length + b.length ≤ out.length → GS B out → gval B out + gval B us * gval B b < B ^ out.length →
    gval B (mulGo B b us out) = gval B out + gval B us * gval B b ∧ GS B (mulGo B b us out) ∧ (mulGo B b us out).length = out.length
  | [], out, hl, hs, h => by simp [mulGo, gval, hs]
  | x :: xs, out, hl, hs, h => by
    simp only [List.length_cons] at hl
    have e : gval B (x :: xs) * gval B b = x * gval B b + B * (gval B xs * gval B b) := by
      rw [gval, Nat.add_mul, Nat.mul_assoc]
    rw [e] at h ⊢
    have h1 := mulRow_val (x := x) hB 0 out b (by omega) (by omega)
    have h2 := mulRow_length B x 0 out b
    have h3 := mulRow_small (x := x) hB 0 out b
    rw [mulGo]
    cases hr : mulRow B x 0 out b with
    | nil => rw [hr] at h2; simp at h2; omega
    | cons o os =>
      rw [hr] at h1 h2 h3
      have h4 := gs_cons h3
      rw [List.length_cons] at h2
      rw [gval] at h1
      have h5 : gval B os + gval B xs * gval B b < B ^ os.length := by
        rw [← h2, Nat.pow_succ, Nat.mul_comm (B ^ os.length) B] at h
        have : B * (gval B os + gval B xs * gval B b) < B * B ^ os.length := by
          rw [Nat.mul_add]
          omega
        exact Nat.lt_of_mul_lt_mul_left this
      obtain ⟨g1, g2, g3⟩ := mulGo_spec hB xs os (by omega) h4.2 h5
      refine ⟨?_, gs_mk h4.1 g2, by simp only [List.length_cons, g3]; omega⟩
      simp only
      rw [gval, g1, Nat.mul_add]
      omega
theorem go_fits {B : Nat} (hB : 0 < B) {b xs out os : List Nat} {x o : Nat} (hl : (x :: xs).length + b.length ≤ out.length) (h : gval B out + gval B (x :: xs) * gval B b < B ^ out.length) (hr : mulRow B x 0 out b = o :: os) :
    os.length + 1 = out.length ∧ GS B (o :: os) ∧ gval B os + gval B xs * gval B b < B ^ os.length ∧ gval B out + x * gval B b + 0 < B ^ out.length := by
  simp only [List.length_cons] at hl
  have e : gval B (x :: xs) * gval B b = x * gval B b + B * (gval B xs * gval B b) := by
    rw [gval, Nat.add_mul, Nat.mul_assoc]
  rw [e] at h
  have h1 := mulRow_val (x := x) hB 0 out b (by omega) (by omega)
  have h2 := mulRow_length B x 0 out b
  have h3 := mulRow_small (x := x) hB 0 out b
  rw [hr] at h1 h2 h3
  rw [List.length_cons] at h2
  rw [gval] at h1
  refine ⟨h2, h3, ?_, by omega⟩
  rw [← h2, Nat.pow_succ, Nat.mul_comm (B ^ os.length) B] at h
  have : B * (gval B os + gval B xs * gval B b) < B * B ^ os.length := by
    rw [Nat.mul_add]
    omega
  exact Nat.lt_of_mul_lt_mul_left this
theorem go_first {B : Nat} {b xs out : List Nat} {x : Nat} (h : gval B out + gval B (x :: xs) * gval B b < B ^ out.length) : gval B out + x * gval B b + 0 < B ^ out.length := by
  have e : gval B (x :: xs) * gval B b = x * gval B b + B * (gval B xs * gval B b) := by
    rw [gval, Nat.add_mul, Nat.mul_assoc]
  rw [e] at h
  omega
theorem mul_fits {B : Nat} (hB : 0 < B) {us bs : List Nat} (ha : GS B us) (hb : GS B bs) {n : Nat} (hn : us.length + bs.length ≤ n) : gval B (List.replicate n 0) + gval B us * gval B bs < B ^ (List.replicate n 0).length := by
  rw [gval_rep, Nat.zero_add, List.length_replicate]
  have h1 := gval_lt ha
  have h2 := gval_lt hb
  have h3 : gval B us * gval B bs < B ^ us.length * B ^ bs.length := Nat.mul_lt_mul_of_lt_of_le h1 (Nat.le_of_lt h2) (Nat.pow_pos hB)
  rw [← Nat.pow_add] at h3
  exact Nat.lt_of_lt_of_le h3 (Nat.pow_le_pow_right hB hn)
theorem gs_rep {B : Nat} (hB : 0 < B) (n : Nat) : GS B (List.replicate n 0) := fun x hx => by
  rw [(List.mem_replicate.1 hx).2]; exact hB
/-! ### Canonical digits -/
theorem gval_trimN (B : Nat) (xs : List Nat) : ∀ k, k ≤ xs.length → gval B (xs.take (trimN xs k)) = gval B (xs.take k)
  | 0, _ => rfl
  | k + 1, h => by
    rw [trimN]
    split
    · rename_i hz
      rw [gval_trimN B xs k (by omega), List.take_add_one, get_lt (show k < xs.length by omega), hz, gval_append]
      simp [gval]
    · rfl
theorem gval_trim (B : Nat) (xs : List Nat) : gval B (trimL xs) = gval B xs := by rw [trimL, gval_trimN B xs _ (Nat.le_refl _), List.take_length]
theorem gs_trim {B : Nat} {xs : List Nat} (h : GS B xs) : GS B (trimL xs) := fun x hx => h x (List.mem_of_mem_take hx)
theorem top_tail {x : Nat} {xs : List Nat} (h : Top (x :: xs)) : Top xs := fun k hk => by
  have := h (k + 1) (by simp [hk])
  simpa using this
theorem gval_pos {B : Nat} (hB : 0 < B) : ∀ {xs : List Nat}, Top xs → xs ≠ [] → 0 < gval B xs
  | [], _, h => absurd rfl h
  | [x], ht, _ => by
    have := ht 0 rfl
    simp at this
    simp [gval]
    omega
  | x :: y :: ys, ht, _ => by
    have := gval_pos hB (top_tail ht) (by simp)
    have := Nat.mul_pos hB this
    rw [gval]
    omega
theorem gval_inj {B : Nat} (hB : 0 < B) : ∀ {xs ys : List Nat}, GS B xs → GS B ys → Top xs → Top ys → gval B xs = gval B ys → xs = ys
  | [], [], _, _, _, _, _ => rfl
  | [], y :: ys, _, _, _, ty, h => by
    have := gval_pos hB ty (by simp)
    simp only [gval] at h this
    omega
  | x :: xs, [], _, _, tx, _, h => by
    have := gval_pos hB tx (by simp)
    simp only [gval] at h this
    omega
  | x :: xs, y :: ys, hx, hy, tx, ty, h => by
    have h1 := (gs_cons hx).1
    have h2 := (gs_cons hy).1
    simp only [gval] at h
    have e1 : x = y := by
      have := congrArg (· % B) h
      simpa [Nat.add_mul_mod_self_left, Nat.mod_eq_of_lt h1, Nat.mod_eq_of_lt h2] using this
    subst e1
    have e2 : gval B xs = gval B ys := Nat.eq_of_mul_eq_mul_left hB (by omega)
    rw [gval_inj hB (gs_cons hx).2 (gs_cons hy).2 (top_tail tx) (top_tail ty) e2]
theorem gval_nil {B : Nat} (hB : 0 < B) {xs : List Nat} (ht : Top xs) : gval B xs = 0 ↔ xs = [] := by
  constructor
  · intro h
    cases xs with
    | nil => rfl
    | cons x xs => have := gval_pos hB ht (by simp); omega
  · rintro rfl; rfl
theorem top_ge {B : Nat} (hB : 0 < B) {xs : List Nat} (h : Top xs) {k : Nat} (hk : xs.length = k + 1) : B ^ k ≤ gval B xs := by
  have h1 := h k hk
  have h2 : xs = xs.take k ++ [xs.getD k 0] := by
    have := List.take_append_drop k xs
    rw [List.drop_eq_getElem_cons (by omega)] at this
    have h3 : xs.drop (k + 1) = [] := List.drop_eq_nil_of_le (by omega)
    rw [h3] at this
    rw [List.getD_eq_getElem?_getD, List.getElem?_eq_getElem (by omega)]
    exact this.symm
  rw [h2, gval_append, List.length_take, Nat.min_eq_left (by omega)]
  simp only [gval, Nat.mul_zero, Nat.add_zero]
  have h3 : B ^ k * 1 ≤ B ^ k * xs.getD k 0 := Nat.mul_le_mul_left _ (by omega)
  omega
/-- A short number has few digits. -/
theorem len_le {B : Nat} (hB : 1 < B) {xs : List Nat} (h : Top xs) {n : Nat} (hn : gval B xs < B ^ n) : xs.length ≤ n := by
  rcases Nat.lt_or_ge n xs.length with hlt | hge
  · obtain ⟨k, hk⟩ : ∃ k, xs.length = k + 1 := ⟨xs.length - 1, by omega⟩
    have h1 := top_ge (B := B) (by omega) h hk
    have h2 : B ^ n ≤ B ^ k := Nat.pow_le_pow_right (by omega) (by omega)
    omega
  · exact hge
end Go.Proofs.YtaocoplfdhcoaaaGreatDoor.EvA
set_option linter.unusedVariables false
set_option linter.unusedSimpArgs false
namespace Go.Proofs.YtaocoplfdhcoaaaGreatDoor.EvA
open Go
def Digs (l : List UInt8) : Prop := ∀ b ∈ l, 48 ≤ b.toNat ∧ b.toNat ≤ 57
/-- The number of a row of digits. -/
def dv (a : Nat) (l : List UInt8) : Nat := l.foldl (fun a b => a * 10 + (b.toNat - 48)) a
theorem dv_append (a : Nat) (l l' : List UInt8) : dv a (l ++ l') = dv (dv a l) l' := List.foldl_append
theorem dv_acc (a : Nat) (l : List UInt8) : dv a l = a * 10 ^ l.length + dv 0 l := by
  induction l generalizing a with
  | nil => simp [dv]
  | cons b l ih =>
    have e : ∀ a, dv a (b :: l) = dv (a * 10 + (b.toNat - 48)) l := fun _ => rfl
    rw [e, e, ih, ih (0 * 10 + (b.toNat - 48)), List.length_cons, Nat.pow_succ, Nat.add_mul, Nat.mul_assoc, Nat.mul_comm 10, Nat.zero_mul, Nat.zero_add]
    omega
theorem digs_append {l l' : List UInt8} : Digs (l ++ l') ↔ Digs l ∧ Digs l' := by
  unfold Digs
  constructor
  · intro h
    exact ⟨fun b hb => h b (List.mem_append_left _ hb), fun b hb => h b (List.mem_append_right _ hb)⟩
  · rintro ⟨h, h'⟩ b hb
    rcases List.mem_append.1 hb with hb | hb
    · exact h b hb
    · exact h' b hb
theorem digs_take {l : List UInt8} (h : Digs l) (n : Nat) : Digs (l.take n) := fun b hb => h b (List.mem_of_mem_take hb)
theorem digs_drop {l : List UInt8} (h : Digs l) (n : Nat) : Digs (l.drop n) := fun b hb => h b (List.mem_of_mem_drop hb)
theorem dig_toNat {d : Nat} (h : d < 10) : (UInt8.ofNat (48 + d)).toNat = 48 + d := by
  rw [UInt8.toNat_ofNat']
  omega
theorem digs_one {d : Nat} (h : d < 10) : Digs [UInt8.ofNat (48 + d)] := fun b hb => by
  rw [List.mem_singleton.1 hb, dig_toNat h]
  omega
theorem dv_one {a d : Nat} (h : d < 10) : dv a [UInt8.ofNat (48 + d)] = a * 10 + d := by
  show a * 10 + ((UInt8.ofNat (48 + d)).toNat - 48) = _
  rw [dig_toNat h]
  omega
theorem dec_spec (n : Nat) : Digs (Lib.decDigits n) ∧ dv 0 (Lib.decDigits n) = n := by
  induction n using Nat.strongRecOn with
  | ind n ih =>
    rw [Lib.decDigits]
    by_cases h : n < 10
    · rw [dif_pos h]
      exact ⟨digs_one h, by rw [dv_one h]; omega⟩
    · rw [dif_neg h]
      obtain ⟨h1, h2⟩ := ih (n / 10) (by omega)
      refine ⟨digs_append.2 ⟨h1, digs_one (Nat.mod_lt _ (by omega))⟩, ?_⟩
      rw [dv_append, h2, dv_one (Nat.mod_lt _ (by omega))]
      omega
theorem dec_ne (n : Nat) : Lib.decDigits n ≠ [] := by
  rw [Lib.decDigits]
  split <;> simp
theorem dv_lt {l : List UInt8} (h : Digs l) : dv 0 l < 10 ^ l.length := by
  induction l with
  | nil => simp [dv]
  | cons b l ih =>
    have h1 := h b List.mem_cons_self
    have h2 := ih fun x hx => h x (List.mem_cons_of_mem _ hx)
    have e : dv 0 (b :: l) = dv (0 * 10 + (b.toNat - 48)) l := rfl
    rw [e, dv_acc, List.length_cons, Nat.pow_succ, Nat.mul_comm (10 ^ l.length) 10]
    have h3 : (0 * 10 + (b.toNat - 48)) * 10 ^ l.length ≤ 9 * 10 ^ l.length := Nat.mul_le_mul_right _ (by omega)
    omega
/-- d with k digits. -/
def padk : Nat → Nat → List UInt8
  | 0, _ => []
  | k + 1, d => padk k (d / 10) ++ [UInt8.ofNat (48 + d % 10)]
theorem dec_split {v : Nat} (hv : 0 < v) : ∀ {k d : Nat}, d < 10 ^ k → Lib.decDigits (v * 10 ^ k + d) = Lib.decDigits v ++ padk k d
  | 0, d, h => by
    have : d = 0 := by simpa using h
    subst this
    simp [padk]
  | k + 1, d, h => by
    rw [Nat.pow_succ] at h
    have h1 : (v * 10 ^ (k + 1) + d) / 10 = v * 10 ^ k + d / 10 := by rw [Nat.pow_succ, ← Nat.mul_assoc]; omega
    have h2 : (v * 10 ^ (k + 1) + d) % 10 = d % 10 := by rw [Nat.pow_succ, ← Nat.mul_assoc]; omega
    have h3 : ¬ v * 10 ^ (k + 1) + d < 10 := by
      have : 1 * 10 ^ (k + 1) ≤ v * 10 ^ (k + 1) := Nat.mul_le_mul_right _ hv
      have h0 : 0 < 10 ^ k := Nat.pow_pos (by omega)
      rw [Nat.pow_succ] at this ⊢
      omega
    rw [Lib.decDigits, dif_neg h3, h1, h2, dec_split hv (by omega), padk, List.append_assoc]
theorem padk_zero : ∀ k, padk k 0 = List.replicate k 48
  | 0 => rfl
  | k + 1 => by rw [padk, Nat.zero_div, padk_zero k, List.replicate_succ']; rfl
theorem padk_eq : ∀ {k d : Nat}, d < 10 ^ (k + 1) → (Lib.decDigits d).length ≤ k + 1 ∧ padk (k + 1) d = List.replicate (k + 1 - (Lib.decDigits d).length) 48 ++ Lib.decDigits d
  | k, d, h => by
    by_cases h1 : d < 10
    · rw [Lib.decDigits, dif_pos h1, padk, Nat.div_eq_of_lt h1, padk_zero, Nat.mod_eq_of_lt h1]
      simp
    · cases k with
      | zero => simp at h; omega
      | succ k =>
        rw [Nat.pow_succ] at h
        obtain ⟨h2, h3⟩ := padk_eq (k := k) (d := d / 10) (by omega)
        rw [Lib.decDigits, dif_neg h1, padk, h3]
        simp only [List.length_append, List.length_cons, List.length_nil, List.append_assoc]
        exact ⟨by omega, by rw [show k + 1 + 1 - ((Lib.decDigits (d / 10)).length + 1) = k + 1 - (Lib.decDigits (d / 10)).length by omega]⟩
theorem dec_len {d : Nat} (h : d < 1000000000) : (Lib.decDigits d).length ≤ 9 := (padk_eq (k := 8) (d := d) h).1
/-- The text of the digits from the i-th on, the lowest of which stands last. -/
def fromL : List Nat → List UInt8
  | [] => []
  | [x] => Lib.decDigits x
  | x :: xs => fromL xs ++ padk 9 x
theorem fromL_eq : ∀ {xs : List Nat}, GS 1000000000 xs → Top xs → xs ≠ [] → fromL xs = Lib.decDigits (gval 1000000000 xs)
  | [], _, _, h => absurd rfl h
  | [x], _, _, _ => by simp [fromL, gval]
  | x :: y :: ys, hs, ht, _ => by
    have ih := fromL_eq (gs_cons hs).2 (top_tail ht) (by simp)
    have h1 := gval_pos (B := 1000000000) (by omega) (top_tail ht) (by simp)
    have h2 := (gs_cons hs).1
    rw [fromL, ih, ← dec_split h1 (k := 9) (d := x) (by simpa using h2)]
    · congr 1
      show gval 1000000000 (y :: ys) * 10 ^ 9 + x = x + 1000000000 * gval 1000000000 (y :: ys)
      have : (10 : Nat) ^ 9 = 1000000000 := rfl
      omega
    · simp
/-- What the first i digits (the lowest ones) of the text look like, when all but the top one are padded. -/
def lowT : List Nat → List UInt8
  | [] => []
  | x :: xs => lowT xs ++ padk 9 x
theorem lowT_append (xs : List Nat) (x : Nat) : lowT (xs ++ [x]) = padk 9 x ++ lowT xs := by
  induction xs with
  | nil => simp [lowT]
  | cons y ys ih => rw [List.cons_append, lowT, ih, lowT, List.append_assoc]
theorem fromL_last : ∀ (xs : List Nat) (x : Nat), fromL (xs ++ [x]) = Lib.decDigits x ++ lowT xs
  | [], x => by simp [fromL, lowT]
  | y :: ys, x => by
    have : (y :: ys) ++ [x] = y :: (ys ++ [x]) := rfl
    rw [this]
    cases h : ys ++ [x] with
    | nil => simp at h
    | cons z zs => rw [fromL, ← h, fromL_last ys x, lowT, List.append_assoc]; simp
/-! ### What Atoi tells of digits -/
theorem digitVal_ok {b : UInt8} (h : 48 ≤ b.toNat ∧ b.toNat ≤ 57) : Lib.digitVal b = some (b.toNat - 48) := if_pos h
theorem decFrom_digs : ∀ {l : List UInt8} (a : Nat), Digs l → Lib.decFrom a l = some (dv a l)
  | [], a, _ => rfl
  | b :: l, a, h => by
    rw [Lib.decFrom, digitVal_ok (h b List.mem_cons_self)]
    exact decFrom_digs _ fun x hx => h x (List.mem_cons_of_mem _ hx)
theorem atoi_digs {l : List UInt8} (h : Digs l) (hne : l ≠ []) : Lib.atoi l = some (Int.ofNat (dv 0 l)) := by
  cases l with
  | nil => exact absurd rfl hne
  | cons b l =>
    have hb := h b List.mem_cons_self
    have h1 : (b == 45) = false := by
      rw [beq_eq_false_iff_ne]
      rintro rfl
      simp at hb
    have h2 : (b == 43) = false := by
      rw [beq_eq_false_iff_ne]
      rintro rfl
      simp at hb
    rw [Lib.atoi, h1, h2]
    simp only [Bool.false_eq_true, if_false]
    rw [Lib.decNat]
    simp only [List.isEmpty_cons, Bool.false_eq_true, if_false, decFrom_digs 0 h, Option.map_some]
    rfl
theorem itoa_nat (n : Nat) : Lib.itoa (Int.ofNat n) = Lib.decDigits n := by
  unfold Lib.itoa
  rw [if_neg (by simp)]
  rfl
theorem itoa_neg {n : Nat} (h : 0 < n) : Lib.itoa (-(n : Int)) = 45 :: Lib.decDigits n := by
  unfold Lib.itoa
  rw [if_pos (by omega)]
  simp
/-- The text without its sign. -/
theorem itoa_iv {x : Bool × List Nat} (hw : Whole x) : Lib.itoa (iv x) = if x.1 then 45 :: Lib.decDigits (val x.2) else Lib.decDigits (val x.2) := by
  obtain ⟨neg, xs⟩ := x
  unfold iv
  cases neg with
  | false => simp only [Bool.false_eq_true, if_false]; exact itoa_nat _
  | true =>
    simp only [if_true]
    have hne : xs ≠ [] := fun e => by have := hw.zero e; simp at this
    have := gval_pos (B := 1000000000) (by omega) hw.top hne
    rw [← val_g] at this
    exact itoa_neg this
end Go.Proofs.YtaocoplfdhcoaaaGreatDoor.EvA
set_option linter.unusedVariables false
set_option linter.unusedSimpArgs false
namespace Go.Proofs.YtaocoplfdhcoaaaGreatDoor.EvA
open Go Go.RowKit Go.Proofs.YtaocoplfdhcoaaaGreatDoor.Ev
theorem tt169 : E.tt.get 169 = some i169 := rfl
theorem tt245 : E.tt.get 245 = some i245 := rfl
theorem sz245 : szE E 245 = some 1 := rfl
def nats (xs : List Nat) : List AV := xs.map fun n => .int .u32 (Int.ofNat n)
theorem nats_get {xs : List Nat} {i n : Nat} (h : xs[i]? = some n) : (nats xs)[i]? = some (.int .u32 (Int.ofNat n)) := by simp [nats, h]
theorem nats_length (xs : List Nat) : (nats xs).length = xs.length := by simp [nats]
theorem nats_take (xs : List Nat) (k : Nat) : (nats xs).take k = nats (xs.take k) := by simp [nats, List.map_take]
theorem lenN {h : T Blk} {xs : List Nat} {v : AV} (hr : Row h 1 (nats xs) v) (e : Nat) : lenE (.slice e) v = some xs.length := by
  obtain ⟨n, h1, h2⟩ := hr.len (e := e) (by omega)
  rw [nats_length] at h2
  rw [h1, h2, Nat.mul_one]
theorem Row.nat {h : T Blk} {xs : List Nat} {v : AV} (hr : Row h 1 (nats xs) v) {i : Nat} (hi : i < xs.length) : ∃ b o n c q k, v = .slice (some (b, o)) n c q ∧ Nat.blt i n = true ∧ h.get b = some k ∧ k.cells[o + i]? = some (.int .u32 (Int.ofNat (xs.getD i 0))) := by
  obtain ⟨b, o, n, c, q, rfl, h1, _, k, h2, h3, h4⟩ := hr.shape (i := i) (by rw [nats_length]; omega) (by omega)
  refine ⟨b, o, n, c, q, k, rfl, blt_iff.2 h1, h2, ?_⟩
  have := h4 0 (by omega)
  simp only [Nat.mul_one, Nat.add_zero] at this
  rw [this, nats_get (get_lt hi)]
theorem nats_append (xs : List Nat) (x : Nat) : nats xs ++ [.int .u32 (Int.ofNat x)] = nats (xs ++ [x]) := by simp [nats]
theorem ones_nats : ∀ xs : List Nat, ones (nats xs) = true
  | [] => rfl
  | x :: xs => by
    show (true && ones (nats xs)) = true
    rw [ones_nats xs]
    rfl
end Go.Proofs.YtaocoplfdhcoaaaGreatDoor.EvA
set_option linter.unusedVariables false
set_option linter.unusedSimpArgs false
namespace Go.Proofs.YtaocoplfdhcoaaaGreatDoor.EvA
open Go Go.RowKit Go.Proofs.YtaocoplfdhcoaaaGreatDoor.Ev
def zints (xs : List Int) : List AV := xs.map fun n => .int .i64 n
theorem zints_get {xs : List Int} {i : Nat} {n : Int} (h : xs[i]? = some n) : (zints xs)[i]? = some (.int .i64 n) := by simp [zints, h]
theorem zints_length (xs : List Int) : (zints xs).length = xs.length := by simp [zints]
theorem lenZ {h : T Blk} {xs : List Int} {v : AV} (hr : Row h 1 (zints xs) v) (e : Nat) : lenE (.slice e) v = some xs.length := by
  obtain ⟨n, h1, h2⟩ := hr.len (e := e) (by omega)
  rw [zints_length] at h2
  rw [h1, h2, Nat.mul_one]
theorem Row.zint {h : T Blk} {xs : List Int} {v : AV} (hr : Row h 1 (zints xs) v) {i : Nat} (hi : i < xs.length) : ∃ b o n c q k, v = .slice (some (b, o)) n c q ∧ Nat.blt i n = true ∧ h.get b = some k ∧ k.cells[o + i]? = some (.int .i64 (xs.getD i 0)) := by
  obtain ⟨b, o, n, c, q, rfl, h1, _, k, h2, h3, h4⟩ := hr.shape (i := i) (by rw [zints_length]; omega) (by omega)
  refine ⟨b, o, n, c, q, k, rfl, blt_iff.2 h1, h2, ?_⟩
  have := h4 0 (by omega)
  simp only [Nat.mul_one, Nat.add_zero] at this
  rw [this, zints_get (n := xs.getD i 0) (by simp [List.getD_eq_getElem?_getD, List.getElem?_eq_getElem hi])]
end Go.Proofs.YtaocoplfdhcoaaaGreatDoor.EvA

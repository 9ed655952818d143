/- Rows of words of 32 bits. -/
import Derived.Test.YtaocoplfdhcoaaaGreatDoorEvC99
set_option linter.unusedVariables false
set_option linter.unusedSimpArgs false
namespace Go.Proofs.YtaocoplfdhcoaaaGreatDoor.EvA
open Go Go.RowKit Go.Proofs.YtaocoplfdhcoaaaGreatDoor.Ev
theorem tt169 : E.tt.get 169 = some i169 := rfl
theorem tt245 : E.tt.get 245 = some i245 := rfl
theorem sz245 : szE E 245 = some 1 := rfl
def nats (xs : List Nat) : List AV := xs.map fun n => .int .u32 (Int.ofNat n)
theorem nats_get {xs : List Nat} {i n : Nat} (h : xs[i]? = some n) : (nats xs)[i]? = some (.int .u32 (Int.ofNat n)) := by simp [nats, h]
theorem nats_length (xs : List Nat) : (nats xs).length = xs.length := by simp [nats]
theorem nats_take (xs : List Nat) (k : Nat) : (nats xs).take k = nats (xs.take k) := by simp [nats, List.map_take]
theorem lenN {h : T Blk} {xs : List Nat} {v : AV} (hr : Row h 1 (nats xs) v) (e : Nat) : lenE (.slice e) v = some xs.length := by
  obtain ⟨n, h1, h2⟩ := hr.len (e := e) (by omega)
  rw [nats_length] at h2
  rw [h1, h2, Nat.mul_one]
theorem Row.nat {h : T Blk} {xs : List Nat} {v : AV} (hr : Row h 1 (nats xs) v) {i : Nat} (hi : i < xs.length) : ∃ b o n c q k, v = .slice (some (b, o)) n c q ∧ Nat.blt i n = true ∧ h.get b = some k ∧ k.cells[o + i]? = some (.int .u32 (Int.ofNat (xs.getD i 0))) := by
  obtain ⟨b, o, n, c, q, rfl, h1, _, k, h2, h3, h4⟩ := hr.shape (i := i) (by rw [nats_length]; omega) (by omega)
  refine ⟨b, o, n, c, q, k, rfl, blt_iff.2 h1, h2, ?_⟩
  have := h4 0 (by omega)
  simp only [Nat.mul_one, Nat.add_zero] at this
  rw [this, nats_get (get_lt hi)]
theorem nats_append (xs : List Nat) (x : Nat) : nats xs ++ [.int .u32 (Int.ofNat x)] = nats (xs ++ [x]) := by simp [nats]
theorem ones_nats : ∀ xs : List Nat, ones (nats xs) = true
  | [] => rfl
  | x :: xs => by
    show (true && ones (nats xs)) = true
    rw [ones_nats xs]
    rfl
end Go.Proofs.YtaocoplfdhcoaaaGreatDoor.EvA
/- Rows of integers with signs. -/
set_option linter.unusedVariables false
set_option linter.unusedSimpArgs false
namespace Go.Proofs.YtaocoplfdhcoaaaGreatDoor.EvA
open Go Go.RowKit Go.Proofs.YtaocoplfdhcoaaaGreatDoor.Ev
def zints (xs : List Int) : List AV := xs.map fun n => .int .i64 n
theorem zints_get {xs : List Int} {i : Nat} {n : Int} (h : xs[i]? = some n) : (zints xs)[i]? = some (.int .i64 n) := by simp [zints, h]
theorem zints_length (xs : List Int) : (zints xs).length = xs.length := by simp [zints]
theorem lenZ {h : T Blk} {xs : List Int} {v : AV} (hr : Row h 1 (zints xs) v) (e : Nat) : lenE (.slice e) v = some xs.length := by
  obtain ⟨n, h1, h2⟩ := hr.len (e := e) (by omega)
  rw [zints_length] at h2
  rw [h1, h2, Nat.mul_one]
theorem Row.zint {h : T Blk} {xs : List Int} {v : AV} (hr : Row h 1 (zints xs) v) {i : Nat} (hi : i < xs.length) : ∃ b o n c q k, v = .slice (some (b, o)) n c q ∧ Nat.blt i n = true ∧ h.get b = some k ∧ k.cells[o + i]? = some (.int .i64 (xs.getD i 0)) := by
  obtain ⟨b, o, n, c, q, rfl, h1, _, k, h2, h3, h4⟩ := hr.shape (i := i) (by rw [zints_length]; omega) (by omega)
  refine ⟨b, o, n, c, q, k, rfl, blt_iff.2 h1, h2, ?_⟩
  have := h4 0 (by omega)
  simp only [Nat.mul_one, Nat.add_zero] at this
  rw [this, zints_get (n := xs.getD i 0) (by simp [List.getD_eq_getElem?_getD, List.getElem?_eq_getElem hi])]
end Go.Proofs.YtaocoplfdhcoaaaGreatDoor.EvA

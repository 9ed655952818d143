/- Numbers and matrices as values. -/
import Derived.Test.YtaocoplfdhcoaaaGreatDoorEvP
import Derived.Test.YtaocoplfdhcoaaaGreatDoorEvB2
import Derived.Test.YtaocoplfdhcoaaaGreatDoorEvC20
set_option linter.unusedVariables false
set_option linter.unusedSimpArgs false
set_option maxRecDepth 20000
namespace Go.Proofs.YtaocoplfdhcoaaaGreatDoor.EvA
open Go Go.RowKit Go.Proofs.YtaocoplfdhcoaaaGreatDoor.Ev
/-- What holds of a run's state: the counter is above all blocks. -/
def Lt (c0 : Nat) (s : St) : Prop := ∀ b k, s.h.get b = some k → b < c0
theorem WV.keep {s s' : St} {x : Bool × List Nat} {v : AV} {c0 : Nat} (h : WV s.h x v) (hF : Lt c0 s) (hk : Kept c0 s s') : WV s'.h x v := by
  obtain ⟨d, rfl, hd⟩ := h
  exact ⟨d, rfl, hd.keep hF hk⟩
/-- The integer z, with digits to the base 10^9. -/
def WZ (h : T Blk) (z : Int) (v : AV) : Prop := ∃ x, WV h x v ∧ Whole x ∧ iv x = z
theorem WZ.keep {s s' : St} {z : Int} {v : AV} {c0 : Nat} (h : WZ s.h z v) (hF : Lt c0 s) (hk : Kept c0 s s') : WZ s'.h z v := by
  obtain ⟨x, h1, h2⟩ := h
  exact ⟨x, h1.keep hF hk, h2⟩
theorem iv_abs (x : Bool × List Nat) : (iv x).natAbs = gval 1000000000 x.2 := by
  unfold iv
  rw [val_g]
  split <;> simp
theorem Whole.len {x : Bool × List Nat} (hw : Whole x) {n : Nat} (h : (iv x).natAbs < 1000000000 ^ n) : x.2.length ≤ n :=
  len_le (B := 1000000000) (by omega) hw.top (by rw [← iv_abs]; exact h)
theorem addW_z {lo n : Nat} {va vb : AV} {a b : Int} {s : St} (ha : WZ s.h a va) (hb : WZ s.h b vb) (hF : Fresh s) (hlo : lo ≤ s.c) (hn : n ≤ 100000) (h1 : a.natAbs < 1000000000 ^ n) (h2 : b.natAbs < 1000000000 ^ n) :
    FunR E lo 20 [va, vb] s fun v s' => Fresh s' ∧ Kept s.c s s' ∧ WZ s'.h (a + b) v := by
  obtain ⟨x, hx, wx, rfl⟩ := ha
  obtain ⟨y, hy, wy, rfl⟩ := hb
  have l1 := wx.len h1
  have l2 := wy.len h2
  refine (AddW_run hx hy hF hlo (by omega) (by omega) wx.small wy.small).mono fun v s' h => ⟨h.1, h.2.1, _, h.2.2, whole_add wx wy, ?_⟩
  exact addWL_iv wx.small wy.small wx.top wy.top
/-- The natural number n, with digits to the base 2^32. -/
def NV (h : T Blk) (n : Nat) (v : AV) : Prop := ∃ xs, Row h 1 (nats xs) v ∧ GS 4294967296 xs ∧ Top xs ∧ gval 4294967296 xs = n
/-- The integer z of the checker. -/
def IV (h : T Blk) (z : Int) (v : AV) : Prop := ∃ d, v = .agg [.bool (decide (z < 0)), d] ∧ NV h z.natAbs d
theorem NV.keep {s s' : St} {n : Nat} {v : AV} {c0 : Nat} (h : NV s.h n v) (hF : Lt c0 s) (hk : Kept c0 s s') : NV s'.h n v := by
  obtain ⟨x, h1, h2⟩ := h
  exact ⟨x, h1.keep hF hk, h2⟩
theorem IV.keep {s s' : St} {z : Int} {v : AV} {c0 : Nat} (h : IV s.h z v) (hF : Lt c0 s) (hk : Kept c0 s s') : IV s'.h z v := by
  obtain ⟨x, h1, h2⟩ := h
  exact ⟨x, h1, h2.keep hF hk⟩
/-- A row of integers; a matrix. -/
def RZ (h : T Blk) (r : List Int) (v : AV) : Prop := Row h 1 (zints r) v
def MZ (h : T Blk) (m : List (List Int)) (v : AV) : Prop := ∃ cs, Row h 1 cs v ∧ cs.length = m.length ∧ ∀ (i : Nat) (r : List Int) (c : AV), m[i]? = some r → cs[i]? = some c → RZ h r c
theorem RZ.keep {s s' : St} {r : List Int} {v : AV} {c0 : Nat} (h : RZ s.h r v) (hF : Lt c0 s) (hk : Kept c0 s s') : RZ s'.h r v := Row.keep h hF hk
theorem MZ.keep {s s' : St} {m : List (List Int)} {v : AV} {c0 : Nat} (h : MZ s.h m v) (hF : Lt c0 s) (hk : Kept c0 s s') : MZ s'.h m v := by
  obtain ⟨cs, h1, h2, h3⟩ := h
  exact ⟨cs, h1.keep hF hk, h2, fun i r c hi hc => (h3 i r c hi hc).keep hF hk⟩
theorem MZ.len {h : T Blk} {m : List (List Int)} {v : AV} (hm : MZ h m v) (e : Nat) : lenE (.slice e) v = some m.length := by
  obtain ⟨cs, h1, h2, h3⟩ := hm
  obtain ⟨n, g1, g2⟩ := h1.len (e := e) (by omega)
  rw [h2] at g2
  rw [g1, g2, Nat.mul_one]
/-- The i-th row of a matrix: where it stands. -/
theorem MZ.row {h : T Blk} {m : List (List Int)} {v : AV} (hm : MZ h m v) {i : Nat} (hi : i < m.length) : ∃ b o n c q k r, v = .slice (some (b, o)) n c q ∧ Nat.blt i n = true ∧ h.get b = some k ∧ k.cells[o + i]? = some r ∧ RZ h (m.getD i []) r := by
  obtain ⟨cs, h1, h2, h3⟩ := hm
  obtain ⟨b, o, n, c, q, rfl, g1, _, k, g2, g3, g4⟩ := h1.shape (i := i) (by omega) (by omega)
  have g5 := g4 0 (by omega)
  simp only [Nat.mul_one, Nat.add_zero] at g5
  have hc : cs[i]? = some cs[i] := List.getElem?_eq_getElem (by omega)
  refine ⟨b, o, n, c, q, k, cs[i], rfl, blt_iff.2 g1, g2, by rw [g5, hc], h3 i _ _ ?_ hc⟩
  simp [List.getD_eq_getElem?_getD, List.getElem?_eq_getElem hi]
/-- A row of whole numbers. -/
def RW (h : T Blk) (zs : List Int) (cs : List AV) : Prop := cs.length = zs.length * 2 ∧ ∀ (i : Nat) (z : Int), zs[i]? = some z → ∃ a d, cs[i * 2]? = some a ∧ cs[i * 2 + 1]? = some d ∧ WZ h z (.agg [a, d])
theorem RW.keep {s s' : St} {zs : List Int} {cs : List AV} {c0 : Nat} (h : RW s.h zs cs) (hF : Lt c0 s) (hk : Kept c0 s s') : RW s'.h zs cs := ⟨h.1, fun i z hi => by
  obtain ⟨a, d, h1, h2, h3⟩ := h.2 i z hi
  exact ⟨a, d, h1, h2, h3.keep hF hk⟩⟩
theorem RW.append {h : T Blk} {zs : List Int} {cs : List AV} (hr : RW h zs cs) {z : Int} {a d : AV} (hz : WZ h z (.agg [a, d])) : RW h (zs ++ [z]) (cs ++ [a, d]) := by
  refine ⟨by simp [hr.1, Nat.add_mul], fun i y hi => ?_⟩
  rcases Nat.lt_or_ge i zs.length with hlt | hge
  · rw [List.getElem?_append_left hlt] at hi
    obtain ⟨a', d', h1, h2, h3⟩ := hr.2 i y hi
    exact ⟨a', d', by rw [List.getElem?_append_left (by rw [hr.1]; omega)]; exact h1, by rw [List.getElem?_append_left (by rw [hr.1]; omega)]; exact h2, h3⟩
  · have hi' : i = zs.length := by
      have := (List.getElem?_eq_some_iff.1 hi).1
      simp at this
      omega
    subst hi'
    simp at hi
    subst hi
    exact ⟨a, d, by rw [List.getElem?_append_right (by rw [hr.1]; omega), hr.1]; simp, by rw [List.getElem?_append_right (by rw [hr.1]; omega), hr.1]; simp [show zs.length * 2 + 1 - zs.length * 2 = 1 by omega], hz⟩
theorem putL_set {cs : List AV} {j : Nat} {v : AV} (h : j < cs.length) : putL cs j [v] = cs.set j v := by
  rw [putL, List.set_eq_take_append_cons_drop, if_pos h]
  rfl
theorem ints_set (xs : List Nat) (j n : Nat) : (ints xs).set j (.int .i64 (Int.ofNat n)) = ints (xs.set j n) := by simp [ints, List.map_set]
theorem nats_set (xs : List Nat) (j n : Nat) : (nats xs).set j (.int .u32 (Int.ofNat n)) = nats (xs.set j n) := by simp [nats, List.map_set]
theorem reps_one (n : Nat) (v : AV) : reps n [v] = List.replicate n v := by
  induction n with
  | zero => rfl
  | succ n ih => rw [reps, ih]; rfl
theorem reps_ints (n : Nat) : reps n [.int .i64 0] = ints (List.replicate n 0) := by rw [reps_one, ints, List.map_replicate]; rfl
theorem reps_nats (n : Nat) : reps n [.int .u32 0] = nats (List.replicate n 0) := by rw [reps_one, nats, List.map_replicate]; rfl
theorem lim_lo {lo lc c : Nat} (h : lc = lo ∨ lc = c) (hlo : lo ≤ c) : lc ≤ c := by omega
theorem row_own {h : T Blk} {b ty : Nat} {cs : List AV} (hg : h.get b = some ⟨ty, cs⟩) (n : Nat) (hn : cs.length = n) : Row h 1 cs (.slice (some (b, 0)) n n 0) := by
  refine ⟨by omega, Nat.le_refl _, .inl rfl, fun _ => ?_⟩
  unfold cellsAt
  rw [hg, Option.bind_some]
  simp only [Nat.zero_add, List.drop_zero, Nat.mul_one]
  rw [ble_iff.2 (by omega), cond_true, List.take_of_length_le (by omega)]
theorem fresh_set {s : St} (hF : Fresh s) {b : Nat} {k : Blk} (hb : b < s.c) : Fresh ⟨s.h.set b k, s.c⟩ := fun b' hb' => by
  simp only at hb' ⊢
  rw [T.get_set, if_neg (by omega)]
  exact hF b' hb'
theorem kept_set {c0 : Nat} {s s1 : St} (hk : Kept c0 s s1) {b : Nat} {k : Blk} (hb : c0 ≤ b) : Kept c0 s ⟨s1.h.set b k, s1.c⟩ := ⟨hk.mono, fun b' hb' => by
  simp only
  rw [T.get_set, if_neg (by omega)]
  exact hk.keep b' hb'⟩
theorem fresh_new {s : St} (hF : Fresh s) (k : Blk) : Fresh ⟨s.h.set s.c k, s.c + 1⟩ := fun b' hb' => by
  simp only at hb' ⊢
  rw [T.get_set, if_neg (by omega)]
  exact hF b' (by omega)
theorem kept_new {c0 : Nat} {s s1 : St} (hk : Kept c0 s s1) (hc : c0 ≤ s1.c) (k : Blk) : Kept c0 s ⟨s1.h.set s1.c k, s1.c + 1⟩ := ⟨Nat.le_succ_of_le hk.mono, fun b' hb' => by
  simp only
  rw [T.get_set, if_neg (by omega)]
  exact hk.keep b' hb'⟩
theorem take_two {l : List AV} {p : Nat} {a d : AV} (h1 : l[p]? = some a) (h2 : l[p + 1]? = some d) : (l.drop p).take 2 = [a, d] := by
  obtain ⟨g1, rfl⟩ := List.getElem?_eq_some_iff.1 h1
  obtain ⟨g2, rfl⟩ := List.getElem?_eq_some_iff.1 h2
  rw [List.drop_eq_getElem_cons g1, List.drop_eq_getElem_cons g2]
  rfl
/-- An element of a row of whole numbers: where it stands. -/
theorem RW.at {h : T Blk} {zs : List Int} {cs : List AV} {v : AV} (hr : Row h 2 cs v) (hw : RW h zs cs) {i : Nat} (hi : i < zs.length) : ∃ b o n c q k a d, v = .slice (some (b, o)) n c q ∧ Nat.blt i n = true ∧ h.get b = some k ∧ cellsAt h b (o + i * 2) 2 = some [a, d] ∧ WZ h (zs.getD i 0) (.agg [a, d]) ∧ cs[i * 2]? = some a ∧ cs[i * 2 + 1]? = some d ∧ o + i * 2 + 2 ≤ k.cells.length := by
  obtain ⟨a, d, h1, h2, h3⟩ := hw.2 i (zs.getD i 0) (by simp [List.getD_eq_getElem?_getD, List.getElem?_eq_getElem hi])
  obtain ⟨b, o, n, c, q, rfl, g1, g0, k, g2, g3, g4⟩ := hr.shape (i := i) (by rw [hw.1]; omega) (by omega)
  have e1 := g4 0 (by omega)
  have e2 := g4 1 (by omega)
  simp only [Nat.add_zero] at e1
  rw [h1] at e1
  rw [h2] at e2
  have hlen : (i + 1) * 2 ≤ n * 2 := Nat.mul_le_mul_right _ g1
  refine ⟨b, o, n, c, q, k, a, d, rfl, blt_iff.2 g1, g2, ?_, h3, h1, h2, by omega⟩
  unfold cellsAt
  rw [g2, Option.bind_some, ble_iff.2 (by omega), cond_true, take_two e1 e2]
end Go.Proofs.YtaocoplfdhcoaaaGreatDoor.EvA

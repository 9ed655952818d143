/- Numbers and matrices as values. -/
import Derived.Test.YtaocoplfdhcoaaaGreatDoorSp17
import Derived.Test.YtaocoplfdhcoaaaGreatDoorSp16
import Derived.Deep.Slices
import Derived.ChangeArms
set_option linter.unusedVariables false
set_option linter.unusedSimpArgs false
set_option maxRecDepth 20000
namespace Go.Proofs.YtaocoplfdhcoaaaGreatDoor.EvA
open Go Go.RowKit Go.Proofs.YtaocoplfdhcoaaaGreatDoor.Ev
/-- What holds of a run's state: the counter is above all blocks. -/
def Lt (c0 : Nat) (s : St) : Prop := ∀ b k, s.h.get b = some k → b < c0
theorem WV.keep {s s' : St} {x : Bool × List Nat} {v : AV} {c0 : Nat} (h : WV s.h x v) (hF : Lt c0 s) (hk : Kept c0 s s') : WV s'.h x v := by
  obtain ⟨d, rfl, hd⟩ := h
  exact ⟨d, rfl, hd.keep hF hk⟩
/-- The integer z, with digits to the base 10^9. -/
def WZ (h : T Blk) (z : Int) (v : AV) : Prop := ∃ x, WV h x v ∧ Whole x ∧ iv x = z
theorem WZ.keep {s s' : St} {z : Int} {v : AV} {c0 : Nat} (h : WZ s.h z v) (hF : Lt c0 s) (hk : Kept c0 s s') : WZ s'.h z v := by
  obtain ⟨x, h1, h2⟩ := h
  exact ⟨x, h1.keep hF hk, h2⟩
theorem iv_abs (x : Bool × List Nat) : (iv x).natAbs = gval 1000000000 x.2 := by
  unfold iv
  rw [val_g]
  split <;> simp
theorem Whole.len {x : Bool × List Nat} (hw : Whole x) {n : Nat} (h : (iv x).natAbs < 1000000000 ^ n) : x.2.length ≤ n :=
  len_le (B := 1000000000) (by omega) hw.top (by rw [← iv_abs]; exact h)
theorem addW_z {lo n : Nat} {va vb : AV} {a b : Int} {s : St} (ha : WZ s.h a va) (hb : WZ s.h b vb) (hF : Fresh s) (hlo : lo ≤ s.c) (hn : n ≤ 100000) (h1 : a.natAbs < 1000000000 ^ n) (h2 : b.natAbs < 1000000000 ^ n) :
    FunR E lo 20 [va, vb] s fun v s' => Fresh s' ∧ Kept s.c s s' ∧ WZ s'.h (a + b) v := by
  obtain ⟨x, hx, wx, rfl⟩ := ha
  obtain ⟨y, hy, wy, rfl⟩ := hb
  have l1 := wx.len h1
  have l2 := wy.len h2
  refine (AddW_run hx hy hF hlo (by omega) (by omega) wx.small wy.small).mono fun v s' h => ⟨h.1, h.2.1, _, h.2.2, whole_add wx wy, ?_⟩
  exact addWL_iv wx.small wy.small wx.top wy.top
/-- The natural number n, with digits to the base 2^32. -/
def NV (h : T Blk) (n : Nat) (v : AV) : Prop := ∃ xs, Row h 1 (nats xs) v ∧ GS 4294967296 xs ∧ Top xs ∧ gval 4294967296 xs = n
/-- The integer z of the checker. -/
def IV (h : T Blk) (z : Int) (v : AV) : Prop := ∃ d, v = .agg [.bool (decide (z < 0)), d] ∧ NV h z.natAbs d
theorem NV.keep {s s' : St} {n : Nat} {v : AV} {c0 : Nat} (h : NV s.h n v) (hF : Lt c0 s) (hk : Kept c0 s s') : NV s'.h n v := by
  obtain ⟨x, h1, h2⟩ := h
  exact ⟨x, h1.keep hF hk, h2⟩
theorem IV.keep {s s' : St} {z : Int} {v : AV} {c0 : Nat} (h : IV s.h z v) (hF : Lt c0 s) (hk : Kept c0 s s') : IV s'.h z v := by
  obtain ⟨x, h1, h2⟩ := h
  exact ⟨x, h1, h2.keep hF hk⟩
/-- A row of integers; a matrix. -/
def RZ (h : T Blk) (r : List Int) (v : AV) : Prop := Row h 1 (zints r) v
def MZ (h : T Blk) (m : List (List Int)) (v : AV) : Prop := ∃ cs, Row h 1 cs v ∧ cs.length = m.length ∧ ∀ (i : Nat) (r : List Int) (c : AV), m[i]? = some r → cs[i]? = some c → RZ h r c
theorem RZ.keep {s s' : St} {r : List Int} {v : AV} {c0 : Nat} (h : RZ s.h r v) (hF : Lt c0 s) (hk : Kept c0 s s') : RZ s'.h r v := Row.keep h hF hk
theorem MZ.keep {s s' : St} {m : List (List Int)} {v : AV} {c0 : Nat} (h : MZ s.h m v) (hF : Lt c0 s) (hk : Kept c0 s s') : MZ s'.h m v := by
  obtain ⟨cs, h1, h2, h3⟩ := h
  exact ⟨cs, h1.keep hF hk, h2, fun i r c hi hc => (h3 i r c hi hc).keep hF hk⟩
theorem MZ.len {h : T Blk} {m : List (List Int)} {v : AV} (hm : MZ h m v) (e : Nat) : lenE (.slice e) v = some m.length := by
  obtain ⟨cs, h1, h2, h3⟩ := hm
  obtain ⟨n, g1, g2⟩ := h1.len (e := e) (by omega)
  rw [h2] at g2
  rw [g1, g2, Nat.mul_one]
/-- The i-th row of a matrix: where it stands. -/
theorem MZ.row {h : T Blk} {m : List (List Int)} {v : AV} (hm : MZ h m v) {i : Nat} (hi : i < m.length) : ∃ b o n c q k r, v = .slice (some (b, o)) n c q ∧ Nat.blt i n = true ∧ h.get b = some k ∧ k.cells[o + i]? = some r ∧ RZ h (m.getD i []) r := by
  obtain ⟨cs, h1, h2, h3⟩ := hm
  obtain ⟨b, o, n, c, q, rfl, g1, _, k, g2, g3, g4⟩ := h1.shape (i := i) (by omega) (by omega)
  have g5 := g4 0 (by omega)
  simp only [Nat.mul_one, Nat.add_zero] at g5
  have hc : cs[i]? = some cs[i] := List.getElem?_eq_getElem (by omega)
  refine ⟨b, o, n, c, q, k, cs[i], rfl, blt_iff.2 g1, g2, by rw [g5, hc], h3 i _ _ ?_ hc⟩
  simp [List.getD_eq_getElem?_getD, List.getElem?_eq_getElem hi]
/-- A row of whole numbers. -/
def RW (h : T Blk) (zs : List Int) (cs : List AV) : Prop := cs.length = zs.length * 2 ∧ ∀ (i : Nat) (z : Int), zs[i]? = some z → ∃ a d, cs[i * 2]? = some a ∧ cs[i * 2 + 1]? = some d ∧ WZ h z (.agg [a, d])
theorem RW.keep {s s' : St} {zs : List Int} {cs : List AV} {c0 : Nat} (h : RW s.h zs cs) (hF : Lt c0 s) (hk : Kept c0 s s') : RW s'.h zs cs := ⟨h.1, fun i z hi => by
  obtain ⟨a, d, h1, h2, h3⟩ := h.2 i z hi
  exact ⟨a, d, h1, h2, h3.keep hF hk⟩⟩
theorem RW.append {h : T Blk} {zs : List Int} {cs : List AV} (hr : RW h zs cs) {z : Int} {a d : AV} (hz : WZ h z (.agg [a, d])) : RW h (zs ++ [z]) (cs ++ [a, d]) := by
  refine ⟨by simp [hr.1, Nat.add_mul], fun i y hi => ?_⟩
  rcases Nat.lt_or_ge i zs.length with hlt | hge
  · rw [List.getElem?_append_left hlt] at hi
    obtain ⟨a', d', h1, h2, h3⟩ := hr.2 i y hi
    exact ⟨a', d', by rw [List.getElem?_append_left (by rw [hr.1]; omega)]; exact h1, by rw [List.getElem?_append_left (by rw [hr.1]; omega)]; exact h2, h3⟩
  · have hi' : i = zs.length := by
      have := (List.getElem?_eq_some_iff.1 hi).1
      simp at this
      omega
    subst hi'
    simp at hi
    subst hi
    exact ⟨a, d, by rw [List.getElem?_append_right (by rw [hr.1]; omega), hr.1]; simp, by rw [List.getElem?_append_right (by rw [hr.1]; omega), hr.1]; simp [show zs.length * 2 + 1 - zs.length * 2 = 1 by omega], hz⟩
theorem putL_set {cs : List AV} {j : Nat} {v : AV} (h : j < cs.length) : putL cs j [v] = cs.set j v := by
  rw [putL, List.set_eq_take_append_cons_drop, if_pos h]
  rfl
theorem ints_set (xs : List Nat) (j n : Nat) : (ints xs).set j (.int .i64 (Int.ofNat n)) = ints (xs.set j n) := by simp [ints, List.map_set]
theorem nats_set (xs : List Nat) (j n : Nat) : (nats xs).set j (.int .u32 (Int.ofNat n)) = nats (xs.set j n) := by simp [nats, List.map_set]
theorem reps_one (n : Nat) (v : AV) : reps n [v] = List.replicate n v := by
  induction n with
  | zero => rfl
  | succ n ih => rw [reps, ih]; rfl
theorem reps_ints (n : Nat) : reps n [.int .i64 0] = ints (List.replicate n 0) := by rw [reps_one, ints, List.map_replicate]; rfl
theorem reps_nats (n : Nat) : reps n [.int .u32 0] = nats (List.replicate n 0) := by rw [reps_one, nats, List.map_replicate]; rfl
theorem lim_lo {lo lc c : Nat} (h : lc = lo ∨ lc = c) (hlo : lo ≤ c) : lc ≤ c := by omega
theorem row_own {h : T Blk} {b ty : Nat} {cs : List AV} (hg : h.get b = some ⟨ty, cs⟩) (n : Nat) (hn : cs.length = n) : Row h 1 cs (.slice (some (b, 0)) n n 0) := by
  refine ⟨by omega, Nat.le_refl _, .inl rfl, fun _ => ?_⟩
  unfold cellsAt
  rw [hg, Option.bind_some]
  simp only [Nat.zero_add, List.drop_zero, Nat.mul_one]
  rw [ble_iff.2 (by omega), cond_true, List.take_of_length_le (by omega)]
theorem fresh_set {s : St} (hF : Fresh s) {b : Nat} {k : Blk} (hb : b < s.c) : Fresh ⟨s.h.set b k, s.c⟩ := fun b' hb' => by
  simp only at hb' ⊢
  rw [T.get_set, if_neg (by omega)]
  exact hF b' hb'
theorem kept_set {c0 : Nat} {s s1 : St} (hk : Kept c0 s s1) {b : Nat} {k : Blk} (hb : c0 ≤ b) : Kept c0 s ⟨s1.h.set b k, s1.c⟩ := ⟨hk.mono, fun b' hb' => by
  simp only
  rw [T.get_set, if_neg (by omega)]
  exact hk.keep b' hb'⟩
theorem fresh_new {s : St} (hF : Fresh s) (k : Blk) : Fresh ⟨s.h.set s.c k, s.c + 1⟩ := fun b' hb' => by
  simp only at hb' ⊢
  rw [T.get_set, if_neg (by omega)]
  exact hF b' (by omega)
theorem kept_new {c0 : Nat} {s s1 : St} (hk : Kept c0 s s1) (hc : c0 ≤ s1.c) (k : Blk) : Kept c0 s ⟨s1.h.set s1.c k, s1.c + 1⟩ := ⟨Nat.le_succ_of_le hk.mono, fun b' hb' => by
  simp only
  rw [T.get_set, if_neg (by omega)]
  exact hk.keep b' hb'⟩
theorem take_two {l : List AV} {p : Nat} {a d : AV} (h1 : l[p]? = some a) (h2 : l[p + 1]? = some d) : (l.drop p).take 2 = [a, d] := by
  obtain ⟨g1, rfl⟩ := List.getElem?_eq_some_iff.1 h1
  obtain ⟨g2, rfl⟩ := List.getElem?_eq_some_iff.1 h2
  rw [List.drop_eq_getElem_cons g1, List.drop_eq_getElem_cons g2]
  rfl
/-- An element of a row of whole numbers: where it stands. -/
theorem RW.at {h : T Blk} {zs : List Int} {cs : List AV} {v : AV} (hr : Row h 2 cs v) (hw : RW h zs cs) {i : Nat} (hi : i < zs.length) : ∃ b o n c q k a d, v = .slice (some (b, o)) n c q ∧ Nat.blt i n = true ∧ h.get b = some k ∧ cellsAt h b (o + i * 2) 2 = some [a, d] ∧ WZ h (zs.getD i 0) (.agg [a, d]) ∧ cs[i * 2]? = some a ∧ cs[i * 2 + 1]? = some d ∧ o + i * 2 + 2 ≤ k.cells.length := by
  obtain ⟨a, d, h1, h2, h3⟩ := hw.2 i (zs.getD i 0) (by simp [List.getD_eq_getElem?_getD, List.getElem?_eq_getElem hi])
  obtain ⟨b, o, n, c, q, rfl, g1, g0, k, g2, g3, g4⟩ := hr.shape (i := i) (by rw [hw.1]; omega) (by omega)
  have e1 := g4 0 (by omega)
  have e2 := g4 1 (by omega)
  simp only [Nat.add_zero] at e1
  rw [h1] at e1
  rw [h2] at e2
  have hlen : (i + 1) * 2 ≤ n * 2 := Nat.mul_le_mul_right _ g1
  refine ⟨b, o, n, c, q, k, a, d, rfl, blt_iff.2 g1, g2, ?_, h3, h1, h2, by omega⟩
  unfold cellsAt
  rw [g2, Option.bind_some, ble_iff.2 (by omega), cond_true, take_two e1 e2]
end Go.Proofs.YtaocoplfdhcoaaaGreatDoor.EvA
set_option linter.unusedVariables false
set_option linter.unusedSimpArgs false
namespace Go.Proofs.YtaocoplfdhcoaaaGreatDoor.EvA
open Go Go.RowKit Go.Proofs.YtaocoplfdhcoaaaGreatDoor.Ev
structure Laid (N0 : Nat) (W : World) (μ : Nat → Ev.Loc) (s : St) : Prop where
  sim : Sim s.c N0 (fun b => b < s.c) μ s.h W
  fresh : Fresh s
section
variable {N0 : Nat} {W : World} {μ : Nat → Ev.Loc} {s : St}
theorem laid_nil (h : N0 ≤ W.heap.size) : Laid N0 W (fun _ => ⟨0, 0, 0, none⟩) ⟨.e, 0⟩ :=
  ⟨⟨h, fun b k hk => (by rw [T.get_e] at hk; cases hk), fun b b' _ h1 _ _ => (by rw [T.get_e] at h1; cases h1)⟩, fun b _ => rfl⟩
theorem agree_upd (s : St) (μ : Nat → Ev.Loc) (l : Ev.Loc) : Agree (fun b => b < s.c) μ (upd μ s.c l) := upd_agree (by omega)
theorem lay_new (h : Laid N0 W μ s) (l : Ev.Loc) {cells : List AV} {ty : Nat} {arr : Array Value} {fr : Nat × Nat} (hw : wfs (fun b => b < s.c) μ cells) (h1 : W.heap[l.blk]? = some (.cells arr ty fr)) (h2 : l.base + l.ext ≤ arr.size) (h3 : cells.length ≤ l.ext)
    (h4 : ∀ i v, cells[i]? = some v → arr[l.base + i]? = some (conc μ v)) :
    Laid N0 W (upd μ s.c l) ⟨s.h.set s.c ⟨ty, cells⟩, s.c + 1⟩ := by
  have hag := agree_upd s μ l
  have hS : ∀ b, b < s.c → b < s.c + 1 := fun b hb => by omega
  have hc : upd μ s.c l s.c = l := by unfold upd; rw [if_pos rfl]
  refine ⟨⟨h.sim.size, fun b k hk => ?_, fun b b' hb h1 _ _ => ?_⟩, fresh_new h.fresh _⟩
  · simp only [T.get_set] at hk
    by_cases e : s.c = b
    · subst e
      rw [if_pos rfl] at hk
      cases hk
      refine ⟨by simp, wfs_agree hag hS _ hw, by rw [hc]; exact h3, ?_⟩
      rw [hc]
      exact ⟨arr, fr, h1, h2, fun i v hv => by rw [conc_agree hag v (wfs_get hw hv)]; exact h4 i v hv, fun hb => by simp only at hb; omega⟩
    · rw [if_neg e] at hk
      obtain ⟨q1, q2, q3, arr', fr', q4, q5, q6, q7⟩ := h.sim.blk b k hk
      have hu : upd μ s.c l b = μ b := hag b q1
      refine ⟨by simp only at q1 ⊢; omega, wfs_agree hag hS _ q2, by rw [hu]; exact q3, ?_⟩
      rw [hu]
      exact ⟨arr', fr', q4, q5, fun i v hv => by rw [conc_agree hag v (wfs_get q2 hv)]; exact q6 i v hv, fun hb => by simp only at q1 hb; omega⟩
  · simp only at hb h1
    rw [T.get_set] at h1
    split at h1
    · omega
    · rw [h.fresh b (by omega)] at h1; cases h1
theorem lay_skip (h : Laid N0 W μ s) (l : Ev.Loc) : Laid N0 W (upd μ s.c l) ⟨s.h, s.c + 1⟩ := by
  have hag := agree_upd s μ l
  have hS : ∀ b, b < s.c → b < s.c + 1 := fun b hb => by omega
  refine ⟨⟨h.sim.size, fun b k hk => ?_, fun b b' hb h1 _ _ => ?_⟩, fun b hb => h.fresh b (by simp only at hb; omega)⟩
  · obtain ⟨q1, q2, q3, arr', fr', q4, q5, q6, q7⟩ := h.sim.blk b k hk
    have hu : upd μ s.c l b = μ b := hag b q1
    refine ⟨by simp only at q1 ⊢; omega, wfs_agree hag hS _ q2, by rw [hu]; exact q3, ?_⟩
    rw [hu]
    exact ⟨arr', fr', q4, q5, fun i v hv => by rw [conc_agree hag v (wfs_get q2 hv)]; exact q6 i v hv, fun hb => by simp only at q1 hb; omega⟩
  · simp only at hb h1
    rw [h.fresh b (by omega)] at h1; cases h1
/-- Whatever is read as data of type t is laid into the heap, so that R holds. -/
def Opn (N0 : Nat) (W : World) (t : TypeId) {α : Type} (R : T Blk → α → List AV → Prop) : Prop :=
  ∀ (H : Type) (enc : TypeId × Value → H) (held : Bool) (fuel : Nat) (cs : List Value) (x : DataW H × List MemPlace) (μ : Nat → Ev.Loc) (s : St), DataW.trod enc Tryz.prog W 0 (fun _ => true) held fuel t cs = some x → Laid N0 W μ s →
    ∃ s' μ' vs a, Laid N0 W μ' s' ∧ Kept s.c s s' ∧ Agree (fun b => b < s.c) μ μ' ∧ wfs (fun b => b < s'.c) μ' vs ∧ concs μ' vs = cs ∧ R s'.h a vs
/-- R stays where more is laid. -/
def Stays {α : Type} (R : T Blk → α → List AV → Prop) : Prop := ∀ (s s' : St) (a : α) (vs : List AV), R s.h a vs → Fresh s → Kept s.c s s' → R s'.h a vs
theorem agree_trans {c c1 : Nat} {μ μ1 μ2 : Nat → Ev.Loc} (h1 : Agree (fun b => b < c) μ μ1) (h2 : Agree (fun b => b < c1) μ1 μ2) (hc : c ≤ c1) : Agree (fun b => b < c) μ μ2 := fun b hb => (h2 b (Nat.lt_of_lt_of_le hb hc)).trans (h1 b hb)
theorem opn_int {t : TypeId} {k : IntKind} (ht : Tryz.prog.underlying t = some (.int k)) : Opn N0 W t (fun _ (z : Int) vs => vs = [.int k z] ∧ (Lit.int k z).wf = true) := by
  intro H enc held fuel cs x μ s hx hL
  obtain ⟨n, rfl, _, hw⟩ := DataW.trod_int ht hx
  exact ⟨s, μ, [.int k n], n, hL, Kept.refl _ _, Agree.refl _ _, ⟨trivial, trivial⟩, rfl, rfl, hw⟩
theorem opn_str {t : TypeId} (ht : Tryz.prog.underlying t = some .string) : Opn N0 W t (fun _ (l : List UInt8) vs => vs = [.str l] ∧ l.length ≤ 9223372036854775807) := by
  intro H enc held fuel cs x μ s hx hL
  obtain ⟨b, rfl, _, hw⟩ := DataW.trod_string ht hx
  refine ⟨s, μ, [.str b.data.toList], b.data.toList, hL, Kept.refl _ _, Agree.refl _ _, ⟨trivial, trivial⟩, ?_, rfl, ?_⟩
  · simp [concs, conc]
  · have : b.size = b.data.size := rfl
    simp only [maxLen] at hw
    simp
    omega
/-- The elements of a row, one after the other. -/
theorem lay_many {e : TypeId} {z : Nat} (hz : Tryz.prog.cellsOf e = z) {α : Type} {R : T Blk → α → List AV → Prop} (hO : Opn N0 W e R) (hS : Stays R) {H : Type} (enc : TypeId × Value → H) (held : Bool) (fuel : Nat) (a : Addr) : ∀ (n : Nat),
    (∀ i, i < n → ∃ cs', W.cells? 0 (a.add (i * z)) z = some cs' ∧ ∃ x, DataW.trod enc Tryz.prog W 0 (fun _ => true) held fuel e cs' = some x) → Laid N0 W μ s →
    ∃ (s' : St) (μ' : Nat → Ev.Loc) (vs : List AV) (xs : List α), Laid N0 W μ' s' ∧ Kept s.c s s' ∧ Agree (fun b => b < s.c) μ μ' ∧ wfs (fun b => b < s'.c) μ' vs ∧ vs.length = n * z ∧ xs.length = n ∧ (∀ j v, vs[j]? = some v → W.cell? (a.add j) = some (conc μ' v)) ∧ ∀ i y, xs[i]? = some y → R s'.h y ((vs.drop (i * z)).take z)
  | 0, _, hL => ⟨s, μ, [], [], hL, Kept.refl _ _, Agree.refl _ _, trivial, by simp, rfl, fun j v h => by simp at h, fun i y h => by simp at h⟩
  | n + 1, h, hL => by
    obtain ⟨s1, μ1, vs, xs, L1, K1, A1, w1, l1, l2, c1, r1⟩ := lay_many hz hO hS enc held fuel a n (fun i hi => h i (by omega)) hL
    obtain ⟨cs', hc, x, hx⟩ := h n (by omega)
    obtain ⟨_, hlen, hcell⟩ := World.cells?_some hc
    obtain ⟨s2, μ2, us, y, L2, K2, A2, w2, e2, r2⟩ := hO H enc held fuel cs' x μ1 s1 hx L1
    have hus : us.length = z := by rw [← hlen, ← e2, concs_length]
    have m1 := K1.mono
    refine ⟨s2, μ2, vs ++ us, xs ++ [y], L2, K1.trans (K2.le m1), agree_trans A1 A2 m1, ?_, by rw [List.length_append, l1, hus, Nat.add_mul]; omega, by simp [l2], fun j v hj => ?_, fun i y' hi => ?_⟩
    · rw [wfs_iff]
      intro v hv
      rcases List.mem_append.1 hv with hv | hv
      · exact (wfs_iff _ _ _).1 (wfs_agree A2 (S' := fun b => b < s2.c) (fun b hb => Nat.lt_of_lt_of_le hb K2.mono) _ w1) v hv
      · exact (wfs_iff _ _ _).1 w2 v hv
    · rcases Nat.lt_or_ge j vs.length with hlt | hge
      · rw [List.getElem?_append_left hlt] at hj
        rw [conc_agree A2 v ((wfs_iff _ _ _).1 w1 v (List.mem_of_getElem? hj))]
        exact c1 j v hj
      · rw [List.getElem?_append_right hge] at hj
        have hjz := (List.getElem?_eq_some_iff.1 hj).1
        have h3 := hcell (j - vs.length) (by omega)
        rw [Go.Deep.add_add] at h3
        rw [show a.add j = a.add (n * z + (j - vs.length)) by rw [show n * z + (j - vs.length) = j by omega], h3, ← e2, concs_get, hj]
        rfl
    · rcases Nat.lt_or_ge i xs.length with hlt | hge
      · rw [List.getElem?_append_left hlt] at hi
        have h3 := hS s1 s2 _ _ (r1 i y' hi) L1.fresh K2
        have h4 : (i + 1) * z ≤ vs.length := by rw [l1]; exact Nat.mul_le_mul_right _ (by omega)
        rw [Nat.add_mul] at h4
        rw [List.drop_append_of_le_length (by omega), List.take_append_of_le_length (by rw [List.length_drop]; omega)]
        exact h3
      · have hi' : i = xs.length := by
          have := (List.getElem?_eq_some_iff.1 hi).1
          simp at this
          omega
        subst hi'
        simp at hi
        subst hi
        rw [l2, ← l1, List.drop_left, List.take_of_length_le (by omega)]
        exact r2
/-- The elements of a slice of things of z cells. -/
def SL (z : Nat) {α : Type} (R : T Blk → α → List AV → Prop) (h : T Blk) (xs : List α) (vs : List AV) : Prop :=
  ∃ v cs, vs = [v] ∧ Row h z cs v ∧ cs.length = xs.length * z ∧ ∀ i y, xs[i]? = some y → R h y ((cs.drop (i * z)).take z)
theorem stays_slice {z : Nat} {α : Type} {R : T Blk → α → List AV → Prop} (hS : Stays R) : Stays (SL z R) := by
  rintro s s' xs vs ⟨v, cs, rfl, h1, h2, h3⟩ hF hK
  exact ⟨v, cs, rfl, h1.keep hF.lt hK, h2, fun i y hi => hS s s' _ _ (h3 i y hi) hF hK⟩
theorem opn_slice {t e : TypeId} {z : Nat} (ht : Tryz.prog.underlying t = some (.slice e)) (hz : Tryz.prog.cellsOf e = z) (hz0 : 0 < z) {α : Type} {R : T Blk → α → List AV → Prop} (hO : Opn N0 W e R) (hS : Stays R) : Opn N0 W t (SL z R) := by
  intro H enc held fuel cs x μ s hx hL
  rcases Go.Deep.open_slice ht hx with ⟨rfl, _⟩ | ⟨a, len, cap, m, n, D, Pl, rfl, hb, hl, hm, hmm, _, hel⟩
  · exact ⟨s, μ, [.slice none 0 0 0], [], hL, Kept.refl _ _, Agree.refl _ _, ⟨trivial, trivial⟩, rfl, .slice none 0 0 0, [], rfl, ⟨rfl, rfl, rfl⟩, by simp, fun i y hi => by simp at hi⟩
  · simp only [if_true] at hmm
    subst hmm
    rw [hz] at hel
    cases m with
    | zero =>
      have hl0 : len = 0 := by omega
      subst hl0
      refine ⟨⟨s.h, s.c + 1⟩, upd μ s.c ⟨a.block, a.off, 0, a.spot⟩, [.void s.c 0 0 0], [], lay_skip hL _, ⟨Nat.le_succ _, fun _ _ => rfl⟩, agree_upd s μ _, ⟨⟨by simp, by simp⟩, trivial⟩, ?_, .void s.c 0 0 0, [], rfl, rfl, by simp, fun i y hi => by simp at hi⟩
      simp [concs, conc, upd, voidAt]
    | succ m =>
      obtain ⟨s1, μ1, vs, xs, L1, K1, A1, w1, l1, l2, c1, r1⟩ := lay_many hz hO hS enc held n a len (fun i hi => by
        obtain ⟨cs', h1, h2⟩ := hel i (by omega)
        exact ⟨cs', h1, _, h2⟩) hL
      obtain ⟨cs0, h0, _⟩ := hel 0 (by omega)
      obtain ⟨_, hlen0, hcell0⟩ := World.cells?_some h0
      have hc0 := hcell0 0 hz0
      rw [Nat.zero_mul, show (a.add 0).add 0 = a from rfl, List.getElem?_eq_getElem (by omega)] at hc0
      have harr : ∃ arr ty fr, W.heap[a.block]? = some (.cells arr ty fr) ∧ a.spot = none ∧ a.off < arr.size := by
        unfold World.cell? at hc0
        split at hc0
        · rename_i arr ty fr hh
          cases hsp : a.spot with
          | some q => rw [hsp] at hc0; simp at hc0
          | none =>
            rw [hsp] at hc0
            simp at hc0
            exact ⟨arr, ty, fr, hh, rfl, by
              have := hc0
              rw [Array.getElem?_eq_some_iff] at this
              exact this.1⟩
        · cases hc0
      obtain ⟨arr, ty, fr, hh, hsp, hoff⟩ := harr
      have harr : ∀ j v, vs[j]? = some v → arr[a.off + j]? = some (conc μ1 v) := fun j v hj => by
        have h5 := c1 j v hj
        have e1 : W.cell? (a.add j) = arr[a.off + j]? := by
          unfold Addr.add World.cell?
          by_cases hj0 : j = 0
          · subst hj0
            simp [hh, hsp]
          · simp [hj0, hh]
        rw [← e1]; exact h5
      have m1 := K1.mono
      refine ⟨⟨s1.h.set s1.c ⟨ty, vs⟩, s1.c + 1⟩, upd μ1 s1.c ⟨a.block, a.off, len * z, none⟩, [.slice (some (s1.c, 0)) len (m + 1) 0], xs, lay_new L1 _ w1 hh ?_ (by simp only; omega) harr, kept_new K1 m1 _, agree_trans A1 (agree_upd s1 μ1 _) m1, ⟨by simp [wf], trivial⟩, ?_, _, vs, rfl, ⟨l1, hl, .inl rfl, fun hn => ?_⟩, by rw [l1, l2], fun i y hi => hS s1 _ _ _ (r1 i y hi) L1.fresh (kept_new (Kept.refl _ _) (Nat.le_refl _) _)⟩
      · simp only
        rcases Nat.eq_zero_or_pos (len * z) with h0 | h0
        · rw [h0]; omega
        · have h6 := harr (len * z - 1) _ (List.getElem?_eq_getElem (by omega))
          have := (Array.getElem?_eq_some_iff.1 h6).1
          omega
      · simp only [concs, conc, upd, if_true, Nat.add_zero, hsp]
        rw [← hsp]
      · unfold cellsAt
        simp only [T.get_set, if_true, Option.bind_some, Nat.zero_add, List.drop_zero]
        rw [ble_iff.2 (by omega), cond_true, List.take_of_length_le (by omega)]
end
end Go.Proofs.YtaocoplfdhcoaaaGreatDoor.EvA

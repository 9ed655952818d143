/- A law's arguments, laid into the evaluator's heap. -/
import Derived.Test.YtaocoplfdhcoaaaGreatDoorEvB4
import Derived.Deep.Slices
import Derived.ChangeArms
set_option linter.unusedVariables false
set_option linter.unusedSimpArgs false
namespace Go.Proofs.YtaocoplfdhcoaaaGreatDoor.EvA
open Go Go.RowKit Go.Proofs.YtaocoplfdhcoaaaGreatDoor.Ev
structure Laid (N0 : Nat) (W : World) (μ : Nat → Ev.Loc) (s : St) : Prop where
  sim : Sim s.c N0 (fun b => b < s.c) μ s.h W
  fresh : Fresh s
section
variable {N0 : Nat} {W : World} {μ : Nat → Ev.Loc} {s : St}
theorem laid_nil (h : N0 ≤ W.heap.size) : Laid N0 W (fun _ => ⟨0, 0, 0, none⟩) ⟨.e, 0⟩ :=
  ⟨⟨h, fun b k hk => (by rw [T.get_e] at hk; cases hk), fun b b' _ h1 _ _ => (by rw [T.get_e] at h1; cases h1)⟩, fun b _ => rfl⟩
theorem agree_upd (s : St) (μ : Nat → Ev.Loc) (l : Ev.Loc) : Agree (fun b => b < s.c) μ (upd μ s.c l) := upd_agree (by omega)
theorem lay_new (h : Laid N0 W μ s) (l : Ev.Loc) {cells : List AV} {ty : Nat} {arr : Array Value} {fr : Nat × Nat} (hw : wfs (fun b => b < s.c) μ cells) (h1 : W.heap[l.blk]? = some (.cells arr ty fr)) (h2 : l.base + l.ext ≤ arr.size) (h3 : cells.length ≤ l.ext)
    (h4 : ∀ i v, cells[i]? = some v → arr[l.base + i]? = some (conc μ v)) :
    Laid N0 W (upd μ s.c l) ⟨s.h.set s.c ⟨ty, cells⟩, s.c + 1⟩ := by
  have hag := agree_upd s μ l
  have hS : ∀ b, b < s.c → b < s.c + 1 := fun b hb => by omega
  have hc : upd μ s.c l s.c = l := by unfold upd; rw [if_pos rfl]
  refine ⟨⟨h.sim.size, fun b k hk => ?_, fun b b' hb h1 _ _ => ?_⟩, fresh_new h.fresh _⟩
  · simp only [T.get_set] at hk
    by_cases e : s.c = b
    · subst e
      rw [if_pos rfl] at hk
      cases hk
      refine ⟨by simp, wfs_agree hag hS _ hw, by rw [hc]; exact h3, ?_⟩
      rw [hc]
      exact ⟨arr, fr, h1, h2, fun i v hv => by rw [conc_agree hag v (wfs_get hw hv)]; exact h4 i v hv, fun hb => by simp only at hb; omega⟩
    · rw [if_neg e] at hk
      obtain ⟨q1, q2, q3, arr', fr', q4, q5, q6, q7⟩ := h.sim.blk b k hk
      have hu : upd μ s.c l b = μ b := hag b q1
      refine ⟨by simp only at q1 ⊢; omega, wfs_agree hag hS _ q2, by rw [hu]; exact q3, ?_⟩
      rw [hu]
      exact ⟨arr', fr', q4, q5, fun i v hv => by rw [conc_agree hag v (wfs_get q2 hv)]; exact q6 i v hv, fun hb => by simp only at q1 hb; omega⟩
  · simp only at hb h1
    rw [T.get_set] at h1
    split at h1
    · omega
    · rw [h.fresh b (by omega)] at h1; cases h1
theorem lay_skip (h : Laid N0 W μ s) (l : Ev.Loc) : Laid N0 W (upd μ s.c l) ⟨s.h, s.c + 1⟩ := by
  have hag := agree_upd s μ l
  have hS : ∀ b, b < s.c → b < s.c + 1 := fun b hb => by omega
  refine ⟨⟨h.sim.size, fun b k hk => ?_, fun b b' hb h1 _ _ => ?_⟩, fun b hb => h.fresh b (by simp only at hb; omega)⟩
  · obtain ⟨q1, q2, q3, arr', fr', q4, q5, q6, q7⟩ := h.sim.blk b k hk
    have hu : upd μ s.c l b = μ b := hag b q1
    refine ⟨by simp only at q1 ⊢; omega, wfs_agree hag hS _ q2, by rw [hu]; exact q3, ?_⟩
    rw [hu]
    exact ⟨arr', fr', q4, q5, fun i v hv => by rw [conc_agree hag v (wfs_get q2 hv)]; exact q6 i v hv, fun hb => by simp only at q1 hb; omega⟩
  · simp only at hb h1
    rw [h.fresh b (by omega)] at h1; cases h1
/-- Whatever is read as data of type t is laid into the heap, so that R holds. -/
def Opn (N0 : Nat) (W : World) (t : TypeId) {α : Type} (R : T Blk → α → List AV → Prop) : Prop :=
  ∀ (H : Type) (enc : TypeId × Value → H) (held : Bool) (fuel : Nat) (cs : List Value) (x : DataW H × List MemPlace) (μ : Nat → Ev.Loc) (s : St), DataW.trod enc Tryz.prog W 0 (fun _ => true) held fuel t cs = some x → Laid N0 W μ s →
    ∃ s' μ' vs a, Laid N0 W μ' s' ∧ Kept s.c s s' ∧ Agree (fun b => b < s.c) μ μ' ∧ wfs (fun b => b < s'.c) μ' vs ∧ concs μ' vs = cs ∧ R s'.h a vs
/-- R stays where more is laid. -/
def Stays {α : Type} (R : T Blk → α → List AV → Prop) : Prop := ∀ (s s' : St) (a : α) (vs : List AV), R s.h a vs → Fresh s → Kept s.c s s' → R s'.h a vs
theorem agree_trans {c c1 : Nat} {μ μ1 μ2 : Nat → Ev.Loc} (h1 : Agree (fun b => b < c) μ μ1) (h2 : Agree (fun b => b < c1) μ1 μ2) (hc : c ≤ c1) : Agree (fun b => b < c) μ μ2 := fun b hb => (h2 b (Nat.lt_of_lt_of_le hb hc)).trans (h1 b hb)
theorem opn_int {t : TypeId} {k : IntKind} (ht : Tryz.prog.underlying t = some (.int k)) : Opn N0 W t (fun _ (z : Int) vs => vs = [.int k z] ∧ (Lit.int k z).wf = true) := by
  intro H enc held fuel cs x μ s hx hL
  obtain ⟨n, rfl, _, hw⟩ := DataW.trod_int ht hx
  exact ⟨s, μ, [.int k n], n, hL, Kept.refl _ _, Agree.refl _ _, ⟨trivial, trivial⟩, rfl, rfl, hw⟩
theorem opn_str {t : TypeId} (ht : Tryz.prog.underlying t = some .string) : Opn N0 W t (fun _ (l : List UInt8) vs => vs = [.str l] ∧ l.length ≤ 9223372036854775807) := by
  intro H enc held fuel cs x μ s hx hL
  obtain ⟨b, rfl, _, hw⟩ := DataW.trod_string ht hx
  refine ⟨s, μ, [.str b.data.toList], b.data.toList, hL, Kept.refl _ _, Agree.refl _ _, ⟨trivial, trivial⟩, ?_, rfl, ?_⟩
  · simp [concs, conc]
  · have : b.size = b.data.size := rfl
    simp only [maxLen] at hw
    simp
    omega
/-- The elements of a row, one after the other. -/
theorem lay_many {e : TypeId} {z : Nat} (hz : Tryz.prog.cellsOf e = z) {α : Type} {R : T Blk → α → List AV → Prop} (hO : Opn N0 W e R) (hS : Stays R) {H : Type} (enc : TypeId × Value → H) (held : Bool) (fuel : Nat) (a : Addr) : ∀ (n : Nat),
    (∀ i, i < n → ∃ cs', W.cells? 0 (a.add (i * z)) z = some cs' ∧ ∃ x, DataW.trod enc Tryz.prog W 0 (fun _ => true) held fuel e cs' = some x) → Laid N0 W μ s →
    ∃ (s' : St) (μ' : Nat → Ev.Loc) (vs : List AV) (xs : List α), Laid N0 W μ' s' ∧ Kept s.c s s' ∧ Agree (fun b => b < s.c) μ μ' ∧ wfs (fun b => b < s'.c) μ' vs ∧ vs.length = n * z ∧ xs.length = n ∧ (∀ j v, vs[j]? = some v → W.cell? (a.add j) = some (conc μ' v)) ∧ ∀ i y, xs[i]? = some y → R s'.h y ((vs.drop (i * z)).take z)
  | 0, _, hL => ⟨s, μ, [], [], hL, Kept.refl _ _, Agree.refl _ _, trivial, by simp, rfl, fun j v h => by simp at h, fun i y h => by simp at h⟩
  | n + 1, h, hL => by
    obtain ⟨s1, μ1, vs, xs, L1, K1, A1, w1, l1, l2, c1, r1⟩ := lay_many hz hO hS enc held fuel a n (fun i hi => h i (by omega)) hL
    obtain ⟨cs', hc, x, hx⟩ := h n (by omega)
    obtain ⟨_, hlen, hcell⟩ := World.cells?_some hc
    obtain ⟨s2, μ2, us, y, L2, K2, A2, w2, e2, r2⟩ := hO H enc held fuel cs' x μ1 s1 hx L1
    have hus : us.length = z := by rw [← hlen, ← e2, concs_length]
    have m1 := K1.mono
    refine ⟨s2, μ2, vs ++ us, xs ++ [y], L2, K1.trans (K2.le m1), agree_trans A1 A2 m1, ?_, by rw [List.length_append, l1, hus, Nat.add_mul]; omega, by simp [l2], fun j v hj => ?_, fun i y' hi => ?_⟩
    · rw [wfs_iff]
      intro v hv
      rcases List.mem_append.1 hv with hv | hv
      · exact (wfs_iff _ _ _).1 (wfs_agree A2 (S' := fun b => b < s2.c) (fun b hb => Nat.lt_of_lt_of_le hb K2.mono) _ w1) v hv
      · exact (wfs_iff _ _ _).1 w2 v hv
    · rcases Nat.lt_or_ge j vs.length with hlt | hge
      · rw [List.getElem?_append_left hlt] at hj
        rw [conc_agree A2 v ((wfs_iff _ _ _).1 w1 v (List.mem_of_getElem? hj))]
        exact c1 j v hj
      · rw [List.getElem?_append_right hge] at hj
        have hjz := (List.getElem?_eq_some_iff.1 hj).1
        have h3 := hcell (j - vs.length) (by omega)
        rw [Go.Deep.add_add] at h3
        rw [show a.add j = a.add (n * z + (j - vs.length)) by rw [show n * z + (j - vs.length) = j by omega], h3, ← e2, concs_get, hj]
        rfl
    · rcases Nat.lt_or_ge i xs.length with hlt | hge
      · rw [List.getElem?_append_left hlt] at hi
        have h3 := hS s1 s2 _ _ (r1 i y' hi) L1.fresh K2
        have h4 : (i + 1) * z ≤ vs.length := by rw [l1]; exact Nat.mul_le_mul_right _ (by omega)
        rw [Nat.add_mul] at h4
        rw [List.drop_append_of_le_length (by omega), List.take_append_of_le_length (by rw [List.length_drop]; omega)]
        exact h3
      · have hi' : i = xs.length := by
          have := (List.getElem?_eq_some_iff.1 hi).1
          simp at this
          omega
        subst hi'
        simp at hi
        subst hi
        rw [l2, ← l1, List.drop_left, List.take_of_length_le (by omega)]
        exact r2
/-- The elements of a slice of things of z cells. -/
def SL (z : Nat) {α : Type} (R : T Blk → α → List AV → Prop) (h : T Blk) (xs : List α) (vs : List AV) : Prop :=
  ∃ v cs, vs = [v] ∧ Row h z cs v ∧ cs.length = xs.length * z ∧ ∀ i y, xs[i]? = some y → R h y ((cs.drop (i * z)).take z)
theorem stays_slice {z : Nat} {α : Type} {R : T Blk → α → List AV → Prop} (hS : Stays R) : Stays (SL z R) := by
  rintro s s' xs vs ⟨v, cs, rfl, h1, h2, h3⟩ hF hK
  exact ⟨v, cs, rfl, h1.keep hF.lt hK, h2, fun i y hi => hS s s' _ _ (h3 i y hi) hF hK⟩
theorem opn_slice {t e : TypeId} {z : Nat} (ht : Tryz.prog.underlying t = some (.slice e)) (hz : Tryz.prog.cellsOf e = z) (hz0 : 0 < z) {α : Type} {R : T Blk → α → List AV → Prop} (hO : Opn N0 W e R) (hS : Stays R) : Opn N0 W t (SL z R) := by
  intro H enc held fuel cs x μ s hx hL
  rcases Go.Deep.open_slice ht hx with ⟨rfl, _⟩ | ⟨a, len, cap, m, n, D, Pl, rfl, hb, hl, hm, hmm, _, hel⟩
  · exact ⟨s, μ, [.slice none 0 0 0], [], hL, Kept.refl _ _, Agree.refl _ _, ⟨trivial, trivial⟩, rfl, .slice none 0 0 0, [], rfl, ⟨rfl, rfl, rfl⟩, by simp, fun i y hi => by simp at hi⟩
  · simp only [if_true] at hmm
    subst hmm
    rw [hz] at hel
    cases m with
    | zero =>
      have hl0 : len = 0 := by omega
      subst hl0
      refine ⟨⟨s.h, s.c + 1⟩, upd μ s.c ⟨a.block, a.off, 0, a.spot⟩, [.void s.c 0 0 0], [], lay_skip hL _, ⟨Nat.le_succ _, fun _ _ => rfl⟩, agree_upd s μ _, ⟨⟨by simp, by simp⟩, trivial⟩, ?_, .void s.c 0 0 0, [], rfl, rfl, by simp, fun i y hi => by simp at hi⟩
      simp [concs, conc, upd, voidAt]
    | succ m =>
      obtain ⟨s1, μ1, vs, xs, L1, K1, A1, w1, l1, l2, c1, r1⟩ := lay_many hz hO hS enc held n a len (fun i hi => by
        obtain ⟨cs', h1, h2⟩ := hel i (by omega)
        exact ⟨cs', h1, _, h2⟩) hL
      obtain ⟨cs0, h0, _⟩ := hel 0 (by omega)
      obtain ⟨_, hlen0, hcell0⟩ := World.cells?_some h0
      have hc0 := hcell0 0 hz0
      rw [Nat.zero_mul, show (a.add 0).add 0 = a from rfl, List.getElem?_eq_getElem (by omega)] at hc0
      have harr : ∃ arr ty fr, W.heap[a.block]? = some (.cells arr ty fr) ∧ a.spot = none ∧ a.off < arr.size := by
        unfold World.cell? at hc0
        split at hc0
        · rename_i arr ty fr hh
          cases hsp : a.spot with
          | some q => rw [hsp] at hc0; simp at hc0
          | none =>
            rw [hsp] at hc0
            simp at hc0
            exact ⟨arr, ty, fr, hh, rfl, by
              have := hc0
              rw [Array.getElem?_eq_some_iff] at this
              exact this.1⟩
        · cases hc0
      obtain ⟨arr, ty, fr, hh, hsp, hoff⟩ := harr
      have harr : ∀ j v, vs[j]? = some v → arr[a.off + j]? = some (conc μ1 v) := fun j v hj => by
        have h5 := c1 j v hj
        have e1 : W.cell? (a.add j) = arr[a.off + j]? := by
          unfold Addr.add World.cell?
          by_cases hj0 : j = 0
          · subst hj0
            simp [hh, hsp]
          · simp [hj0, hh]
        rw [← e1]; exact h5
      have m1 := K1.mono
      refine ⟨⟨s1.h.set s1.c ⟨ty, vs⟩, s1.c + 1⟩, upd μ1 s1.c ⟨a.block, a.off, len * z, none⟩, [.slice (some (s1.c, 0)) len (m + 1) 0], xs, lay_new L1 _ w1 hh ?_ (by simp only; omega) harr, kept_new K1 m1 _, agree_trans A1 (agree_upd s1 μ1 _) m1, ⟨by simp [wf], trivial⟩, ?_, _, vs, rfl, ⟨l1, hl, .inl rfl, fun hn => ?_⟩, by rw [l1, l2], fun i y hi => hS s1 _ _ _ (r1 i y hi) L1.fresh (kept_new (Kept.refl _ _) (Nat.le_refl _) _)⟩
      · simp only
        rcases Nat.eq_zero_or_pos (len * z) with h0 | h0
        · rw [h0]; omega
        · have h6 := harr (len * z - 1) _ (List.getElem?_eq_getElem (by omega))
          have := (Array.getElem?_eq_some_iff.1 h6).1
          omega
      · simp only [concs, conc, upd, if_true, Nat.add_zero, hsp]
        rw [← hsp]
      · unfold cellsAt
        simp only [T.get_set, if_true, Option.bind_some, Nat.zero_add, List.drop_zero]
        rw [ble_iff.2 (by omega), cond_true, List.take_of_length_le (by omega)]
end
end Go.Proofs.YtaocoplfdhcoaaaGreatDoor.EvA

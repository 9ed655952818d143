/- What the evaluator's operations leave as it is. -/
import Derived.Test.YtaocoplfdhcoaaaGreatDoorSp05
set_option linter.unusedVariables false
set_option linter.unusedSimpArgs false
namespace Go.Proofs.YtaocoplfdhcoaaaGreatDoor.Ev
open Go Go.RowKit
namespace T
variable {α : Type}
theorem sing_eq : ∀ (f g i : Nat) (v : α), i ≤ f → i ≤ g → sing f i v = sing g i v := by
  intro f
  induction f with
  | zero =>
    intro g i v hf hg
    obtain rfl : i = 0 := by omega
    cases g <;> simp [sing]
  | succ f ih =>
    intro g i v hf hg
    cases g with
    | zero =>
      obtain rfl : i = 0 := by omega
      simp [sing]
    | succ g =>
      rw [sing, sing, cbeq, cbeq, cbeq, cbeq]
      by_cases h0 : i = 0
      · rw [if_pos h0, if_pos h0]
      · rw [if_neg h0, if_neg h0, ih g _ _ (by omega) (by omega), ih g _ _ (by omega) (by omega)]
/-- The parts of a tree. -/
theorem set_eq (t : T α) : ∃ w l r, (∀ i v, t.set i v = if i = 0 then .n (some v) l r else if i % 2 = 1 then .n w (l.set (i / 2) v) r else .n w l (r.set (i / 2 - 1) v)) := by
  cases t with
  | n w l r => exact ⟨w, l, r, fun i v => by rw [set, cbeq, cbeq]⟩
  | e =>
    refine ⟨none, .e, .e, fun i v => ?_⟩
    simp only [set]
    cases i with
    | zero => simp [sing]
    | succ i =>
      rw [sing, cbeq, cbeq, sing_eq i ((i + 1) / 2) _ _ (by omega) (by omega), sing_eq i ((i + 1) / 2 - 1) _ _ (by omega) (by omega)]
theorem set_n (w : Option α) (l r : T α) (i : Nat) (v : α) : (T.n w l r).set i v = if i = 0 then .n (some v) l r else if i % 2 = 1 then .n w (l.set (i / 2) v) r else .n w l (r.set (i / 2 - 1) v) := by
  rw [set, cbeq, cbeq]
theorem set_comm : ∀ (k : Nat) (t : T α) (i j : Nat) (v w : α), i + j ≤ k → i ≠ j → (t.set i v).set j w = (t.set j w).set i v := by
  intro k
  induction k with
  | zero => intro t i j v w h1 h2; omega
  | succ k ih =>
    intro t i j v w h1 h2
    obtain ⟨x, l, r, ht⟩ := set_eq t
    rw [ht i v, ht j w]
    by_cases hi : i = 0
    · have hj : j ≠ 0 := by omega
      rw [if_pos hi, if_neg hj, set_n, if_neg hj]
      by_cases hj1 : j % 2 = 1
      · rw [if_pos hj1, if_pos hj1, set_n, if_pos hi]
      · rw [if_neg hj1, if_neg hj1, set_n, if_pos hi]
    · rw [if_neg hi]
      by_cases hj : j = 0
      · rw [if_pos hj]
        by_cases hi1 : i % 2 = 1
        · rw [if_pos hi1, set_n, if_pos hj, set_n, if_neg hi, if_pos hi1]
        · rw [if_neg hi1, set_n, if_pos hj, set_n, if_neg hi, if_neg hi1]
      · rw [if_neg hj]
        by_cases hi1 : i % 2 = 1
        · rw [if_pos hi1, set_n, if_neg hj]
          by_cases hj1 : j % 2 = 1
          · rw [if_pos hj1, if_pos hj1, set_n, if_neg hi, if_pos hi1, ih _ _ _ _ _ (by omega) (by omega)]
          · rw [if_neg hj1, if_neg hj1, set_n, if_neg hi, if_pos hi1]
        · rw [if_neg hi1, set_n, if_neg hj]
          by_cases hj1 : j % 2 = 1
          · rw [if_pos hj1, if_pos hj1, set_n, if_neg hi, if_neg hi1]
          · rw [if_neg hj1, if_neg hj1, set_n, if_neg hi, if_neg hi1, ih _ _ _ _ _ (by omega) (by omega)]
theorem set_set (t : T α) {i j : Nat} (h : i ≠ j) (v w : α) : (t.set i v).set j w = (t.set j w).set i v := set_comm _ t i j v w (Nat.le_refl _) h
theorem del_n (w : Option α) (l r : T α) (i : Nat) : (T.n w l r).del i = if i = 0 then .n none l r else if i % 2 = 1 then .n w (l.del (i / 2)) r else .n w l (r.del (i / 2 - 1)) := by
  rw [del, cbeq, cbeq]
theorem del_none : ∀ (t : T α) (j : Nat), t.get j = none → t.del j = t := by
  intro t
  induction t with
  | e => intro j _; rfl
  | n w l r ihl ihr =>
    intro j h
    rw [get_n] at h
    rw [del_n]
    by_cases h0 : j = 0
    · rw [if_pos h0] at h ⊢; rw [h]
    · rw [if_neg h0] at h ⊢
      by_cases h1 : j % 2 = 1
      · rw [if_pos h1] at h ⊢; rw [ihl _ h]
      · rw [if_neg h1] at h ⊢; rw [ihr _ h]
theorem set_del : ∀ (t : T α) {i j : Nat}, i ≠ j → ∀ (v : α), (t.set i v).del j = (t.del j).set i v := by
  intro t
  induction t with
  | e =>
    intro i j h v
    rw [del_none _ _ (by rw [get_set, if_neg h]; rfl)]
    rfl
  | n w l r ihl ihr =>
    intro i j h v
    rw [set_n, del_n]
    by_cases hi : i = 0
    · have hj : j ≠ 0 := by omega
      rw [if_pos hi, del_n, if_neg hj, if_neg hj]
      by_cases hj1 : j % 2 = 1
      · rw [if_pos hj1, if_pos hj1, set_n, if_pos hi]
      · rw [if_neg hj1, if_neg hj1, set_n, if_pos hi]
    · rw [if_neg hi]
      by_cases hj : j = 0
      · rw [if_pos hj]
        by_cases hi1 : i % 2 = 1
        · rw [if_pos hi1, del_n, if_pos hj, set_n, if_neg hi, if_pos hi1]
        · rw [if_neg hi1, del_n, if_pos hj, set_n, if_neg hi, if_neg hi1]
      · rw [if_neg hj]
        by_cases hi1 : i % 2 = 1
        · rw [if_pos hi1, del_n, if_neg hj]
          by_cases hj1 : j % 2 = 1
          · rw [if_pos hj1, if_pos hj1, set_n, if_neg hi, if_pos hi1, ihl (by omega)]
          · rw [if_neg hj1, if_neg hj1, set_n, if_neg hi, if_pos hi1]
        · rw [if_neg hi1, del_n, if_neg hj]
          by_cases hj1 : j % 2 = 1
          · rw [if_pos hj1, if_pos hj1, set_n, if_neg hi, if_neg hi1]
          · rw [if_neg hj1, if_neg hj1, set_n, if_neg hi, if_neg hi1, ihr (by omega)]
end T

/-! ### What stays -/
structure Eff (lo : Nat) (s s' : St) : Prop where
  mono : s.c ≤ s'.c
  keep : ∀ b, b < lo → b < s.c → s'.h.get b = s.h.get b
  born : ∀ b, s.h.get b = none → (b < s.c ∨ s'.c ≤ b) → s'.h.get b = none
theorem Eff.refl (lo : Nat) (s : St) : Eff lo s s := ⟨Nat.le_refl _, fun _ _ _ => rfl, fun _ h _ => h⟩
theorem Eff.trans {lo : Nat} {s s' s'' : St} (h : Eff lo s s') (h' : Eff lo s' s'') : Eff lo s s'' :=
  ⟨Nat.le_trans h.mono h'.mono, fun b hb hc => (h'.keep b hb (Nat.lt_of_lt_of_le hc h.mono)).trans (h.keep b hb hc), fun b hb hc => by
    have := h.mono
    have := h'.mono
    exact h'.born b (h.born b hb (by omega)) (by omega)⟩
theorem Eff.of_c {lo lc : Nat} {s s' : St} (h : Eff lc s s') (hl : lo ≤ lc ∨ s.c ≤ lc) : Eff lo s s' :=
  ⟨h.mono, fun b hb hc => h.keep b (by omega) hc, h.born⟩
/-- What it does stays, and it tells the same where one more block lies about. -/
def GoodAt {γ : Type} (lo : Nat) (F : St → Option (γ × St)) (s : St) : Prop :=
  ∀ r s', F s = some (r, s') → Eff lo s s' ∧ ∀ b k, s.h.get b = none → (b < s.c ∨ s'.c ≤ b) → F ⟨s.h.set b k, s.c⟩ = some (r, ⟨s'.h.set b k, s'.c⟩)
def Good {γ : Type} (lo : Nat) (F : St → Option (γ × St)) : Prop := ∀ s, GoodAt lo F s
section
variable {γ δ : Type} {lo : Nat}
theorem Good.none' : Good (γ := γ) lo fun _ => none := fun s r s' h => by cases h
theorem Good.pure (o : Option γ) : Good lo fun s => o.map (·, s) := fun s r s' h => by
  obtain ⟨a, ha, h⟩ := Option.map_eq_some_iff.1 h
  cases h
  exact ⟨Eff.refl _ _, fun b k _ _ => by rw [ha]; rfl⟩
theorem Good.some' (v : γ) : Good lo fun s => some (v, s) := Good.pure (some v)
theorem Good.obind {α : Type} {o : Option α} {G : α → St → Option (γ × St)} (h : ∀ a, o = some a → Good lo (G a)) : Good lo fun s => o.bind fun a => G a s := fun s r s' hs => by
  obtain ⟨a, ha, hs⟩ := Option.bind_eq_some_iff.1 hs
  obtain ⟨h1, h2⟩ := h a ha s r s' hs
  exact ⟨h1, fun b k hb hc => by simp only [ha, Option.bind_some]; exact h2 b k hb hc⟩
theorem Good.bif' {c : Bool} {F G : St → Option (γ × St)} (hF : Good lo F) (hG : Good lo G) : Good lo fun s => bif c then F s else G s := by
  cases c
  · exact hG
  · exact hF
theorem Good.bind' {F : St → Option (γ × St)} {G : γ → St → Option (δ × St)} (hF : Good lo F) (hG : ∀ r, Good lo (G r)) : Good lo fun s => (F s).bind fun p => G p.1 p.2 := fun s r s' hs => by
  obtain ⟨⟨a, s1⟩, ha, hs⟩ := Option.bind_eq_some_iff.1 hs
  obtain ⟨h1, h2⟩ := hF s a s1 ha
  obtain ⟨g1, g2⟩ := hG a s1 r s' hs
  refine ⟨h1.trans g1, fun b k hb hc => ?_⟩
  have := h1.mono
  have := g1.mono
  simp only [h2 b k hb (by omega), Option.bind_some]
  exact g2 b k (h1.born b hb (by omega)) (by omega)
/-- What is read, stays read. -/
def Read {α : Type} (R : St → Option α) : Prop := ∀ s v, R s = some v → ∀ b k, s.h.get b = none → R ⟨s.h.set b k, s.c⟩ = some v
theorem Good.read {R : St → Option γ} (h : Read R) : Good lo fun s => (R s).map (·, s) := fun s r s' hs => by
  obtain ⟨a, ha, hs⟩ := Option.map_eq_some_iff.1 hs
  cases hs
  exact ⟨Eff.refl _ _, fun b k hb _ => by simp only [h s _ ha b k hb]; rfl⟩
theorem Good.rbind {α : Type} {R : St → Option α} {G : α → St → Option (γ × St)} (h : Read R) (hG : ∀ a, Good lo (G a)) : Good lo fun s => (R s).bind fun a => G a s := fun s r s' hs => by
  obtain ⟨a, ha, hs⟩ := Option.bind_eq_some_iff.1 hs
  obtain ⟨h1, h2⟩ := hG a s r s' hs
  exact ⟨h1, fun b k hb hc => by simp only [h s _ ha b k hb, Option.bind_some]; exact h2 b k hb hc⟩
theorem get_other {α : Type} {h : T α} {b b' : Nat} {k k' : α} (hb : h.get b = none) (hb' : h.get b' = some k') : (h.set b k).get b' = some k' := by
  rw [T.get_set]
  split
  · rename_i e; subst e; rw [hb] at hb'; cases hb'
  · exact hb'
theorem read_cellsAt (b o n : Nat) : Read fun s => cellsAt s.h b o n := fun s v hv b' k hb => by
  obtain ⟨k', hk, hv⟩ := Option.bind_eq_some_iff.1 hv
  show Option.bind _ _ = _
  rw [get_other hb hk]
  exact hv
theorem read_loadE (E : Env) (t : Nat) (a : AV) : Read fun s => loadE E s t a := fun s v hv b' k hb => by
  simp only [loadE] at hv ⊢
  split at hv
  · obtain ⟨i, hi, h2⟩ := Option.bind_eq_some_iff.1 hv
    simp only [hi, Option.bind_some]
    cases hag : i.k.agg with
    | true =>
      rw [hag] at h2
      obtain ⟨cs, hc, rfl⟩ := Option.map_eq_some_iff.1 h2
      have := read_cellsAt _ _ _ s cs hc b' k hb
      simp only at this
      simp only [cond_true, this]; rfl
    | false =>
      rw [hag] at h2
      obtain ⟨q, hq, h3⟩ := Option.bind_eq_some_iff.1 h2
      simp only [cond_false, get_other hb hq, Option.bind_some]
      exact h3
  · cases hv
theorem read_takeE (esz n : Nat) (y : AV) : Read fun s => takeE s.h esz n y := fun s v hv b' k hb => by
  simp only [takeE] at hv ⊢
  split at hv
  · exact hv
  · exact hv
  · cases hc : Nat.beq n 0 with
    | true => rw [hc] at hv; exact hv
    | false =>
      rw [hc] at hv
      exact read_cellsAt _ _ _ s v hv b' k hb
  · exact hv
  · cases hv
theorem good_newAt (t : Nat) (cells : List AV) (f : Nat → γ) : Good lo fun s => (newAt s t cells).map (f s.c, ·) := fun s r s' hs => by
  obtain ⟨s1, h1, hs⟩ := Option.map_eq_some_iff.1 hs
  cases hs
  obtain ⟨ho, rfl⟩ := newAt_ok h1
  refine ⟨⟨Nat.le_succ _, fun b _ hb => by simp only; rw [T.get_set, if_neg (by omega)], fun b hb hc => by simp only at hc ⊢; rw [T.get_set, if_neg (by omega)]; exact hb⟩, fun b k hb hc => ?_⟩
  simp only at hc
  simp only [newAt, ho, cond_true, Option.map_some]
  rw [T.set_set _ (show b ≠ s.c by omega)]
theorem good_putAt (b0 o : Nat) (vs : List AV) (v : γ) : Good lo fun s => (putAt lo s b0 o vs).map (v, ·) := fun s r s' hs => by
  obtain ⟨s1, h1, hs⟩ := Option.map_eq_some_iff.1 hs
  cases hs
  obtain ⟨k0, hk, hp⟩ := Option.bind_eq_some_iff.1 h1
  cases hc : Nat.ble lo b0 && Nat.ble (o + vs.length) k0.cells.length && ones vs with
  | false => rw [hc] at hp; cases hp
  | true =>
    rw [hc] at hp
    cases hp
    have hlo : lo ≤ b0 := by simp only [Bool.and_eq_true, ble_iff] at hc; exact hc.1.1
    refine ⟨⟨Nat.le_refl _, fun b hb _ => by simp only; rw [T.get_set, if_neg (by omega)], fun b hb _ => ?_⟩, fun b k hb _ => ?_⟩
    · simp only
      rw [T.get_set, if_neg (fun e => by rw [e, hb] at hk; cases hk)]
      exact hb
    · have hne : b ≠ b0 := fun e => by rw [← e, hb] at hk; cases hk
      simp only [putAt, get_other hb hk, Option.bind_some, hc, cond_true, Option.map_some]
      rw [T.set_set _ hne]
theorem good_growE (e esz len n : Nat) (old new : List AV) : Good lo fun s => growE s e esz len n old new := by
  unfold growE
  exact good_newAt e (old ++ new) fun c => AV.slice (some (c, 0)) (len + n) (len + n) esz
theorem good_appE (e esz bytes n : Nat) (new : List AV) (x : AV) : Good lo fun s => appE lo s e esz bytes n new x := by
  unfold appE
  split
  · exact .bif' (.some' _) (.bif' (good_growE _ _ _ _ _ _) .none')
  · exact .bif' (.some' _) (.bif' (good_growE _ _ _ _ _ _) .none')
  · rename_i b o len c op
    refine .bif' (.bif' (.some' _) .none') (.bif' (.bif' (good_putAt _ _ _ _) (.bif' (.rbind (read_takeE _ _ _) fun old => good_growE _ _ _ _ _ _) ?_)) .none')
    intro s r s' hs
    cases hop : Nat.beq op esz && Nat.ble lo b && tyB s.h b e with
    | false => simp only [hop] at hs; cases hs
    | true =>
      simp only [hop, cond_true] at hs
      obtain ⟨old, hold, hg⟩ := Option.bind_eq_some_iff.1 hs
      simp only [Bool.and_eq_true, beq_iff, ble_iff] at hop
      obtain ⟨⟨o1, o2⟩, o3⟩ := hop
      obtain ⟨k0, hk0⟩ : ∃ k0, s.h.get b = some k0 := by
        unfold tyB at o3
        cases hk : s.h.get b with
        | none => rw [hk] at o3; cases o3
        | some k => exact ⟨k, rfl⟩
      obtain ⟨g1, g2⟩ := good_growE (lo := lo) e esz len n old new ⟨s.h.del b, s.c⟩ r s' hg
      refine ⟨⟨g1.mono, fun b' hb hc => ?_, fun b' hb hc => g1.born b' ?_ hc⟩, fun b' k hb hc => ?_⟩
      · rw [g1.keep b' hb hc]
        simp only
        rw [T.get_del, if_neg (by omega)]
      · simp only
        rw [T.get_del, if_neg (fun e => by rw [e, hb] at hk0; cases hk0)]
        exact hb
      · have hne : b' ≠ b := fun e => by rw [e, hk0] at hb; cases hb
        have ho3 : tyB (s.h.set b' k) b e = true := by
          unfold tyB at o3 ⊢
          rw [hk0] at o3
          rw [get_other hb hk0]
          exact o3
        have := read_cellsAt b o (len * esz) s old hold b' k hb
        simp only at this
        simp only [ho3, beq_iff.2 o1, ble_iff.2 o2, Bool.true_and, cond_true, this, Option.bind_some]
        rw [T.set_del _ hne]
        exact g2 b' k (by simp only; rw [T.get_del, if_neg hne.symm]; exact hb) hc
  · exact .none'
theorem good_heapE (E : Env) (m : T AV) (o : Op) : Good lo fun s => heapE E lo m s o := by
  cases o <;> simp only [heapE] <;> try exact Good.none'
  case load t x => exact .obind fun a _ => .read (read_loadE E t a)
  case store t x y =>
    refine .obind fun a _ => .obind fun v _ => .obind fun z _ => ?_
    split
    · exact .bif' (good_putAt _ _ _ _) .none'
    · exact .none'
  case box t x => exact .obind fun v _ => good_newAt t v.cells fun c => AV.ptr (some (c, 0))
  case alloc t => exact .obind fun i _ => good_newAt t i.zero.cells fun c => AV.ptr (some (c, 0))
  case buildSlice t n parts =>
    refine .obind fun i _ => ?_
    split
    · rename_i e q
      exact .obind fun j _ => .bif' (.obind fun cs _ => good_newAt e cs fun c => AV.slice (some (c, 0)) n n 0) .none'
    · exact .none'
  case makeSlice t x y =>
    refine .obind fun i _ => .obind fun a _ => .obind fun b _ => .obind fun l _ => .obind fun c _ => ?_
    split
    · rename_i e q
      exact .obind fun j _ => .bif' (good_newAt e _ fun q => AV.slice (some (q, 0)) l c 0) .none'
    · exact .none'
  case convert src dst x =>
    refine .obind fun p _ => .obind fun d _ => .obind fun a _ => ?_
    split
    · refine .obind fun i _ => ?_
      split
      · split
        · refine .rbind (read_takeE _ _ _) fun cs => ?_
          have := Good.pure (lo := lo) ((bytesE cs).map AV.str)
          simpa only [Option.map_map, Function.comp_def] using this
        · exact .some' _
        · exact .none'
      · exact .none'
    · refine .obind fun i _ => ?_
      split
      · exact good_newAt _ _ fun c => AV.slice (some (c, 0)) _ _ 1
      · exact .none'
    · exact .none'
  case call c =>
    split
    · refine .obind fun t _ => .obind fun t1 _ => .obind fun i _ => .obind fun i1 _ => .obind fun vs _ => ?_
      split
      · split
        · refine .obind fun j _ => .bif' .none' ?_
          split
          · exact .obind fun n _ => good_appE _ _ _ _ _ _
          · exact .obind fun n _ => .rbind (read_takeE _ _ _) fun new => good_appE _ _ _ _ _ _
        · exact .none'
      · exact .none'
    · refine .obind fun t _ => .obind fun i _ => .obind fun vs _ => ?_
      split
      · split
        · refine .obind fun z _ => .obind fun d _ => .obind fun k _ => .bif' (.some' _) (.rbind (read_takeE _ _ _) fun cs => ?_)
          split
          · exact good_putAt _ _ _ _
          · exact .none'
        · exact .none'
      · exact .none'
    · refine .obind fun t _ => .obind fun i _ => .obind fun vs _ => ?_
      split
      · split
        · exact .bif' (.some' _) (.obind fun j _ => good_putAt _ _ _ _)
        · exact .some' _
        · exact .some' _
        · exact .none'
      · exact .none'
    · exact .none'
end
end Go.Proofs.YtaocoplfdhcoaaaGreatDoor.Ev
set_option linter.unusedVariables false
set_option linter.unusedSimpArgs false
namespace Go.Proofs.YtaocoplfdhcoaaaGreatDoor.Ev
open Go Go.RowKit
abbrev CallT' := Nat → Nat → List AV → St → Option (AV × St)
def CallOk (call : CallT') : Prop := ∀ lc g as, Good lc (call lc g as)
section
variable {E : Env} {call : CallT'} {lo lc old : Nat}
theorem Good.le {γ : Type} {F : St → Option (γ × St)} {lo' : Nat} (h : Good lo F) (hl : lo' ≤ lo) : Good lo' F := fun s r s' hs => by
  obtain ⟨h1, h2⟩ := h s r s' hs
  exact ⟨h1.of_c (.inl hl), h2⟩
theorem good_opE (hcall : CallOk call) (m : T AV) (o : Op) : Good (min lo lc) fun s => opE E call lc lo old m s o := by
  have h1 : Good (min lo lc) fun s => heapE E lo m s o := (good_heapE E m o).le (Nat.min_le_left _ _)
  have h2 : Good (min lo lc) fun s => (pureE E m o).map (·, s) := .pure _
  unfold opE
  split
  · refine .obind fun a _ => ?_
    split
    · exact .bif' (.read (read_loadE _ _ _)) .none'
    · exact .none'
  · rename_i c
    split
    · refine .obind fun p _ => ?_
      obtain ⟨g, as⟩ := p
      dsimp only
      split
      · exact .pure _
      · exact (hcall lc g as).le (Nat.min_le_right _ _)
    · exact .bif' h2 h1
  · exact .bif' h2 h1
theorem good_opE_at (hcall : CallOk call) (m : T AV) (o : Op) {L O : Nat → Nat} (hL : ∀ c, lo ≤ L c ∨ c ≤ L c) : Good lo fun s => opE E call (L s.c) lo (O s.c) m s o := fun s r s' hs => by
  obtain ⟨h1, h2⟩ := good_opE (lo := lo) (lc := L s.c) (old := O s.c) (E := E) hcall m o s r s' hs
  refine ⟨⟨h1.mono, fun b hb hc => h1.keep b ?_ hc, h1.born⟩, fun b k hb hc => h2 b k hb hc⟩
  rcases hL s.c with h | h <;> omega
theorem good_runE (hcall : CallOk call) (draw : Bool) (c0 : Nat) (all : List Oper) (as : List Nat) : ∀ (os : List Oper) (j : Nat) (m : Tm), Good lo fun s => runE E call draw lo c0 all as j os m s
  | [], j, m => by
    unfold runE
    exact .some' m
  | o :: os, j, m => by
    unfold runE
    refine .obind fun w _ => .bif' ?_ (.obind fun m' _ => good_runE hcall draw c0 all as os (j + 1) m')
    refine Good.bind' (F := fun s => opE E call (bif draw && !tightB E as j 0 all then s.c else lo) lo (bif draw && looseB E (as.getD j 0) 0 (all.take j) then c0 else s.c) m.t s o.op) (G := fun r s => (putT m o.dst r).bind fun m' => runE E call draw lo c0 all as (j + 1) os m' s) ?_ fun r => .obind fun m' _ => good_runE hcall draw c0 all as os (j + 1) m'
    refine good_opE_at hcall m.t o.op (L := fun c => bif draw && !tightB E as j 0 all then c else lo) (O := fun c => bif draw && looseB E (as.getD j 0) 0 (all.take j) then c0 else c) fun c => ?_
    cases draw && !tightB E as j 0 all
    · exact .inl (Nat.le_refl _)
    · exact .inr (Nat.le_refl _)
theorem good_regE (hcall : CallOk call) (draw : Bool) (ops : List Oper) (m : Tm) : Good lo fun s => regE E call draw lo ops m s := by
  have key : ∀ (d : Bool) (as : List Nat), Good lo fun s => runE E call d lo s.c ops as 0 ops m s := fun d as s r s' hs => by
    obtain ⟨h1, h2⟩ := good_runE (E := E) (lo := lo) hcall d s.c ops as ops 0 m s r s' hs
    exact ⟨h1, h2⟩
  unfold regE
  dsimp only
  exact .bif' (.bif' (key true (ancs [] ops)) .none') (key false [])
def GoodC (lo : Nat) (F : St → Option (Ex × Tm × St)) : Prop := ∀ s e m' s', F s = some (e, m', s') → Eff lo s s' ∧ ∀ b k, s.h.get b = none → (b < s.c ∨ s'.c ≤ b) → F ⟨s.h.set b k, s.c⟩ = some (e, m', ⟨s'.h.set b k, s'.c⟩)
/-- Two after each other: the second one only if the first one ends so. -/
theorem GoodC.then' {F : St → Option (Ex × Tm × St)} {G : Tm → St → Option (Ex × Tm × St)} (hF : GoodC lo F) (hG : ∀ m, GoodC lo (G m)) : GoodC lo fun s => (F s).bind fun
    | (.nrm, m', s') => G m' s'
    | r => some r := fun s e m' s' hs => by
  obtain ⟨⟨e1, m1, s1⟩, h1, hs⟩ := Option.bind_eq_some_iff.1 hs
  obtain ⟨f1, f2⟩ := hF s e1 m1 s1 h1
  cases e1 with
  | nrm =>
    obtain ⟨g1, g2⟩ := hG m1 s1 e m' s' hs
    refine ⟨f1.trans g1, fun b k hb hc => ?_⟩
    have := f1.mono
    have := g1.mono
    simp only [f2 b k hb (by omega), Option.bind_some]
    exact g2 b k (f1.born b hb (by omega)) (by omega)
  | exit i =>
    cases hs
    exact ⟨f1, fun b k hb hc => by simp only [f2 b k hb hc, Option.bind_some]⟩
  | ret =>
    cases hs
    exact ⟨f1, fun b k hb hc => by simp only [f2 b k hb hc, Option.bind_some]⟩
theorem good_iterE {f : Tm → St → Option (Ex × Tm × St)} (hf : ∀ m, GoodC lo (f m)) : ∀ n m, GoodC lo (iterE f n m)
  | 0, m => fun s e m' s' h => by cases h
  | n + 1, m => by
    show GoodC lo fun s => iterE f (n + 1) m s
    simp only [iterE]
    exact GoodC.then' (hf m) (good_iterE hf n)
theorem good_codeE (hcall : CallOk call) (n : Nat) : ∀ (c : Code) (m : Tm), GoodC lo (codeE E call n lo c m) := by
  intro c
  induction c with
  | region id ops draw =>
    intro m s e m' s' h
    simp only [codeE] at h ⊢
    obtain ⟨⟨m1, s1⟩, h1, h⟩ := Option.map_eq_some_iff.1 h
    cases h
    obtain ⟨g1, g2⟩ := good_regE (E := E) (lo := lo) hcall draw ops.toList m s m1 s1 h1
    exact ⟨g1, fun b k hb hc => by have := g2 b k hb hc; simp only at this; simp only [this, Option.map_some]⟩
  | skip =>
    intro m s e m' s' h
    cases h
    exact ⟨Eff.refl _ _, fun b k hb hc => rfl⟩
  | seq a b iha ihb =>
    intro m
    show GoodC lo fun s => codeE E call n lo (.seq a b) m s
    simp only [codeE]
    exact GoodC.then' (iha m) ihb
  | cond c a b iha ihb =>
    intro m s e m' s' h
    simp only [codeE] at h ⊢
    obtain ⟨v, hv, h⟩ := Option.bind_eq_some_iff.1 h
    simp only [hv, Option.bind_some]
    split at h
    · exact iha m s e m' s' h
    · exact ihb m s e m' s' h
    · cases h
  | block id a iha =>
    intro m s e m' s' h
    simp only [codeE] at h ⊢
    obtain ⟨⟨e1, m1, s1⟩, h1, h⟩ := Option.map_eq_some_iff.1 h
    obtain ⟨g1, g2⟩ := iha m s e1 m1 s1 h1
    cases e1 with
    | nrm => cases h; exact ⟨g1, fun b k hb hc => by simp only [g2 b k hb hc, Option.map_some]⟩
    | ret => cases h; exact ⟨g1, fun b k hb hc => by simp only [g2 b k hb hc, Option.map_some]⟩
    | exit i =>
      simp only at h
      cases hi : Nat.beq i id with
      | true => rw [hi] at h; cases h; exact ⟨g1, fun b k hb hc => by simp only [g2 b k hb hc, Option.map_some, hi, cond_true]⟩
      | false => rw [hi] at h; cases h; exact ⟨g1, fun b k hb hc => by simp only [g2 b k hb hc, Option.map_some, hi, cond_false]⟩
  | loop a iha =>
    intro m
    show GoodC lo fun s => codeE E call n lo (.loop a) m s
    simp only [codeE]
    exact good_iterE iha n m
  | exit id =>
    intro m s e m' s' h
    cases h
    exact ⟨Eff.refl _ _, fun b k hb hc => rfl⟩
  | ret =>
    intro m s e m' s' h
    cases h
    exact ⟨Eff.refl _ _, fun b k hb hc => rfl⟩
  | _ => intro m s e m' s' h; cases h
theorem read_ressE (m : T AV) : ∀ l : List ResultVar, Read fun s => ressE E m s l
  | [] => fun s v hv b k hb => hv
  | r :: rs => fun s v hv b k hb => by
    simp only [ressE] at hv ⊢
    obtain ⟨u, hu, h2⟩ := Option.bind_eq_some_iff.1 hv
    obtain ⟨us, hus, h3⟩ := Option.map_eq_some_iff.1 h2
    have h1 : resE E m ⟨s.h.set b k, s.c⟩ r = some u := by
      cases r with
      | tmp t => exact hu
      | cell a t =>
        simp only [resE] at hu ⊢
        obtain ⟨a', ha, h4⟩ := Option.bind_eq_some_iff.1 hu
        simp only [ha, Option.bind_some]
        exact read_loadE E t a' s u h4 b k hb
    have h4 := read_ressE m rs s us hus b k hb
    simp only at h4
    rw [h1, Option.bind_some, h4, Option.map_some, h3]
theorem good_funE (E : Env) : ∀ n, CallOk (funE E n)
  | 0 => fun lc g as => by
    show Good lc fun s => funE E 0 lc g as s
    simp only [funE]
    exact .none'
  | n + 1 => fun lc g as => by
    show Good lc fun s => funE E (n + 1) lc g as s
    simp only [funE]
    refine .obind fun fn _ => .obind fun c _ => ?_
    intro s r s' h
    obtain ⟨⟨e, m1, s1⟩, h1, h2⟩ := Option.bind_eq_some_iff.1 h
    obtain ⟨g1, g2⟩ := good_codeE (E := E) (lo := lc) (good_funE E n) n c _ s e m1 s1 h1
    have key : ∀ (F : St → Option (AV × St)), Good lc F → F s1 = some (r, s') → Eff lc s s' ∧ ∀ b k, s.h.get b = none → (b < s.c ∨ s'.c ≤ b) → s1.c ≤ s'.c ∧ F ⟨s1.h.set b k, s1.c⟩ = some (r, ⟨s'.h.set b k, s'.c⟩) := fun F hF hr => by
      obtain ⟨f1, f2⟩ := hF s1 r s' hr
      refine ⟨g1.trans f1, fun b k hb hc => ?_⟩
      have := g1.mono
      have := f1.mono
      exact ⟨f1.mono, f2 b k (g1.born b hb (by omega)) (by omega)⟩
    have hres : Good lc fun s' => (ressE E m1.t s' fn.results.toList).map fun
        | [v] => (v, s')
        | vs => (.tuple vs, s') := by
      have := Good.rbind (lo := lc) (read_ressE (E := E) m1.t fn.results.toList) (G := fun vs s' => (some (match vs with | [v] => v | vs => AV.tuple vs)).map (·, s')) fun vs => .pure _
      intro s2 r2 s2' h2
      refine (this s2 r2 s2' ?_).imp id fun hh b k hb hc => ?_
      · rw [← h2]
        dsimp only
        cases ressE E m1.t s2 fn.results.toList with
        | none => rfl
        | some vs =>
          simp only [Option.bind_some, Option.map_some]
          split <;> rfl
      · have := hh b k hb hc
        rw [← this]
        dsimp only
        cases ressE E m1.t ⟨s2.h.set b k, s2.c⟩ fn.results.toList with
        | none => rfl
        | some vs =>
          simp only [Option.bind_some, Option.map_some]
          split <;> rfl
    cases e with
    | exit i => cases h2
    | nrm =>
      obtain ⟨k1, k2⟩ := key _ hres h2
      exact ⟨k1, fun b k hb hc => by
        obtain ⟨q1, q2⟩ := k2 b k hb hc
        simp only [g2 b k hb (by omega), Option.bind_some]
        exact q2⟩
    | ret =>
      obtain ⟨k1, k2⟩ := key _ hres h2
      exact ⟨k1, fun b k hb hc => by
        obtain ⟨q1, q2⟩ := k2 b k hb hc
        simp only [g2 b k hb (by omega), Option.bind_some]
        exact q2⟩
end
end Go.Proofs.YtaocoplfdhcoaaaGreatDoor.Ev
set_option linter.unusedVariables false
set_option linter.unusedSimpArgs false
namespace Go.Proofs.YtaocoplfdhcoaaaGreatDoor.Ev
open Go Go.RowKit
section
variable {E : Env} {call : CallT'} {lo lc old : Nat} {m m' : T AV}
theorem rhos_congr : ∀ {l : List Operand}, (∀ x ∈ l, rho m' x = rho m x) → rhos m' l = rhos m l
  | [], _ => rfl
  | x :: xs, h => by rw [rhos, rhos, h x List.mem_cons_self, rhos_congr fun y hy => h y (List.mem_cons_of_mem _ hy)]
theorem fillE_congr {pl : Nat → Option (Nat × Nat)} : ∀ {l : List (Nat × Operand)} {cs : List AV}, (∀ x ∈ l, rho m' x.2 = rho m x.2) → fillE E m' pl cs l = fillE E m pl cs l
  | [], cs, _ => rfl
  | (i, x) :: rest, cs, h => by
    rw [fillE, fillE, h (i, x) List.mem_cons_self]
    congr 1
    funext p
    congr 1
    funext v
    rw [fillE_congr fun y hy => h y (List.mem_cons_of_mem _ hy)]
def Same (m m' : T AV) (o : Op) : Prop := ∀ x ∈ o.operands.toList, rho m' x = rho m x
theorem pureE_congr {o : Op} (H : Same m m' o) : pureE E m' o = pureE E m o := by
  cases o with
  | move x => exact H x (by simp [Op.operands])
  | assign x => exact H x (by simp [Op.operands])
  | pick c a b => simp only [pureE, H c (by simp [Op.operands]), H a (by simp [Op.operands]), H b (by simp [Op.operands])]
  | build t parts =>
    have h : ∀ x ∈ parts.toList, rho m' x.2 = rho m x.2 := fun x hx => H x.2 (by simp only [Op.operands, List.mem_map]; exact ⟨x, hx, rfl⟩)
    simp only [pureE, fillE_congr h]
  | nilCheck x => simp only [pureE, H x (by simp [Op.operands])]
  | binOp op t x y _ => simp only [pureE, H x (by simp [Op.operands]), H y (by simp [Op.operands])]
  | unOp op _ x => simp only [pureE, H x (by simp [Op.operands])]
  | convert s d x => simp only [pureE, H x (by simp [Op.operands])]
  | makeInterface t x => simp only [pureE, H x (by simp [Op.operands])]
  | makeFunc fn first captured =>
    have h : rhos m' captured.toList = rhos m captured.toList := rhos_congr fun x hx => H x (by simp [Op.operands]; exact .inr (by simpa using hx))
    simp only [pureE, h]
  | slice t x l h mx =>
    simp only [pureE, H x (by simp [Op.operands])]
    have hl : ∀ y, l = some y → rho m' y = rho m y := fun y e => H y (by simp [Op.operands, e])
    have hh : ∀ y, h = some y → rho m' y = rho m y := fun y e => H y (by simp [Op.operands, e])
    have hm : ∀ y, mx = some y → rho m' y = rho m y := fun y e => H y (by simp [Op.operands, e])
    cases l <;> cases h <;> cases mx <;> (try simp only [hl _ rfl]) <;> (try simp only [hh _ rfl]) <;> (try simp only [hm _ rfl]) <;> rfl
  | fieldAddr t x f => simp only [pureE, H x (by simp [Op.operands])]
  | field t x f => simp only [pureE, H x (by simp [Op.operands])]
  | indexAddr t x i => simp only [pureE, H x (by simp [Op.operands]), H i (by simp [Op.operands])]
  | index t x i => simp only [pureE, H x (by simp [Op.operands]), H i (by simp [Op.operands])]
  | extract x j => simp only [pureE, H x (by simp [Op.operands])]
  | call c =>
    have h : rhos m' c.args.toList = rhos m c.args.toList := rhos_congr fun x hx => H x (by simp [Op.operands, Call.operands]; cases c.callee <;> simp_all)
    simp only [pureE, h]
  | _ => rfl
theorem heapE_congr {s : St} {o : Op} (H : Same m m' o) : heapE E lo m' s o = heapE E lo m s o := by
  cases o with
  | load t x => simp only [heapE, H x (by simp [Op.operands])]
  | store t x y => simp only [heapE, H x (by simp [Op.operands]), H y (by simp [Op.operands])]
  | box t x => simp only [heapE, H x (by simp [Op.operands])]
  | buildSlice t n parts =>
    have h : ∀ x ∈ parts.toList, rho m' x.2 = rho m x.2 := fun x hx => H x.2 (by simp only [Op.operands, List.mem_map]; exact ⟨x, hx, rfl⟩)
    simp only [heapE, fillE_congr h]
  | makeSlice t x y => simp only [heapE, H x (by simp [Op.operands]), H y (by simp [Op.operands])]
  | convert s d x => simp only [heapE, H x (by simp [Op.operands])]
  | call c =>
    have h : rhos m' c.args.toList = rhos m c.args.toList := rhos_congr fun x hx => H x (by simp [Op.operands, Call.operands]; cases c.callee <;> simp_all)
    simp only [heapE, h]
  | _ => rfl
theorem opE_congr {s : St} {o : Op} (H : Same m m' o) : opE E call lc lo old m' s o = opE E call lc lo old m s o := by
  unfold opE
  cases o <;> simp only [pureE_congr H, heapE_congr H]
  case load t x => simp only [H x (by simp [Op.operands])]
  case call c =>
    have h : rhos m' c.args.toList = rhos m c.args.toList := rhos_congr fun x hx => H x (by simp [Op.operands, Call.operands]; cases c.callee <;> simp_all)
    cases hc : c.callee with
    | value f =>
      have hf : rho m' f = rho m f := H f (by simp [Op.operands, Call.operands, hc])
      simp only [calleeE, hc, hf, h]
    | _ => rfl
theorem wantE_congr {all : List Oper} {o : Oper} (H : ∀ g w d, o.guard = some (g, w) → (all[g]?).bind (·.dst) = some d → m'.get d = m.get d) : wantE all m' o = wantE all m o := by
  unfold wantE
  split
  · rfl
  · rename_i j w hg
    cases hd : (all[j]?).bind (·.dst) with
    | none => rfl
    | some d => simp only [Option.bind_some, H j w d hg hd]
theorem same_set {all : List Oper} {o : Oper} {d : Nat} {v : AV} (h : d ∉ looks all o) : Same m (m.set d v) o.op := fun x hx => by
  cases x with
  | tmp t =>
    simp only [rho]
    rw [T.get_set, if_neg]
    intro e
    subst e
    apply h
    unfold looks
    exact List.mem_append_left _ (List.mem_filterMap.2 ⟨.tmp d, hx, rfl⟩)
  | _ => rfl
theorem want_set {all : List Oper} {o : Oper} {d : Nat} {v : AV} (h : d ∉ looks all o) : wantE all (m.set d v) o = wantE all m o :=
  wantE_congr fun g w d' hg hd => by
    rw [T.get_set, if_neg]
    intro e
    subst e
    apply h
    unfold looks
    rw [hg]
    exact List.mem_append_right _ (by simp [hd])
end
end Go.Proofs.YtaocoplfdhcoaaaGreatDoor.Ev

/- Operations that nothing orders change places. -/
import Derived.Test.YtaocoplfdhcoaaaGreatDoorSp06
set_option linter.unusedVariables false
set_option linter.unusedSimpArgs false
namespace Go.Proofs.YtaocoplfdhcoaaaGreatDoor.Ev
open Go Go.RowKit
/-- An operation with what it is run with: the blocks from c on (up to c') are its own. -/
structure Slot where
  o : Oper
  j : Nat
  lc : Nat
  old : Nat
  c : Nat
  c' : Nat
def actE (E : Env) (call : CallT') (lo : Nat) (all : List Oper) (x : Slot) (m : T AV) (h : T Blk) : Option (AV × T Blk) :=
  (wantE all m x.o).bind fun w => bif w then
    (opE E call x.lc lo x.old m ⟨h, x.c⟩ x.o.op).bind fun r => bif Nat.beq r.2.c x.c' then some (r.1, r.2.h) else none
  else some (.tuple [], h)
def stepE (E : Env) (call : CallT') (lo : Nat) (all : List Oper) (x : Slot) (m : Tm) (h : T Blk) : Option (Tm × T Blk) :=
  (actE E call lo all x m.t h).bind fun r => (putT m x.o.dst r.1).map (·, r.2)
def slotsE (E : Env) (call : CallT') (lo : Nat) (all : List Oper) : List Slot → Tm → T Blk → Option (Tm × T Blk)
  | [], m, h => some (m, h)
  | x :: xs, m, h => (stepE E call lo all x m h).bind fun r => slotsE E call lo all xs r.1 r.2
section
variable {E : Env} {call : CallT'} {lo : Nat} {all : List Oper} {m : T AV}
/-- What surely holds of a slot in a region whose order is open. -/
structure SlotOk (lo c0 : Nat) (draw : Bool) (E : Env) (all : List Oper) (as : List Nat) (x : Slot) : Prop where
  at_ : all[x.j]? = some x.o
  lc : x.lc = bif draw && !tightB E as x.j 0 all then x.c else lo
  old : x.old = bif draw && looseB E (as.getD x.j 0) 0 (all.take x.j) then c0 else x.c
  le : c0 ≤ x.c ∧ x.c ≤ x.c'
/-! What each kind does. -/
theorem op_pure {lc old : Nat} {s s' : St} {o : Op} {v : AV} (hk : kindOf E o = 0) (h : opE E call lc lo old m s o = some (v, s')) : s' = s ∧ ∀ (lc old : Nat) (s : St), opE E call lc lo old m s o = some (v, s) := by
  unfold opE at h ⊢
  cases o with
  | load t x => cases hk
  | call c =>
    cases hc : c.callee with
    | value f => simp [kindOf, hc] at hk
    | builtin b =>
      simp only [hc, hk, show Nat.beq 0 0 = true from rfl, cond_true] at h ⊢
      obtain ⟨a, ha, h2⟩ := Option.map_eq_some_iff.1 h
      cases h2
      exact ⟨rfl, fun _ _ s => by rw [ha]; rfl⟩
    | invoke r n => simp [kindOf, hc] at hk
  | _ =>
    simp only [hk, show Nat.beq 0 0 = true from rfl, cond_true] at h ⊢
    obtain ⟨a, ha, h2⟩ := Option.map_eq_some_iff.1 h
    cases h2
    exact ⟨rfl, fun _ _ s => by rw [ha]; rfl⟩
theorem op_load {lc old : Nat} {s s' : St} {o : Op} {v : AV} (hk : kindOf E o = 1) (h : opE E call lc lo old m s o = some (v, s')) :
    s' = s ∧ ∃ b, b < old ∧ ∀ s1 : St, s1.h.get b = s.h.get b → opE E call lc lo old m s1 o = some (v, s1) := by
  have hl : ∃ t x, o = .load t x := by
    cases o <;> simp [kindOf] at hk <;> try (exact ⟨_, _, rfl⟩)
    · split at hk <;> try (cases hk; done)
      split at hk <;> cases hk
    · split at hk <;> cases hk
  obtain ⟨t, x, rfl⟩ := hl
  simp only [opE] at h ⊢
  obtain ⟨a, ha, h2⟩ := Option.bind_eq_some_iff.1 h
  split at h2
  · rename_i b q
    cases hb : Nat.blt b old with
    | false => rw [hb] at h2; cases h2
    | true =>
      rw [hb] at h2
      obtain ⟨u, hu, h3⟩ := Option.map_eq_some_iff.1 h2
      cases h3
      refine ⟨rfl, b, blt_iff.1 hb, fun s1 hs1 => ?_⟩
      simp only [ha, Option.bind_some, hb, cond_true]
      have : loadE E s1 t (.ptr (some (b, q))) = loadE E s t (.ptr (some (b, q))) := by
        simp only [loadE, cellsAt, hs1]
      rw [this, hu]
      rfl
  · cases h2
theorem op_make {lc old : Nat} {h : T Blk} {c : Nat} {s' : St} {o : Op} {v : AV} (hk : kindOf E o = 2) (hh : opE E call lc lo old m ⟨h, c⟩ o = some (v, s')) :
    ∃ k, s' = ⟨h.set c k, c + 1⟩ ∧ ∀ h1 : T Blk, opE E call lc lo old m ⟨h1, c⟩ o = some (v, ⟨h1.set c k, c + 1⟩) := by
  have key : ∀ (ty : Nat) (cells : List AV) (f : Nat → AV), (newAt ⟨h, c⟩ ty cells).map (f c, ·) = some (v, s') → ∃ k, s' = ⟨h.set c k, c + 1⟩ ∧ ∀ h1 : T Blk, (newAt ⟨h1, c⟩ ty cells).map (f c, ·) = some (v, ⟨h1.set c k, c + 1⟩) := fun ty cells f hn => by
    obtain ⟨s1, h1, h2⟩ := Option.map_eq_some_iff.1 hn
    cases h2
    obtain ⟨ho, rfl⟩ := newAt_ok h1
    exact ⟨⟨ty, cells⟩, rfl, fun h1 => by simp [newAt, ho]⟩
  unfold opE at hh ⊢
  cases o with
  | box t x =>
    simp only [hk, show Nat.beq 2 0 = false from rfl, cond_false, heapE] at hh ⊢
    obtain ⟨a, ha, h2⟩ := Option.bind_eq_some_iff.1 hh
    simp only [ha, Option.bind_some]
    exact key t a.cells (fun c => AV.ptr (some (c, 0))) h2
  | alloc t =>
    simp only [hk, show Nat.beq 2 0 = false from rfl, cond_false, heapE] at hh ⊢
    obtain ⟨a, ha, h2⟩ := Option.bind_eq_some_iff.1 hh
    simp only [ha, Option.bind_some]
    exact key t a.zero.cells (fun c => AV.ptr (some (c, 0))) h2
  | buildSlice t n parts =>
    simp only [hk, show Nat.beq 2 0 = false from rfl, cond_false, heapE] at hh ⊢
    obtain ⟨i, hi, h2⟩ := Option.bind_eq_some_iff.1 hh
    simp only [hi, Option.bind_some]
    split at h2
    · rename_i e q
      obtain ⟨j, hj, h3⟩ := Option.bind_eq_some_iff.1 h2
      simp only [hj, Option.bind_some]
      cases hc : Nat.ble (n * j.size) 16777216 with
      | false => rw [hc] at h3; cases h3
      | true =>
        rw [hc] at h3
        obtain ⟨cs, hcs, h4⟩ := Option.bind_eq_some_iff.1 h3
        simp only [cond_true, hcs, Option.bind_some]
        exact key e cs (fun c => AV.slice (some (c, 0)) n n 0) h4
    · cases h2
  | makeSlice t x y =>
    simp only [hk, show Nat.beq 2 0 = false from rfl, cond_false, heapE] at hh ⊢
    obtain ⟨i, hi, h2⟩ := Option.bind_eq_some_iff.1 hh
    obtain ⟨a, ha, h3⟩ := Option.bind_eq_some_iff.1 h2
    obtain ⟨b, hb, h4⟩ := Option.bind_eq_some_iff.1 h3
    obtain ⟨l, hl, h5⟩ := Option.bind_eq_some_iff.1 h4
    obtain ⟨d, hd, h6⟩ := Option.bind_eq_some_iff.1 h5
    simp only [hi, ha, hb, hl, hd, Option.bind_some]
    split at h6
    · rename_i e q
      obtain ⟨j, hj, h7⟩ := Option.bind_eq_some_iff.1 h6
      simp only [hj, Option.bind_some]
      cases hc : Nat.ble l d && Nat.ble (d * j.bytes) 70368744177664 && Nat.ble d 70368744177664 with
      | false => rw [hc] at h7; cases h7
      | true =>
        rw [hc] at h7
        simp only [cond_true]
        exact key e (reps d j.zero.cells) (fun c => AV.slice (some (c, 0)) l d 0) h7
    · cases h6
  | convert p q x =>
    simp only [kindOf] at hk
    split at hk
    · split at hk <;> cases hk
    · cases hk
  | call c =>
    simp only [kindOf] at hk
    split at hk <;> cases hk
  | _ => cases hk
theorem op_call {lc old : Nat} {o : Op} (hk : kindOf E o = 3) (hcall : CallOk call) : Good lc fun s => opE E call lc lo old m s o := by
  unfold opE
  cases o with
  | call c =>
    cases hc : c.callee with
    | value f =>
      simp only [hc]
      refine .obind fun p _ => ?_
      obtain ⟨g, as⟩ := p
      dsimp only
      split
      · exact .pure _
      · exact hcall lc g as
    | builtin b =>
      simp only [kindOf, hc] at hk
      split at hk <;> simp_all
    | invoke r n =>
      simp only [hc, hk, heapE, show Nat.beq 3 0 = false from rfl, cond_false]
      exact .none'
  | convert p q x =>
    simp only [kindOf] at hk
    split at hk
    · split at hk <;> cases hk
    · cases hk
  | _ => cases hk
theorem op_good {lc old : Nat} {o : Op} (hcall : CallOk call) {h : T Blk} {c : Nat} {s' : St} {v : AV} (hh : opE E call lc lo old m ⟨h, c⟩ o = some (v, s')) : Eff (min lo lc) ⟨h, c⟩ s' :=
  (good_opE hcall m o ⟨h, c⟩ v s' hh).1
/-! What the checks say. -/
theorem tightB_spec {as : List Nat} {j : Nat} : ∀ {l : List Oper} {i0 : Nat}, tightB E as j i0 l = true → ∀ k x, l[k]? = some x → i0 + k = j ∨ kindOf E x.op = 0 ∨ kindOf E x.op = 2 ∨ (bif Nat.blt (i0 + k) j then (as.getD j 0).testBit (i0 + k) else (as.getD (i0 + k) 0).testBit j) = true
  | [], _, _, k, x, hx => by simp at hx
  | y :: ys, i0, h, k, x, hx => by
    rw [tightB, Bool.and_eq_true] at h
    cases k with
    | zero =>
      simp at hx
      subst hx
      have := h.1
      simp only [Bool.or_eq_true, beq_iff] at this
      rw [Nat.add_zero]
      rcases this with ((h | h) | h) | h
      · exact .inl h
      · exact .inr (.inl h)
      · exact .inr (.inr (.inl h))
      · exact .inr (.inr (.inr h))
    | succ k =>
      have := tightB_spec h.2 k x (by simpa using hx)
      rw [show i0 + 1 + k = i0 + (k + 1) by omega] at this
      exact this
theorem looseB_spec {mm : Nat} : ∀ {l : List Oper} {i0 : Nat} {k : Nat} {x : Oper}, l[k]? = some x → mm.testBit (i0 + k) = false → (kindOf E x.op = 2 ∨ kindOf E x.op = 3) → looseB E mm i0 l = true
  | [], _, k, x, hx, _, _ => by simp at hx
  | y :: ys, i0, k, x, hx, hb, hk => by
    rw [looseB, Bool.or_eq_true]
    cases k with
    | zero =>
      simp at hx
      subst hx
      rw [Nat.add_zero] at hb
      left
      rw [hb]
      rcases hk with h | h <;> simp [h] <;> rfl
    | succ k =>
      right
      exact looseB_spec (k := k) (by simpa using hx) (by rw [show i0 + 1 + k = i0 + (k + 1) by omega]; exact hb) hk
theorem rowB_spec {mm : Nat} {y : Oper} : ∀ {l : List Oper} {i0 : Nat}, rowB E all mm y i0 l = true → ∀ {k : Nat} {x : Oper}, l[k]? = some x → mm.testBit (i0 + k) = false → pairB E all x y = true
  | [], _, _, k, x, hx, _ => by simp at hx
  | z :: zs, i0, h, k, x, hx, hb => by
    rw [rowB, Bool.and_eq_true] at h
    cases k with
    | zero =>
      simp at hx
      subst hx
      rw [Nat.add_zero] at hb
      have := h.1
      rw [hb, Bool.false_or] at this
      exact this
    | succ k => exact rowB_spec h.2 (k := k) (by simpa using hx) (by rw [show i0 + 1 + k = i0 + (k + 1) by omega]; exact hb)
theorem drawB_spec {as : List Nat} : ∀ {l : List Oper} {j0 : Nat}, drawB E all as j0 l = true → ∀ {k : Nat} {y : Oper}, l[k]? = some y → ∀ {i : Nat} {x : Oper}, i < j0 + k → all[i]? = some x → (as.getD (j0 + k) 0).testBit i = false → pairB E all x y = true
  | [], _, _, k, y, hy, _, _, _, _, _ => by simp at hy
  | z :: zs, j0, h, k, y, hy, i, x, hi, hx, hb => by
    rw [drawB, Bool.and_eq_true] at h
    cases k with
    | zero =>
      simp at hy
      subst hy
      rw [Nat.add_zero] at hi hb
      exact rowB_spec h.1 (k := i) (by rw [List.getElem?_take, if_pos hi]; exact hx) (by rw [Nat.zero_add]; exact hb)
    | succ k =>
      rw [show j0 + (k + 1) = j0 + 1 + k by omega] at hi hb
      exact drawB_spec h.2 (k := k) (by simpa using hy) hi hx hb
theorem apart_ok {x y : Oper} (h : apartB all x y = true) : (∀ d, x.dst = some d → d ∉ looks all y) ∧ (∀ d, x.dst = some d → y.dst ≠ some d) ∧ (∀ d, y.dst = some d → d ∉ looks all x) := by
  refine ⟨fun d hd => ?_, fun d hd => ?_, fun d hd => ?_⟩ <;> simp [apartB, hd] at h
  · exact h.1.1
  · exact h.1.2
  · exact h.2
theorem free_ok {a b : Nat} (h : freeB a b = true) : a = 0 ∨ b = 0 ∨ (a = 1 ∧ b ≤ 3) ∨ (a ≤ 3 ∧ b = 1) ∨ ((a = 2 ∨ a = 3) ∧ b = 2) := by
  simp only [freeB, Bool.or_eq_true, Bool.and_eq_true, beq_iff, ble_iff] at h
  omega
/-! Two change places. -/
theorem act_born (hcall : CallOk call) {x : Slot} {h h1 : T Blk} {v : AV} (hx : actE E call lo all x m h = some (v, h1)) (b : Nat) (hb : h.get b = none) (hc : b < x.c ∨ x.c' ≤ b) : h1.get b = none := by
  obtain ⟨w, hw, h2⟩ := Option.bind_eq_some_iff.1 hx
  cases w with
  | false => cases h2; exact hb
  | true =>
    obtain ⟨⟨u, s'⟩, hu, h3⟩ := Option.bind_eq_some_iff.1 h2
    cases hcc : Nat.beq s'.c x.c' with
    | false => simp only [hcc] at h3; cases h3
    | true =>
      simp only [hcc] at h3
      cases h3
      have := (op_good hcall hu).born b hb
      rw [beq_iff.1 hcc] at this
      exact this hc
theorem act_swap (hcall : CallOk call) {c0 : Nat} {as : List Nat} {x y : Slot} (hx : SlotOk lo c0 true E all as x) (hy : SlotOk lo c0 true E all as y) (hj : x.j < y.j) (hb : (as.getD y.j 0).testBit x.j = false) (hcc : x.c' ≤ y.c) (hf : freeB (kindOf E x.o.op) (kindOf E y.o.op) = true)
    {h h1 h2 : T Blk} {vx vy : AV} (hfr : ∀ b, y.c ≤ b → b < y.c' → h.get b = none) (ax : actE E call lo all x m h = some (vx, h1)) (ay : actE E call lo all y m h1 = some (vy, h2)) :
    ∃ h1', actE E call lo all y m h = some (vy, h1') ∧ actE E call lo all x m h1' = some (vx, h2) := by
  obtain ⟨wx, hwx, a2⟩ := Option.bind_eq_some_iff.1 ax
  obtain ⟨wy, hwy, b2⟩ := Option.bind_eq_some_iff.1 ay
  simp only [actE, hwx, hwy, Option.bind_some]
  cases wx with
  | false =>
    cases a2
    exact ⟨h2, b2, rfl⟩
  | true =>
    cases wy with
    | false =>
      cases b2
      exact ⟨h, rfl, a2⟩
    | true =>
      simp only [cond_true] at a2 b2 ⊢
      obtain ⟨⟨u, s1⟩, hu, a3⟩ := Option.bind_eq_some_iff.1 a2
      obtain ⟨⟨u', s2⟩, hu', b3⟩ := Option.bind_eq_some_iff.1 b2
      cases hc1 : Nat.beq s1.c x.c' with
      | false => simp only [hc1] at a3; cases a3
      | true =>
        cases hc2 : Nat.beq s2.c y.c' with
        | false => simp only [hc2] at b3; cases b3
        | true =>
          simp only [hc1, hc2, cond_true] at a3 b3
          cases a3
          cases b3
          have hc1' := beq_iff.1 hc1
          have hc2' := beq_iff.1 hc2
          have fin : ∀ (h1' : T Blk), opE E call y.lc lo y.old m ⟨h, y.c⟩ y.o.op = some (vy, ⟨h1', s2.c⟩) → opE E call x.lc lo x.old m ⟨h1', x.c⟩ x.o.op = some (vx, ⟨s2.h, s1.c⟩) →
              ∃ h1', ((opE E call y.lc lo y.old m ⟨h, y.c⟩ y.o.op).bind fun r => bif Nat.beq r.2.c y.c' then some (r.1, r.2.h) else none) = some (vy, h1') ∧ ((opE E call x.lc lo x.old m ⟨h1', x.c⟩ x.o.op).bind fun r => bif Nat.beq r.2.c x.c' then some (r.1, r.2.h) else none) = some (vx, s2.h) := fun h1' e1 e2 => by
            refine ⟨h1', ?_, ?_⟩
            · rw [e1]; simp only [Option.bind_some, hc2, cond_true]
            · rw [e2]; simp only [Option.bind_some, hc1, cond_true]
          have tgt : ∀ z : Slot, z.j ≠ x.j → SlotOk lo c0 true E all as z → True := fun _ _ _ => trivial
          rcases free_ok hf with k | k | ⟨k1, k2⟩ | ⟨k1, k2⟩ | ⟨k1, k2⟩
          · obtain ⟨e1, e2⟩ := op_pure k hu
            subst e1
            exact fin s2.h hu' (e2 _ _ _)
          · obtain ⟨e1, e2⟩ := op_pure k hu'
            subst e1
            exact fin h (e2 _ _ _) hu
          · obtain ⟨e1, b, hbo, e2⟩ := op_load k1 hu
            subst e1
            have hbc : b < x.c := by
              have := hx.old
              cases hq : true && looseB E (as.getD x.j 0) 0 (all.take x.j) with
              | true => rw [hq] at this; simp only [cond_true] at this; have := hx.le.1; omega
              | false => rw [hq] at this; simp only [cond_false] at this; omega
            have hxc := hx.le.2
            refine fin s2.h hu' (e2 ⟨s2.h, x.c⟩ ?_)
            have hlt : b < y.c := by omega
            have hk : kindOf E y.o.op = 0 ∨ kindOf E y.o.op = 1 ∨ kindOf E y.o.op = 2 ∨ kindOf E y.o.op = 3 := by omega
            rcases hk with k | k | k | k
            · obtain ⟨q, _⟩ := op_pure k hu'; rw [q]
            · obtain ⟨q, _⟩ := op_load k hu'; rw [q]
            · obtain ⟨kk, q, _⟩ := op_make k hu'
              rw [q]
              simp only
              rw [T.get_set, if_neg (by omega)]
            · have hlc : y.lc = y.c := by
                have := hy.lc
                cases ht : tightB E as y.j 0 all with
                | false => rw [ht] at this; exact this
                | true =>
                  have := tightB_spec ht x.j x.o hx.at_
                  rw [Nat.zero_add, blt_iff.2 hj] at this
                  simp only [cond_true, hb, Bool.false_eq_true, or_false] at this
                  omega
              have := (op_call k hcall ⟨h, y.c⟩ vy s2 hu').1.keep b (by rw [hlc]; exact hlt) hlt
              exact this
          · obtain ⟨e1, b, hbo, e2⟩ := op_load k2 hu'
            subst e1
            have hk : kindOf E x.o.op = 0 ∨ kindOf E x.o.op = 1 ∨ kindOf E x.o.op = 2 ∨ kindOf E x.o.op = 3 := by omega
            have hold : (kindOf E x.o.op = 2 ∨ kindOf E x.o.op = 3) → b < x.c := fun hk23 => by
              have h1 := hy.old
              have h2 : looseB E (as.getD y.j 0) 0 (all.take y.j) = true := looseB_spec (k := x.j) (by rw [List.getElem?_take, if_pos hj]; exact hx.at_) (by rw [Nat.zero_add]; exact hb) hk23
              rw [h2] at h1
              simp only [Bool.and_true, cond_true] at h1
              have := hx.le.1
              omega
            have hget : s1.h.get b = h.get b := by
              rcases hk with k | k | k | k
              · obtain ⟨q, _⟩ := op_pure k hu; rw [q]
              · obtain ⟨q, _⟩ := op_load k hu; rw [q]
              · obtain ⟨kk, q, _⟩ := op_make k hu
                have := hold (.inl k)
                rw [q]
                simp only
                rw [T.get_set, if_neg (by omega)]
              · have hlt := hold (.inr k)
                have hlc : x.lc = x.c := by
                  have := hx.lc
                  cases ht : tightB E as x.j 0 all with
                  | false => rw [ht] at this; exact this
                  | true =>
                    have := tightB_spec ht y.j y.o hy.at_
                    have hnb : Nat.blt y.j x.j = false := by
                      cases hq : Nat.blt y.j x.j with
                      | false => rfl
                      | true => have := blt_iff.1 hq; omega
                    rw [Nat.zero_add, hnb] at this
                    simp only [cond_false, hb, Bool.false_eq_true, or_false] at this
                    omega
                exact (op_call k hcall ⟨h, x.c⟩ vx s1 hu).1.keep b (by rw [hlc]; exact hlt) hlt
            exact fin h (e2 ⟨h, y.c⟩ hget.symm) hu
          · obtain ⟨kk, q, e2⟩ := op_make k2 hu'
            have hyc : s2.c = y.c + 1 := by rw [q]
            have hh2 : s2.h = s1.h.set y.c kk := by rw [q]
            refine fin (h.set y.c kk) (by rw [hyc]; exact e2 h) ?_
            rw [hh2]
            rcases k1 with k | k
            · obtain ⟨kk', q', e3⟩ := op_make k hu
              have := e3 (h.set y.c kk)
              rw [this]
              rw [q']
              simp only
              have hxc : x.c' = x.c + 1 := by rw [← hc1', q']
              rw [T.set_set _ (show x.c ≠ y.c by omega)]
            · refine (op_call k hcall ⟨h, x.c⟩ vx s1 hu).2 y.c kk (hfr y.c (Nat.le_refl _) ?_) (.inr ?_)
              · rw [← hc2', hyc]; exact Nat.lt_succ_self _
              · show s1.c ≤ y.c
                rw [hc1']; exact hcc
theorem step_swap (hcall : CallOk call) {c0 : Nat} {as : List Nat} {x y : Slot} (hx : SlotOk lo c0 true E all as x) (hy : SlotOk lo c0 true E all as y) (hj : x.j < y.j) (hb : (as.getD y.j 0).testBit x.j = false) (hcc : x.c' ≤ y.c) (hp : pairB E all x.o y.o = true)
    {m m1 m2 : Tm} {h h1 h2 : T Blk} (hfr : ∀ b, y.c ≤ b → b < y.c' → h.get b = none) (ax : stepE E call lo all x m h = some (m1, h1)) (ay : stepE E call lo all y m1 h1 = some (m2, h2)) :
    ∃ m1' h1', stepE E call lo all y m h = some (m1', h1') ∧ stepE E call lo all x m1' h1' = some (m2, h2) := by
  rw [pairB, Bool.and_eq_true] at hp
  obtain ⟨p1, p2, p3⟩ := apart_ok hp.1
  obtain ⟨⟨vx, hx1⟩, a1, a2⟩ := Option.bind_eq_some_iff.1 ax
  obtain ⟨mx, a3, a4⟩ := Option.map_eq_some_iff.1 a2
  simp only [Prod.mk.injEq] at a4
  obtain ⟨rfl, rfl⟩ := a4
  obtain ⟨⟨vy, hy1⟩, b1, b2⟩ := Option.bind_eq_some_iff.1 ay
  obtain ⟨my, b3, b4⟩ := Option.map_eq_some_iff.1 b2
  simp only [Prod.mk.injEq] at b4
  obtain ⟨rfl, rfl⟩ := b4
  have act_set : ∀ (z : Slot) (mm : Tm) (hh : T Blk) (d : Option Nat) (v : AV) (mm' : Tm), (∀ d', d = some d' → d' ∉ looks all z.o) → putT mm d v = some mm' → actE E call lo all z mm'.t hh = actE E call lo all z mm.t hh := fun z mm hh d v mm' hd hput => by
    cases d with
    | none => cases hput; rfl
    | some d =>
      simp only [putT] at hput
      cases hlt : Nat.blt d mm.n with
      | false => rw [hlt] at hput; cases hput
      | true =>
        rw [hlt] at hput
        cases hput
        simp only [actE, want_set (hd d rfl)]
        congr 1
        funext w
        congr 1
        congr 1
        exact opE_congr (same_set (hd d rfl))
  have b1' : actE E call lo all y m.t hx1 = some (vy, hy1) := by rw [← act_set y m hx1 x.o.dst vx mx p1 a3]; exact b1
  obtain ⟨h1', c1, c2⟩ := act_swap hcall hx hy hj hb hcc hp.2 hfr a1 b1'
  obtain ⟨m1', d1, d2⟩ : ∃ m1', putT m y.o.dst vy = some m1' ∧ putT m1' x.o.dst vx = some my := by
    cases hxd : x.o.dst with
    | none => rw [hxd] at a3; cases a3; exact ⟨my, b3, rfl⟩
    | some dx =>
      rw [hxd] at a3
      simp only [putT] at a3
      cases hlt : Nat.blt dx m.n with
      | false => rw [hlt] at a3; cases a3
      | true =>
        rw [hlt] at a3
        cases a3
        cases hyd : y.o.dst with
        | none =>
          rw [hyd] at b3
          cases b3
          exact ⟨m, rfl, by simp only [putT, hlt, cond_true]⟩
        | some dy =>
          rw [hyd] at b3
          simp only [putT] at b3
          cases hlt2 : Nat.blt dy m.n with
          | false => rw [hlt2] at b3; cases b3
          | true =>
            rw [hlt2] at b3
            cases b3
            have hne : dx ≠ dy := fun e => p2 dx hxd (by rw [e]; exact hyd)
            refine ⟨⟨m.n, m.t.set dy vy⟩, by simp only [putT, hlt2, cond_true], ?_⟩
            simp only [putT, hlt, cond_true]
            rw [T.set_set _ hne]
  refine ⟨m1', h1', ?_, ?_⟩
  · unfold stepE
    rw [c1]
    simp only [Option.bind_some, d1, Option.map_some]
  · unfold stepE
    rw [act_set x m h1' y.o.dst vy m1' p3 d1, c2]
    simp only [Option.bind_some, d2, Option.map_some]
end
end Go.Proofs.YtaocoplfdhcoaaaGreatDoor.Ev
set_option linter.unusedVariables false
set_option linter.unusedSimpArgs false
namespace Go.Proofs.YtaocoplfdhcoaaaGreatDoor.Ev
open Go Go.RowKit
structure Rel (lo0 N0 : Nat) (W0 : World) (S : Nat → Prop) (μ : Nat → Loc) (m : Tm) (h : T Blk) (a : Act) (w : World) : Prop where
  tr : TR S μ m.t a
  sz : m.n ≤ a.tmps.size
  sim : Sim lo0 N0 S μ h w
  base : Below N0 W0 w
/-- A function that is entered. -/
def Plain (P : Program) (g : Nat) : Prop := ∃ fn c, P.funcs[g]? = some fn ∧ fn.body = some c ∧ (fn.name == "runtime.NumGoroutine") = false
def CallSound (P : Program) (N0 : Nat) (W0 : World) (call : CallT') : Prop := ∀ (lc g : Nat) (as : List AV) (s : St) (v : AV) (s' : St), call lc g as s = some (v, s') → Plain P g ∧ ∀ (lo0 : Nat) (S : Nat → Prop) (μ : Nat → Loc) (w : World), Below N0 W0 w → lo0 ≤ lc → lo0 ≤ s.c → Sim lo0 N0 S μ s.h w → wfs S μ as →
  (∀ b, S b → b < s.c ∨ s'.c ≤ b) → Calls P g (concs μ as).toArray w fun e w' => ∃ u, e = .returned u ∧ HPost lo0 N0 S μ s s' w v u w'
def ExtSound (P : Program) (N0 : Nat) (W0 : World) (E : Env) : Prop := ∀ (g : Nat) (f : List AV → Option AV), E.ext.get g = some f → Plain P g ∧ ∀ (as : List AV) (v : AV), f as = some v → ∀ (S : Nat → Prop) (μ : Nat → Loc) (w : World), Below N0 W0 w → N0 ≤ w.heap.size → wfs S μ as →
  wf S μ v ∧ Calls P g (concs μ as).toArray w fun e w' => e = .returned (conc μ v) ∧ Below w.heap.size w w'
section
variable {P : Program} {E : Env} {call : CallT'} {S S' : Nat → Prop} {μ μ' : Nat → Loc} {m : T AV} {a : Act} {w w' W0 : World} {lo0 N0 lo : Nat}
theorem Sim.below {h : T Blk} (hs : Sim lo0 N0 S μ h w) (hb : Below w.heap.size w w') : Sim lo0 N0 S μ h w' :=
  ⟨Nat.le_trans hs.size hb.size, fun b k hk => by
    obtain ⟨q1, q2, q3, arr, fr, q4, q5, q6, q7⟩ := hs.blk b k hk
    exact ⟨q1, q2, q3, arr, fr, by rw [hb.block _ (Array.getElem?_eq_some_iff.1 q4).1]; exact q4, q5, q6, q7⟩, hs.inj⟩
/-- What an operation leaves behind, whatever it is. -/
def After (lo0 N0 : Nat) (S : Nat → Prop) (μ : Nat → Loc) (s s' : St) (w : World) (v : AV) (k : Value → World → Prop) : Prop := ∀ u w', HPost lo0 N0 S μ s s' w v u w' → k u w'
theorem run_callFunc {g : Nat} (hg : Plain P g) (as : Array Value) (w : World) : (callFunc g as).run P w = .ok (.enter g as) w := by
  obtain ⟨fn, c, h1, h2, h3⟩ := hg
  have h4 : ¬ (fn.name = "runtime.NumGoroutine") := by simpa using h3
  simp [callFunc, h1, h2, h4]
theorem op_ok (hT : TTOk P E.tt) (hX : ExtSound P N0 W0 E) (hC : CallSound P N0 W0 call) (hB : Below N0 W0 w) {lc old : Nat} {s s' : St} (hR : TR S μ m a) (hs : Sim lo0 N0 S μ s.h w) (hlo : lo0 ≤ lo) (hlc : lo0 ≤ lc) (hc : lo0 ≤ s.c) (hf : ∀ b, S b → b < s.c ∨ s'.c ≤ b) {o : Oper} {v : AV}
    (h : opE E call lc lo old m s o.op = some (v, s')) {K : Act → World → Prop} {Q : Exit → Act → World → Prop} (hK : ∀ u w', HPost lo0 N0 S μ s s' w v u w' → K (a.put o.dst u) w') : o.wp P a w K Q := by
  have pure_case : (pureE E m o.op).map (·, s) = some (v, s') → o.wp P a w K Q := fun hp => by
    obtain ⟨u, hu, he⟩ := Option.map_eq_some_iff.1 hp
    cases he
    obtain ⟨p1, p2⟩ := pure_ok (w := w) hT hR hu
    unfold Oper.wp
    rw [p2]
    exact hK _ _ (HPost.same rfl hs p1 (Below.refl _ _))
  have heap_case : heapE E lo m s o.op = some (v, s') → o.wp P a w K Q := fun hp =>
    (heap_ok hT hR hs hlo hc hf hp).2.wp fun u w' hu => hK u w' hu
  have gen : (bif Nat.beq (kindOf E o.op) 0 then (pureE E m o.op).map (·, s) else heapE E lo m s o.op) = some (v, s') → o.wp P a w K Q := fun hp => by
    cases hk : Nat.beq (kindOf E o.op) 0 with
    | true => rw [hk] at hp; exact pure_case hp
    | false => rw [hk] at hp; exact heap_case hp
  cases ho : o.op with
  | load t x =>
    rw [ho] at h heap_case
    simp only [opE] at h
    obtain ⟨u, hu, h2⟩ := Option.bind_eq_some_iff.1 h
    apply heap_case
    simp only [heapE, hu, Option.bind_some]
    split at h2
    · rename_i b q
      cases hb : Nat.blt b old with
      | false => rw [hb] at h2; cases h2
      | true => rw [hb] at h2; exact h2
    · cases h2
  | call c =>
    rw [ho] at h gen
    cases hcal : c.callee with
    | builtin b =>
      apply gen
      simp only [opE, hcal] at h
      exact h
    | invoke r n =>
      apply gen
      simp only [opE, hcal] at h
      exact h
    | value f =>
      simp only [opE, hcal, calleeE] at h
      obtain ⟨⟨g, as⟩, hga, h2⟩ := Option.bind_eq_some_iff.1 h
      obtain ⟨fv, hfv, h3⟩ := Option.bind_eq_some_iff.1 hga
      split at h3
      · rename_i g' cs
        obtain ⟨vs, hvs, he⟩ := Option.map_eq_some_iff.1 h3
        cases he
        obtain ⟨wf1, e1⟩ := rho_ok hR hfv
        obtain ⟨wf2, e2⟩ := args_ok hR hvs
        have wf1' : wfs S μ cs := wf1
        have hwas : wfs S μ (vs ++ cs) := wfs_append wf2 wf1'
        have hexec : Plain P g → (execOp a.eval o).run P w = .ok (.enter g (concs μ (vs ++ cs)).toArray) w := fun hpl => by
          unfold execOp
          rw [ho]
          simp only [resolve, hcal, Sem.run_bind, e1, e2, conc, Deferred.ofValue, Sem.run_pure, Result.andThen, invoke]
          rw [show ((#[] : Array Value) ++ (concs μ vs).toArray ++ (concs μ cs).toArray) = (concs μ (vs ++ cs)).toArray by simp [concs_append]]
          exact run_callFunc hpl _ _
        dsimp only at h2
        split at h2
        · rename_i fx hfx
          obtain ⟨u, hu, he⟩ := Option.map_eq_some_iff.1 h2
          simp only [Prod.mk.injEq] at he
          obtain ⟨rfl, rfl⟩ := he
          obtain ⟨x1, x2⟩ := hX g fx hfx
          obtain ⟨x3, x4⟩ := x2 (vs ++ cs) u hu S μ w hB hs.size hwas
          unfold Oper.wp
          rw [hexec x1, Oper.upon_enter]
          refine x4.mono fun e w' he => ?_
          obtain ⟨rfl, hb⟩ := he
          exact hK _ _ (HPost.same rfl (hs.below hb) x3 (hb.mono hs.size))
        · obtain ⟨x1, x2⟩ := hC lc g (vs ++ cs) s v s' h2
          unfold Oper.wp
          rw [hexec x1, Oper.upon_enter]
          refine (x2 lo0 S μ w hB hlc hc hs hwas hf).mono fun e w' he => ?_
          obtain ⟨u, rfl, hu⟩ := he
          exact hK _ _ hu
      · cases h3
  | _ =>
    apply gen
    rw [ho] at h ⊢
    exact h
end
end Go.Proofs.YtaocoplfdhcoaaaGreatDoor.Ev
set_option linter.unusedVariables false
set_option linter.unusedSimpArgs false
namespace Go.Proofs.YtaocoplfdhcoaaaGreatDoor.Ev
open Go Go.RowKit
section
variable {P : Program} {E : Env} {call : CallT'} {S S' : Nat → Prop} {μ μ' : Nat → Loc} {m : Tm} {h : T Blk} {a : Act} {w w' W0 : World} {lo0 N0 lo c0 : Nat} {all : List Oper} {ops : Array Oper} {draw : Bool} {as : List Nat}
theorem wanted_ok (hR : TR S μ m.t a) (hops : ops.toList = all) {o : Oper} {b : Bool} (hw : wantE all m.t o = some b) : Region.wanted o (yielded ops a.tmps) = b := by
  unfold wantE at hw
  unfold Region.wanted
  split at hw
  · rename_i hg
    cases hw
    rw [hg]
  · rename_i j want hg
    rw [hg]
    obtain ⟨d, hd, h2⟩ := Option.bind_eq_some_iff.1 hw
    obtain ⟨v, hv, h3⟩ := Option.map_eq_some_iff.1 h2
    obtain ⟨_, ht⟩ := hR d v hv
    have hj : (ops[j]?).bind (·.dst) = some d := by
      rw [← hd, ← hops]
      simp
    have hy : yielded ops a.tmps j = (match conc μ v with | .bool b => some b | _ => none) := by
      unfold yielded
      rw [hj]
      simp only [Option.bind_some, ht]
      cases conc μ v <;> rfl
    simp only [hy]
    cases v with
    | bool b' => simp only at h3; rw [← h3]; simp [conc]
    | ptr q => cases q <;> (simp only at h3; rw [← h3]; simp [conc])
    | slice q l c r => cases q <;> cases r <;> (simp only at h3; rw [← h3]; simp [conc])
    | _ => simp only at h3; rw [← h3]; simp [conc]
theorem tr_put {m m1 : Tm} {d : Option Nat} {v : AV} {u : Value} (hR : TR S μ m.t a) (hsz : m.n ≤ a.tmps.size) (hp : putT m d v = some m1) (ha : Agree S μ μ') (hS : ∀ b, S b → S' b) (hv : wf S' μ' v) (hu : u = conc μ' v) :
    TR S' μ' m1.t (a.put d u) ∧ m1.n ≤ (a.put d u).tmps.size := by
  have old : ∀ t x, m.t.get t = some x → wf S' μ' x ∧ a.tmps[t]? = some (conc μ' x) := fun t x hx => by
    obtain ⟨h1, h2⟩ := hR t x hx
    exact ⟨wf_agree ha hS x h1, by rw [conc_agree ha x h1]; exact h2⟩
  cases d with
  | none => cases hp; exact ⟨old, hsz⟩
  | some d =>
    simp only [putT] at hp
    cases hlt : Nat.blt d m.n with
    | false => rw [hlt] at hp; cases hp
    | true =>
      rw [hlt] at hp
      cases hp
      have hd := blt_iff.1 hlt
      refine ⟨fun t x hx => ?_, by simp only [Act.put, Array.size_setIfInBounds]; exact hsz⟩
      simp only [T.get_set] at hx
      simp only [Act.put]
      by_cases e : d = t
      · subst e
        rw [if_pos rfl] at hx
        cases hx
        refine ⟨hv, ?_⟩
        rw [hu]
        simp [show d < a.tmps.size by omega]
      · rw [if_neg e] at hx
        obtain ⟨g1, g2⟩ := old t x hx
        refine ⟨g1, ?_⟩
        simp [Array.getElem?_setIfInBounds, e, g2]
theorem put_defers (a : Act) (d : Option Nat) (u : Value) : (a.put d u).defers = a.defers := by cases d <;> rfl
/-- One slot is run. -/
theorem step_ok (hT : TTOk P E.tt) (hX : ExtSound P N0 W0 E) (hC : CallSound P N0 W0 call) (hops : ops.toList = all) {x : Slot} (hx : SlotOk lo c0 draw E all as x) (hlo : lo0 ≤ lo) (hc0 : lo0 ≤ c0) (hrel : Rel lo0 N0 W0 S μ m h a w) (hf : ∀ b, S b → b < x.c ∨ x.c' ≤ b)
    {m1 : Tm} {h1 : T Blk} (hst : stepE E call lo all x m h = some (m1, h1)) {K : Act → World → Prop} {Q : Exit → Act → World → Prop}
    (hK : ∀ μ' a' w', Agree S μ μ' → Rel lo0 N0 W0 (Plus S x.c x.c') μ' m1 h1 a' w' → a'.defers = a.defers → Below N0 w w' → K a' w') : wpOp P ops Q x.j K a w := by
  have hj : ops[x.j]? = some x.o := by
    have := hx.at_
    rw [← hops] at this
    simpa using this
  unfold wpOp
  rw [hj]
  simp only
  obtain ⟨⟨v, h1'⟩, a1, a2⟩ := Option.bind_eq_some_iff.1 hst
  obtain ⟨m1', a3, a4⟩ := Option.map_eq_some_iff.1 a2
  simp only [Prod.mk.injEq] at a4
  obtain ⟨rfl, rfl⟩ := a4
  obtain ⟨b, hw, b2⟩ := Option.bind_eq_some_iff.1 a1
  rw [wanted_ok hrel.tr hops hw]
  cases b with
  | false =>
    rw [if_neg (by simp)]
    cases b2
    obtain ⟨t1, t2⟩ := tr_put (u := undef) hrel.tr hrel.sz a3 (Agree.refl S μ) (fun b hb => (.inl hb : Plus S x.c x.c' b)) trivial rfl
    exact hK μ _ w (Agree.refl _ _) ⟨t1, t2, hrel.sim.congr fun b hb => .inl hb, hrel.base⟩ (put_defers _ _ _) (Below.refl _ _)
  | true =>
    rw [if_pos rfl]
    left
    obtain ⟨⟨u, s'⟩, hu, b3⟩ := Option.bind_eq_some_iff.1 b2
    cases hcc : Nat.beq s'.c x.c' with
    | false => simp only [hcc] at b3; cases b3
    | true =>
      simp only [hcc] at b3
      cases b3
      have hcc' := beq_iff.1 hcc
      have hlc : lo0 ≤ x.lc := by
        rw [hx.lc]
        have := hx.le.1
        cases draw && !tightB E as x.j 0 all
        · exact hlo
        · simp only [cond_true]; omega
      refine op_ok hT hX hC hrel.base hrel.tr hrel.sim hlo hlc (Nat.le_trans hc0 hx.le.1) (fun b hb => by rw [hcc']; exact hf b hb) hu fun uv w' hp => ?_
      obtain ⟨μ', p1, p2, p3, p4, p5⟩ := hp
      rw [hcc'] at p2 p3
      obtain ⟨t1, t2⟩ := tr_put hrel.tr hrel.sz a3 p1 (fun b hb => (.inl hb : Plus S x.c x.c' b)) p3 p4
      exact hK μ' _ w' p1 ⟨t1, t2, p2, hrel.base.trans p5⟩ (put_defers _ _ _) p5
/-! ### The slots of a run -/
theorem slots_of_run (hcall : CallOk call) (draw : Bool) (c0 : Nat) (as : List Nat) : ∀ (os : List Oper) (j : Nat) (m : Tm) (s : St) (m' : Tm) (s' : St), runE E call draw lo c0 all as j os m s = some (m', s') → c0 ≤ s.c → (∀ k o, os[k]? = some o → all[j + k]? = some o) →
    s.c ≤ s'.c ∧ ∃ R : List Slot, R.map (·.j) = List.range' j os.length ∧ (∀ x ∈ R, SlotOk lo c0 draw E all as x ∧ s.c ≤ x.c ∧ x.c' ≤ s'.c) ∧ R.Pairwise (fun x y => x.j < y.j ∧ x.c' ≤ y.c) ∧ slotsE E call lo all R m s.h = some (m', s'.h)
  | [], j, m, s, m', s', h, hc, ha => by
    cases h
    exact ⟨Nat.le_refl _, [], rfl, fun x hx => by simp at hx, List.Pairwise.nil, rfl⟩
  | o :: os, j, m, s, m', s', h, hc, ha => by
    unfold runE at h
    obtain ⟨b, hw, h2⟩ := Option.bind_eq_some_iff.1 h
    have ha' : ∀ k o', os[k]? = some o' → all[j + 1 + k]? = some o' := fun k o' hk => by
      have := ha (k + 1) o' (by simpa using hk)
      rw [show j + 1 + k = j + (k + 1) by omega]
      exact this
    have ha0 : all[j]? = some o := ha 0 o rfl
    have wrap : ∀ (x : Slot) (m1 : Tm) (s1 : St), x.o = o → x.j = j → x.c = s.c → x.c' = s1.c → s.c ≤ s1.c → (x.lc = bif draw && !tightB E as x.j 0 all then x.c else lo) → (x.old = bif draw && looseB E (as.getD x.j 0) 0 (all.take x.j) then c0 else x.c) →
        stepE E call lo all x m s.h = some (m1, s1.h) → runE E call draw lo c0 all as (j + 1) os m1 s1 = some (m', s') →
        s.c ≤ s'.c ∧ ∃ R : List Slot, R.map (·.j) = List.range' j (o :: os).length ∧ (∀ x ∈ R, SlotOk lo c0 draw E all as x ∧ s.c ≤ x.c ∧ x.c' ≤ s'.c) ∧ R.Pairwise (fun x y => x.j < y.j ∧ x.c' ≤ y.c) ∧ slotsE E call lo all R m s.h = some (m', s'.h) := fun x m1 s1 e1 e2 e3 e4 e5 e6 e7 hst hrun => by
      obtain ⟨g0, R, g1, g2, g3, g4⟩ := slots_of_run hcall draw c0 as os (j + 1) m1 s1 m' s' hrun (by omega) ha'
      refine ⟨by omega, x :: R, ?_, ?_, ?_, ?_⟩
      · rw [List.map_cons, g1, e2, List.length_cons, List.range'_succ]
      · intro y hy
        rcases List.mem_cons.1 hy with rfl | hy
        · exact ⟨⟨by rw [e1, e2]; exact ha0, e6, e7, by omega⟩, by omega, by omega⟩
        · obtain ⟨q1, q2, q3⟩ := g2 y hy
          exact ⟨q1, by omega, q3⟩
      · refine List.pairwise_cons.2 ⟨fun y hy => ?_, g3⟩
        obtain ⟨q1, q2, q3⟩ := g2 y hy
        have hyj : y.j ∈ List.range' (j + 1) os.length := by rw [← g1]; exact List.mem_map_of_mem hy
        have := (List.mem_range'_1.1 hyj).1
        exact ⟨by omega, by omega⟩
      · rw [slotsE, hst]
        exact g4
    cases b with
    | false =>
      simp only [cond_false] at h2
      obtain ⟨m1, hm1, h3⟩ := Option.bind_eq_some_iff.1 h2
      refine wrap ⟨o, j, bif draw && !tightB E as j 0 all then s.c else lo, bif draw && looseB E (as.getD j 0) 0 (all.take j) then c0 else s.c, s.c, s.c⟩ m1 s rfl rfl rfl rfl (Nat.le_refl _) rfl rfl ?_ h3
      simp only [stepE, actE, hw, Option.bind_some, cond_false, hm1, Option.map_some]
    | true =>
      simp only [cond_true] at h2
      obtain ⟨⟨v, s1⟩, hop, h3⟩ := Option.bind_eq_some_iff.1 h2
      obtain ⟨m1, hm1, h4⟩ := Option.bind_eq_some_iff.1 h3
      have hmono := (op_good hcall hop).mono
      refine wrap ⟨o, j, bif draw && !tightB E as j 0 all then s.c else lo, bif draw && looseB E (as.getD j 0) 0 (all.take j) then c0 else s.c, s.c, s1.c⟩ m1 s1 rfl rfl rfl rfl hmono rfl rfl ?_ h4
      simp only [stepE, actE, hw, Option.bind_some, cond_true, hop, beq_self, hm1, Option.map_some]
/-! ### In the text's order -/
theorem in_order (hT : TTOk P E.tt) (hX : ExtSound P N0 W0 E) (hC : CallSound P N0 W0 call) (hops : ops.toList = all) (hlo : lo0 ≤ lo) (hc0 : lo0 ≤ c0) {Q : Exit → Act → World → Prop} {mF : Tm} {hF : T Blk} {SF : Nat → Prop} {draw : Bool} {as : List Nat} :
    ∀ (R : List Slot) (S : Nat → Prop) (μ : Nat → Loc) (m : Tm) (h : T Blk) (a : Act) (w : World), (∀ x ∈ R, SlotOk lo c0 draw E all as x) → R.Pairwise (fun x y => x.j < y.j ∧ x.c' ≤ y.c) → Rel lo0 N0 W0 S μ m h a w → (∀ x ∈ R, ∀ b, S b → b < x.c ∨ x.c' ≤ b) → slotsE E call lo all R m h = some (mF, hF) →
      (∀ b, S b → SF b) → (∀ x ∈ R, ∀ b, x.c ≤ b → b < x.c' → SF b) → (∀ μ' a' w', Agree S μ μ' → Rel lo0 N0 W0 SF μ' mF hF a' w' → a'.defers = a.defers → Below N0 w w' → Q .normal a' w') → wpOps P ops Q (R.map (·.j)) a w
  | [], S, μ, m, h, a, w, hR, hp, hrel, hf, hs, hSF, hSR, hQ => by
    cases hs
    exact hQ μ a w (Agree.refl _ _) ⟨fun t v hv => ⟨wf_agree (Agree.refl _ _) hSF v (hrel.tr t v hv).1, (hrel.tr t v hv).2⟩, hrel.sz, hrel.sim.congr hSF, hrel.base⟩ rfl (Below.refl _ _)
  | x :: R, S, μ, m, h, a, w, hR, hp, hrel, hf, hs, hSF, hSR, hQ => by
    rw [List.map_cons, wpOps_cons]
    obtain ⟨⟨m1, h1⟩, s1, s2⟩ := Option.bind_eq_some_iff.1 hs
    obtain ⟨p1, p2⟩ := List.pairwise_cons.1 hp
    refine step_ok hT hX hC hops (hR x List.mem_cons_self) hlo hc0 hrel (hf x List.mem_cons_self) s1 fun μ1 a1 w1 g1 g2 g3 g4 => ?_
    refine in_order hT hX hC hops hlo hc0 R (Plus S x.c x.c') μ1 m1 h1 a1 w1 (fun y hy => hR y (List.mem_cons_of_mem _ hy)) p2 g2 (fun y hy b hb => ?_) s2 (fun b hb => ?_) (fun y hy => hSR y (List.mem_cons_of_mem _ hy)) fun μ2 a2 w2 k1 k2 k3 k4 => ?_
    · rcases hb with hb | hb
      · exact hf y (List.mem_cons_of_mem _ hy) b hb
      · have := (p1 y hy).2
        exact .inl (by omega)
    · rcases hb with hb | hb
      · exact hSF b hb
      · exact hSR x List.mem_cons_self b hb.1 hb.2
    · exact hQ μ2 a2 w2 (fun b hb => (k1 b (.inl hb)).trans (g1 b hb)) k2 (k3.trans g3) (g4.trans k4)
end
end Go.Proofs.YtaocoplfdhcoaaaGreatDoor.Ev

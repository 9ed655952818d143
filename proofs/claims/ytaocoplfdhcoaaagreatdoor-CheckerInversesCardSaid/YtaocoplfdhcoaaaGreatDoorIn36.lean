/- Slices of structures that grow. -/
import Derived.Test.YtaocoplfdhcoaaaGreatDoorIn35
import Derived.Test.YtaocoplfdhcoaaaGreatDoorIn24
set_option linter.unusedVariables false
set_option linter.unusedSimpArgs false
namespace Go.Proofs.YtaocoplfdhcoaaaGreatDoor.EvA
open Go Go.RowKit Go.Proofs.YtaocoplfdhcoaaaGreatDoor.Ev
theorem appE_own' {c0 lo e z bytes : Nat} {s : St} {cs new : List AV} {v : AV} (hlo : lo ≤ c0) (hc : c0 ≤ s.c) (hz : z ≠ 0) (h : Own c0 s e z cs v) (hF : Fresh s) (hnew : new.length = z) (hone : ones new = true) (hcs : ones cs = true) (hb : (cs.length + 1) * (bytes + 1) ≤ 70368744177664) :
    ∃ v' s', appE lo s e z bytes 1 new v = some (v', s') ∧ Own c0 s' e z (cs ++ new) v' ∧ Fresh s' ∧ Kept c0 s s' ∧ s'.c = s.c + 1 ∧ (s'.h = s.h.set s.c ⟨e, cs ++ new⟩ ∨ ∃ b, s.h.get b = some ⟨e, cs⟩ ∧ s'.h = (s.h.del b).set s.c ⟨e, cs ++ new⟩) := by
  have ones_app : ones (cs ++ new) = true := by
    clear h hb hnew
    induction cs with
    | nil => exact hone
    | cons x xs ih =>
      rw [ones, Bool.and_eq_true] at hcs
      rw [List.cons_append, ones, Bool.and_eq_true]
      exact ⟨hcs.1, ih hcs.2⟩
  have hb1 : ∀ n, n * z = cs.length → (n + 1) * bytes ≤ 70368744177664 ∧ n + 1 ≤ 70368744177664 := fun n hn => by
    have h1 : n ≤ cs.length := by rw [← hn]; exact Nat.le_mul_of_pos_right _ (by omega)
    have h2 : (n + 1) * (bytes + 1) ≤ (cs.length + 1) * (bytes + 1) := Nat.mul_le_mul_right _ (by omega)
    have h3 : (n + 1) * bytes ≤ (n + 1) * (bytes + 1) := Nat.mul_le_mul_left _ (by omega)
    have h4 : n + 1 ≤ (n + 1) * (bytes + 1) := Nat.le_mul_of_pos_right _ (by omega)
    omega
  rcases h with ⟨rfl, rfl⟩ | ⟨b, n, rfl, h1, h2, h3, h4⟩
  · obtain ⟨g1, g2⟩ := hb1 0 (by simp)
    refine ⟨.slice (some (s.c, 0)) 1 1 z, ⟨s.h.set s.c ⟨e, new⟩, s.c + 1⟩, ?_, .inr ⟨s.c, 1, rfl, hc, by simp [T.get_set], by simp [hnew], by simp⟩, fun b hb => ?_, ⟨Nat.le_succ _, fun b hb => ?_⟩, rfl, .inl rfl⟩
    · simp only [appE, show Nat.beq 1 0 = false from rfl, cond_false, growE, newAt, List.nil_append, hone, cond_true, Option.map_some]
      rw [ble_iff.2 (by simpa using g1), ble_iff.2 (by simp)]
      rfl
    · simp only at hb ⊢
      rw [T.get_set, if_neg (by omega)]
      exact hF b (by omega)
    · simp only
      rw [T.get_set, if_neg (by omega)]
  · obtain ⟨g1, g2⟩ := hb1 n h3.symm
    have hbc : b < s.c := hF.lt b _ h2
    have hcell : cellsAt s.h b 0 (n * z) = some cs := by
      unfold cellsAt
      rw [h2, Option.bind_some]
      simp only [Nat.zero_add, List.drop_zero]
      rw [ble_iff.2 (by omega), cond_true, List.take_of_length_le (by omega)]
    have hroom : Nat.ble (n + 1) n = false := by
      cases hq : Nat.ble (n + 1) n with
      | false => rfl
      | true => have := ble_iff.1 hq; omega
    have hzb : Nat.beq z 0 = false := by
      cases hq : Nat.beq z 0 with
      | false => rfl
      | true => exact absurd (beq_iff.1 hq) hz
    have hty : tyB s.h b e = true := by unfold tyB; rw [h2]; exact beq_self e
    refine ⟨.slice (some (s.c, 0)) (n + 1) (n + 1) z, ⟨(s.h.del b).set s.c ⟨e, cs ++ new⟩, s.c + 1⟩, ?_, .inr ⟨s.c, n + 1, rfl, hc, by simp [T.get_set], by rw [List.length_append, h3, hnew, Nat.add_mul]; omega, by omega⟩, fun b' hb => ?_, ⟨Nat.le_succ _, fun b' hb => ?_⟩, rfl, .inr ⟨b, h2, rfl⟩⟩
    · simp only [appE, show Nat.beq 1 0 = false from rfl, cond_false, ble_iff.2 g1, ble_iff.2 g2, Bool.and_self, cond_true, hroom, hzb, beq_self, ble_iff.2 (show lo ≤ b by omega), hty, hcell, Option.bind_some, growE, newAt, ones_app, Option.map_some]
    · simp only at hb ⊢
      rw [T.get_set, if_neg (by omega), T.get_del, if_neg (by omega)]
      exact hF b' (by omega)
    · simp only
      rw [T.get_set, if_neg (by omega), T.get_del, if_neg (by omega)]
theorem SeqR.appH {lo c0 c1 b j d t e z : Nat} {draw : Bool} {acs : List Nat} {all os : List Oper} {o : Oper} {m : Tm} {s : St} {K : Tm → St → Prop} {x y : Operand} {v : AV} {cs new : List AV} {i ji : TI} (hw : wantE all m.t o = some true) (ho : o.op = .call { callee := .builtin .append, args := #[x, y], argTypes := #[t, t] }) (hd : o.dst = some d) (hlt : Nat.blt d m.n = true)
    (ht : E.tt.get t = some i) (hk : i.k = .slice e) (hj : E.tt.get e = some ji) (hz : ji.size = z) (hz0 : z ≠ 0) (hx : rho m.t x = some v) (hy : rho m.t y = some (.slice (some (b, 0)) 1 1 0)) (hb : s.h.get b = some ⟨e, new⟩) (hnew : new.length = z) (hone : ones new = true) (hlo : lo ≤ c0) (hc : c0 ≤ s.c) (hown : Own c0 s e z cs v) (hF : Fresh s) (hcs : ones cs = true) (hlen : (cs.length + 1) * (ji.bytes + 1) ≤ 70368744177664)
    (k : ∀ v' s', Own c0 s' e z (cs ++ new) v' → Fresh s' → Kept c0 s s' → s'.c = s.c + 1 → (s'.h = s.h.set s.c ⟨e, cs ++ new⟩ ∨ ∃ b, s.h.get b = some ⟨e, cs⟩ ∧ s'.h = (s.h.del b).set s.c ⟨e, cs ++ new⟩) → SeqR E lo draw c1 acs all (j + 1) os ⟨m.n, m.t.set d v'⟩ s' K) : SeqR E lo draw c1 acs all j (o :: os) m s K := by
  subst hz
  obtain ⟨v', s', h1, h2, h3, h4, h5, h6⟩ := appE_own' (bytes := ji.bytes) (new := new) hlo hc hz0 hown hF hnew hone hcs hlen
  refine SeqR.gen (n0 := 0) hw ?_ (by rw [hd]; exact putK_some hlt (k v' s' h2 h3 h4 h5 h6))
  rw [ho, ← h1]
  have hbz : Nat.beq ji.size 0 = false := by
    cases hq : Nat.beq ji.size 0 with
    | false => rfl
    | true => exact absurd (beq_iff.1 hq) hz0
  have htk : takeE s.h ji.size 1 (.slice (some (b, 0)) 1 1 0) = some new := by
    simp only [takeE, show Nat.beq 1 0 = false from rfl, cond_false, cellsAt, hb, Option.bind_some, Nat.one_mul, Nat.zero_add, hnew, ble_iff.2 (Nat.le_refl _), cond_true, List.drop_zero]
    rw [List.take_of_length_le (by omega)]
  simp only [opE, kindOf, show Nat.beq 4 0 = false from rfl, cond_false, heapE, ht, hk, hj, Option.bind_some, List.toList_toArray, List.getElem?_toArray, List.getElem?_cons_zero, List.getElem?_cons_succ, rhos, hx, hy, Option.map_some, hbz, lenOfE, htk]
/-- No integer among the cells. -/
def NoInt (k : Blk) : Prop := ∀ x ∈ k.cells, ∀ kd n, x ≠ .int kd n
/-- What may have changed: blocks without integers, and new ones. -/
def Chg (h h' : T Blk) : Prop := ∀ b k, h.get b = some k → h'.get b = some k ∨ NoInt k
theorem Chg.refl (h : T Blk) : Chg h h := fun b k hb => .inl hb
theorem Row.chg {h h' : T Blk} {cs : List AV} {v : AV} (hr : Row h 1 cs v) (hi : ∀ x ∈ cs, ∃ k n, x = .int k n) (hc : Chg h h') : Row h' 1 cs v := by
  unfold Row at hr ⊢
  split at hr
  · exact hr
  · rename_i b o n c q
    refine ⟨hr.1, hr.2.1, hr.2.2.1, fun hn => ?_⟩
    have h2 := hr.2.2.2 hn
    cases hg : h.get b with
    | none => unfold cellsAt at h2; rw [hg] at h2; cases h2
    | some k0 =>
      rcases hc b k0 hg with h3 | h3
      · unfold cellsAt at h2 ⊢
        rw [h3]
        rw [hg] at h2
        exact h2
      · exfalso
        unfold cellsAt at h2
        rw [hg, Option.bind_some] at h2
        cases hle : Nat.ble (o + n * 1) k0.cells.length with
        | false => rw [hle] at h2; cases h2
        | true =>
          rw [hle] at h2
          simp only [cond_true, Option.some.injEq] at h2
          have h4 := hr.1
          cases cs with
          | nil => simp at h4; omega
          | cons z zs =>
            obtain ⟨k, nn, rfl⟩ := hi z List.mem_cons_self
            have : AV.int k nn ∈ (k0.cells.drop o).take (n * 1) := by rw [h2]; exact List.mem_cons_self
            exact h3 _ (List.mem_of_mem_drop (List.mem_of_mem_take this)) _ _ rfl
  · exact hr
  · exact hr.elim
theorem ints_ints (xs : List Nat) : ∀ x ∈ ints xs, ∃ k n, x = .int k n := fun x hx => by
  obtain ⟨n, _, rfl⟩ := List.mem_map.1 hx
  exact ⟨_, _, rfl⟩
theorem zints_ints (xs : List Int) : ∀ x ∈ zints xs, ∃ k n, x = .int k n := fun x hx => by
  obtain ⟨n, _, rfl⟩ := List.mem_map.1 hx
  exact ⟨_, _, rfl⟩
theorem WZ.chg {h h' : T Blk} {z : Int} {v : AV} (hv : WZ h z v) (hc : Chg h h') : WZ h' z v := by
  obtain ⟨x, ⟨d, rfl, hd⟩, hw⟩ := hv
  exact ⟨x, ⟨d, rfl, Row.chg hd (ints_ints _) hc⟩, hw⟩
theorem RW.chg {h h' : T Blk} {zs : List Int} {cs : List AV} (hv : RW h zs cs) (hc : Chg h h') : RW h' zs cs := ⟨hv.1, fun i z hi => by
  obtain ⟨a, d, h1, h2, h3⟩ := hv.2 i z hi
  exact ⟨a, d, h1, h2, h3.chg hc⟩⟩
theorem RZ.chg {h h' : T Blk} {zs : List Int} {v : AV} (hv : RZ h zs v) (hc : Chg h h') : RZ h' zs v := Row.chg hv (zints_ints _) hc
theorem ones_append {xs ys : List AV} (h1 : ones xs = true) (h2 : ones ys = true) : ones (xs ++ ys) = true := by
  induction xs with
  | nil => exact h2
  | cons x xs ih =>
    rw [ones, Bool.and_eq_true] at h1
    rw [List.cons_append, ones, Bool.and_eq_true]
    exact ⟨h1.1, ih h1.2⟩
/-- The cells of a row of whole numbers hold no integer. -/
theorem RW.noint {h : T Blk} {zs : List Int} {cs : List AV} (hv : RW h zs cs) : ∀ x ∈ cs, ∀ kd n, x ≠ .int kd n := by
  intro x hx kd n e
  subst e
  obtain ⟨i, hi, he⟩ := List.mem_iff_getElem.1 hx
  have hl := hv.1
  have hlt : i / 2 < zs.length := by omega
  obtain ⟨a, d, h1, h2, x, ⟨d', hd, hr⟩, _⟩ := hv.2 (i / 2) _ (List.getElem?_eq_getElem hlt)
  simp only [wv, AV.agg.injEq, List.cons.injEq, and_true] at hd
  obtain ⟨rfl, rfl⟩ := hd
  have hg : cs[i]? = some (.int kd n) := by rw [List.getElem?_eq_getElem hi, he]
  by_cases hp : i % 2 = 0
  · rw [show i / 2 * 2 = i by omega, hg] at h1
    cases h1
  · rw [show i / 2 * 2 + 1 = i by omega, hg] at h2
    cases h2
    exact hr.elim
theorem chg_app {s : St} {h' : T Blk} {e : Nat} {zs : List Int} {cs new : List AV} (hF : Fresh s) (hW : RW s.h zs cs) (h : h' = s.h.set s.c ⟨e, cs ++ new⟩ ∨ ∃ b, s.h.get b = some ⟨e, cs⟩ ∧ h' = (s.h.del b).set s.c ⟨e, cs ++ new⟩) : Chg s.h h' := by
  intro b k hb
  have hlt := hF.lt b k hb
  rcases h with rfl | ⟨b0, h0, rfl⟩
  · rw [T.get_set, if_neg (by omega)]; exact .inl hb
  · rw [T.get_set, if_neg (by omega), T.get_del]
    by_cases e1 : b0 = b
    · subst e1
      rw [h0] at hb
      cases hb
      exact .inr hW.noint
    · rw [if_neg e1]; exact .inl hb
end Go.Proofs.YtaocoplfdhcoaaaGreatDoor.EvA
set_option linter.unusedVariables false
set_option linter.unusedSimpArgs false
namespace Go.Proofs.YtaocoplfdhcoaaaGreatDoor.EvA
open Go Go.RowKit Go.Proofs.YtaocoplfdhcoaaaGreatDoor.Ev
/-- Slices alone among the cells. -/
def AllSl (k : Blk) : Prop := ∀ x ∈ k.cells, ∃ a n c q, x = .slice a n c q
def Chg2 (h h' : T Blk) : Prop := ∀ b k, h.get b = some k → h'.get b = some k ∨ AllSl k
theorem Row.chg2 {h h' : T Blk} {z : Nat} {cs : List AV} {v : AV} (hz : z ≠ 0) (hr : Row h z cs v) (hh : ∀ x, cs.head? = some x → ∀ a n c q, x ≠ .slice a n c q) (hc : Chg2 h h') : Row h' z cs v := by
  unfold Row at hr ⊢
  split at hr
  · exact hr
  · rename_i b o n c q
    refine ⟨hr.1, hr.2.1, hr.2.2.1, fun hn => ?_⟩
    have h2 := hr.2.2.2 hn
    cases hg : h.get b with
    | none => unfold cellsAt at h2; rw [hg] at h2; cases h2
    | some k0 =>
      rcases hc b k0 hg with h3 | h3
      · unfold cellsAt at h2 ⊢
        rw [h3]
        rw [hg] at h2
        exact h2
      · exfalso
        unfold cellsAt at h2
        rw [hg, Option.bind_some] at h2
        cases hle : Nat.ble (o + n * z) k0.cells.length with
        | false => rw [hle] at h2; cases h2
        | true =>
          rw [hle] at h2
          simp only [cond_true, Option.some.injEq] at h2
          have h4 := hr.1
          cases cs with
          | nil =>
            simp only [List.length_nil] at h4
            rcases Nat.mul_eq_zero.1 h4.symm with h5 | h5
            · exact hn h5
            · exact hz h5
          | cons y ys =>
            have : y ∈ (k0.cells.drop o).take (n * z) := by rw [h2]; exact List.mem_cons_self
            obtain ⟨a, m, cc, qq, e⟩ := h3 y (List.mem_of_mem_drop (List.mem_of_mem_take this))
            exact hh y rfl a m cc qq e
  · exact hr
  · exact hr.elim
theorem ints_head (xs : List Nat) : ∀ x, (ints xs).head? = some x → ∀ a n c q, x ≠ .slice a n c q := fun x hx a n c q e => by
  cases xs with
  | nil => simp [ints] at hx
  | cons y ys => simp [ints] at hx; rw [← hx] at e; cases e
theorem zints_head (xs : List Int) : ∀ x, (zints xs).head? = some x → ∀ a n c q, x ≠ .slice a n c q := fun x hx a n c q e => by
  cases xs with
  | nil => simp [zints] at hx
  | cons y ys => simp [zints] at hx; rw [← hx] at e; cases e
theorem WZ.chg2 {h h' : T Blk} {z : Int} {v : AV} (hv : WZ h z v) (hc : Chg2 h h') : WZ h' z v := by
  obtain ⟨x, ⟨d, rfl, hd⟩, hw⟩ := hv
  exact ⟨x, ⟨d, rfl, Row.chg2 (by decide) hd (ints_head _) hc⟩, hw⟩
theorem RW.chg2 {h h' : T Blk} {zs : List Int} {cs : List AV} (hv : RW h zs cs) (hc : Chg2 h h') : RW h' zs cs := ⟨hv.1, fun i z hi => by
  obtain ⟨a, d, h1, h2, h3⟩ := hv.2 i z hi
  exact ⟨a, d, h1, h2, h3.chg2 hc⟩⟩
theorem RW.head {h : T Blk} {zs : List Int} {cs : List AV} (hv : RW h zs cs) : ∀ x, cs.head? = some x → ∀ a n c q, x ≠ .slice a n c q := fun x hx a n c q e => by
  cases zs with
  | nil =>
    have hl := hv.1
    simp at hl
    rw [hl] at hx
    cases hx
  | cons z zs =>
    obtain ⟨a', d, h1, _, y, ⟨d', hd, _⟩, _⟩ := hv.2 0 z rfl
    rw [Nat.zero_mul, ← List.head?_eq_getElem?, hx] at h1
    cases h1
    simp only [wv, AV.agg.injEq, List.cons.injEq] at hd
    rw [hd.1] at e
    cases e
/-- A row of whole numbers as a value; a matrix of them. -/
def RWV (h : T Blk) (zs : List Int) (v : AV) : Prop := ∃ cs, Row h 2 cs v ∧ RW h zs cs
theorem RWV.chg2 {h h' : T Blk} {zs : List Int} {v : AV} (hv : RWV h zs v) (hc : Chg2 h h') : RWV h' zs v := by
  obtain ⟨cs, h1, h2⟩ := hv
  exact ⟨cs, Row.chg2 (by decide) h1 h2.head hc, h2.chg2 hc⟩
theorem RWV.keep {s s' : St} {zs : List Int} {v : AV} {c0 : Nat} (hv : RWV s.h zs v) (hF : Lt c0 s) (hk : Kept c0 s s') : RWV s'.h zs v := by
  obtain ⟨cs, h1, h2⟩ := hv
  exact ⟨cs, h1.keep hF hk, h2.keep hF hk⟩
end Go.Proofs.YtaocoplfdhcoaaaGreatDoor.EvA

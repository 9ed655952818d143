/- append of many elements; slices.Clone, Grow, Concat of symbols, run. No condition. -/
import Derived.Test.YtaocoplfdhcoaaaGreatDoorSp36
import Derived.Test.YtaocoplfdhcoaaaGreatDoorSp25
set_option linter.unusedVariables false
set_option linter.unusedSimpArgs false
set_option maxRecDepth 20000
set_option maxHeartbeats 2000000
namespace Go.Proofs.YtaocoplfdhcoaaaGreatDoor.EvA
open Go Go.RowKit Go.Proofs.YtaocoplfdhcoaaaGreatDoor.Ev
theorem fn31' : E.fns.get 31 = some Tryz.f31 := by kernel_rfl
theorem hy31 : E.tt.get 3 = some ⟨.int .i64, 1, 8, .int .i64 0⟩ ∧ szE E 3 = some 1 ∧ E.tt.get 9 = some ⟨.str, 1, 16, .str []⟩ ∧ szE E 9 = some 1 ∧ E.tt.get 25 = some ⟨.slice 3, 1, 24, .slice none 0 0 0⟩ ∧ szE E 25 = some 1 ∧ E.tt.get 40 = some ⟨.slice 47, 1, 24, .slice none 0 0 0⟩ ∧ szE E 40 = some 1 ∧ E.tt.get 47 = some ⟨.struct [(0, 9), (1, 25)], 2, 40, .agg [.str [], .slice none 0 0 0]⟩ ∧ szE E 47 = some 2 := ⟨rfl, rfl, rfl, rfl, rfl, rfl, rfl, rfl, rfl, rfl⟩
theorem fn214' : E.fns.get 214 = some Tryz.f214 := by kernel_rfl
theorem hy214 : E.tt.get 3 = some ⟨.int .i64, 1, 8, .int .i64 0⟩ ∧ szE E 3 = some 1 ∧ E.tt.get 9 = some ⟨.str, 1, 16, .str []⟩ ∧ szE E 9 = some 1 ∧ E.tt.get 25 = some ⟨.slice 3, 1, 24, .slice none 0 0 0⟩ ∧ szE E 25 = some 1 ∧ E.tt.get 40 = some ⟨.slice 47, 1, 24, .slice none 0 0 0⟩ ∧ szE E 40 = some 1 ∧ E.tt.get 47 = some ⟨.struct [(0, 9), (1, 25)], 2, 40, .agg [.str [], .slice none 0 0 0]⟩ ∧ szE E 47 = some 2 := ⟨rfl, rfl, rfl, rfl, rfl, rfl, rfl, rfl, rfl, rfl⟩
theorem fn114' : E.fns.get 114 = some Tryz.f114 := by kernel_rfl
theorem hy114 : E.tt.get 3 = some ⟨.int .i64, 1, 8, .int .i64 0⟩ ∧ szE E 3 = some 1 ∧ E.tt.get 9 = some ⟨.str, 1, 16, .str []⟩ ∧ szE E 9 = some 1 ∧ E.tt.get 25 = some ⟨.slice 3, 1, 24, .slice none 0 0 0⟩ ∧ szE E 25 = some 1 ∧ E.tt.get 40 = some ⟨.slice 47, 1, 24, .slice none 0 0 0⟩ ∧ szE E 40 = some 1 ∧ E.tt.get 47 = some ⟨.struct [(0, 9), (1, 25)], 2, 40, .agg [.str [], .slice none 0 0 0]⟩ ∧ szE E 47 = some 2 ∧ E.tt.get 284 = some ⟨.slice 40, 1, 24, .slice none 0 0 0⟩ ∧ szE E 284 = some 1 := ⟨rfl, rfl, rfl, rfl, rfl, rfl, rfl, rfl, rfl, rfl, rfl, rfl⟩
theorem beq_f {a b : Nat} (h : a ≠ b) : Nat.beq a b = false := by
  cases hq : Nat.beq a b with
  | false => rfl
  | true => exact absurd (beq_iff.1 hq) h
theorem ble_f {a b : Nat} (h : b < a) : Nat.ble a b = false := by
  cases hq : Nat.ble a b with
  | false => rfl
  | true => have := ble_iff.1 hq; omega
theorem ones_all {xs : List AV} : ones xs = true ↔ ∀ v ∈ xs, v.one = true := by
  induction xs with
  | nil => simp [ones]
  | cons x xs ih => simp [ones, ih]
theorem row_take {h : T Blk} {z n : Nat} {new : List AV} {w : AV} (hr : Row h z new w) (hz : z ≠ 0) (hn : new.length = n * z) : lenOfE w = some n ∧ takeE h z n w = some new := by
  unfold Row at hr
  split at hr
  · obtain ⟨rfl, rfl, rfl⟩ := hr
    have : n = 0 := by
      rcases Nat.mul_eq_zero.1 (show n * z = 0 by simpa using hn.symm) with h | h
      · exact h
      · exact absurd h hz
    subst this
    exact ⟨rfl, rfl⟩
  · rename_i b o m c q
    obtain ⟨h1, _, _, h4⟩ := hr
    obtain rfl : n = m := Nat.eq_of_mul_eq_mul_right (by omega) (hn.symm.trans h1)
    refine ⟨rfl, ?_⟩
    by_cases h0 : n = 0
    · subst h0
      have : new = [] := List.eq_nil_of_length_eq_zero (by simpa using hn)
      subst this
      rfl
    · simp only [takeE, beq_f h0, cond_false]
      exact h4 h0
  · subst hr
    have : n = 0 := by
      rcases Nat.mul_eq_zero.1 (show n * z = 0 by simpa using hn.symm) with h | h
      · exact h
      · exact absurd h hz
    subst this
    exact ⟨rfl, rfl⟩
  · exact hr.elim
theorem appE_grom {c0 lo e z bytes n : Nat} {s : St} {cs new : List AV} {v : AV} (hlo : lo ≤ c0) (hc : c0 ≤ s.c) (hz : z ≠ 0) (h : Gro c0 s e z cs v) (hF : Fresh s) (hnew : new.length = n * z) (hone : ones new = true) (hcs : ones cs = true) (hb : (cs.length + new.length + 1) * (bytes + 1) ≤ 70368744177664) :
    ∃ v' s', appE lo s e z bytes n new v = some (v', s') ∧ Gro c0 s' e z (cs ++ new) v' ∧ Fresh s' ∧ Kept c0 s s' ∧ Lost cs s.h s'.h := by
  have same : Gro c0 s e z cs v → n = 0 → Gro c0 s e z (cs ++ new) v := fun h hn => by
    have : new = [] := List.eq_nil_of_length_eq_zero (by rw [hnew, hn]; simp)
    rw [this, List.append_nil]
    exact h
  have refl : Lost cs s.h s.h := fun b k hb => .inl hb
  have hbn : ∀ m, m * z = cs.length → (m + n) * bytes ≤ 70368744177664 ∧ m + n ≤ 70368744177664 := fun m hm => by
    have h1 : m + n ≤ cs.length + new.length := by rw [← hm, hnew, ← Nat.add_mul]; exact Nat.le_mul_of_pos_right _ (by omega)
    have h2 : (m + n) * (bytes + 1) ≤ (cs.length + new.length + 1) * (bytes + 1) := Nat.mul_le_mul_right _ (by omega)
    have h3 : (m + n) * bytes ≤ (m + n) * (bytes + 1) := Nat.mul_le_mul_left _ (by omega)
    have h4 : m + n ≤ (m + n) * (bytes + 1) := Nat.le_mul_of_pos_right _ (by omega)
    omega
  have newL : Lost cs s.h (s.h.set s.c ⟨e, cs ++ new⟩) := fun b k hk => by
    have := hF.lt b k hk
    rw [T.get_set, if_neg (by omega)]
    exact .inl hk
  by_cases hn : n = 0
  · rcases h with (⟨rfl, rfl⟩ | ⟨b, m, rfl, h1, h2, h3, h4⟩) | ⟨b, rfl, rfl⟩
    · exact ⟨_, s, by subst hn; rfl, same (.inl (.inl ⟨rfl, rfl⟩)) hn, hF, Kept.refl _ _, refl⟩
    · exact ⟨_, s, by subst hn; simp only [appE, show Nat.beq 0 0 = true from rfl, cond_true, ble_iff.2 (Nat.le_refl m)], same (.inl (.inr ⟨b, m, rfl, h1, h2, h3, h4⟩)) hn, hF, Kept.refl _ _, refl⟩
    · exact ⟨_, s, by subst hn; rfl, same (.inr ⟨b, rfl, rfl⟩) hn, hF, Kept.refl _ _, refl⟩
  · rcases h with (⟨rfl, rfl⟩ | ⟨b, m, rfl, h1, h2, h3, h4⟩) | ⟨b, rfl, rfl⟩
    · obtain ⟨g1, g2⟩ := hbn 0 (by simp)
      rw [Nat.zero_add] at g1 g2
      refine ⟨.slice (some (s.c, 0)) n n z, ⟨s.h.set s.c ⟨e, new⟩, s.c + 1⟩, ?_, .inl (.inr ⟨s.c, n, rfl, hc, by simp [T.get_set], by simpa using hnew, hn⟩), fresh_new hF _, kept_new (Kept.refl _ _) hc _, newL⟩
      simp only [appE, beq_f hn, cond_false, ble_iff.2 g1, ble_iff.2 g2, Bool.and_self, cond_true, growE, newAt, List.nil_append, hone, Option.map_some, Nat.zero_add]
    · obtain ⟨g1, g2⟩ := hbn m h3.symm
      have hbc : b < s.c := hF.lt b _ h2
      have hcell : cellsAt s.h b 0 (m * z) = some cs := cells_box h2 h3
      have hty : tyB s.h b e = true := by unfold tyB; rw [h2]; exact beq_self e
      refine ⟨.slice (some (s.c, 0)) (m + n) (m + n) z, ⟨(s.h.del b).set s.c ⟨e, cs ++ new⟩, s.c + 1⟩, ?_, .inl (.inr ⟨s.c, m + n, rfl, hc, by simp [T.get_set], by rw [List.length_append, h3, hnew, Nat.add_mul], by omega⟩), fun b' hb' => ?_, ⟨Nat.le_succ _, fun b' hb' => ?_⟩, fun b' k hk => ?_⟩
      · simp only [appE, beq_f hn, cond_false, ble_iff.2 g1, ble_iff.2 g2, Bool.and_self, cond_true, ble_f (show m < m + n by omega), beq_f hz, beq_self, ble_iff.2 (show lo ≤ b by omega), hty, hcell, Option.bind_some, growE, newAt, ones_append hcs hone, Option.map_some]
      · simp only at hb' ⊢
        rw [T.get_set, if_neg (by omega), T.get_del, if_neg (by omega)]
        exact hF b' (by omega)
      · simp only
        rw [T.get_set, if_neg (by omega), T.get_del, if_neg (by omega)]
      · have := hF.lt b' k hk
        simp only
        rw [T.get_set, if_neg (by omega), T.get_del]
        by_cases e1 : b = b'
        · subst e1; rw [h2] at hk; cases hk; exact .inr rfl
        · rw [if_neg e1]; exact .inl hk
    · obtain ⟨g1, g2⟩ := hbn 0 (by simp)
      rw [Nat.zero_add] at g1 g2
      refine ⟨.slice (some (s.c, 0)) n n z, ⟨s.h.set s.c ⟨e, new⟩, s.c + 1⟩, ?_, .inl (.inr ⟨s.c, n, rfl, hc, by simp [T.get_set], by simpa using hnew, hn⟩), fresh_new hF _, kept_new (Kept.refl _ _) hc _, newL⟩
      simp only [appE, beq_f hn, cond_false, Nat.zero_add, ble_iff.2 g1, ble_iff.2 g2, Bool.and_self, cond_true, ble_f (show 0 < n by omega), nb00, takeE, Option.bind_some, growE, newAt, List.nil_append, hone, Option.map_some]
section
variable {lo c0 c1 j n d t0 e z : Nat} {t : T AV} {s : St} {all os : List Oper} {o : Oper} {K : Tm → St → Prop} {draw : Bool} {acs : List Nat}
/-- append(x, y...), whatever y is. -/
theorem appM {x y : Operand} {v w : AV} {cs new : List AV} {m : Nat} {i : TI} (ji : TI) (c0 : Nat) (hown : Gro c0 s e z cs v) (hF : Fresh s) (hrow : Row s.h z new w) (hnew : new.length = m * z) (hcs : ones cs = true) (hone : ones new = true) (hlen : (cs.length + new.length + 1) * (ji.bytes + 1) ≤ 70368744177664) (hlo : lo ≤ c0) (hc : c0 ≤ s.c)
    (k : ∀ v' s', Gro c0 s' e z (cs ++ new) v' → Fresh s' → Kept c0 s s' → Lost cs s.h s'.h → SeqR E lo draw c1 acs all (j + 1) os ⟨n, t.set d v'⟩ s' K) (hw : wantE all t o = some true := by rfl) (ho : o.op = .call { callee := .builtin .append, args := #[x, y], argTypes := #[t0, t0] } := by rfl) (ht : E.tt.get t0 = some i := by rfl) (hk : i.k = .slice e := by rfl) (hj : E.tt.get e = some ji := by rfl) (hz : ji.size = z := by rfl) (hz0 : z ≠ 0 := by decide) (hx' : rho t x = some v := by (simp only [rho, T.get_set, Nat.reduceEqDiff, if_true, if_false] <;> rfl)) (hy' : rho t y = some w := by (simp only [rho, T.get_set, Nat.reduceEqDiff, if_true, if_false] <;> rfl)) (hd : o.dst = some d := by rfl) (hlt : Nat.blt d n = true := by rfl) : SeqR E lo draw c1 acs all j (o :: os) ⟨n, t⟩ s K := by
  subst hz
  obtain ⟨v', s', h1, h2, h3, h4, h5⟩ := appE_grom (bytes := ji.bytes) (n := m) hlo hc hz0 hown hF hnew hone hcs hlen
  obtain ⟨r1, r2⟩ := row_take hrow hz0 hnew
  refine SeqR.gen (n0 := 0) hw ?_ (by rw [hd]; exact putK_some hlt (k v' s' h2 h3 h4 h5))
  rw [ho, ← h1]
  simp only [opE, kindOf, show Nat.beq 4 0 = false from rfl, cond_false, heapE, ht, hk, hj, Option.bind_some, List.toList_toArray, List.getElem?_toArray, List.getElem?_cons_zero, List.getElem?_cons_succ, rhos, hx', hy', Option.map_some, beq_f hz0, r1, r2]
/-- append(x, y...) where there is room. -/
theorem appP {x y : Operand} {b m p cap q : Nat} {w : AV} {done rest new : List AV} {i : TI} (ji : TI) (hg : s.h.get b = some ⟨e, done ++ rest⟩) (hdl : done.length = p * z) (hF : Fresh s) (hrow : Row s.h z new w) (hnew : new.length = m * z) (hroom : new.length ≤ rest.length) (hcap : p + m ≤ cap) (hone : ones new = true) (hlen : (p + m) * ji.bytes ≤ 70368744177664 ∧ p + m ≤ 70368744177664) (hlo : lo ≤ b)
    (k : ∀ s', s'.h.get b = some ⟨e, (done ++ new) ++ rest.drop new.length⟩ → (∀ b', b' ≠ b → s'.h.get b' = s.h.get b') → s'.c = s.c → SeqR E lo draw c1 acs all (j + 1) os ⟨n, t.set d (.slice (some (b, 0)) (p + m) cap (q + 1))⟩ s' K) (hw : wantE all t o = some true := by rfl) (ho : o.op = .call { callee := .builtin .append, args := #[x, y], argTypes := #[t0, t0] } := by rfl) (ht : E.tt.get t0 = some i := by rfl) (hk : i.k = .slice e := by rfl) (hj : E.tt.get e = some ji := by rfl) (hz : ji.size = z := by rfl) (hz0 : z ≠ 0 := by decide) (hx' : rho t x = some (.slice (some (b, 0)) p cap (q + 1)) := by (simp only [rho, T.get_set, Nat.reduceEqDiff, if_true, if_false] <;> rfl)) (hy' : rho t y = some w := by (simp only [rho, T.get_set, Nat.reduceEqDiff, if_true, if_false] <;> rfl)) (hd : o.dst = some d := by rfl) (hlt : Nat.blt d n = true := by rfl) : SeqR E lo draw c1 acs all j (o :: os) ⟨n, t⟩ s K := by
  subst hz
  obtain ⟨r1, r2⟩ := row_take hrow hz0 hnew
  have key : ∃ s', appE lo s e ji.size ji.bytes m new (.slice (some (b, 0)) p cap (q + 1)) = some (.slice (some (b, 0)) (p + m) cap (q + 1), s') ∧ s'.h.get b = some ⟨e, (done ++ new) ++ rest.drop new.length⟩ ∧ (∀ b', b' ≠ b → s'.h.get b' = s.h.get b') ∧ s'.c = s.c := by
    by_cases hm : m = 0
    · subst hm
      have : new = [] := List.eq_nil_of_length_eq_zero (by rw [hnew]; simp)
      subst this
      refine ⟨s, ?_, by simpa using hg, fun _ _ => rfl, rfl⟩
      simp only [appE, nb00, cond_true, ble_iff.2 (show p ≤ cap by omega), Nat.add_zero]
    · refine ⟨⟨s.h.set b ⟨e, (done ++ new) ++ rest.drop new.length⟩, s.c⟩, ?_, by simp only; rw [T.get_set, if_pos rfl], fun b' hb' => by simp only; rw [T.get_set, if_neg (by omega)], rfl⟩
      have hput : putL (done ++ rest) (0 + p * ji.size) new = (done ++ new) ++ rest.drop new.length := by
        unfold putL
        rw [Nat.zero_add, ← hdl, List.take_left, List.drop_append, List.append_assoc, List.drop_eq_nil_of_le (by omega), List.nil_append, Nat.add_sub_cancel_left]
      have hle : Nat.ble (0 + p * ji.size + new.length) (done ++ rest).length = true := ble_iff.2 (by rw [List.length_append, hdl]; omega)
      simp only [appE, beq_f hm, cond_false, ble_iff.2 hlen.1, ble_iff.2 hlen.2, Bool.and_self, cond_true, ble_iff.2 hcap, putAt, hg, Option.bind_some, ble_iff.2 hlo, hle, hone, hput, Option.map_some]
  obtain ⟨s', h1, h2, h3, h4⟩ := key
  refine SeqR.gen (n0 := 0) hw ?_ (by rw [hd]; exact putK_some hlt (k s' h2 h3 h4))
  rw [ho, ← h1]
  simp only [opE, kindOf, show Nat.beq 4 0 = false from rfl, cond_false, heapE, ht, hk, hj, Option.bind_some, List.toList_toArray, List.getElem?_toArray, List.getElem?_cons_zero, List.getElem?_cons_succ, rhos, hx', hy', Option.map_some, beq_f hz0, r1, r2]
/-- append(x, make([]T, m)...), x nil, m not 0. -/
theorem appZ {x y : Operand} {m : Nat} {kd : IntKind} {i i1 ji : TI} {zs : List AV} {t1 : Nat} (hm : m ≠ 0) (hzs : ji.zero.cells = zs) (hone : ones (reps m zs) = true) (hlen : m * ji.bytes ≤ 70368744177664 ∧ m ≤ 70368744177664) (k : SeqR E lo draw c1 acs all (j + 1) os ⟨n, t.set d (.slice (some (s.c, 0)) m m z)⟩ ⟨s.h.set s.c ⟨e, reps m zs⟩, s.c + 1⟩ K) (hw : wantE all t o = some true := by rfl) (ho : o.op = .call { callee := .builtin .append, args := #[x, y], argTypes := #[t0, t1] } := by rfl) (ht : E.tt.get t0 = some i := by rfl) (ht1 : E.tt.get t1 = some i1 := by rfl) (hk : i.k = .slice e := by rfl) (hk1 : i1.k = .int kd := by rfl) (hj : E.tt.get e = some ji := by rfl) (hz : ji.size = z := by rfl) (hz0 : z ≠ 0 := by decide) (hx' : rho t x = some (.slice none 0 0 0) := by (simp only [rho, T.get_set, Nat.reduceEqDiff, if_true, if_false] <;> rfl)) (hy' : rho t y = some (.int .i64 (Int.ofNat m)) := by (simp only [rho, T.get_set, Nat.reduceEqDiff, if_true, if_false] <;> rfl)) (hd : o.dst = some d := by rfl) (hlt : Nat.blt d n = true := by rfl) : SeqR E lo draw c1 acs all j (o :: os) ⟨n, t⟩ s K := by
  subst hz
  refine SeqR.gen (n0 := 0) hw ?_ (by rw [hd]; exact putK_some hlt k)
  rw [ho]
  simp only [opE, kindOf, show Nat.beq 4 0 = false from rfl, cond_false, heapE, ht, ht1, hk, hk1, hj, Option.bind_some, List.toList_toArray, List.getElem?_toArray, List.getElem?_cons_zero, List.getElem?_cons_succ, rhos, hx', hy', Option.map_some, beq_f hz0, natE, appE, beq_f hm, ble_iff.2 hlen.1, ble_iff.2 hlen.2, Bool.and_self, cond_true, growE, newAt, List.nil_append, hzs, hone, Nat.zero_add]
/-- []T{} -/
theorem bld0 {i ji : TI} (k : SeqR E lo draw c0 acs all (j + 1) os ⟨n, t.set d (.slice (some (s.c, 0)) 0 0 0)⟩ ⟨s.h.set s.c ⟨e, []⟩, s.c + 1⟩ K) (hw : wantE all t o = some true := by rfl) (hl : (draw && looseB E (acs.getD j 0) 0 (all.take j)) = false := by rfl) (ho : o.op = .buildSlice t0 0 #[] := by rfl) (ht : E.tt.get t0 = some i := by rfl) (hk : i.k = .slice e := by rfl) (hj : E.tt.get e = some ji := by rfl) (hd : o.dst = some d := by rfl) (hlt : Nat.blt d n = true := by rfl) : SeqR E lo draw c0 acs all j (o :: os) ⟨n, t⟩ s K :=
  SeqR.step hw hl (by rw [ho]; exact fun call lc => op_buildS0 ht hk hj call lc _) hd hlt k
end
theorem SYs.ones {h : T Blk} {ys : List (List Int)} {cs : List AV} (hs : SYs h ys cs) : ones cs = true := by
  rw [ones_all]
  intro v hv
  obtain ⟨p, hp, rfl⟩ := List.mem_iff_getElem.1 hv
  have hl := hs.1
  obtain ⟨nm, w, g1, g2, g3⟩ := hs.2 (p / 2) _ (List.getElem?_eq_getElem (by omega))
  rcases Nat.mod_two_eq_zero_or_one p with h0 | h0
  · rw [show p / 2 * 2 = p by omega, List.getElem?_eq_getElem hp] at g1
    rw [Option.some.inj g1]; rfl
  · rw [show p / 2 * 2 + 1 = p by omega, List.getElem?_eq_getElem hp] at g2
    rw [Option.some.inj g2]
    exact Row.one g3
theorem Gro.own_le {c0 : Nat} {s : St} {e z : Nat} {cs : List AV} {v : AV} (h : Gro c0 s e z cs v) {c1 : Nat} (hc : c1 ≤ c0) : Gro c1 s e z cs v := by
  rcases h with (h | ⟨b, m, h0, h1, h2⟩) | h
  · exact .inl (.inl h)
  · exact .inl (.inr ⟨b, m, h0, by omega, h2⟩)
  · exact .inr h
theorem SYs.kept {s s' : St} {ys : List (List Int)} {cs ds : List AV} (hs : SYs s.h ys cs) (hl : Lost ds s.h s'.h) (hd : ∀ x ∈ ds, ∀ kd n, x ≠ .int kd n) : SYs s'.h ys cs := ⟨hs.1, fun i r h1 => by
  obtain ⟨nm, v, g1, g2, g3⟩ := hs.2 i r h1
  exact ⟨nm, v, g1, g2, g3.chg (hl.chg hd)⟩⟩
theorem SYs.noint {h : T Blk} {ys : List (List Int)} {cs : List AV} (hs : SYs h ys cs) : ∀ x ∈ cs, ∀ kd n, x ≠ .int kd n := by
  intro v hv kd n e
  subst e
  obtain ⟨p, hp, he⟩ := List.mem_iff_getElem.1 hv
  have hl := hs.1
  obtain ⟨nm, w, g1, g2, g3⟩ := hs.2 (p / 2) _ (List.getElem?_eq_getElem (by omega))
  rcases Nat.mod_two_eq_zero_or_one p with h0 | h0
  · rw [show p / 2 * 2 = p by omega, List.getElem?_eq_getElem hp, he] at g1
    cases g1
  · rw [show p / 2 * 2 + 1 = p by omega, List.getElem?_eq_getElem hp, he] at g2
    cases g2
    exact g3.elim
theorem Clone_run {lo : Nat} {va : AV} {ys : List (List Int)} {s : St} (h : SY s.h ys va) (hF : Fresh s) (hlo : lo ≤ s.c) (hl : ys.length ≤ 1000) :
    FunR E lo 31 [va] s fun v s' => Fol s s' ∧ ∃ cs, Gro s.c s' 47 2 cs v ∧ SYs s'.h ys cs := by
  obtain ⟨cs, hr, hs⟩ := h
  have hcl := hs.1
  have key : (cs = [] ∧ ∀ c : Bool, binE E .eql 40 c va (.slice none 0 0 0) = some (.bool true)) ∨ ∀ c : Bool, binE E .eql 40 c va (.slice none 0 0 0) = some (.bool false) := by
    unfold Row at hr
    split at hr
    · obtain ⟨rfl, rfl, rfl⟩ := hr
      exact .inl ⟨rfl, fun c => by cases c <;> rfl⟩
    · exact .inr fun c => by cases c <;> rfl
    · exact .inr fun c => by cases c <;> rfl
    · exact hr.elim
  have hy := hy31
  refine FunR.body (fn := Tryz.f31) fn31' rfl ?_
  have hn : (max ([va] : List AV).length Tryz.f31.ntmps) = 8 := rfl
  generalize max ([va] : List AV).length Tryz.f31.ntmps = n at hn
  subst hn
  have g0 : (argsT 0 ([va] : List AV)).get 0 = some (va) := rfl
  generalize argsT 0 ([va] : List AV) = T0 at g0 ⊢
  rcases key with ⟨rfl, key⟩ | key
  · have hx := an g0 key; refine go ?_; clear hx
    refine cnd0 (t := true) (fun _ => ?_) (fun h => by cases h)
    refine go0 ?_
    refine CodeR.ret ⟨.inr rfl, [.slice none 0 0 0], res0 (rs := [.tmp 2]), ?_⟩
    exact ⟨Fol.refl hF, [], .inl (.inl ⟨rfl, rfl⟩), hs⟩
  · have hx := an g0 key; refine go ?_; clear hx
    refine cnd0 (t := false) (fun h => by cases h) (fun _ => ?_)
    refine go0 ?_
    refine bld0 ?_
    have hf1 := (Fol.refl hF).new ⟨47, []⟩
    have hx := g0; refine go ?_; clear hx
    refine appM i47 s.c (.inr ⟨s.c, rfl, rfl⟩) hf1.1 (hr.keep hF.lt hf1.2) (m := ys.length) hcl rfl hs.ones (by simp only [i47, hcl, List.length_nil]; omega) hlo (by simp only; omega) fun v' s2 q1 q2 q3 q4 => ?_
    refine go0 ?_
    refine CodeR.ret ⟨.inr rfl, [v'], res0 (rs := [.tmp 2]), ?_⟩
    exact ⟨⟨q2, hf1.2.trans q3⟩, cs, q1, (hs.keep hF.lt hf1.2).kept q4 fun x hx => by simp at hx⟩
theorem ones_reps {zs : List AV} (h : ones zs = true) : ∀ n, ones (reps n zs) = true
  | 0 => rfl
  | n + 1 => ones_append h (ones_reps h n)
theorem Grow_run {lo N : Nat} {s : St} (hF : Fresh s) (hlo : lo ≤ s.c) (hN : N ≤ 1000) :
    FunR E lo 214 [.slice none 0 0 0, .int .i64 (Int.ofNat N)] s fun v s' => Fol s s' ∧ ((N = 0 ∧ v = .slice none 0 0 0) ∨ (N ≠ 0 ∧ ∃ b, v = .slice (some (b, 0)) 0 N 2 ∧ s.c ≤ b ∧ b < s'.c ∧ s'.h.get b = some ⟨47, reps N [.str [], .slice none 0 0 0]⟩)) := by
  have hy := hy214
  refine FunR.body (fn := Tryz.f214) fn214' rfl ?_
  have hn : (max ([.slice none 0 0 0, .int .i64 (Int.ofNat N)] : List AV).length Tryz.f214.ntmps) = 27 := rfl
  generalize max ([.slice none 0 0 0, .int .i64 (Int.ofNat N)] : List AV).length Tryz.f214.ntmps = n at hn
  subst hn
  have g0 : (argsT 0 ([.slice none 0 0 0, .int .i64 (Int.ofNat N)] : List AV)).get 0 = some (.slice none 0 0 0) := rfl
  have g1 : (argsT 0 ([.slice none 0 0 0, .int .i64 (Int.ofNat N)] : List AV)).get 1 = some (.int .i64 (Int.ofNat N)) := rfl
  generalize argsT 0 ([.slice none 0 0 0, .int .i64 (Int.ofNat N)] : List AV) = T0 at g0 g1 ⊢
  have e0 : ltB (Int.ofNat N) 0 = false := lt_f (b := 0) (Nat.zero_le _)
  have hc : capE (.slice 47) (.slice none 0 0 0) = some 0 := rfl
  have w0 : wr .i64 (Int.ofNat 0 - Int.ofNat 0) = Int.ofNat 0 := rfl
  have w1 : wr .i64 (Int.ofNat N - Int.ofNat 0) = Int.ofNat N := by
    rw [show Int.ofNat N - Int.ofNat 0 = Int.ofNat N by simp]; exact wr_nat (by omega)
  have hx := an g0 (an g1 e0); refine go ?_; clear hx
  refine cnd0 (t := false) (fun h => by cases h) (fun _ => ?_)
  by_cases hN0 : N = 0
  · have e1 : ltB 0 (Int.ofNat N) = false := lt_f (a := 0) (by omega)
    have hx := an g0 (an g1 (an hc (an w0 (an w1 e1)))); refine go ?_; clear hx
    refine cnd0 (t := false) (fun h => by cases h) (fun _ => ?_)
    have hx := g0; refine go ?_; clear hx
    refine CodeR.ret ⟨.inr rfl, [.slice none 0 0 0], res0 (rs := [.tmp 4]), ?_⟩
    exact ⟨Fol.refl hF, .inl ⟨hN0, rfl⟩⟩
  · have e1 : ltB 0 (Int.ofNat N) = true := lt_t (a := 0) (by omega)
    have s0 : sliceE 1 (.slice none 0 0 0) none (some (.int .i64 (Int.ofNat 0))) none = some (.slice none 0 0 0) := rfl
    have s0' : sliceE 2 (.slice none 0 0 0) none (some (.int .i64 (Int.ofNat 0))) none = some (.slice none 0 0 0) := rfl
    have s1' : sliceE 2 (.slice (some (s.c, 0)) N N 2) none (some (.int .i64 (Int.ofNat 0))) none = some (.slice (some (s.c, 0)) 0 N 2) := by
      simp only [sliceE, boundE, natE, Option.bind_some, beq_self, cond_true, ble_iff.2 (Nat.zero_le _), Bool.and_self]
    have hx := an g0 (an g1 (an hc (an w0 (an w1 e1)))); refine go ?_; clear hx
    refine cnd0 (t := true) (fun _ => ?_) (fun h => by cases h)
    have hx := an g0 (an hc s0'); refine go ?_; clear hx
    refine appZ (m := N) (z := 2) (zs := [.str [], .slice none 0 0 0]) (ji := i47) hN0 rfl (ones_reps rfl N) (by simp only [i47]; omega) ?_
    have hf1 := (Fol.refl hF).new ⟨47, reps N [.str [], .slice none 0 0 0]⟩
    have hx := an g0 s1'; refine go ?_; clear hx
    refine CodeR.ret ⟨.inr rfl, [.slice (some (s.c, 0)) 0 N 2], res0 (rs := [.tmp 4]), ?_⟩
    exact ⟨hf1, .inr ⟨hN0, s.c, rfl, Nat.le_refl _, Nat.lt_succ_self _, by simp only; rw [T.get_set, if_pos rfl]⟩⟩
theorem reps_length2 (N : Nat) (a b : AV) : (reps N [a, b]).length = N * 2 := by
  induction N with
  | zero => rfl
  | succ n ih => rw [reps, List.length_append, ih]; simp; omega
theorem Concat_run {lo b0 : Nat} {v1 v2 : AV} {ys zs : List (List Int)} {s : St} (h0 : s.h.get b0 = some ⟨40, [v1, v2]⟩) (h1 : SY s.h ys v1) (h2 : SY s.h zs v2) (hF : Fresh s) (hlo : lo ≤ s.c) (hy1 : ys.length ≤ 100) (hz1 : zs.length ≤ 100) :
    FunR E lo 114 [.slice (some (b0, 0)) 2 2 0] s fun v s' => Fol s s' ∧ SY s'.h (ys ++ zs) v := by
  have l1 := h1.len 47
  have l2 := h2.len 47
  obtain ⟨c1, r1, y1⟩ := h1
  obtain ⟨c2, r2, y2⟩ := h2
  obtain ⟨L, L0, L1, L2⟩ : ∃ L : Nat → Nat, L 0 = 0 ∧ L 1 = ys.length ∧ L 2 = ys.length + zs.length := ⟨fun j => if j = 0 then 0 else if j = 1 then ys.length else ys.length + zs.length, rfl, rfl, rfl⟩
  obtain ⟨C, C0, C1, C2⟩ : ∃ C : Nat → List AV, C 0 = [] ∧ C 1 = c1 ∧ C 2 = c1 ++ c2 := ⟨fun j => if j = 0 then [] else if j = 1 then c1 else c1 ++ c2, rfl, rfl, rfl⟩
  have part : ∀ j, j < 2 → ∃ w n cw, [v1, v2][j]? = some w ∧ lenE (.slice 47) w = some n ∧ Row s.h 2 cw w ∧ cw.length = n * 2 ∧ ones cw = true ∧ n ≤ 100 ∧ L (j + 1) = L j + n ∧ C (j + 1) = C j ++ cw ∧ (C j).length = L j * 2 ∧ ones (C j) = true ∧ (∀ x ∈ C j, ∀ kd n, x ≠ .int kd n) := by
    intro j hj
    match j, hj with
    | 0, _ => exact ⟨v1, ys.length, c1, rfl, l1, r1, y1.1, y1.ones, hy1, by rw [L0, L1]; omega, by rw [C0, C1]; rfl, by rw [C0, L0]; rfl, by rw [C0]; rfl, by rw [C0]; simp⟩
    | 1, _ => exact ⟨v2, zs.length, c2, rfl, l2, r2, y2.1, y2.ones, hz1, by rw [L1, L2], by rw [C1, C2], by rw [C1, L1, y1.1], by rw [C1]; exact y1.ones, by rw [C1]; exact y1.noint⟩
  have hLle : ∀ j, j ≤ 2 → L j ≤ L 2 := fun j hj => by
    match j, hj with
    | 0, _ => rw [L0]; omega
    | 1, _ => rw [L1, L2]; omega
    | 2, _ => exact Nat.le_refl _
  have hL2 : L 2 ≤ 200 := by rw [L2]; omega
  have e1 : Nat.blt b0 s.c = true := blt_iff.2 (hF.lt b0 _ h0)
  have hy := hy114
  refine FunR.body (fn := Tryz.f114) fn114' rfl ?_
  have hn : (max ([.slice (some (b0, 0)) 2 2 0] : List AV).length Tryz.f114.ntmps) = 36 := rfl
  generalize max ([.slice (some (b0, 0)) 2 2 0] : List AV).length Tryz.f114.ntmps = n at hn
  subst hn
  have g0 : (argsT 0 ([.slice (some (b0, 0)) 2 2 0] : List AV)).get 0 = some (.slice (some (b0, 0)) 2 2 0) := rfl
  generalize argsT 0 ([.slice (some (b0, 0)) 2 2 0] : List AV) = T0 at g0 ⊢
  have hx := g0; refine go ?_; clear hx
  refine CodeR.up 2 (fun j mm s1 => s = s1 ∧ ∃ T1, mm = ⟨36, T1⟩ ∧ (T1.get 0 = some (.slice (some (b0, 0)) 2 2 0) ∧ T1.get 3 = some (.int .i64 (Int.ofNat (L j))) ∧ T1.get 9 = some (.slice (some (b0, 0)) 2 2 0) ∧ T1.get 10 = some (.int .i64 (Int.ofNat 2)) ∧ T1.get 11 = some (.int .i64 (Int.ofNat j)))) ?_ ?_ ?_
  · refine ⟨rfl, _, rfl, ?_⟩
    rw [L0]
    have hx := g0; exact has
  · rintro j mm s1 hj ⟨rfl, T1, rfl, hT⟩
    have lt1 := lt_t hj
    have lt9 : Nat.blt j 2 = true := blt_iff.2 hj
    obtain ⟨w, n, cw, hw, hn, hrw, hcw, how, hn1, hL, _⟩ := part j hj
    have hj2 := hLle (j + 1) (by omega)
    have wa : wr .i64 (Int.ofNat (L j) + Int.ofNat n) = Int.ofNat (L (j + 1)) := by rw [hL]; exact wr_add (by omega)
    have e0 : ltB (Int.ofNat (L (j + 1))) 0 = false := lt_f (b := 0) (Nat.zero_le _)
    have wi := w_up (i := j) (by omega)
    have hx := an hT lt1; refine go ?_; clear hx
    refine cnd0 (t := true) (fun _ => ?_) (fun h => by cases h)
    have hx := an hT (an lt9 (an h0 (an hw e1))); refine go ?_; clear hx
    have hx := an hT (an hn (an wa e0)); refine go ?_; clear hx
    refine cnd0 (t := false) (fun h => by cases h) (fun _ => ?_)
    have hx := an hT wi; refine go ?_; clear hx
    refine ⟨rfl, _, rfl, ?_⟩
    have hx := hT; exact has
  · rintro mm s1 ⟨rfl, T1, rfl, hT⟩
    have lt1 := lt_f (Nat.le_refl 2)
    have hx := an hT lt1; refine go ?_; clear hx
    refine cnd0 (t := false) (fun h => by cases h) (fun _ => ?_)
    have hx := hT; refine go ?_; clear hx
    refine cal0 (g := 214) (vs := [.slice none 0 0 0, .int .i64 (Int.ofNat (L 2))]) (hf := fun lc hlc => (Grow_run hF (lim_lo hlc hlo) (by omega)).mono fun v3 s3 hp => ?_)
    obtain ⟨hf3, hp⟩ := hp
    have m3 := hf3.mono
    have h03 : s3.h.get b0 = some ⟨40, [v1, v2]⟩ := by rw [hf3.2.keep _ (blt_iff.1 e1)]; exact h0
    have e3 : Nat.blt b0 s3.c = true := blt_iff.2 (by have := blt_iff.1 e1; omega)
    have hx := hT; refine go ?_; clear hx
    rcases hp with ⟨hN, rfl⟩ | ⟨hN, b, rfl, hb1, hb2, hgb⟩
    · refine CodeR.up 2 (fun j mm s4 => Fol s s4 ∧ ∃ T1 v, mm = ⟨36, T1⟩ ∧ (T1.get 6 = some (v) ∧ T1.get 25 = some (.slice (some (b0, 0)) 2 2 0) ∧ T1.get 26 = some (.int .i64 (Int.ofNat 2)) ∧ T1.get 27 = some (.int .i64 (Int.ofNat j))) ∧ Gro s.c s4 47 2 (C j) v) ?_ ?_ ?_
      · refine ⟨hf3, _, _, rfl, ?_, .inl (.inl ⟨rfl, C0⟩)⟩
        have hx := hT; exact has
      · rintro j mm s4 hj ⟨hf4, T2, v, rfl, hT2, hG⟩
        have m4 := hf4.mono
        have lt1 := lt_t hj
        have lt9 : Nat.blt j 2 = true := blt_iff.2 hj
        obtain ⟨w, n, cw, hw, hn, hrw, hcw, how, hn1, hL, hC, hCl, hCo, hCn⟩ := part j hj
        have h04 : s4.h.get b0 = some ⟨40, [v1, v2]⟩ := by rw [hf4.2.keep _ (blt_iff.1 e1)]; exact h0
        have e4 : Nat.blt b0 s4.c = true := blt_iff.2 (by have := blt_iff.1 e1; omega)
        have wi := w_up (i := j) (by omega)
        have hj2 := hLle j (by omega)
        have hx := an hT2 lt1; refine go ?_; clear hx
        refine cnd0 (t := true) (fun _ => ?_) (fun h => by cases h)
        have hx := an hT2 (an lt9 (an h04 (an hw e4))); refine go ?_; clear hx
        refine appM i47 s.c hG hf4.1 (hrw.keep hF.lt hf4.2) (m := n) hcw hCo how (by simp only [i47, hCl, hcw]; omega) hlo m4 fun v' s5 q1 q2 q3 q4 => ?_
        have hx := an hT2 wi; refine go ?_; clear hx
        refine ⟨⟨q2, hf4.2.trans q3⟩, _, _, rfl, ?_, by rw [hC]; exact q1⟩
        have hx := hT2; exact has
      · rintro mm s4 ⟨hf4, T2, v, rfl, hT2, hG⟩
        have lt1 := lt_f (Nat.le_refl 2)
        have hx := an hT2 lt1; refine go ?_; clear hx
        refine cnd0 (t := false) (fun h => by cases h) (fun _ => ?_)
        have hx := hT2; refine go ?_; clear hx
        refine CodeR.ret ⟨.inr rfl, [v], res0 (rs := [.tmp 2]), ?_⟩
        rw [C2] at hG
        exact ⟨hf4, _, hG.row, (y1.keep hF.lt hf4.2).append (y2.keep hF.lt hf4.2)⟩
    · refine CodeR.up 2 (fun j mm s4 => Fol s s4 ∧ s3.c ≤ s4.c ∧ ∃ T1 rest, mm = ⟨36, T1⟩ ∧ (T1.get 6 = some (.slice (some (b, 0)) (L j) (L 2) 2) ∧ T1.get 25 = some (.slice (some (b0, 0)) 2 2 0) ∧ T1.get 26 = some (.int .i64 (Int.ofNat 2)) ∧ T1.get 27 = some (.int .i64 (Int.ofNat j))) ∧ s4.h.get b = some ⟨47, C j ++ rest⟩ ∧ rest.length = (L 2 - L j) * 2) ?_ ?_ ?_
      · refine ⟨hf3, Nat.le_refl _, _, _, rfl, ?_, by rw [C0]; exact hgb, by rw [reps_length2, L0, Nat.sub_zero]⟩
        rw [L0]
        have hx := hT; exact has
      · rintro j mm s4 hj ⟨hf4, hc4, T2, rest, rfl, hT2, hg4, hrl⟩
        have m4 := hf4.mono
        have lt1 := lt_t hj
        have lt9 : Nat.blt j 2 = true := blt_iff.2 hj
        obtain ⟨w, n, cw, hw, hn, hrw, hcw, how, hn1, hL, hC, hCl, hCo, hCn⟩ := part j hj
        have h04 : s4.h.get b0 = some ⟨40, [v1, v2]⟩ := by rw [hf4.2.keep _ (blt_iff.1 e1)]; exact h0
        have e4 : Nat.blt b0 s4.c = true := blt_iff.2 (by have := blt_iff.1 e1; omega)
        have wi := w_up (i := j) (by omega)
        have hj2 := hLle (j + 1) (by omega)
        rw [hL] at hj2
        have hx := an hT2 lt1; refine go ?_; clear hx
        refine cnd0 (t := true) (fun _ => ?_) (fun h => by cases h)
        have hx := an hT2 (an lt9 (an h04 (an hw e4))); refine go ?_; clear hx
        refine appP i47 hg4 hCl hf4.1 (hrw.keep hF.lt hf4.2) (m := n) hcw (by omega) hj2 how (by simp only [i47]; omega) (by omega) fun s5 q1 q2 q3 => ?_
        have hx := an hT2 wi; refine go ?_; clear hx
        refine ⟨⟨fun b' hb' => ?_, ⟨by rw [q3]; exact m4, fun b' hb' => ?_⟩⟩, by omega, _, _, rfl, ?_, by rw [hC]; exact q1, by rw [List.length_drop, hrl, hcw, hL]; omega⟩
        · rw [q2 b' (by omega)]; exact hf4.1 b' (by omega)
        · rw [q2 b' (by omega)]; exact hf4.2.keep b' hb'
        · rw [hL]
          have hx := hT2; exact has
      · rintro mm s4 ⟨hf4, hc4, T2, rest, rfl, hT2, hg4, hrl⟩
        have lt1 := lt_f (Nat.le_refl 2)
        rw [Nat.sub_self, Nat.zero_mul] at hrl
        have : rest = [] := List.eq_nil_of_length_eq_zero hrl
        subst this
        rw [List.append_nil, C2] at hg4
        have hx := an hT2 lt1; refine go ?_; clear hx
        refine cnd0 (t := false) (fun h => by cases h) (fun _ => ?_)
        have hx := hT2; refine go ?_; clear hx
        refine CodeR.ret ⟨.inr rfl, [.slice (some (b, 0)) (L 2) (L 2) 2], res0 (rs := [.tmp 2]), ?_⟩
        have hlen : (c1 ++ c2).length = L 2 * 2 := by rw [List.length_append, y1.1, y2.1, L2, Nat.add_mul]
        exact ⟨hf4, c1 ++ c2, ⟨hlen, Nat.le_refl _, .inr rfl, fun _ => cells_box hg4 hlen⟩, (y1.keep hF.lt hf4.2).append (y2.keep hF.lt hf4.2)⟩
end Go.Proofs.YtaocoplfdhcoaaaGreatDoor.EvA
set_option linter.unusedVariables false
namespace Go.Proofs.YtaocoplfdhcoaaaGreatDoor.EvA
open Go Go.Proofs.YtaocoplfdhcoaaaGreatDoor.Ev
/-- Rows of a length, small enough. -/
def Rows (n : Nat) (ys : List (List Int)) : Prop := ∀ i, i < ys.length → (ys.getD i []).length = n ∧ NearR (ys.getD i [])
def SpellPre (noms accs : List (List Int)) (nom : Int) (ks x : List Int) : Prop := 0 ≤ nom ∧ nom < noms.length ∧ ks.length = accs.length ∧ NearR ks ∧ NearR x
def SpellsP (noms accs : List (List Int)) (nom : Int) (ks x : List Int) : Prop := SpellPre noms accs nom ks x ∧ Rows x.length noms ∧ Rows x.length accs ∧ ∀ c, c < x.length → (noms.getD nom.toNat []).getD c 0 + comb ks accs c accs.length = x.getD c 0
theorem sumN_shift (f : Nat → Int) : ∀ n, sumN f (n + 1) = f 0 + sumN (fun i => f (i + 1)) n
  | 0 => by simp [sumN]
  | n + 1 => by rw [sumN, sumN_shift f n, sumN, Int.add_assoc]
theorem comb_cons (k : Int) (ks r : List Int) (m : List (List Int)) (c n : Nat) : comb (k :: ks) (r :: m) c (n + 1) = k * r.getD c 0 + comb ks m c n := by
  unfold comb
  rw [sumN_shift]
  rfl
theorem comb_one (ks r : List Int) (m : List (List Int)) (c n : Nat) : comb (1 :: ks) (r :: m) c (n + 1) = r.getD c 0 + comb ks m c n := by
  rw [comb_cons, Int.one_mul]
theorem comb_succ (k : List Int) (m : List (List Int)) (c n : Nat) : comb k m c (n + 1) = comb k m c n + k.getD n 0 * (m.getD n []).getD c 0 := rfl
theorem rows_append {n : Nat} {ys zs : List (List Int)} : Rows n (ys ++ zs) ↔ Rows n ys ∧ Rows n zs := by
  constructor
  · intro h
    refine ⟨fun i hi => ?_, fun i hi => ?_⟩
    · have := h i (by rw [List.length_append]; omega)
      rwa [List.getD_eq_getElem?_getD, List.getElem?_append_left hi, ← List.getD_eq_getElem?_getD] at this
    · have := h (ys.length + i) (by rw [List.length_append]; omega)
      rwa [List.getD_eq_getElem?_getD, List.getElem?_append_right (by omega), Nat.add_sub_cancel_left, ← List.getD_eq_getElem?_getD] at this
  · rintro ⟨h1, h2⟩ i hi
    rw [List.length_append] at hi
    rcases Nat.lt_or_ge i ys.length with h | h
    · rw [List.getD_eq_getElem?_getD, List.getElem?_append_left h, ← List.getD_eq_getElem?_getD]; exact h1 i h
    · rw [List.getD_eq_getElem?_getD, List.getElem?_append_right h, ← List.getD_eq_getElem?_getD]; exact h2 _ (by omega)
theorem comb_le {k : List Int} {m : List (List Int)} {c i : Nat} (nk : NearR k) (nm : ∀ i, i < m.length → NearR (m.getD i [])) (hk : i ≤ k.length) (hm : i ≤ m.length) (hc : ∀ i, i < m.length → c < (m.getD i []).length) (hi : i ≤ 1000) : (comb k m c i).natAbs < 10 ^ 30 := by
  have := sumN_bound (f := fun i => k.getD i 0 * (m.getD i []).getD c 0) (B := 1000000000000000000) i fun j hj => near_mul (nk j (by omega)) (nm j (by omega) c (hc j (by omega)))
  unfold comb
  omega
end Go.Proofs.YtaocoplfdhcoaaaGreatDoor.EvA

/- More operations: boxes, stores into rows. -/
import Derived.Test.YtaocoplfdhcoaaaGreatDoorEvB4
import Derived.Test.YtaocoplfdhcoaaaGreatDoorEvB5
set_option linter.unusedVariables false
set_option linter.unusedSimpArgs false
namespace Go.Proofs.YtaocoplfdhcoaaaGreatDoor.EvA
open Go Go.RowKit Go.Proofs.YtaocoplfdhcoaaaGreatDoor.Ev
theorem op_box {lo t : Nat} {m : T AV} {s : St} {x : Operand} {v : AV} {cs : List AV} (hr : rho m x = some v) (hc : v.cells = cs) (ho : ones cs = true) (call : CallT') (lc old : Nat) :
    opE E call lc lo old m s (.box t x) = some (.ptr (some (s.c, 0)), ⟨s.h.set s.c ⟨t, cs⟩, s.c + 1⟩) := by
  subst hc
  simp only [opE, kindOf, show Nat.beq 2 0 = false from rfl, cond_false, heapE, hr, Option.bind_some, newAt, ho, cond_true, Option.map_some]
theorem op_alloc {lo t : Nat} {m : T AV} {s : St} {i : TI} {cs : List AV} (ht : E.tt.get t = some i) (hc : i.zero.cells = cs) (ho : ones cs = true) (call : CallT') (lc old : Nat) :
    opE E call lc lo old m s (.alloc t) = some (.ptr (some (s.c, 0)), ⟨s.h.set s.c ⟨t, cs⟩, s.c + 1⟩) := by
  subst hc
  simp only [opE, kindOf, show Nat.beq 2 0 = false from rfl, cond_false, heapE, ht, Option.bind_some, newAt, ho, cond_true, Option.map_some]
theorem ones_rep (n : Nat) {v : AV} (h : v.one = true) : ones (reps n [v]) = true := by
  induction n with
  | zero => rfl
  | succ n ih =>
    show ones (v :: reps n [v]) = true
    rw [ones, h, ih]
    rfl
theorem op_make {lo t e n : Nat} {m : T AV} {s : St} {i j : TI} {x : Operand} {v : AV} (hr : rho m x = some (.int .i64 (Int.ofNat n))) (ht : E.tt.get t = some i) (hk : i.k = .slice e) (hj : E.tt.get e = some j) (hz : j.zero.cells = [v]) (ho : v.one = true) (hb : n * j.bytes ≤ 70368744177664) (hn : n ≤ 70368744177664) (call : CallT') (lc old : Nat) :
    opE E call lc lo old m s (.makeSlice t x x) = some (.slice (some (s.c, 0)) n n 0, ⟨s.h.set s.c ⟨e, reps n [v]⟩, s.c + 1⟩) := by
  simp only [opE, kindOf, show Nat.beq 2 0 = false from rfl, cond_false, heapE, hr, ht, hk, hj, hz, Option.bind_some, natE, newAt, ones_rep n ho, cond_true, Option.map_some, ble_iff.2 hb, ble_iff.2 hn, ble_iff.2 (Nat.le_refl n), Bool.and_self]
/-- A value of one cell is stored into a row. -/
theorem op_put {lo b o t : Nat} {m : T AV} {s : St} {x y : Operand} {v : AV} {e : Nat} {cs : List AV} (hx : rho m x = some (.ptr (some (b, o)))) (hy : rho m y = some v) (hone : v.one = true) (hsz : szE E t = some 1) (hg : s.h.get b = some ⟨e, cs⟩) (ho : o < cs.length) (hlo : lo ≤ b)
    (call : CallT') (lc old : Nat) : opE E call lc lo old m s (.store t x y) = some (.tuple [], ⟨s.h.set b ⟨e, cs.set o v⟩, s.c⟩) := by
  rw [op_store (cs := [v]) (z := 1) hx hy (one_cells hone) rfl (by simp [ones, hone]) hsz hg (by simp only; omega) hlo, putL_set (by simpa using ho)]
end Go.Proofs.YtaocoplfdhcoaaaGreatDoor.EvA
/- Slices that grow, of any type. -/
set_option linter.unusedVariables false
set_option linter.unusedSimpArgs false
namespace Go.Proofs.YtaocoplfdhcoaaaGreatDoor.EvA
open Go Go.RowKit Go.Proofs.YtaocoplfdhcoaaaGreatDoor.Ev
theorem b_neqB (c : Bool) (a b : Bool) : binE E .neq 4 c (.bool a) (.bool b) = some (.bool (a != b)) := by cases c <;> rfl
theorem u_notB (b : Bool) : unE .not (.bool b) = some (.bool !b) := rfl
/-- A slice that grows: nil, empty, or the run's own. -/
def Gro (c0 : Nat) (s : St) (e z : Nat) (cs : List AV) (v : AV) : Prop := Own c0 s e z cs v ∨ ∃ b, v = .slice (some (b, 0)) 0 0 0 ∧ cs = []
theorem Gro.row {c0 : Nat} {s : St} {e z : Nat} {cs : List AV} {v : AV} (h : Gro c0 s e z cs v) : Row s.h z cs v := by
  rcases h with h | ⟨b, rfl, rfl⟩
  · exact h.row
  · exact ⟨by simp, Nat.le_refl _, .inl rfl, fun h => absurd rfl h⟩
theorem Gro.keep {c0 : Nat} {s s' : St} {e z : Nat} {cs : List AV} {v : AV} (h : Gro c0 s e z cs v) (hF : Fresh s) (hk : Kept s.c s s') : Gro c0 s' e z cs v := by
  rcases h with h | h
  · exact .inl (h.keep hF hk)
  · exact .inr h
theorem Gro.set {c0 : Nat} {s : St} {e z : Nat} {cs : List AV} {v : AV} (h : Gro c0 s e z cs v) {b : Nat} {k : Blk} (hb : b < c0) : Gro c0 ⟨s.h.set b k, s.c⟩ e z cs v := by
  rcases h with (h | ⟨b', n, h0, h1, h2, h3⟩) | h
  · exact .inl (.inl h)
  · exact .inl (.inr ⟨b', n, h0, h1, by simp only; rw [T.get_set, if_neg (by omega)]; exact h2, h3⟩)
  · exact .inr h
theorem Gro.nil (c0 : Nat) (s : St) (e z : Nat) : Gro c0 s e z [] (.slice none 0 0 0) := .inl (.inl ⟨rfl, rfl⟩)
theorem Gro.one {c0 : Nat} {s : St} {e z : Nat} {cs : List AV} {v : AV} (h : Gro c0 s e z cs v) : v.one = true := by
  rcases h with (⟨rfl, _⟩ | ⟨b', n, rfl, _⟩) | ⟨b, rfl, _⟩ <;> rfl
theorem appE_gro {c0 lo e z bytes : Nat} {s : St} {cs new : List AV} {v : AV} (hlo : lo ≤ c0) (hc : c0 ≤ s.c) (hz : z ≠ 0) (h : Gro c0 s e z cs v) (hF : Fresh s) (hnew : new.length = z) (hone : ones new = true) (hcs : ones cs = true) (hb : (cs.length + 1) * (bytes + 1) ≤ 70368744177664) :
    ∃ v' s', appE lo s e z bytes 1 new v = some (v', s') ∧ Own c0 s' e z (cs ++ new) v' ∧ Fresh s' ∧ Kept c0 s s' ∧ s'.c = s.c + 1 := by
  rcases h with h | ⟨b, rfl, rfl⟩
  · exact appE_own hlo hc hz h hF hnew hone hcs hb
  · refine ⟨.slice (some (s.c, 0)) 1 1 z, ⟨s.h.set s.c ⟨e, new⟩, s.c + 1⟩, ?_, .inr ⟨s.c, 1, rfl, hc, by simp [T.get_set], by simp [hnew], by simp⟩, fresh_new hF _, kept_new (Kept.refl _ _) hc _, rfl⟩
    simp at hb
    simp only [appE, show Nat.beq 1 0 = false from rfl, cond_false, Nat.zero_add, Nat.one_mul, ble_iff.2 (show bytes ≤ 70368744177664 by omega), ble_iff.2 (show 1 ≤ 70368744177664 by decide), Bool.and_self, cond_true, show Nat.ble 1 0 = false from rfl, nb00, takeE, Option.bind_some, growE, newAt, List.nil_append, hone, Option.map_some]
theorem putL_whole {a b : List AV} (h : a.length = b.length) : putL a 0 b = b := by
  unfold putL
  rw [List.take_zero, List.nil_append, Nat.zero_add, List.drop_eq_nil_of_le (by omega), List.append_nil]
/-- []T{x} -/
theorem op_buildS {lo t e : Nat} {m : T AV} {s : St} {i j : TI} {x : Operand} {v : AV} {cs : List AV} (ht : E.tt.get t = some i) (hk : i.k = .slice e) (hj : E.tt.get e = some j) (hz : j.zero.cells.length = j.size) (hsm : j.size ≤ 16777216) (hr : rho m x = some v) (hv : v.cells = cs) (hl : cs.length = j.size) (ho : ones cs = true) (call : CallT') (lc old : Nat) :
    opE E call lc lo old m s (.buildSlice t 1 #[(0, x)]) = some (.slice (some (s.c, 0)) 1 1 0, ⟨s.h.set s.c ⟨e, cs⟩, s.c + 1⟩) := by
  subst hv
  have e1 : (reps 1 j.zero.cells) = j.zero.cells := by simp [reps]
  simp only [opE, kindOf, show Nat.beq 2 0 = false from rfl, cond_false, heapE, ht, hk, hj, Option.bind_some, List.toList_toArray, fillE, hr, e1, Nat.zero_mul, hl, beq_self, Nat.one_mul, Nat.zero_add, hz, ble_iff.2 (Nat.le_refl _), ble_iff.2 hsm, Bool.and_self, cond_true, putL_whole (show j.zero.cells.length = v.cells.length by rw [hz, hl]), newAt, ho, Option.map_some]
/-- []T{} -/
theorem op_buildS0 {lo t e : Nat} {m : T AV} {s : St} {i j : TI} (ht : E.tt.get t = some i) (hk : i.k = .slice e) (hj : E.tt.get e = some j) (call : CallT') (lc old : Nat) :
    opE E call lc lo old m s (.buildSlice t 0 #[]) = some (.slice (some (s.c, 0)) 0 0 0, ⟨s.h.set s.c ⟨e, []⟩, s.c + 1⟩) := by
  simp only [opE, kindOf, show Nat.beq 2 0 = false from rfl, cond_false, heapE, ht, hk, hj, Option.bind_some, List.toList_toArray, fillE, reps, Nat.zero_mul, show Nat.ble 0 16777216 = true from rfl, cond_true, newAt, ones, Option.map_some]
theorem SeqR.app {lo c0 c1 b j d t e z : Nat} {draw : Bool} {acs : List Nat} {all os : List Oper} {o : Oper} {m : Tm} {s : St} {K : Tm → St → Prop} {x y : Operand} {v : AV} {cs new : List AV} {i ji : TI} (hw : wantE all m.t o = some true) (ho : o.op = .call { callee := .builtin .append, args := #[x, y], argTypes := #[t, t] }) (hd : o.dst = some d) (hlt : Nat.blt d m.n = true)
    (ht : E.tt.get t = some i) (hk : i.k = .slice e) (hj : E.tt.get e = some ji) (hz : ji.size = z) (hz0 : z ≠ 0) (hx : rho m.t x = some v) (hy : rho m.t y = some (.slice (some (b, 0)) 1 1 0)) (hb : s.h.get b = some ⟨e, new⟩) (hnew : new.length = z) (hone : ones new = true) (hlo : lo ≤ c0) (hc : c0 ≤ s.c) (hown : Gro c0 s e z cs v) (hF : Fresh s) (hcs : ones cs = true) (hlen : (cs.length + 1) * (ji.bytes + 1) ≤ 70368744177664)
    (k : ∀ v' s', Own c0 s' e z (cs ++ new) v' → Fresh s' → Kept c0 s s' → s'.c = s.c + 1 → SeqR E lo draw c1 acs all (j + 1) os ⟨m.n, m.t.set d v'⟩ s' K) : SeqR E lo draw c1 acs all j (o :: os) m s K := by
  subst hz
  obtain ⟨v', s', h1, h2, h3, h4, h5⟩ := appE_gro (bytes := ji.bytes) (new := new) hlo hc hz0 hown hF hnew hone hcs hlen
  refine SeqR.gen (n0 := 0) hw ?_ (by rw [hd]; exact putK_some hlt (k v' s' h2 h3 h4 h5))
  rw [ho, ← h1]
  have hbz : Nat.beq ji.size 0 = false := by
    cases hq : Nat.beq ji.size 0 with
    | false => rfl
    | true => exact absurd (beq_iff.1 hq) hz0
  have htk : takeE s.h ji.size 1 (.slice (some (b, 0)) 1 1 0) = some new := by
    simp only [takeE, show Nat.beq 1 0 = false from rfl, cond_false, cellsAt, hb, Option.bind_some, Nat.one_mul, Nat.zero_add, hnew, ble_iff.2 (Nat.le_refl _), cond_true, List.drop_zero]
    rw [List.take_of_length_le (by omega)]
  simp only [opE, kindOf, show Nat.beq 4 0 = false from rfl, cond_false, heapE, ht, hk, hj, Option.bind_some, List.toList_toArray, List.getElem?_toArray, List.getElem?_cons_zero, List.getElem?_cons_succ, rhos, hx, hy, Option.map_some, hbz, lenOfE, htk]
end Go.Proofs.YtaocoplfdhcoaaaGreatDoor.EvA

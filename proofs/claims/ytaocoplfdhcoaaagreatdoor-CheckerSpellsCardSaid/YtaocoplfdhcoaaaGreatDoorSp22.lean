/- The types of this program, by number. -/
import Derived.Test.YtaocoplfdhcoaaaGreatDoorSp14
import Derived.Test.YtaocoplfdhcoaaaGreatDoorSp18
import Derived.Test.YtaocoplfdhcoaaaGreatDoorSp17
import Derived.Test.YtaocoplfdhcoaaaGreatDoorSp15
namespace Go.Proofs.YtaocoplfdhcoaaaGreatDoor.EvA
open Go Go.RowKit Go.Proofs.YtaocoplfdhcoaaaGreatDoor.Ev
theorem ty2 : E.tt.get 2 = some i2 := rfl
theorem si2 : szE E 2 = some 1 := rfl
theorem ty3 : E.tt.get 3 = some i3 := rfl
theorem si3 : szE E 3 = some 1 := rfl
theorem ty4 : E.tt.get 4 = some i4 := rfl
theorem si4 : szE E 4 = some 1 := rfl
theorem ty5 : E.tt.get 5 = some i5 := rfl
theorem si5 : szE E 5 = some 1 := rfl
theorem ty9 : E.tt.get 9 = some i9 := rfl
theorem si9 : szE E 9 = some 1 := rfl
theorem ty10 : E.tt.get 10 = some i10 := rfl
theorem si10 : szE E 10 = some 1 := rfl
theorem ty21 : E.tt.get 21 = some i21 := rfl
theorem si21 : szE E 21 = some 1 := rfl
theorem ty22 : E.tt.get 22 = some i22 := rfl
theorem si22 : szE E 22 = some 1 := rfl
theorem ty23 : E.tt.get 23 = some i23 := rfl
theorem si23 : szE E 23 = some 1 := rfl
theorem ty24 : E.tt.get 24 = some i24 := rfl
theorem si24 : szE E 24 = some 1 := rfl
theorem ty25 : E.tt.get 25 = some i25 := rfl
theorem si25 : szE E 25 = some 1 := rfl
theorem ty29 : E.tt.get 29 = some i29 := rfl
theorem si29 : szE E 29 = some 1 := rfl
theorem ty32 : E.tt.get 32 = some i32 := rfl
theorem si32 : szE E 32 = some 2 := rfl
theorem ty40 : E.tt.get 40 = some i40 := rfl
theorem si40 : szE E 40 = some 1 := rfl
theorem ty42 : E.tt.get 42 = some i42 := rfl
theorem si42 : szE E 42 = some 2 := rfl
theorem ty44 : E.tt.get 44 = some i44 := rfl
theorem si44 : szE E 44 = some 2 := rfl
theorem ty47 : E.tt.get 47 = some i47 := rfl
theorem si47 : szE E 47 = some 2 := rfl
theorem ty49 : E.tt.get 49 = some i49 := rfl
theorem si49 : szE E 49 = some 1 := rfl
theorem ty51 : E.tt.get 51 = some i51 := rfl
theorem si51 : szE E 51 = some 2 := rfl
theorem ty52 : E.tt.get 52 = some i52 := rfl
theorem si52 : szE E 52 = some 1 := rfl
theorem ty53 : E.tt.get 53 = some i53 := rfl
theorem si53 : szE E 53 = some 1 := rfl
theorem ty54 : E.tt.get 54 = some i54 := rfl
theorem si54 : szE E 54 = some 1 := rfl
theorem ty58 : E.tt.get 58 = some i58 := rfl
theorem si58 : szE E 58 = some 1 := rfl
theorem ty63 : E.tt.get 63 = some i63 := rfl
theorem si63 : szE E 63 = some 3 := rfl
theorem ty71 : E.tt.get 71 = some i71 := rfl
theorem si71 : szE E 71 = some 1 := rfl
theorem ty73 : E.tt.get 73 = some i73 := rfl
theorem si73 : szE E 73 = some 3 := rfl
theorem ty77 : E.tt.get 77 = some i77 := rfl
theorem si77 : szE E 77 = some 3 := rfl
theorem ty82 : E.tt.get 82 = some i82 := rfl
theorem si82 : szE E 82 = some 1 := rfl
theorem ty83 : E.tt.get 83 = some i83 := rfl
theorem si83 : szE E 83 = some 18 := rfl
theorem ty84 : E.tt.get 84 = some i84 := rfl
theorem si84 : szE E 84 = some 3 := rfl
theorem ty85 : E.tt.get 85 = some i85 := rfl
theorem si85 : szE E 85 = some 18 := rfl
theorem ty87 : E.tt.get 87 = some i87 := rfl
theorem si87 : szE E 87 = some 42 := rfl
theorem ty88 : E.tt.get 88 = some i88 := rfl
theorem si88 : szE E 88 = some 1 := rfl
theorem ty90 : E.tt.get 90 = some i90 := rfl
theorem si90 : szE E 90 = some 4 := rfl
theorem ty96 : E.tt.get 96 = some i96 := rfl
theorem si96 : szE E 96 = some 1 := rfl
theorem ty98 : E.tt.get 98 = some i98 := rfl
theorem si98 : szE E 98 = some 1 := rfl
theorem ty100 : E.tt.get 100 = some i100 := rfl
theorem si100 : szE E 100 = some 5 := rfl
theorem ty107 : E.tt.get 107 = some i107 := rfl
theorem si107 : szE E 107 = some 9 := rfl
theorem ty115 : E.tt.get 115 = some i115 := rfl
theorem si115 : szE E 115 = some 3 := rfl
theorem ty117 : E.tt.get 117 = some i117 := rfl
theorem si117 : szE E 117 = some 1 := rfl
theorem ty119 : E.tt.get 119 = some i119 := rfl
theorem si119 : szE E 119 = some 3 := rfl
theorem ty136 : E.tt.get 136 = some i136 := rfl
theorem si136 : szE E 136 = some 2 := rfl
theorem ty137 : E.tt.get 137 = some i137 := rfl
theorem si137 : szE E 137 = some 16 := rfl
theorem ty138 : E.tt.get 138 = some i138 := rfl
theorem si138 : szE E 138 = some 2 := rfl
theorem ty139 : E.tt.get 139 = some i139 := rfl
theorem si139 : szE E 139 = some 16 := rfl
theorem ty141 : E.tt.get 141 = some i141 := rfl
theorem si141 : szE E 141 = some 37 := rfl
theorem ty142 : E.tt.get 142 = some i142 := rfl
theorem si142 : szE E 142 = some 1 := rfl
theorem ty145 : E.tt.get 145 = some i145 := rfl
theorem si145 : szE E 145 = some 6 := rfl
theorem ty154 : E.tt.get 154 = some i154 := rfl
theorem si154 : szE E 154 = some 1 := rfl
theorem ty169 : E.tt.get 169 = some i169 := rfl
theorem si169 : szE E 169 = some 1 := rfl
theorem ty171 : E.tt.get 171 = some i171 := rfl
theorem si171 : szE E 171 = some 2 := rfl
theorem ty178 : E.tt.get 178 = some i178 := rfl
theorem si178 : szE E 178 = some 1 := rfl
theorem ty183 : E.tt.get 183 = some i183 := rfl
theorem si183 : szE E 183 = some 1 := rfl
theorem ty190 : E.tt.get 190 = some i190 := rfl
theorem si190 : szE E 190 = some 3 := rfl
theorem ty213 : E.tt.get 213 = some i213 := rfl
theorem si213 : szE E 213 = some 4 := rfl
theorem ty218 : E.tt.get 218 = some i218 := rfl
theorem si218 : szE E 218 = some 2 := rfl
theorem ty224 : E.tt.get 224 = some i224 := rfl
theorem si224 : szE E 224 = some 2 := rfl
theorem ty227 : E.tt.get 227 = some i227 := rfl
theorem si227 : szE E 227 = some 2 := rfl
theorem ty231 : E.tt.get 231 = some i231 := rfl
theorem si231 : szE E 231 = some 1 := rfl
theorem ty240 : E.tt.get 240 = some i240 := rfl
theorem si240 : szE E 240 = some 1 := rfl
theorem ty245 : E.tt.get 245 = some i245 := rfl
theorem si245 : szE E 245 = some 1 := rfl
theorem ty247 : E.tt.get 247 = some i247 := rfl
theorem si247 : szE E 247 = some 1 := rfl
theorem ty272 : E.tt.get 272 = some i272 := rfl
theorem si272 : szE E 272 = some 1 := rfl
theorem ty275 : E.tt.get 275 = some i275 := rfl
theorem si275 : szE E 275 = some 2 := rfl
theorem ty276 : E.tt.get 276 = some i276 := rfl
theorem si276 : szE E 276 = some 1 := rfl
theorem ty283 : E.tt.get 283 = some i283 := rfl
theorem si283 : szE E 283 = some 1 := rfl
theorem ty284 : E.tt.get 284 = some i284 := rfl
theorem si284 : szE E 284 = some 1 := rfl
theorem ty294 : E.tt.get 294 = some i294 := rfl
theorem si294 : szE E 294 = some 1 := rfl
theorem ty299 : E.tt.get 299 = some i299 := rfl
theorem si299 : szE E 299 = some 1 := rfl
theorem ty306 : E.tt.get 306 = some i306 := rfl
theorem si306 : szE E 306 = some 1 := rfl
theorem ty313 : E.tt.get 313 = some i313 := rfl
theorem si313 : szE E 313 = some 1 := rfl
theorem ty320 : E.tt.get 320 = some i320 := rfl
theorem si320 : szE E 320 = some 1 := rfl
theorem ty323 : E.tt.get 323 = some i323 := rfl
theorem si323 : szE E 323 = some 11 := rfl
theorem ty333 : E.tt.get 333 = some i333 := rfl
theorem si333 : szE E 333 = some 1 := rfl
theorem ty335 : E.tt.get 335 = some i335 := rfl
theorem si335 : szE E 335 = some 3 := rfl
theorem ty340 : E.tt.get 340 = some i340 := rfl
theorem si340 : szE E 340 = some 4 := rfl
theorem ty371 : E.tt.get 371 = some i371 := rfl
theorem si371 : szE E 371 = some 1 := rfl
theorem ty381 : E.tt.get 381 = some i381 := rfl
theorem si381 : szE E 381 = some 1 := rfl
theorem ty382 : E.tt.get 382 = some i382 := rfl
theorem si382 : szE E 382 = some 1 := rfl
theorem ty385 : E.tt.get 385 = some i385 := rfl
theorem si385 : szE E 385 = some 1 := rfl
theorem ty391 : E.tt.get 391 = some i391 := rfl
theorem si391 : szE E 391 = some 1 := rfl
theorem ty413 : E.tt.get 413 = some i413 := rfl
theorem si413 : szE E 413 = some 1 := rfl
theorem ty414 : E.tt.get 414 = some i414 := rfl
theorem si414 : szE E 414 = some 1 := rfl
theorem ty417 : E.tt.get 417 = some i417 := rfl
theorem si417 : szE E 417 = some 3 := rfl
theorem ty423 : E.tt.get 423 = some i423 := rfl
theorem si423 : szE E 423 = some 1 := rfl
theorem ty430 : E.tt.get 430 = some i430 := rfl
theorem si430 : szE E 430 = some 24 := rfl
theorem ty441 : E.tt.get 441 = some i441 := rfl
theorem si441 : szE E 441 = some 3 := rfl
theorem ty461 : E.tt.get 461 = some i461 := rfl
theorem si461 : szE E 461 = some 20 := rfl
theorem ty465 : E.tt.get 465 = some i465 := rfl
theorem si465 : szE E 465 = some 1 := rfl
theorem ty467 : E.tt.get 467 = some i467 := rfl
theorem si467 : szE E 467 = some 1 := rfl
theorem ty474 : E.tt.get 474 = some i474 := rfl
theorem si474 : szE E 474 = some 32 := rfl
theorem ty475 : E.tt.get 475 = some i475 := rfl
theorem si475 : szE E 475 = some 64 := rfl
end Go.Proofs.YtaocoplfdhcoaaaGreatDoor.EvA
set_option linter.unusedVariables false
set_option linter.unusedSimpArgs false
namespace Go.Proofs.YtaocoplfdhcoaaaGreatDoor.EvA
open Go Go.RowKit Go.Proofs.YtaocoplfdhcoaaaGreatDoor.Ev
theorem op_box {lo t : Nat} {m : T AV} {s : St} {x : Operand} {v : AV} {cs : List AV} (hr : rho m x = some v) (hc : v.cells = cs) (ho : ones cs = true) (call : CallT') (lc old : Nat) :
    opE E call lc lo old m s (.box t x) = some (.ptr (some (s.c, 0)), ⟨s.h.set s.c ⟨t, cs⟩, s.c + 1⟩) := by
  subst hc
  simp only [opE, kindOf, show Nat.beq 2 0 = false from rfl, cond_false, heapE, hr, Option.bind_some, newAt, ho, cond_true, Option.map_some]
theorem op_alloc {lo t : Nat} {m : T AV} {s : St} {i : TI} {cs : List AV} (ht : E.tt.get t = some i) (hc : i.zero.cells = cs) (ho : ones cs = true) (call : CallT') (lc old : Nat) :
    opE E call lc lo old m s (.alloc t) = some (.ptr (some (s.c, 0)), ⟨s.h.set s.c ⟨t, cs⟩, s.c + 1⟩) := by
  subst hc
  simp only [opE, kindOf, show Nat.beq 2 0 = false from rfl, cond_false, heapE, ht, Option.bind_some, newAt, ho, cond_true, Option.map_some]
theorem ones_rep (n : Nat) {v : AV} (h : v.one = true) : ones (reps n [v]) = true := by
  induction n with
  | zero => rfl
  | succ n ih =>
    show ones (v :: reps n [v]) = true
    rw [ones, h, ih]
    rfl
theorem op_make {lo t e n : Nat} {m : T AV} {s : St} {i j : TI} {x : Operand} {v : AV} (hr : rho m x = some (.int .i64 (Int.ofNat n))) (ht : E.tt.get t = some i) (hk : i.k = .slice e) (hj : E.tt.get e = some j) (hz : j.zero.cells = [v]) (ho : v.one = true) (hb : n * j.bytes ≤ 70368744177664) (hn : n ≤ 70368744177664) (call : CallT') (lc old : Nat) :
    opE E call lc lo old m s (.makeSlice t x x) = some (.slice (some (s.c, 0)) n n 0, ⟨s.h.set s.c ⟨e, reps n [v]⟩, s.c + 1⟩) := by
  simp only [opE, kindOf, show Nat.beq 2 0 = false from rfl, cond_false, heapE, hr, ht, hk, hj, hz, Option.bind_some, natE, newAt, ones_rep n ho, cond_true, Option.map_some, ble_iff.2 hb, ble_iff.2 hn, ble_iff.2 (Nat.le_refl n), Bool.and_self]
/-- A value of one cell is stored into a row. -/
theorem op_put {lo b o t : Nat} {m : T AV} {s : St} {x y : Operand} {v : AV} {e : Nat} {cs : List AV} (hx : rho m x = some (.ptr (some (b, o)))) (hy : rho m y = some v) (hone : v.one = true) (hsz : szE E t = some 1) (hg : s.h.get b = some ⟨e, cs⟩) (ho : o < cs.length) (hlo : lo ≤ b)
    (call : CallT') (lc old : Nat) : opE E call lc lo old m s (.store t x y) = some (.tuple [], ⟨s.h.set b ⟨e, cs.set o v⟩, s.c⟩) := by
  rw [op_store (cs := [v]) (z := 1) hx hy (one_cells hone) rfl (by simp [ones, hone]) hsz hg (by simp only; omega) hlo, putL_set (by simpa using ho)]
end Go.Proofs.YtaocoplfdhcoaaaGreatDoor.EvA
set_option linter.unusedVariables false
set_option linter.unusedSimpArgs false
namespace Go.Proofs.YtaocoplfdhcoaaaGreatDoor.EvA
open Go Go.RowKit Go.Proofs.YtaocoplfdhcoaaaGreatDoor.Ev
theorem b_neqB (c : Bool) (a b : Bool) : binE E .neq 4 c (.bool a) (.bool b) = some (.bool (a != b)) := by cases c <;> rfl
theorem u_notB (b : Bool) : unE .not (.bool b) = some (.bool !b) := rfl
/-- A slice that grows: nil, empty, or the run's own. -/
def Gro (c0 : Nat) (s : St) (e z : Nat) (cs : List AV) (v : AV) : Prop := Own c0 s e z cs v ∨ ∃ b, v = .slice (some (b, 0)) 0 0 0 ∧ cs = []
theorem Gro.row {c0 : Nat} {s : St} {e z : Nat} {cs : List AV} {v : AV} (h : Gro c0 s e z cs v) : Row s.h z cs v := by
  rcases h with h | ⟨b, rfl, rfl⟩
  · exact h.row
  · exact ⟨by simp, Nat.le_refl _, .inl rfl, fun h => absurd rfl h⟩
theorem Gro.keep {c0 : Nat} {s s' : St} {e z : Nat} {cs : List AV} {v : AV} (h : Gro c0 s e z cs v) (hF : Fresh s) (hk : Kept s.c s s') : Gro c0 s' e z cs v := by
  rcases h with h | h
  · exact .inl (h.keep hF hk)
  · exact .inr h
theorem Gro.set {c0 : Nat} {s : St} {e z : Nat} {cs : List AV} {v : AV} (h : Gro c0 s e z cs v) {b : Nat} {k : Blk} (hb : b < c0) : Gro c0 ⟨s.h.set b k, s.c⟩ e z cs v := by
  rcases h with (h | ⟨b', n, h0, h1, h2, h3⟩) | h
  · exact .inl (.inl h)
  · exact .inl (.inr ⟨b', n, h0, h1, by simp only; rw [T.get_set, if_neg (by omega)]; exact h2, h3⟩)
  · exact .inr h
theorem Gro.nil (c0 : Nat) (s : St) (e z : Nat) : Gro c0 s e z [] (.slice none 0 0 0) := .inl (.inl ⟨rfl, rfl⟩)
theorem Gro.one {c0 : Nat} {s : St} {e z : Nat} {cs : List AV} {v : AV} (h : Gro c0 s e z cs v) : v.one = true := by
  rcases h with (⟨rfl, _⟩ | ⟨b', n, rfl, _⟩) | ⟨b, rfl, _⟩ <;> rfl
theorem appE_gro {c0 lo e z bytes : Nat} {s : St} {cs new : List AV} {v : AV} (hlo : lo ≤ c0) (hc : c0 ≤ s.c) (hz : z ≠ 0) (h : Gro c0 s e z cs v) (hF : Fresh s) (hnew : new.length = z) (hone : ones new = true) (hcs : ones cs = true) (hb : (cs.length + 1) * (bytes + 1) ≤ 70368744177664) :
    ∃ v' s', appE lo s e z bytes 1 new v = some (v', s') ∧ Own c0 s' e z (cs ++ new) v' ∧ Fresh s' ∧ Kept c0 s s' ∧ s'.c = s.c + 1 := by
  rcases h with h | ⟨b, rfl, rfl⟩
  · exact appE_own hlo hc hz h hF hnew hone hcs hb
  · refine ⟨.slice (some (s.c, 0)) 1 1 z, ⟨s.h.set s.c ⟨e, new⟩, s.c + 1⟩, ?_, .inr ⟨s.c, 1, rfl, hc, by simp [T.get_set], by simp [hnew], by simp⟩, fresh_new hF _, kept_new (Kept.refl _ _) hc _, rfl⟩
    simp at hb
    simp only [appE, show Nat.beq 1 0 = false from rfl, cond_false, Nat.zero_add, Nat.one_mul, ble_iff.2 (show bytes ≤ 70368744177664 by omega), ble_iff.2 (show 1 ≤ 70368744177664 by decide), Bool.and_self, cond_true, show Nat.ble 1 0 = false from rfl, nb00, takeE, Option.bind_some, growE, newAt, List.nil_append, hone, Option.map_some]
theorem putL_whole {a b : List AV} (h : a.length = b.length) : putL a 0 b = b := by
  unfold putL
  rw [List.take_zero, List.nil_append, Nat.zero_add, List.drop_eq_nil_of_le (by omega), List.append_nil]
/-- []T{x} -/
theorem op_buildS {lo t e : Nat} {m : T AV} {s : St} {i j : TI} {x : Operand} {v : AV} {cs : List AV} (ht : E.tt.get t = some i) (hk : i.k = .slice e) (hj : E.tt.get e = some j) (hz : j.zero.cells.length = j.size) (hsm : j.size ≤ 16777216) (hr : rho m x = some v) (hv : v.cells = cs) (hl : cs.length = j.size) (ho : ones cs = true) (call : CallT') (lc old : Nat) :
    opE E call lc lo old m s (.buildSlice t 1 #[(0, x)]) = some (.slice (some (s.c, 0)) 1 1 0, ⟨s.h.set s.c ⟨e, cs⟩, s.c + 1⟩) := by
  subst hv
  have e1 : (reps 1 j.zero.cells) = j.zero.cells := by simp [reps]
  simp only [opE, kindOf, show Nat.beq 2 0 = false from rfl, cond_false, heapE, ht, hk, hj, Option.bind_some, List.toList_toArray, fillE, hr, e1, Nat.zero_mul, hl, beq_self, Nat.one_mul, Nat.zero_add, hz, ble_iff.2 (Nat.le_refl _), ble_iff.2 hsm, Bool.and_self, cond_true, putL_whole (show j.zero.cells.length = v.cells.length by rw [hz, hl]), newAt, ho, Option.map_some]
/-- []T{} -/
theorem op_buildS0 {lo t e : Nat} {m : T AV} {s : St} {i j : TI} (ht : E.tt.get t = some i) (hk : i.k = .slice e) (hj : E.tt.get e = some j) (call : CallT') (lc old : Nat) :
    opE E call lc lo old m s (.buildSlice t 0 #[]) = some (.slice (some (s.c, 0)) 0 0 0, ⟨s.h.set s.c ⟨e, []⟩, s.c + 1⟩) := by
  simp only [opE, kindOf, show Nat.beq 2 0 = false from rfl, cond_false, heapE, ht, hk, hj, Option.bind_some, List.toList_toArray, fillE, reps, Nat.zero_mul, show Nat.ble 0 16777216 = true from rfl, cond_true, newAt, ones, Option.map_some]
theorem SeqR.app {lo c0 c1 b j d t e z : Nat} {draw : Bool} {acs : List Nat} {all os : List Oper} {o : Oper} {m : Tm} {s : St} {K : Tm → St → Prop} {x y : Operand} {v : AV} {cs new : List AV} {i ji : TI} (hw : wantE all m.t o = some true) (ho : o.op = .call { callee := .builtin .append, args := #[x, y], argTypes := #[t, t] }) (hd : o.dst = some d) (hlt : Nat.blt d m.n = true)
    (ht : E.tt.get t = some i) (hk : i.k = .slice e) (hj : E.tt.get e = some ji) (hz : ji.size = z) (hz0 : z ≠ 0) (hx : rho m.t x = some v) (hy : rho m.t y = some (.slice (some (b, 0)) 1 1 0)) (hb : s.h.get b = some ⟨e, new⟩) (hnew : new.length = z) (hone : ones new = true) (hlo : lo ≤ c0) (hc : c0 ≤ s.c) (hown : Gro c0 s e z cs v) (hF : Fresh s) (hcs : ones cs = true) (hlen : (cs.length + 1) * (ji.bytes + 1) ≤ 70368744177664)
    (k : ∀ v' s', Own c0 s' e z (cs ++ new) v' → Fresh s' → Kept c0 s s' → s'.c = s.c + 1 → SeqR E lo draw c1 acs all (j + 1) os ⟨m.n, m.t.set d v'⟩ s' K) : SeqR E lo draw c1 acs all j (o :: os) m s K := by
  subst hz
  obtain ⟨v', s', h1, h2, h3, h4, h5⟩ := appE_gro (bytes := ji.bytes) (new := new) hlo hc hz0 hown hF hnew hone hcs hlen
  refine SeqR.gen (n0 := 0) hw ?_ (by rw [hd]; exact putK_some hlt (k v' s' h2 h3 h4 h5))
  rw [ho, ← h1]
  have hbz : Nat.beq ji.size 0 = false := by
    cases hq : Nat.beq ji.size 0 with
    | false => rfl
    | true => exact absurd (beq_iff.1 hq) hz0
  have htk : takeE s.h ji.size 1 (.slice (some (b, 0)) 1 1 0) = some new := by
    simp only [takeE, show Nat.beq 1 0 = false from rfl, cond_false, cellsAt, hb, Option.bind_some, Nat.one_mul, Nat.zero_add, hnew, ble_iff.2 (Nat.le_refl _), cond_true, List.drop_zero]
    rw [List.take_of_length_le (by omega)]
  simp only [opE, kindOf, show Nat.beq 4 0 = false from rfl, cond_false, heapE, ht, hk, hj, Option.bind_some, List.toList_toArray, List.getElem?_toArray, List.getElem?_cons_zero, List.getElem?_cons_succ, rhos, hx, hy, Option.map_some, hbz, lenOfE, htk]
end Go.Proofs.YtaocoplfdhcoaaaGreatDoor.EvA
set_option linter.unusedVariables false
set_option linter.unusedSimpArgs false
set_option maxRecDepth 20000
set_option maxHeartbeats 2000000
namespace Go.Proofs.YtaocoplfdhcoaaaGreatDoor.EvA
open Go Go.RowKit Go.Proofs.YtaocoplfdhcoaaaGreatDoor.Ev
theorem fn302' : E.fns.get 302 = some Tryz.f302 := by kernel_rfl
theorem ctrim_run {lo : Nat} {d : AV} {xs : List Nat} {s : St} (hd : Row s.h 1 (nats xs) d) (hF : Fresh s) (hx : xs.length ≤ 1000000) :
    FunR E lo 302 [d] s fun v s' => s' = s ∧ Row s.h 1 (nats (trimL xs)) v := by
  refine FunR.body (fn := Tryz.f302) fn302' rfl ?_
  have hn : (max [d].length Tryz.f302.ntmps) = 21 := rfl
  generalize max [d].length Tryz.f302.ntmps = n at hn
  subst hn
  have g0 : (argsT 0 [d]).get 0 = some d := rfl
  generalize argsT 0 [d] = T0 at g0
  have hn : (21 : Nat) = 21 := rfl
  refine CodeR.seq (CodeR.reg rfl ?_)
  (first | (refine SeqR.skipN ?_ rfl rfl ?_; (simp only [sA, wantE, T.get_set, Nat.reduceEqDiff] <;> with_reducible rfl)) | ((first | refine SeqR.stepN (v := ?_) (s' := ?_) rfl ?_ rfl ?_ rfl rfl ?_ | refine SeqR.stepLN (v := ?_) (s' := ?_) rfl ?_ rfl ?_ rfl rfl ?_); rotate_left 3; (intro call lc; simp only [sA, opE, kindOf, pureE, heapE, rho, rhos, T.get_set, Nat.reduceEqDiff, nb00, absV, absS, l_slice, l_void, l_str, l_arr, natE, loadE, isConst, TK.agg] <;> rfl); rotate_left 1; (simp only [sA, wantE, T.get_set, Nat.reduceEqDiff] <;> with_reducible rfl)))
  refine SeqR.done ?_
  refine CodeR.seq (CodeR.mono (Q := fun e m' s' => e = .nrm ∧ s' = s ∧ ∃ T2 d', m' = ⟨21, T2⟩ ∧ T2.get 0 = some d' ∧ Row s.h 1 (nats (trimL xs)) d')
    (CodeR.block (CodeR.loop (fun k m s1 => s1 = s ∧ k ≤ xs.length ∧ trimN xs xs.length = trimN xs k ∧ ∃ T2 d', m = ⟨21, T2⟩ ∧ T2.get 0 = some d' ∧ Row s.h 1 (nats (xs.take k)) d') xs.length ?_ ?_)) ?_)
  · refine ⟨rfl, Nat.le_refl _, rfl, _, d, rfl, ?_, ?_⟩
    simp only [T.get_set, Nat.reduceEqDiff, if_true, if_false, g0]
    · rw [List.take_length]; exact hd
  · rintro k m s1 ⟨rfl, hk, htn, T2, d', rfl, h0, hr⟩
    have hlen : (xs.take k).length = k := by rw [List.length_take]; omega
    have ld := lenN hr 245
    rw [hlen] at ld
    cases k with
    | zero =>
      have e0 : ltB 0 (Int.ofNat 0) = false := rfl
      refine CodeR.seq (CodeR.seq (CodeR.reg rfl ?_))
      iterate 12 (first | (refine SeqR.skipN ?_ rfl rfl ?_; (simp only [sA, wantE, T.get_set, Nat.reduceEqDiff, h0, tt169, i169, ld, b_gtr, e0] <;> with_reducible rfl)) | ((first | refine SeqR.stepN (v := ?_) (s' := ?_) rfl ?_ rfl ?_ rfl rfl ?_ | refine SeqR.stepLN (v := ?_) (s' := ?_) rfl ?_ rfl ?_ rfl rfl ?_); rotate_left 3; (intro call lc; simp only [sA, opE, kindOf, pureE, heapE, rho, rhos, T.get_set, Nat.reduceEqDiff, nb00, absV, absS, l_slice, l_void, l_str, l_arr, natE, loadE, isConst, TK.agg, h0, tt169, i169, ld, b_gtr, e0] <;> rfl); rotate_left 1; (simp only [sA, wantE, T.get_set, Nat.reduceEqDiff, h0, tt169, i169, ld, b_gtr, e0] <;> with_reducible rfl)))
      refine SeqR.done ?_
      refine CodeR.cond (t := false) (by simp only [rho, T.get_set, Nat.reduceEqDiff, if_true, if_false]) (fun h => by cases h) fun _ => ?_
      refine CodeR.exit ?_
      simp only [Ex.then, Ex.inBlock, if_true]
      refine ⟨trivial, trivial, _, d', rfl, ?_, ?_⟩
      simp only [T.get_set, Nat.reduceEqDiff, if_true, if_false, h0]
      · rw [trimL, htn]; exact hr
    | succ i =>
      have e0 : ltB 0 (Int.ofNat (i + 1)) = true := rfl
      have e5 : wr .i64 (Int.ofNat (i + 1) - 1) = Int.ofNat i := wr_pred (k := i + 1) (by omega)
      obtain ⟨b, o, n, c, q, kk, rfl, f1, f2, f3⟩ := Row.nat hr (i := i) (by rw [hlen]; omega)
      have f5 : (xs.take (i + 1)).getD i 0 = xs.getD i 0 := by simp [List.getD_eq_getElem?_getD, List.getElem?_take]
      rw [f5] at f3
      have f4 : Nat.blt b s1.c = true := blt_iff.2 (hF.lt b kk f2)
      refine CodeR.seq (CodeR.seq (CodeR.reg rfl ?_))
      iterate 12 (first | (refine SeqR.skipN ?_ rfl rfl ?_; (simp only [sA, wantE, T.get_set, Nat.reduceEqDiff, h0, tt169, i169, tt245, i245, sz245, ld, b_gtr, e0, b_sub, e5, f1, f2, f3, f4, b_eql] <;> with_reducible rfl)) | ((first | refine SeqR.stepN (v := ?_) (s' := ?_) rfl ?_ rfl ?_ rfl rfl ?_ | refine SeqR.stepLN (v := ?_) (s' := ?_) rfl ?_ rfl ?_ rfl rfl ?_); rotate_left 3; (intro call lc; simp only [sA, opE, kindOf, pureE, heapE, rho, rhos, T.get_set, Nat.reduceEqDiff, nb00, absV, absS, l_slice, l_void, l_str, l_arr, natE, loadE, isConst, TK.agg, h0, tt169, i169, tt245, i245, sz245, ld, b_gtr, e0, b_sub, e5, f1, f2, f3, f4, b_eql] <;> rfl); rotate_left 1; (simp only [sA, wantE, T.get_set, Nat.reduceEqDiff, h0, tt169, i169, tt245, i245, sz245, ld, b_gtr, e0, b_sub, e5, f1, f2, f3, f4, b_eql] <;> with_reducible rfl)))
      refine SeqR.done ?_
      refine CodeR.cond (t := eqB (Int.ofNat (xs.getD i 0)) 0) (by simp only [rho, T.get_set, Nat.reduceEqDiff, if_true, if_false]) ?_ ?_
      · intro hz
        have hz' : xs.getD i 0 = 0 := by
          rw [show (0 : Int) = Int.ofNat 0 from rfl, eqB_nat] at hz
          simpa using hz
        refine CodeR.skip ?_
        obtain ⟨v', p1, p2⟩ := Row.front hr (by omega) (k := i) (by rw [nats_length, hlen]; omega)
        refine CodeR.block (CodeR.reg rfl ?_)
        iterate 6 (first | (refine SeqR.skipN ?_ rfl rfl ?_; (simp only [sA, wantE, T.get_set, Nat.reduceEqDiff, h0, tt169, i169, tt245, i245, sz245, ld, b_sub, e5, p1] <;> with_reducible rfl)) | ((first | refine SeqR.stepN (v := ?_) (s' := ?_) rfl ?_ rfl ?_ rfl rfl ?_ | refine SeqR.stepLN (v := ?_) (s' := ?_) rfl ?_ rfl ?_ rfl rfl ?_); rotate_left 3; (intro call lc; simp only [sA, opE, kindOf, pureE, heapE, rho, rhos, T.get_set, Nat.reduceEqDiff, nb00, absV, absS, l_slice, l_void, l_str, l_arr, natE, loadE, isConst, TK.agg, h0, tt169, i169, tt245, i245, sz245, ld, b_sub, e5, p1] <;> rfl); rotate_left 1; (simp only [sA, wantE, T.get_set, Nat.reduceEqDiff, h0, tt169, i169, tt245, i245, sz245, ld, b_sub, e5, p1] <;> with_reducible rfl)))
        refine SeqR.done ⟨i, Nat.lt_succ_self _, rfl, by omega, ?_, _, v', rfl, ?_, ?_⟩
        · rw [htn, trimN, if_pos hz']
        simp only [T.get_set, Nat.reduceEqDiff, if_true, if_false]
        · rw [Nat.mul_one, nats_take, List.take_take, Nat.min_eq_left (by omega)] at p2
          exact p2
      · intro hz
        have hz' : xs.getD i 0 ≠ 0 := by
          rw [show (0 : Int) = Int.ofNat 0 from rfl, eqB_nat] at hz
          simpa using hz
        refine CodeR.exit ?_
        simp only [Ex.then, Ex.inBlock, if_true]
        refine ⟨trivial, trivial, _, .slice (some (b, o)) n c q, rfl, ?_, ?_⟩
        simp only [T.get_set, Nat.reduceEqDiff, if_true, if_false, h0]
        · rw [trimL, htn, trimN, if_neg hz']; exact hr
  · rintro e m' s' ⟨rfl, rfl, T2, d', rfl, h0, hr⟩
    refine CodeR.seq (CodeR.reg rfl ?_)
    iterate 2 (first | (refine SeqR.skipN ?_ rfl rfl ?_; (simp only [sA, wantE, T.get_set, Nat.reduceEqDiff, h0] <;> with_reducible rfl)) | ((first | refine SeqR.stepN (v := ?_) (s' := ?_) rfl ?_ rfl ?_ rfl rfl ?_ | refine SeqR.stepLN (v := ?_) (s' := ?_) rfl ?_ rfl ?_ rfl rfl ?_); rotate_left 3; (intro call lc; simp only [sA, opE, kindOf, pureE, heapE, rho, rhos, T.get_set, Nat.reduceEqDiff, nb00, absV, absS, l_slice, l_void, l_str, l_arr, natE, loadE, isConst, TK.agg, h0] <;> rfl); rotate_left 1; (simp only [sA, wantE, T.get_set, Nat.reduceEqDiff, h0] <;> with_reducible rfl)))
    refine SeqR.done ?_
    refine CodeR.ret ⟨.inr rfl, [d'], ?_, rfl, hr⟩
    show ressE E _ s' [.tmp 2] = _
    simp only [ressE, resE, T.get_set, if_true, Option.bind_some, Option.map_some]
end Go.Proofs.YtaocoplfdhcoaaaGreatDoor.EvA
set_option linter.unusedVariables false
set_option linter.unusedSimpArgs false
set_option maxRecDepth 20000
set_option maxHeartbeats 2000000
namespace Go.Proofs.YtaocoplfdhcoaaaGreatDoor.EvA
open Go Go.RowKit Go.Proofs.YtaocoplfdhcoaaaGreatDoor.Ev
theorem fn128' : E.fns.get 128 = some Tryz.f128 := by kernel_rfl
theorem order_run {lo : Nat} {a b : AV} {xs ys : List Nat} {s : St} (ha : Row s.h 1 (nats xs) a) (hb : Row s.h 1 (nats ys) b) (hF : Fresh s) (hx : xs.length ≤ 1000000) :
    FunR E lo 128 [a, b] s fun v s' => s' = s ∧ v = .int .i64 (aboveL xs ys) := by
  refine FunR.body (fn := Tryz.f128) fn128' rfl ?_
  have la := lenN ha 245
  have lb := lenN hb 245
  have hn : (max [a, b].length Tryz.f128.ntmps) = 43 := rfl
  generalize max [a, b].length Tryz.f128.ntmps = n at hn
  subst hn
  have g0 : (argsT 0 [a, b]).get 0 = some a := rfl
  have g1 : (argsT 0 [a, b]).get 1 = some b := rfl
  generalize argsT 0 [a, b] = T0 at g0 g1
  have hn : (43 : Nat) = 43 := rfl
  refine CodeR.seq (CodeR.reg rfl ?_)
  (first | (refine SeqR.skipN ?_ rfl rfl ?_; (simp only [sA, wantE, T.get_set, Nat.reduceEqDiff] <;> with_reducible rfl)) | ((first | refine SeqR.stepN (v := ?_) (s' := ?_) rfl ?_ rfl ?_ rfl rfl ?_ | refine SeqR.stepLN (v := ?_) (s' := ?_) rfl ?_ rfl ?_ rfl rfl ?_); rotate_left 3; (intro call lc; simp only [sA, opE, kindOf, pureE, heapE, rho, rhos, T.get_set, Nat.reduceEqDiff, nb00, absV, absS, l_slice, l_void, l_str, l_arr, natE, loadE, isConst, TK.agg] <;> rfl); rotate_left 1; (simp only [sA, wantE, T.get_set, Nat.reduceEqDiff] <;> with_reducible rfl)))
  refine SeqR.done ?_
  refine CodeR.seq (CodeR.seq (CodeR.reg rfl ?_))
  iterate 5 (first | (refine SeqR.skipN ?_ rfl rfl ?_; (simp only [sA, wantE, T.get_set, Nat.reduceEqDiff, g0, g1, tt169, la, lb, b_neq, i169] <;> with_reducible rfl)) | ((first | refine SeqR.stepN (v := ?_) (s' := ?_) rfl ?_ rfl ?_ rfl rfl ?_ | refine SeqR.stepLN (v := ?_) (s' := ?_) rfl ?_ rfl ?_ rfl rfl ?_); rotate_left 3; (intro call lc; simp only [sA, opE, kindOf, pureE, heapE, rho, rhos, T.get_set, Nat.reduceEqDiff, nb00, absV, absS, l_slice, l_void, l_str, l_arr, natE, loadE, isConst, TK.agg, g0, g1, tt169, la, lb, b_neq, i169] <;> rfl); rotate_left 1; (simp only [sA, wantE, T.get_set, Nat.reduceEqDiff, g0, g1, tt169, la, lb, b_neq, i169] <;> with_reducible rfl)))
  refine SeqR.done ?_
  have fin : ∀ {T1 : T AV} {v : Int}, T1.get 4 = some (.int .i64 v) → v = aboveL xs ys → (Ex.ret = .nrm ∨ Ex.ret = .ret) ∧ ∃ us, ressE E T1 s Tryz.f128.results.toList = some us ∧ (s = s ∧ oneOf us = .int .i64 (aboveL xs ys)) := fun {T1 v} h4 hv => by
    refine ⟨.inr rfl, [.int .i64 v], ?_, rfl, by rw [hv]; rfl⟩
    show ressE E T1 s [.tmp 4] = _
    simp only [ressE, resE, h4, Option.bind_some, Option.map_some]
  refine CodeR.cond (t := !eqB (Int.ofNat xs.length) (Int.ofNat ys.length)) (by simp only [rho, T.get_set, Nat.reduceEqDiff, if_true, if_false]) ?_ ?_
  · intro hne
    have hne' : xs.length ≠ ys.length := by rw [eqB_nat] at hne; simpa using hne
    refine CodeR.seq (CodeR.seq (CodeR.reg rfl ?_))
    iterate 5 (first | (refine SeqR.skipN ?_ rfl rfl ?_; (simp only [sA, wantE, T.get_set, Nat.reduceEqDiff, g0, g1, tt169, la, lb, b_lss, i169] <;> with_reducible rfl)) | ((first | refine SeqR.stepN (v := ?_) (s' := ?_) rfl ?_ rfl ?_ rfl rfl ?_ | refine SeqR.stepLN (v := ?_) (s' := ?_) rfl ?_ rfl ?_ rfl rfl ?_); rotate_left 3; (intro call lc; simp only [sA, opE, kindOf, pureE, heapE, rho, rhos, T.get_set, Nat.reduceEqDiff, nb00, absV, absS, l_slice, l_void, l_str, l_arr, natE, loadE, isConst, TK.agg, g0, g1, tt169, la, lb, b_lss, i169] <;> rfl); rotate_left 1; (simp only [sA, wantE, T.get_set, Nat.reduceEqDiff, g0, g1, tt169, la, lb, b_lss, i169] <;> with_reducible rfl)))
    refine SeqR.done ?_
    refine CodeR.cond (t := ltB (Int.ofNat xs.length) (Int.ofNat ys.length)) (by simp only [rho, T.get_set, Nat.reduceEqDiff, if_true, if_false]) ?_ ?_
    · intro hlt
      refine CodeR.seq (CodeR.reg rfl ?_)
      (first | (refine SeqR.skipN ?_ rfl rfl ?_; (simp only [sA, wantE, T.get_set, Nat.reduceEqDiff] <;> with_reducible rfl)) | ((first | refine SeqR.stepN (v := ?_) (s' := ?_) rfl ?_ rfl ?_ rfl rfl ?_ | refine SeqR.stepLN (v := ?_) (s' := ?_) rfl ?_ rfl ?_ rfl rfl ?_); rotate_left 3; (intro call lc; simp only [sA, opE, kindOf, pureE, heapE, rho, rhos, T.get_set, Nat.reduceEqDiff, nb00, absV, absS, l_slice, l_void, l_str, l_arr, natE, loadE, isConst, TK.agg] <;> rfl); rotate_left 1; (simp only [sA, wantE, T.get_set, Nat.reduceEqDiff] <;> with_reducible rfl)))
      refine SeqR.done ?_
      refine CodeR.ret (fin (v := -1) (by simp only [T.get_set, if_true]) ?_)
      rw [ltB_nat] at hlt
      rw [aboveL, if_neg hne', if_pos (by simpa using hlt)]
    · intro hlt
      refine CodeR.skip ?_
      refine CodeR.seq (CodeR.reg rfl ?_)
      (first | (refine SeqR.skipN ?_ rfl rfl ?_; (simp only [sA, wantE, T.get_set, Nat.reduceEqDiff] <;> with_reducible rfl)) | ((first | refine SeqR.stepN (v := ?_) (s' := ?_) rfl ?_ rfl ?_ rfl rfl ?_ | refine SeqR.stepLN (v := ?_) (s' := ?_) rfl ?_ rfl ?_ rfl rfl ?_); rotate_left 3; (intro call lc; simp only [sA, opE, kindOf, pureE, heapE, rho, rhos, T.get_set, Nat.reduceEqDiff, nb00, absV, absS, l_slice, l_void, l_str, l_arr, natE, loadE, isConst, TK.agg] <;> rfl); rotate_left 1; (simp only [sA, wantE, T.get_set, Nat.reduceEqDiff] <;> with_reducible rfl)))
      refine SeqR.done ?_
      refine CodeR.ret (fin (v := 1) (by simp only [T.get_set, if_true]) ?_)
      rw [ltB_nat] at hlt
      rw [aboveL, if_neg hne', if_neg (by simpa using hlt)]
  · intro heq
    have heq' : xs.length = ys.length := by rw [eqB_nat] at heq; simpa using heq
    refine CodeR.skip ?_
    refine CodeR.seq (CodeR.seq (CodeR.reg rfl ?_))
    iterate 4 (first | (refine SeqR.skipN ?_ rfl rfl ?_; (simp only [sA, wantE, T.get_set, Nat.reduceEqDiff, g0, tt169, la, b_sub, i169] <;> with_reducible rfl)) | ((first | refine SeqR.stepN (v := ?_) (s' := ?_) rfl ?_ rfl ?_ rfl rfl ?_ | refine SeqR.stepLN (v := ?_) (s' := ?_) rfl ?_ rfl ?_ rfl rfl ?_); rotate_left 3; (intro call lc; simp only [sA, opE, kindOf, pureE, heapE, rho, rhos, T.get_set, Nat.reduceEqDiff, nb00, absV, absS, l_slice, l_void, l_str, l_arr, natE, loadE, isConst, TK.agg, g0, tt169, la, b_sub, i169] <;> rfl); rotate_left 1; (simp only [sA, wantE, T.get_set, Nat.reduceEqDiff, g0, tt169, la, b_sub, i169] <;> with_reducible rfl)))
    refine SeqR.done ?_
    refine CodeR.block (CodeR.loop (fun k m s1 => m.n = 43 ∧ s1 = s ∧ k ≤ xs.length ∧ m.t.get 0 = some a ∧ m.t.get 1 = some b ∧ m.t.get 5 = some (.int .i64 (pred k)) ∧ cmpTop xs ys xs.length = cmpTop xs ys k) xs.length ?_ ?_)
    · refine ⟨rfl, rfl, Nat.le_refl _, ?_, ?_, ?_, rfl⟩
      simp only [T.get_set, Nat.reduceEqDiff, if_true, if_false, g0]
      simp only [T.get_set, Nat.reduceEqDiff, if_true, if_false, g1]
      simp only [T.get_set, Nat.reduceEqDiff, if_true, if_false]
      rw [wr_pred (by omega)]
    · rintro k ⟨n, T1⟩ s1 ⟨hn, rfl, hk, h0, h1, h5, hc⟩
      simp only at hn h0 h1 h5
      subst hn
      have hn : (43 : Nat) = 43 := rfl
      refine CodeR.seq (CodeR.seq (CodeR.reg rfl ?_))
      iterate 2 (first | (refine SeqR.skipN ?_ rfl rfl ?_; (simp only [sA, wantE, T.get_set, Nat.reduceEqDiff, h5, b_geq] <;> with_reducible rfl)) | ((first | refine SeqR.stepN (v := ?_) (s' := ?_) rfl ?_ rfl ?_ rfl rfl ?_ | refine SeqR.stepLN (v := ?_) (s' := ?_) rfl ?_ rfl ?_ rfl rfl ?_); rotate_left 3; (intro call lc; simp only [sA, opE, kindOf, pureE, heapE, rho, rhos, T.get_set, Nat.reduceEqDiff, nb00, absV, absS, l_slice, l_void, l_str, l_arr, natE, loadE, isConst, TK.agg, h5, b_geq] <;> rfl); rotate_left 1; (simp only [sA, wantE, T.get_set, Nat.reduceEqDiff, h5, b_geq] <;> with_reducible rfl)))
      refine SeqR.done ?_
      refine CodeR.cond (t := !ltB (pred k) 0) (by simp only [rho, T.get_set, Nat.reduceEqDiff, if_true, if_false]) ?_ ?_
      · intro hpos
        obtain ⟨i, rfl⟩ : ∃ i, k = i + 1 := by
          cases k with
          | zero => exact absurd hpos (by decide)
          | succ i => exact ⟨i, rfl⟩
        refine CodeR.skip ?_
        obtain ⟨ba, oa, na, ca, qa, rfl, hia, _, ka, hga, hla, hca⟩ := ha.shape (i := i) (by rw [nats_length]; omega) (by omega)
        obtain ⟨bb, ob, nb, cb, qb, rfl, hib, _, kb, hgb, hlb, hcb⟩ := hb.shape (i := i) (by rw [nats_length]; omega) (by omega)
        have ex : xs[i]? = some (xs.getD i 0) := by rw [List.getD_eq_getElem?_getD, List.getElem?_eq_getElem (by omega)]; rfl
        have ey : ys[i]? = some (ys.getD i 0) := by rw [List.getD_eq_getElem?_getD, List.getElem?_eq_getElem (by omega)]; rfl
        have hxa : ka.cells[oa + i]? = some (.int .u32 (Int.ofNat (xs.getD i 0))) := by
          have := hca 0 (by omega)
          simp only [Nat.mul_one, Nat.add_zero] at this
          rw [this, nats_get ex]
        have hyb : kb.cells[ob + i]? = some (.int .u32 (Int.ofNat (ys.getD i 0))) := by
          have := hcb 0 (by omega)
          simp only [Nat.mul_one, Nat.add_zero] at this
          rw [this, nats_get ey]
        have ba1 : Nat.blt i na = true := blt_iff.2 hia
        have bb1 : Nat.blt i nb = true := blt_iff.2 hib
        have ca1 : Nat.blt ba s1.c = true := blt_iff.2 (hF.lt ba ka hga)
        have cb1 : Nat.blt bb s1.c = true := blt_iff.2 (hF.lt bb kb hgb)
        have h5' : T1.get 5 = some (.int .i64 (Int.ofNat i)) := h5
        refine CodeR.seq (CodeR.block (CodeR.block (CodeR.seq (CodeR.regD rfl rfl rfl ?_))))
        iterate 10 (first | (refine SeqR.skipN ?_ rfl rfl ?_; (simp only [sA, wantE, T.get_set, Nat.reduceEqDiff, h0, h1, h5', tt169, i169, tt245, i245, sz245, ba1, bb1, ca1, cb1, hga, hgb, hxa, hyb, b_lss] <;> with_reducible rfl)) | ((first | refine SeqR.stepN (v := ?_) (s' := ?_) rfl ?_ rfl ?_ rfl rfl ?_ | refine SeqR.stepLN (v := ?_) (s' := ?_) rfl ?_ rfl ?_ rfl rfl ?_); rotate_left 3; (intro call lc; simp only [sA, opE, kindOf, pureE, heapE, rho, rhos, T.get_set, Nat.reduceEqDiff, nb00, absV, absS, l_slice, l_void, l_str, l_arr, natE, loadE, isConst, TK.agg, h0, h1, h5', tt169, i169, tt245, i245, sz245, ba1, bb1, ca1, cb1, hga, hgb, hxa, hyb, b_lss] <;> rfl); rotate_left 1; (simp only [sA, wantE, T.get_set, Nat.reduceEqDiff, h0, h1, h5', tt169, i169, tt245, i245, sz245, ba1, bb1, ca1, cb1, hga, hgb, hxa, hyb, b_lss] <;> with_reducible rfl)))
        refine SeqR.done ?_
        refine CodeR.cond (t := ltB (Int.ofNat (xs.getD i 0)) (Int.ofNat (ys.getD i 0))) (by simp only [rho, T.get_set, Nat.reduceEqDiff, if_true, if_false]) ?_ ?_
        · intro hlt
          refine CodeR.seq (CodeR.reg rfl ?_)
          (first | (refine SeqR.skipN ?_ rfl rfl ?_; (simp only [sA, wantE, T.get_set, Nat.reduceEqDiff] <;> with_reducible rfl)) | ((first | refine SeqR.stepN (v := ?_) (s' := ?_) rfl ?_ rfl ?_ rfl rfl ?_ | refine SeqR.stepLN (v := ?_) (s' := ?_) rfl ?_ rfl ?_ rfl rfl ?_); rotate_left 3; (intro call lc; simp only [sA, opE, kindOf, pureE, heapE, rho, rhos, T.get_set, Nat.reduceEqDiff, nb00, absV, absS, l_slice, l_void, l_str, l_arr, natE, loadE, isConst, TK.agg] <;> rfl); rotate_left 1; (simp only [sA, wantE, T.get_set, Nat.reduceEqDiff] <;> with_reducible rfl)))
          refine SeqR.done ?_
          refine CodeR.ret (fin (v := -1) (by simp only [T.get_set, if_true]) ?_)
          rw [ltB_nat] at hlt
          rw [aboveL, if_pos heq', hc, cmpTop, if_pos (by simpa using hlt)]
        · intro hlt
          rw [ltB_nat] at hlt
          refine CodeR.seq (CodeR.regD rfl rfl rfl ?_)
          iterate 10 (first | (refine SeqR.skipN ?_ rfl rfl ?_; (simp only [sA, wantE, T.get_set, Nat.reduceEqDiff, h0, h1, h5', tt169, i169, tt245, i245, sz245, ba1, bb1, ca1, cb1, hga, hgb, hxa, hyb, b_gtr] <;> with_reducible rfl)) | ((first | refine SeqR.stepN (v := ?_) (s' := ?_) rfl ?_ rfl ?_ rfl rfl ?_ | refine SeqR.stepLN (v := ?_) (s' := ?_) rfl ?_ rfl ?_ rfl rfl ?_); rotate_left 3; (intro call lc; simp only [sA, opE, kindOf, pureE, heapE, rho, rhos, T.get_set, Nat.reduceEqDiff, nb00, absV, absS, l_slice, l_void, l_str, l_arr, natE, loadE, isConst, TK.agg, h0, h1, h5', tt169, i169, tt245, i245, sz245, ba1, bb1, ca1, cb1, hga, hgb, hxa, hyb, b_gtr] <;> rfl); rotate_left 1; (simp only [sA, wantE, T.get_set, Nat.reduceEqDiff, h0, h1, h5', tt169, i169, tt245, i245, sz245, ba1, bb1, ca1, cb1, hga, hgb, hxa, hyb, b_gtr] <;> with_reducible rfl)))
          refine SeqR.done ?_
          refine CodeR.cond (t := ltB (Int.ofNat (ys.getD i 0)) (Int.ofNat (xs.getD i 0))) (by simp only [rho, T.get_set, Nat.reduceEqDiff, if_true, if_false]) ?_ ?_
          · intro hgt
            refine CodeR.seq (CodeR.reg rfl ?_)
            (first | (refine SeqR.skipN ?_ rfl rfl ?_; (simp only [sA, wantE, T.get_set, Nat.reduceEqDiff] <;> with_reducible rfl)) | ((first | refine SeqR.stepN (v := ?_) (s' := ?_) rfl ?_ rfl ?_ rfl rfl ?_ | refine SeqR.stepLN (v := ?_) (s' := ?_) rfl ?_ rfl ?_ rfl rfl ?_); rotate_left 3; (intro call lc; simp only [sA, opE, kindOf, pureE, heapE, rho, rhos, T.get_set, Nat.reduceEqDiff, nb00, absV, absS, l_slice, l_void, l_str, l_arr, natE, loadE, isConst, TK.agg] <;> rfl); rotate_left 1; (simp only [sA, wantE, T.get_set, Nat.reduceEqDiff] <;> with_reducible rfl)))
            refine SeqR.done ?_
            refine CodeR.ret (fin (v := 1) (by simp only [T.get_set, if_true]) ?_)
            rw [ltB_nat] at hgt
            rw [aboveL, if_pos heq', hc, cmpTop, if_neg (by simpa using hlt), if_pos (by simpa using hgt)]
          · intro hgt
            rw [ltB_nat] at hgt
            refine CodeR.skip ?_
            refine CodeR.reg rfl ?_
            iterate 3 (first | (refine SeqR.skipN ?_ rfl rfl ?_; (simp only [sA, wantE, T.get_set, Nat.reduceEqDiff, h5', b_sub] <;> with_reducible rfl)) | ((first | refine SeqR.stepN (v := ?_) (s' := ?_) rfl ?_ rfl ?_ rfl rfl ?_ | refine SeqR.stepLN (v := ?_) (s' := ?_) rfl ?_ rfl ?_ rfl rfl ?_); rotate_left 3; (intro call lc; simp only [sA, opE, kindOf, pureE, heapE, rho, rhos, T.get_set, Nat.reduceEqDiff, nb00, absV, absS, l_slice, l_void, l_str, l_arr, natE, loadE, isConst, TK.agg, h5', b_sub] <;> rfl); rotate_left 1; (simp only [sA, wantE, T.get_set, Nat.reduceEqDiff, h5', b_sub] <;> with_reducible rfl)))
            refine SeqR.done ?_
            refine ⟨i, Nat.lt_succ_self _, rfl, rfl, by omega, ?_, ?_, ?_, ?_⟩
            · simp only [T.get_set, Nat.reduceEqDiff, if_true, if_false, h0]
            · simp only [T.get_set, Nat.reduceEqDiff, if_true, if_false, h1]
            · simp only [T.get_set, Nat.reduceEqDiff, if_true, if_false]
              rw [wr_pred (by omega)]
            · rw [hc, cmpTop, if_neg (by simpa using hlt), if_neg (by simpa using hgt)]
      · intro hneg
        have hk0 : k = 0 := by
          cases k with
          | zero => rfl
          | succ i => exact absurd hneg (by simp [pred, ltB, Nat.blt])
        subst hk0
        refine CodeR.exit ?_
        simp only [Ex.then, Ex.inBlock, if_true]
        refine CodeR.seq (CodeR.reg rfl ?_)
        (first | (refine SeqR.skipN ?_ rfl rfl ?_; (simp only [sA, wantE, T.get_set, Nat.reduceEqDiff] <;> with_reducible rfl)) | ((first | refine SeqR.stepN (v := ?_) (s' := ?_) rfl ?_ rfl ?_ rfl rfl ?_ | refine SeqR.stepLN (v := ?_) (s' := ?_) rfl ?_ rfl ?_ rfl rfl ?_); rotate_left 3; (intro call lc; simp only [sA, opE, kindOf, pureE, heapE, rho, rhos, T.get_set, Nat.reduceEqDiff, nb00, absV, absS, l_slice, l_void, l_str, l_arr, natE, loadE, isConst, TK.agg] <;> rfl); rotate_left 1; (simp only [sA, wantE, T.get_set, Nat.reduceEqDiff] <;> with_reducible rfl)))
        refine SeqR.done ?_
        refine CodeR.ret (fin (v := 0) (by simp only [T.get_set, if_true]) ?_)
        rw [aboveL, if_pos heq', hc]
        rfl
end Go.Proofs.YtaocoplfdhcoaaaGreatDoor.EvA

/- Integers and rows of integers for symbolic runs. -/
import Derived.Test.YtaocoplfdhcoaaaGreatDoorEvE
import Derived.Test.YtaocoplfdhcoaaaGreatDoorEvY
set_option linter.unusedVariables false
set_option linter.unusedSimpArgs false
namespace Go.Proofs.YtaocoplfdhcoaaaGreatDoor.EvA
open Go Go.RowKit Go.Proofs.YtaocoplfdhcoaaaGreatDoor.Ev
theorem nb00 : Nat.beq 0 0 = true := rfl
theorem tt3 : E.tt.get 3 = some i3 := rfl
theorem tt24 : E.tt.get 24 = some i24 := rfl
theorem l_slice (e n c q : Nat) (a : Option (Nat × Nat)) : lenE (.slice e) (.slice a n c q) = some n := by cases a <;> rfl
theorem l_void (e b o l q : Nat) : lenE (.slice e) (.void b o l q) = some 0 := rfl
theorem l_str (l : List UInt8) : lenE .str (.str l) = some l.length := rfl
theorem l_arr (n e : Nat) (v : AV) : lenE (.arr n e) v = some n := by cases v <;> rfl
theorem sz3 : szE E 3 = some 1 := rfl
theorem b_add (t : Nat) (c : Bool) (k : IntKind) (a b : Int) : binE E .add t c (.int k a) (.int k b) = some (.int k (wr k (a + b))) := by simp [binE, intE]
theorem b_sub (t : Nat) (c : Bool) (k : IntKind) (a b : Int) : binE E .sub t c (.int k a) (.int k b) = some (.int k (wr k (a - b))) := by simp [binE, intE]
theorem b_mul (t : Nat) (c : Bool) (k : IntKind) (a b : Int) : binE E .mul t c (.int k a) (.int k b) = some (.int k (wr k (a * b))) := by simp [binE, intE]
theorem b_lss (t : Nat) (c : Bool) (k : IntKind) (a b : Int) : binE E .lss t c (.int k a) (.int k b) = some (.bool (ltB a b)) := by simp [binE, intE]
theorem b_gtr (t : Nat) (c : Bool) (k : IntKind) (a b : Int) : binE E .gtr t c (.int k a) (.int k b) = some (.bool (ltB b a)) := by simp [binE, intE]
theorem b_leq (t : Nat) (c : Bool) (k : IntKind) (a b : Int) : binE E .leq t c (.int k a) (.int k b) = some (.bool (!ltB b a)) := by simp [binE, intE]
theorem b_geq (t : Nat) (c : Bool) (k : IntKind) (a b : Int) : binE E .geq t c (.int k a) (.int k b) = some (.bool (!ltB a b)) := by simp [binE, intE]
theorem b_eql (t : Nat) (c : Bool) (k : IntKind) (a b : Int) : binE E .eql t c (.int k a) (.int k b) = some (.bool (eqB a b)) := by simp [binE, intE]
theorem b_neq (t : Nat) (c : Bool) (k : IntKind) (a b : Int) : binE E .neq t c (.int k a) (.int k b) = some (.bool (!eqB a b)) := by simp [binE, intE]
/-- A number less 1. -/
def pred : Nat → Int
  | 0 => -1
  | k + 1 => Int.ofNat k
theorem wr_small {n : Int} (h0 : -9223372036854775808 ≤ n) (h1 : n < 9223372036854775808) : wr .i64 n = n := by rw [wr_eq, wrap_i64 n h0 h1]
theorem wr_pred {k : Nat} (h : k ≤ 1000000000) : wr .i64 (Int.ofNat k - 1) = pred k := by
  rw [wr_small (by simp; omega) (by simp; omega)]
  cases k with
  | zero => rfl
  | succ k => simp [pred]
def ints (xs : List Nat) : List AV := xs.map fun n => .int .i64 (Int.ofNat n)
theorem ints_get {xs : List Nat} {i n : Nat} (h : xs[i]? = some n) : (ints xs)[i]? = some (.int .i64 (Int.ofNat n)) := by simp [ints, h]
theorem ints_length (xs : List Nat) : (ints xs).length = xs.length := by simp [ints]
theorem lenE_len {h : T Blk} {xs : List Nat} {v : AV} (hr : Row h 1 (ints xs) v) (e : Nat) : lenE (.slice e) v = some xs.length := by
  obtain ⟨n, h1, h2⟩ := hr.len (e := e) (by omega)
  rw [ints_length] at h2
  rw [h1, h2, Nat.mul_one]
theorem ltB_nat (a b : Nat) : ltB (Int.ofNat a) (Int.ofNat b) = decide (a < b) := by rw [ltB_eq]; simp
theorem eqB_nat (a b : Nat) : eqB (Int.ofNat a) (Int.ofNat b) = decide (a = b) := by rw [eqB_eq, Bool.eq_iff_iff]; simp only [beq_iff_eq, Int.ofNat_eq_natCast, decide_eq_true_eq]; omega
theorem b_rem {t : Nat} {c : Bool} {k : IntKind} {a b : Nat} (h : Nat.beq b 0 = false) : binE E .rem t c (.int k (Int.ofNat a)) (.int k (Int.ofNat b)) = some (.int k (Int.ofNat (a % b))) := by
  simp only [binE, if_true, intE]
  have : eqB (Int.ofNat b) 0 = false := h
  rw [this]
  rfl
theorem b_quo {t : Nat} {c : Bool} {k : IntKind} {a b : Nat} (h : Nat.beq b 0 = false) : binE E .quo t c (.int k (Int.ofNat a)) (.int k (Int.ofNat b)) = some (.int k (wr k (Int.ofNat (a / b)))) := by
  simp only [binE, if_true, intE]
  have : eqB (Int.ofNat b) 0 = false := h
  rw [this]
  rfl
theorem nbB : Nat.beq 1000000000 0 = false := rfl
theorem wr_nat {a : Nat} (h : a ≤ 9223372036854775807) : wr .i64 (Int.ofNat a) = Int.ofNat a := wr_small (by simp only [Int.ofNat_eq_natCast]; omega) (by simp only [Int.ofNat_eq_natCast]; omega)
theorem wr_add {a b : Nat} (h : a + b ≤ 9223372036854775807) : wr .i64 (Int.ofNat a + Int.ofNat b) = Int.ofNat (a + b) := by
  rw [show Int.ofNat a + Int.ofNat b = Int.ofNat (a + b) from rfl]
  exact wr_nat h
theorem get_lt {xs : List Nat} {i : Nat} (h : i < xs.length) : xs[i]? = some (xs.getD i 0) := by simp [List.getD_eq_getElem?_getD, List.getElem?_eq_getElem h]
theorem b_remB (t : Nat) (c : Bool) (a : Nat) : binE E .rem t c (.int .i64 (Int.ofNat a)) (.int .i64 1000000000) = some (.int .i64 (Int.ofNat (a % 1000000000))) := b_rem rfl
theorem b_quoB (t : Nat) (c : Bool) (a : Nat) : binE E .quo t c (.int .i64 (Int.ofNat a)) (.int .i64 1000000000) = some (.int .i64 (wr .i64 (Int.ofNat (a / 1000000000)))) := b_quo rfl
/-- An element of a row of ints: what stands where. -/
theorem Row.int {h : T Blk} {xs : List Nat} {v : AV} (hr : Row h 1 (ints xs) v) {i : Nat} (hi : i < xs.length) : ∃ b o n c q k, v = .slice (some (b, o)) n c q ∧ Nat.blt i n = true ∧ h.get b = some k ∧ k.cells[o + i]? = some (.int .i64 (Int.ofNat (xs.getD i 0))) := by
  obtain ⟨b, o, n, c, q, rfl, h1, _, k, h2, h3, h4⟩ := hr.shape (i := i) (by rw [ints_length]; omega) (by omega)
  refine ⟨b, o, n, c, q, k, rfl, blt_iff.2 h1, h2, ?_⟩
  have := h4 0 (by omega)
  simp only [Nat.mul_one, Nat.add_zero] at this
  rw [this, ints_get (get_lt hi)]
theorem ints_append (xs : List Nat) (x : Nat) : ints xs ++ [.int .i64 (Int.ofNat x)] = ints (xs ++ [x]) := by simp [ints]
theorem ones_ints : ∀ xs : List Nat, ones (ints xs) = true
  | [] => rfl
  | x :: xs => by
    show (true && ones (ints xs)) = true
    rw [ones_ints xs]
    rfl
theorem op_build1 {call : CallT'} {lc lo old : Nat} {m : T AV} {s : St} {x : Operand} {k : IntKind} {n : Int} (hr : rho m x = some (.int k n)) :
    opE E call lc lo old m s (.buildSlice 24 1 #[(0, x)]) = some (.slice (some (s.c, 0)) 1 1 0, ⟨s.h.set s.c ⟨3, [.int k n]⟩, s.c + 1⟩) := by
  simp only [opE, kindOf, show Nat.beq 2 0 = false from rfl, cond_false, heapE, tt24, i24, tt3, i3, Option.bind_some, List.toList_toArray, fillE, hr]
  rfl
theorem op_append1 {lo c0 b : Nat} {m : T AV} {s : St} {x y : Operand} {v w : AV} {cs : List AV} (hx : rho m x = some v) (hy : rho m y = some (.slice (some (b, 0)) 1 1 0)) (hb : s.h.get b = some ⟨3, [w]⟩) (hone : w.one = true)
    (hlo : lo ≤ c0) (hc : c0 ≤ s.c) (hown : Own c0 s 3 1 cs v) (hF : Fresh s) (hcs : ones cs = true) (hlen : cs.length ≤ 1000000000) :
    ∃ v' s', (∀ (call : CallT') (lc old : Nat), opE E call lc lo old m s (.call { callee := .builtin .append, args := #[x, y], argTypes := #[24, 24] }) = some (v', s')) ∧ Own c0 s' 3 1 (cs ++ [w]) v' ∧ Fresh s' ∧ Kept c0 s s' ∧ s'.c = s.c + 1 := by
  obtain ⟨v', s', h1, h2⟩ := appE_own (bytes := 8) (new := [w]) hlo hc (by omega) hown hF rfl (by simp [ones, hone]) hcs (by omega)
  refine ⟨v', s', fun call lc old => ?_, h2⟩
  rw [← h1]
  have ht : takeE s.h 1 1 (.slice (some (b, 0)) 1 1 0) = some [w] := by
    simp only [takeE, show Nat.beq 1 0 = false from rfl, cond_false, cellsAt, hb, Option.bind_some]
    rfl
  simp only [opE, kindOf, show Nat.beq 4 0 = false from rfl, cond_false, heapE, tt24, i24, tt3, i3, Option.bind_some, List.toList_toArray, List.getElem?_toArray, List.getElem?_cons_zero, List.getElem?_cons_succ, rhos, hx, hy, Option.map_some, show Nat.beq 1 0 = false from rfl, lenOfE, ht]
theorem SeqR.append1 {lo c0 c1 b j d : Nat} {draw : Bool} {acs : List Nat} {all os : List Oper} {o : Oper} {m : Tm} {s : St} {K : Tm → St → Prop} {x y : Operand} {v w : AV} {cs : List AV} (hw : wantE all m.t o = some true) (ho : o.op = .call { callee := .builtin .append, args := #[x, y], argTypes := #[24, 24] }) (hd : o.dst = some d) (hlt : Nat.blt d m.n = true)
    (hx : rho m.t x = some v) (hy : rho m.t y = some (.slice (some (b, 0)) 1 1 0)) (hb : s.h.get b = some ⟨3, [w]⟩) (hone : w.one = true) (hlo : lo ≤ c0) (hc : c0 ≤ s.c) (hown : Own c0 s 3 1 cs v) (hF : Fresh s) (hcs : ones cs = true) (hlen : cs.length ≤ 1000000000)
    (k : ∀ v' s', Own c0 s' 3 1 (cs ++ [w]) v' → Fresh s' → Kept c0 s s' → SeqR E lo draw c1 acs all (j + 1) os ⟨m.n, m.t.set d v'⟩ s' K) : SeqR E lo draw c1 acs all j (o :: os) m s K := by
  obtain ⟨v', s', h1, h2, h3, h4, h5⟩ := op_append1 hx hy hb hone hlo hc hown hF hcs hlen
  exact SeqR.gen (n0 := 0) hw (by rw [ho]; exact h1 _ _ _) (by rw [hd]; exact putK_some hlt (k v' s' h2 h3 h4))
theorem tt32 : E.tt.get 32 = some i32 := rfl
theorem tt4 : E.tt.get 4 = some i4 := rfl
theorem sz4 : szE E 4 = some 1 := rfl
theorem sz24 : szE E 24 = some 1 := rfl
theorem sz32 : szE E 32 = some 2 := rfl
theorem Row.one {h : T Blk} {z : Nat} {cs : List AV} {v : AV} (hr : Row h z cs v) : v.one = true := by
  unfold Row at hr
  split at hr <;> first | rfl | exact hr.elim
theorem op_store {lo b o z t : Nat} {m : T AV} {s : St} {x y : Operand} {v : AV} {cs : List AV} {k : Blk} (hx : rho m x = some (.ptr (some (b, o)))) (hy : rho m y = some v) (hc : v.cells = cs) (hl : cs.length = z) (hone : ones cs = true) (hsz : szE E t = some z) (hg : s.h.get b = some k) (ho : o + z ≤ k.cells.length) (hlo : lo ≤ b)
    (call : CallT') (lc old : Nat) : opE E call lc lo old m s (.store t x y) = some (.tuple [], ⟨s.h.set b ⟨k.ty, putL k.cells o cs⟩, s.c⟩) := by
  simp only [opE, kindOf, show Nat.beq 4 0 = false from rfl, cond_false, heapE, hx, hy, hsz, Option.bind_some, hc, hl, beq_self, cond_true, putAt, hg, ble_iff.2 hlo, ble_iff.2 ho, hone, Bool.and_self, Option.map_some]
theorem one_cells {v : AV} (h : v.one = true) : v.cells = [v] := by
  cases v <;> first | rfl | cases h
theorem sA : ((!true) = false) ∧ ((!false) = true) ∧ (∀ {α : Type} {h : Decidable True} (a b : α), @ite α True h a b = a) ∧ (∀ {α : Type} {h : Decidable False} (a b : α), @ite α False h a b = b) ∧ (∀ {α β : Type} (a : α) (f : α → Option β), (some a).bind f = f a) ∧ (∀ {α β : Type} (a : α) (f : α → β), (some a).map f = some (f a)) ∧
    (∀ {α : Type} (a b : α), cond true a b = a) ∧ (∀ {α : Type} (a b : α), cond false a b = b) ∧ (∀ {α : Type} (xs : List α) (i : Nat), xs.toArray[i]? = xs[i]?) ∧ (∀ {α : Type} (xs : List α), xs.toArray.toList = xs) ∧ (∀ {α : Type} (a : α) (l : List α), (a :: l)[0]? = some a) ∧ (∀ {α : Type} (a : α) (l : List α) (i : Nat), (a :: l)[i + 1]? = l[i]?) ∧
    (∀ b : Bool, (b || false) = b) ∧ (∀ b : Bool, (false || b) = b) ∧ (∀ n : Nat, n * 1 = n) ∧ (∀ n : Nat, 0 + n = n) ∧ (∀ n : Nat, n + 0 = n) ∧ ((true == true) = true) ∧ ((false == false) = true) ∧ ((true == false) = false) ∧ ((false == true) = false) := by
  refine ⟨rfl, rfl, fun a b => if_true .., fun a b => if_false .., fun a f => rfl, fun a f => rfl, fun a b => rfl, fun a b => rfl, fun xs i => by simp, fun xs => rfl, fun a l => rfl, fun a l i => rfl, fun b => by simp, fun b => by simp, fun n => Nat.mul_one n, fun n => Nat.zero_add n, fun n => rfl, rfl, rfl, rfl, rfl⟩
theorem wb_tt : (true == true) = true := rfl
theorem wb_ff : (false == false) = true := rfl
theorem wb_tf : (true == false) = false := rfl
theorem wb_ft : (false == true) = false := rfl
/-- Is it a call of a function? -/
def isCallB : Op → Bool
  | .build _ _ => true
  | .call c => match c.callee with
    | .value _ => true
    | _ => false
  | _ => false
section
variable {lo c0 j n : Nat} {t : T AV} {s : St} {all os : List Oper} {o : Oper} {K : Tm → St → Prop} {draw : Bool} {acs : List Nat}
theorem SeqR.stepN {v : AV} {s' : St} (hnc : isCallB o.op = false) (hw : wantE all t o = some true) (hl : (draw && looseB E (acs.getD j 0) 0 (all.take j)) = false) (hop : ∀ call lc, opE E call lc lo s.c t s o.op = some (v, s')) {d : Nat} (hd : o.dst = some d) (hlt : Nat.blt d n = true) (k : SeqR E lo draw c0 acs all (j + 1) os ⟨n, t.set d v⟩ s' K) : SeqR E lo draw c0 acs all j (o :: os) ⟨n, t⟩ s K :=
  SeqR.step hw hl hop hd hlt k
theorem SeqR.stepLN {v : AV} {s' : St} (hnc : isCallB o.op = false) (hw : wantE all t o = some true) (hl : (draw && looseB E (acs.getD j 0) 0 (all.take j)) = true) (hop : ∀ call lc, opE E call lc lo c0 t s o.op = some (v, s')) {d : Nat} (hd : o.dst = some d) (hlt : Nat.blt d n = true) (k : SeqR E lo draw c0 acs all (j + 1) os ⟨n, t.set d v⟩ s' K) : SeqR E lo draw c0 acs all j (o :: os) ⟨n, t⟩ s K :=
  SeqR.stepL hw hl hop hd hlt k
theorem SeqR.skipN (hw : wantE all t o = some false) {d : Nat} (hd : o.dst = some d) (hlt : Nat.blt d n = true) (k : SeqR E lo draw c0 acs all (j + 1) os ⟨n, t.set d (.tuple [])⟩ s K) : SeqR E lo draw c0 acs all j (o :: os) ⟨n, t⟩ s K :=
  SeqR.skip hw hd hlt k
theorem SeqR.callN {c : Call} {f : Operand} {g : Nat} {vs : List AV} (hw : wantE all t o = some true) (ho : o.op = .call c) (hcal : c.callee = .value f) (hg : calleeE t c = some (g, vs)) (hext : E.ext.get g = none) {d : Nat} (hd : o.dst = some d) (hlt : Nat.blt d n = true)
    (hf : ∀ lc, lc = lo ∨ lc = s.c → FunR E lc g vs s fun v s' => SeqR E lo draw c0 acs all (j + 1) os ⟨n, t.set d v⟩ s' K) : SeqR E lo draw c0 acs all j (o :: os) ⟨n, t⟩ s K :=
  SeqR.call hw ho hcal hg hext hd hlt hf
theorem SeqR.extN {c : Call} {f : Operand} {g : Nat} {vs : List AV} {fx : List AV → Option AV} {v : AV} (hw : wantE all t o = some true) (ho : o.op = .call c) (hcal : c.callee = .value f) (hg : calleeE t c = some (g, vs)) (hext : E.ext.get g = some fx) (hv : fx vs = some v) {d : Nat} (hd : o.dst = some d) (hlt : Nat.blt d n = true)
    (k : SeqR E lo draw c0 acs all (j + 1) os ⟨n, t.set d v⟩ s K) : SeqR E lo draw c0 acs all j (o :: os) ⟨n, t⟩ s K :=
  SeqR.ext hw ho hcal hg hext hv hd hlt k
end
end Go.Proofs.YtaocoplfdhcoaaaGreatDoor.EvA

/- Integers and rows of integers for symbolic runs. -/
import Derived.Test.YtaocoplfdhcoaaaGreatDoorSp12
import Derived.Test.YtaocoplfdhcoaaaGreatDoorSp13
set_option linter.unusedVariables false
set_option linter.unusedSimpArgs false
namespace Go.Proofs.YtaocoplfdhcoaaaGreatDoor.EvA
open Go Go.RowKit Go.Proofs.YtaocoplfdhcoaaaGreatDoor.Ev
theorem nb00 : Nat.beq 0 0 = true := rfl
theorem tt3 : E.tt.get 3 = some i3 := rfl
theorem tt24 : E.tt.get 24 = some i24 := rfl
theorem l_slice (e n c q : Nat) (a : Option (Nat × Nat)) : lenE (.slice e) (.slice a n c q) = some n := by cases a <;> rfl
theorem l_void (e b o l q : Nat) : lenE (.slice e) (.void b o l q) = some 0 := rfl
theorem l_str (l : List UInt8) : lenE .str (.str l) = some l.length := rfl
theorem l_arr (n e : Nat) (v : AV) : lenE (.arr n e) v = some n := by cases v <;> rfl
theorem sz3 : szE E 3 = some 1 := rfl
theorem b_add (t : Nat) (c : Bool) (k : IntKind) (a b : Int) : binE E .add t c (.int k a) (.int k b) = some (.int k (wr k (a + b))) := by simp [binE, intE]
theorem b_sub (t : Nat) (c : Bool) (k : IntKind) (a b : Int) : binE E .sub t c (.int k a) (.int k b) = some (.int k (wr k (a - b))) := by simp [binE, intE]
theorem b_mul (t : Nat) (c : Bool) (k : IntKind) (a b : Int) : binE E .mul t c (.int k a) (.int k b) = some (.int k (wr k (a * b))) := by simp [binE, intE]
theorem b_lss (t : Nat) (c : Bool) (k : IntKind) (a b : Int) : binE E .lss t c (.int k a) (.int k b) = some (.bool (ltB a b)) := by simp [binE, intE]
theorem b_gtr (t : Nat) (c : Bool) (k : IntKind) (a b : Int) : binE E .gtr t c (.int k a) (.int k b) = some (.bool (ltB b a)) := by simp [binE, intE]
theorem b_leq (t : Nat) (c : Bool) (k : IntKind) (a b : Int) : binE E .leq t c (.int k a) (.int k b) = some (.bool (!ltB b a)) := by simp [binE, intE]
theorem b_geq (t : Nat) (c : Bool) (k : IntKind) (a b : Int) : binE E .geq t c (.int k a) (.int k b) = some (.bool (!ltB a b)) := by simp [binE, intE]
theorem b_eql (t : Nat) (c : Bool) (k : IntKind) (a b : Int) : binE E .eql t c (.int k a) (.int k b) = some (.bool (eqB a b)) := by simp [binE, intE]
theorem b_neq (t : Nat) (c : Bool) (k : IntKind) (a b : Int) : binE E .neq t c (.int k a) (.int k b) = some (.bool (!eqB a b)) := by simp [binE, intE]
/-- A number less 1. -/
def pred : Nat → Int
  | 0 => -1
  | k + 1 => Int.ofNat k
theorem wr_small {n : Int} (h0 : -9223372036854775808 ≤ n) (h1 : n < 9223372036854775808) : wr .i64 n = n := by rw [wr_eq, wrap_i64 n h0 h1]
theorem wr_pred {k : Nat} (h : k ≤ 1000000000) : wr .i64 (Int.ofNat k - 1) = pred k := by
  rw [wr_small (by simp; omega) (by simp; omega)]
  cases k with
  | zero => rfl
  | succ k => simp [pred]
def ints (xs : List Nat) : List AV := xs.map fun n => .int .i64 (Int.ofNat n)
theorem ints_get {xs : List Nat} {i n : Nat} (h : xs[i]? = some n) : (ints xs)[i]? = some (.int .i64 (Int.ofNat n)) := by simp [ints, h]
theorem ints_length (xs : List Nat) : (ints xs).length = xs.length := by simp [ints]
theorem lenE_len {h : T Blk} {xs : List Nat} {v : AV} (hr : Row h 1 (ints xs) v) (e : Nat) : lenE (.slice e) v = some xs.length := by
  obtain ⟨n, h1, h2⟩ := hr.len (e := e) (by omega)
  rw [ints_length] at h2
  rw [h1, h2, Nat.mul_one]
theorem ltB_nat (a b : Nat) : ltB (Int.ofNat a) (Int.ofNat b) = decide (a < b) := by rw [ltB_eq]; simp
theorem eqB_nat (a b : Nat) : eqB (Int.ofNat a) (Int.ofNat b) = decide (a = b) := by rw [eqB_eq, Bool.eq_iff_iff]; simp only [beq_iff_eq, Int.ofNat_eq_natCast, decide_eq_true_eq]; omega
theorem b_rem {t : Nat} {c : Bool} {k : IntKind} {a b : Nat} (h : Nat.beq b 0 = false) : binE E .rem t c (.int k (Int.ofNat a)) (.int k (Int.ofNat b)) = some (.int k (Int.ofNat (a % b))) := by
  simp only [binE, if_true, intE]
  have : eqB (Int.ofNat b) 0 = false := h
  rw [this]
  rfl
theorem b_quo {t : Nat} {c : Bool} {k : IntKind} {a b : Nat} (h : Nat.beq b 0 = false) : binE E .quo t c (.int k (Int.ofNat a)) (.int k (Int.ofNat b)) = some (.int k (wr k (Int.ofNat (a / b)))) := by
  simp only [binE, if_true, intE]
  have : eqB (Int.ofNat b) 0 = false := h
  rw [this]
  rfl
theorem nbB : Nat.beq 1000000000 0 = false := rfl
theorem wr_nat {a : Nat} (h : a ≤ 9223372036854775807) : wr .i64 (Int.ofNat a) = Int.ofNat a := wr_small (by simp only [Int.ofNat_eq_natCast]; omega) (by simp only [Int.ofNat_eq_natCast]; omega)
theorem wr_add {a b : Nat} (h : a + b ≤ 9223372036854775807) : wr .i64 (Int.ofNat a + Int.ofNat b) = Int.ofNat (a + b) := by
  rw [show Int.ofNat a + Int.ofNat b = Int.ofNat (a + b) from rfl]
  exact wr_nat h
theorem get_lt {xs : List Nat} {i : Nat} (h : i < xs.length) : xs[i]? = some (xs.getD i 0) := by simp [List.getD_eq_getElem?_getD, List.getElem?_eq_getElem h]
theorem b_remB (t : Nat) (c : Bool) (a : Nat) : binE E .rem t c (.int .i64 (Int.ofNat a)) (.int .i64 1000000000) = some (.int .i64 (Int.ofNat (a % 1000000000))) := b_rem rfl
theorem b_quoB (t : Nat) (c : Bool) (a : Nat) : binE E .quo t c (.int .i64 (Int.ofNat a)) (.int .i64 1000000000) = some (.int .i64 (wr .i64 (Int.ofNat (a / 1000000000)))) := b_quo rfl
/-- An element of a row of ints: what stands where. -/
theorem Row.int {h : T Blk} {xs : List Nat} {v : AV} (hr : Row h 1 (ints xs) v) {i : Nat} (hi : i < xs.length) : ∃ b o n c q k, v = .slice (some (b, o)) n c q ∧ Nat.blt i n = true ∧ h.get b = some k ∧ k.cells[o + i]? = some (.int .i64 (Int.ofNat (xs.getD i 0))) := by
  obtain ⟨b, o, n, c, q, rfl, h1, _, k, h2, h3, h4⟩ := hr.shape (i := i) (by rw [ints_length]; omega) (by omega)
  refine ⟨b, o, n, c, q, k, rfl, blt_iff.2 h1, h2, ?_⟩
  have := h4 0 (by omega)
  simp only [Nat.mul_one, Nat.add_zero] at this
  rw [this, ints_get (get_lt hi)]
theorem ints_append (xs : List Nat) (x : Nat) : ints xs ++ [.int .i64 (Int.ofNat x)] = ints (xs ++ [x]) := by simp [ints]
theorem ones_ints : ∀ xs : List Nat, ones (ints xs) = true
  | [] => rfl
  | x :: xs => by
    show (true && ones (ints xs)) = true
    rw [ones_ints xs]
    rfl
theorem op_build1 {call : CallT'} {lc lo old : Nat} {m : T AV} {s : St} {x : Operand} {k : IntKind} {n : Int} (hr : rho m x = some (.int k n)) :
    opE E call lc lo old m s (.buildSlice 24 1 #[(0, x)]) = some (.slice (some (s.c, 0)) 1 1 0, ⟨s.h.set s.c ⟨3, [.int k n]⟩, s.c + 1⟩) := by
  simp only [opE, kindOf, show Nat.beq 2 0 = false from rfl, cond_false, heapE, tt24, i24, tt3, i3, Option.bind_some, List.toList_toArray, fillE, hr]
  rfl
theorem op_append1 {lo c0 b : Nat} {m : T AV} {s : St} {x y : Operand} {v w : AV} {cs : List AV} (hx : rho m x = some v) (hy : rho m y = some (.slice (some (b, 0)) 1 1 0)) (hb : s.h.get b = some ⟨3, [w]⟩) (hone : w.one = true)
    (hlo : lo ≤ c0) (hc : c0 ≤ s.c) (hown : Own c0 s 3 1 cs v) (hF : Fresh s) (hcs : ones cs = true) (hlen : cs.length ≤ 1000000000) :
    ∃ v' s', (∀ (call : CallT') (lc old : Nat), opE E call lc lo old m s (.call { callee := .builtin .append, args := #[x, y], argTypes := #[24, 24] }) = some (v', s')) ∧ Own c0 s' 3 1 (cs ++ [w]) v' ∧ Fresh s' ∧ Kept c0 s s' ∧ s'.c = s.c + 1 := by
  obtain ⟨v', s', h1, h2⟩ := appE_own (bytes := 8) (new := [w]) hlo hc (by omega) hown hF rfl (by simp [ones, hone]) hcs (by omega)
  refine ⟨v', s', fun call lc old => ?_, h2⟩
  rw [← h1]
  have ht : takeE s.h 1 1 (.slice (some (b, 0)) 1 1 0) = some [w] := by
    simp only [takeE, show Nat.beq 1 0 = false from rfl, cond_false, cellsAt, hb, Option.bind_some]
    rfl
  simp only [opE, kindOf, show Nat.beq 4 0 = false from rfl, cond_false, heapE, tt24, i24, tt3, i3, Option.bind_some, List.toList_toArray, List.getElem?_toArray, List.getElem?_cons_zero, List.getElem?_cons_succ, rhos, hx, hy, Option.map_some, show Nat.beq 1 0 = false from rfl, lenOfE, ht]
theorem SeqR.append1 {lo c0 c1 b j d : Nat} {draw : Bool} {acs : List Nat} {all os : List Oper} {o : Oper} {m : Tm} {s : St} {K : Tm → St → Prop} {x y : Operand} {v w : AV} {cs : List AV} (hw : wantE all m.t o = some true) (ho : o.op = .call { callee := .builtin .append, args := #[x, y], argTypes := #[24, 24] }) (hd : o.dst = some d) (hlt : Nat.blt d m.n = true)
    (hx : rho m.t x = some v) (hy : rho m.t y = some (.slice (some (b, 0)) 1 1 0)) (hb : s.h.get b = some ⟨3, [w]⟩) (hone : w.one = true) (hlo : lo ≤ c0) (hc : c0 ≤ s.c) (hown : Own c0 s 3 1 cs v) (hF : Fresh s) (hcs : ones cs = true) (hlen : cs.length ≤ 1000000000)
    (k : ∀ v' s', Own c0 s' 3 1 (cs ++ [w]) v' → Fresh s' → Kept c0 s s' → SeqR E lo draw c1 acs all (j + 1) os ⟨m.n, m.t.set d v'⟩ s' K) : SeqR E lo draw c1 acs all j (o :: os) m s K := by
  obtain ⟨v', s', h1, h2, h3, h4, h5⟩ := op_append1 hx hy hb hone hlo hc hown hF hcs hlen
  exact SeqR.gen (n0 := 0) hw (by rw [ho]; exact h1 _ _ _) (by rw [hd]; exact putK_some hlt (k v' s' h2 h3 h4))
theorem tt32 : E.tt.get 32 = some i32 := rfl
theorem tt4 : E.tt.get 4 = some i4 := rfl
theorem sz4 : szE E 4 = some 1 := rfl
theorem sz24 : szE E 24 = some 1 := rfl
theorem sz32 : szE E 32 = some 2 := rfl
theorem Row.one {h : T Blk} {z : Nat} {cs : List AV} {v : AV} (hr : Row h z cs v) : v.one = true := by
  unfold Row at hr
  split at hr <;> first | rfl | exact hr.elim
theorem op_store {lo b o z t : Nat} {m : T AV} {s : St} {x y : Operand} {v : AV} {cs : List AV} {k : Blk} (hx : rho m x = some (.ptr (some (b, o)))) (hy : rho m y = some v) (hc : v.cells = cs) (hl : cs.length = z) (hone : ones cs = true) (hsz : szE E t = some z) (hg : s.h.get b = some k) (ho : o + z ≤ k.cells.length) (hlo : lo ≤ b)
    (call : CallT') (lc old : Nat) : opE E call lc lo old m s (.store t x y) = some (.tuple [], ⟨s.h.set b ⟨k.ty, putL k.cells o cs⟩, s.c⟩) := by
  simp only [opE, kindOf, show Nat.beq 4 0 = false from rfl, cond_false, heapE, hx, hy, hsz, Option.bind_some, hc, hl, beq_self, cond_true, putAt, hg, ble_iff.2 hlo, ble_iff.2 ho, hone, Bool.and_self, Option.map_some]
theorem one_cells {v : AV} (h : v.one = true) : v.cells = [v] := by
  cases v <;> first | rfl | cases h
theorem sA : ((!true) = false) ∧ ((!false) = true) ∧ (∀ {α : Type} {h : Decidable True} (a b : α), @ite α True h a b = a) ∧ (∀ {α : Type} {h : Decidable False} (a b : α), @ite α False h a b = b) ∧ (∀ {α β : Type} (a : α) (f : α → Option β), (some a).bind f = f a) ∧ (∀ {α β : Type} (a : α) (f : α → β), (some a).map f = some (f a)) ∧
    (∀ {α : Type} (a b : α), cond true a b = a) ∧ (∀ {α : Type} (a b : α), cond false a b = b) ∧ (∀ {α : Type} (xs : List α) (i : Nat), xs.toArray[i]? = xs[i]?) ∧ (∀ {α : Type} (xs : List α), xs.toArray.toList = xs) ∧ (∀ {α : Type} (a : α) (l : List α), (a :: l)[0]? = some a) ∧ (∀ {α : Type} (a : α) (l : List α) (i : Nat), (a :: l)[i + 1]? = l[i]?) ∧
    (∀ b : Bool, (b || false) = b) ∧ (∀ b : Bool, (false || b) = b) ∧ (∀ n : Nat, n * 1 = n) ∧ (∀ n : Nat, 0 + n = n) ∧ (∀ n : Nat, n + 0 = n) ∧ ((true == true) = true) ∧ ((false == false) = true) ∧ ((true == false) = false) ∧ ((false == true) = false) := by
  refine ⟨rfl, rfl, fun a b => if_true .., fun a b => if_false .., fun a f => rfl, fun a f => rfl, fun a b => rfl, fun a b => rfl, fun xs i => by simp, fun xs => rfl, fun a l => rfl, fun a l i => rfl, fun b => by simp, fun b => by simp, fun n => Nat.mul_one n, fun n => Nat.zero_add n, fun n => rfl, rfl, rfl, rfl, rfl⟩
theorem wb_tt : (true == true) = true := rfl
theorem wb_ff : (false == false) = true := rfl
theorem wb_tf : (true == false) = false := rfl
theorem wb_ft : (false == true) = false := rfl
/-- Is it a call of a function? -/
def isCallB : Op → Bool
  | .build _ _ => true
  | .call c => match c.callee with
    | .value _ => true
    | _ => false
  | _ => false
section
variable {lo c0 j n : Nat} {t : T AV} {s : St} {all os : List Oper} {o : Oper} {K : Tm → St → Prop} {draw : Bool} {acs : List Nat}
theorem SeqR.stepN {v : AV} {s' : St} (hnc : isCallB o.op = false) (hw : wantE all t o = some true) (hl : (draw && looseB E (acs.getD j 0) 0 (all.take j)) = false) (hop : ∀ call lc, opE E call lc lo s.c t s o.op = some (v, s')) {d : Nat} (hd : o.dst = some d) (hlt : Nat.blt d n = true) (k : SeqR E lo draw c0 acs all (j + 1) os ⟨n, t.set d v⟩ s' K) : SeqR E lo draw c0 acs all j (o :: os) ⟨n, t⟩ s K :=
  SeqR.step hw hl hop hd hlt k
theorem SeqR.stepLN {v : AV} {s' : St} (hnc : isCallB o.op = false) (hw : wantE all t o = some true) (hl : (draw && looseB E (acs.getD j 0) 0 (all.take j)) = true) (hop : ∀ call lc, opE E call lc lo c0 t s o.op = some (v, s')) {d : Nat} (hd : o.dst = some d) (hlt : Nat.blt d n = true) (k : SeqR E lo draw c0 acs all (j + 1) os ⟨n, t.set d v⟩ s' K) : SeqR E lo draw c0 acs all j (o :: os) ⟨n, t⟩ s K :=
  SeqR.stepL hw hl hop hd hlt k
theorem SeqR.skipN (hw : wantE all t o = some false) {d : Nat} (hd : o.dst = some d) (hlt : Nat.blt d n = true) (k : SeqR E lo draw c0 acs all (j + 1) os ⟨n, t.set d (.tuple [])⟩ s K) : SeqR E lo draw c0 acs all j (o :: os) ⟨n, t⟩ s K :=
  SeqR.skip hw hd hlt k
theorem SeqR.callN {c : Call} {f : Operand} {g : Nat} {vs : List AV} (hw : wantE all t o = some true) (ho : o.op = .call c) (hcal : c.callee = .value f) (hg : calleeE t c = some (g, vs)) (hext : E.ext.get g = none) {d : Nat} (hd : o.dst = some d) (hlt : Nat.blt d n = true)
    (hf : ∀ lc, lc = lo ∨ lc = s.c → FunR E lc g vs s fun v s' => SeqR E lo draw c0 acs all (j + 1) os ⟨n, t.set d v⟩ s' K) : SeqR E lo draw c0 acs all j (o :: os) ⟨n, t⟩ s K :=
  SeqR.call hw ho hcal hg hext hd hlt hf
theorem SeqR.extN {c : Call} {f : Operand} {g : Nat} {vs : List AV} {fx : List AV → Option AV} {v : AV} (hw : wantE all t o = some true) (ho : o.op = .call c) (hcal : c.callee = .value f) (hg : calleeE t c = some (g, vs)) (hext : E.ext.get g = some fx) (hv : fx vs = some v) {d : Nat} (hd : o.dst = some d) (hlt : Nat.blt d n = true)
    (k : SeqR E lo draw c0 acs all (j + 1) os ⟨n, t.set d v⟩ s K) : SeqR E lo draw c0 acs all j (o :: os) ⟨n, t⟩ s K :=
  SeqR.ext hw ho hcal hg hext hv hd hlt k
end
end Go.Proofs.YtaocoplfdhcoaaaGreatDoor.EvA
set_option linter.unusedVariables false
set_option linter.unusedSimpArgs false
set_option maxRecDepth 20000
set_option maxHeartbeats 2000000
namespace Go.Proofs.YtaocoplfdhcoaaaGreatDoor.EvA
open Go Go.RowKit Go.Proofs.YtaocoplfdhcoaaaGreatDoor.Ev
theorem fn97' : E.fns.get 97 = some Tryz.f97 := by kernel_rfl
/-- How many digits are left without the zeros at the top of the first k. -/
def trimN (xs : List Nat) : Nat → Nat
  | 0 => 0
  | k + 1 => if xs.getD k 0 = 0 then trimN xs k else k + 1
def trimL (xs : List Nat) : List Nat := xs.take (trimN xs xs.length)
theorem trimN_le (xs : List Nat) : ∀ k, trimN xs k ≤ k
  | 0 => Nat.le_refl _
  | k + 1 => by
    rw [trimN]
    split
    · exact Nat.le_succ_of_le (trimN_le xs k)
    · exact Nat.le_refl _
theorem ints_take (xs : List Nat) (k : Nat) : (ints xs).take k = ints (xs.take k) := by simp [ints, List.map_take]
/-- A whole number's value: its sign and digits. -/
def wv (neg : Bool) (d : AV) : AV := .agg [.bool neg, d]
theorem trim_run {lo : Nat} {d : AV} {neg : Bool} {xs : List Nat} {s : St} (hd : Row s.h 1 (ints xs) d) (hF : Fresh s) (hlo : lo ≤ s.c) (hx : xs.length ≤ 1000000) :
    FunR E lo 97 [wv neg d] s fun v s' => Fresh s' ∧ Kept s.c s s' ∧ ∃ d', v = wv (neg && !(trimL xs).isEmpty) d' ∧ Row s'.h 1 (ints (trimL xs)) d' := by
  refine FunR.body (fn := Tryz.f97) fn97' rfl ?_
  have hn : (max [wv neg d].length Tryz.f97.ntmps) = 36 := rfl
  generalize max [wv neg d].length Tryz.f97.ntmps = n at hn
  subst hn
  have g0 : (argsT 0 [wv neg d]).get 0 = some (.agg [.bool neg, d]) := rfl
  generalize argsT 0 [wv neg d] = T0 at g0
  have hn : (36 : Nat) = 36 := rfl
  have done : d.one = true := Row.one hd
  have hones : ones [.bool neg, d] = true := by simp only [ones, done, Bool.and_true]; rfl
  refine CodeR.seq (CodeR.reg rfl ?_)
  refine SeqR.step (v := .ptr (some (s.c, 0))) (s' := ⟨s.h.set s.c ⟨32, [.bool neg, d]⟩, s.c + 1⟩) rfl rfl (fun call lc => ?_) rfl rfl ?_
  · simp only [opE, kindOf, show Nat.beq 2 0 = false from rfl, cond_false, heapE, rho, g0, Option.bind_some, AV.cells, newAt, hones, cond_true, Option.map_some]
  refine SeqR.step (v := .ptr (some (s.c + 1, 0))) (s' := ⟨(s.h.set s.c ⟨32, [.bool neg, d]⟩).set (s.c + 1) ⟨32, i32.zero.cells⟩, s.c + 2⟩) rfl rfl (fun call lc => ?_) rfl rfl ?_
  · simp only [opE, kindOf, show Nat.beq 2 0 = false from rfl, cond_false, heapE, tt32, Option.bind_some, newAt]
    rfl
  refine SeqR.done ?_
  have hF2 : Fresh ⟨(s.h.set s.c ⟨32, [.bool neg, d]⟩).set (s.c + 1) ⟨32, i32.zero.cells⟩, s.c + 2⟩ := fun b hb => by
    simp only at hb ⊢
    rw [T.get_set, if_neg (by omega), T.get_set, if_neg (by omega)]
    exact hF b (by omega)
  have hK2 : Kept s.c s ⟨(s.h.set s.c ⟨32, [.bool neg, d]⟩).set (s.c + 1) ⟨32, i32.zero.cells⟩, s.c + 2⟩ := ⟨by simp, fun b hb => by
    simp only
    rw [T.get_set, if_neg (by omega), T.get_set, if_neg (by omega)]⟩
  refine CodeR.seq (CodeR.mono (Q := fun e m' s' => e = .nrm ∧ Fresh s' ∧ Kept s.c s s' ∧ s'.c = s.c + 2 ∧ ∃ T2 d', m' = ⟨36, T2⟩ ∧ T2.get 1 = some (.ptr (some (s.c, 0))) ∧ T2.get 2 = some (.ptr (some (s.c + 1, 0))) ∧ s'.h.get s.c = some ⟨32, [.bool neg, d']⟩ ∧ s'.h.get (s.c + 1) = some ⟨32, i32.zero.cells⟩ ∧ Row s.h 1 (ints (trimL xs)) d')
    (CodeR.block (CodeR.loop (fun k m s1 => Fresh s1 ∧ Kept s.c s s1 ∧ s1.c = s.c + 2 ∧ k ≤ xs.length ∧ trimN xs xs.length = trimN xs k ∧ ∃ T2 d', m = ⟨36, T2⟩ ∧ T2.get 1 = some (.ptr (some (s.c, 0))) ∧ T2.get 2 = some (.ptr (some (s.c + 1, 0))) ∧ s1.h.get s.c = some ⟨32, [.bool neg, d']⟩ ∧ s1.h.get (s.c + 1) = some ⟨32, i32.zero.cells⟩ ∧ Row s.h 1 (ints (xs.take k)) d') xs.length ?_ ?_)) ?_)
  · refine ⟨hF2, hK2, rfl, Nat.le_refl _, rfl, _, d, rfl, ?_, ?_, ?_, ?_, ?_⟩
    simp only [T.get_set, Nat.reduceEqDiff, if_true, if_false]
    simp only [T.get_set, Nat.reduceEqDiff, if_true, if_false]
    · simp only [T.get_set, if_true]; rw [if_neg (by omega)]
    · simp only [T.get_set, if_true]
    · rw [List.take_length]; exact hd
  · rintro k m s1 ⟨hF1, hK1, hc1, hk, htn, T2, d', rfl, h1, h2, hg1, hg2, hr0⟩
    have hr := hr0.keep hF.lt hK1
    have hlen : (xs.take k).length = k := by rw [List.length_take]; omega
    have ld := lenE_len hr 3
    rw [hlen] at ld
    have e4 : Nat.blt s.c s1.c = true := blt_iff.2 (by omega)
    cases k with
    | zero =>
      refine CodeR.seq (CodeR.seq (CodeR.reg rfl ?_))
      have e0 : ltB 0 (Int.ofNat 0) = false := rfl
      iterate 15 (first | (refine SeqR.skipN ?_ rfl rfl ?_; (simp only [sA, wantE, T.get_set, Nat.reduceEqDiff, h1, tt32, i32, tt24, i24, sz4, sz24, hg1, e4, ld, b_gtr, e0] <;> with_reducible rfl)) | ((first | refine SeqR.stepN (v := ?_) (s' := ?_) rfl ?_ rfl ?_ rfl rfl ?_ | refine SeqR.stepLN (v := ?_) (s' := ?_) rfl ?_ rfl ?_ rfl rfl ?_); rotate_left 3; (intro call lc; simp only [sA, opE, kindOf, pureE, heapE, rho, rhos, T.get_set, Nat.reduceEqDiff, nb00, absV, absS, l_slice, l_void, l_str, l_arr, natE, loadE, isConst, TK.agg, h1, tt32, i32, tt24, i24, sz4, sz24, hg1, e4, ld, b_gtr, e0] <;> rfl); rotate_left 1; (simp only [sA, wantE, T.get_set, Nat.reduceEqDiff, h1, tt32, i32, tt24, i24, sz4, sz24, hg1, e4, ld, b_gtr, e0] <;> with_reducible rfl)))
      refine SeqR.done ?_
      refine CodeR.cond (t := false) (by simp only [rho, T.get_set, Nat.reduceEqDiff, if_true, if_false]) (fun h => by cases h) fun _ => ?_
      refine CodeR.exit ?_
      simp only [Ex.then, Ex.inBlock, if_true]
      refine ⟨trivial, hF1, hK1, hc1, _, d', rfl, ?_, ?_, hg1, hg2, ?_⟩
      simp only [T.get_set, Nat.reduceEqDiff, if_true, if_false, h1]
      simp only [T.get_set, Nat.reduceEqDiff, if_true, if_false, h2]
      · rw [trimL, htn]; exact hr0
    | succ i =>
      have e0 : ltB 0 (Int.ofNat (i + 1)) = true := rfl
      have e5 : wr .i64 (Int.ofNat (i + 1) - 1) = Int.ofNat i := wr_pred (k := i + 1) (by omega)
      obtain ⟨b, o, n, c, q, kk, rfl, f1, f2, f3⟩ := Row.int hr (i := i) (by rw [hlen]; omega)
      have f5 : (xs.take (i + 1)).getD i 0 = xs.getD i 0 := by simp [List.getD_eq_getElem?_getD, List.getElem?_take]
      rw [f5] at f3
      have f4 : Nat.blt b s1.c = true := blt_iff.2 (hF1.lt b kk f2)
      refine CodeR.seq (CodeR.seq (CodeR.reg rfl ?_))
      iterate 15 (first | (refine SeqR.skipN ?_ rfl rfl ?_; (simp only [sA, wantE, T.get_set, Nat.reduceEqDiff, h1, tt32, i32, tt24, i24, tt3, i3, sz3, sz4, sz24, hg1, e4, ld, b_gtr, e0, b_sub, e5, f1, f2, f3, f4, b_eql] <;> with_reducible rfl)) | ((first | refine SeqR.stepN (v := ?_) (s' := ?_) rfl ?_ rfl ?_ rfl rfl ?_ | refine SeqR.stepLN (v := ?_) (s' := ?_) rfl ?_ rfl ?_ rfl rfl ?_); rotate_left 3; (intro call lc; simp only [sA, opE, kindOf, pureE, heapE, rho, rhos, T.get_set, Nat.reduceEqDiff, nb00, absV, absS, l_slice, l_void, l_str, l_arr, natE, loadE, isConst, TK.agg, h1, tt32, i32, tt24, i24, tt3, i3, sz3, sz4, sz24, hg1, e4, ld, b_gtr, e0, b_sub, e5, f1, f2, f3, f4, b_eql] <;> rfl); rotate_left 1; (simp only [sA, wantE, T.get_set, Nat.reduceEqDiff, h1, tt32, i32, tt24, i24, tt3, i3, sz3, sz4, sz24, hg1, e4, ld, b_gtr, e0, b_sub, e5, f1, f2, f3, f4, b_eql] <;> with_reducible rfl)))
      refine SeqR.done ?_
      refine CodeR.cond (t := eqB (Int.ofNat (xs.getD i 0)) 0) (by simp only [rho, T.get_set, Nat.reduceEqDiff, if_true, if_false]) ?_ ?_
      · intro hz
        have hz' : xs.getD i 0 = 0 := by
          rw [show (0 : Int) = Int.ofNat 0 from rfl, eqB_nat] at hz
          simpa using hz
        refine CodeR.skip ?_
        obtain ⟨v', p1, p2⟩ := Row.front hr0 (by omega) (k := i) (by rw [ints_length, hlen]; omega)
        refine CodeR.block (CodeR.reg rfl ?_)
        iterate 8 (first | (refine SeqR.skipN ?_ rfl rfl ?_; (simp only [sA, wantE, T.get_set, Nat.reduceEqDiff, h1, tt32, i32, tt24, i24, tt3, i3, sz3, sz4, sz24, hg1, e4, ld, b_sub, e5, p1] <;> with_reducible rfl)) | ((first | refine SeqR.stepN (v := ?_) (s' := ?_) rfl ?_ rfl ?_ rfl rfl ?_ | refine SeqR.stepLN (v := ?_) (s' := ?_) rfl ?_ rfl ?_ rfl rfl ?_); rotate_left 3; (intro call lc; simp only [sA, opE, kindOf, pureE, heapE, rho, rhos, T.get_set, Nat.reduceEqDiff, nb00, absV, absS, l_slice, l_void, l_str, l_arr, natE, loadE, isConst, TK.agg, h1, tt32, i32, tt24, i24, tt3, i3, sz3, sz4, sz24, hg1, e4, ld, b_sub, e5, p1] <;> rfl); rotate_left 1; (simp only [sA, wantE, T.get_set, Nat.reduceEqDiff, h1, tt32, i32, tt24, i24, tt3, i3, sz3, sz4, sz24, hg1, e4, ld, b_sub, e5, p1] <;> with_reducible rfl)))
        refine SeqR.step0 rfl (fun call lc old => op_store (b := s.c) (o := 1) (z := 1) (cs := [v']) (v := v') (k := ⟨32, [.bool neg, .slice (some (b, o)) n c q]⟩) (by simp only [rho, T.get_set, if_true]) (by simp only [rho, T.get_set, Nat.reduceEqDiff, if_true, if_false]) (one_cells (Row.one p2)) rfl (by simp only [ones, Row.one p2]; rfl) sz24 hg1 (Nat.le_refl 2) hlo call lc old) rfl ?_
        refine SeqR.done ⟨i, Nat.lt_succ_self _, ?_, ?_, hc1, by omega, ?_, _, v', rfl, ?_, ?_, ?_, ?_, ?_⟩
        · intro b' hb'
          simp only at hb' ⊢
          rw [T.get_set, if_neg (by omega)]
          exact hF1 b' hb'
        · exact ⟨hK1.mono, fun b' hb' => by simp only; rw [T.get_set, if_neg (by omega)]; exact hK1.keep b' hb'⟩
        · rw [htn, trimN, if_pos hz']
        simp only [T.get_set, Nat.reduceEqDiff, if_true, if_false, h1]
        simp only [T.get_set, Nat.reduceEqDiff, if_true, if_false, h2]
        · simp only [T.get_set, if_true]; rfl
        · simp only [T.get_set]; rw [if_neg (by omega)]; exact hg2
        · rw [Nat.mul_one, ints_take, List.take_take, Nat.min_eq_left (by omega)] at p2
          exact p2
      · intro hz
        have hz' : xs.getD i 0 ≠ 0 := by
          rw [show (0 : Int) = Int.ofNat 0 from rfl, eqB_nat] at hz
          simpa using hz
        refine CodeR.exit ?_
        simp only [Ex.then, Ex.inBlock, if_true]
        refine ⟨trivial, hF1, hK1, hc1, _, _, rfl, ?_, ?_, hg1, hg2, ?_⟩
        simp only [T.get_set, Nat.reduceEqDiff, if_true, if_false, h1]
        simp only [T.get_set, Nat.reduceEqDiff, if_true, if_false, h2]
        · rw [trimL, htn, trimN, if_neg hz']; exact hr0
  · rintro e m' s' ⟨rfl, hF1, hK1, hc1, T2, d', rfl, h1, h2, hg1, hg2, hr0⟩
    have hr := hr0.keep hF.lt hK1
    have ld := lenE_len hr 3
    have e4 : Nat.blt s.c s'.c = true := blt_iff.2 (by omega)
    have dd' : d'.one = true := Row.one hr
    have hfl : (neg && ltB 0 (Int.ofNat (trimL xs).length)) = (neg && !(trimL xs).isEmpty) := by
      rw [show (0 : Int) = Int.ofNat 0 from rfl, ltB_nat]
      cases trimL xs <;> simp
    refine CodeR.seq (CodeR.mono (Q := fun e m' s1 => e = .nrm ∧ Fresh s1 ∧ Kept s.c s s1 ∧ s1.c = s.c + 2 ∧ ∃ T2, m' = ⟨36, T2⟩ ∧ T2.get 1 = some (.ptr (some (s.c, 0))) ∧ T2.get 2 = some (.ptr (some (s.c + 1, 0))) ∧ s1.h.get s.c = some ⟨32, [.bool (neg && !(trimL xs).isEmpty), d']⟩ ∧ s1.h.get (s.c + 1) = some ⟨32, i32.zero.cells⟩) (CodeR.reg rfl ?_) ?_)
    · have fin : ∀ (T3 : T AV) (x : Bool), x = (neg && !(trimL xs).isEmpty) → T3.get 1 = some (.ptr (some (s.c, 0))) → T3.get 2 = some (.ptr (some (s.c + 1, 0))) → (Ex.nrm = .nrm ∧ Fresh ⟨s'.h.set s.c ⟨32, [.bool x, d']⟩, s'.c⟩ ∧ Kept s.c s ⟨s'.h.set s.c ⟨32, [.bool x, d']⟩, s'.c⟩ ∧ s'.c = s.c + 2 ∧ ∃ T2, (⟨36, T3⟩ : Tm) = ⟨36, T2⟩ ∧ T2.get 1 = some (.ptr (some (s.c, 0))) ∧ T2.get 2 = some (.ptr (some (s.c + 1, 0))) ∧ (s'.h.set s.c ⟨32, [.bool x, d']⟩).get s.c = some ⟨32, [.bool (neg && !(trimL xs).isEmpty), d']⟩ ∧ (s'.h.set s.c ⟨32, [.bool x, d']⟩).get (s.c + 1) = some ⟨32, i32.zero.cells⟩) := fun T3 x hx k1 k2 => by
        refine ⟨rfl, fun b' hb' => ?_, ⟨hK1.mono, fun b' hb' => ?_⟩, hc1, T3, rfl, k1, k2, ?_, ?_⟩
        · simp only at hb' ⊢
          rw [T.get_set, if_neg (by omega)]
          exact hF1 b' hb'
        · simp only
          rw [T.get_set, if_neg (by omega)]
          exact hK1.keep b' hb'
        · rw [T.get_set, if_pos rfl, hx]
        · rw [T.get_set, if_neg (by omega)]; exact hg2
      cases neg with
      | true =>
        iterate 9 (first | (refine SeqR.skipN ?_ rfl rfl ?_; (simp only [sA, wantE, T.get_set, Nat.reduceEqDiff, h1, tt32, i32, tt24, i24, tt4, i4, sz4, sz24, hg1, e4, ld, b_gtr] <;> with_reducible rfl)) | ((first | refine SeqR.stepN (v := ?_) (s' := ?_) rfl ?_ rfl ?_ rfl rfl ?_ | refine SeqR.stepLN (v := ?_) (s' := ?_) rfl ?_ rfl ?_ rfl rfl ?_); rotate_left 3; (intro call lc; simp only [sA, opE, kindOf, pureE, heapE, rho, rhos, T.get_set, Nat.reduceEqDiff, nb00, absV, absS, l_slice, l_void, l_str, l_arr, natE, loadE, isConst, TK.agg, h1, tt32, i32, tt24, i24, tt4, i4, sz4, sz24, hg1, e4, ld, b_gtr] <;> rfl); rotate_left 1; (simp only [sA, wantE, T.get_set, Nat.reduceEqDiff, h1, tt32, i32, tt24, i24, tt4, i4, sz4, sz24, hg1, e4, ld, b_gtr] <;> with_reducible rfl)))
        refine SeqR.step0 rfl (fun call lc old => op_store (b := s.c) (o := 0) (z := 1) (cs := [.bool (ltB 0 (Int.ofNat (trimL xs).length))]) (v := .bool (ltB 0 (Int.ofNat (trimL xs).length))) (k := ⟨32, [.bool true, d']⟩) (by simp only [rho, T.get_set, if_true]) (by simp only [rho, T.get_set, Nat.reduceEqDiff, if_true, if_false]) rfl rfl rfl sz4 hg1 (by simp) hlo call lc old) rfl ?_
        exact SeqR.done (fin _ _ (by rw [← hfl]; simp) (by simp only [T.get_set, Nat.reduceEqDiff, if_false, h1]) (by simp only [T.get_set, Nat.reduceEqDiff, if_false, h2]))
      | false =>
        iterate 9 (first | (refine SeqR.skipN ?_ rfl rfl ?_; (simp only [sA, wantE, T.get_set, Nat.reduceEqDiff, h1, tt32, i32, tt24, i24, tt4, i4, sz4, sz24, hg1, e4, ld, b_gtr] <;> with_reducible rfl)) | ((first | refine SeqR.stepN (v := ?_) (s' := ?_) rfl ?_ rfl ?_ rfl rfl ?_ | refine SeqR.stepLN (v := ?_) (s' := ?_) rfl ?_ rfl ?_ rfl rfl ?_); rotate_left 3; (intro call lc; simp only [sA, opE, kindOf, pureE, heapE, rho, rhos, T.get_set, Nat.reduceEqDiff, nb00, absV, absS, l_slice, l_void, l_str, l_arr, natE, loadE, isConst, TK.agg, h1, tt32, i32, tt24, i24, tt4, i4, sz4, sz24, hg1, e4, ld, b_gtr] <;> rfl); rotate_left 1; (simp only [sA, wantE, T.get_set, Nat.reduceEqDiff, h1, tt32, i32, tt24, i24, tt4, i4, sz4, sz24, hg1, e4, ld, b_gtr] <;> with_reducible rfl)))
        refine SeqR.step0 rfl (fun call lc old => op_store (b := s.c) (o := 0) (z := 1) (cs := [.bool false]) (v := .bool false) (k := ⟨32, [.bool false, d']⟩) (by simp only [rho, T.get_set, if_true]) (by simp only [rho, T.get_set, Nat.reduceEqDiff, if_true, if_false]) rfl rfl rfl sz4 hg1 (by simp) hlo call lc old) rfl ?_
        exact SeqR.done (fin _ _ (by rw [← hfl]; simp) (by simp only [T.get_set, Nat.reduceEqDiff, if_false, h1]) (by simp only [T.get_set, Nat.reduceEqDiff, if_false, h2]))
    · rintro e m' s1 ⟨rfl, hF3, hK3, hc3, T3, rfl, h1, h2, hg1, hg2⟩
      generalize (neg && !(trimL xs).isEmpty) = x at hg1
      have hcell : cellsAt s1.h s.c 0 2 = some [.bool x, d'] := by
        unfold cellsAt
        rw [hg1, Option.bind_some]
        rfl
      have e5 : Nat.blt s.c s1.c = true := blt_iff.2 (by omega)
      refine CodeR.seq (CodeR.reg rfl ?_)
      refine SeqR.step (v := .agg [.bool x, d']) (s' := s1) rfl rfl (fun call lc => ?_) rfl rfl ?_
      · simp only [opE, rho, h1, Option.bind_some, e5, cond_true, loadE, tt32, i32, TK.agg, hcell, Option.map_some]
      refine SeqR.step0 rfl (fun call lc old => op_store (b := s.c + 1) (o := 0) (z := 2) (cs := [.bool x, d']) (v := .agg [.bool x, d']) (k := ⟨32, i32.zero.cells⟩) (by simp only [rho, T.get_set, Nat.reduceEqDiff, if_false, h2]) (by simp only [rho, T.get_set, if_true]) rfl rfl (by simp only [ones, dd', Bool.and_true]; rfl) sz32 hg2 (by decide) (by omega) call lc old) rfl ?_
      refine SeqR.done ?_
      have hK4 : Kept s.c s ⟨s1.h.set (s.c + 1) ⟨32, putL i32.zero.cells 0 [.bool x, d']⟩, s1.c⟩ := ⟨hK3.mono, fun b' hb' => by simp only; rw [T.get_set, if_neg (by omega)]; exact hK3.keep b' hb'⟩
      refine CodeR.ret ⟨.inr rfl, [.agg [.bool x, d']], ?_, fun b' hb' => ?_, hK4, d', rfl, hr0.keep hF.lt hK4⟩
      · show ressE E _ _ [.cell 2 32] = _
        simp only [ressE, resE, T.get_set, Nat.reduceEqDiff, if_false, h2, Option.bind_some, loadE, tt32, i32, TK.agg, cond_true, cellsAt, if_true]
        rfl
      · simp only at hb' ⊢
        rw [T.get_set, if_neg (by omega)]
        exact hF3 b' hb'
end Go.Proofs.YtaocoplfdhcoaaaGreatDoor.EvA

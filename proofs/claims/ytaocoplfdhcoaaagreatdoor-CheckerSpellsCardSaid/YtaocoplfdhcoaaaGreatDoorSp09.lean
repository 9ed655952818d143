/- The staged evaluator tells what the evaluator tells. -/
import Derived.Test.YtaocoplfdhcoaaaGreatDoorSp08
import Derived.Test.YtaocoplfdhcoaaaGreatDoorSp01
import Derived.KernelRfl
set_option linter.unusedVariables false
set_option linter.unusedSimpArgs false
namespace Go.Proofs.YtaocoplfdhcoaaaGreatDoor.Ev
open Go
theorem brec {β : Type} (c : Bool) (x y : β) : (Bool.rec y x c : β) = bif c then x else y := by cases c <;> rfl
theorem getF_eq {α : Type} : ∀ (t : T α) (i : Nat), t.getF i = t.get i
  | .e, i => rfl
  | .n v l r, i => by
    show (Bool.rec (Bool.rec (r.getF (i / 2 - 1)) (l.getF (i / 2)) (Nat.beq (i % 2) 1)) v (Nat.beq i 0) : Option α) = _
    rw [brec, brec, getF_eq l, getF_eq r]
    rfl
theorem singF_eq {α : Type} (v : α) : ∀ (f i : Nat), T.singF v f i = T.sing f i v
  | 0, i => rfl
  | f + 1, i => by
    show (Bool.rec (Bool.rec (.n none .e (T.singF v f (i / 2 - 1))) (.n none (T.singF v f (i / 2)) .e) (Nat.beq (i % 2) 1)) (.n (some v) .e .e) (Nat.beq i 0) : T α) = _
    rw [brec, brec, singF_eq v f, singF_eq v f]
    rfl
theorem setF_eq {α : Type} (x : α) : ∀ (t : T α) (i : Nat), T.setF x t i = t.set i x
  | .e, i => singF_eq x i i
  | .n v l r, i => by
    show (Bool.rec (Bool.rec (.n v l (T.setF x r (i / 2 - 1))) (.n v (T.setF x l (i / 2)) r) (Nat.beq (i % 2) 1)) (.n (some x) l r) (Nat.beq i 0) : T α) = _
    rw [brec, brec, setF_eq x l, setF_eq x r]
    rfl
theorem ob_eq {α β : Type} (o : Option α) (k : α → Option β) : ob o k = o.bind k := by cases o <;> rfl
section
variable {E : Env}
theorem rhoA_eq (x : Operand) (m : T AV) : (rhoA x).f m = rho m x := by
  cases x with
  | tmp t => exact getF_eq m t
  | _ => rfl
theorem kNo_eq {a b : IntKind} : Nat.beq (kNo a) (kNo b) = true ↔ a = b := by cases a <;> cases b <;> decide
theorem intA_eq (op : BinOp) : (intA op).f = intE op := by cases op <;> rfl
theorem binA_eq (op : BinOp) (t : Nat) (c : Bool) (a b : AV) : binA E op t c a b = binE E op t c a b := by
  unfold binA
  cases hs : shB op with
  | true => rfl
  | false =>
    simp only
    cases a with
    | int k x =>
      cases b with
      | int k' y =>
        show (Bool.rec (binE E op t c (.int k x) (.int k' y)) ((intA op).f k x y) (Nat.beq (kNo k) (kNo k')) : Option AV) = _
        rw [brec, intA_eq]
        cases hk : Nat.beq (kNo k) (kNo k') with
        | false => rfl
        | true =>
          have hk' := kNo_eq.1 hk
          subst hk'
          simp only [cond_true]
          cases op <;> first | (cases hs; done) | (simp only [binE, if_true]; done) | rfl
      | _ => rfl
    | _ => rfl
theorem idxA_eq (t : Nat) (m : T AV) (a : AV) (j : Nat) : (idxA E t).f m a j = (E.tt.get t).bind fun i => match i.k, a with
    | .slice e, .slice (some (b, o)) n _ _ => (szE E e).bind fun z => bif Nat.blt j n then some (.ptr (some (b, o + j * z))) else none
    | .arr n e, .ptr (some (b, o)) => (szE E e).bind fun z => bif Nat.blt j n then some (.ptr (some (b, o + j * z))) else none
    | _, _ => none := by
  unfold idxA
  cases hi : E.tt.get t with
  | none => rfl
  | some i =>
    obtain ⟨k, sz, by', z⟩ := i
    cases k with
    | slice e =>
      simp only [Option.bind_some]
      cases hz : szE E e with
      | none => cases a with
        | slice p n c q => cases p with
          | none => rfl
          | some p => obtain ⟨b, o⟩ := p; simp only [hz]; rfl
        | _ => rfl
      | some z' => cases a with
        | slice p n c q => cases p with
          | none => rfl
          | some p => obtain ⟨b, o⟩ := p; simp only [hz]; rfl
        | _ => rfl
    | arr n e =>
      simp only [Option.bind_some]
      cases hz : szE E e with
      | none => cases a with
        | ptr p => cases p with
          | none => rfl
          | some p => obtain ⟨b, o⟩ := p; simp only [hz]; rfl
        | _ => rfl
      | some z' => cases a with
        | ptr p => cases p with
          | none => rfl
          | some p => obtain ⟨b, o⟩ := p; simp only [hz]; rfl
        | _ => rfl
    | _ => rfl
theorem loadA_eq (t : Nat) (s : St) (b o : Nat) : (loadA E t).f s b o = loadE E s t (.ptr (some (b, o))) := by
  unfold loadA
  simp only [loadE]
  cases hi : E.tt.get t with
  | none => rfl
  | some i =>
    simp only [Option.bind_some]
    cases hk : i.k.agg with
    | true => rfl
    | false => simp only [ob_eq, getF_eq, cond_false]
theorem bind_map {α : Type} (r : Option α) (s : St) : (r.bind fun v => some (v, s)) = r.map (·, s) := by cases r <;> rfl
theorem opA_eq (call : CallT) (lc lo old : Nat) (m : T AV) (s : St) (o : Op) : (opA E o).f call lc lo old m s = opE E call lc lo old m s o := by
  cases o with
  | move x =>
    simp only [opA, ob_eq, rhoA_eq, opE, pureE, kindOf]
    cases rho m x <;> rfl
  | assign x =>
    simp only [opA, ob_eq, rhoA_eq, opE, pureE, kindOf]
    cases rho m x <;> rfl
  | binOp op t x y q =>
    simp only [opA, ob_eq, rhoA_eq, opE, pureE, kindOf, binA_eq]
    cases rho m x with
    | none => rfl
    | some a => cases rho m y with
      | none => rfl
      | some b =>
        simp only [Option.bind_some]
        cases binE E op t (isConst x || isConst y) a b <;> rfl
  | load t x =>
    simp only [opA, ob_eq, rhoA_eq, opE]
    cases rho m x with
    | none => rfl
    | some a =>
      simp only [Option.bind_some]
      cases a with
      | ptr p =>
        cases p with
        | none => rfl
        | some p =>
          obtain ⟨b, q⟩ := p
          show (Bool.rec none ((loadA E t).f s b q |>.bind fun v => some (v, s)) (Nat.blt b old) : Option (AV × St)) = _
          rw [brec, loadA_eq]
          simp only
          cases Nat.blt b old with
          | false => rfl
          | true =>
            simp only [cond_true]
            cases loadE E s t (.ptr (some (b, q))) <;> rfl
      | _ => rfl
  | indexAddr t x ix =>
    simp only [opA, ob_eq, rhoA_eq, opE, pureE, kindOf, idxA_eq]
    cases rho m x with
    | none => cases E.tt.get t <;> rfl
    | some a =>
      cases rho m ix with
      | none => cases E.tt.get t <;> rfl
      | some jv =>
        simp only [Option.bind_some]
        cases jv with
        | int k n =>
          cases n with
          | ofNat j =>
            show ((E.tt.get t).bind _ |>.bind fun v => some (v, s)) = _
            cases E.tt.get t with
            | none => rfl
            | some i =>
              simp only [Option.bind_some, natE, show Nat.beq 0 0 = true from rfl, cond_true]
              exact bind_map _ s
          | negSucc j => cases E.tt.get t <;> rfl
        | _ => cases E.tt.get t <;> rfl
  | _ => rfl
theorem wantA_eq (all : List Oper) (o : Oper) (m : T AV) : (wantA all o).f m = wantE all m o := by
  unfold wantA wantE
  cases hg : o.guard with
  | none => rfl
  | some g =>
    obtain ⟨j, w⟩ := g
    simp only
    cases hd : (all[j]?).bind (·.dst) with
    | none => rfl
    | some d =>
      simp only [ob_eq, getF_eq, Option.bind_some]
      cases m.get d with
      | none => rfl
      | some v => cases v <;> rfl
theorem putA_eq (m : Tm) (d : Option Nat) (v : AV) (k : Tm → Option (Tm × St)) : putA m d v k = (putT m d v).bind k := by
  cases d with
  | none => rfl
  | some d =>
    show (Bool.rec none (k ⟨m.n, T.setF v m.t d⟩) (Nat.blt d m.n) : Option (Tm × St)) = _
    rw [brec, setF_eq]
    simp only [putT]
    cases Nat.blt d m.n <;> rfl
theorem seqA_eq (draw : Bool) (all : List Oper) (as : List Nat) (call : CallT) (lo c0 : Nat) : ∀ (os : List Oper) (j : Nat) (m : Tm) (s : St), (seqA E draw all as j os).f call lo c0 m s = runE E call draw lo c0 all as j os m s
  | [], j, m, s => rfl
  | o :: os, j, m, s => by
    rw [seqA, runE]
    simp only [ob_eq, wantA_eq]
    congr 1
    funext w
    rw [brec]
    cases w with
    | false =>
      simp only [cond_false, putA_eq]
      congr 1
      funext m'
      exact seqA_eq draw all as call lo c0 os (j + 1) m' s
    | true =>
      simp only [cond_true, opA_eq]
      congr 1
      funext r
      obtain ⟨v, s'⟩ := r
      simp only [putA_eq]
      congr 1
      funext m'
      exact seqA_eq draw all as call lo c0 os (j + 1) m' s'
theorem regA_eq (draw : Bool) (ops : List Oper) (call : CallT) (lo c0 : Nat) (m : Tm) (s : St) : (regA E draw ops).f call lo c0 m s = regE E call draw lo ops m s := by
  unfold regA regE
  cases draw with
  | false => simp only [seqA_eq, cond_false]
  | true =>
    simp only [cond_true]
    cases drawB E ops (ancs [] ops) 0 ops && backB 0 ops with
    | false => rfl
    | true => simp only [seqA_eq, cond_true]
theorem iterA_eq {f g : Tm → St → Option (Ex × Tm × St)} (h : ∀ m s, f m s = g m s) : ∀ n m s, iterA f n m s = iterE g n m s
  | 0, m, s => rfl
  | n + 1, m, s => by
    show ob (f m s) _ = _
    rw [ob_eq, h, iterE]
    congr 1
    funext r
    obtain ⟨e, m', s'⟩ := r
    cases e with
    | nrm => exact iterA_eq h n m' s'
    | _ => rfl
theorem codeA_eq (call : CallT) (n lo : Nat) : ∀ (c : Code) (m : Tm) (s : St), (codeA E c).f call n lo m s = codeE E call n lo c m s := by
  intro c
  induction c with
  | region id ops draw =>
    intro m s
    simp only [codeA, codeE, ob_eq, regA_eq]
    cases regE E call draw lo ops.toList m s with
    | none => rfl
    | some r => rfl
  | seq a b iha ihb =>
    intro m s
    simp only [codeA, codeE, ob_eq, iha]
    congr 1
    funext r
    obtain ⟨e, m', s'⟩ := r
    cases e with
    | nrm => exact ihb m' s'
    | _ => rfl
  | cond c a b iha ihb =>
    intro m s
    simp only [codeA, codeE, ob_eq, rhoA_eq, iha, ihb]
    congr 1
    funext v
    cases v with
    | bool b => cases b <;> rfl
    | _ => rfl
  | block id a iha =>
    intro m s
    simp only [codeA, codeE, ob_eq, iha]
    cases codeE E call n lo a m s with
    | none => rfl
    | some r =>
      obtain ⟨e, m', s'⟩ := r
      cases e with
      | exit i =>
        show (Bool.rec (some (.exit i, m', s')) (some (.nrm, m', s')) (Nat.beq i id) : Option (Ex × Tm × St)) = _
        rw [brec]
        simp only [Option.map_some]
        cases Nat.beq i id <;> rfl
      | _ => rfl
  | loop a iha =>
    intro m s
    simp only [codeA, codeE]
    exact iterA_eq iha n m s
  | _ => intro m s; rfl
theorem funF_eq : ∀ (n lo f : Nat) (args : List AV) (s : St), funF E n lo f args s = funE E n lo f args s
  | 0, lo, f, args, s => rfl
  | n + 1, lo, f, args, s => by
    have hcall : funF E n = funE E n := by
      funext lo f args s
      exact funF_eq n lo f args s
    show (funA E f).f (funF E n) n lo args s = _
    rw [hcall]
    unfold funA
    simp only [funE]
    cases hf : E.fns.get f with
    | none => rfl
    | some fn =>
      simp only [Option.bind_some]
      cases hb : fn.body with
      | none => rfl
      | some c =>
        simp only [ob_eq, codeA_eq, Option.bind_some]
        congr 1
        funext r
        obtain ⟨e, m', s'⟩ := r
        cases e with
        | exit i => rfl
        | nrm =>
          show (ressE E m'.t s' fn.results.toList).bind _ = _
          dsimp only
          cases ressE E m'.t s' fn.results.toList with
          | none => rfl
          | some vs =>
            simp only [Option.bind_some, Option.map_some]
            match vs with
            | [] => rfl
            | [x] => rfl
            | x :: y :: z => rfl
        | ret =>
          show (ressE E m'.t s' fn.results.toList).bind _ = _
          dsimp only
          cases ressE E m'.t s' fn.results.toList with
          | none => rfl
          | some vs =>
            simp only [Option.bind_some, Option.map_some]
            match vs with
            | [] => rfl
            | [x] => rfl
            | x :: y :: z => rfl
end
end Go.Proofs.YtaocoplfdhcoaaaGreatDoor.Ev
namespace Go.Proofs.YtaocoplfdhcoaaaGreatDoor.Ev
open Go
def T.All {α : Type} (p : Nat → α → Prop) : (Nat → Nat) → T α → Prop
  | _, .e => True
  | f, .n v l r => (match v with | none => True | some x => p (f 0) x) ∧ T.All p (fun j => f (2 * j + 1)) l ∧ T.All p (fun j => f (2 * j + 2)) r
theorem T.all_get {α : Type} {p : Nat → α → Prop} : ∀ {t : T α} {f : Nat → Nat}, T.All p f t → ∀ {i : Nat} {x : α}, t.get i = some x → p (f i) x
  | .e, f, _, i, x, h => by rw [T.get_e] at h; cases h
  | .n v l r, f, ha, i, x, h => by
    rw [T.get_n] at h
    obtain ⟨h1, h2, h3⟩ := ha
    by_cases h0 : i = 0
    · rw [if_pos h0] at h
      subst h
      rw [h0]
      exact h1
    · rw [if_neg h0] at h
      by_cases h4 : i % 2 = 1
      · rw [if_pos h4] at h
        have := T.all_get h2 h
        rw [show 2 * (i / 2) + 1 = i by omega] at this
        exact this
      · rw [if_neg h4] at h
        have := T.all_get h3 h
        rw [show 2 * (i / 2 - 1) + 2 = i by omega] at this
        exact this
end Go.Proofs.YtaocoplfdhcoaaaGreatDoor.Ev

/- Runs without fuel: what some fuel gives, more fuel gives; rules for code, loops and functions. -/
import Derived.Test.YtaocoplfdhcoaaaGreatDoorSp09
set_option linter.unusedVariables false
set_option linter.unusedSimpArgs false
namespace Go.Proofs.YtaocoplfdhcoaaaGreatDoor.Ev
open Go
def CallLe (f g : CallT') : Prop := ∀ lc k vs s r, f lc k vs s = some r → g lc k vs s = some r
section
variable {E : Env} {call call' : CallT'} {lo : Nat}
theorem opE_mono (hc : CallLe call call') {lc old : Nat} {m : T AV} {s : St} {o : Op} {r : AV × St} (h : opE E call lc lo old m s o = some r) : opE E call' lc lo old m s o = some r := by
  unfold opE at h ⊢
  cases o with
  | call c =>
    cases hcal : c.callee with
    | value f =>
      simp only [hcal] at h ⊢
      obtain ⟨⟨g, vs⟩, h1, h2⟩ := Option.bind_eq_some_iff.1 h
      simp only [h1, Option.bind_some]
      split
      · rename_i fx hfx
        simp only [hfx] at h2
        exact h2
      · rename_i hfx
        simp only [hfx] at h2
        exact hc _ _ _ _ _ h2
    | builtin b => simp only [hcal] at h ⊢; exact h
    | invoke r n => simp only [hcal] at h ⊢; exact h
  | _ => exact h
theorem runE_mono (hc : CallLe call call') {draw : Bool} {c0 : Nat} {all : List Oper} {acs : List Nat} : ∀ {os : List Oper} {j : Nat} {m : Tm} {s : St} {r : Tm × St}, runE E call draw lo c0 all acs j os m s = some r → runE E call' draw lo c0 all acs j os m s = some r
  | [], j, m, s, r, h => h
  | o :: os, j, m, s, r, h => by
    rw [runE] at h ⊢
    obtain ⟨w, hw, h2⟩ := Option.bind_eq_some_iff.1 h
    rw [hw, Option.bind_some]
    cases w with
    | false =>
      simp only [cond_false] at h2 ⊢
      obtain ⟨m', hm, h3⟩ := Option.bind_eq_some_iff.1 h2
      rw [hm, Option.bind_some]
      exact runE_mono hc h3
    | true =>
      simp only [cond_true] at h2 ⊢
      obtain ⟨p, hp, h3⟩ := Option.bind_eq_some_iff.1 h2
      obtain ⟨m', hm, h4⟩ := Option.bind_eq_some_iff.1 h3
      rw [opE_mono hc hp, Option.bind_some, hm, Option.bind_some]
      exact runE_mono hc h4
theorem regE_mono (hc : CallLe call call') {draw : Bool} {ops : List Oper} {m : Tm} {s : St} {r : Tm × St} (h : regE E call draw lo ops m s = some r) : regE E call' draw lo ops m s = some r := by
  unfold regE at h ⊢
  cases draw with
  | false => exact runE_mono hc h
  | true =>
    simp only [cond_true] at h ⊢
    cases hd : drawB E ops (ancs [] ops) 0 ops && backB 0 ops with
    | false => rw [hd] at h; cases h
    | true => rw [hd] at h; exact runE_mono hc h
theorem iterE_mono {f g : Tm → St → Option (Ex × Tm × St)} (hfg : ∀ m s r, f m s = some r → g m s = some r) : ∀ {n n' : Nat}, n ≤ n' → ∀ {m : Tm} {s : St} {r : Ex × Tm × St}, iterE f n m s = some r → iterE g n' m s = some r
  | 0, n', _, m, s, r, h => by cases h
  | n + 1, 0, hn, m, s, r, h => by omega
  | n + 1, n' + 1, hn, m, s, r, h => by
    rw [iterE] at h ⊢
    obtain ⟨⟨e, m1, s1⟩, h1, h2⟩ := Option.bind_eq_some_iff.1 h
    rw [hfg _ _ _ h1, Option.bind_some]
    cases e with
    | nrm => exact iterE_mono hfg (by omega) h2
    | exit i => exact h2
    | ret => exact h2
theorem codeE_mono (hc : CallLe call call') {n n' : Nat} (hn : n ≤ n') : ∀ {c : Code} {m : Tm} {s : St} {r : Ex × Tm × St}, codeE E call n lo c m s = some r → codeE E call' n' lo c m s = some r := by
  intro c
  induction c with
  | region id ops draw =>
    intro m s r h
    simp only [codeE] at h ⊢
    obtain ⟨p, hp, rfl⟩ := Option.map_eq_some_iff.1 h
    rw [regE_mono hc hp]
    rfl
  | seq a b iha ihb =>
    intro m s r h
    simp only [codeE] at h ⊢
    obtain ⟨⟨e, m1, s1⟩, h1, h2⟩ := Option.bind_eq_some_iff.1 h
    rw [iha h1, Option.bind_some]
    cases e with
    | nrm => exact ihb h2
    | exit i => exact h2
    | ret => exact h2
  | cond c a b iha ihb =>
    intro m s r h
    simp only [codeE] at h ⊢
    obtain ⟨v, h1, h2⟩ := Option.bind_eq_some_iff.1 h
    rw [h1, Option.bind_some]
    split at h2
    · exact iha h2
    · exact ihb h2
    · cases h2
  | block id a iha =>
    intro m s r h
    simp only [codeE] at h ⊢
    obtain ⟨p, hp, rfl⟩ := Option.map_eq_some_iff.1 h
    rw [iha hp]
    rfl
  | loop a iha =>
    intro m s r h
    simp only [codeE] at h ⊢
    exact iterE_mono (fun m s r h => iha h) hn h
  | skip => intro m s r h; exact h
  | exit id => intro m s r h; exact h
  | ret => intro m s r h; exact h
  | _ => intro m s r h; cases h
theorem funE_mono1 (E : Env) : ∀ n, CallLe (funE E n) (funE E (n + 1))
  | 0 => fun lc k vs s r h => by cases h
  | n + 1 => fun lc k vs s r h => by
    rw [funE] at h ⊢
    obtain ⟨fn, hf, h2⟩ := Option.bind_eq_some_iff.1 h
    obtain ⟨c, hb, h3⟩ := Option.bind_eq_some_iff.1 h2
    obtain ⟨p, hp, h4⟩ := Option.bind_eq_some_iff.1 h3
    rw [hf, Option.bind_some, hb, Option.bind_some, codeE_mono (funE_mono1 E n) (Nat.le_succ n) hp, Option.bind_some]
    exact h4
theorem funE_mono (E : Env) {n n' : Nat} (h : n ≤ n') : CallLe (funE E n) (funE E n') := by
  induction h with
  | refl => exact fun _ _ _ _ _ h => h
  | step _ ih => exact fun lc k vs s r h => funE_mono1 E _ lc k vs s r (ih lc k vs s r h)
end
/-! ### Runs -/
/-- The function tells v and leaves s', with enough fuel. -/
structure FunR (E : Env) (lo f : Nat) (vs : List AV) (s : St) (Q : AV → St → Prop) : Prop where
  out : ∃ n v s', funE E n lo f vs s = some (v, s') ∧ Q v s'
structure CodeR (E : Env) (lo : Nat) (c : Code) (m : Tm) (s : St) (Q : Ex → Tm → St → Prop) : Prop where
  out : ∃ n e m' s', codeE E (funE E n) n lo c m s = some (e, m', s') ∧ Q e m' s'
/-- A region's operations from the j-th on, in the text's order. -/
structure SeqR (E : Env) (lo : Nat) (draw : Bool) (c0 : Nat) (acs : List Nat) (all : List Oper) (j : Nat) (os : List Oper) (m : Tm) (s : St) (Q : Tm → St → Prop) : Prop where
  out : ∃ n m' s', runE E (funE E n) draw lo c0 all acs j os m s = some (m', s') ∧ Q m' s'
section
variable {E : Env} {lo : Nat}
theorem FunR.mono {f : Nat} {vs : List AV} {s : St} {Q Q' : AV → St → Prop} (h : FunR E lo f vs s Q) (hq : ∀ v s', Q v s' → Q' v s') : FunR E lo f vs s Q' := by
  obtain ⟨n, v, s', h1, h2⟩ := h
  exact ⟨n, v, s', h1, hq _ _ h2⟩
theorem CodeR.mono {c : Code} {m : Tm} {s : St} {Q Q' : Ex → Tm → St → Prop} (h : CodeR E lo c m s Q) (hq : ∀ e m' s', Q e m' s' → Q' e m' s') : CodeR E lo c m s Q' := by
  obtain ⟨n, e, m', s', h1, h2⟩ := h
  exact ⟨n, e, m', s', h1, hq _ _ _ h2⟩
def Ex.then (K : Tm → St → Prop) (Q : Ex → Tm → St → Prop) : Ex → Tm → St → Prop
  | .nrm, m, s => K m s
  | .exit i, m, s => Q (.exit i) m s
  | .ret, m, s => Q .ret m s
def Ex.inBlock (id : Nat) (Q : Ex → Tm → St → Prop) : Ex → Tm → St → Prop
  | .nrm, m, s => Q .nrm m s
  | .exit i, m, s => if i = id then Q .nrm m s else Q (.exit i) m s
  | .ret, m, s => Q .ret m s
variable {m : Tm} {s : St} {Q : Ex → Tm → St → Prop}
theorem CodeR.skip (h : Q .nrm m s) : CodeR E lo .skip m s Q := ⟨0, .nrm, m, s, rfl, h⟩
theorem CodeR.exit {id : Nat} (h : Q (.exit id) m s) : CodeR E lo (.exit id) m s Q := ⟨0, _, m, s, rfl, h⟩
theorem CodeR.ret (h : Q .ret m s) : CodeR E lo .ret m s Q := ⟨0, .ret, m, s, rfl, h⟩
theorem CodeR.seq {a b : Code} (h : CodeR E lo a m s (Ex.then (fun m' s' => CodeR E lo b m' s' Q) Q)) : CodeR E lo (.seq a b) m s Q := by
  obtain ⟨n, e, m1, s1, h1, h2⟩ := h
  cases e with
  | nrm =>
    obtain ⟨n', e', m2, s2, h3, h4⟩ := h2
    refine ⟨max n n', e', m2, s2, ?_, h4⟩
    rw [codeE, codeE_mono (funE_mono E (Nat.le_max_left n n')) (Nat.le_max_left n n') h1]
    exact codeE_mono (funE_mono E (Nat.le_max_right n n')) (Nat.le_max_right n n') h3
  | exit i => exact ⟨n, .exit i, m1, s1, by rw [codeE, h1]; rfl, h2⟩
  | ret => exact ⟨n, .ret, m1, s1, by rw [codeE, h1]; rfl, h2⟩
theorem CodeR.cond {c : Operand} {a b : Code} {t : Bool} (hc : rho m.t c = some (.bool t)) (ha : t = true → CodeR E lo a m s Q) (hb : t = false → CodeR E lo b m s Q) : CodeR E lo (.cond c a b) m s Q := by
  cases t with
  | true =>
    obtain ⟨n, e, m', s', h1, h2⟩ := ha rfl
    exact ⟨n, e, m', s', by rw [codeE, hc]; exact h1, h2⟩
  | false =>
    obtain ⟨n, e, m', s', h1, h2⟩ := hb rfl
    exact ⟨n, e, m', s', by rw [codeE, hc]; exact h1, h2⟩
theorem CodeR.block {id : Nat} {a : Code} (h : CodeR E lo a m s (Ex.inBlock id Q)) : CodeR E lo (.block id a) m s Q := by
  obtain ⟨n, e, m', s', h1, h2⟩ := h
  cases e with
  | nrm => exact ⟨n, .nrm, m', s', by rw [codeE, h1]; rfl, h2⟩
  | ret => exact ⟨n, .ret, m', s', by rw [codeE, h1]; rfl, h2⟩
  | exit i =>
    unfold Ex.inBlock at h2
    simp only at h2
    by_cases hi : i = id
    · rw [if_pos hi] at h2
      refine ⟨n, .nrm, m', s', ?_, h2⟩
      rw [codeE, h1]
      simp only [Option.map_some, beq_iff.2 hi, cond_true]
    · rw [if_neg hi] at h2
      refine ⟨n, .exit i, m', s', ?_, h2⟩
      have : Nat.beq i id = false := by
        cases hb : Nat.beq i id with
        | false => rfl
        | true => exact absurd (beq_iff.1 hb) hi
      rw [codeE, h1]
      simp only [Option.map_some, this, cond_false]
/-- A loop: what is kept (I), with a number that falls. -/
theorem CodeR.loop {a : Code} (I : Nat → Tm → St → Prop) (k : Nat) (h0 : I k m s) (step : ∀ k m s, I k m s → CodeR E lo a m s (Ex.then (fun m' s' => ∃ k', k' < k ∧ I k' m' s') Q)) : CodeR E lo (.loop a) m s Q := by
  have key : ∀ k m s, I k m s → ∃ n e m' s', (∀ N, n ≤ N → iterE (fun m s => codeE E (funE E N) N lo a m s) n m s = some (e, m', s')) ∧ Q e m' s' := by
    intro k
    induction k using Nat.strongRecOn with
    | ind k ih =>
      intro m s hI
      obtain ⟨n, e, m1, s1, h1, h2⟩ := step k m s hI
      have lift : ∀ N, n ≤ N → codeE E (funE E N) N lo a m s = some (e, m1, s1) := fun N hN => codeE_mono (funE_mono E hN) hN h1
      cases e with
      | nrm =>
        obtain ⟨k', hk, hI'⟩ := h2
        obtain ⟨n', e', m2, s2, h3, h4⟩ := ih k' hk m1 s1 hI'
        refine ⟨max n n' + 1, e', m2, s2, fun N hN => ?_, h4⟩
        rw [iterE, lift N (by omega), Option.bind_some]
        exact iterE_mono (fun _ _ _ h => h) (Nat.le_max_right n n') (h3 N (by omega))
      | exit i => exact ⟨n + 1, .exit i, m1, s1, fun N hN => by rw [iterE, lift N (by omega)]; rfl, h2⟩
      | ret => exact ⟨n + 1, .ret, m1, s1, fun N hN => by rw [iterE, lift N (by omega)]; rfl, h2⟩
  obtain ⟨n, e, m', s', h1, h2⟩ := key k m s h0
  exact ⟨n, e, m', s', by rw [codeE]; exact h1 n (Nat.le_refl _), h2⟩
theorem CodeR.reg {id : Nat} {ops : Array Oper} {os : List Oper} (ho : ops.toList = os) (h : SeqR E lo false s.c [] os 0 os m s (fun m' s' => Q .nrm m' s')) : CodeR E lo (.region id ops false) m s Q := by
  obtain ⟨n, m', s', h1, h2⟩ := h
  refine ⟨n, .nrm, m', s', ?_, h2⟩
  rw [codeE, ho]
  unfold regE
  simp only [cond_false, h1, Option.map_some]
theorem CodeR.regD {id : Nat} {ops : Array Oper} {os : List Oper} {acs : List Nat} (ho : ops.toList = os) (hacs : ancs [] os = acs) (hd : (drawB E os acs 0 os && backB 0 os) = true) (h : SeqR E lo true s.c acs os 0 os m s (fun m' s' => Q .nrm m' s')) : CodeR E lo (.region id ops true) m s Q := by
  obtain ⟨n, m', s', h1, h2⟩ := h
  refine ⟨n, .nrm, m', s', ?_, h2⟩
  rw [codeE, ho]
  unfold regE
  simp only [cond_true, hacs, hd, h1, Option.map_some]
section
variable {c0 j : Nat} {all os : List Oper} {o : Oper} {K : Tm → St → Prop} {draw : Bool} {acs : List Nat}
theorem SeqR.done (h : K m s) : SeqR E lo draw c0 acs all j [] m s K := ⟨0, m, s, rfl, h⟩
/-- What is done with an operation's value. -/
def putK (m : Tm) (d : Option Nat) (v : AV) (K : Tm → Prop) : Prop := ∃ m', putT m d v = some m' ∧ K m'
theorem putK_some {m : Tm} {d : Nat} {v : AV} {K : Tm → Prop} (hlt : Nat.blt d m.n = true) (h : K ⟨m.n, m.t.set d v⟩) : putK m (some d) v K := ⟨_, by simp only [putT, hlt, cond_true], h⟩
theorem putK_none {m : Tm} {v : AV} {K : Tm → Prop} (h : K m) : putK m none v K := ⟨_, rfl, h⟩
theorem SeqR.gen {v : AV} {s' : St} (hw : wantE all m.t o = some true) {n0 : Nat} (hop : opE E (funE E n0) (bif draw && !tightB E acs j 0 all then s.c else lo) lo (bif draw && looseB E (acs.getD j 0) 0 (all.take j) then c0 else s.c) m.t s o.op = some (v, s')) (k : putK m o.dst v fun m' => SeqR E lo draw c0 acs all (j + 1) os m' s' K) : SeqR E lo draw c0 acs all j (o :: os) m s K := by
  obtain ⟨m1, hp, n, m', s1, h1, h2⟩ := k
  refine ⟨max n0 n, m', s1, ?_, h2⟩
  rw [runE, hw, Option.bind_some, cond_true, opE_mono (funE_mono E (Nat.le_max_left n0 n)) hop, Option.bind_some, hp, Option.bind_some]
  exact runE_mono (funE_mono E (Nat.le_max_right n0 n)) h1
theorem SeqR.skipK (hw : wantE all m.t o = some false) (k : putK m o.dst (.tuple []) fun m' => SeqR E lo draw c0 acs all (j + 1) os m' s K) : SeqR E lo draw c0 acs all j (o :: os) m s K := by
  obtain ⟨m1, hp, n, m', s1, h1, h2⟩ := k
  refine ⟨n, m', s1, ?_, h2⟩
  rw [runE, hw, Option.bind_some, cond_false, hp, Option.bind_some]
  exact h1
/-- An operation that calls no function, and reads what lies below the counter. -/
theorem SeqR.step {v : AV} {s' : St} (hw : wantE all m.t o = some true) (hl : (draw && looseB E (acs.getD j 0) 0 (all.take j)) = false) (hop : ∀ call lc, opE E call lc lo s.c m.t s o.op = some (v, s')) {d : Nat} (hd : o.dst = some d) (hlt : Nat.blt d m.n = true) (k : SeqR E lo draw c0 acs all (j + 1) os ⟨m.n, m.t.set d v⟩ s' K) : SeqR E lo draw c0 acs all j (o :: os) m s K :=
  SeqR.gen (n0 := 0) hw (by rw [hl]; exact hop _ _) (by rw [hd]; exact putK_some hlt k)
/-- The same, reading what lies below the region's first counter. -/
theorem SeqR.stepL {v : AV} {s' : St} (hw : wantE all m.t o = some true) (hl : (draw && looseB E (acs.getD j 0) 0 (all.take j)) = true) (hop : ∀ call lc, opE E call lc lo c0 m.t s o.op = some (v, s')) {d : Nat} (hd : o.dst = some d) (hlt : Nat.blt d m.n = true) (k : SeqR E lo draw c0 acs all (j + 1) os ⟨m.n, m.t.set d v⟩ s' K) : SeqR E lo draw c0 acs all j (o :: os) m s K :=
  SeqR.gen (n0 := 0) hw (by rw [hl]; exact hop _ _) (by rw [hd]; exact putK_some hlt k)
theorem SeqR.step0 {v : AV} {s' : St} (hw : wantE all m.t o = some true) (hop : ∀ call lc old, opE E call lc lo old m.t s o.op = some (v, s')) (hd : o.dst = none) (k : SeqR E lo draw c0 acs all (j + 1) os m s' K) : SeqR E lo draw c0 acs all j (o :: os) m s K :=
  SeqR.gen (n0 := 0) hw (hop _ _ _) (by rw [hd]; exact putK_none k)
theorem SeqR.skip (hw : wantE all m.t o = some false) {d : Nat} (hd : o.dst = some d) (hlt : Nat.blt d m.n = true) (k : SeqR E lo draw c0 acs all (j + 1) os ⟨m.n, m.t.set d (.tuple [])⟩ s K) : SeqR E lo draw c0 acs all j (o :: os) m s K :=
  SeqR.skipK hw (by rw [hd]; exact putK_some hlt k)
theorem SeqR.skip0 (hw : wantE all m.t o = some false) (hd : o.dst = none) (k : SeqR E lo draw c0 acs all (j + 1) os m s K) : SeqR E lo draw c0 acs all j (o :: os) m s K :=
  SeqR.skipK hw (by rw [hd]; exact putK_none k)
/-- A call of a function. -/
theorem SeqR.call {c : Call} {f : Operand} {g : Nat} {vs : List AV} (hw : wantE all m.t o = some true) (ho : o.op = .call c) (hcal : c.callee = .value f) (hg : calleeE m.t c = some (g, vs)) (hext : E.ext.get g = none) {d : Nat} (hd : o.dst = some d) (hlt : Nat.blt d m.n = true)
    (hf : ∀ lc, lc = lo ∨ lc = s.c → FunR E lc g vs s fun v s' => SeqR E lo draw c0 acs all (j + 1) os ⟨m.n, m.t.set d v⟩ s' K) : SeqR E lo draw c0 acs all j (o :: os) m s K := by
  obtain ⟨n, v, s', h1, h2⟩ := hf (bif draw && !tightB E acs j 0 all then s.c else lo) (by cases draw && !tightB E acs j 0 all <;> simp)
  refine SeqR.gen (n0 := n) (v := v) (s' := s') hw ?_ (by rw [hd]; exact putK_some hlt h2)
  rw [ho]
  simp only [opE, hcal, hg, Option.bind_some, hext]
  exact h1
/-- A call of a function of the library whose contract stands for it. -/
theorem SeqR.ext {c : Call} {f : Operand} {g : Nat} {vs : List AV} {fx : List AV → Option AV} {v : AV} (hw : wantE all m.t o = some true) (ho : o.op = .call c) (hcal : c.callee = .value f) (hg : calleeE m.t c = some (g, vs)) (hext : E.ext.get g = some fx) (hv : fx vs = some v) {d : Nat} (hd : o.dst = some d) (hlt : Nat.blt d m.n = true)
    (k : SeqR E lo draw c0 acs all (j + 1) os ⟨m.n, m.t.set d v⟩ s K) : SeqR E lo draw c0 acs all j (o :: os) m s K := by
  refine SeqR.gen (n0 := 0) (v := v) (s' := s) hw ?_ (by rw [hd]; exact putK_some hlt k)
  rw [ho]
  simp only [opE, hcal, hg, Option.bind_some, hext, hv, Option.map_some]
end
def oneOf : List AV → AV
  | [u] => u
  | us => .tuple us
/-- A function, by its body. -/
theorem FunR.body {f : Nat} {fn : Func} {c : Code} {vs : List AV} {Q : AV → St → Prop} (hf : E.fns.get f = some fn) (hb : fn.body = some c)
    (h : CodeR E lo c ⟨max vs.length fn.ntmps, argsT 0 vs⟩ s fun e m' s' => (e = .nrm ∨ e = .ret) ∧ ∃ us, ressE E m'.t s' fn.results.toList = some us ∧ Q (oneOf us) s') : FunR E lo f vs s Q := by
  obtain ⟨n, e, m', s', h1, h2, us, h3, h4⟩ := h
  refine ⟨n + 1, _, s', ?_, h4⟩
  rw [funE, hf, Option.bind_some, hb, Option.bind_some, h1, Option.bind_some]
  have : (Option.map (fun | [v] => (v, s') | vs => (AV.tuple vs, s')) (ressE E m'.t s' fn.results.toList)) = some (oneOf us, s') := by
    rw [h3, Option.map_some]
    match us with
    | [] => rfl
    | [x] => rfl
    | x :: y :: z => rfl
  rcases h2 with rfl | rfl
  · exact this
  · exact this
end
end Go.Proofs.YtaocoplfdhcoaaaGreatDoor.Ev
set_option linter.unusedVariables false
set_option linter.unusedSimpArgs false
namespace Go.Proofs.YtaocoplfdhcoaaaGreatDoor.Ev
open Go
/-- No block from the counter on. -/
def Fresh (s : St) : Prop := ∀ b, s.c ≤ b → s.h.get b = none
/-- What lay about lies as it did. -/
structure Kept (c0 : Nat) (s s' : St) : Prop where
  mono : s.c ≤ s'.c
  keep : ∀ b, b < c0 → s'.h.get b = s.h.get b
theorem Kept.refl (c0 : Nat) (s : St) : Kept c0 s s := ⟨Nat.le_refl _, fun _ _ => rfl⟩
theorem Kept.trans {c0 : Nat} {s s1 s2 : St} (h : Kept c0 s s1) (h' : Kept c0 s1 s2) : Kept c0 s s2 := ⟨Nat.le_trans h.mono h'.mono, fun b hb => (h'.keep b hb).trans (h.keep b hb)⟩
theorem Kept.le {c0 c1 : Nat} {s s' : St} (h : Kept c0 s s') (hc : c1 ≤ c0) : Kept c1 s s' := ⟨h.mono, fun b hb => h.keep b (Nat.lt_of_lt_of_le hb hc)⟩
/-- The slice's first cells: n elements of z cells each. -/
def Row (h : T Blk) (z : Nat) (cs : List AV) : AV → Prop
  | .slice none n _ q => n = 0 ∧ q = 0 ∧ cs = []
  | .slice (some (b, o)) n c q => cs.length = n * z ∧ n ≤ c ∧ (q = 0 ∨ q = z) ∧ (n ≠ 0 → cellsAt h b o (n * z) = some cs)
  | .void _ _ _ _ => cs = []
  | _ => False
theorem Row.keep {s s' : St} {z c0 : Nat} {cs : List AV} {v : AV} (h : Row s.h z cs v) (hF : ∀ b k, s.h.get b = some k → b < c0) (hk : Kept c0 s s') : Row s'.h z cs v := by
  unfold Row at h ⊢
  split at h
  · exact h
  · rename_i b o n c q
    refine ⟨h.1, h.2.1, h.2.2.1, fun hn => ?_⟩
    have h2 := h.2.2.2 hn
    unfold cellsAt at h2 ⊢
    cases hg : s.h.get b with
    | none => rw [hg] at h2; cases h2
    | some k =>
      rw [hk.keep b (hF b k hg), hg]
      rw [hg] at h2
      exact h2
  · exact h
  · exact h.elim
theorem Fresh.lt {s : St} (h : Fresh s) : ∀ b k, s.h.get b = some k → b < s.c := fun b k hk => by
  rcases Nat.lt_or_ge b s.c with h' | h'
  · exact h'
  · rw [h b h'] at hk; cases hk
theorem Row.len {h : T Blk} {z e : Nat} {cs : List AV} {v : AV} (hr : Row h z cs v) (hz : z ≠ 0) : ∃ n, lenE (.slice e) v = some n ∧ cs.length = n * z := by
  unfold Row at hr
  split at hr
  · obtain ⟨rfl, rfl, rfl⟩ := hr; exact ⟨0, rfl, by simp⟩
  · exact ⟨_, rfl, hr.1⟩
  · subst hr; exact ⟨0, rfl, by simp⟩
  · exact hr.elim
/-- An element is there: the slice's shape, and its cells. -/
theorem Row.shape {h : T Blk} {z : Nat} {cs : List AV} {v : AV} (hr : Row h z cs v) {i : Nat} (hi : (i + 1) * z ≤ cs.length) (hz : z ≠ 0) : ∃ b o n c q, v = .slice (some (b, o)) n c q ∧ i < n ∧ cs.length = n * z ∧ ∃ k, h.get b = some k ∧ o + n * z ≤ k.cells.length ∧ ∀ j, j < z → k.cells[o + i * z + j]? = cs[i * z + j]? := by
  have hpos : 0 < cs.length := by
    have : z ≤ (i + 1) * z := by rw [Nat.add_mul]; omega
    omega
  unfold Row at hr
  split at hr
  · rw [hr.2.2] at hpos; simp at hpos
  · rename_i b o n c q
    have hi2 : i < n := by
      rw [hr.1] at hi
      exact Nat.lt_of_succ_le (Nat.le_of_mul_le_mul_right hi (by omega))
    have hn : n ≠ 0 := by omega
    have hc := hr.2.2.2 hn
    obtain ⟨k, hk, h2⟩ := Option.bind_eq_some_iff.1 hc
    cases hle : Nat.ble (o + n * z) k.cells.length with
    | false => rw [hle] at h2; cases h2
    | true =>
      rw [hle] at h2
      cases h2
      refine ⟨b, o, n, c, q, rfl, hi2, hr.1, k, hk, ble_iff.1 hle, fun j hj => ?_⟩
      have : i * z + j < n * z := by
        have : (i + 1) * z ≤ n * z := Nat.mul_le_mul_right _ hi2
        rw [Nat.add_mul] at this
        omega
      rw [List.getElem?_take, if_pos this, List.getElem?_drop, Nat.add_assoc]
  · rw [hr] at hpos; simp at hpos
  · exact hr.elim
/-- A slice that grows by appending: its block is the run's own (from c0 on). -/
def Own (c0 : Nat) (s : St) (e z : Nat) (cs : List AV) (v : AV) : Prop :=
  (v = .slice none 0 0 0 ∧ cs = []) ∨ ∃ b n, v = .slice (some (b, 0)) n n z ∧ c0 ≤ b ∧ s.h.get b = some ⟨e, cs⟩ ∧ cs.length = n * z ∧ n ≠ 0
theorem Own.row {c0 : Nat} {s : St} {e z : Nat} {cs : List AV} {v : AV} (h : Own c0 s e z cs v) : Row s.h z cs v := by
  rcases h with ⟨rfl, rfl⟩ | ⟨b, n, rfl, h1, h2, h3, h4⟩
  · exact ⟨rfl, rfl, rfl⟩
  · refine ⟨h3, Nat.le_refl _, .inr rfl, fun _ => ?_⟩
    unfold cellsAt
    rw [h2, Option.bind_some]
    simp only [Nat.zero_add, List.drop_zero]
    rw [ble_iff.2 (by omega), cond_true, List.take_of_length_le (by omega)]
/-- More of the run's own about: the slice stands. -/
theorem Own.keep {c0 : Nat} {s s' : St} {e z : Nat} {cs : List AV} {v : AV} (h : Own c0 s e z cs v) (hF : Fresh s) (hk : Kept s.c s s') : Own c0 s' e z cs v := by
  rcases h with h | ⟨b, n, h0, h1, h2, h3, h4⟩
  · exact .inl h
  · exact .inr ⟨b, n, h0, h1, by rw [hk.keep b (hF.lt b _ h2)]; exact h2, h3, h4⟩
theorem appE_own {c0 lo e z bytes : Nat} {s : St} {cs new : List AV} {v : AV} (hlo : lo ≤ c0) (hc : c0 ≤ s.c) (hz : z ≠ 0) (h : Own c0 s e z cs v) (hF : Fresh s) (hnew : new.length = z) (hone : ones new = true) (hcs : ones cs = true) (hb : (cs.length + 1) * (bytes + 1) ≤ 70368744177664) :
    ∃ v' s', appE lo s e z bytes 1 new v = some (v', s') ∧ Own c0 s' e z (cs ++ new) v' ∧ Fresh s' ∧ Kept c0 s s' ∧ s'.c = s.c + 1 := by
  have ones_app : ones (cs ++ new) = true := by
    clear h hb hnew
    induction cs with
    | nil => exact hone
    | cons x xs ih =>
      rw [ones, Bool.and_eq_true] at hcs
      rw [List.cons_append, ones, Bool.and_eq_true]
      exact ⟨hcs.1, ih hcs.2⟩
  have hb1 : ∀ n, n * z = cs.length → (n + 1) * bytes ≤ 70368744177664 ∧ n + 1 ≤ 70368744177664 := fun n hn => by
    have h1 : n ≤ cs.length := by rw [← hn]; exact Nat.le_mul_of_pos_right _ (by omega)
    have h2 : (n + 1) * (bytes + 1) ≤ (cs.length + 1) * (bytes + 1) := Nat.mul_le_mul_right _ (by omega)
    have h3 : (n + 1) * bytes ≤ (n + 1) * (bytes + 1) := Nat.mul_le_mul_left _ (by omega)
    have h4 : n + 1 ≤ (n + 1) * (bytes + 1) := Nat.le_mul_of_pos_right _ (by omega)
    omega
  rcases h with ⟨rfl, rfl⟩ | ⟨b, n, rfl, h1, h2, h3, h4⟩
  · obtain ⟨g1, g2⟩ := hb1 0 (by simp)
    refine ⟨.slice (some (s.c, 0)) 1 1 z, ⟨s.h.set s.c ⟨e, new⟩, s.c + 1⟩, ?_, .inr ⟨s.c, 1, rfl, hc, by simp [T.get_set], by simp [hnew], by simp⟩, fun b hb => ?_, ⟨Nat.le_succ _, fun b hb => ?_⟩, rfl⟩
    · simp only [appE, show Nat.beq 1 0 = false from rfl, cond_false, growE, newAt, List.nil_append, hone, cond_true, Option.map_some]
      rw [ble_iff.2 (by simpa using g1), ble_iff.2 (by simp)]
      rfl
    · simp only at hb ⊢
      rw [T.get_set, if_neg (by omega)]
      exact hF b (by omega)
    · simp only
      rw [T.get_set, if_neg (by omega)]
  · obtain ⟨g1, g2⟩ := hb1 n h3.symm
    have hbc : b < s.c := hF.lt b _ h2
    have hcell : cellsAt s.h b 0 (n * z) = some cs := by
      unfold cellsAt
      rw [h2, Option.bind_some]
      simp only [Nat.zero_add, List.drop_zero]
      rw [ble_iff.2 (by omega), cond_true, List.take_of_length_le (by omega)]
    have hroom : Nat.ble (n + 1) n = false := by
      cases hq : Nat.ble (n + 1) n with
      | false => rfl
      | true => have := ble_iff.1 hq; omega
    have hzb : Nat.beq z 0 = false := by
      cases hq : Nat.beq z 0 with
      | false => rfl
      | true => exact absurd (beq_iff.1 hq) hz
    have hty : tyB s.h b e = true := by unfold tyB; rw [h2]; exact beq_self e
    refine ⟨.slice (some (s.c, 0)) (n + 1) (n + 1) z, ⟨(s.h.del b).set s.c ⟨e, cs ++ new⟩, s.c + 1⟩, ?_, .inr ⟨s.c, n + 1, rfl, hc, by simp [T.get_set], by rw [List.length_append, h3, hnew, Nat.add_mul]; omega, by omega⟩, fun b' hb => ?_, ⟨Nat.le_succ _, fun b' hb => ?_⟩, rfl⟩
    · simp only [appE, show Nat.beq 1 0 = false from rfl, cond_false, ble_iff.2 g1, ble_iff.2 g2, Bool.and_self, cond_true, hroom, hzb, beq_self, ble_iff.2 (show lo ≤ b by omega), hty, hcell, Option.bind_some, growE, newAt, ones_app, Option.map_some]
    · simp only at hb ⊢
      rw [T.get_set, if_neg (by omega), T.get_del, if_neg (by omega)]
      exact hF b' (by omega)
    · simp only
      rw [T.get_set, if_neg (by omega), T.get_del, if_neg (by omega)]
/-- v[:k] -/
theorem Row.front {h : T Blk} {z : Nat} {cs : List AV} {v : AV} (hr : Row h z cs v) (hz : z ≠ 0) {k : Nat} (hk : k * z ≤ cs.length) : ∃ v', sliceE z v none (some (.int .i64 (Int.ofNat k))) none = some v' ∧ Row h z (cs.take (k * z)) v' := by
  unfold Row at hr
  split at hr
  · rename_i n c q
    obtain ⟨rfl, rfl, rfl⟩ := hr
    have hk0 : k = 0 := by
      rcases Nat.mul_eq_zero.1 (Nat.le_zero.1 hk) with hk | hk
      · exact hk
      · exact absurd hk hz
    subst hk0
    refine ⟨.slice none 0 c 0, ?_, rfl, rfl, by simp⟩
    simp only [sliceE, boundE, natE, Option.bind_some, Nat.zero_mul, ble_iff.2 (Nat.zero_le _), ble_iff.2 (Nat.le_refl _), Bool.and_self, Option.isNone_none, Bool.true_or, cond_true, Option.map_none, Nat.sub_zero]
    cases Nat.beq c 0 <;> rfl
  · rename_i b o n c q
    obtain ⟨h1, h2, h3, h4⟩ := hr
    have hkn : k ≤ n := by
      rw [h1] at hk
      exact Nat.le_of_mul_le_mul_right hk (by omega)
    refine ⟨.slice (some (b, o)) k c q, ?_, ?_⟩
    · rcases h3 with rfl | rfl
      · simp only [sliceE, boundE, natE, Option.bind_some, ble_iff.2 (Nat.zero_le _), ble_iff.2 (Nat.le_refl _), ble_iff.2 (show k ≤ c by omega), Bool.and_self, Option.isNone_none, Bool.true_or, cond_true, Nat.sub_zero, Option.map_some, Nat.zero_mul, Nat.add_zero]
        cases Nat.beq c 0 <;> rfl
      · obtain ⟨q', rfl⟩ : ∃ q', q = q' + 1 := ⟨q - 1, by omega⟩
        simp only [sliceE, boundE, natE, Option.bind_some, beq_self, cond_true, ble_iff.2 (Nat.zero_le _), ble_iff.2 (show k ≤ c by omega), Bool.and_self]
    · refine ⟨by rw [List.length_take, Nat.min_eq_left hk], by omega, h3, fun hk0 => ?_⟩
      have hc := h4 (by omega)
      obtain ⟨kk, hkk, h5⟩ := Option.bind_eq_some_iff.1 hc
      unfold cellsAt
      rw [hkk, Option.bind_some]
      cases hle : Nat.ble (o + n * z) kk.cells.length with
      | false => rw [hle] at h5; cases h5
      | true =>
        rw [hle] at h5
        cases h5
        have := ble_iff.1 hle
        have h6 : k * z ≤ n * z := Nat.mul_le_mul_right _ hkn
        rw [ble_iff.2 (by omega), cond_true, List.take_take, Nat.min_eq_left h6]
  · rename_i b o d q
    subst hr
    have hk0 : k = 0 := by
      rcases Nat.mul_eq_zero.1 (Nat.le_zero.1 hk) with hk | hk
      · exact hk
      · exact absurd hk hz
    subst hk0
    refine ⟨.void b o d q, ?_, by simp [Row]⟩
    simp only [sliceE, boundE, natE, Option.bind_some]
    rfl
  · exact hr.elim
end Go.Proofs.YtaocoplfdhcoaaaGreatDoor.Ev

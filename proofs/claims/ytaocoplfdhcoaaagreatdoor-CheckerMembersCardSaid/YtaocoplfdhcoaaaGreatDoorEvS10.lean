/- What regions, code and functions leave as it is. -/
import Derived.Test.YtaocoplfdhcoaaaGreatDoorEvS6
set_option linter.unusedVariables false
set_option linter.unusedSimpArgs false
namespace Go.Proofs.YtaocoplfdhcoaaaGreatDoor.Ev
open Go Go.RowKit
abbrev CallT' := Nat → Nat → List AV → St → Option (AV × St)
def CallOk (call : CallT') : Prop := ∀ lc g as, Good lc (call lc g as)
section
variable {E : Env} {call : CallT'} {lo lc old : Nat}
theorem Good.le {γ : Type} {F : St → Option (γ × St)} {lo' : Nat} (h : Good lo F) (hl : lo' ≤ lo) : Good lo' F := fun s r s' hs => by
  obtain ⟨h1, h2⟩ := h s r s' hs
  exact ⟨h1.of_c (.inl hl), h2⟩
theorem good_opE (hcall : CallOk call) (m : T AV) (o : Op) : Good (min lo lc) fun s => opE E call lc lo old m s o := by
  have h1 : Good (min lo lc) fun s => heapE E lo m s o := (good_heapE E m o).le (Nat.min_le_left _ _)
  have h2 : Good (min lo lc) fun s => (pureE E m o).map (·, s) := .pure _
  unfold opE
  split
  · refine .obind fun a _ => ?_
    split
    · exact .bif' (.read (read_loadE _ _ _)) .none'
    · exact .none'
  · rename_i c
    split
    · refine .obind fun p _ => ?_
      obtain ⟨g, as⟩ := p
      dsimp only
      split
      · exact .pure _
      · exact (hcall lc g as).le (Nat.min_le_right _ _)
    · exact .bif' h2 h1
  · exact .bif' h2 h1
theorem good_opE_at (hcall : CallOk call) (m : T AV) (o : Op) {L O : Nat → Nat} (hL : ∀ c, lo ≤ L c ∨ c ≤ L c) : Good lo fun s => opE E call (L s.c) lo (O s.c) m s o := fun s r s' hs => by
  obtain ⟨h1, h2⟩ := good_opE (lo := lo) (lc := L s.c) (old := O s.c) (E := E) hcall m o s r s' hs
  refine ⟨⟨h1.mono, fun b hb hc => h1.keep b ?_ hc, h1.born⟩, fun b k hb hc => h2 b k hb hc⟩
  rcases hL s.c with h | h <;> omega
theorem good_runE (hcall : CallOk call) (draw : Bool) (c0 : Nat) (all : List Oper) (as : List Nat) : ∀ (os : List Oper) (j : Nat) (m : Tm), Good lo fun s => runE E call draw lo c0 all as j os m s
  | [], j, m => by
    unfold runE
    exact .some' m
  | o :: os, j, m => by
    unfold runE
    refine .obind fun w _ => .bif' ?_ (.obind fun m' _ => good_runE hcall draw c0 all as os (j + 1) m')
    refine Good.bind' (F := fun s => opE E call (bif draw && !tightB E as j 0 all then s.c else lo) lo (bif draw && looseB E (as.getD j 0) 0 (all.take j) then c0 else s.c) m.t s o.op) (G := fun r s => (putT m o.dst r).bind fun m' => runE E call draw lo c0 all as (j + 1) os m' s) ?_ fun r => .obind fun m' _ => good_runE hcall draw c0 all as os (j + 1) m'
    refine good_opE_at hcall m.t o.op (L := fun c => bif draw && !tightB E as j 0 all then c else lo) (O := fun c => bif draw && looseB E (as.getD j 0) 0 (all.take j) then c0 else c) fun c => ?_
    cases draw && !tightB E as j 0 all
    · exact .inl (Nat.le_refl _)
    · exact .inr (Nat.le_refl _)
theorem good_regE (hcall : CallOk call) (draw : Bool) (ops : List Oper) (m : Tm) : Good lo fun s => regE E call draw lo ops m s := by
  have key : ∀ (d : Bool) (as : List Nat), Good lo fun s => runE E call d lo s.c ops as 0 ops m s := fun d as s r s' hs => by
    obtain ⟨h1, h2⟩ := good_runE (E := E) (lo := lo) hcall d s.c ops as ops 0 m s r s' hs
    exact ⟨h1, h2⟩
  unfold regE
  dsimp only
  exact .bif' (.bif' (key true (ancs [] ops)) .none') (key false [])
def GoodC (lo : Nat) (F : St → Option (Ex × Tm × St)) : Prop := ∀ s e m' s', F s = some (e, m', s') → Eff lo s s' ∧ ∀ b k, s.h.get b = none → (b < s.c ∨ s'.c ≤ b) → F ⟨s.h.set b k, s.c⟩ = some (e, m', ⟨s'.h.set b k, s'.c⟩)
/-- Two after each other: the second one only if the first one ends so. -/
theorem GoodC.then' {F : St → Option (Ex × Tm × St)} {G : Tm → St → Option (Ex × Tm × St)} (hF : GoodC lo F) (hG : ∀ m, GoodC lo (G m)) : GoodC lo fun s => (F s).bind fun
    | (.nrm, m', s') => G m' s'
    | r => some r := fun s e m' s' hs => by
  obtain ⟨⟨e1, m1, s1⟩, h1, hs⟩ := Option.bind_eq_some_iff.1 hs
  obtain ⟨f1, f2⟩ := hF s e1 m1 s1 h1
  cases e1 with
  | nrm =>
    obtain ⟨g1, g2⟩ := hG m1 s1 e m' s' hs
    refine ⟨f1.trans g1, fun b k hb hc => ?_⟩
    have := f1.mono
    have := g1.mono
    simp only [f2 b k hb (by omega), Option.bind_some]
    exact g2 b k (f1.born b hb (by omega)) (by omega)
  | exit i =>
    cases hs
    exact ⟨f1, fun b k hb hc => by simp only [f2 b k hb hc, Option.bind_some]⟩
  | ret =>
    cases hs
    exact ⟨f1, fun b k hb hc => by simp only [f2 b k hb hc, Option.bind_some]⟩
theorem good_iterE {f : Tm → St → Option (Ex × Tm × St)} (hf : ∀ m, GoodC lo (f m)) : ∀ n m, GoodC lo (iterE f n m)
  | 0, m => fun s e m' s' h => by cases h
  | n + 1, m => by
    show GoodC lo fun s => iterE f (n + 1) m s
    simp only [iterE]
    exact GoodC.then' (hf m) (good_iterE hf n)
theorem good_codeE (hcall : CallOk call) (n : Nat) : ∀ (c : Code) (m : Tm), GoodC lo (codeE E call n lo c m) := by
  intro c
  induction c with
  | region id ops draw =>
    intro m s e m' s' h
    simp only [codeE] at h ⊢
    obtain ⟨⟨m1, s1⟩, h1, h⟩ := Option.map_eq_some_iff.1 h
    cases h
    obtain ⟨g1, g2⟩ := good_regE (E := E) (lo := lo) hcall draw ops.toList m s m1 s1 h1
    exact ⟨g1, fun b k hb hc => by have := g2 b k hb hc; simp only at this; simp only [this, Option.map_some]⟩
  | skip =>
    intro m s e m' s' h
    cases h
    exact ⟨Eff.refl _ _, fun b k hb hc => rfl⟩
  | seq a b iha ihb =>
    intro m
    show GoodC lo fun s => codeE E call n lo (.seq a b) m s
    simp only [codeE]
    exact GoodC.then' (iha m) ihb
  | cond c a b iha ihb =>
    intro m s e m' s' h
    simp only [codeE] at h ⊢
    obtain ⟨v, hv, h⟩ := Option.bind_eq_some_iff.1 h
    simp only [hv, Option.bind_some]
    split at h
    · exact iha m s e m' s' h
    · exact ihb m s e m' s' h
    · cases h
  | block id a iha =>
    intro m s e m' s' h
    simp only [codeE] at h ⊢
    obtain ⟨⟨e1, m1, s1⟩, h1, h⟩ := Option.map_eq_some_iff.1 h
    obtain ⟨g1, g2⟩ := iha m s e1 m1 s1 h1
    cases e1 with
    | nrm => cases h; exact ⟨g1, fun b k hb hc => by simp only [g2 b k hb hc, Option.map_some]⟩
    | ret => cases h; exact ⟨g1, fun b k hb hc => by simp only [g2 b k hb hc, Option.map_some]⟩
    | exit i =>
      simp only at h
      cases hi : Nat.beq i id with
      | true => rw [hi] at h; cases h; exact ⟨g1, fun b k hb hc => by simp only [g2 b k hb hc, Option.map_some, hi, cond_true]⟩
      | false => rw [hi] at h; cases h; exact ⟨g1, fun b k hb hc => by simp only [g2 b k hb hc, Option.map_some, hi, cond_false]⟩
  | loop a iha =>
    intro m
    show GoodC lo fun s => codeE E call n lo (.loop a) m s
    simp only [codeE]
    exact good_iterE iha n m
  | exit id =>
    intro m s e m' s' h
    cases h
    exact ⟨Eff.refl _ _, fun b k hb hc => rfl⟩
  | ret =>
    intro m s e m' s' h
    cases h
    exact ⟨Eff.refl _ _, fun b k hb hc => rfl⟩
  | _ => intro m s e m' s' h; cases h
theorem read_ressE (m : T AV) : ∀ l : List ResultVar, Read fun s => ressE E m s l
  | [] => fun s v hv b k hb => hv
  | r :: rs => fun s v hv b k hb => by
    simp only [ressE] at hv ⊢
    obtain ⟨u, hu, h2⟩ := Option.bind_eq_some_iff.1 hv
    obtain ⟨us, hus, h3⟩ := Option.map_eq_some_iff.1 h2
    have h1 : resE E m ⟨s.h.set b k, s.c⟩ r = some u := by
      cases r with
      | tmp t => exact hu
      | cell a t =>
        simp only [resE] at hu ⊢
        obtain ⟨a', ha, h4⟩ := Option.bind_eq_some_iff.1 hu
        simp only [ha, Option.bind_some]
        exact read_loadE E t a' s u h4 b k hb
    have h4 := read_ressE m rs s us hus b k hb
    simp only at h4
    rw [h1, Option.bind_some, h4, Option.map_some, h3]
theorem good_funE (E : Env) : ∀ n, CallOk (funE E n)
  | 0 => fun lc g as => by
    show Good lc fun s => funE E 0 lc g as s
    simp only [funE]
    exact .none'
  | n + 1 => fun lc g as => by
    show Good lc fun s => funE E (n + 1) lc g as s
    simp only [funE]
    refine .obind fun fn _ => .obind fun c _ => ?_
    intro s r s' h
    obtain ⟨⟨e, m1, s1⟩, h1, h2⟩ := Option.bind_eq_some_iff.1 h
    obtain ⟨g1, g2⟩ := good_codeE (E := E) (lo := lc) (good_funE E n) n c _ s e m1 s1 h1
    have key : ∀ (F : St → Option (AV × St)), Good lc F → F s1 = some (r, s') → Eff lc s s' ∧ ∀ b k, s.h.get b = none → (b < s.c ∨ s'.c ≤ b) → s1.c ≤ s'.c ∧ F ⟨s1.h.set b k, s1.c⟩ = some (r, ⟨s'.h.set b k, s'.c⟩) := fun F hF hr => by
      obtain ⟨f1, f2⟩ := hF s1 r s' hr
      refine ⟨g1.trans f1, fun b k hb hc => ?_⟩
      have := g1.mono
      have := f1.mono
      exact ⟨f1.mono, f2 b k (g1.born b hb (by omega)) (by omega)⟩
    have hres : Good lc fun s' => (ressE E m1.t s' fn.results.toList).map fun
        | [v] => (v, s')
        | vs => (.tuple vs, s') := by
      have := Good.rbind (lo := lc) (read_ressE (E := E) m1.t fn.results.toList) (G := fun vs s' => (some (match vs with | [v] => v | vs => AV.tuple vs)).map (·, s')) fun vs => .pure _
      intro s2 r2 s2' h2
      refine (this s2 r2 s2' ?_).imp id fun hh b k hb hc => ?_
      · rw [← h2]
        dsimp only
        cases ressE E m1.t s2 fn.results.toList with
        | none => rfl
        | some vs =>
          simp only [Option.bind_some, Option.map_some]
          split <;> rfl
      · have := hh b k hb hc
        rw [← this]
        dsimp only
        cases ressE E m1.t ⟨s2.h.set b k, s2.c⟩ fn.results.toList with
        | none => rfl
        | some vs =>
          simp only [Option.bind_some, Option.map_some]
          split <;> rfl
    cases e with
    | exit i => cases h2
    | nrm =>
      obtain ⟨k1, k2⟩ := key _ hres h2
      exact ⟨k1, fun b k hb hc => by
        obtain ⟨q1, q2⟩ := k2 b k hb hc
        simp only [g2 b k hb (by omega), Option.bind_some]
        exact q2⟩
    | ret =>
      obtain ⟨k1, k2⟩ := key _ hres h2
      exact ⟨k1, fun b k hb hc => by
        obtain ⟨q1, q2⟩ := k2 b k hb hc
        simp only [g2 b k hb (by omega), Option.bind_some]
        exact q2⟩
end
end Go.Proofs.YtaocoplfdhcoaaaGreatDoor.Ev
/- What an operation tells hangs on its operands alone. -/
set_option linter.unusedVariables false
set_option linter.unusedSimpArgs false
namespace Go.Proofs.YtaocoplfdhcoaaaGreatDoor.Ev
open Go Go.RowKit
section
variable {E : Env} {call : CallT'} {lo lc old : Nat} {m m' : T AV}
theorem rhos_congr : ∀ {l : List Operand}, (∀ x ∈ l, rho m' x = rho m x) → rhos m' l = rhos m l
  | [], _ => rfl
  | x :: xs, h => by rw [rhos, rhos, h x List.mem_cons_self, rhos_congr fun y hy => h y (List.mem_cons_of_mem _ hy)]
theorem fillE_congr {pl : Nat → Option (Nat × Nat)} : ∀ {l : List (Nat × Operand)} {cs : List AV}, (∀ x ∈ l, rho m' x.2 = rho m x.2) → fillE E m' pl cs l = fillE E m pl cs l
  | [], cs, _ => rfl
  | (i, x) :: rest, cs, h => by
    rw [fillE, fillE, h (i, x) List.mem_cons_self]
    congr 1
    funext p
    congr 1
    funext v
    rw [fillE_congr fun y hy => h y (List.mem_cons_of_mem _ hy)]
def Same (m m' : T AV) (o : Op) : Prop := ∀ x ∈ o.operands.toList, rho m' x = rho m x
theorem pureE_congr {o : Op} (H : Same m m' o) : pureE E m' o = pureE E m o := by
  cases o with
  | move x => exact H x (by simp [Op.operands])
  | assign x => exact H x (by simp [Op.operands])
  | pick c a b => simp only [pureE, H c (by simp [Op.operands]), H a (by simp [Op.operands]), H b (by simp [Op.operands])]
  | build t parts =>
    have h : ∀ x ∈ parts.toList, rho m' x.2 = rho m x.2 := fun x hx => H x.2 (by simp only [Op.operands, List.mem_map]; exact ⟨x, hx, rfl⟩)
    simp only [pureE, fillE_congr h]
  | nilCheck x => simp only [pureE, H x (by simp [Op.operands])]
  | binOp op t x y _ => simp only [pureE, H x (by simp [Op.operands]), H y (by simp [Op.operands])]
  | unOp op _ x => simp only [pureE, H x (by simp [Op.operands])]
  | convert s d x => simp only [pureE, H x (by simp [Op.operands])]
  | makeInterface t x => simp only [pureE, H x (by simp [Op.operands])]
  | makeFunc fn first captured =>
    have h : rhos m' captured.toList = rhos m captured.toList := rhos_congr fun x hx => H x (by simp [Op.operands]; exact .inr (by simpa using hx))
    simp only [pureE, h]
  | slice t x l h mx =>
    simp only [pureE, H x (by simp [Op.operands])]
    have hl : ∀ y, l = some y → rho m' y = rho m y := fun y e => H y (by simp [Op.operands, e])
    have hh : ∀ y, h = some y → rho m' y = rho m y := fun y e => H y (by simp [Op.operands, e])
    have hm : ∀ y, mx = some y → rho m' y = rho m y := fun y e => H y (by simp [Op.operands, e])
    cases l <;> cases h <;> cases mx <;> (try simp only [hl _ rfl]) <;> (try simp only [hh _ rfl]) <;> (try simp only [hm _ rfl]) <;> rfl
  | fieldAddr t x f => simp only [pureE, H x (by simp [Op.operands])]
  | field t x f => simp only [pureE, H x (by simp [Op.operands])]
  | indexAddr t x i => simp only [pureE, H x (by simp [Op.operands]), H i (by simp [Op.operands])]
  | index t x i => simp only [pureE, H x (by simp [Op.operands]), H i (by simp [Op.operands])]
  | extract x j => simp only [pureE, H x (by simp [Op.operands])]
  | call c =>
    have h : rhos m' c.args.toList = rhos m c.args.toList := rhos_congr fun x hx => H x (by simp [Op.operands, Call.operands]; cases c.callee <;> simp_all)
    simp only [pureE, h]
  | _ => rfl
theorem heapE_congr {s : St} {o : Op} (H : Same m m' o) : heapE E lo m' s o = heapE E lo m s o := by
  cases o with
  | load t x => simp only [heapE, H x (by simp [Op.operands])]
  | store t x y => simp only [heapE, H x (by simp [Op.operands]), H y (by simp [Op.operands])]
  | box t x => simp only [heapE, H x (by simp [Op.operands])]
  | buildSlice t n parts =>
    have h : ∀ x ∈ parts.toList, rho m' x.2 = rho m x.2 := fun x hx => H x.2 (by simp only [Op.operands, List.mem_map]; exact ⟨x, hx, rfl⟩)
    simp only [heapE, fillE_congr h]
  | makeSlice t x y => simp only [heapE, H x (by simp [Op.operands]), H y (by simp [Op.operands])]
  | convert s d x => simp only [heapE, H x (by simp [Op.operands])]
  | call c =>
    have h : rhos m' c.args.toList = rhos m c.args.toList := rhos_congr fun x hx => H x (by simp [Op.operands, Call.operands]; cases c.callee <;> simp_all)
    simp only [heapE, h]
  | _ => rfl
theorem opE_congr {s : St} {o : Op} (H : Same m m' o) : opE E call lc lo old m' s o = opE E call lc lo old m s o := by
  unfold opE
  cases o <;> simp only [pureE_congr H, heapE_congr H]
  case load t x => simp only [H x (by simp [Op.operands])]
  case call c =>
    have h : rhos m' c.args.toList = rhos m c.args.toList := rhos_congr fun x hx => H x (by simp [Op.operands, Call.operands]; cases c.callee <;> simp_all)
    cases hc : c.callee with
    | value f =>
      have hf : rho m' f = rho m f := H f (by simp [Op.operands, Call.operands, hc])
      simp only [calleeE, hc, hf, h]
    | _ => rfl
theorem wantE_congr {all : List Oper} {o : Oper} (H : ∀ g w d, o.guard = some (g, w) → (all[g]?).bind (·.dst) = some d → m'.get d = m.get d) : wantE all m' o = wantE all m o := by
  unfold wantE
  split
  · rfl
  · rename_i j w hg
    cases hd : (all[j]?).bind (·.dst) with
    | none => rfl
    | some d => simp only [Option.bind_some, H j w d hg hd]
theorem same_set {all : List Oper} {o : Oper} {d : Nat} {v : AV} (h : d ∉ looks all o) : Same m (m.set d v) o.op := fun x hx => by
  cases x with
  | tmp t =>
    simp only [rho]
    rw [T.get_set, if_neg]
    intro e
    subst e
    apply h
    unfold looks
    exact List.mem_append_left _ (List.mem_filterMap.2 ⟨.tmp d, hx, rfl⟩)
  | _ => rfl
theorem want_set {all : List Oper} {o : Oper} {d : Nat} {v : AV} (h : d ∉ looks all o) : wantE all (m.set d v) o = wantE all m o :=
  wantE_congr fun g w d' hg hd => by
    rw [T.get_set, if_neg]
    intro e
    subst e
    apply h
    unfold looks
    rw [hg]
    exact List.mem_append_right _ (by simp [hd])
end
end Go.Proofs.YtaocoplfdhcoaaaGreatDoor.Ev
/- Operations that nothing orders change places. -/
set_option linter.unusedVariables false
set_option linter.unusedSimpArgs false
namespace Go.Proofs.YtaocoplfdhcoaaaGreatDoor.Ev
open Go Go.RowKit
/-- An operation with what it is run with: the blocks from c on (up to c') are its own. -/
structure Slot where
  o : Oper
  j : Nat
  lc : Nat
  old : Nat
  c : Nat
  c' : Nat
def actE (E : Env) (call : CallT') (lo : Nat) (all : List Oper) (x : Slot) (m : T AV) (h : T Blk) : Option (AV × T Blk) :=
  (wantE all m x.o).bind fun w => bif w then
    (opE E call x.lc lo x.old m ⟨h, x.c⟩ x.o.op).bind fun r => bif Nat.beq r.2.c x.c' then some (r.1, r.2.h) else none
  else some (.tuple [], h)
def stepE (E : Env) (call : CallT') (lo : Nat) (all : List Oper) (x : Slot) (m : Tm) (h : T Blk) : Option (Tm × T Blk) :=
  (actE E call lo all x m.t h).bind fun r => (putT m x.o.dst r.1).map (·, r.2)
def slotsE (E : Env) (call : CallT') (lo : Nat) (all : List Oper) : List Slot → Tm → T Blk → Option (Tm × T Blk)
  | [], m, h => some (m, h)
  | x :: xs, m, h => (stepE E call lo all x m h).bind fun r => slotsE E call lo all xs r.1 r.2
section
variable {E : Env} {call : CallT'} {lo : Nat} {all : List Oper} {m : T AV}
/-- What surely holds of a slot in a region whose order is open. -/
structure SlotOk (lo c0 : Nat) (draw : Bool) (E : Env) (all : List Oper) (as : List Nat) (x : Slot) : Prop where
  at_ : all[x.j]? = some x.o
  lc : x.lc = bif draw && !tightB E as x.j 0 all then x.c else lo
  old : x.old = bif draw && looseB E (as.getD x.j 0) 0 (all.take x.j) then c0 else x.c
  le : c0 ≤ x.c ∧ x.c ≤ x.c'
/-! What each kind does. -/
theorem op_pure {lc old : Nat} {s s' : St} {o : Op} {v : AV} (hk : kindOf E o = 0) (h : opE E call lc lo old m s o = some (v, s')) : s' = s ∧ ∀ (lc old : Nat) (s : St), opE E call lc lo old m s o = some (v, s) := by
  unfold opE at h ⊢
  cases o with
  | load t x => cases hk
  | call c =>
    cases hc : c.callee with
    | value f => simp [kindOf, hc] at hk
    | builtin b =>
      simp only [hc, hk, show Nat.beq 0 0 = true from rfl, cond_true] at h ⊢
      obtain ⟨a, ha, h2⟩ := Option.map_eq_some_iff.1 h
      cases h2
      exact ⟨rfl, fun _ _ s => by rw [ha]; rfl⟩
    | invoke r n => simp [kindOf, hc] at hk
  | _ =>
    simp only [hk, show Nat.beq 0 0 = true from rfl, cond_true] at h ⊢
    obtain ⟨a, ha, h2⟩ := Option.map_eq_some_iff.1 h
    cases h2
    exact ⟨rfl, fun _ _ s => by rw [ha]; rfl⟩
theorem op_load {lc old : Nat} {s s' : St} {o : Op} {v : AV} (hk : kindOf E o = 1) (h : opE E call lc lo old m s o = some (v, s')) :
    s' = s ∧ ∃ b, b < old ∧ ∀ s1 : St, s1.h.get b = s.h.get b → opE E call lc lo old m s1 o = some (v, s1) := by
  have hl : ∃ t x, o = .load t x := by
    cases o <;> simp [kindOf] at hk <;> try (exact ⟨_, _, rfl⟩)
    · split at hk <;> try (cases hk; done)
      split at hk <;> cases hk
    · split at hk <;> cases hk
  obtain ⟨t, x, rfl⟩ := hl
  simp only [opE] at h ⊢
  obtain ⟨a, ha, h2⟩ := Option.bind_eq_some_iff.1 h
  split at h2
  · rename_i b q
    cases hb : Nat.blt b old with
    | false => rw [hb] at h2; cases h2
    | true =>
      rw [hb] at h2
      obtain ⟨u, hu, h3⟩ := Option.map_eq_some_iff.1 h2
      cases h3
      refine ⟨rfl, b, blt_iff.1 hb, fun s1 hs1 => ?_⟩
      simp only [ha, Option.bind_some, hb, cond_true]
      have : loadE E s1 t (.ptr (some (b, q))) = loadE E s t (.ptr (some (b, q))) := by
        simp only [loadE, cellsAt, hs1]
      rw [this, hu]
      rfl
  · cases h2
theorem op_make {lc old : Nat} {h : T Blk} {c : Nat} {s' : St} {o : Op} {v : AV} (hk : kindOf E o = 2) (hh : opE E call lc lo old m ⟨h, c⟩ o = some (v, s')) :
    ∃ k, s' = ⟨h.set c k, c + 1⟩ ∧ ∀ h1 : T Blk, opE E call lc lo old m ⟨h1, c⟩ o = some (v, ⟨h1.set c k, c + 1⟩) := by
  have key : ∀ (ty : Nat) (cells : List AV) (f : Nat → AV), (newAt ⟨h, c⟩ ty cells).map (f c, ·) = some (v, s') → ∃ k, s' = ⟨h.set c k, c + 1⟩ ∧ ∀ h1 : T Blk, (newAt ⟨h1, c⟩ ty cells).map (f c, ·) = some (v, ⟨h1.set c k, c + 1⟩) := fun ty cells f hn => by
    obtain ⟨s1, h1, h2⟩ := Option.map_eq_some_iff.1 hn
    cases h2
    obtain ⟨ho, rfl⟩ := newAt_ok h1
    exact ⟨⟨ty, cells⟩, rfl, fun h1 => by simp [newAt, ho]⟩
  unfold opE at hh ⊢
  cases o with
  | box t x =>
    simp only [hk, show Nat.beq 2 0 = false from rfl, cond_false, heapE] at hh ⊢
    obtain ⟨a, ha, h2⟩ := Option.bind_eq_some_iff.1 hh
    simp only [ha, Option.bind_some]
    exact key t a.cells (fun c => AV.ptr (some (c, 0))) h2
  | alloc t =>
    simp only [hk, show Nat.beq 2 0 = false from rfl, cond_false, heapE] at hh ⊢
    obtain ⟨a, ha, h2⟩ := Option.bind_eq_some_iff.1 hh
    simp only [ha, Option.bind_some]
    exact key t a.zero.cells (fun c => AV.ptr (some (c, 0))) h2
  | buildSlice t n parts =>
    simp only [hk, show Nat.beq 2 0 = false from rfl, cond_false, heapE] at hh ⊢
    obtain ⟨i, hi, h2⟩ := Option.bind_eq_some_iff.1 hh
    simp only [hi, Option.bind_some]
    split at h2
    · rename_i e q
      obtain ⟨j, hj, h3⟩ := Option.bind_eq_some_iff.1 h2
      simp only [hj, Option.bind_some]
      cases hc : Nat.ble (n * j.size) 16777216 with
      | false => rw [hc] at h3; cases h3
      | true =>
        rw [hc] at h3
        obtain ⟨cs, hcs, h4⟩ := Option.bind_eq_some_iff.1 h3
        simp only [cond_true, hcs, Option.bind_some]
        exact key e cs (fun c => AV.slice (some (c, 0)) n n 0) h4
    · cases h2
  | makeSlice t x y =>
    simp only [hk, show Nat.beq 2 0 = false from rfl, cond_false, heapE] at hh ⊢
    obtain ⟨i, hi, h2⟩ := Option.bind_eq_some_iff.1 hh
    obtain ⟨a, ha, h3⟩ := Option.bind_eq_some_iff.1 h2
    obtain ⟨b, hb, h4⟩ := Option.bind_eq_some_iff.1 h3
    obtain ⟨l, hl, h5⟩ := Option.bind_eq_some_iff.1 h4
    obtain ⟨d, hd, h6⟩ := Option.bind_eq_some_iff.1 h5
    simp only [hi, ha, hb, hl, hd, Option.bind_some]
    split at h6
    · rename_i e q
      obtain ⟨j, hj, h7⟩ := Option.bind_eq_some_iff.1 h6
      simp only [hj, Option.bind_some]
      cases hc : Nat.ble l d && Nat.ble (d * j.bytes) 70368744177664 && Nat.ble d 70368744177664 with
      | false => rw [hc] at h7; cases h7
      | true =>
        rw [hc] at h7
        simp only [cond_true]
        exact key e (reps d j.zero.cells) (fun c => AV.slice (some (c, 0)) l d 0) h7
    · cases h6
  | convert p q x =>
    simp only [kindOf] at hk
    split at hk
    · split at hk <;> cases hk
    · cases hk
  | call c =>
    simp only [kindOf] at hk
    split at hk <;> cases hk
  | _ => cases hk
theorem op_call {lc old : Nat} {o : Op} (hk : kindOf E o = 3) (hcall : CallOk call) : Good lc fun s => opE E call lc lo old m s o := by
  unfold opE
  cases o with
  | call c =>
    cases hc : c.callee with
    | value f =>
      simp only [hc]
      refine .obind fun p _ => ?_
      obtain ⟨g, as⟩ := p
      dsimp only
      split
      · exact .pure _
      · exact hcall lc g as
    | builtin b =>
      simp only [kindOf, hc] at hk
      split at hk <;> simp_all
    | invoke r n =>
      simp only [hc, hk, heapE, show Nat.beq 3 0 = false from rfl, cond_false]
      exact .none'
  | convert p q x =>
    simp only [kindOf] at hk
    split at hk
    · split at hk <;> cases hk
    · cases hk
  | _ => cases hk
theorem op_good {lc old : Nat} {o : Op} (hcall : CallOk call) {h : T Blk} {c : Nat} {s' : St} {v : AV} (hh : opE E call lc lo old m ⟨h, c⟩ o = some (v, s')) : Eff (min lo lc) ⟨h, c⟩ s' :=
  (good_opE hcall m o ⟨h, c⟩ v s' hh).1
/-! What the checks say. -/
theorem tightB_spec {as : List Nat} {j : Nat} : ∀ {l : List Oper} {i0 : Nat}, tightB E as j i0 l = true → ∀ k x, l[k]? = some x → i0 + k = j ∨ kindOf E x.op = 0 ∨ kindOf E x.op = 2 ∨ (bif Nat.blt (i0 + k) j then (as.getD j 0).testBit (i0 + k) else (as.getD (i0 + k) 0).testBit j) = true
  | [], _, _, k, x, hx => by simp at hx
  | y :: ys, i0, h, k, x, hx => by
    rw [tightB, Bool.and_eq_true] at h
    cases k with
    | zero =>
      simp at hx
      subst hx
      have := h.1
      simp only [Bool.or_eq_true, beq_iff] at this
      rw [Nat.add_zero]
      rcases this with ((h | h) | h) | h
      · exact .inl h
      · exact .inr (.inl h)
      · exact .inr (.inr (.inl h))
      · exact .inr (.inr (.inr h))
    | succ k =>
      have := tightB_spec h.2 k x (by simpa using hx)
      rw [show i0 + 1 + k = i0 + (k + 1) by omega] at this
      exact this
theorem looseB_spec {mm : Nat} : ∀ {l : List Oper} {i0 : Nat} {k : Nat} {x : Oper}, l[k]? = some x → mm.testBit (i0 + k) = false → (kindOf E x.op = 2 ∨ kindOf E x.op = 3) → looseB E mm i0 l = true
  | [], _, k, x, hx, _, _ => by simp at hx
  | y :: ys, i0, k, x, hx, hb, hk => by
    rw [looseB, Bool.or_eq_true]
    cases k with
    | zero =>
      simp at hx
      subst hx
      rw [Nat.add_zero] at hb
      left
      rw [hb]
      rcases hk with h | h <;> simp [h] <;> rfl
    | succ k =>
      right
      exact looseB_spec (k := k) (by simpa using hx) (by rw [show i0 + 1 + k = i0 + (k + 1) by omega]; exact hb) hk
theorem rowB_spec {mm : Nat} {y : Oper} : ∀ {l : List Oper} {i0 : Nat}, rowB E all mm y i0 l = true → ∀ {k : Nat} {x : Oper}, l[k]? = some x → mm.testBit (i0 + k) = false → pairB E all x y = true
  | [], _, _, k, x, hx, _ => by simp at hx
  | z :: zs, i0, h, k, x, hx, hb => by
    rw [rowB, Bool.and_eq_true] at h
    cases k with
    | zero =>
      simp at hx
      subst hx
      rw [Nat.add_zero] at hb
      have := h.1
      rw [hb, Bool.false_or] at this
      exact this
    | succ k => exact rowB_spec h.2 (k := k) (by simpa using hx) (by rw [show i0 + 1 + k = i0 + (k + 1) by omega]; exact hb)
theorem drawB_spec {as : List Nat} : ∀ {l : List Oper} {j0 : Nat}, drawB E all as j0 l = true → ∀ {k : Nat} {y : Oper}, l[k]? = some y → ∀ {i : Nat} {x : Oper}, i < j0 + k → all[i]? = some x → (as.getD (j0 + k) 0).testBit i = false → pairB E all x y = true
  | [], _, _, k, y, hy, _, _, _, _, _ => by simp at hy
  | z :: zs, j0, h, k, y, hy, i, x, hi, hx, hb => by
    rw [drawB, Bool.and_eq_true] at h
    cases k with
    | zero =>
      simp at hy
      subst hy
      rw [Nat.add_zero] at hi hb
      exact rowB_spec h.1 (k := i) (by rw [List.getElem?_take, if_pos hi]; exact hx) (by rw [Nat.zero_add]; exact hb)
    | succ k =>
      rw [show j0 + (k + 1) = j0 + 1 + k by omega] at hi hb
      exact drawB_spec h.2 (k := k) (by simpa using hy) hi hx hb
theorem apart_ok {x y : Oper} (h : apartB all x y = true) : (∀ d, x.dst = some d → d ∉ looks all y) ∧ (∀ d, x.dst = some d → y.dst ≠ some d) ∧ (∀ d, y.dst = some d → d ∉ looks all x) := by
  refine ⟨fun d hd => ?_, fun d hd => ?_, fun d hd => ?_⟩ <;> simp [apartB, hd] at h
  · exact h.1.1
  · exact h.1.2
  · exact h.2
theorem free_ok {a b : Nat} (h : freeB a b = true) : a = 0 ∨ b = 0 ∨ (a = 1 ∧ b ≤ 3) ∨ (a ≤ 3 ∧ b = 1) ∨ ((a = 2 ∨ a = 3) ∧ b = 2) := by
  simp only [freeB, Bool.or_eq_true, Bool.and_eq_true, beq_iff, ble_iff] at h
  omega
/-! Two change places. -/
theorem act_born (hcall : CallOk call) {x : Slot} {h h1 : T Blk} {v : AV} (hx : actE E call lo all x m h = some (v, h1)) (b : Nat) (hb : h.get b = none) (hc : b < x.c ∨ x.c' ≤ b) : h1.get b = none := by
  obtain ⟨w, hw, h2⟩ := Option.bind_eq_some_iff.1 hx
  cases w with
  | false => cases h2; exact hb
  | true =>
    obtain ⟨⟨u, s'⟩, hu, h3⟩ := Option.bind_eq_some_iff.1 h2
    cases hcc : Nat.beq s'.c x.c' with
    | false => simp only [hcc] at h3; cases h3
    | true =>
      simp only [hcc] at h3
      cases h3
      have := (op_good hcall hu).born b hb
      rw [beq_iff.1 hcc] at this
      exact this hc
theorem act_swap (hcall : CallOk call) {c0 : Nat} {as : List Nat} {x y : Slot} (hx : SlotOk lo c0 true E all as x) (hy : SlotOk lo c0 true E all as y) (hj : x.j < y.j) (hb : (as.getD y.j 0).testBit x.j = false) (hcc : x.c' ≤ y.c) (hf : freeB (kindOf E x.o.op) (kindOf E y.o.op) = true)
    {h h1 h2 : T Blk} {vx vy : AV} (hfr : ∀ b, y.c ≤ b → b < y.c' → h.get b = none) (ax : actE E call lo all x m h = some (vx, h1)) (ay : actE E call lo all y m h1 = some (vy, h2)) :
    ∃ h1', actE E call lo all y m h = some (vy, h1') ∧ actE E call lo all x m h1' = some (vx, h2) := by
  obtain ⟨wx, hwx, a2⟩ := Option.bind_eq_some_iff.1 ax
  obtain ⟨wy, hwy, b2⟩ := Option.bind_eq_some_iff.1 ay
  simp only [actE, hwx, hwy, Option.bind_some]
  cases wx with
  | false =>
    cases a2
    exact ⟨h2, b2, rfl⟩
  | true =>
    cases wy with
    | false =>
      cases b2
      exact ⟨h, rfl, a2⟩
    | true =>
      simp only [cond_true] at a2 b2 ⊢
      obtain ⟨⟨u, s1⟩, hu, a3⟩ := Option.bind_eq_some_iff.1 a2
      obtain ⟨⟨u', s2⟩, hu', b3⟩ := Option.bind_eq_some_iff.1 b2
      cases hc1 : Nat.beq s1.c x.c' with
      | false => simp only [hc1] at a3; cases a3
      | true =>
        cases hc2 : Nat.beq s2.c y.c' with
        | false => simp only [hc2] at b3; cases b3
        | true =>
          simp only [hc1, hc2, cond_true] at a3 b3
          cases a3
          cases b3
          have hc1' := beq_iff.1 hc1
          have hc2' := beq_iff.1 hc2
          have fin : ∀ (h1' : T Blk), opE E call y.lc lo y.old m ⟨h, y.c⟩ y.o.op = some (vy, ⟨h1', s2.c⟩) → opE E call x.lc lo x.old m ⟨h1', x.c⟩ x.o.op = some (vx, ⟨s2.h, s1.c⟩) →
              ∃ h1', ((opE E call y.lc lo y.old m ⟨h, y.c⟩ y.o.op).bind fun r => bif Nat.beq r.2.c y.c' then some (r.1, r.2.h) else none) = some (vy, h1') ∧ ((opE E call x.lc lo x.old m ⟨h1', x.c⟩ x.o.op).bind fun r => bif Nat.beq r.2.c x.c' then some (r.1, r.2.h) else none) = some (vx, s2.h) := fun h1' e1 e2 => by
            refine ⟨h1', ?_, ?_⟩
            · rw [e1]; simp only [Option.bind_some, hc2, cond_true]
            · rw [e2]; simp only [Option.bind_some, hc1, cond_true]
          have tgt : ∀ z : Slot, z.j ≠ x.j → SlotOk lo c0 true E all as z → True := fun _ _ _ => trivial
          rcases free_ok hf with k | k | ⟨k1, k2⟩ | ⟨k1, k2⟩ | ⟨k1, k2⟩
          · obtain ⟨e1, e2⟩ := op_pure k hu
            subst e1
            exact fin s2.h hu' (e2 _ _ _)
          · obtain ⟨e1, e2⟩ := op_pure k hu'
            subst e1
            exact fin h (e2 _ _ _) hu
          · obtain ⟨e1, b, hbo, e2⟩ := op_load k1 hu
            subst e1
            have hbc : b < x.c := by
              have := hx.old
              cases hq : true && looseB E (as.getD x.j 0) 0 (all.take x.j) with
              | true => rw [hq] at this; simp only [cond_true] at this; have := hx.le.1; omega
              | false => rw [hq] at this; simp only [cond_false] at this; omega
            have hxc := hx.le.2
            refine fin s2.h hu' (e2 ⟨s2.h, x.c⟩ ?_)
            have hlt : b < y.c := by omega
            have hk : kindOf E y.o.op = 0 ∨ kindOf E y.o.op = 1 ∨ kindOf E y.o.op = 2 ∨ kindOf E y.o.op = 3 := by omega
            rcases hk with k | k | k | k
            · obtain ⟨q, _⟩ := op_pure k hu'; rw [q]
            · obtain ⟨q, _⟩ := op_load k hu'; rw [q]
            · obtain ⟨kk, q, _⟩ := op_make k hu'
              rw [q]
              simp only
              rw [T.get_set, if_neg (by omega)]
            · have hlc : y.lc = y.c := by
                have := hy.lc
                cases ht : tightB E as y.j 0 all with
                | false => rw [ht] at this; exact this
                | true =>
                  have := tightB_spec ht x.j x.o hx.at_
                  rw [Nat.zero_add, blt_iff.2 hj] at this
                  simp only [cond_true, hb, Bool.false_eq_true, or_false] at this
                  omega
              have := (op_call k hcall ⟨h, y.c⟩ vy s2 hu').1.keep b (by rw [hlc]; exact hlt) hlt
              exact this
          · obtain ⟨e1, b, hbo, e2⟩ := op_load k2 hu'
            subst e1
            have hk : kindOf E x.o.op = 0 ∨ kindOf E x.o.op = 1 ∨ kindOf E x.o.op = 2 ∨ kindOf E x.o.op = 3 := by omega
            have hold : (kindOf E x.o.op = 2 ∨ kindOf E x.o.op = 3) → b < x.c := fun hk23 => by
              have h1 := hy.old
              have h2 : looseB E (as.getD y.j 0) 0 (all.take y.j) = true := looseB_spec (k := x.j) (by rw [List.getElem?_take, if_pos hj]; exact hx.at_) (by rw [Nat.zero_add]; exact hb) hk23
              rw [h2] at h1
              simp only [Bool.and_true, cond_true] at h1
              have := hx.le.1
              omega
            have hget : s1.h.get b = h.get b := by
              rcases hk with k | k | k | k
              · obtain ⟨q, _⟩ := op_pure k hu; rw [q]
              · obtain ⟨q, _⟩ := op_load k hu; rw [q]
              · obtain ⟨kk, q, _⟩ := op_make k hu
                have := hold (.inl k)
                rw [q]
                simp only
                rw [T.get_set, if_neg (by omega)]
              · have hlt := hold (.inr k)
                have hlc : x.lc = x.c := by
                  have := hx.lc
                  cases ht : tightB E as x.j 0 all with
                  | false => rw [ht] at this; exact this
                  | true =>
                    have := tightB_spec ht y.j y.o hy.at_
                    have hnb : Nat.blt y.j x.j = false := by
                      cases hq : Nat.blt y.j x.j with
                      | false => rfl
                      | true => have := blt_iff.1 hq; omega
                    rw [Nat.zero_add, hnb] at this
                    simp only [cond_false, hb, Bool.false_eq_true, or_false] at this
                    omega
                exact (op_call k hcall ⟨h, x.c⟩ vx s1 hu).1.keep b (by rw [hlc]; exact hlt) hlt
            exact fin h (e2 ⟨h, y.c⟩ hget.symm) hu
          · obtain ⟨kk, q, e2⟩ := op_make k2 hu'
            have hyc : s2.c = y.c + 1 := by rw [q]
            have hh2 : s2.h = s1.h.set y.c kk := by rw [q]
            refine fin (h.set y.c kk) (by rw [hyc]; exact e2 h) ?_
            rw [hh2]
            rcases k1 with k | k
            · obtain ⟨kk', q', e3⟩ := op_make k hu
              have := e3 (h.set y.c kk)
              rw [this]
              rw [q']
              simp only
              have hxc : x.c' = x.c + 1 := by rw [← hc1', q']
              rw [T.set_set _ (show x.c ≠ y.c by omega)]
            · refine (op_call k hcall ⟨h, x.c⟩ vx s1 hu).2 y.c kk (hfr y.c (Nat.le_refl _) ?_) (.inr ?_)
              · rw [← hc2', hyc]; exact Nat.lt_succ_self _
              · show s1.c ≤ y.c
                rw [hc1']; exact hcc
theorem step_swap (hcall : CallOk call) {c0 : Nat} {as : List Nat} {x y : Slot} (hx : SlotOk lo c0 true E all as x) (hy : SlotOk lo c0 true E all as y) (hj : x.j < y.j) (hb : (as.getD y.j 0).testBit x.j = false) (hcc : x.c' ≤ y.c) (hp : pairB E all x.o y.o = true)
    {m m1 m2 : Tm} {h h1 h2 : T Blk} (hfr : ∀ b, y.c ≤ b → b < y.c' → h.get b = none) (ax : stepE E call lo all x m h = some (m1, h1)) (ay : stepE E call lo all y m1 h1 = some (m2, h2)) :
    ∃ m1' h1', stepE E call lo all y m h = some (m1', h1') ∧ stepE E call lo all x m1' h1' = some (m2, h2) := by
  rw [pairB, Bool.and_eq_true] at hp
  obtain ⟨p1, p2, p3⟩ := apart_ok hp.1
  obtain ⟨⟨vx, hx1⟩, a1, a2⟩ := Option.bind_eq_some_iff.1 ax
  obtain ⟨mx, a3, a4⟩ := Option.map_eq_some_iff.1 a2
  simp only [Prod.mk.injEq] at a4
  obtain ⟨rfl, rfl⟩ := a4
  obtain ⟨⟨vy, hy1⟩, b1, b2⟩ := Option.bind_eq_some_iff.1 ay
  obtain ⟨my, b3, b4⟩ := Option.map_eq_some_iff.1 b2
  simp only [Prod.mk.injEq] at b4
  obtain ⟨rfl, rfl⟩ := b4
  have act_set : ∀ (z : Slot) (mm : Tm) (hh : T Blk) (d : Option Nat) (v : AV) (mm' : Tm), (∀ d', d = some d' → d' ∉ looks all z.o) → putT mm d v = some mm' → actE E call lo all z mm'.t hh = actE E call lo all z mm.t hh := fun z mm hh d v mm' hd hput => by
    cases d with
    | none => cases hput; rfl
    | some d =>
      simp only [putT] at hput
      cases hlt : Nat.blt d mm.n with
      | false => rw [hlt] at hput; cases hput
      | true =>
        rw [hlt] at hput
        cases hput
        simp only [actE, want_set (hd d rfl)]
        congr 1
        funext w
        congr 1
        congr 1
        exact opE_congr (same_set (hd d rfl))
  have b1' : actE E call lo all y m.t hx1 = some (vy, hy1) := by rw [← act_set y m hx1 x.o.dst vx mx p1 a3]; exact b1
  obtain ⟨h1', c1, c2⟩ := act_swap hcall hx hy hj hb hcc hp.2 hfr a1 b1'
  obtain ⟨m1', d1, d2⟩ : ∃ m1', putT m y.o.dst vy = some m1' ∧ putT m1' x.o.dst vx = some my := by
    cases hxd : x.o.dst with
    | none => rw [hxd] at a3; cases a3; exact ⟨my, b3, rfl⟩
    | some dx =>
      rw [hxd] at a3
      simp only [putT] at a3
      cases hlt : Nat.blt dx m.n with
      | false => rw [hlt] at a3; cases a3
      | true =>
        rw [hlt] at a3
        cases a3
        cases hyd : y.o.dst with
        | none =>
          rw [hyd] at b3
          cases b3
          exact ⟨m, rfl, by simp only [putT, hlt, cond_true]⟩
        | some dy =>
          rw [hyd] at b3
          simp only [putT] at b3
          cases hlt2 : Nat.blt dy m.n with
          | false => rw [hlt2] at b3; cases b3
          | true =>
            rw [hlt2] at b3
            cases b3
            have hne : dx ≠ dy := fun e => p2 dx hxd (by rw [e]; exact hyd)
            refine ⟨⟨m.n, m.t.set dy vy⟩, by simp only [putT, hlt2, cond_true], ?_⟩
            simp only [putT, hlt, cond_true]
            rw [T.set_set _ hne]
  refine ⟨m1', h1', ?_, ?_⟩
  · unfold stepE
    rw [c1]
    simp only [Option.bind_some, d1, Option.map_some]
  · unfold stepE
    rw [act_set x m h1' y.o.dst vy m1' p3 d1, c2]
    simp only [Option.bind_some, d2, Option.map_some]
end
end Go.Proofs.YtaocoplfdhcoaaaGreatDoor.Ev
/- One operation, held against the model's: calls, too. -/
set_option linter.unusedVariables false
set_option linter.unusedSimpArgs false
namespace Go.Proofs.YtaocoplfdhcoaaaGreatDoor.Ev
open Go Go.RowKit
structure Rel (lo0 N0 : Nat) (W0 : World) (S : Nat → Prop) (μ : Nat → Loc) (m : Tm) (h : T Blk) (a : Act) (w : World) : Prop where
  tr : TR S μ m.t a
  sz : m.n ≤ a.tmps.size
  sim : Sim lo0 N0 S μ h w
  base : Below N0 W0 w
/-- A function that is entered. -/
def Plain (P : Program) (g : Nat) : Prop := ∃ fn c, P.funcs[g]? = some fn ∧ fn.body = some c ∧ (fn.name == "runtime.NumGoroutine") = false
def CallSound (P : Program) (N0 : Nat) (W0 : World) (call : CallT') : Prop := ∀ (lc g : Nat) (as : List AV) (s : St) (v : AV) (s' : St), call lc g as s = some (v, s') → Plain P g ∧ ∀ (lo0 : Nat) (S : Nat → Prop) (μ : Nat → Loc) (w : World), Below N0 W0 w → lo0 ≤ lc → lo0 ≤ s.c → Sim lo0 N0 S μ s.h w → wfs S μ as →
  (∀ b, S b → b < s.c ∨ s'.c ≤ b) → Calls P g (concs μ as).toArray w fun e w' => ∃ u, e = .returned u ∧ HPost lo0 N0 S μ s s' w v u w'
def ExtSound (P : Program) (N0 : Nat) (W0 : World) (E : Env) : Prop := ∀ (g : Nat) (f : List AV → Option AV), E.ext.get g = some f → Plain P g ∧ ∀ (as : List AV) (v : AV), f as = some v → ∀ (S : Nat → Prop) (μ : Nat → Loc) (w : World), Below N0 W0 w → N0 ≤ w.heap.size → wfs S μ as →
  wf S μ v ∧ Calls P g (concs μ as).toArray w fun e w' => e = .returned (conc μ v) ∧ Below w.heap.size w w'
section
variable {P : Program} {E : Env} {call : CallT'} {S S' : Nat → Prop} {μ μ' : Nat → Loc} {m : T AV} {a : Act} {w w' W0 : World} {lo0 N0 lo : Nat}
theorem Sim.below {h : T Blk} (hs : Sim lo0 N0 S μ h w) (hb : Below w.heap.size w w') : Sim lo0 N0 S μ h w' :=
  ⟨Nat.le_trans hs.size hb.size, fun b k hk => by
    obtain ⟨q1, q2, q3, arr, fr, q4, q5, q6, q7⟩ := hs.blk b k hk
    exact ⟨q1, q2, q3, arr, fr, by rw [hb.block _ (Array.getElem?_eq_some_iff.1 q4).1]; exact q4, q5, q6, q7⟩, hs.inj⟩
/-- What an operation leaves behind, whatever it is. -/
def After (lo0 N0 : Nat) (S : Nat → Prop) (μ : Nat → Loc) (s s' : St) (w : World) (v : AV) (k : Value → World → Prop) : Prop := ∀ u w', HPost lo0 N0 S μ s s' w v u w' → k u w'
theorem run_callFunc {g : Nat} (hg : Plain P g) (as : Array Value) (w : World) : (callFunc g as).run P w = .ok (.enter g as) w := by
  obtain ⟨fn, c, h1, h2, h3⟩ := hg
  have h4 : ¬ (fn.name = "runtime.NumGoroutine") := by simpa using h3
  simp [callFunc, h1, h2, h4]
theorem op_ok (hT : TTOk P E.tt) (hX : ExtSound P N0 W0 E) (hC : CallSound P N0 W0 call) (hB : Below N0 W0 w) {lc old : Nat} {s s' : St} (hR : TR S μ m a) (hs : Sim lo0 N0 S μ s.h w) (hlo : lo0 ≤ lo) (hlc : lo0 ≤ lc) (hc : lo0 ≤ s.c) (hf : ∀ b, S b → b < s.c ∨ s'.c ≤ b) {o : Oper} {v : AV}
    (h : opE E call lc lo old m s o.op = some (v, s')) {K : Act → World → Prop} {Q : Exit → Act → World → Prop} (hK : ∀ u w', HPost lo0 N0 S μ s s' w v u w' → K (a.put o.dst u) w') : o.wp P a w K Q := by
  have pure_case : (pureE E m o.op).map (·, s) = some (v, s') → o.wp P a w K Q := fun hp => by
    obtain ⟨u, hu, he⟩ := Option.map_eq_some_iff.1 hp
    cases he
    obtain ⟨p1, p2⟩ := pure_ok (w := w) hT hR hu
    unfold Oper.wp
    rw [p2]
    exact hK _ _ (HPost.same rfl hs p1 (Below.refl _ _))
  have heap_case : heapE E lo m s o.op = some (v, s') → o.wp P a w K Q := fun hp =>
    (heap_ok hT hR hs hlo hc hf hp).2.wp fun u w' hu => hK u w' hu
  have gen : (bif Nat.beq (kindOf E o.op) 0 then (pureE E m o.op).map (·, s) else heapE E lo m s o.op) = some (v, s') → o.wp P a w K Q := fun hp => by
    cases hk : Nat.beq (kindOf E o.op) 0 with
    | true => rw [hk] at hp; exact pure_case hp
    | false => rw [hk] at hp; exact heap_case hp
  cases ho : o.op with
  | load t x =>
    rw [ho] at h heap_case
    simp only [opE] at h
    obtain ⟨u, hu, h2⟩ := Option.bind_eq_some_iff.1 h
    apply heap_case
    simp only [heapE, hu, Option.bind_some]
    split at h2
    · rename_i b q
      cases hb : Nat.blt b old with
      | false => rw [hb] at h2; cases h2
      | true => rw [hb] at h2; exact h2
    · cases h2
  | call c =>
    rw [ho] at h gen
    cases hcal : c.callee with
    | builtin b =>
      apply gen
      simp only [opE, hcal] at h
      exact h
    | invoke r n =>
      apply gen
      simp only [opE, hcal] at h
      exact h
    | value f =>
      simp only [opE, hcal, calleeE] at h
      obtain ⟨⟨g, as⟩, hga, h2⟩ := Option.bind_eq_some_iff.1 h
      obtain ⟨fv, hfv, h3⟩ := Option.bind_eq_some_iff.1 hga
      split at h3
      · rename_i g' cs
        obtain ⟨vs, hvs, he⟩ := Option.map_eq_some_iff.1 h3
        cases he
        obtain ⟨wf1, e1⟩ := rho_ok hR hfv
        obtain ⟨wf2, e2⟩ := args_ok hR hvs
        have wf1' : wfs S μ cs := wf1
        have hwas : wfs S μ (vs ++ cs) := wfs_append wf2 wf1'
        have hexec : Plain P g → (execOp a.eval o).run P w = .ok (.enter g (concs μ (vs ++ cs)).toArray) w := fun hpl => by
          unfold execOp
          rw [ho]
          simp only [resolve, hcal, Sem.run_bind, e1, e2, conc, Deferred.ofValue, Sem.run_pure, Result.andThen, invoke]
          rw [show ((#[] : Array Value) ++ (concs μ vs).toArray ++ (concs μ cs).toArray) = (concs μ (vs ++ cs)).toArray by simp [concs_append]]
          exact run_callFunc hpl _ _
        dsimp only at h2
        split at h2
        · rename_i fx hfx
          obtain ⟨u, hu, he⟩ := Option.map_eq_some_iff.1 h2
          simp only [Prod.mk.injEq] at he
          obtain ⟨rfl, rfl⟩ := he
          obtain ⟨x1, x2⟩ := hX g fx hfx
          obtain ⟨x3, x4⟩ := x2 (vs ++ cs) u hu S μ w hB hs.size hwas
          unfold Oper.wp
          rw [hexec x1, Oper.upon_enter]
          refine x4.mono fun e w' he => ?_
          obtain ⟨rfl, hb⟩ := he
          exact hK _ _ (HPost.same rfl (hs.below hb) x3 (hb.mono hs.size))
        · obtain ⟨x1, x2⟩ := hC lc g (vs ++ cs) s v s' h2
          unfold Oper.wp
          rw [hexec x1, Oper.upon_enter]
          refine (x2 lo0 S μ w hB hlc hc hs hwas hf).mono fun e w' he => ?_
          obtain ⟨u, rfl, hu⟩ := he
          exact hK _ _ hu
      · cases h3
  | _ =>
    apply gen
    rw [ho] at h ⊢
    exact h
end
end Go.Proofs.YtaocoplfdhcoaaaGreatDoor.Ev

/- All operations over the heap: the one theorem. -/
import Derived.Test.YtaocoplfdhcoaaaGreatDoorSp04
import Derived.Laws.BytesArg
import Derived.Laws.IdiomStrings
set_option linter.unusedVariables false
set_option linter.unusedSimpArgs false
namespace Go.Proofs.YtaocoplfdhcoaaaGreatDoor.Ev
open Go Go.RowKit
section
variable {P : Program} {E : Env} {S S' : Nat → Prop} {μ μ' : Nat → Loc} {m : T AV} {a : Act} {w w' : World} {lo0 N0 lo : Nat}
theorem call_args {c : Call} {vs : List AV} (hR : TR S μ m a) (h : rhos m c.args.toList = some vs) (b : Builtin) (hc : c.callee = .builtin b) (ty : Nat) :
    ∃ consts, ((do let d ← resolve a.eval c ty; invoke d.target d.args) : Sem Next).run P w = (builtin b c.argTypes ty consts (concs μ vs).toArray).run P w := by
  obtain ⟨h1, e1⟩ := args_ok hR h
  refine ⟨c.args.map (fun | .const _ => true | _ => false), ?_⟩
  simp only [resolve, hc, Sem.run_bind, Sem.run_pure, Result.andThen, invoke, e1]
  rfl
theorem row_zero' {t : Nat} {i : TI} (hi : TOk P t i) (n : Nat) (μ : Nat → Loc) :
    (n * i.size = 0 ∧ ((Array.range (n * i.size)).map fun x => (#[] : Array Value)[x % (#[] : Array Value).size]!) = (concs μ (reps n i.zero.cells)).toArray) ∨
    (n * i.size ≠ 0 ∧ ((Array.range (n * i.size)).map fun x => (conc μ i.zero).cells[x % (conc μ i.zero).cells.size]!) = (concs μ (reps n i.zero.cells)).toArray) := by
  obtain ⟨_, h2, h3⟩ := zero_cells (S := fun _ => True) (μ := μ) hi
  by_cases h0 : n * i.size = 0
  · refine .inl ⟨h0, ?_⟩
    have : reps n i.zero.cells = [] := List.eq_nil_of_length_eq_zero (by rw [reps_length, h3, h0])
    simp [this, h0, concs]
  · refine .inr ⟨h0, ?_⟩
    rw [h2, ← h3, reps_conc, ← range_reps]
    simp [concs_length]
theorem argTypes2 {c : Call} {t t1 : Nat} {n : Nat} (h0 : c.argTypes[0]? = some t) (h1 : c.argTypes[1]? = some t1) : ∃ l, c.argTypes.toList = t :: t1 :: l := by
  cases h : c.argTypes with
  | mk l =>
    rw [h] at h0 h1
    match l, h0, h1 with
    | [], h0, _ => simp at h0
    | [_], _, h1 => simp at h1
    | x :: y :: l, h0, h1 => simp at h0 h1; subst h0 h1; exact ⟨l, rfl⟩
theorem bytesE_conc : ∀ {cs : List AV} {l : List UInt8}, bytesE cs = some l → ∃ ns : List Int, concs μ cs = ns.map (Value.int .u8) ∧ ns.map (fun n => UInt8.ofNat n.toNat) = l
  | [], l, h => by cases h; exact ⟨[], rfl, rfl⟩
  | v :: vs, l, h => by
    unfold bytesE at h
    split at h
    · cases ‹v :: vs = []›
    · rename_i n ws q
      cases q
      obtain ⟨l', hl, rfl⟩ := Option.map_eq_some_iff.1 h
      obtain ⟨ns, h1, h2⟩ := bytesE_conc hl
      exact ⟨(n : Int) :: ns, by rw [concs, h1]; rfl, by simp [h2]⟩
    · cases h
theorem foldl_push_nums : ∀ (ns : List Int) (r : ByteArray), ns.foldl (fun r n => r.push (UInt8.ofNat n.toNat)) r = ⟨r.data ++ (ns.map fun n => UInt8.ofNat n.toNat).toArray⟩
  | [], r => by simp
  | n :: ns, r => by
    simp only [List.foldl_cons, List.map_cons]
    rw [foldl_push_nums ns]
    simp [ByteArray.push]
theorem bytes_ok {h : T Blk} (hs : Sim lo0 N0 S μ h w) {sa : Option (Nat × Nat)} {sn sc sw : Nat} (hw : wf S μ (.slice sa sn sc sw)) {cs : List AV} (hcs : takeE h 1 sn (.slice sa sn sc sw) = some cs) {l : List UInt8} (hl : bytesE cs = some l) :
    (Conv.bytesToString (conc μ (.slice sa sn sc sw))).run P w = .ok (conc μ (.str l)) w := by
  obtain ⟨ns, h1, h2⟩ := bytesE_conc (μ := μ) hl
  have key : ∀ (ad : Addr) (c' : Nat), (∀ j v, (concs μ cs)[j]? = some v → w.cell? (ad.add j) = some v) → cs.length = sn → (Conv.bytesToString (.slice (some ad) sn c')).run P w = .ok (conc μ (.str l)) w := fun ad c' hc hlen => by
    have hload := run_loadCells_list (P := P) (w := w) ad (concs μ cs) hc
    rw [concs_length, hlen, h1] at hload
    have he0 : ByteArray.empty.data = #[] := rfl
    rw [run_bytesToString w ad sn c' ns hload, foldl_push_nums, h2, he0]
    simp [conc]
  cases sa with
  | none =>
    unfold takeE at hcs
    simp only at hcs
    cases hn : Nat.beq sn 0 with
    | false => rw [hn] at hcs; cases hcs
    | true =>
      rw [hn] at hcs
      cases hcs
      cases hl
      cases sw <;> simp [Conv.bytesToString, conc] <;> rfl
  | some p =>
    obtain ⟨b, o⟩ := p
    unfold takeE at hcs
    simp only at hcs
    have hk : (∀ j v, (concs μ cs)[j]? = some v → w.cell? ((⟨(μ b).blk, (μ b).base + o, none⟩ : Addr).add j) = some v) ∧ cs.length = sn := by
      cases hn : Nat.beq sn 0 with
      | true =>
        rw [hn] at hcs
        cases hcs
        exact ⟨fun j v h => by simp [concs] at h, (beq_iff.1 hn).symm⟩
      | false =>
        rw [hn] at hcs
        obtain ⟨_, g2, g3⟩ := cellsAt_ok hs hcs
        exact ⟨g3, by simpa using g2⟩
    cases sw <;> exact key _ _ hk.1 hk.2
theorem run_len {y : AV} {n : Nat} (h : lenOfE y = some n) (w : World) : (Builtin.lenOf (conc μ y)).run P w = .ok n w := lenOf_ok h
theorem lenSE_ok {x : AV} {n : Nat} (h : lenSE x = some n) : ∃ a c, conc μ x = .slice a n c := by
  unfold lenSE at h
  split at h
  · rename_i a l c q
    cases h
    cases a <;> cases q <;> exact ⟨_, _, rfl⟩
  · cases h; exact ⟨_, _, rfl⟩
  · cases h
theorem first0 {y : AV} {k : Nat} (h : lenOfE y = some k) (z : Nat) : (Builtin.firstCells z 0 (conc μ y)).run P w = .ok #[] w := by
  have key : (∃ s, conc μ y = .string s) ∨ ∃ a l c, conc μ y = .slice a l c := by
    unfold lenOfE at h
    split at h
    · exact .inl ⟨_, rfl⟩
    · rename_i a l c q
      cases a <;> cases q <;> exact .inr ⟨_, _, _, rfl⟩
    · exact .inr ⟨_, _, _, rfl⟩
    · cases h
  rcases key with ⟨s, e⟩ | ⟨a, l, c, e⟩
  · rw [e]
    simp [Builtin.firstCells]
  · rw [e]
    cases a with
    | none => simp [Builtin.firstCells]
    | some ad =>
      have := run_firstCells_some (P := P) w z 0 ad l c [] (by simp) (fun j v h => by simp at h)
      simpa using this
theorem appE_le {s s' : St} {e esz bytes n : Nat} {new : List AV} {x v : AV} (h : appE lo s e esz bytes n new x = some (v, s')) : n ≤ 70368744177664 := by
  unfold appE at h
  split at h
  · cases h0 : Nat.beq n 0 with
    | true => rw [beq_iff.1 h0]; omega
    | false =>
      rw [h0] at h
      cases hb : Nat.ble (n * bytes) 70368744177664 && Nat.ble n 70368744177664 with
      | false => rw [hb] at h; cases h
      | true => simp only [Bool.and_eq_true, ble_iff] at hb; exact hb.2
  · cases h0 : Nat.beq n 0 with
    | true => rw [beq_iff.1 h0]; omega
    | false =>
      rw [h0] at h
      cases hb : Nat.ble (n * bytes) 70368744177664 && Nat.ble n 70368744177664 with
      | false => rw [hb] at h; cases h
      | true => simp only [Bool.and_eq_true, ble_iff] at hb; exact hb.2
  · rename_i b o len c op
    cases h0 : Nat.beq n 0 with
    | true => rw [beq_iff.1 h0]; omega
    | false =>
      rw [h0] at h
      cases hb : Nat.ble ((len + n) * bytes) 70368744177664 && Nat.ble (len + n) 70368744177664 with
      | false => rw [hb] at h; cases h
      | true => simp only [Bool.and_eq_true, ble_iff] at hb; omega
  · cases h
theorem append_case (hT : TTOk P E.tt) {s s' : St} (hs : Sim lo0 N0 S μ s.h w) (hlo : lo0 ≤ lo) (hc : lo0 ≤ s.c) (hf : ∀ b, S b → b < s.c ∨ s'.c ≤ b) {ats : Array Nat} {ty : Nat} {x y v : AV} (hx : wf S μ x) (hy : wf S μ y) {t t1 : Nat} (h0 : ats[0]? = some t) (h1 : ats[1]? = some t1)
    {i i1 j : TI} (hi : E.tt.get t = some i) (hi1 : E.tt.get t1 = some i1) {e : Nat} (hk : i.k = .slice e) (hj : E.tt.get e = some j) (hz : j.size ≠ 0)
    (h : (match i1.k with
          | .int _ => (natE y).bind fun n => appE lo s e j.size j.bytes n (reps n j.zero.cells) x
          | _ => (lenOfE y).bind fun n => (takeE s.h j.size n y).bind fun new => appE lo s e j.size j.bytes n new x) = some (v, s')) :
    s.c ≤ s'.c ∧ ∃ u w1, (Builtin.append_ ats ty #[conc μ x, conc μ y]).run P w = .ok u w1 ∧ HPost lo0 N0 S μ s s' w v u w1 := by
  have he : Builtin.append_ ats ty #[conc μ x, conc μ y] = Builtin.append_ #[t, t1] ty #[conc μ x, conc μ y] := by
    unfold Builtin.append_
    have e1 : (#[t, t1] : Array Nat)[0]? = some t := rfl
    have e2 : (#[t, t1] : Array Nat)[1]? = some t1 := rfl
    rw [h0, h1, e1, e2]
  rw [he]
  have hu := (hT t i hi).k
  rw [hk, KOk] at hu
  have hu1 := (hT t1 i1 hi1).k
  have hjo := hT e j hj
  obtain ⟨zw, zc, zl⟩ := zero_cells (S := S) (μ := μ) hjo
  split at h
  · rename_i k q
    rw [q, KOk] at hu1
    obtain ⟨n, hn, h2⟩ := Option.bind_eq_some_iff.1 h
    obtain ⟨q', rfl⟩ := natE_ok hn
    have hle : n ≤ 70368744177664 := appE_le h2
    refine appE_ok hs hlo hc hf hu hjo hz (fun w' hw' => ⟨hle, .inr ⟨k, q', hu1, rfl, fun w2 => ?_⟩⟩) (by rw [reps_length, zl]) (reps_wfs zw n) hx h2
    by_cases hn0 : n * j.size = 0
    · rw [if_pos hn0]
      have : reps n j.zero.cells = [] := List.eq_nil_of_length_eq_zero (by rw [reps_length, zl, hn0])
      rw [this]
      simp [concs]
    · rw [if_neg hn0]
      simp only [Sem.run_bind, zero_ok hjo μ, Result.andThen, Sem.run_pure, zc, zeroCells_ok]
  · rename_i hni
    obtain ⟨n, hn, h2⟩ := Option.bind_eq_some_iff.1 h
    obtain ⟨new, hnew, h3⟩ := Option.bind_eq_some_iff.1 h2
    have hle : n ≤ 70368744177664 := appE_le h3
    have hd : ∃ d, P.underlying t1 = some d ∧ ∀ k, d ≠ .int k := by
      cases hk1 : i1.k with
      | int k => exact absurd hk1 (hni k)
      | struct fs => rw [hk1, KOk] at hu1; obtain ⟨_, _, hu1, _⟩ := hu1; exact ⟨_, hu1, fun k => by simp⟩
      | iface => rw [hk1, KOk] at hu1; obtain ⟨_, hu1⟩ := hu1; exact ⟨_, hu1, fun k => by simp⟩
      | func => rw [hk1, KOk] at hu1; obtain ⟨_, _, _, hu1⟩ := hu1; exact ⟨_, hu1, fun k => by simp⟩
      | _ => rw [hk1, KOk] at hu1; exact ⟨_, hu1, fun k => by simp⟩
    obtain ⟨d, hd, hdi⟩ := hd
    obtain ⟨t1', t2', _⟩ := takeE_ok (P := P) hs hy hnew
    exact appE_ok hs hlo hc hf hu hjo hz (fun w' hw' => ⟨hle, .inl ⟨d, hd, hdi, lenOf_ok hn, (takeE_ok (P := P) (hs.heap hw') hy hnew).2.2⟩⟩) t2' t1' hx h3
theorem heap_ok (hT : TTOk P E.tt) {s s' : St} (hR : TR S μ m a) (hs : Sim lo0 N0 S μ s.h w) (hlo : lo0 ≤ lo) (hc : lo0 ≤ s.c) (hf : ∀ b, S b → b < s.c ∨ s'.c ≤ b) {o : Oper} {v : AV} (h : heapE E lo m s o.op = some (v, s')) :
    s.c ≤ s'.c ∧ Done P o a w (HPost lo0 N0 S μ s s' w v) := by
  unfold Done execOp
  cases ho : o.op <;> rw [ho] at h <;> simp only [heapE] at h <;> try (cases h; done)
  case load t x =>
    obtain ⟨u, hu, h2⟩ := Option.bind_eq_some_iff.1 h
    obtain ⟨v', hv, he⟩ := Option.map_eq_some_iff.1 h2
    cases he
    obtain ⟨_, e1⟩ := rho_ok hR hu
    obtain ⟨g1, g2⟩ := loadE_ok (c := s.c) hT hs hv
    refine ⟨Nat.le_refl _, _, w, _, ?_, .inl rfl, HPost.same rfl hs g1 (Below.refl _ _)⟩
    simp only [e1, Sem.run_bind, g2, Result.andThen, Sem.run_pure]
  case store t x y =>
    obtain ⟨u, hu, h2⟩ := Option.bind_eq_some_iff.1 h
    obtain ⟨v', hv, h3⟩ := Option.bind_eq_some_iff.1 h2
    obtain ⟨z, hz, h4⟩ := Option.bind_eq_some_iff.1 h3
    have e1 := (rho_ok hR hu).2
    obtain ⟨w2, e2⟩ := rho_ok hR hv
    obtain ⟨i, hi, rfl⟩ := szE_ok hT hz
    split at h4
    · rename_i b q
      cases hcs : Nat.beq v'.cells.length i.size with
      | false => rw [hcs] at h4; cases h4
      | true =>
        rw [hcs] at h4
        have hcs' := beq_iff.1 hcs
        obtain ⟨s1, hp, he⟩ := Option.map_eq_some_iff.1 h4
        cases he
        obtain ⟨p1, p2, p3, p4, p5, _⟩ := putAt_ok (P := P) hs hlo (wfs_cells w2) hp
        refine ⟨by rw [p1]; exact Nat.le_refl _, .skip, w.setCells (μ b).blk ((μ b).base + q) (concs μ v'.cells), undef, ?_, .inr ⟨rfl, rfl⟩, ?_⟩
        · have hcell : (conc μ v').cells.toList = concs μ v'.cells := by rw [cells_conc]
          have hsz : ¬ ((conc μ v').cells.size ≠ i.size) := by rw [cells_conc]; simp [concs_length, hcs']
          dsimp only
          rw [e1, e2]
          simp only [conc, Instr.storeAt, Instr.sureAddr, storeVar, Sem.run_bind, Sem.run_pure, Result.andThen, size_ok hi, if_neg hsz, hcell, p3]
        · have : (undef : Value) = conc μ (.tuple []) := rfl
          rw [this]
          exact HPost.same p1 p4 (v := .tuple []) trivial p5
    · cases h4
  case box t x =>
    obtain ⟨u, hu, h2⟩ := Option.bind_eq_some_iff.1 h
    obtain ⟨s1, hn, he⟩ := Option.map_eq_some_iff.1 h2
    cases he
    obtain ⟨w1, e1⟩ := rho_ok hR hu
    obtain ⟨g1, μ', hμ, g2⟩ := made_ok hs hc hf hn (wfs_cells w1) (.ptr (some (s.c, 0))) (fun l _ _ _ => .inr ⟨Nat.le_refl _, by obtain ⟨_, rfl⟩ := newAt_ok hn; exact Nat.lt_succ_self _⟩)
    refine ⟨g1, _, _, _, ?_, .inl rfl, g2⟩
    simp only [e1, Instr.box, newVar, Sem.run_bind, run_newRow, Result.andThen, Sem.run_pure, cells_conc, conc, hμ]
  case alloc t =>
    obtain ⟨i, hi, h2⟩ := Option.bind_eq_some_iff.1 h
    obtain ⟨s1, hn, he⟩ := Option.map_eq_some_iff.1 h2
    cases he
    obtain ⟨z1, z2, z3⟩ := zero_cells (S := S) (μ := μ) (hT t i hi)
    obtain ⟨g1, μ', hμ, g2⟩ := made_ok hs hc hf hn z1 (.ptr (some (s.c, 0))) (fun l _ _ _ => .inr ⟨Nat.le_refl _, by obtain ⟨_, rfl⟩ := newAt_ok hn; exact Nat.lt_succ_self _⟩)
    refine ⟨g1, _, _, _, ?_, .inl rfl, g2⟩
    simp only [Instr.alloc, zero_ok (hT t i hi) μ, newVar, Sem.run_bind, run_newRow, Result.andThen, Sem.run_pure, z2, conc, hμ]
  case buildSlice t n parts =>
    obtain ⟨i, hi, h2⟩ := Option.bind_eq_some_iff.1 h
    have k1 := (hT t i hi).k
    split at h2
    · rename_i e q
      rw [q, KOk] at k1
      obtain ⟨j, hj, h3⟩ := Option.bind_eq_some_iff.1 h2
      have hjo := hT e j hj
      cases hn : Nat.ble (n * j.size) 16777216 with
      | false => rw [hn] at h3; cases h3
      | true =>
        rw [hn] at h3
        have hn' := ble_iff.1 hn
        obtain ⟨cs, hcs, h4⟩ := Option.bind_eq_some_iff.1 h3
        obtain ⟨s1, hs1, he⟩ := Option.map_eq_some_iff.1 h4
        cases he
        obtain ⟨z1, z2, z3⟩ := zero_cells (S := S) (μ := μ) hjo
        obtain ⟨f1, f2⟩ := fill_ok hR (pM := fun q => some (q * j.size, j.size)) (fun _ _ h => h) (reps_wfs z1 n) hcs
        obtain ⟨g1, μ', hμ, g2⟩ := made_ok hs hc hf hs1 f1 (.slice (some (s.c, 0)) n n 0) (fun l _ _ _ => .inr ⟨Nat.le_refl _, by obtain ⟨_, rfl⟩ := newAt_ok hs1; exact Nat.lt_succ_self _⟩)
        refine ⟨g1, _, _, _, ?_, .inl rfl, g2⟩
        have h24 : ¬ (n * j.size > 2 ^ 24) := by omega
        rcases row_zero' hjo n μ with ⟨h0, r2⟩ | ⟨h0, r2⟩
        · simp only [Instr.buildSlice, Sem.run_bind, run_underlying k1, size_ok hjo, Result.andThen, if_neg h24, if_pos h0, Sem.run_pure, parts_map, r2, f2, run_newRow, conc, hμ]
        · simp only [Instr.buildSlice, Sem.run_bind, run_underlying k1, size_ok hjo, Result.andThen, if_neg h24, if_neg h0, zero_ok hjo μ, Sem.run_pure, parts_map, r2, f2, run_newRow, conc, hμ]
    · cases h2
  case makeSlice t x y =>
    obtain ⟨i, hi, h2⟩ := Option.bind_eq_some_iff.1 h
    obtain ⟨u, hu, h3⟩ := Option.bind_eq_some_iff.1 h2
    obtain ⟨u', hu', h4⟩ := Option.bind_eq_some_iff.1 h3
    obtain ⟨l, hl, h5⟩ := Option.bind_eq_some_iff.1 h4
    obtain ⟨c, hc', h6⟩ := Option.bind_eq_some_iff.1 h5
    have e1 := (rho_ok hR hu).2
    have e2 := (rho_ok hR hu').2
    obtain ⟨q1, rfl⟩ := natE_ok hl
    obtain ⟨q2, rfl⟩ := natE_ok hc'
    have k1 := (hT t i hi).k
    split at h6
    · rename_i e q
      rw [q, KOk] at k1
      obtain ⟨j, hj, h7⟩ := Option.bind_eq_some_iff.1 h6
      have hjo := hT e j hj
      cases hn : Nat.ble l c && Nat.ble (c * j.bytes) 70368744177664 && Nat.ble c 70368744177664 with
      | false => rw [hn] at h7; cases h7
      | true =>
        rw [hn] at h7
        simp only [Bool.and_eq_true, ble_iff] at hn
        obtain ⟨⟨n1, n2⟩, n3⟩ := hn
        obtain ⟨s1, hs1, he⟩ := Option.map_eq_some_iff.1 h7
        cases he
        obtain ⟨z1, z2, z3⟩ := zero_cells (S := S) (μ := μ) hjo
        obtain ⟨g1, μ', hμ, g2⟩ := made_ok hs hc hf hs1 (reps_wfs z1 c) (.slice (some (s.c, 0)) l c 0) (fun l _ _ _ => .inr ⟨Nat.le_refl _, by obtain ⟨_, rfl⟩ := newAt_ok hs1; exact Nat.lt_succ_self _⟩)
        refine ⟨g1, _, _, _, ?_, .inl rfl, g2⟩
        obtain ⟨xi, z, hx, hsz, hby, _⟩ := hjo.info
        have w1 : IntKind.i64.wrap (l : Int) = (l : Int) := wrap_nat (by omega)
        have w2 : IntKind.i64.wrap (c : Int) = (c : Int) := wrap_nat n3
        have hb : ¬ ((xi.bytes : Int) * (c : Int) > 2 ^ 48) := by
          rw [hby]
          have : ((c * j.bytes : Nat) : Int) ≤ 70368744177664 := by omega
          rw [Int.natCast_mul, Int.mul_comm] at this
          omega
        have hti : (typeInfo e).run P w = .ok xi w := run_typeInfo w hx
        have c1 : ¬ ((c : Int) < 0) := by omega
        have c2 : ¬ ((l : Int) < 0) := by omega
        have c3 : ¬ ((l : Int) > (c : Int)) := by omega
        dsimp only
        rw [e1, e2]
        rcases row_zero' hjo c μ with ⟨h0, r2⟩ | ⟨h0, r2⟩
        · simp only [conc, Int.ofNat_eq_natCast, Instr.makeSlice, asInt, asIntOf, Sem.run_bind, run_underlying k1, Result.andThen, Sem.run_pure, hti, w1, w2, c1, c2, c3, hb, decide_false, Bool.or_false, Bool.false_or, Bool.false_eq_true, if_false, run_askRoom, size_ok hjo, Int.toNat_natCast, if_pos h0, r2, run_newRow, hμ]
        · simp only [conc, Int.ofNat_eq_natCast, Instr.makeSlice, asInt, asIntOf, Sem.run_bind, run_underlying k1, Result.andThen, Sem.run_pure, hti, w1, w2, c1, c2, c3, hb, decide_false, Bool.or_false, Bool.false_or, Bool.false_eq_true, if_false, run_askRoom, size_ok hjo, Int.toNat_natCast, if_neg h0, zero_ok hjo μ, r2, run_newRow, hμ]
    · cases h6
  case convert src dst x =>
    obtain ⟨p, hp, h2⟩ := Option.bind_eq_some_iff.1 h
    obtain ⟨d, hd, h3⟩ := Option.bind_eq_some_iff.1 h2
    obtain ⟨u, hu, h4⟩ := Option.bind_eq_some_iff.1 h3
    obtain ⟨wu, e1⟩ := rho_ok hR hu
    have kp := (hT src p hp).k
    have kd := (hT dst d hd).k
    split at h4
    · rename_i e q1 q2
      rw [q1, KOk] at kp
      rw [q2, KOk] at kd
      obtain ⟨i, hi, h5⟩ := Option.bind_eq_some_iff.1 h4
      have ki := (hT e i hi).k
      split at h5
      · rename_i q3
        rw [q3, KOk] at ki
        split at h5
        · rename_i sa sn sc sw
          obtain ⟨cs, hcs, h6⟩ := Option.bind_eq_some_iff.1 h5
          obtain ⟨l, hl, he⟩ := Option.map_eq_some_iff.1 h6
          cases he
          refine ⟨Nat.le_refl _, _, w, _, ?_, .inl rfl, HPost.same rfl hs (v := .str l) trivial (Below.refl _ _)⟩
          obtain ⟨a', l', c', hca⟩ : ∃ a' l' c', conc μ (.slice sa sn sc sw) = .slice a' l' c' := by
            cases sa <;> cases sw <;> exact ⟨_, _, _, rfl⟩
          simp only [e1, Sem.run_bind, Result.andThen, Sem.run_pure]
          rw [hca, run_convert_bytes_string w src dst e a' l' c' kp ki kd, ← hca, bytes_ok hs wu hcs hl]
        · rename_i vb vo vl vq
          cases h5
          refine ⟨Nat.le_refl _, _, w, _, ?_, .inl rfl, HPost.same rfl hs (v := .str []) trivial (Below.refl _ _)⟩
          simp only [e1, Sem.run_bind, Result.andThen, Sem.run_pure, conc]
          rw [run_convert_bytes_string w src dst e _ 0 _ kp ki kd]
          have hl := run_loadCells_list (P := P) (w := w) (voidAt (μ vb) vo vl vq) [] (fun j v h => by simp at h)
          rw [run_bytesToString w _ 0 _ [] (by simpa using hl)]
          rfl
        · cases h5
      · cases h5
    · rename_i e q1 q2
      rw [q1, KOk] at kp
      rw [q2, KOk] at kd
      obtain ⟨i, hi, h5⟩ := Option.bind_eq_some_iff.1 h4
      have ki := (hT e i hi).k
      split at h5
      · rename_i l q3
        rw [q3, KOk] at ki
        obtain ⟨s1, hs1, he⟩ := Option.map_eq_some_iff.1 h5
        cases he
        obtain ⟨hone, rfl⟩ := newAt_ok hs1
        have hr := run_bytes_of_string (P := P) w src dst e ⟨l.toArray⟩ kp kd ki
        have hsz : (ByteArray.mk l.toArray).size = l.length := rfl
        rw [hsz] at hr
        generalize hG : grownCap w l.length 0 e = G at hr
        have hGl : l.length ≤ G := by rw [← hG]; exact grown_le _ _ _ _
        have hsize : (bytesRow ⟨l.toArray⟩ G).size = G := by unfold bytesRow; simp [hsz]; omega
        have hfr : ¬ S s.c := fresh hf rfl
        refine ⟨Nat.le_succ _, .value (.slice (some ⟨w.heap.size, 0, none⟩) l.length G), w.drew.alloc (.cells (bytesRow ⟨l.toArray⟩ G) e (G, G + 1)), .slice (some ⟨w.heap.size, 0, none⟩) l.length G, ?_, .inl rfl, upd μ s.c ⟨w.heap.size, 0, G, none⟩, upd_agree hfr, ?_, ?_, ?_, ?_⟩
        · rw [hsize] at hr
          simp only [e1, conc, Sem.run_bind, hr, Result.andThen, Sem.run_pure]
        · refine sim_new hs hfr hc (l := ⟨w.heap.size, 0, G, none⟩) (arr := bytesRow ⟨l.toArray⟩ G) ((wfs_iff _ _ _).2 fun v hv => ?_) hs.size ?_ (fr := (G, G + 1)) ?_ (fun i hi => ?_) (by simp only; omega) (by simpa using hGl) (fun i v hi => ?_) (fun b' hb' => ?_)
          · obtain ⟨u, _, rfl⟩ := List.mem_map.1 hv
            trivial
          · show N0 ≤ (w.heap.push _).size
            rw [Array.size_push]; exact Nat.le_succ_of_le hs.size
          · show (w.heap.push _)[w.heap.size]? = _
            simp
          · simp only; omega
          · unfold bytesRow
            rw [List.getElem?_map] at hi
            obtain ⟨u, hu, rfl⟩ := Option.map_eq_some_iff.1 hi
            have hlt := (List.getElem?_eq_some_iff.1 hu).1
            rw [Nat.zero_add, Array.getElem?_append_left (by simpa using hlt)]
            simp [hu, conc]
          · have hb'' : (s.h.get b').isSome = true := hb'
            have := sim_lt hs hb''
            refine ⟨?_, by simp only; omega⟩
            show (w.heap.push _)[(μ b').blk]? = _
            rw [Array.getElem?_push_lt this, ← Array.getElem?_eq_getElem this]
        · show Plus S s.c (s.c + 1) s.c ∧ _
          refine ⟨.inr ⟨Nat.le_refl _, Nat.lt_succ_self _⟩, ?_⟩
          unfold upd
          rw [if_pos rfl]
          simpa using hGl
        · simp only [conc]
          unfold upd
          rw [if_pos rfl]
          simp
        · exact (Below.drew (Below.refl N0 w)).trans (below_push (N0 := N0) (w := w.drew) hs.size (.cells (bytesRow ⟨l.toArray⟩ G) e (G, G + 1)))
      · cases h5
    · cases h4
  case call c =>
    split at h
    · rename_i hcal
      obtain ⟨t, ht, h2⟩ := Option.bind_eq_some_iff.1 h
      obtain ⟨t1, ht1, h3⟩ := Option.bind_eq_some_iff.1 h2
      obtain ⟨i, hi, h4⟩ := Option.bind_eq_some_iff.1 h3
      obtain ⟨i1, hi1, h5⟩ := Option.bind_eq_some_iff.1 h4
      obtain ⟨vs, hvs, h6⟩ := Option.bind_eq_some_iff.1 h5
      split at h6
      · rename_i x y
        split at h6
        · rename_i e q
          obtain ⟨j, hj, h7⟩ := Option.bind_eq_some_iff.1 h6
          cases hz : Nat.beq j.size 0 with
          | true => rw [hz] at h7; cases h7
          | false =>
            rw [hz] at h7
            have hz' : j.size ≠ 0 := fun e => by rw [beq_iff.2 e] at hz; cases hz
            obtain ⟨hx, hy, _⟩ := (args_ok hR hvs).1
            obtain ⟨consts, ha⟩ := call_args (P := P) (w := w) hR hvs .append hcal o.type
            obtain ⟨g1, u, w1, g2, g3⟩ := append_case (ats := c.argTypes) (ty := o.type) hT hs hlo hc hf hx hy ht ht1 hi hi1 q hj hz' h7
            refine ⟨g1, _, w1, u, ?_, .inl rfl, g3⟩
            dsimp only
            rw [ha]
            simp only [builtin, concs, Sem.run_bind, g2, Result.andThen, Sem.run_pure]
        · cases h6
      · cases h6
    · rename_i hcal
      obtain ⟨t, ht, h2⟩ := Option.bind_eq_some_iff.1 h
      obtain ⟨i, hi, h4⟩ := Option.bind_eq_some_iff.1 h2
      obtain ⟨vs, hvs, h6⟩ := Option.bind_eq_some_iff.1 h4
      have hu := (hT t i hi).k
      split at h6
      · rename_i x y
        obtain ⟨consts, ha⟩ := call_args (P := P) (w := w) hR hvs .copy hcal o.type
        obtain ⟨hx, hy, _⟩ := (args_ok hR hvs).1
        split at h6
        · rename_i e q
          rw [q, KOk] at hu
          obtain ⟨z, hz, h7⟩ := Option.bind_eq_some_iff.1 h6
          obtain ⟨d, hd, h8⟩ := Option.bind_eq_some_iff.1 h7
          obtain ⟨k, hk, h9⟩ := Option.bind_eq_some_iff.1 h8
          obtain ⟨ie, hie, rfl⟩ := szE_ok hT hz
          have hlk := lenOf_ok (P := P) (w := w) (μ := μ) hk
          have e3 : (#[conc μ x, conc μ y] : Array Value)[0]? = some (conc μ x) := rfl
          have e4 : (#[conc μ x, conc μ y] : Array Value)[1]? = some (conc μ y) := rfl
          cases hn : Nat.beq (min k d) 0 with
          | true =>
            simp only [hn, cond_true] at h9
            cases h9
            have hn' : Nat.min k d = 0 := beq_iff.1 hn
            refine ⟨Nat.le_refl _, _, w, .int .i64 0, ?_, .inl rfl, HPost.same rfl hs (v := .int .i64 0) trivial (Below.refl _ _)⟩
            dsimp only
            rw [ha]
            obtain ⟨a', c', hax⟩ := lenSE_ok (μ := μ) hd
            have hfc := first0 (P := P) (w := w) (μ := μ) hk ie.size
            simp only [builtin, concs, Builtin.copy_, ht, e3, e4]
            simp only [Sem.run_bind, run_underlying hu, Result.andThen, Sem.run_pure, hax, hlk, hn', size_ok hie, hfc]
            cases a' <;> (clear h h2 h4 h6 h7 h8 ha; simp [storeCells, goInt])
          | false =>
            simp only [hn, cond_false] at h9
            obtain ⟨cs, hcs, h10⟩ := Option.bind_eq_some_iff.1 h9
            obtain ⟨c1, c2, c3⟩ := takeE_ok (P := P) hs hy hcs
            split at h10
            · rename_i b o' xl xc xq
              obtain ⟨s1, hp, he⟩ := Option.map_eq_some_iff.1 h10
              cases he
              obtain ⟨p1, p2, p3, p4, p5, _⟩ := putAt_ok (P := P) hs hlo c1 hp
              refine ⟨by rw [p1]; exact Nat.le_refl _, _, w.setCells (μ b).blk ((μ b).base + o') (concs μ cs), .int .i64 ((min k d : Nat) : Int), ?_, .inl rfl, HPost.same p1 p4 (v := .int .i64 (Int.ofNat (min k d))) trivial p5⟩
              dsimp only
              rw [ha]
              obtain rfl : xl = d := by simpa [lenSE] using hd
              obtain ⟨cc, hax⟩ : ∃ cc, conc μ (.slice (some (b, o')) xl xc xq) = .slice (some ⟨(μ b).blk, (μ b).base + o', none⟩) xl cc := by cases xq <;> exact ⟨_, rfl⟩
              have hmin : Nat.min k xl = min k xl := rfl
              simp only [builtin, concs, Builtin.copy_, ht, e3, e4]
              simp only [Sem.run_bind, run_underlying hu, Result.andThen, Sem.run_pure, hax, hlk, size_ok hie, hmin, c3, p3, goInt]
            · cases h10
        · cases h6
      · cases h6
    · rename_i hcal
      obtain ⟨t, ht, h2⟩ := Option.bind_eq_some_iff.1 h
      obtain ⟨i, hi, h4⟩ := Option.bind_eq_some_iff.1 h2
      obtain ⟨vs, hvs, h6⟩ := Option.bind_eq_some_iff.1 h4
      have hu := (hT t i hi).k
      split at h6
      · rename_i x
        obtain ⟨consts, ha⟩ := call_args (P := P) (w := w) hR hvs .clear hcal o.type
        obtain ⟨hx, _⟩ := (args_ok hR hvs).1
        have e3 : (#[conc μ x] : Array Value)[0]? = some (conc μ x) := rfl
        have hund : (undef : Value) = conc μ (.tuple []) := rfl
        split at h6
        · rename_i e b o' n xc xq q
          rw [q, KOk] at hu
          obtain ⟨cc, hax⟩ : ∃ cc, conc μ (.slice (some (b, o')) n xc xq) = .slice (some ⟨(μ b).blk, (μ b).base + o', none⟩) n cc := by cases xq <;> exact ⟨_, rfl⟩
          cases hn : Nat.beq n 0 with
          | true =>
            rw [hn] at h6
            cases h6
            have := beq_iff.1 hn
            subst this
            refine ⟨Nat.le_refl _, _, w, _, ?_, .inl rfl, HPost.same rfl hs (v := .tuple []) trivial (Below.refl _ _)⟩
            dsimp only
            rw [ha]
            simp only [builtin, concs, Builtin.clear_, ht, e3]
            simp only [Sem.run_bind, run_underlying hu, Result.andThen, Sem.run_pure, hax]
            rfl
          | false =>
            rw [hn] at h6
            simp only [cond_false] at h6
            have hn' : n ≠ 0 := fun e => by rw [beq_iff.2 e] at hn; cases hn
            obtain ⟨n', rfl⟩ : ∃ n', n = n' + 1 := ⟨n - 1, by omega⟩
            obtain ⟨j, hj, h7⟩ := Option.bind_eq_some_iff.1 h6
            have hjo := hT e j hj
            obtain ⟨zw, zc, zl⟩ := zero_cells (S := S) (μ := μ) hjo
            obtain ⟨s1, hp, he⟩ := Option.map_eq_some_iff.1 h7
            cases he
            obtain ⟨p1, p2, p3, p4, p5, _⟩ := putAt_ok (P := P) hs hlo (reps_wfs zw (n' + 1)) hp
            refine ⟨by rw [p1]; exact Nat.le_refl _, _, w.setCells (μ b).blk ((μ b).base + o') (concs μ (reps (n' + 1) j.zero.cells)), _, ?_, .inl rfl, HPost.same p1 p4 (v := .tuple []) trivial p5⟩
            dsimp only
            rw [ha]
            simp only [builtin, concs, Builtin.clear_, ht, e3]
            simp only [Sem.run_bind, run_underlying hu, Result.andThen, Sem.run_pure, hax, zero_ok hjo μ, zc, zeroCells_ok, p3]
            rfl
        · rename_i e xl xc xq q
          rw [q, KOk] at hu
          cases h6
          refine ⟨Nat.le_refl _, _, w, _, ?_, .inl rfl, HPost.same rfl hs (v := .tuple []) trivial (Below.refl _ _)⟩
          dsimp only
          rw [ha]
          cases xq <;> (simp only [builtin, concs, Builtin.clear_, ht, e3]; simp only [conc, Sem.run_bind, run_underlying hu, Result.andThen, Sem.run_pure]; rfl)
        · rename_i e vb vo vl vq q
          rw [q, KOk] at hu
          cases h6
          refine ⟨Nat.le_refl _, _, w, _, ?_, .inl rfl, HPost.same rfl hs (v := .tuple []) trivial (Below.refl _ _)⟩
          dsimp only
          rw [ha]
          simp only [builtin, concs, Builtin.clear_, ht, e3]
          simp only [conc, Sem.run_bind, run_underlying hu, Result.andThen, Sem.run_pure]
          rfl
        · cases h6
      · cases h6
    · cases h
end
end Go.Proofs.YtaocoplfdhcoaaaGreatDoor.Ev

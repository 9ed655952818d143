/- The evaluator's pure operations: the one theorem on all of them. -/
import Derived.Test.YtaocoplfdhcoaaaGreatDoorSp02
import Derived.Laws.Tables
import Derived.Laws.Append
set_option linter.unusedVariables false
set_option linter.unusedSimpArgs false
namespace Go.Proofs.YtaocoplfdhcoaaaGreatDoor.Ev
open Go
section
variable {P : Program} {E : Env} {S : Nat → Prop} {μ : Nat → Loc} {m : T AV} {a : Act} {w : World}
theorem field_at {t f : Nat} {fs : List (Nat × Nat)} {g : Nat × Nat} (hk : KOk P t (.struct fs)) (hg : fs[f]? = some g) : ∃ fields fd, P.underlying t = some (.struct fields) ∧ fields[f]? = some fd ∧ fd.offset = g.1 ∧ fd.type = g.2 := by
  obtain ⟨fields, places, hu, rfl, _⟩ := hk
  rw [List.getElem?_map] at hg
  obtain ⟨fd, hf, rfl⟩ := Option.map_eq_some_iff.1 hg
  exact ⟨fields, fd, hu, by simpa using hf, rfl, rfl⟩
theorem not_iface {t : Nat} {k : TK} (hk : KOk P t k) (h : k ≠ .iface) : ∃ d, P.underlying t = some d ∧ ∀ ms, d ≠ .interface ms := by
  cases k <;> simp only [KOk] at hk
  case iface => exact absurd rfl h
  case struct fs => obtain ⟨f, _, hu, _⟩ := hk; exact ⟨_, hu, by simp⟩
  case func => obtain ⟨x, y, z, hu⟩ := hk; exact ⟨_, hu, by simp⟩
  all_goals exact ⟨_, hk, by simp⟩
theorem args_ok (hR : TR S μ m a) {xs : Array Operand} {vs : List AV} (h : rhos m xs.toList = some vs) : wfs S μ vs ∧ xs.map a.eval = (concs μ vs).toArray := by
  obtain ⟨h1, h2⟩ := rhos_ok hR h
  refine ⟨h1, ?_⟩
  rw [← h2]
  apply Array.ext'
  simp
theorem built_ok (hT : TTOk P E.tt) (hR : TR S μ m a) {t : Nat} {i : TI} {parts : Array (Nat × Operand)} {v : AV} (hi : TOk P t i)
    (h : (match i.k with
      | .struct fs => (fillE E m (fun j => (fs[j]?).bind fun f => (szE E f.2).map fun z => (f.1, z)) i.zero.cells parts.toList).map .agg
      | .arr _ e => (szE E e).bind fun z => (fillE E m (fun j => some (j * z, z)) i.zero.cells parts.toList).map .agg
      | _ => none) = some v) : wf S μ v ∧ (Instr.build t (parts.map fun (i, x) => (i, a.eval x))).run P w = .ok (conc μ v) w := by
  obtain ⟨x, z, hx, hs, hb, hz, hza, hzl, hzo⟩ := hi.info
  have hzc := absV_ok hza S μ
  have hzw : wfs S μ i.zero.cells := wfs_cells hzc.2
  have hzv : z.cells = (concs μ i.zero.cells).toArray := by rw [← hzc.1, cells_conc]
  have hk := hi.k
  split at h
  · rename_i fs q
    obtain ⟨cs, hc, rfl⟩ := Option.map_eq_some_iff.1 h
    rw [q] at hk
    obtain ⟨fields, places, hu, hfs, hp⟩ := hk
    obtain ⟨g1, g2⟩ := fill_ok hR (pM := fun j => places.toArray[j]?) (fun j p hj => by
      obtain ⟨f, hf, hj⟩ := Option.bind_eq_some_iff.1 hj
      obtain ⟨sz, hsz, rfl⟩ := Option.map_eq_some_iff.1 hj
      obtain ⟨i', hi', rfl⟩ := szE_ok hT hsz
      obtain ⟨x', z', hx', hs', _⟩ := hi'.info
      rw [← hfs, List.getElem?_map] at hf
      obtain ⟨fd, hfd, rfl⟩ := Option.map_eq_some_iff.1 hf
      have := mapM_some_get hp j fd hfd
      simp only [hx', Option.map_some] at this
      rw [List.getElem?_toArray, ← this, hs']) hzw hc
    refine ⟨by rw [wf]; exact g1, ?_⟩
    simp only [conc]
    refine run_build w t _ _ ?_
    unfold Program.built
    simp only [hx, hu, hz, hp]
    rw [parts_map, hzv]
    exact g2
  · rename_i n e q
    obtain ⟨sz, hsz, hh⟩ := Option.bind_eq_some_iff.1 h
    obtain ⟨cs, hc, rfl⟩ := Option.map_eq_some_iff.1 hh
    obtain ⟨i', hi', rfl⟩ := szE_ok hT hsz
    obtain ⟨x', z', hx', hs', _⟩ := hi'.info
    rw [q, KOk] at hk
    obtain ⟨g1, g2⟩ := fill_ok hR (pM := fun j => some (j * i'.size, i'.size)) (fun j p hj => hj) hzw hc
    refine ⟨by rw [wf]; exact g1, ?_⟩
    simp only [conc]
    refine run_build w t _ _ ?_
    unfold Program.built
    simp only [hx, hk, hz, hx', hs']
    rw [parts_map, hzv]
    exact g2
  · cases h
theorem pure_ok (hT : TTOk P E.tt) (hR : TR S μ m a) {o : Oper} {v : AV} (h : pureE E m o.op = some v) : wf S μ v ∧ (execOp a.eval o).run P w = .ok (.value (conc μ v)) w := by
  unfold execOp
  cases ho : o.op <;> rw [ho] at h <;> simp only [pureE] at h <;> try (cases h; done)
  case move x =>
    obtain ⟨h1, h2⟩ := rho_ok hR h
    exact ⟨h1, by simp [h2]⟩
  case assign x =>
    obtain ⟨h1, h2⟩ := rho_ok hR h
    exact ⟨h1, by simp [h2]⟩
  case pick c x y =>
    obtain ⟨b, hb, hh⟩ := Option.bind_eq_some_iff.1 h
    replace h := hh
    clear hh
    obtain ⟨_, h2⟩ := rho_ok hR hb
    split at h
    · obtain ⟨h3, h4⟩ := rho_ok hR h
      exact ⟨h3, by simp [h2, conc, asBool, h4]⟩
    · obtain ⟨h3, h4⟩ := rho_ok hR h
      exact ⟨h3, by simp [h2, conc, asBool, h4]⟩
    · cases h
  case build t parts =>
    obtain ⟨i, hi, hh⟩ := Option.bind_eq_some_iff.1 h
    obtain ⟨g1, g2⟩ := built_ok (w := w) hT hR (hT t i hi) hh
    exact ⟨g1, by dsimp only; simp only [Sem.run_bind, g2, Result.andThen, Sem.run_pure]⟩
  case nilCheck x =>
    obtain ⟨b, hb, hh⟩ := Option.bind_eq_some_iff.1 h
    replace h := hh
    clear hh
    obtain ⟨h1, h2⟩ := rho_ok hR hb
    split at h
    · cases h; exact ⟨h1, by rename_i p; obtain ⟨p1, p2⟩ := p; simp [h2, conc]⟩
    · cases h; exact ⟨h1, by simp [h2, conc]⟩
    · cases h; exact ⟨h1, by simp [h2, conc]⟩
    · cases h
  case binOp op t x y yt =>
    obtain ⟨u, hu, hh⟩ := Option.bind_eq_some_iff.1 h
    replace h := hh
    clear hh
    obtain ⟨u', hu', h⟩ := Option.bind_eq_some_iff.1 h
    obtain ⟨_, e1⟩ := rho_ok hR hu
    obtain ⟨_, e2⟩ := rho_ok hR hu'
    obtain ⟨g1, g2, g3⟩ := binE_ok (S := S) (μ := μ) (w := w) hT h
    refine ⟨g1, ?_⟩
    simp only [e1, e2, Sem.run_bind, g2, Result.andThen, g3, Sem.run_pure]
  case unOp op t x =>
    obtain ⟨u, hu, hh⟩ := Option.bind_eq_some_iff.1 h
    replace h := hh
    clear hh
    obtain ⟨_, e1⟩ := rho_ok hR hu
    unfold unE at h
    split at h
    · cases h; exact ⟨trivial, by simp [e1, conc, Op.unary, Op.intArith, wr_eq]⟩
    · cases h; exact ⟨trivial, by simp [e1, conc, Op.unary, Op.intBits]⟩
    · cases h; exact ⟨trivial, by simp [e1, conc, Op.unary]⟩
    · cases h
  case convert src dst x =>
    obtain ⟨p, hp, hh⟩ := Option.bind_eq_some_iff.1 h
    replace h := hh
    clear hh
    obtain ⟨d, hd, hh⟩ := Option.bind_eq_some_iff.1 h
    replace h := hh
    clear hh
    obtain ⟨u, hu, hh⟩ := Option.bind_eq_some_iff.1 h
    replace h := hh
    clear hh
    obtain ⟨_, e1⟩ := rho_ok hR hu
    have k1 := (hT src p hp).k
    have k2 := (hT dst d hd).k
    split at h
    · rename_i k0 kd kv n q1 q2 q3
      rw [q1, KOk] at k1
      rw [q2, KOk] at k2
      cases h
      exact ⟨trivial, by simp [e1, conc, convert, run_underlying k1, run_underlying k2, Conv.intToInt, wr_eq]⟩
    · rename_i l q1 q2 q3
      rw [q1, KOk] at k1
      rw [q2, KOk] at k2
      cases h
      exact ⟨trivial, by simp [e1, conc, convert, run_underlying k1, run_underlying k2]⟩
    · cases h
  case makeInterface t x =>
    obtain ⟨i, hi, hh⟩ := Option.bind_eq_some_iff.1 h
    replace h := hh
    clear hh
    have k1 := (hT t i hi).k
    split at h
    · cases h
    · rename_i hne
      obtain ⟨u, hu, rfl⟩ := Option.map_eq_some_iff.1 h
      obtain ⟨h1, e1⟩ := rho_ok hR hu
      obtain ⟨d, hd, hno⟩ := not_iface k1 (fun e => hne e)
      refine ⟨by rw [wf]; exact h1, ?_⟩
      dsimp only
      rw [e1]
      cases d <;> first | exact absurd rfl (hno _) | simp [Instr.makeInterface, run_underlying hd, conc]
  case makeFunc fn first captured =>
    split at h
    · rename_i f hf
      obtain ⟨cs, hc, rfl⟩ := Option.map_eq_some_iff.1 h
      obtain ⟨h1, h2⟩ := args_ok hR hc
      refine ⟨by rw [wf]; exact h1, ?_⟩
      have : first = #[] := by apply Array.ext'; simpa using hf
      subst this
      simp [Instr.makeFunc, conc, h2]
    · cases h
  case slice t x lo hi mx =>
    obtain ⟨i, hi', hh⟩ := Option.bind_eq_some_iff.1 h
    clear h
    obtain ⟨u, hu, h⟩ := Option.bind_eq_some_iff.1 hh
    clear hh
    obtain ⟨h1, e1⟩ := rho_ok hR hu
    obtain ⟨l, hl, hh⟩ := Option.bind_eq_some_iff.1 h
    clear h
    obtain ⟨h2, hh2, h⟩ := Option.bind_eq_some_iff.1 hh
    clear hh
    obtain ⟨x2, hx2, hh⟩ := Option.bind_eq_some_iff.1 h
    clear h
    have k1 := (hT t i hi').k
    have go : ∀ {o : Option Operand} {r : Option AV}, (match o with | none => some none | some y => (rho m y).map some) = some r → o.map a.eval = r.map (conc μ) := by
      intro o r ho
      cases o with
      | none => cases ho; rfl
      | some y =>
        obtain ⟨u', hu', rfl⟩ := Option.map_eq_some_iff.1 ho
        rw [Option.map_some, Option.map_some, (rho_ok hR hu').2]
    have g1 := go hl
    have g2 := go hh2
    have g3 := go hx2
    dsimp only
    rw [e1, g1, g2, g3]
    split at hh
    · rename_i s q
      rw [q, KOk] at k1
      obtain ⟨y1, y2⟩ := sliceE_str (S := S) (μ := μ) (w := w) k1 hh
      exact ⟨y1, by simp only [Sem.run_bind, y2, Result.andThen, Sem.run_pure]⟩
    · rename_i e p n c q0 q
      obtain ⟨z, hz, h⟩ := Option.bind_eq_some_iff.1 hh
      obtain ⟨j, hj, rfl⟩ := szE_ok hT hz
      rw [q, KOk] at k1
      obtain ⟨y1, y2⟩ := sliceE_slice (w := w) k1 hj h1 h
      exact ⟨y1, by simp only [Sem.run_bind, y2, Result.andThen, Sem.run_pure]⟩
    · rename_i e b o' d q0 q
      obtain ⟨z, hz, h⟩ := Option.bind_eq_some_iff.1 hh
      obtain ⟨j, hj, rfl⟩ := szE_ok hT hz
      rw [q, KOk] at k1
      obtain ⟨y1, y2⟩ := sliceE_void (w := w) k1 hj h1 h
      exact ⟨y1, by simp only [Sem.run_bind, y2, Result.andThen, Sem.run_pure]⟩
    · rename_i n e p q
      obtain ⟨z, hz, h⟩ := Option.bind_eq_some_iff.1 hh
      obtain ⟨j, hj, rfl⟩ := szE_ok hT hz
      rw [q, KOk] at k1
      obtain ⟨y1, y2⟩ := sliceE_arr (w := w) k1 hj h1 h
      exact ⟨y1, by simp only [Sem.run_bind, y2, Result.andThen, Sem.run_pure]⟩
    · cases hh
  case fieldAddr t x f =>
    obtain ⟨i, hi, hh⟩ := Option.bind_eq_some_iff.1 h
    replace h := hh
    clear hh
    obtain ⟨u, hu, hh⟩ := Option.bind_eq_some_iff.1 h
    replace h := hh
    clear hh
    obtain ⟨h1, e1⟩ := rho_ok hR hu
    have k1 := (hT t i hi).k
    split at h
    · rename_i fs b o' q1
      obtain ⟨g, hg, hh⟩ := Option.bind_eq_some_iff.1 h
      replace h := hh
      clear hh
      obtain ⟨z, hz, hh⟩ := Option.bind_eq_some_iff.1 h
      replace h := hh
      clear hh
      obtain ⟨j, hj, rfl⟩ := szE_ok hT hz
      rw [q1] at k1
      obtain ⟨fields, fd, hu', hf, ho1, ho2⟩ := field_at k1 hg
      cases hc : Nat.beq j.size 0 with
      | true => rw [hc] at h; cases h
      | false =>
        rw [hc] at h
        cases h
        have hz0 : j.size ≠ 0 := fun e => by rw [beq_iff.2 e] at hc; cases hc
        refine ⟨h1, ?_⟩
        rw [← ho2] at hj
        simp [e1, conc, Instr.fieldAt, run_underlying hu', hf, Instr.sureAddr, fieldPlace, size_ok hj, hz0, add_at, ho1, Nat.add_assoc]
    · cases h
  case field t x f =>
    obtain ⟨i, hi, hh⟩ := Option.bind_eq_some_iff.1 h
    replace h := hh
    clear hh
    obtain ⟨u, hu, hh⟩ := Option.bind_eq_some_iff.1 h
    replace h := hh
    clear hh
    obtain ⟨h1, e1⟩ := rho_ok hR hu
    have k1 := (hT t i hi).k
    split at h
    · rename_i fs cs q1
      obtain ⟨g, hg, hh⟩ := Option.bind_eq_some_iff.1 h
      replace h := hh
      clear hh
      rw [q1] at k1
      obtain ⟨fields, fd, hu', hf, ho1, ho2⟩ := field_at k1 hg
      rw [wf] at h1
      obtain ⟨g1, g2⟩ := partE_ok (w := w) hT h1 h
      refine ⟨g1, ?_⟩
      simp [e1, conc, Instr.field, run_underlying hu', hf, asAgg, ho1, ho2, g2]
    · cases h
  case indexAddr t x ix =>
    obtain ⟨i, hi, hh⟩ := Option.bind_eq_some_iff.1 h
    replace h := hh
    clear hh
    obtain ⟨u, hu, hh⟩ := Option.bind_eq_some_iff.1 h
    replace h := hh
    clear hh
    obtain ⟨jv, hjv, hh⟩ := Option.bind_eq_some_iff.1 h
    replace h := hh
    clear hh
    obtain ⟨j, hj, hh⟩ := Option.bind_eq_some_iff.1 h
    replace h := hh
    clear hh
    obtain ⟨h1, e1⟩ := rho_ok hR hu
    obtain ⟨_, e2⟩ := rho_ok hR hjv
    obtain ⟨jk, rfl⟩ := natE_ok hj
    have k1 := (hT t i hi).k
    split at h
    · rename_i e b o' n c q q1
      obtain ⟨z, hz, hh⟩ := Option.bind_eq_some_iff.1 h
      replace h := hh
      clear hh
      obtain ⟨y, hy, rfl⟩ := szE_ok hT hz
      rw [q1, KOk] at k1
      cases hc : Nat.blt j n with
      | false => rw [hc] at h; cases h
      | true =>
        rw [hc] at h
        cases h
        have hlt := blt_iff.1 hc
        have hlt' : (0 ≤ (j : Int) ∧ (j : Int) < n) := by omega
        cases q with
        | zero =>
          refine ⟨show S b from h1, ?_⟩
          simp [e1, e2, conc, Instr.indexAt, asIntOf, run_underlying k1, hlt, size_ok hy, add_at, Nat.add_assoc]
        | succ q =>
          refine ⟨show S b from (show S b ∧ _ from h1).1, ?_⟩
          simp [e1, e2, conc, Instr.indexAt, asIntOf, run_underlying k1, hlt, size_ok hy, add_at, Nat.add_assoc]
    · rename_i n e b o' q1
      obtain ⟨z, hz, hh⟩ := Option.bind_eq_some_iff.1 h
      replace h := hh
      clear hh
      obtain ⟨y, hy, rfl⟩ := szE_ok hT hz
      rw [q1, KOk] at k1
      cases hc : Nat.blt j n with
      | false => rw [hc] at h; cases h
      | true =>
        rw [hc] at h
        cases h
        have hlt := blt_iff.1 hc
        refine ⟨by rw [wf] at h1 ⊢; exact h1, ?_⟩
        simp [e1, e2, conc, Instr.indexAt, Instr.sureAddr, asIntOf, run_underlying k1, hlt, size_ok hy, add_at, Nat.add_assoc]
    · cases h
  case index t x ix =>
    obtain ⟨i, hi, hh⟩ := Option.bind_eq_some_iff.1 h
    clear h
    obtain ⟨u, hu, h⟩ := Option.bind_eq_some_iff.1 hh
    clear hh
    obtain ⟨jv, hjv, hh⟩ := Option.bind_eq_some_iff.1 h
    clear h
    obtain ⟨j, hj, h⟩ := Option.bind_eq_some_iff.1 hh
    clear hh
    obtain ⟨h1, e1⟩ := rho_ok hR hu
    have e2 := (rho_ok hR hjv).2
    obtain ⟨jk, hjk⟩ := natE_ok hj
    rw [hjk] at e2
    clear hj hjv hjk
    have k1 := (hT t i hi).k
    split at h
    · rename_i s q1
      rw [q1, KOk] at k1
      obtain ⟨c, hc, rfl⟩ := Option.map_eq_some_iff.1 h
      refine ⟨trivial, ?_⟩
      have hb : (⟨s.toArray⟩ : ByteArray)[j]? = some c := by
        have h0 : j < s.length := (List.getElem?_eq_some_iff.1 hc).1
        have h0' : j < (⟨s.toArray⟩ : ByteArray).size := h0
        rw [getElem?_pos (⟨s.toArray⟩ : ByteArray) j h0']
        have := (List.getElem?_eq_some_iff.1 hc).2
        rw [← this]
        rfl
      simp [e1, e2, conc, Instr.index, asIntOf, run_underlying k1, hb]
    · rename_i n e cs q1
      obtain ⟨z, hz, hh⟩ := Option.bind_eq_some_iff.1 h
      obtain ⟨y, hy, rfl⟩ := szE_ok hT hz
      rw [q1, KOk] at k1
      cases hc : Nat.blt j n with
      | false => rw [hc] at hh; cases hh
      | true =>
        rw [hc] at hh
        have hlt := blt_iff.1 hc
        rw [wf] at h1
        obtain ⟨y1, y2⟩ := partE_ok (w := w) hT h1 hh
        refine ⟨y1, ?_⟩
        simp [e1, e2, conc, Instr.index, asIntOf, run_underlying k1, hlt, size_ok hy, y2]
    · cases h
  case extract x j =>
    obtain ⟨u, hu, hh⟩ := Option.bind_eq_some_iff.1 h
    replace h := hh
    clear hh
    obtain ⟨h1, e1⟩ := rho_ok hR hu
    split at h
    · rename_i vs
      rw [wf] at h1
      refine ⟨wfs_get h1 h, ?_⟩
      have : (concs μ vs).toArray[j]? = some (conc μ v) := by rw [List.getElem?_toArray, concs_get, h]; rfl
      simp only [e1, conc, Instr.extract, this, Sem.run_bind, Sem.run_pure, Result.andThen]
    · cases h
  case call c =>
    split at h
    · rename_i hcal
      obtain ⟨t, ht, hh⟩ := Option.bind_eq_some_iff.1 h
      clear h
      obtain ⟨i, hi, h⟩ := Option.bind_eq_some_iff.1 hh
      clear hh
      obtain ⟨vs, hvs, hh⟩ := Option.bind_eq_some_iff.1 h
      clear h
      obtain ⟨h1, e1⟩ := args_ok hR hvs
      have k1 := (hT t i hi).k
      split at hh
      · rename_i x
        obtain ⟨n, hn, rfl⟩ := Option.map_eq_some_iff.1 hh
        refine ⟨trivial, ?_⟩
        simp only [concs] at e1
        have : (Builtin.len_ c.argTypes o.type #[conc μ x]).run P w = .ok (.int .i64 (Int.ofNat n)) w := by
          unfold lenE at hn
          split at hn <;> rename_i q1
          · rename_i s
            cases hn
            rw [q1, KOk] at k1
            simp [Builtin.len_, ht, run_underlying k1, conc, goInt]
            rfl
          · cases hn
            rw [q1, KOk] at k1
            simp [Builtin.len_, ht, run_underlying k1, goInt]
          · rename_i p n' c' q' 
            cases hn
            rw [q1, KOk] at k1
            cases p <;> cases q' <;> simp [Builtin.len_, ht, run_underlying k1, conc, goInt]
          · cases hn
            rw [q1, KOk] at k1
            simp [Builtin.len_, ht, run_underlying k1, conc, goInt]
          · cases hn
        simp [resolve, hcal, invoke, builtin, e1, this, conc]
      · cases hh
    · rename_i hcal
      obtain ⟨t, ht, hh⟩ := Option.bind_eq_some_iff.1 h
      clear h
      obtain ⟨i, hi, h⟩ := Option.bind_eq_some_iff.1 hh
      clear hh
      obtain ⟨vs, hvs, hh⟩ := Option.bind_eq_some_iff.1 h
      clear h
      obtain ⟨h1, e1⟩ := args_ok hR hvs
      have k1 := (hT t i hi).k
      split at hh
      · rename_i x
        obtain ⟨n, hn, rfl⟩ := Option.map_eq_some_iff.1 hh
        refine ⟨trivial, ?_⟩
        simp only [concs] at e1
        have : (Builtin.cap_ c.argTypes o.type #[conc μ x]).run P w = .ok (.int .i64 (Int.ofNat n)) w := by
          unfold capE at hn
          split at hn <;> rename_i q1
          · rename_i p n' c'
            cases hn
            rw [q1, KOk] at k1
            cases p <;> simp [Builtin.cap_, ht, run_underlying k1, conc, goInt]
          · cases hn
        simp [resolve, hcal, invoke, builtin, e1, this, conc]
      · cases hh
    · rename_i hcal
      obtain ⟨vs, hvs, hh⟩ := Option.bind_eq_some_iff.1 h
      obtain ⟨h1, e1⟩ := args_ok hR hvs
      unfold mxE at hh
      split at hh
      · cases hh
        rename_i k x k' y
        refine ⟨trivial, ?_⟩
        simp only [concs, conc] at e1
        simp only [ltB_eq]
        simp [resolve, hcal, invoke, builtin, e1, conc, Builtin.max_, Builtin.max2, Bool.cond_eq_ite]
      · cases hh
    · rename_i hcal
      obtain ⟨vs, hvs, hh⟩ := Option.bind_eq_some_iff.1 h
      obtain ⟨h1, e1⟩ := args_ok hR hvs
      unfold mnE at hh
      split at hh
      · cases hh
        rename_i k x k' y
        refine ⟨trivial, ?_⟩
        simp only [concs, conc] at e1
        simp only [ltB_eq]
        simp [resolve, hcal, invoke, builtin, e1, conc, Builtin.min_, Builtin.min2, Bool.cond_eq_ite]
      · cases hh
    · cases h
end
end Go.Proofs.YtaocoplfdhcoaaaGreatDoor.Ev
set_option linter.unusedVariables false
set_option linter.unusedSimpArgs false
namespace Go.Proofs.YtaocoplfdhcoaaaGreatDoor.Ev
open Go Go.RowKit

/-- The evaluator's heap lies in the world: blocks from lo0 on are the run's own (from N0 on), each in a block of its own. -/
structure Sim (lo0 N0 : Nat) (S : Nat → Prop) (μ : Nat → Loc) (h : T Blk) (w : World) : Prop where
  size : N0 ≤ w.heap.size
  blk : ∀ b k, h.get b = some k → S b ∧ wfs S μ k.cells ∧ k.cells.length ≤ (μ b).ext ∧ ∃ arr fr, w.heap[(μ b).blk]? = some (.cells arr k.ty fr) ∧ (μ b).base + (μ b).ext ≤ arr.size ∧
    (∀ i v, k.cells[i]? = some v → arr[(μ b).base + i]? = some (conc μ v)) ∧ (lo0 ≤ b → N0 ≤ (μ b).blk ∧ ∀ i, i < arr.size → ¬ (fr.1 ≤ i ∧ i < fr.2))
  inj : ∀ b b', lo0 ≤ b → (h.get b).isSome = true → (h.get b').isSome = true → b ≠ b' → (μ b).blk ≠ (μ b').blk
/-- More is known. -/
def Agree (S : Nat → Prop) (μ μ' : Nat → Loc) : Prop := ∀ b, S b → μ' b = μ b
def Plus (S : Nat → Prop) (c c' : Nat) : Nat → Prop := fun b => S b ∨ (c ≤ b ∧ b < c')
theorem Agree.refl (S : Nat → Prop) (μ : Nat → Loc) : Agree S μ μ := fun _ _ => rfl
section
variable {P : Program} {E : Env} {S S' : Nat → Prop} {μ μ' : Nat → Loc} {m : T AV} {a : Act} {w w' : World} {lo0 N0 : Nat} {h : T Blk}

theorem sim_cell (hs : Sim lo0 N0 S μ h w) {b : Nat} {k : Blk} (hb : h.get b = some k) {i : Nat} {v : AV} (hv : k.cells[i]? = some v) : w.cell? ⟨(μ b).blk, (μ b).base + i, none⟩ = some (conc μ v) := by
  obtain ⟨_, _, _, arr, fr, ha, _, hc, _⟩ := hs.blk b k hb
  simp only [World.cell?, ha]
  simpa using hc i v hv
theorem cellsAt_ok (hs : Sim lo0 N0 S μ h w) {b o n : Nat} {cs : List AV} (hc : cellsAt h b o n = some cs) :
    wfs S μ cs ∧ cs.length = n ∧ ∀ j v, (concs μ cs)[j]? = some v → w.cell? ((⟨(μ b).blk, (μ b).base + o, none⟩ : Addr).add j) = some v := by
  obtain ⟨k, hk, hc⟩ := Option.bind_eq_some_iff.1 hc
  cases hl : Nat.ble (o + n) k.cells.length with
  | false => rw [hl] at hc; cases hc
  | true =>
    rw [hl] at hc
    cases hc
    have hl' := ble_iff.1 hl
    refine ⟨wfs_take (wfs_drop (hs.blk b k hk).2.1 _) _, by simp; omega, fun j v hj => ?_⟩
    rw [concs_get] at hj
    obtain ⟨u, hu, rfl⟩ := Option.map_eq_some_iff.1 hj
    rw [add_at, Nat.add_assoc]
    refine sim_cell hs hk ?_
    rw [List.getElem?_take] at hu
    split at hu
    · rwa [List.getElem?_drop] at hu
    · cases hu
theorem loadE_ok (hT : TTOk P E.tt) (hs : Sim lo0 N0 S μ h w) {t : Nat} {x v : AV} {c : Nat} (hv : loadE E ⟨h, c⟩ t x = some v) : wf S μ v ∧ (Instr.loadAt t (conc μ x)).run P w = .ok (conc μ v) w := by
  unfold loadE at hv
  split at hv
  · rename_i b o
    obtain ⟨i, hi, hv⟩ := Option.bind_eq_some_iff.1 hv
    have hok := hT t i hi
    cases hag : i.k.agg with
    | true =>
      rw [hag] at hv
      obtain ⟨cs, hc, rfl⟩ := Option.map_eq_some_iff.1 hv
      obtain ⟨h1, h2, h3⟩ := cellsAt_ok hs hc
      refine ⟨by rw [wf]; exact h1, ?_⟩
      have hl := run_loadCells_list (P := P) w _ (concs μ cs) h3
      rw [concs_length, h2] at hl
      simp [Instr.loadAt, Instr.sureAddr, conc, loadVar, agg_ok hok, hag, size_ok hok, hl]
    | false =>
      rw [hag] at hv
      obtain ⟨k, hk, hv⟩ := Option.bind_eq_some_iff.1 hv
      have hc := sim_cell hs hk hv
      refine ⟨wfs_get (hs.blk b k hk).2.1 hv, ?_⟩
      simp [Instr.loadAt, Instr.sureAddr, conc, loadVar, agg_ok hok, hag, hc]
  · cases hv

/-! ### A block that is new -/
theorem wfs_ones : ∀ {cs : List AV}, ones cs = true → ∀ v ∈ cs, v.one = true
  | [], _, v, hv => by simp at hv
  | x :: xs, h, v, hv => by
    rw [ones, Bool.and_eq_true] at h
    rcases List.mem_cons.1 hv with rfl | hv
    · exact h.1
    · exact wfs_ones h.2 v hv
def upd (μ : Nat → Loc) (c : Nat) (l : Loc) : Nat → Loc := fun b => if b = c then l else μ b
theorem upd_agree {c : Nat} {l : Loc} (hc : ¬ S c) : Agree S μ (upd μ c l) := fun b hb => by
  unfold upd
  rw [if_neg (fun e => hc (by rw [← e]; exact hb))]
/-- What is old and lies as it did stays; one block is new. w1: the world with the block. -/
theorem sim_new (hs : Sim lo0 N0 S μ h w) {c : Nat} (hc : ¬ S c) (hlo : lo0 ≤ c) {ty : Nat} {cells : List AV} (hw : wfs S μ cells) {w1 : World} {l : Loc} {arr : Array Value}
    (hblk : N0 ≤ l.blk) (hsz : N0 ≤ w1.heap.size) {fr : Nat × Nat} (hnew : w1.heap[l.blk]? = some (.cells arr ty fr)) (hfr : ∀ i, i < arr.size → ¬ (fr.1 ≤ i ∧ i < fr.2)) (hext : l.base + l.ext ≤ arr.size) (hlen : cells.length ≤ l.ext)
    (hcell : ∀ (i : Nat) (v : AV), cells[i]? = some v → arr[l.base + i]? = some (conc μ v)) (hold : ∀ b, (h.get b).isSome = true → w1.heap[(μ b).blk]? = w.heap[(μ b).blk]? ∧ (μ b).blk ≠ l.blk) :
    Sim lo0 N0 (Plus S c (c + 1)) (upd μ c l) (h.set c ⟨ty, cells⟩) w1 := by
  have hag := upd_agree (μ := μ) (l := l) hc
  have hSS : ∀ b, S b → Plus S c (c + 1) b := fun b hb => .inl hb
  have hne : ∀ b, (h.get b).isSome = true → b ≠ c := fun b hb e => by
    obtain ⟨k, hk⟩ := Option.isSome_iff_exists.1 hb
    exact hc (by rw [← e]; exact (hs.blk b k hk).1)
  refine ⟨hsz, fun b k hk => ?_, fun b b' hb h1 h2 hbb => ?_⟩
  · rw [T.get_set] at hk
    by_cases e : c = b
    · subst e
      rw [if_pos rfl] at hk
      cases hk
      have hu : upd μ c l c = l := by unfold upd; rw [if_pos rfl]
      refine ⟨.inr ⟨Nat.le_refl _, Nat.lt_succ_self _⟩, wfs_agree hag hSS _ hw, by rw [hu]; exact hlen, ?_⟩
      rw [hu]
      refine ⟨arr, fr, hnew, hext, fun i v hv => ?_, fun _ => ⟨hblk, hfr⟩⟩
      rw [conc_agree hag v (wfs_get hw hv)]
      exact hcell i v hv
    · rw [if_neg e] at hk
      obtain ⟨h1, h2, h3, arr', fr, h4, h5, h6, h7⟩ := hs.blk b k hk
      have hu : upd μ c l b = μ b := by unfold upd; rw [if_neg (fun x => e x.symm)]
      refine ⟨.inl h1, wfs_agree hag hSS _ h2, by rw [hu]; exact h3, arr', fr, ?_, by rw [hu]; exact h5, fun i v hv => ?_, by rw [hu]; exact h7⟩
      · rw [hu, (hold b (by rw [hk]; rfl)).1]; exact h4
      · rw [hu, conc_agree hag v (wfs_get h2 hv)]
        exact h6 i v hv
  · have key : ∀ x, x ≠ c → ((h.set c ⟨ty, cells⟩).get x).isSome = true → (h.get x).isSome = true ∧ upd μ c l x = μ x := fun x hx h0 => by
      rw [T.get_set, if_neg (fun e => hx e.symm)] at h0
      exact ⟨h0, by unfold upd; rw [if_neg hx]⟩
    have hc' : upd μ c l c = l := by unfold upd; rw [if_pos rfl]
    by_cases e : b = c
    · subst e
      obtain ⟨g1, g2⟩ := key b' (fun e => hbb e.symm) h2
      rw [hc', g2]
      exact fun x => (hold b' g1).2 x.symm
    · obtain ⟨g1, g2⟩ := key b e h1
      by_cases e' : b' = c
      · subst e'
        rw [hc', g2]
        exact (hold b g1).2
      · obtain ⟨g3, g4⟩ := key b' e' h2
        rw [g2, g4]
        exact hs.inj b b' hb g1 g3 hbb
theorem sim_lt (hs : Sim lo0 N0 S μ h w) {b : Nat} (hb : (h.get b).isSome = true) : (μ b).blk < w.heap.size := by
  obtain ⟨k, hk⟩ := Option.isSome_iff_exists.1 hb
  obtain ⟨_, _, _, arr, fr, ha, _⟩ := hs.blk b k hk
  exact (Array.getElem?_eq_some_iff.1 ha).1
/-- A new block behind all others. -/
theorem sim_alloc (hs : Sim lo0 N0 S μ h w) {c : Nat} (hc : ¬ S c) (hlo : lo0 ≤ c) {ty : Nat} {cells : List AV} (hw : wfs S μ cells) {arr : Array Value} {ext : Nat} (hext : ext ≤ arr.size) (hlen : cells.length ≤ ext)
    (hcell : ∀ (i : Nat) (v : AV), cells[i]? = some v → arr[i]? = some (conc μ v)) {w1 : World} (h1 : w1.heap = w.heap.push (.cells arr ty (0, 0)) ) :
    Sim lo0 N0 (Plus S c (c + 1)) (upd μ c ⟨w.heap.size, 0, ext, none⟩) (h.set c ⟨ty, cells⟩) w1 := by
  refine sim_new hs hc hlo hw (l := ⟨w.heap.size, 0, ext, none⟩) (arr := arr) hs.size ?_ (fr := (0, 0)) ?_ (fun i _ => by simp) (by simpa using hext) hlen (fun i v hv => by simpa using hcell i v hv) fun b hb => ?_
  · rw [h1, Array.size_push]; exact Nat.le_succ_of_le hs.size
  · rw [h1]; simp
  · have := sim_lt hs hb
    refine ⟨?_, by simp only; omega⟩
    rw [h1, Array.getElem?_push_lt this, ← Array.getElem?_eq_getElem this]
/-! ### A write -/
theorem setCell_heap (w : World) (g o : Nat) (v : Value) (arr : Array Value) (ty : Nat) (fr : Nat × Nat) (hg : w.heap[g]? = some (.cells arr ty fr)) :
    (w.setCell ⟨g, o, none⟩ v).heap[g]? = some (.cells (arr.setIfInBounds o v) ty fr) ∧ (∀ k, k ≠ g → (w.setCell ⟨g, o, none⟩ v).heap[k]? = w.heap[k]?) ∧ (w.setCell ⟨g, o, none⟩ v).heap.size = w.heap.size := by
  have hlt : g < w.heap.size := (Array.getElem?_eq_some_iff.1 hg).1
  have hv : w.heap[g] = .cells arr ty fr := (Array.getElem?_eq_some_iff.1 hg).2
  refine ⟨?_, fun k hk => Below.heap_setCell w ⟨g, o, none⟩ v k hk, by simp [World.setCell]⟩
  unfold World.setCell
  rw [Array.getElem?_eq_getElem (by simpa using hlt), Array.getElem_modify]
  simp [hv]
theorem setCells_heap (g : Nat) (ty : Nat) (fr : Nat × Nat) : ∀ (vs : List Value) (o : Nat) (w : World) (arr : Array Value), w.heap[g]? = some (.cells arr ty fr) → o + vs.length ≤ arr.size →
    (∃ arr', (w.setCells g o vs).heap[g]? = some (.cells arr' ty fr) ∧ arr'.size = arr.size ∧ (∀ j v, vs[j]? = some v → arr'[o + j]? = some v) ∧ ∀ i, (i < o ∨ o + vs.length ≤ i) → arr'[i]? = arr[i]?) ∧
      (∀ k, k ≠ g → (w.setCells g o vs).heap[k]? = w.heap[k]?) ∧ (w.setCells g o vs).heap.size = w.heap.size
  | [], o, w, arr, hg, _ => ⟨⟨arr, hg, rfl, fun j v h => by simp at h, fun _ _ => rfl⟩, fun _ _ => rfl, rfl⟩
  | v :: vs, o, w, arr, hg, hl => by
    obtain ⟨h1, h2, h3⟩ := setCell_heap w g o v arr ty fr hg
    have hl' : o + 1 + vs.length ≤ (arr.setIfInBounds o v).size := by simp at hl ⊢; omega
    obtain ⟨⟨arr', g1, g2, g3, g4⟩, g5, g6⟩ := setCells_heap g ty fr vs (o + 1) _ _ h1 hl'
    refine ⟨⟨arr', g1, by simpa using g2, fun j u hj => ?_, fun i hi => ?_⟩, fun k hk => (g5 k hk).trans (h2 k hk), g6.trans h3⟩
    · cases j with
      | zero =>
        simp at hj
        subst hj
        have ho : o < arr.size := by simp at hl; omega
        rw [Nat.add_zero, g4 o (.inl (Nat.lt_succ_self _))]
        simp [ho]
      | succ j =>
        have := g3 j u (by simpa using hj)
        rw [show o + (j + 1) = o + 1 + j by omega]
        exact this
    · rw [g4 i (by simp at hi; omega)]
      have : o ≠ i := by simp at hi; omega
      simp [Array.getElem?_setIfInBounds, this]
theorem below_cells {g : Nat} (hg : N0 ≤ g) : ∀ (vs : List Value) (o : Nat) (w : World), Below N0 w (w.setCells g o vs)
  | [], _, _ => Below.refl _ _
  | v :: vs, o, w => ((Below.refl N0 w).setCell (p := ⟨g, o, none⟩) hg v).trans (below_cells hg vs (o + 1) _)
theorem putL_get {cs vs : List AV} {o : Nat} (h : o + vs.length ≤ cs.length) (i : Nat) : (putL cs o vs)[i]? = if i < o then cs[i]? else if i < o + vs.length then vs[i - o]? else cs[i]? := by
  unfold putL
  rw [List.getElem?_append, List.length_take, Nat.min_eq_left (by omega)]
  split
  · rw [List.getElem?_take, if_pos (by assumption)]
  · rw [List.getElem?_append]
    split
    · rw [if_pos (by omega)]
    · rw [if_neg (by omega), List.getElem?_drop]
      congr 1
      omega
/-- Cells of a live block of the run's own are written. -/
theorem putAt_ok {lo b o : Nat} {vs : List AV} {s s' : St} (hs : Sim lo0 N0 S μ s.h w) (hlo : lo0 ≤ lo) (hv : wfs S μ vs) (hp : putAt lo s b o vs = some s') :
    s'.c = s.c ∧ lo ≤ b ∧ (storeCells ⟨(μ b).blk, (μ b).base + o, none⟩ (concs μ vs)).run P w = .ok () (w.setCells (μ b).blk ((μ b).base + o) (concs μ vs)) ∧
      Sim lo0 N0 S μ s'.h (w.setCells (μ b).blk ((μ b).base + o) (concs μ vs)) ∧ Below N0 w (w.setCells (μ b).blk ((μ b).base + o) (concs μ vs)) ∧ ∃ k, s.h.get b = some k ∧ s'.h = s.h.set b ⟨k.ty, putL k.cells o vs⟩ ∧ o + vs.length ≤ k.cells.length := by
  obtain ⟨k, hk, hp⟩ := Option.bind_eq_some_iff.1 hp
  cases hc : Nat.ble lo b && Nat.ble (o + vs.length) k.cells.length && ones vs with
  | false => rw [hc] at hp; cases hp
  | true =>
    rw [hc] at hp
    cases hp
    simp only [Bool.and_eq_true, ble_iff] at hc
    obtain ⟨⟨c1, c2⟩, c3⟩ := hc
    obtain ⟨h1, h2, h3, arr, fr, ha, he, hcell, hown⟩ := hs.blk b k hk
    obtain ⟨hN, hfr⟩ := hown (Nat.le_trans hlo c1)
    have hlen : (concs μ vs).length = vs.length := concs_length vs
    have hfit : (μ b).base + o + (concs μ vs).length ≤ arr.size := by rw [hlen]; omega
    obtain ⟨⟨arr', g1, g2, g3, g4⟩, g5, g6⟩ := setCells_heap (μ b).blk k.ty fr (concs μ vs) ((μ b).base + o) w arr ha hfit
    refine ⟨rfl, c1, ?_, ?_, below_cells hN _ _ _, k, hk, rfl, c2⟩
    · have := run_storeCells_cells (P := P) (μ b).blk ((μ b).base + o) (concs μ vs) 0 w (fun j hj => ?_) (fun j hj => ?_) (fun v hv' => ?_)
      · simpa using this
      · simp only [World.cell?, ha, Nat.add_zero]
        rw [Array.getElem?_eq_getElem (by omega)]
        rfl
      · simp only [World.frozen?, ha, Nat.add_zero]
        have := hfr ((μ b).base + o + j) (by omega)
        simp at this ⊢
        omega
      · rw [concs_map] at hv'
        obtain ⟨u, hu, rfl⟩ := List.mem_map.1 hv'
        exact one_conc (wfs_ones c3 u hu)
    · refine ⟨by rw [g6]; exact hs.size, fun b' k' hk' => ?_, fun x y hx h1 h2 hxy => ?_⟩
      · simp only [T.get_set] at hk'
        by_cases e : b = b'
        · subst e
          rw [if_pos rfl] at hk'
          cases hk'
          refine ⟨h1, wfs_put h2 hv _, by simp only; rw [putL_length c2]; exact h3, arr', fr, g1, by rw [g2]; exact he, fun i v hi => ?_, fun hb => ⟨hN, fun i hi => hfr i (by rw [← g2]; exact hi)⟩⟩
          simp only at hi
          rw [putL_get c2] at hi
          split at hi
          · rw [g4 _ (.inl (by omega))]; exact hcell i v hi
          · split at hi
            · have := g3 (i - o) (conc μ v) (by rw [concs_get, hi]; rfl)
              rw [show (μ b).base + i = (μ b).base + o + (i - o) by omega]
              exact this
            · rw [g4 _ (.inr (by rw [hlen]; omega))]; exact hcell i v hi
        · rw [if_neg e] at hk'
          obtain ⟨q1, q2, q3, arr2, fr2, q4, q5, q6, q7⟩ := hs.blk b' k' hk'
          have hne : (μ b').blk ≠ (μ b).blk := fun x => hs.inj b b' (Nat.le_trans hlo c1) (by rw [hk]; rfl) (by rw [hk']; rfl) e x.symm
          exact ⟨q1, q2, q3, arr2, fr2, by rw [g5 _ hne]; exact q4, q5, q6, q7⟩
      · have key : ∀ z, ((s.h.set b ⟨k.ty, putL k.cells o vs⟩).get z).isSome = true → (s.h.get z).isSome = true := fun z hz => by
          rw [T.get_set] at hz
          split at hz
          · rename_i e; subst e; rw [hk]; rfl
          · exact hz
        exact hs.inj x y hx (key x h1) (key y h2) hxy
theorem sim_del (hs : Sim lo0 N0 S μ h w) (b : Nat) : Sim lo0 N0 S μ (h.del b) w := by
  have key : ∀ z k, (h.del b).get z = some k → h.get z = some k := fun z k hz => by
    rw [T.get_del] at hz
    split at hz
    · cases hz
    · exact hz
  refine ⟨hs.size, fun z k hz => hs.blk z k (key z k hz), fun x y hx h1 h2 hxy => ?_⟩
  obtain ⟨k1, hk1⟩ := Option.isSome_iff_exists.1 h1
  obtain ⟨k2, hk2⟩ := Option.isSome_iff_exists.1 h2
  exact hs.inj x y hx (by rw [key x k1 hk1]; rfl) (by rw [key y k2 hk2]; rfl) hxy
end
end Go.Proofs.YtaocoplfdhcoaaaGreatDoor.Ev
set_option linter.unusedVariables false
set_option linter.unusedSimpArgs false
namespace Go.Proofs.YtaocoplfdhcoaaaGreatDoor.Ev
open Go Go.RowKit

/-- An operation runs, comes to a value (or to none), and leaves a world. -/
def Done (P : Program) (o : Oper) (a : Act) (w : World) (post : Value → World → Prop) : Prop :=
  ∃ n w' v, (execOp a.eval o).run P w = .ok n w' ∧ (n = .value v ∨ (n = .skip ∧ v = undef)) ∧ post v w'
theorem Done.wp {P : Program} {o : Oper} {a : Act} {w : World} {post : Value → World → Prop} {next : Act → World → Prop} {Q : Exit → Act → World → Prop} (h : Done P o a w post) (k : ∀ v w', post v w' → next (a.put o.dst v) w') : o.wp P a w next Q := by
  obtain ⟨n, w', v, h1, h2, h3⟩ := h
  unfold Oper.wp
  rw [h1]
  rcases h2 with rfl | ⟨rfl, rfl⟩
  · exact k v w' h3
  · exact k undef w' h3
def HPost (lo0 N0 : Nat) (S : Nat → Prop) (μ : Nat → Loc) (s s' : St) (w : World) (v : AV) : Value → World → Prop := fun u w' =>
  ∃ μ', Agree S μ μ' ∧ Sim lo0 N0 (Plus S s.c s'.c) μ' s'.h w' ∧ wf (Plus S s.c s'.c) μ' v ∧ u = conc μ' v ∧ Below N0 w w'
section
variable {P : Program} {E : Env} {S S' : Nat → Prop} {μ μ' : Nat → Loc} {m : T AV} {a : Act} {w w' : World} {lo0 N0 lo : Nat}
theorem plus_same (S : Nat → Prop) (c : Nat) : ∀ b, Plus S c c b ↔ S b := fun b => ⟨fun h => h.elim id (fun h => by omega), .inl⟩
theorem Sim.congr {h : T Blk} (hs : Sim lo0 N0 S μ h w) (hS : ∀ b, S b → S' b) : Sim lo0 N0 S' μ h w :=
  ⟨hs.size, fun b k hk => by
    obtain ⟨q1, q2, q3⟩ := hs.blk b k hk
    exact ⟨hS b q1, wfs_agree (Agree.refl S μ) hS _ q2, q3⟩, hs.inj⟩
/-- Nothing is made. -/
theorem HPost.same {s s' : St} (hc : s'.c = s.c) (hs : Sim lo0 N0 S μ s'.h w') {v : AV} (hw : wf S μ v) (hb : Below N0 w w') : HPost lo0 N0 S μ s s' w v (conc μ v) w' :=
  ⟨μ, Agree.refl _ _, hs.congr (fun b hb => .inl hb), wf_agree (Agree.refl _ _) (fun b hb => .inl hb) v hw, rfl, hb⟩
theorem run_newRow (ty : Nat) (arr : Array Value) (w : World) : (newRow ty arr).run P w = .ok ⟨w.heap.size, 0, none⟩ { w with heap := w.heap.push (.cells arr ty) } := rfl
theorem below_push (hN : N0 ≤ w.heap.size) (o : Obj) : Below N0 w { w with heap := w.heap.push o } :=
  ⟨rfl, rfl, rfl, by simp, fun k hk => by simp only; rw [Array.getElem?_push_lt (by omega), ← Array.getElem?_eq_getElem (by omega)]⟩
theorem newAt_ok {s s' : St} {ty : Nat} {cells : List AV} (h : newAt s ty cells = some s') : ones cells = true ∧ s' = ⟨s.h.set s.c ⟨ty, cells⟩, s.c + 1⟩ := by
  unfold newAt at h
  cases ho : ones cells with
  | false => rw [ho] at h; cases h
  | true => rw [ho] at h; cases h; exact ⟨rfl, rfl⟩
theorem fresh {s s' : St} (hf : ∀ b, S b → b < s.c ∨ s'.c ≤ b) (hc : s'.c = s.c + 1) : ¬ S s.c := fun h => by have := hf _ h; omega
/-- A row of just these cells is made. -/
theorem made_ok {s s' : St} (hs : Sim lo0 N0 S μ s.h w) (hlo : lo0 ≤ s.c) (hf : ∀ b, S b → b < s.c ∨ s'.c ≤ b) {ty : Nat} {cells : List AV} (h : newAt s ty cells = some s') (hw : wfs S μ cells) (v : AV)
    (hv : ∀ l : Loc, l.blk = w.heap.size → l.base = 0 → l.ext = cells.length → wf (Plus S s.c s'.c) (upd μ s.c l) v) :
    s.c ≤ s'.c ∧ ∃ μ', μ' s.c = ⟨w.heap.size, 0, cells.length, none⟩ ∧ HPost lo0 N0 S μ s s' w v (conc μ' v) { w with heap := w.heap.push (.cells (concs μ cells).toArray ty) } := by
  obtain ⟨ho, rfl⟩ := newAt_ok h
  refine ⟨Nat.le_succ _, upd μ s.c ⟨w.heap.size, 0, cells.length, none⟩, by unfold upd; rw [if_pos rfl], upd μ s.c ⟨w.heap.size, 0, cells.length, none⟩, upd_agree (fresh hf rfl), ?_, hv _ rfl rfl rfl, rfl, below_push hs.size _⟩
  exact sim_alloc hs (fresh hf rfl) hlo hw (arr := (concs μ cells).toArray) (by simp [concs_length]) (Nat.le_refl _) (fun i v hi => by rw [List.getElem?_toArray, concs_get, hi]; rfl) rfl
/-! ### Rows of zeros -/
theorem reps_conc (n : Nat) (z : List AV) : concs μ (reps n z) = (List.replicate n (concs μ z)).flatten := by
  induction n with
  | zero => rfl
  | succ n ih => rw [reps, concs_append, ih, List.replicate_succ, List.flatten_cons]
theorem reps_length (n : Nat) (z : List AV) : (reps n z).length = n * z.length := by
  induction n with
  | zero => simp [reps]
  | succ n ih => rw [reps, List.length_append, ih, Nat.add_mul]; omega
theorem reps_wfs {z : List AV} (hz : wfs S μ z) : ∀ n, wfs S μ (reps n z)
  | 0 => trivial
  | n + 1 => wfs_append hz (reps_wfs hz n)
theorem range_reps (z : List Value) (n : Nat) : ((Array.range (n * z.length)).map fun i => z.toArray[i % z.toArray.size]!) = ((List.replicate n z).flatten).toArray := by
  apply Array.ext'
  simp only [Array.toList_map, Array.toList_range, List.size_toArray]
  induction n with
  | zero => simp
  | succ n ih =>
    rw [List.replicate_succ, List.flatten_cons, ← ih, Nat.add_mul, Nat.one_mul, Nat.add_comm, List.range_add, List.map_append, List.map_map]
    congr 1
    · apply List.ext_getElem?
      intro i
      by_cases hi : i < z.length
      · simp [hi, Nat.mod_eq_of_lt hi]
      · simp [hi]
    · apply List.map_congr_left
      intro i _
      simp
theorem zeroCells_ok (z : List AV) (n : Nat) : Builtin.zeroCells (concs μ z).toArray n = (concs μ (reps n z)).toArray := by
  unfold Builtin.zeroCells
  rw [reps_conc, ← range_reps]
  simp
theorem zero_cells {t : Nat} {i : TI} (hi : TOk P t i) : wfs S μ i.zero.cells ∧ (conc μ i.zero).cells = (concs μ i.zero.cells).toArray ∧ i.zero.cells.length = i.size := by
  obtain ⟨x, z, hx, hs, hb, hz, hza, hzl, hzo⟩ := hi.info
  exact ⟨wfs_cells (absV_ok hza S μ).2, cells_conc μ _, hzl⟩
/-- The row that make and a literal begin with. -/
theorem row_zero {t : Nat} {i : TI} (hi : TOk P t i) (n : Nat) :
    (do let zero ← if n * i.size = 0 then pure #[] else do pure (← zeroValue t).cells
        pure ((Array.range (n * i.size)).map (zero[· % zero.size]!)) : Sem (Array Value)).run P w = .ok (concs μ (reps n i.zero.cells)).toArray w := by
  obtain ⟨_, h2, h3⟩ := zero_cells (S := fun _ => True) (μ := μ) hi
  by_cases h0 : n * i.size = 0
  · rw [if_pos h0]
    have : reps n i.zero.cells = [] := List.eq_nil_of_length_eq_zero (by rw [reps_length, h3, h0])
    simp [this, h0, concs]
  · rw [if_neg h0]
    simp only [Sem.run_bind, zero_ok hi μ, Result.andThen, Sem.run_pure, h2]
    rw [← h3, reps_conc, ← range_reps]
    simp [concs_length]
end
end Go.Proofs.YtaocoplfdhcoaaaGreatDoor.Ev

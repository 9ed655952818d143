/- append, held against the model's. -/
import Derived.Test.YtaocoplfdhcoaaaGreatDoorEvS1
import Derived.Laws.NewFold
import Derived.Laws.BytesArg
import Derived.Laws.IdiomStrings
set_option linter.unusedVariables false
set_option linter.unusedSimpArgs false
namespace Go.Proofs.YtaocoplfdhcoaaaGreatDoor.Ev
open Go Go.RowKit
section
variable {P : Program} {w : World}
/-- How many are appended, and what they are: 'wi': one of the two worlds in which this is asked. -/
structure Apnd (P : Program) (t1 e size : Nat) (x : Value) (n : Nat) (new : Array Value) (w : World) : Prop where
  le : n ≤ 70368744177664
  how : (∃ d, P.underlying t1 = some d ∧ (∀ k, d ≠ .int k) ∧ (Builtin.lenOf x).run P w = .ok n w ∧ (Builtin.firstCells size n x).run P w = .ok new w) ∨
    (∃ k q, P.underlying t1 = some (.int k) ∧ x = .int q (n : Int) ∧ ∀ w', (if n * size = 0 then (pure #[] : Sem (Array Value)) else do pure (Builtin.zeroCells (← zeroValue e).cells n)).run P w' = .ok new w')
theorem wrap_nat {n : Nat} (h : n ≤ 70368744177664) : IntKind.i64.wrap (n : Int) = (n : Int) := wrap_i64 _ (by omega) (by omega)
theorem app_room {t t1 ty e : Nat} {j : TI} (hu : P.underlying t = some (.slice e)) (hj : TOk P e j) {x : Value} {n : Nat} {new : Array Value} (ha : Apnd P t1 e j.size x n new w) (hb : n * j.bytes ≤ 70368744177664)
    {base : Option Addr} {sLen sCap : Nat} (hc : sLen + n ≤ sCap) {w' : World} (hst : (match base with | some a => storeCells (a.add (sLen * j.size)) new.toList | none => pure ()).run P w = .ok () w') :
    (Builtin.append_ #[t, t1] ty #[.slice base sLen sCap, x]).run P w = .ok (.slice base (sLen + n) sCap) w' := by
  obtain ⟨xi, z, hx, hs, hby, hz, _⟩ := hj.info
  rcases ha.how with ⟨d, hd, hdi, h1, h2⟩ | ⟨k, q, hd, rfl, h2⟩
  · unfold Builtin.append_
    have e1 : (#[t, t1] : Array Nat)[0]? = some t := rfl
    have e2 : (#[t, t1] : Array Nat)[1]? = some t1 := rfl
    have e3 : (#[.slice base sLen sCap, x] : Array Value)[0]? = some (.slice base sLen sCap) := rfl
    have e4 : (#[.slice base sLen sCap, x] : Array Value)[1]? = some x := rfl
    simp only [e1, e2, e3, e4, Sem.run_bind, run_underlying hu, run_underlying hd, Result.andThen, size_ok hj, Sem.run_pure]
    simp only [Bool.false_eq_true, if_false, Sem.run_bind, h1, Result.andThen, if_pos hc, Bool.not_false, if_true, h2]
    cases base with
    | none => simp only [Sem.run_pure] at hst ⊢; cases hst; rfl
    | some b => simp only [Sem.run_bind, hst, Result.andThen, Sem.run_pure]
  · have hw : IntKind.i64.wrap (n : Int) = (n : Int) := wrap_nat ha.le
    have h48 : ¬ ((n : Int) * (xi.bytes : Int) > 2 ^ 48) := by
      rw [hby]
      have : ((n * j.bytes : Nat) : Int) ≤ 70368744177664 := by omega
      rw [Int.natCast_mul] at this
      omega
    have hlt : ¬ ((n : Int) < 0) := by omega
    have h3 := h2 w
    have hti : (typeInfo e).run P w = .ok xi w := run_typeInfo w hx
    unfold Builtin.append_
    have e1 : (#[t, t1] : Array Nat)[0]? = some t := rfl
    have e2 : (#[t, t1] : Array Nat)[1]? = some t1 := rfl
    have e3 : (#[.slice base sLen sCap, .int q (n : Int)] : Array Value)[0]? = some (.slice base sLen sCap) := rfl
    have e4 : (#[.slice base sLen sCap, .int q (n : Int)] : Array Value)[1]? = some (.int q (n : Int)) := rfl
    simp only [e1, e2, e3, e4, Sem.run_bind, run_underlying hu, run_underlying hd, Result.andThen, size_ok hj, Sem.run_pure]
    simp only [if_true, asInt, asIntOf, Sem.run_bind, Sem.run_pure, Result.andThen, hw, if_neg hlt, hti, if_neg h48, Int.toNat_natCast, if_pos hc, Bool.not_true, Bool.false_eq_true, if_false]
    rw [h3]
    simp only
    cases base with
    | none => simp only [Sem.run_pure] at hst ⊢; cases hst; rfl
    | some b => simp only [Sem.run_bind, hst, Result.andThen, Sem.run_pure]
theorem app_grow {t t1 ty e : Nat} {j : TI} (hu : P.underlying t = some (.slice e)) (hj : TOk P e j) {x : Value} {n : Nat} {new : Array Value} (ha : Apnd P t1 e j.size x n new w) (ha' : Apnd P t1 e j.size x n new w.drew)
    {base : Option Addr} {sLen sCap : Nat} (hb : (sLen + n) * j.bytes ≤ 70368744177664) (hn : sLen + n ≤ 70368744177664) (hc : sCap < sLen + n) {old : Array Value} (ho : (Builtin.firstCells j.size sLen (.slice base sLen sCap)).run P w.drew = .ok old w.drew) (μ : Nat → Loc) :
    (Builtin.append_ #[t, t1] ty #[.slice base sLen sCap, x]).run P w =
      .ok (.slice (some ⟨w.heap.size, 0, none⟩) (sLen + n) (grownCap w (sLen + n) sCap e)) { w.drew with heap := w.heap.push (.cells (old ++ new ++ (concs μ (reps (grownCap w (sLen + n) sCap e - (sLen + n)) j.zero.cells)).toArray) e) } := by
  obtain ⟨xi, z, hx, hs, hby, hz, hza, hzl, hzo⟩ := hj.info
  have hzv : z.cells = (concs μ j.zero.cells).toArray := by rw [← (absV_ok hza (fun _ => True) μ).1, cells_conc]
  have hti : ∀ w, (typeInfo e).run P w = .ok xi w := fun w => run_typeInfo w hx
  have hzz : ∀ w, (zeroValue e).run P w = .ok z w := fun w => by simp [zeroValue, typeInfo, hx, hz]
  have hc' : ¬ (sLen + n ≤ sCap) := by omega
  have hfit : ¬ (Builtin.nextslicecap (sLen + n) sCap * xi.bytes > 2 ^ 48) := by
    rw [hby]
    have := growslice_fits (bytes := j.bytes) hc (by omega)
    omega
  have h63 : ¬ (((sLen + n : Nat) : Int) > IntKind.i64.max) := by
    have : IntKind.i64.max = 9223372036854775807 := rfl
    rw [this]; omega
  have hq : (Question.appendCap (sLen + n) sCap e).forced = false := rfl
  have hch : (choose (Question.appendCap (sLen + n) sCap e)).run P w = .ok (grownCap w (sLen + n) sCap e) w.drew := by
    rw [run_choose_drew, hq]; rfl
  rcases ha.how with ⟨d, hd, hdi, h1, h2⟩ | ⟨k, q, hd, rfl, h2⟩
  · have h2' : (Builtin.firstCells j.size n x).run P w.drew = .ok new w.drew := by
      rcases ha'.how with ⟨d', hd', _, _, h⟩ | ⟨k, q, hd', _, _⟩
      · exact h
      · rw [hd] at hd'; cases hd'; exact absurd rfl (hdi k)
    unfold Builtin.append_
    have e1 : (#[t, t1] : Array Nat)[0]? = some t := rfl
    have e2 : (#[t, t1] : Array Nat)[1]? = some t1 := rfl
    have e3 : (#[.slice base sLen sCap, x] : Array Value)[0]? = some (.slice base sLen sCap) := rfl
    have e4 : (#[.slice base sLen sCap, x] : Array Value)[1]? = some x := rfl
    simp only [e1, e2, e3, e4, Sem.run_bind, run_underlying hu, run_underlying hd, Result.andThen, size_ok hj, Sem.run_pure]
    simp only [Bool.false_eq_true, if_false, Sem.run_bind, h1, Result.andThen, if_neg hc', Bool.not_false, if_true, hti, h63, false_and, if_neg hfit, hch, run_askRoom, ho, h2', hzz, Sem.run_pure, run_newRow, hzv, zeroCells_ok]
    rfl
  · have hw : IntKind.i64.wrap (n : Int) = (n : Int) := wrap_nat ha.le
    have h48 : ¬ ((n : Int) * (xi.bytes : Int) > 2 ^ 48) := by
      rw [hby]
      have : ((n * j.bytes : Nat) : Int) ≤ 70368744177664 := by rw [Nat.add_mul] at hb; omega
      rw [Int.natCast_mul] at this
      omega
    have hlt : ¬ ((n : Int) < 0) := by omega
    have h3 := h2 w.drew
    unfold Builtin.append_
    have e1 : (#[t, t1] : Array Nat)[0]? = some t := rfl
    have e2 : (#[t, t1] : Array Nat)[1]? = some t1 := rfl
    have e3 : (#[.slice base sLen sCap, .int q (n : Int)] : Array Value)[0]? = some (.slice base sLen sCap) := rfl
    have e4 : (#[.slice base sLen sCap, .int q (n : Int)] : Array Value)[1]? = some (.int q (n : Int)) := rfl
    simp only [e1, e2, e3, e4, Sem.run_bind, run_underlying hu, run_underlying hd, Result.andThen, size_ok hj, Sem.run_pure]
    simp only [if_true, asInt, asIntOf, Sem.run_bind, Sem.run_pure, Result.andThen, hw, if_neg hlt, hti, if_neg h48, Int.toNat_natCast, if_neg hc', Bool.not_true, Bool.false_eq_true, if_false, h63, false_and, if_neg hfit, hch, run_askRoom, ho]
    rw [h3]
    simp only [hzz, Sem.run_pure, run_newRow, hzv, zeroCells_ok]
    rfl
end
end Go.Proofs.YtaocoplfdhcoaaaGreatDoor.Ev
/- All operations over the heap, held against the model's. -/
set_option linter.unusedVariables false
set_option linter.unusedSimpArgs false
namespace Go.Proofs.YtaocoplfdhcoaaaGreatDoor.Ev
open Go Go.RowKit
section
variable {P : Program} {E : Env} {S S' : Nat → Prop} {μ μ' : Nat → Loc} {m : T AV} {a : Act} {w w' : World} {lo0 N0 lo : Nat}
theorem Sim.heap {h : T Blk} (hs : Sim lo0 N0 S μ h w) (e : w'.heap = w.heap) : Sim lo0 N0 S μ h w' :=
  ⟨by rw [e]; exact hs.size, fun b k hk => by rw [e]; exact hs.blk b k hk, hs.inj⟩
theorem takeE_ok {h : T Blk} (hs : Sim lo0 N0 S μ h w) {z n : Nat} {y : AV} {cs : List AV} (hy : wf S μ y) (ht : takeE h z n y = some cs) :
    wfs S μ cs ∧ cs.length = n * z ∧ (Builtin.firstCells z n (conc μ y)).run P w = .ok (concs μ cs).toArray w := by
  unfold takeE at ht
  split at ht
  · rename_i l
    cases hc : Nat.beq z 1 && Nat.ble n l.length with
    | false => rw [hc] at ht; cases ht
    | true =>
      rw [hc] at ht
      cases ht
      simp only [Bool.and_eq_true, beq_iff, ble_iff] at hc
      obtain ⟨rfl, hn⟩ := hc
      refine ⟨(wfs_iff _ _ _).2 fun v hv => ?_, by simp; omega, ?_⟩
      · obtain ⟨u, _, rfl⟩ := List.mem_map.1 hv
        trivial
      · simp only [Builtin.firstCells, conc, Sem.run_pure, ByteArray.extract_mk]
        congr 1
        apply Array.ext'
        simp [concs_map]
        rfl
  · rename_i l c q
    cases hc : Nat.beq n 0 with
    | false => rw [hc] at ht; cases ht
    | true =>
      rw [hc] at ht
      cases ht
      have := beq_iff.1 hc
      subst this
      exact ⟨trivial, by simp, by simp [Builtin.firstCells, conc, concs]⟩
  · rename_i b o l c q
    have hca : ∃ l' c', conc μ (.slice (some (b, o)) l c q) = .slice (some ⟨(μ b).blk, (μ b).base + o, none⟩) l' c' := by cases q <;> exact ⟨_, _, rfl⟩
    obtain ⟨l', c', hca⟩ := hca
    cases hc : Nat.beq n 0 with
    | true =>
      rw [hc] at ht
      cases ht
      have := beq_iff.1 hc
      subst this
      refine ⟨trivial, by simp, ?_⟩
      rw [hca]
      have := run_firstCells_some (P := P) w z 0 (⟨(μ b).blk, (μ b).base + o, none⟩ : Addr) l' c' [] (by simp) (fun j v h => by simp at h)
      simpa [concs] using this
    | false =>
      rw [hc] at ht
      obtain ⟨h1, h2, h3⟩ := cellsAt_ok hs ht
      refine ⟨h1, h2, ?_⟩
      rw [hca]
      exact run_firstCells_some (P := P) w z n _ l' c' (concs μ cs) (by rw [concs_length, h2]) h3
  · rename_i b o l q
    cases hc : Nat.beq n 0 with
    | false => rw [hc] at ht; cases ht
    | true =>
      rw [hc] at ht
      cases ht
      have := beq_iff.1 hc
      subst this
      refine ⟨trivial, by simp, ?_⟩
      simp only [conc]
      exact run_firstCells_some (P := P) w z 0 _ _ _ [] (by simp) (fun j v h => by simp at h)
  · cases ht
theorem lenOf_ok {y : AV} {n : Nat} (h : lenOfE y = some n) : (Builtin.lenOf (conc μ y)).run P w = .ok n w := by
  unfold lenOfE at h
  split at h
  · cases h; simp [Builtin.lenOf, conc]; rfl
  · rename_i a l c q
    cases h
    cases a <;> cases q <;> simp [Builtin.lenOf, conc]
  · cases h; simp [Builtin.lenOf, conc]
  · cases h
theorem grown_le (w : World) (need old e : Nat) : need ≤ grownCap w need old e := by
  unfold grownCap Question.cut
  simp only
  omega
/-- The row that append makes. -/
theorem grown_ok {s s' : St} {h : T Blk} (hs : Sim lo0 N0 S μ h w) (hlo : lo0 ≤ s.c) (hf : ¬ S s.c) {e : Nat} {j : TI} (hj : TOk P e j) (hz : j.size ≠ 0) {len n : Nat} {old new : List AV} (ho : wfs S μ old) (hn : wfs S μ new) (hol : old.length = len * j.size) (hnl : new.length = n * j.size)
    {v : AV} (hg : growE ⟨h, s.c⟩ e j.size len n old new = some (v, s')) {G : Nat} (hG : len + n ≤ G) {w1 : World}
    (h1 : w1 = { w.drew with heap := w.heap.push (.cells ((concs μ old).toArray ++ (concs μ new).toArray ++ (concs μ (reps (G - (len + n)) j.zero.cells)).toArray) e) }) :
    s.c ≤ s'.c ∧ HPost lo0 N0 S μ s s' w v (.slice (some ⟨w.heap.size, 0, none⟩) (len + n) G) w1 := by
  obtain ⟨s1, hs1, hv⟩ := Option.map_eq_some_iff.1 hg
  simp only [Prod.mk.injEq] at hv
  obtain ⟨rfl, rfl⟩ := hv
  obtain ⟨hone, rfl⟩ := newAt_ok hs1
  obtain ⟨zw, zc, zl⟩ := zero_cells (S := S) (μ := μ) hj
  obtain ⟨q, hq⟩ : ∃ q, j.size = q + 1 := ⟨j.size - 1, by omega⟩
  have hmul : len * j.size + n * j.size + (G - (len + n)) * j.size = G * j.size := by
    rw [← Nat.add_mul, ← Nat.add_mul]
    congr 1
    omega
  refine ⟨Nat.le_succ _, upd μ s.c ⟨w.heap.size, 0, G * j.size, none⟩, upd_agree hf, ?_, ?_, ?_, ?_⟩
  · refine sim_alloc hs hf hlo (wfs_append ho hn) (arr := (concs μ old).toArray ++ (concs μ new).toArray ++ (concs μ (reps (G - (len + n)) j.zero.cells)).toArray) ?_ ?_ (fun i v hi => ?_) ?_
    · simp [concs_length, reps_length, hol, hnl, zl]; omega
    · rw [List.length_append, hol, hnl]; omega
    · have : (concs μ old).toArray ++ (concs μ new).toArray ++ (concs μ (reps (G - (len + n)) j.zero.cells)).toArray = (concs μ (old ++ new) ++ concs μ (reps (G - (len + n)) j.zero.cells)).toArray := by simp [concs_append]
      rw [this, List.getElem?_toArray, List.getElem?_append_left (by rw [concs_length]; exact (List.getElem?_eq_some_iff.1 hi).1), concs_get, hi]
      rfl
    · rw [h1]
  · rw [hq]
    show Plus S s.c (s.c + 1) s.c ∧ _
    refine ⟨.inr ⟨Nat.le_refl _, Nat.lt_succ_self _⟩, ?_⟩
    unfold upd
    rw [if_pos rfl, ← hq]
    simp only [Nat.sub_zero]
    rw [Nat.mul_div_cancel _ (by omega)]
    exact hG
  · rw [hq]
    simp only [conc]
    unfold upd
    rw [if_pos rfl, ← hq]
    simp only [Nat.sub_zero, Nat.add_zero]
    rw [Nat.mul_div_cancel _ (by omega)]
  · rw [h1]
    have := below_push (N0 := N0) (w := w.drew) hs.size (.cells ((concs μ old).toArray ++ (concs μ new).toArray ++ (concs μ (reps (G - (len + n)) j.zero.cells)).toArray) e)
    exact (Below.drew (Below.refl N0 w)).trans this
theorem appE_ok {s s' : St} (hs : Sim lo0 N0 S μ s.h w) (hlo : lo0 ≤ lo) (hc : lo0 ≤ s.c) (hf : ∀ b, S b → b < s.c ∨ s'.c ≤ b) {t t1 ty e : Nat} {j : TI} (hu : P.underlying t = some (.slice e)) (hj : TOk P e j) (hz : j.size ≠ 0) {n : Nat} {new : List AV} {x v : AV} {y : Value}
    (ha : ∀ w', w'.heap = w.heap → Apnd P t1 e j.size y n (concs μ new).toArray w') (hnl : new.length = n * j.size) (hn : wfs S μ new) (hx : wf S μ x) (h : appE lo s e j.size j.bytes n new x = some (v, s')) :
    s.c ≤ s'.c ∧ ∃ u w1, (Builtin.append_ #[t, t1] ty #[conc μ x, y]).run P w = .ok u w1 ∧ HPost lo0 N0 S μ s s' w v u w1 := by
  unfold appE at h
  split at h
  · cases h0 : Nat.beq n 0 with
    | true =>
      rw [h0] at h
      cases h
      have := beq_iff.1 h0
      subst this
      refine ⟨Nat.le_refl _, _, w, ?_, HPost.same rfl hs trivial (Below.refl _ _)⟩
      exact app_room hu hj (ha w rfl) (by simp) (base := none) (sLen := 0) (sCap := 0) (by simp) rfl
    | false =>
      rw [h0] at h
      have hn0 : n ≠ 0 := fun e => by rw [beq_iff.2 e] at h0; cases h0
      cases hb : Nat.ble (n * j.bytes) 70368744177664 && Nat.ble n 70368744177664 with
      | false => rw [hb] at h; cases h
      | true =>
        rw [hb] at h
        simp only [Bool.and_eq_true, ble_iff] at hb
        simp only [cond_true, cond_false] at h
        have hcc : s'.c = s.c + 1 := by
          obtain ⟨s1, hs1, hv⟩ := Option.map_eq_some_iff.1 h
          simp only [Prod.mk.injEq] at hv
          obtain ⟨_, rfl⟩ := hv
          obtain ⟨_, rfl⟩ := newAt_ok hs1
          rfl
        have hr := app_grow (ty := ty) hu hj (ha w rfl) (ha w.drew rfl) (base := none) (sLen := 0) (sCap := 0) (by simpa using hb.1) (by simpa using hb.2) (by omega) (old := #[]) (by simp [Builtin.firstCells]) μ
        have hcx : conc μ (.slice none 0 0 0) = .slice none 0 0 := rfl
        rw [hcx]
        obtain ⟨g1, g2⟩ := grown_ok (s := s) hs hc (fresh hf hcc) hj hz (len := 0) (n := n) (old := []) (new := new) trivial hn (by simp) hnl h (grown_le w (0 + n) 0 e) rfl
        exact ⟨g1, _, _, hr, by simpa [concs] using g2⟩
  · rename_i b o len c op
    cases h0 : Nat.beq n 0 with
    | true =>
      rw [h0] at h
      cases hlc : Nat.ble len c with
      | false => rw [hlc] at h; cases h
      | true =>
        rw [hlc] at h
        cases h
        have := beq_iff.1 h0
        subst this
        have hlc' := ble_iff.1 hlc
        refine ⟨Nat.le_refl _, _, w, ?_, HPost.same rfl hs hx (Below.refl _ _)⟩
        have hnil : new = [] := List.eq_nil_of_length_eq_zero (by simpa using hnl)
        subst hnil
        cases op with
        | zero =>
          simp only [conc]
          exact app_room hu hj (ha w rfl) (by simp) (base := some _) (sLen := len) (sCap := c) (by simpa using hlc') (by simp [concs, storeCells])
        | succ q =>
          have hk := (show S b ∧ c ≤ ((μ b).ext - o) / (q + 1) from hx).2
          simp only [conc]
          exact app_room hu hj (ha w rfl) (by simp) (base := some _) (sLen := len) (by omega) (by simp [concs, storeCells])
    | false =>
      rw [h0] at h
      have hn0 : n ≠ 0 := fun e => by rw [beq_iff.2 e] at h0; cases h0
      cases hb : Nat.ble ((len + n) * j.bytes) 70368744177664 && Nat.ble (len + n) 70368744177664 with
      | false => rw [hb] at h; cases h
      | true =>
        rw [hb] at h
        simp only [Bool.and_eq_true, ble_iff] at hb
        simp only [cond_true, cond_false] at h
        have hbn : n * j.bytes ≤ 70368744177664 := by have := hb.1; rw [Nat.add_mul] at this; omega
        obtain ⟨C, hC, hcC⟩ : ∃ C, conc μ (.slice (some (b, o)) len c op) = .slice (some ⟨(μ b).blk, (μ b).base + o, none⟩) len C ∧ (c ≤ C ∧ (op = 0 → C = c) ∧ ∀ q, op = q + 1 → C = ((μ b).ext - o) / (q + 1)) := by
          cases op with
          | zero => exact ⟨c, rfl, Nat.le_refl _, fun _ => rfl, fun q e => by cases e⟩
          | succ q => exact ⟨_, rfl, (show S b ∧ c ≤ ((μ b).ext - o) / (q + 1) from hx).2, fun e => (by cases e), fun q' e => by cases e; rfl⟩
        cases hroom : Nat.ble (len + n) c with
        | true =>
          rw [hroom] at h
          have hroom' := ble_iff.1 hroom
          obtain ⟨s1, hp, hv⟩ := Option.map_eq_some_iff.1 h
          simp only [Prod.mk.injEq] at hv
          obtain ⟨rfl, rfl⟩ := hv
          obtain ⟨p1, p2, p3, p4, p5, _⟩ := putAt_ok (P := P) hs hlo hn hp
          have hr := app_room (ty := ty) hu hj (ha w rfl) hbn (base := some ⟨(μ b).blk, (μ b).base + o, none⟩) (sLen := len) (sCap := C) (by omega) (w' := w.setCells (μ b).blk ((μ b).base + (o + len * j.size)) (concs μ new)) (by simp only [add_at, Nat.add_assoc]; exact p3)
          rw [hC]
          have hwx : wf S μ (.slice (some (b, o)) (len + n) c op) := by cases op <;> exact hx
          have hcx : conc μ (.slice (some (b, o)) (len + n) c op) = .slice (some ⟨(μ b).blk, (μ b).base + o, none⟩) (len + n) C := by
            cases op with
            | zero => rw [hcC.2.1 rfl]; rfl
            | succ q => rw [hcC.2.2 q rfl]; rfl
          refine ⟨by rw [p1]; exact Nat.le_refl _, _, _, hr, ?_⟩
          rw [← hcx]
          exact HPost.same p1 p4 hwx p5
        | false =>
          rw [hroom] at h
          have hroom' : c < len + n := by
            rcases Nat.lt_or_ge c (len + n) with h | h
            · exact h
            · rw [ble_iff.2 h] at hroom; cases hroom
          simp only [cond_false] at h
          cases hop : Nat.beq op 0 with
          | true =>
            rw [hop] at h
            have := beq_iff.1 hop
            subst this
            obtain ⟨old, hold, hg⟩ := Option.bind_eq_some_iff.1 h
            have hCc := hcC.2.1 rfl
            subst hCc
            have hcc : s'.c = s.c + 1 := by
              obtain ⟨s1, hs1, hv⟩ := Option.map_eq_some_iff.1 hg
              simp only [Prod.mk.injEq] at hv
              obtain ⟨_, rfl⟩ := hv
              obtain ⟨_, rfl⟩ := newAt_ok hs1
              rfl
            obtain ⟨t1', t2', t3'⟩ := takeE_ok (P := P) (hs.heap (w' := w.drew) rfl) hx hold
            rw [hC] at t3'
            have hr := app_grow (ty := ty) hu hj (ha w rfl) (ha w.drew rfl) (base := some ⟨(μ b).blk, (μ b).base + o, none⟩) (sLen := len) (sCap := C) hb.1 hb.2 hroom' t3' μ
            rw [hC]
            obtain ⟨g1, g2⟩ := grown_ok (s := s) hs hc (fresh hf hcc) hj hz t1' hn t2' hnl hg (grown_le w (len + n) C e) rfl
            exact ⟨g1, _, _, hr, g2⟩
          | false =>
            rw [hop] at h
            cases hop2 : Nat.beq op j.size && Nat.ble lo b && tyB s.h b e with
            | false => rw [hop2] at h; cases h
            | true =>
              rw [hop2] at h
              simp only [Bool.and_eq_true, beq_iff, ble_iff] at hop2
              obtain ⟨⟨o1, o2⟩, o3⟩ := hop2
              simp only [cond_true, cond_false] at h
              obtain ⟨old, hold, hg⟩ := Option.bind_eq_some_iff.1 h
              have hcc : s'.c = s.c + 1 := by
                obtain ⟨s1, hs1, hv⟩ := Option.map_eq_some_iff.1 hg
                simp only [Prod.mk.injEq] at hv
                obtain ⟨_, rfl⟩ := hv
                obtain ⟨_, rfl⟩ := newAt_ok hs1
                rfl
              have hcl := cellsAt_ok hs hold
              obtain ⟨q, hq⟩ : ∃ q, op = q + 1 := ⟨op - 1, by omega⟩
              have hCq := hcC.2.2 q hq
              rcases Nat.lt_or_ge C (len + n) with hCn | hCn
              · have hf1 := run_firstCells_some (P := P) w.drew j.size len _ len C (concs μ old) (by rw [concs_length]; exact hcl.2.1) (fun jj v hv => by have := hcl.2.2 jj v hv; exact this)
                have hr := app_grow (ty := ty) hu hj (ha w rfl) (ha w.drew rfl) (base := some ⟨(μ b).blk, (μ b).base + o, none⟩) (sLen := len) (sCap := C) hb.1 hb.2 hCn hf1 μ
                rw [hC]
                obtain ⟨g1, g2⟩ := grown_ok (s := s) (sim_del hs b) hc (fresh hf hcc) hj hz hcl.1 hn hcl.2.1 hnl hg (grown_le w (len + n) C e) rfl
                exact ⟨g1, _, _, hr, g2⟩
              · have hmul : (len + n) * j.size ≤ (μ b).ext - o := by
                  rw [o1] at hq
                  rw [← hq] at hCq
                  rw [hCq] at hCn
                  exact Nat.le_trans (Nat.mul_le_mul_right _ hCn) (Nat.div_mul_le_self _ _)
                have hpos : 0 < n * j.size := Nat.mul_pos (by omega) (by omega)
                rw [Nat.add_mul] at hmul
                obtain ⟨k, hk, hold'⟩ := Option.bind_eq_some_iff.1 hold
                have hty : k.ty = e := by
                  unfold tyB at o3
                  rw [hk] at o3
                  exact beq_iff.1 o3
                obtain ⟨b1, b2, b3, arr, fr, ba, be, bcell, bown⟩ := hs.blk b k hk
                obtain ⟨bN, bfr⟩ := bown (Nat.le_trans hlo o2)
                have hlen : (concs μ new).length = n * j.size := by rw [concs_length, hnl]
                have hfit : (μ b).base + (o + len * j.size) + (concs μ new).length ≤ arr.size := by rw [hlen]; omega
                obtain ⟨⟨arr', g1, g2, g3, g4⟩, g5, g6⟩ := setCells_heap (μ b).blk k.ty fr (concs μ new) ((μ b).base + (o + len * j.size)) w arr ba hfit
                obtain ⟨s1, hs1, hv⟩ := Option.map_eq_some_iff.1 hg
                simp only [Prod.mk.injEq] at hv
                obtain ⟨rfl, rfl⟩ := hv
                obtain ⟨hone, rfl⟩ := newAt_ok hs1
                have hnone : ∀ v ∈ new, v.one = true := fun v hv => wfs_ones hone v (List.mem_append_right _ hv)
                have hst := run_storeCells_cells (P := P) (μ b).blk ((μ b).base + (o + len * j.size)) (concs μ new) 0 w (fun jj hj' => by
                  simp only [World.cell?, ba, Nat.add_zero]
                  rw [Array.getElem?_eq_getElem (by omega)]
                  rfl) (fun jj hj' => by
                  simp only [World.frozen?, ba, Nat.add_zero]
                  have := bfr ((μ b).base + (o + len * j.size) + jj) (by omega)
                  simp at this ⊢
                  omega) (fun v hv => by
                  rw [concs_map] at hv
                  obtain ⟨u, hu', rfl⟩ := List.mem_map.1 hv
                  exact one_conc (hnone u hu'))
                simp only [Nat.add_zero] at hst
                have hr := app_room (ty := ty) hu hj (ha w rfl) hbn (base := some ⟨(μ b).blk, (μ b).base + o, none⟩) (sLen := len) (sCap := C) hCn (w' := w.setCells (μ b).blk ((μ b).base + (o + len * j.size)) (concs μ new)) (by simp only [add_at, Nat.add_assoc]; exact hst)
                rw [hC]
                have hfr' : ¬ S s.c := fresh hf rfl
                refine ⟨Nat.le_succ _, _, _, hr, upd μ s.c ⟨(μ b).blk, (μ b).base + o, (μ b).ext - o, none⟩, upd_agree hfr', ?_, ?_, ?_, below_cells bN _ _ _⟩
                · refine sim_new (sim_del hs b) hfr' hc (wfs_append hcl.1 hn) (l := ⟨(μ b).blk, (μ b).base + o, (μ b).ext - o, none⟩) (arr := arr') bN (by rw [g6]; exact hs.size) (fr := fr) (by rw [← hty]; exact g1) (fun i hi => bfr i (by rw [← g2]; exact hi)) (by simp only; rw [g2]; omega) (by simp only; rw [List.length_append, hcl.2.1, hnl]; exact hmul) (fun i v hi => ?_) (fun b' hb' => ?_)
                  · simp only
                    rcases Nat.lt_or_ge i (len * j.size) with hi1 | hi1
                    · rw [List.getElem?_append_left (by rw [hcl.2.1]; exact hi1)] at hi
                      rw [g4 _ (.inl (by omega))]
                      cases hle : Nat.ble (o + len * j.size) k.cells.length with
                      | false => rw [hle] at hold'; cases hold'
                      | true =>
                        rw [hle] at hold'
                        cases hold'
                        rw [List.getElem?_take, if_pos hi1, List.getElem?_drop] at hi
                        rw [Nat.add_assoc]
                        exact bcell _ _ hi
                    · rw [List.getElem?_append_right (by rw [hcl.2.1]; exact hi1), hcl.2.1] at hi
                      have := g3 (i - len * j.size) (conc μ v) (by rw [concs_get, hi]; rfl)
                      rw [show (μ b).base + o + i = (μ b).base + (o + len * j.size) + (i - len * j.size) by omega]
                      exact this
                  · have hne : b ≠ b' := fun e => by
                      rw [T.get_del, if_pos e] at hb'
                      cases hb'
                    have hb2 : (s.h.get b').isSome = true := by rw [T.get_del, if_neg hne] at hb'; exact hb'
                    have hbb := hs.inj b b' (Nat.le_trans hlo o2) (by rw [hk]; rfl) hb2 hne
                    exact ⟨g5 _ hbb.symm, hbb.symm⟩
                · rw [← o1, hq]
                  show Plus S s.c (s.c + 1) s.c ∧ _
                  refine ⟨.inr ⟨Nat.le_refl _, Nat.lt_succ_self _⟩, ?_⟩
                  unfold upd
                  rw [if_pos rfl]
                  simp only [Nat.sub_zero]
                  rw [← hCq]
                  exact hCn
                · rw [← o1, hq]
                  simp only [conc]
                  unfold upd
                  rw [if_pos rfl]
                  simp only [Nat.sub_zero, Nat.add_zero]
                  rw [← hCq]
  · cases h
end
end Go.Proofs.YtaocoplfdhcoaaaGreatDoor.Ev
/- All operations over the heap: the one theorem. -/
set_option linter.unusedVariables false
set_option linter.unusedSimpArgs false
namespace Go.Proofs.YtaocoplfdhcoaaaGreatDoor.Ev
open Go Go.RowKit
section
variable {P : Program} {E : Env} {S S' : Nat → Prop} {μ μ' : Nat → Loc} {m : T AV} {a : Act} {w w' : World} {lo0 N0 lo : Nat}
theorem call_args {c : Call} {vs : List AV} (hR : TR S μ m a) (h : rhos m c.args.toList = some vs) (b : Builtin) (hc : c.callee = .builtin b) (ty : Nat) :
    ∃ consts, ((do let d ← resolve a.eval c ty; invoke d.target d.args) : Sem Next).run P w = (builtin b c.argTypes ty consts (concs μ vs).toArray).run P w := by
  obtain ⟨h1, e1⟩ := args_ok hR h
  refine ⟨c.args.map (fun | .const _ => true | _ => false), ?_⟩
  simp only [resolve, hc, Sem.run_bind, Sem.run_pure, Result.andThen, invoke, e1]
  rfl
theorem row_zero' {t : Nat} {i : TI} (hi : TOk P t i) (n : Nat) (μ : Nat → Loc) :
    (n * i.size = 0 ∧ ((Array.range (n * i.size)).map fun x => (#[] : Array Value)[x % (#[] : Array Value).size]!) = (concs μ (reps n i.zero.cells)).toArray) ∨
    (n * i.size ≠ 0 ∧ ((Array.range (n * i.size)).map fun x => (conc μ i.zero).cells[x % (conc μ i.zero).cells.size]!) = (concs μ (reps n i.zero.cells)).toArray) := by
  obtain ⟨_, h2, h3⟩ := zero_cells (S := fun _ => True) (μ := μ) hi
  by_cases h0 : n * i.size = 0
  · refine .inl ⟨h0, ?_⟩
    have : reps n i.zero.cells = [] := List.eq_nil_of_length_eq_zero (by rw [reps_length, h3, h0])
    simp [this, h0, concs]
  · refine .inr ⟨h0, ?_⟩
    rw [h2, ← h3, reps_conc, ← range_reps]
    simp [concs_length]
theorem argTypes2 {c : Call} {t t1 : Nat} {n : Nat} (h0 : c.argTypes[0]? = some t) (h1 : c.argTypes[1]? = some t1) : ∃ l, c.argTypes.toList = t :: t1 :: l := by
  cases h : c.argTypes with
  | mk l =>
    rw [h] at h0 h1
    match l, h0, h1 with
    | [], h0, _ => simp at h0
    | [_], _, h1 => simp at h1
    | x :: y :: l, h0, h1 => simp at h0 h1; subst h0 h1; exact ⟨l, rfl⟩
theorem bytesE_conc : ∀ {cs : List AV} {l : List UInt8}, bytesE cs = some l → ∃ ns : List Int, concs μ cs = ns.map (Value.int .u8) ∧ ns.map (fun n => UInt8.ofNat n.toNat) = l
  | [], l, h => by cases h; exact ⟨[], rfl, rfl⟩
  | v :: vs, l, h => by
    unfold bytesE at h
    split at h
    · cases ‹v :: vs = []›
    · rename_i n ws q
      cases q
      obtain ⟨l', hl, rfl⟩ := Option.map_eq_some_iff.1 h
      obtain ⟨ns, h1, h2⟩ := bytesE_conc hl
      exact ⟨(n : Int) :: ns, by rw [concs, h1]; rfl, by simp [h2]⟩
    · cases h
theorem foldl_push_nums : ∀ (ns : List Int) (r : ByteArray), ns.foldl (fun r n => r.push (UInt8.ofNat n.toNat)) r = ⟨r.data ++ (ns.map fun n => UInt8.ofNat n.toNat).toArray⟩
  | [], r => by simp
  | n :: ns, r => by
    simp only [List.foldl_cons, List.map_cons]
    rw [foldl_push_nums ns]
    simp [ByteArray.push]
theorem bytes_ok {h : T Blk} (hs : Sim lo0 N0 S μ h w) {sa : Option (Nat × Nat)} {sn sc sw : Nat} (hw : wf S μ (.slice sa sn sc sw)) {cs : List AV} (hcs : takeE h 1 sn (.slice sa sn sc sw) = some cs) {l : List UInt8} (hl : bytesE cs = some l) :
    (Conv.bytesToString (conc μ (.slice sa sn sc sw))).run P w = .ok (conc μ (.str l)) w := by
  obtain ⟨ns, h1, h2⟩ := bytesE_conc (μ := μ) hl
  have key : ∀ (ad : Addr) (c' : Nat), (∀ j v, (concs μ cs)[j]? = some v → w.cell? (ad.add j) = some v) → cs.length = sn → (Conv.bytesToString (.slice (some ad) sn c')).run P w = .ok (conc μ (.str l)) w := fun ad c' hc hlen => by
    have hload := run_loadCells_list (P := P) (w := w) ad (concs μ cs) hc
    rw [concs_length, hlen, h1] at hload
    have he0 : ByteArray.empty.data = #[] := rfl
    rw [run_bytesToString w ad sn c' ns hload, foldl_push_nums, h2, he0]
    simp [conc]
  cases sa with
  | none =>
    unfold takeE at hcs
    simp only at hcs
    cases hn : Nat.beq sn 0 with
    | false => rw [hn] at hcs; cases hcs
    | true =>
      rw [hn] at hcs
      cases hcs
      cases hl
      cases sw <;> simp [Conv.bytesToString, conc] <;> rfl
  | some p =>
    obtain ⟨b, o⟩ := p
    unfold takeE at hcs
    simp only at hcs
    have hk : (∀ j v, (concs μ cs)[j]? = some v → w.cell? ((⟨(μ b).blk, (μ b).base + o, none⟩ : Addr).add j) = some v) ∧ cs.length = sn := by
      cases hn : Nat.beq sn 0 with
      | true =>
        rw [hn] at hcs
        cases hcs
        exact ⟨fun j v h => by simp [concs] at h, (beq_iff.1 hn).symm⟩
      | false =>
        rw [hn] at hcs
        obtain ⟨_, g2, g3⟩ := cellsAt_ok hs hcs
        exact ⟨g3, by simpa using g2⟩
    cases sw <;> exact key _ _ hk.1 hk.2
theorem run_len {y : AV} {n : Nat} (h : lenOfE y = some n) (w : World) : (Builtin.lenOf (conc μ y)).run P w = .ok n w := lenOf_ok h
theorem lenSE_ok {x : AV} {n : Nat} (h : lenSE x = some n) : ∃ a c, conc μ x = .slice a n c := by
  unfold lenSE at h
  split at h
  · rename_i a l c q
    cases h
    cases a <;> cases q <;> exact ⟨_, _, rfl⟩
  · cases h; exact ⟨_, _, rfl⟩
  · cases h
theorem first0 {y : AV} {k : Nat} (h : lenOfE y = some k) (z : Nat) : (Builtin.firstCells z 0 (conc μ y)).run P w = .ok #[] w := by
  have key : (∃ s, conc μ y = .string s) ∨ ∃ a l c, conc μ y = .slice a l c := by
    unfold lenOfE at h
    split at h
    · exact .inl ⟨_, rfl⟩
    · rename_i a l c q
      cases a <;> cases q <;> exact .inr ⟨_, _, _, rfl⟩
    · exact .inr ⟨_, _, _, rfl⟩
    · cases h
  rcases key with ⟨s, e⟩ | ⟨a, l, c, e⟩
  · rw [e]
    simp [Builtin.firstCells]
  · rw [e]
    cases a with
    | none => simp [Builtin.firstCells]
    | some ad =>
      have := run_firstCells_some (P := P) w z 0 ad l c [] (by simp) (fun j v h => by simp at h)
      simpa using this
theorem appE_le {s s' : St} {e esz bytes n : Nat} {new : List AV} {x v : AV} (h : appE lo s e esz bytes n new x = some (v, s')) : n ≤ 70368744177664 := by
  unfold appE at h
  split at h
  · cases h0 : Nat.beq n 0 with
    | true => rw [beq_iff.1 h0]; omega
    | false =>
      rw [h0] at h
      cases hb : Nat.ble (n * bytes) 70368744177664 && Nat.ble n 70368744177664 with
      | false => rw [hb] at h; cases h
      | true => simp only [Bool.and_eq_true, ble_iff] at hb; exact hb.2
  · rename_i b o len c op
    cases h0 : Nat.beq n 0 with
    | true => rw [beq_iff.1 h0]; omega
    | false =>
      rw [h0] at h
      cases hb : Nat.ble ((len + n) * bytes) 70368744177664 && Nat.ble (len + n) 70368744177664 with
      | false => rw [hb] at h; cases h
      | true => simp only [Bool.and_eq_true, ble_iff] at hb; omega
  · cases h
theorem append_case (hT : TTOk P E.tt) {s s' : St} (hs : Sim lo0 N0 S μ s.h w) (hlo : lo0 ≤ lo) (hc : lo0 ≤ s.c) (hf : ∀ b, S b → b < s.c ∨ s'.c ≤ b) {ats : Array Nat} {ty : Nat} {x y v : AV} (hx : wf S μ x) (hy : wf S μ y) {t t1 : Nat} (h0 : ats[0]? = some t) (h1 : ats[1]? = some t1)
    {i i1 j : TI} (hi : E.tt.get t = some i) (hi1 : E.tt.get t1 = some i1) {e : Nat} (hk : i.k = .slice e) (hj : E.tt.get e = some j) (hz : j.size ≠ 0)
    (h : (match i1.k with
          | .int _ => (natE y).bind fun n => appE lo s e j.size j.bytes n (reps n j.zero.cells) x
          | _ => (lenOfE y).bind fun n => (takeE s.h j.size n y).bind fun new => appE lo s e j.size j.bytes n new x) = some (v, s')) :
    s.c ≤ s'.c ∧ ∃ u w1, (Builtin.append_ ats ty #[conc μ x, conc μ y]).run P w = .ok u w1 ∧ HPost lo0 N0 S μ s s' w v u w1 := by
  have he : Builtin.append_ ats ty #[conc μ x, conc μ y] = Builtin.append_ #[t, t1] ty #[conc μ x, conc μ y] := by
    unfold Builtin.append_
    have e1 : (#[t, t1] : Array Nat)[0]? = some t := rfl
    have e2 : (#[t, t1] : Array Nat)[1]? = some t1 := rfl
    rw [h0, h1, e1, e2]
  rw [he]
  have hu := (hT t i hi).k
  rw [hk, KOk] at hu
  have hu1 := (hT t1 i1 hi1).k
  have hjo := hT e j hj
  obtain ⟨zw, zc, zl⟩ := zero_cells (S := S) (μ := μ) hjo
  split at h
  · rename_i k q
    rw [q, KOk] at hu1
    obtain ⟨n, hn, h2⟩ := Option.bind_eq_some_iff.1 h
    obtain ⟨q', rfl⟩ := natE_ok hn
    have hle : n ≤ 70368744177664 := appE_le h2
    refine appE_ok hs hlo hc hf hu hjo hz (fun w' hw' => ⟨hle, .inr ⟨k, q', hu1, rfl, fun w2 => ?_⟩⟩) (by rw [reps_length, zl]) (reps_wfs zw n) hx h2
    by_cases hn0 : n * j.size = 0
    · rw [if_pos hn0]
      have : reps n j.zero.cells = [] := List.eq_nil_of_length_eq_zero (by rw [reps_length, zl, hn0])
      rw [this]
      simp [concs]
    · rw [if_neg hn0]
      simp only [Sem.run_bind, zero_ok hjo μ, Result.andThen, Sem.run_pure, zc, zeroCells_ok]
  · rename_i hni
    obtain ⟨n, hn, h2⟩ := Option.bind_eq_some_iff.1 h
    obtain ⟨new, hnew, h3⟩ := Option.bind_eq_some_iff.1 h2
    have hle : n ≤ 70368744177664 := appE_le h3
    have hd : ∃ d, P.underlying t1 = some d ∧ ∀ k, d ≠ .int k := by
      cases hk1 : i1.k with
      | int k => exact absurd hk1 (hni k)
      | struct fs => rw [hk1, KOk] at hu1; obtain ⟨_, _, hu1, _⟩ := hu1; exact ⟨_, hu1, fun k => by simp⟩
      | iface => rw [hk1, KOk] at hu1; obtain ⟨_, hu1⟩ := hu1; exact ⟨_, hu1, fun k => by simp⟩
      | func => rw [hk1, KOk] at hu1; obtain ⟨_, _, _, hu1⟩ := hu1; exact ⟨_, hu1, fun k => by simp⟩
      | _ => rw [hk1, KOk] at hu1; exact ⟨_, hu1, fun k => by simp⟩
    obtain ⟨d, hd, hdi⟩ := hd
    obtain ⟨t1', t2', _⟩ := takeE_ok (P := P) hs hy hnew
    exact appE_ok hs hlo hc hf hu hjo hz (fun w' hw' => ⟨hle, .inl ⟨d, hd, hdi, lenOf_ok hn, (takeE_ok (P := P) (hs.heap hw') hy hnew).2.2⟩⟩) t2' t1' hx h3
theorem heap_ok (hT : TTOk P E.tt) {s s' : St} (hR : TR S μ m a) (hs : Sim lo0 N0 S μ s.h w) (hlo : lo0 ≤ lo) (hc : lo0 ≤ s.c) (hf : ∀ b, S b → b < s.c ∨ s'.c ≤ b) {o : Oper} {v : AV} (h : heapE E lo m s o.op = some (v, s')) :
    s.c ≤ s'.c ∧ Done P o a w (HPost lo0 N0 S μ s s' w v) := by
  unfold Done execOp
  cases ho : o.op <;> rw [ho] at h <;> simp only [heapE] at h <;> try (cases h; done)
  case load t x =>
    obtain ⟨u, hu, h2⟩ := Option.bind_eq_some_iff.1 h
    obtain ⟨v', hv, he⟩ := Option.map_eq_some_iff.1 h2
    cases he
    obtain ⟨_, e1⟩ := rho_ok hR hu
    obtain ⟨g1, g2⟩ := loadE_ok (c := s.c) hT hs hv
    refine ⟨Nat.le_refl _, _, w, _, ?_, .inl rfl, HPost.same rfl hs g1 (Below.refl _ _)⟩
    simp only [e1, Sem.run_bind, g2, Result.andThen, Sem.run_pure]
  case store t x y =>
    obtain ⟨u, hu, h2⟩ := Option.bind_eq_some_iff.1 h
    obtain ⟨v', hv, h3⟩ := Option.bind_eq_some_iff.1 h2
    obtain ⟨z, hz, h4⟩ := Option.bind_eq_some_iff.1 h3
    have e1 := (rho_ok hR hu).2
    obtain ⟨w2, e2⟩ := rho_ok hR hv
    obtain ⟨i, hi, rfl⟩ := szE_ok hT hz
    split at h4
    · rename_i b q
      cases hcs : Nat.beq v'.cells.length i.size with
      | false => rw [hcs] at h4; cases h4
      | true =>
        rw [hcs] at h4
        have hcs' := beq_iff.1 hcs
        obtain ⟨s1, hp, he⟩ := Option.map_eq_some_iff.1 h4
        cases he
        obtain ⟨p1, p2, p3, p4, p5, _⟩ := putAt_ok (P := P) hs hlo (wfs_cells w2) hp
        refine ⟨by rw [p1]; exact Nat.le_refl _, .skip, w.setCells (μ b).blk ((μ b).base + q) (concs μ v'.cells), undef, ?_, .inr ⟨rfl, rfl⟩, ?_⟩
        · have hcell : (conc μ v').cells.toList = concs μ v'.cells := by rw [cells_conc]
          have hsz : ¬ ((conc μ v').cells.size ≠ i.size) := by rw [cells_conc]; simp [concs_length, hcs']
          dsimp only
          rw [e1, e2]
          simp only [conc, Instr.storeAt, Instr.sureAddr, storeVar, Sem.run_bind, Sem.run_pure, Result.andThen, size_ok hi, if_neg hsz, hcell, p3]
        · have : (undef : Value) = conc μ (.tuple []) := rfl
          rw [this]
          exact HPost.same p1 p4 (v := .tuple []) trivial p5
    · cases h4
  case box t x =>
    obtain ⟨u, hu, h2⟩ := Option.bind_eq_some_iff.1 h
    obtain ⟨s1, hn, he⟩ := Option.map_eq_some_iff.1 h2
    cases he
    obtain ⟨w1, e1⟩ := rho_ok hR hu
    obtain ⟨g1, μ', hμ, g2⟩ := made_ok hs hc hf hn (wfs_cells w1) (.ptr (some (s.c, 0))) (fun l _ _ _ => .inr ⟨Nat.le_refl _, by obtain ⟨_, rfl⟩ := newAt_ok hn; exact Nat.lt_succ_self _⟩)
    refine ⟨g1, _, _, _, ?_, .inl rfl, g2⟩
    simp only [e1, Instr.box, newVar, Sem.run_bind, run_newRow, Result.andThen, Sem.run_pure, cells_conc, conc, hμ]
  case alloc t =>
    obtain ⟨i, hi, h2⟩ := Option.bind_eq_some_iff.1 h
    obtain ⟨s1, hn, he⟩ := Option.map_eq_some_iff.1 h2
    cases he
    obtain ⟨z1, z2, z3⟩ := zero_cells (S := S) (μ := μ) (hT t i hi)
    obtain ⟨g1, μ', hμ, g2⟩ := made_ok hs hc hf hn z1 (.ptr (some (s.c, 0))) (fun l _ _ _ => .inr ⟨Nat.le_refl _, by obtain ⟨_, rfl⟩ := newAt_ok hn; exact Nat.lt_succ_self _⟩)
    refine ⟨g1, _, _, _, ?_, .inl rfl, g2⟩
    simp only [Instr.alloc, zero_ok (hT t i hi) μ, newVar, Sem.run_bind, run_newRow, Result.andThen, Sem.run_pure, z2, conc, hμ]
  case buildSlice t n parts =>
    obtain ⟨i, hi, h2⟩ := Option.bind_eq_some_iff.1 h
    have k1 := (hT t i hi).k
    split at h2
    · rename_i e q
      rw [q, KOk] at k1
      obtain ⟨j, hj, h3⟩ := Option.bind_eq_some_iff.1 h2
      have hjo := hT e j hj
      cases hn : Nat.ble (n * j.size) 16777216 with
      | false => rw [hn] at h3; cases h3
      | true =>
        rw [hn] at h3
        have hn' := ble_iff.1 hn
        obtain ⟨cs, hcs, h4⟩ := Option.bind_eq_some_iff.1 h3
        obtain ⟨s1, hs1, he⟩ := Option.map_eq_some_iff.1 h4
        cases he
        obtain ⟨z1, z2, z3⟩ := zero_cells (S := S) (μ := μ) hjo
        obtain ⟨f1, f2⟩ := fill_ok hR (pM := fun q => some (q * j.size, j.size)) (fun _ _ h => h) (reps_wfs z1 n) hcs
        obtain ⟨g1, μ', hμ, g2⟩ := made_ok hs hc hf hs1 f1 (.slice (some (s.c, 0)) n n 0) (fun l _ _ _ => .inr ⟨Nat.le_refl _, by obtain ⟨_, rfl⟩ := newAt_ok hs1; exact Nat.lt_succ_self _⟩)
        refine ⟨g1, _, _, _, ?_, .inl rfl, g2⟩
        have h24 : ¬ (n * j.size > 2 ^ 24) := by omega
        rcases row_zero' hjo n μ with ⟨h0, r2⟩ | ⟨h0, r2⟩
        · simp only [Instr.buildSlice, Sem.run_bind, run_underlying k1, size_ok hjo, Result.andThen, if_neg h24, if_pos h0, Sem.run_pure, parts_map, r2, f2, run_newRow, conc, hμ]
        · simp only [Instr.buildSlice, Sem.run_bind, run_underlying k1, size_ok hjo, Result.andThen, if_neg h24, if_neg h0, zero_ok hjo μ, Sem.run_pure, parts_map, r2, f2, run_newRow, conc, hμ]
    · cases h2
  case makeSlice t x y =>
    obtain ⟨i, hi, h2⟩ := Option.bind_eq_some_iff.1 h
    obtain ⟨u, hu, h3⟩ := Option.bind_eq_some_iff.1 h2
    obtain ⟨u', hu', h4⟩ := Option.bind_eq_some_iff.1 h3
    obtain ⟨l, hl, h5⟩ := Option.bind_eq_some_iff.1 h4
    obtain ⟨c, hc', h6⟩ := Option.bind_eq_some_iff.1 h5
    have e1 := (rho_ok hR hu).2
    have e2 := (rho_ok hR hu').2
    obtain ⟨q1, rfl⟩ := natE_ok hl
    obtain ⟨q2, rfl⟩ := natE_ok hc'
    have k1 := (hT t i hi).k
    split at h6
    · rename_i e q
      rw [q, KOk] at k1
      obtain ⟨j, hj, h7⟩ := Option.bind_eq_some_iff.1 h6
      have hjo := hT e j hj
      cases hn : Nat.ble l c && Nat.ble (c * j.bytes) 70368744177664 && Nat.ble c 70368744177664 with
      | false => rw [hn] at h7; cases h7
      | true =>
        rw [hn] at h7
        simp only [Bool.and_eq_true, ble_iff] at hn
        obtain ⟨⟨n1, n2⟩, n3⟩ := hn
        obtain ⟨s1, hs1, he⟩ := Option.map_eq_some_iff.1 h7
        cases he
        obtain ⟨z1, z2, z3⟩ := zero_cells (S := S) (μ := μ) hjo
        obtain ⟨g1, μ', hμ, g2⟩ := made_ok hs hc hf hs1 (reps_wfs z1 c) (.slice (some (s.c, 0)) l c 0) (fun l _ _ _ => .inr ⟨Nat.le_refl _, by obtain ⟨_, rfl⟩ := newAt_ok hs1; exact Nat.lt_succ_self _⟩)
        refine ⟨g1, _, _, _, ?_, .inl rfl, g2⟩
        obtain ⟨xi, z, hx, hsz, hby, _⟩ := hjo.info
        have w1 : IntKind.i64.wrap (l : Int) = (l : Int) := wrap_nat (by omega)
        have w2 : IntKind.i64.wrap (c : Int) = (c : Int) := wrap_nat n3
        have hb : ¬ ((xi.bytes : Int) * (c : Int) > 2 ^ 48) := by
          rw [hby]
          have : ((c * j.bytes : Nat) : Int) ≤ 70368744177664 := by omega
          rw [Int.natCast_mul, Int.mul_comm] at this
          omega
        have hti : (typeInfo e).run P w = .ok xi w := run_typeInfo w hx
        have c1 : ¬ ((c : Int) < 0) := by omega
        have c2 : ¬ ((l : Int) < 0) := by omega
        have c3 : ¬ ((l : Int) > (c : Int)) := by omega
        dsimp only
        rw [e1, e2]
        rcases row_zero' hjo c μ with ⟨h0, r2⟩ | ⟨h0, r2⟩
        · simp only [conc, Int.ofNat_eq_natCast, Instr.makeSlice, asInt, asIntOf, Sem.run_bind, run_underlying k1, Result.andThen, Sem.run_pure, hti, w1, w2, c1, c2, c3, hb, decide_false, Bool.or_false, Bool.false_or, Bool.false_eq_true, if_false, run_askRoom, size_ok hjo, Int.toNat_natCast, if_pos h0, r2, run_newRow, hμ]
        · simp only [conc, Int.ofNat_eq_natCast, Instr.makeSlice, asInt, asIntOf, Sem.run_bind, run_underlying k1, Result.andThen, Sem.run_pure, hti, w1, w2, c1, c2, c3, hb, decide_false, Bool.or_false, Bool.false_or, Bool.false_eq_true, if_false, run_askRoom, size_ok hjo, Int.toNat_natCast, if_neg h0, zero_ok hjo μ, r2, run_newRow, hμ]
    · cases h6
  case convert src dst x =>
    obtain ⟨p, hp, h2⟩ := Option.bind_eq_some_iff.1 h
    obtain ⟨d, hd, h3⟩ := Option.bind_eq_some_iff.1 h2
    obtain ⟨u, hu, h4⟩ := Option.bind_eq_some_iff.1 h3
    obtain ⟨wu, e1⟩ := rho_ok hR hu
    have kp := (hT src p hp).k
    have kd := (hT dst d hd).k
    split at h4
    · rename_i e q1 q2
      rw [q1, KOk] at kp
      rw [q2, KOk] at kd
      obtain ⟨i, hi, h5⟩ := Option.bind_eq_some_iff.1 h4
      have ki := (hT e i hi).k
      split at h5
      · rename_i q3
        rw [q3, KOk] at ki
        split at h5
        · rename_i sa sn sc sw
          obtain ⟨cs, hcs, h6⟩ := Option.bind_eq_some_iff.1 h5
          obtain ⟨l, hl, he⟩ := Option.map_eq_some_iff.1 h6
          cases he
          refine ⟨Nat.le_refl _, _, w, _, ?_, .inl rfl, HPost.same rfl hs (v := .str l) trivial (Below.refl _ _)⟩
          obtain ⟨a', l', c', hca⟩ : ∃ a' l' c', conc μ (.slice sa sn sc sw) = .slice a' l' c' := by
            cases sa <;> cases sw <;> exact ⟨_, _, _, rfl⟩
          simp only [e1, Sem.run_bind, Result.andThen, Sem.run_pure]
          rw [hca, run_convert_bytes_string w src dst e a' l' c' kp ki kd, ← hca, bytes_ok hs wu hcs hl]
        · rename_i vb vo vl vq
          cases h5
          refine ⟨Nat.le_refl _, _, w, _, ?_, .inl rfl, HPost.same rfl hs (v := .str []) trivial (Below.refl _ _)⟩
          simp only [e1, Sem.run_bind, Result.andThen, Sem.run_pure, conc]
          rw [run_convert_bytes_string w src dst e _ 0 _ kp ki kd]
          have hl := run_loadCells_list (P := P) (w := w) (voidAt (μ vb) vo vl vq) [] (fun j v h => by simp at h)
          rw [run_bytesToString w _ 0 _ [] (by simpa using hl)]
          rfl
        · cases h5
      · cases h5
    · rename_i e q1 q2
      rw [q1, KOk] at kp
      rw [q2, KOk] at kd
      obtain ⟨i, hi, h5⟩ := Option.bind_eq_some_iff.1 h4
      have ki := (hT e i hi).k
      split at h5
      · rename_i l q3
        rw [q3, KOk] at ki
        obtain ⟨s1, hs1, he⟩ := Option.map_eq_some_iff.1 h5
        cases he
        obtain ⟨hone, rfl⟩ := newAt_ok hs1
        have hr := run_bytes_of_string (P := P) w src dst e ⟨l.toArray⟩ kp kd ki
        have hsz : (ByteArray.mk l.toArray).size = l.length := rfl
        rw [hsz] at hr
        generalize hG : grownCap w l.length 0 e = G at hr
        have hGl : l.length ≤ G := by rw [← hG]; exact grown_le _ _ _ _
        have hsize : (bytesRow ⟨l.toArray⟩ G).size = G := by unfold bytesRow; simp [hsz]; omega
        have hfr : ¬ S s.c := fresh hf rfl
        refine ⟨Nat.le_succ _, .value (.slice (some ⟨w.heap.size, 0, none⟩) l.length G), w.drew.alloc (.cells (bytesRow ⟨l.toArray⟩ G) e (G, G + 1)), .slice (some ⟨w.heap.size, 0, none⟩) l.length G, ?_, .inl rfl, upd μ s.c ⟨w.heap.size, 0, G, none⟩, upd_agree hfr, ?_, ?_, ?_, ?_⟩
        · rw [hsize] at hr
          simp only [e1, conc, Sem.run_bind, hr, Result.andThen, Sem.run_pure]
        · refine sim_new hs hfr hc (l := ⟨w.heap.size, 0, G, none⟩) (arr := bytesRow ⟨l.toArray⟩ G) ((wfs_iff _ _ _).2 fun v hv => ?_) hs.size ?_ (fr := (G, G + 1)) ?_ (fun i hi => ?_) (by simp only; omega) (by simpa using hGl) (fun i v hi => ?_) (fun b' hb' => ?_)
          · obtain ⟨u, _, rfl⟩ := List.mem_map.1 hv
            trivial
          · show N0 ≤ (w.heap.push _).size
            rw [Array.size_push]; exact Nat.le_succ_of_le hs.size
          · show (w.heap.push _)[w.heap.size]? = _
            simp
          · simp only; omega
          · unfold bytesRow
            rw [List.getElem?_map] at hi
            obtain ⟨u, hu, rfl⟩ := Option.map_eq_some_iff.1 hi
            have hlt := (List.getElem?_eq_some_iff.1 hu).1
            rw [Nat.zero_add, Array.getElem?_append_left (by simpa using hlt)]
            simp [hu, conc]
          · have hb'' : (s.h.get b').isSome = true := hb'
            have := sim_lt hs hb''
            refine ⟨?_, by simp only; omega⟩
            show (w.heap.push _)[(μ b').blk]? = _
            rw [Array.getElem?_push_lt this, ← Array.getElem?_eq_getElem this]
        · show Plus S s.c (s.c + 1) s.c ∧ _
          refine ⟨.inr ⟨Nat.le_refl _, Nat.lt_succ_self _⟩, ?_⟩
          unfold upd
          rw [if_pos rfl]
          simpa using hGl
        · simp only [conc]
          unfold upd
          rw [if_pos rfl]
          simp
        · exact (Below.drew (Below.refl N0 w)).trans (below_push (N0 := N0) (w := w.drew) hs.size (.cells (bytesRow ⟨l.toArray⟩ G) e (G, G + 1)))
      · cases h5
    · cases h4
  case call c =>
    split at h
    · rename_i hcal
      obtain ⟨t, ht, h2⟩ := Option.bind_eq_some_iff.1 h
      obtain ⟨t1, ht1, h3⟩ := Option.bind_eq_some_iff.1 h2
      obtain ⟨i, hi, h4⟩ := Option.bind_eq_some_iff.1 h3
      obtain ⟨i1, hi1, h5⟩ := Option.bind_eq_some_iff.1 h4
      obtain ⟨vs, hvs, h6⟩ := Option.bind_eq_some_iff.1 h5
      split at h6
      · rename_i x y
        split at h6
        · rename_i e q
          obtain ⟨j, hj, h7⟩ := Option.bind_eq_some_iff.1 h6
          cases hz : Nat.beq j.size 0 with
          | true => rw [hz] at h7; cases h7
          | false =>
            rw [hz] at h7
            have hz' : j.size ≠ 0 := fun e => by rw [beq_iff.2 e] at hz; cases hz
            obtain ⟨hx, hy, _⟩ := (args_ok hR hvs).1
            obtain ⟨consts, ha⟩ := call_args (P := P) (w := w) hR hvs .append hcal o.type
            obtain ⟨g1, u, w1, g2, g3⟩ := append_case (ats := c.argTypes) (ty := o.type) hT hs hlo hc hf hx hy ht ht1 hi hi1 q hj hz' h7
            refine ⟨g1, _, w1, u, ?_, .inl rfl, g3⟩
            dsimp only
            rw [ha]
            simp only [builtin, concs, Sem.run_bind, g2, Result.andThen, Sem.run_pure]
        · cases h6
      · cases h6
    · rename_i hcal
      obtain ⟨t, ht, h2⟩ := Option.bind_eq_some_iff.1 h
      obtain ⟨i, hi, h4⟩ := Option.bind_eq_some_iff.1 h2
      obtain ⟨vs, hvs, h6⟩ := Option.bind_eq_some_iff.1 h4
      have hu := (hT t i hi).k
      split at h6
      · rename_i x y
        obtain ⟨consts, ha⟩ := call_args (P := P) (w := w) hR hvs .copy hcal o.type
        obtain ⟨hx, hy, _⟩ := (args_ok hR hvs).1
        split at h6
        · rename_i e q
          rw [q, KOk] at hu
          obtain ⟨z, hz, h7⟩ := Option.bind_eq_some_iff.1 h6
          obtain ⟨d, hd, h8⟩ := Option.bind_eq_some_iff.1 h7
          obtain ⟨k, hk, h9⟩ := Option.bind_eq_some_iff.1 h8
          obtain ⟨ie, hie, rfl⟩ := szE_ok hT hz
          have hlk := lenOf_ok (P := P) (w := w) (μ := μ) hk
          have e3 : (#[conc μ x, conc μ y] : Array Value)[0]? = some (conc μ x) := rfl
          have e4 : (#[conc μ x, conc μ y] : Array Value)[1]? = some (conc μ y) := rfl
          cases hn : Nat.beq (min k d) 0 with
          | true =>
            simp only [hn, cond_true] at h9
            cases h9
            have hn' : Nat.min k d = 0 := beq_iff.1 hn
            refine ⟨Nat.le_refl _, _, w, .int .i64 0, ?_, .inl rfl, HPost.same rfl hs (v := .int .i64 0) trivial (Below.refl _ _)⟩
            dsimp only
            rw [ha]
            obtain ⟨a', c', hax⟩ := lenSE_ok (μ := μ) hd
            have hfc := first0 (P := P) (w := w) (μ := μ) hk ie.size
            simp only [builtin, concs, Builtin.copy_, ht, e3, e4]
            simp only [Sem.run_bind, run_underlying hu, Result.andThen, Sem.run_pure, hax, hlk, hn', size_ok hie, hfc]
            cases a' <;> (clear h h2 h4 h6 h7 h8 ha; simp [storeCells, goInt])
          | false =>
            simp only [hn, cond_false] at h9
            obtain ⟨cs, hcs, h10⟩ := Option.bind_eq_some_iff.1 h9
            obtain ⟨c1, c2, c3⟩ := takeE_ok (P := P) hs hy hcs
            split at h10
            · rename_i b o' xl xc xq
              obtain ⟨s1, hp, he⟩ := Option.map_eq_some_iff.1 h10
              cases he
              obtain ⟨p1, p2, p3, p4, p5, _⟩ := putAt_ok (P := P) hs hlo c1 hp
              refine ⟨by rw [p1]; exact Nat.le_refl _, _, w.setCells (μ b).blk ((μ b).base + o') (concs μ cs), .int .i64 ((min k d : Nat) : Int), ?_, .inl rfl, HPost.same p1 p4 (v := .int .i64 (Int.ofNat (min k d))) trivial p5⟩
              dsimp only
              rw [ha]
              obtain rfl : xl = d := by simpa [lenSE] using hd
              obtain ⟨cc, hax⟩ : ∃ cc, conc μ (.slice (some (b, o')) xl xc xq) = .slice (some ⟨(μ b).blk, (μ b).base + o', none⟩) xl cc := by cases xq <;> exact ⟨_, rfl⟩
              have hmin : Nat.min k xl = min k xl := rfl
              simp only [builtin, concs, Builtin.copy_, ht, e3, e4]
              simp only [Sem.run_bind, run_underlying hu, Result.andThen, Sem.run_pure, hax, hlk, size_ok hie, hmin, c3, p3, goInt]
            · cases h10
        · cases h6
      · cases h6
    · rename_i hcal
      obtain ⟨t, ht, h2⟩ := Option.bind_eq_some_iff.1 h
      obtain ⟨i, hi, h4⟩ := Option.bind_eq_some_iff.1 h2
      obtain ⟨vs, hvs, h6⟩ := Option.bind_eq_some_iff.1 h4
      have hu := (hT t i hi).k
      split at h6
      · rename_i x
        obtain ⟨consts, ha⟩ := call_args (P := P) (w := w) hR hvs .clear hcal o.type
        obtain ⟨hx, _⟩ := (args_ok hR hvs).1
        have e3 : (#[conc μ x] : Array Value)[0]? = some (conc μ x) := rfl
        have hund : (undef : Value) = conc μ (.tuple []) := rfl
        split at h6
        · rename_i e b o' n xc xq q
          rw [q, KOk] at hu
          obtain ⟨cc, hax⟩ : ∃ cc, conc μ (.slice (some (b, o')) n xc xq) = .slice (some ⟨(μ b).blk, (μ b).base + o', none⟩) n cc := by cases xq <;> exact ⟨_, rfl⟩
          cases hn : Nat.beq n 0 with
          | true =>
            rw [hn] at h6
            cases h6
            have := beq_iff.1 hn
            subst this
            refine ⟨Nat.le_refl _, _, w, _, ?_, .inl rfl, HPost.same rfl hs (v := .tuple []) trivial (Below.refl _ _)⟩
            dsimp only
            rw [ha]
            simp only [builtin, concs, Builtin.clear_, ht, e3]
            simp only [Sem.run_bind, run_underlying hu, Result.andThen, Sem.run_pure, hax]
            rfl
          | false =>
            rw [hn] at h6
            simp only [cond_false] at h6
            have hn' : n ≠ 0 := fun e => by rw [beq_iff.2 e] at hn; cases hn
            obtain ⟨n', rfl⟩ : ∃ n', n = n' + 1 := ⟨n - 1, by omega⟩
            obtain ⟨j, hj, h7⟩ := Option.bind_eq_some_iff.1 h6
            have hjo := hT e j hj
            obtain ⟨zw, zc, zl⟩ := zero_cells (S := S) (μ := μ) hjo
            obtain ⟨s1, hp, he⟩ := Option.map_eq_some_iff.1 h7
            cases he
            obtain ⟨p1, p2, p3, p4, p5, _⟩ := putAt_ok (P := P) hs hlo (reps_wfs zw (n' + 1)) hp
            refine ⟨by rw [p1]; exact Nat.le_refl _, _, w.setCells (μ b).blk ((μ b).base + o') (concs μ (reps (n' + 1) j.zero.cells)), _, ?_, .inl rfl, HPost.same p1 p4 (v := .tuple []) trivial p5⟩
            dsimp only
            rw [ha]
            simp only [builtin, concs, Builtin.clear_, ht, e3]
            simp only [Sem.run_bind, run_underlying hu, Result.andThen, Sem.run_pure, hax, zero_ok hjo μ, zc, zeroCells_ok, p3]
            rfl
        · rename_i e xl xc xq q
          rw [q, KOk] at hu
          cases h6
          refine ⟨Nat.le_refl _, _, w, _, ?_, .inl rfl, HPost.same rfl hs (v := .tuple []) trivial (Below.refl _ _)⟩
          dsimp only
          rw [ha]
          cases xq <;> (simp only [builtin, concs, Builtin.clear_, ht, e3]; simp only [conc, Sem.run_bind, run_underlying hu, Result.andThen, Sem.run_pure]; rfl)
        · rename_i e vb vo vl vq q
          rw [q, KOk] at hu
          cases h6
          refine ⟨Nat.le_refl _, _, w, _, ?_, .inl rfl, HPost.same rfl hs (v := .tuple []) trivial (Below.refl _ _)⟩
          dsimp only
          rw [ha]
          simp only [builtin, concs, Builtin.clear_, ht, e3]
          simp only [conc, Sem.run_bind, run_underlying hu, Result.andThen, Sem.run_pure]
          rfl
        · cases h6
      · cases h6
    · cases h
end
end Go.Proofs.YtaocoplfdhcoaaaGreatDoor.Ev
/- What the evaluator's operations leave as it is. -/
set_option linter.unusedVariables false
set_option linter.unusedSimpArgs false
namespace Go.Proofs.YtaocoplfdhcoaaaGreatDoor.Ev
open Go Go.RowKit
namespace T
variable {α : Type}
theorem sing_eq : ∀ (f g i : Nat) (v : α), i ≤ f → i ≤ g → sing f i v = sing g i v := by
  intro f
  induction f with
  | zero =>
    intro g i v hf hg
    obtain rfl : i = 0 := by omega
    cases g <;> simp [sing]
  | succ f ih =>
    intro g i v hf hg
    cases g with
    | zero =>
      obtain rfl : i = 0 := by omega
      simp [sing]
    | succ g =>
      rw [sing, sing, cbeq, cbeq, cbeq, cbeq]
      by_cases h0 : i = 0
      · rw [if_pos h0, if_pos h0]
      · rw [if_neg h0, if_neg h0, ih g _ _ (by omega) (by omega), ih g _ _ (by omega) (by omega)]
/-- The parts of a tree. -/
theorem set_eq (t : T α) : ∃ w l r, (∀ i v, t.set i v = if i = 0 then .n (some v) l r else if i % 2 = 1 then .n w (l.set (i / 2) v) r else .n w l (r.set (i / 2 - 1) v)) := by
  cases t with
  | n w l r => exact ⟨w, l, r, fun i v => by rw [set, cbeq, cbeq]⟩
  | e =>
    refine ⟨none, .e, .e, fun i v => ?_⟩
    simp only [set]
    cases i with
    | zero => simp [sing]
    | succ i =>
      rw [sing, cbeq, cbeq, sing_eq i ((i + 1) / 2) _ _ (by omega) (by omega), sing_eq i ((i + 1) / 2 - 1) _ _ (by omega) (by omega)]
theorem set_n (w : Option α) (l r : T α) (i : Nat) (v : α) : (T.n w l r).set i v = if i = 0 then .n (some v) l r else if i % 2 = 1 then .n w (l.set (i / 2) v) r else .n w l (r.set (i / 2 - 1) v) := by
  rw [set, cbeq, cbeq]
theorem set_comm : ∀ (k : Nat) (t : T α) (i j : Nat) (v w : α), i + j ≤ k → i ≠ j → (t.set i v).set j w = (t.set j w).set i v := by
  intro k
  induction k with
  | zero => intro t i j v w h1 h2; omega
  | succ k ih =>
    intro t i j v w h1 h2
    obtain ⟨x, l, r, ht⟩ := set_eq t
    rw [ht i v, ht j w]
    by_cases hi : i = 0
    · have hj : j ≠ 0 := by omega
      rw [if_pos hi, if_neg hj, set_n, if_neg hj]
      by_cases hj1 : j % 2 = 1
      · rw [if_pos hj1, if_pos hj1, set_n, if_pos hi]
      · rw [if_neg hj1, if_neg hj1, set_n, if_pos hi]
    · rw [if_neg hi]
      by_cases hj : j = 0
      · rw [if_pos hj]
        by_cases hi1 : i % 2 = 1
        · rw [if_pos hi1, set_n, if_pos hj, set_n, if_neg hi, if_pos hi1]
        · rw [if_neg hi1, set_n, if_pos hj, set_n, if_neg hi, if_neg hi1]
      · rw [if_neg hj]
        by_cases hi1 : i % 2 = 1
        · rw [if_pos hi1, set_n, if_neg hj]
          by_cases hj1 : j % 2 = 1
          · rw [if_pos hj1, if_pos hj1, set_n, if_neg hi, if_pos hi1, ih _ _ _ _ _ (by omega) (by omega)]
          · rw [if_neg hj1, if_neg hj1, set_n, if_neg hi, if_pos hi1]
        · rw [if_neg hi1, set_n, if_neg hj]
          by_cases hj1 : j % 2 = 1
          · rw [if_pos hj1, if_pos hj1, set_n, if_neg hi, if_neg hi1]
          · rw [if_neg hj1, if_neg hj1, set_n, if_neg hi, if_neg hi1, ih _ _ _ _ _ (by omega) (by omega)]
theorem set_set (t : T α) {i j : Nat} (h : i ≠ j) (v w : α) : (t.set i v).set j w = (t.set j w).set i v := set_comm _ t i j v w (Nat.le_refl _) h
theorem del_n (w : Option α) (l r : T α) (i : Nat) : (T.n w l r).del i = if i = 0 then .n none l r else if i % 2 = 1 then .n w (l.del (i / 2)) r else .n w l (r.del (i / 2 - 1)) := by
  rw [del, cbeq, cbeq]
theorem del_none : ∀ (t : T α) (j : Nat), t.get j = none → t.del j = t := by
  intro t
  induction t with
  | e => intro j _; rfl
  | n w l r ihl ihr =>
    intro j h
    rw [get_n] at h
    rw [del_n]
    by_cases h0 : j = 0
    · rw [if_pos h0] at h ⊢; rw [h]
    · rw [if_neg h0] at h ⊢
      by_cases h1 : j % 2 = 1
      · rw [if_pos h1] at h ⊢; rw [ihl _ h]
      · rw [if_neg h1] at h ⊢; rw [ihr _ h]
theorem set_del : ∀ (t : T α) {i j : Nat}, i ≠ j → ∀ (v : α), (t.set i v).del j = (t.del j).set i v := by
  intro t
  induction t with
  | e =>
    intro i j h v
    rw [del_none _ _ (by rw [get_set, if_neg h]; rfl)]
    rfl
  | n w l r ihl ihr =>
    intro i j h v
    rw [set_n, del_n]
    by_cases hi : i = 0
    · have hj : j ≠ 0 := by omega
      rw [if_pos hi, del_n, if_neg hj, if_neg hj]
      by_cases hj1 : j % 2 = 1
      · rw [if_pos hj1, if_pos hj1, set_n, if_pos hi]
      · rw [if_neg hj1, if_neg hj1, set_n, if_pos hi]
    · rw [if_neg hi]
      by_cases hj : j = 0
      · rw [if_pos hj]
        by_cases hi1 : i % 2 = 1
        · rw [if_pos hi1, del_n, if_pos hj, set_n, if_neg hi, if_pos hi1]
        · rw [if_neg hi1, del_n, if_pos hj, set_n, if_neg hi, if_neg hi1]
      · rw [if_neg hj]
        by_cases hi1 : i % 2 = 1
        · rw [if_pos hi1, del_n, if_neg hj]
          by_cases hj1 : j % 2 = 1
          · rw [if_pos hj1, if_pos hj1, set_n, if_neg hi, if_pos hi1, ihl (by omega)]
          · rw [if_neg hj1, if_neg hj1, set_n, if_neg hi, if_pos hi1]
        · rw [if_neg hi1, del_n, if_neg hj]
          by_cases hj1 : j % 2 = 1
          · rw [if_pos hj1, if_pos hj1, set_n, if_neg hi, if_neg hi1]
          · rw [if_neg hj1, if_neg hj1, set_n, if_neg hi, if_neg hi1, ihr (by omega)]
end T

/-! ### What stays -/
structure Eff (lo : Nat) (s s' : St) : Prop where
  mono : s.c ≤ s'.c
  keep : ∀ b, b < lo → b < s.c → s'.h.get b = s.h.get b
  born : ∀ b, s.h.get b = none → (b < s.c ∨ s'.c ≤ b) → s'.h.get b = none
theorem Eff.refl (lo : Nat) (s : St) : Eff lo s s := ⟨Nat.le_refl _, fun _ _ _ => rfl, fun _ h _ => h⟩
theorem Eff.trans {lo : Nat} {s s' s'' : St} (h : Eff lo s s') (h' : Eff lo s' s'') : Eff lo s s'' :=
  ⟨Nat.le_trans h.mono h'.mono, fun b hb hc => (h'.keep b hb (Nat.lt_of_lt_of_le hc h.mono)).trans (h.keep b hb hc), fun b hb hc => by
    have := h.mono
    have := h'.mono
    exact h'.born b (h.born b hb (by omega)) (by omega)⟩
theorem Eff.of_c {lo lc : Nat} {s s' : St} (h : Eff lc s s') (hl : lo ≤ lc ∨ s.c ≤ lc) : Eff lo s s' :=
  ⟨h.mono, fun b hb hc => h.keep b (by omega) hc, h.born⟩
/-- What it does stays, and it tells the same where one more block lies about. -/
def GoodAt {γ : Type} (lo : Nat) (F : St → Option (γ × St)) (s : St) : Prop :=
  ∀ r s', F s = some (r, s') → Eff lo s s' ∧ ∀ b k, s.h.get b = none → (b < s.c ∨ s'.c ≤ b) → F ⟨s.h.set b k, s.c⟩ = some (r, ⟨s'.h.set b k, s'.c⟩)
def Good {γ : Type} (lo : Nat) (F : St → Option (γ × St)) : Prop := ∀ s, GoodAt lo F s
section
variable {γ δ : Type} {lo : Nat}
theorem Good.none' : Good (γ := γ) lo fun _ => none := fun s r s' h => by cases h
theorem Good.pure (o : Option γ) : Good lo fun s => o.map (·, s) := fun s r s' h => by
  obtain ⟨a, ha, h⟩ := Option.map_eq_some_iff.1 h
  cases h
  exact ⟨Eff.refl _ _, fun b k _ _ => by rw [ha]; rfl⟩
theorem Good.some' (v : γ) : Good lo fun s => some (v, s) := Good.pure (some v)
theorem Good.obind {α : Type} {o : Option α} {G : α → St → Option (γ × St)} (h : ∀ a, o = some a → Good lo (G a)) : Good lo fun s => o.bind fun a => G a s := fun s r s' hs => by
  obtain ⟨a, ha, hs⟩ := Option.bind_eq_some_iff.1 hs
  obtain ⟨h1, h2⟩ := h a ha s r s' hs
  exact ⟨h1, fun b k hb hc => by simp only [ha, Option.bind_some]; exact h2 b k hb hc⟩
theorem Good.bif' {c : Bool} {F G : St → Option (γ × St)} (hF : Good lo F) (hG : Good lo G) : Good lo fun s => bif c then F s else G s := by
  cases c
  · exact hG
  · exact hF
theorem Good.bind' {F : St → Option (γ × St)} {G : γ → St → Option (δ × St)} (hF : Good lo F) (hG : ∀ r, Good lo (G r)) : Good lo fun s => (F s).bind fun p => G p.1 p.2 := fun s r s' hs => by
  obtain ⟨⟨a, s1⟩, ha, hs⟩ := Option.bind_eq_some_iff.1 hs
  obtain ⟨h1, h2⟩ := hF s a s1 ha
  obtain ⟨g1, g2⟩ := hG a s1 r s' hs
  refine ⟨h1.trans g1, fun b k hb hc => ?_⟩
  have := h1.mono
  have := g1.mono
  simp only [h2 b k hb (by omega), Option.bind_some]
  exact g2 b k (h1.born b hb (by omega)) (by omega)
/-- What is read, stays read. -/
def Read {α : Type} (R : St → Option α) : Prop := ∀ s v, R s = some v → ∀ b k, s.h.get b = none → R ⟨s.h.set b k, s.c⟩ = some v
theorem Good.read {R : St → Option γ} (h : Read R) : Good lo fun s => (R s).map (·, s) := fun s r s' hs => by
  obtain ⟨a, ha, hs⟩ := Option.map_eq_some_iff.1 hs
  cases hs
  exact ⟨Eff.refl _ _, fun b k hb _ => by simp only [h s _ ha b k hb]; rfl⟩
theorem Good.rbind {α : Type} {R : St → Option α} {G : α → St → Option (γ × St)} (h : Read R) (hG : ∀ a, Good lo (G a)) : Good lo fun s => (R s).bind fun a => G a s := fun s r s' hs => by
  obtain ⟨a, ha, hs⟩ := Option.bind_eq_some_iff.1 hs
  obtain ⟨h1, h2⟩ := hG a s r s' hs
  exact ⟨h1, fun b k hb hc => by simp only [h s _ ha b k hb, Option.bind_some]; exact h2 b k hb hc⟩
theorem get_other {α : Type} {h : T α} {b b' : Nat} {k k' : α} (hb : h.get b = none) (hb' : h.get b' = some k') : (h.set b k).get b' = some k' := by
  rw [T.get_set]
  split
  · rename_i e; subst e; rw [hb] at hb'; cases hb'
  · exact hb'
theorem read_cellsAt (b o n : Nat) : Read fun s => cellsAt s.h b o n := fun s v hv b' k hb => by
  obtain ⟨k', hk, hv⟩ := Option.bind_eq_some_iff.1 hv
  show Option.bind _ _ = _
  rw [get_other hb hk]
  exact hv
theorem read_loadE (E : Env) (t : Nat) (a : AV) : Read fun s => loadE E s t a := fun s v hv b' k hb => by
  simp only [loadE] at hv ⊢
  split at hv
  · obtain ⟨i, hi, h2⟩ := Option.bind_eq_some_iff.1 hv
    simp only [hi, Option.bind_some]
    cases hag : i.k.agg with
    | true =>
      rw [hag] at h2
      obtain ⟨cs, hc, rfl⟩ := Option.map_eq_some_iff.1 h2
      have := read_cellsAt _ _ _ s cs hc b' k hb
      simp only at this
      simp only [cond_true, this]; rfl
    | false =>
      rw [hag] at h2
      obtain ⟨q, hq, h3⟩ := Option.bind_eq_some_iff.1 h2
      simp only [cond_false, get_other hb hq, Option.bind_some]
      exact h3
  · cases hv
theorem read_takeE (esz n : Nat) (y : AV) : Read fun s => takeE s.h esz n y := fun s v hv b' k hb => by
  simp only [takeE] at hv ⊢
  split at hv
  · exact hv
  · exact hv
  · cases hc : Nat.beq n 0 with
    | true => rw [hc] at hv; exact hv
    | false =>
      rw [hc] at hv
      exact read_cellsAt _ _ _ s v hv b' k hb
  · exact hv
  · cases hv
theorem good_newAt (t : Nat) (cells : List AV) (f : Nat → γ) : Good lo fun s => (newAt s t cells).map (f s.c, ·) := fun s r s' hs => by
  obtain ⟨s1, h1, hs⟩ := Option.map_eq_some_iff.1 hs
  cases hs
  obtain ⟨ho, rfl⟩ := newAt_ok h1
  refine ⟨⟨Nat.le_succ _, fun b _ hb => by simp only; rw [T.get_set, if_neg (by omega)], fun b hb hc => by simp only at hc ⊢; rw [T.get_set, if_neg (by omega)]; exact hb⟩, fun b k hb hc => ?_⟩
  simp only at hc
  simp only [newAt, ho, cond_true, Option.map_some]
  rw [T.set_set _ (show b ≠ s.c by omega)]
theorem good_putAt (b0 o : Nat) (vs : List AV) (v : γ) : Good lo fun s => (putAt lo s b0 o vs).map (v, ·) := fun s r s' hs => by
  obtain ⟨s1, h1, hs⟩ := Option.map_eq_some_iff.1 hs
  cases hs
  obtain ⟨k0, hk, hp⟩ := Option.bind_eq_some_iff.1 h1
  cases hc : Nat.ble lo b0 && Nat.ble (o + vs.length) k0.cells.length && ones vs with
  | false => rw [hc] at hp; cases hp
  | true =>
    rw [hc] at hp
    cases hp
    have hlo : lo ≤ b0 := by simp only [Bool.and_eq_true, ble_iff] at hc; exact hc.1.1
    refine ⟨⟨Nat.le_refl _, fun b hb _ => by simp only; rw [T.get_set, if_neg (by omega)], fun b hb _ => ?_⟩, fun b k hb _ => ?_⟩
    · simp only
      rw [T.get_set, if_neg (fun e => by rw [e, hb] at hk; cases hk)]
      exact hb
    · have hne : b ≠ b0 := fun e => by rw [← e, hb] at hk; cases hk
      simp only [putAt, get_other hb hk, Option.bind_some, hc, cond_true, Option.map_some]
      rw [T.set_set _ hne]
theorem good_growE (e esz len n : Nat) (old new : List AV) : Good lo fun s => growE s e esz len n old new := by
  unfold growE
  exact good_newAt e (old ++ new) fun c => AV.slice (some (c, 0)) (len + n) (len + n) esz
theorem good_appE (e esz bytes n : Nat) (new : List AV) (x : AV) : Good lo fun s => appE lo s e esz bytes n new x := by
  unfold appE
  split
  · exact .bif' (.some' _) (.bif' (good_growE _ _ _ _ _ _) .none')
  · rename_i b o len c op
    refine .bif' (.bif' (.some' _) .none') (.bif' (.bif' (good_putAt _ _ _ _) (.bif' (.rbind (read_takeE _ _ _) fun old => good_growE _ _ _ _ _ _) ?_)) .none')
    intro s r s' hs
    cases hop : Nat.beq op esz && Nat.ble lo b && tyB s.h b e with
    | false => simp only [hop] at hs; cases hs
    | true =>
      simp only [hop, cond_true] at hs
      obtain ⟨old, hold, hg⟩ := Option.bind_eq_some_iff.1 hs
      simp only [Bool.and_eq_true, beq_iff, ble_iff] at hop
      obtain ⟨⟨o1, o2⟩, o3⟩ := hop
      obtain ⟨k0, hk0⟩ : ∃ k0, s.h.get b = some k0 := by
        unfold tyB at o3
        cases hk : s.h.get b with
        | none => rw [hk] at o3; cases o3
        | some k => exact ⟨k, rfl⟩
      obtain ⟨g1, g2⟩ := good_growE (lo := lo) e esz len n old new ⟨s.h.del b, s.c⟩ r s' hg
      refine ⟨⟨g1.mono, fun b' hb hc => ?_, fun b' hb hc => g1.born b' ?_ hc⟩, fun b' k hb hc => ?_⟩
      · rw [g1.keep b' hb hc]
        simp only
        rw [T.get_del, if_neg (by omega)]
      · simp only
        rw [T.get_del, if_neg (fun e => by rw [e, hb] at hk0; cases hk0)]
        exact hb
      · have hne : b' ≠ b := fun e => by rw [e, hk0] at hb; cases hb
        have ho3 : tyB (s.h.set b' k) b e = true := by
          unfold tyB at o3 ⊢
          rw [hk0] at o3
          rw [get_other hb hk0]
          exact o3
        have := read_cellsAt b o (len * esz) s old hold b' k hb
        simp only at this
        simp only [ho3, beq_iff.2 o1, ble_iff.2 o2, Bool.true_and, cond_true, this, Option.bind_some]
        rw [T.set_del _ hne]
        exact g2 b' k (by simp only; rw [T.get_del, if_neg hne.symm]; exact hb) hc
  · exact .none'
theorem good_heapE (E : Env) (m : T AV) (o : Op) : Good lo fun s => heapE E lo m s o := by
  cases o <;> simp only [heapE] <;> try exact Good.none'
  case load t x => exact .obind fun a _ => .read (read_loadE E t a)
  case store t x y =>
    refine .obind fun a _ => .obind fun v _ => .obind fun z _ => ?_
    split
    · exact .bif' (good_putAt _ _ _ _) .none'
    · exact .none'
  case box t x => exact .obind fun v _ => good_newAt t v.cells fun c => AV.ptr (some (c, 0))
  case alloc t => exact .obind fun i _ => good_newAt t i.zero.cells fun c => AV.ptr (some (c, 0))
  case buildSlice t n parts =>
    refine .obind fun i _ => ?_
    split
    · rename_i e q
      exact .obind fun j _ => .bif' (.obind fun cs _ => good_newAt e cs fun c => AV.slice (some (c, 0)) n n 0) .none'
    · exact .none'
  case makeSlice t x y =>
    refine .obind fun i _ => .obind fun a _ => .obind fun b _ => .obind fun l _ => .obind fun c _ => ?_
    split
    · rename_i e q
      exact .obind fun j _ => .bif' (good_newAt e _ fun q => AV.slice (some (q, 0)) l c 0) .none'
    · exact .none'
  case convert src dst x =>
    refine .obind fun p _ => .obind fun d _ => .obind fun a _ => ?_
    split
    · refine .obind fun i _ => ?_
      split
      · split
        · refine .rbind (read_takeE _ _ _) fun cs => ?_
          have := Good.pure (lo := lo) ((bytesE cs).map AV.str)
          simpa only [Option.map_map, Function.comp_def] using this
        · exact .some' _
        · exact .none'
      · exact .none'
    · refine .obind fun i _ => ?_
      split
      · exact good_newAt _ _ fun c => AV.slice (some (c, 0)) _ _ 1
      · exact .none'
    · exact .none'
  case call c =>
    split
    · refine .obind fun t _ => .obind fun t1 _ => .obind fun i _ => .obind fun i1 _ => .obind fun vs _ => ?_
      split
      · split
        · refine .obind fun j _ => .bif' .none' ?_
          split
          · exact .obind fun n _ => good_appE _ _ _ _ _ _
          · exact .obind fun n _ => .rbind (read_takeE _ _ _) fun new => good_appE _ _ _ _ _ _
        · exact .none'
      · exact .none'
    · refine .obind fun t _ => .obind fun i _ => .obind fun vs _ => ?_
      split
      · split
        · refine .obind fun z _ => .obind fun d _ => .obind fun k _ => .bif' (.some' _) (.rbind (read_takeE _ _ _) fun cs => ?_)
          split
          · exact good_putAt _ _ _ _
          · exact .none'
        · exact .none'
      · exact .none'
    · refine .obind fun t _ => .obind fun i _ => .obind fun vs _ => ?_
      split
      · split
        · exact .bif' (.some' _) (.obind fun j _ => good_putAt _ _ _ _)
        · exact .some' _
        · exact .some' _
        · exact .none'
      · exact .none'
    · exact .none'
end
end Go.Proofs.YtaocoplfdhcoaaaGreatDoor.Ev

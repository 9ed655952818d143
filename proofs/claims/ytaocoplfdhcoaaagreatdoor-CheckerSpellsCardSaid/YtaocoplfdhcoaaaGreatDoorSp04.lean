/- append, held against the model's. -/
import Derived.Test.YtaocoplfdhcoaaaGreatDoorSp03
import Derived.Laws.NewFold
set_option linter.unusedVariables false
set_option linter.unusedSimpArgs false
namespace Go.Proofs.YtaocoplfdhcoaaaGreatDoor.Ev
open Go Go.RowKit
section
variable {P : Program} {w : World}
/-- How many are appended, and what they are: 'wi': one of the two worlds in which this is asked. -/
structure Apnd (P : Program) (t1 e size : Nat) (x : Value) (n : Nat) (new : Array Value) (w : World) : Prop where
  le : n ≤ 70368744177664
  how : (∃ d, P.underlying t1 = some d ∧ (∀ k, d ≠ .int k) ∧ (Builtin.lenOf x).run P w = .ok n w ∧ (Builtin.firstCells size n x).run P w = .ok new w) ∨
    (∃ k q, P.underlying t1 = some (.int k) ∧ x = .int q (n : Int) ∧ ∀ w', (if n * size = 0 then (pure #[] : Sem (Array Value)) else do pure (Builtin.zeroCells (← zeroValue e).cells n)).run P w' = .ok new w')
theorem wrap_nat {n : Nat} (h : n ≤ 70368744177664) : IntKind.i64.wrap (n : Int) = (n : Int) := wrap_i64 _ (by omega) (by omega)
theorem app_room {t t1 ty e : Nat} {j : TI} (hu : P.underlying t = some (.slice e)) (hj : TOk P e j) {x : Value} {n : Nat} {new : Array Value} (ha : Apnd P t1 e j.size x n new w) (hb : n * j.bytes ≤ 70368744177664)
    {base : Option Addr} {sLen sCap : Nat} (hc : sLen + n ≤ sCap) {w' : World} (hst : (match base with | some a => storeCells (a.add (sLen * j.size)) new.toList | none => pure ()).run P w = .ok () w') :
    (Builtin.append_ #[t, t1] ty #[.slice base sLen sCap, x]).run P w = .ok (.slice base (sLen + n) sCap) w' := by
  obtain ⟨xi, z, hx, hs, hby, hz, _⟩ := hj.info
  rcases ha.how with ⟨d, hd, hdi, h1, h2⟩ | ⟨k, q, hd, rfl, h2⟩
  · unfold Builtin.append_
    have e1 : (#[t, t1] : Array Nat)[0]? = some t := rfl
    have e2 : (#[t, t1] : Array Nat)[1]? = some t1 := rfl
    have e3 : (#[.slice base sLen sCap, x] : Array Value)[0]? = some (.slice base sLen sCap) := rfl
    have e4 : (#[.slice base sLen sCap, x] : Array Value)[1]? = some x := rfl
    simp only [e1, e2, e3, e4, Sem.run_bind, run_underlying hu, run_underlying hd, Result.andThen, size_ok hj, Sem.run_pure]
    simp only [Bool.false_eq_true, if_false, Sem.run_bind, h1, Result.andThen, if_pos hc, Bool.not_false, if_true, h2]
    cases base with
    | none => simp only [Sem.run_pure] at hst ⊢; cases hst; rfl
    | some b => simp only [Sem.run_bind, hst, Result.andThen, Sem.run_pure]
  · have hw : IntKind.i64.wrap (n : Int) = (n : Int) := wrap_nat ha.le
    have h48 : ¬ ((n : Int) * (xi.bytes : Int) > 2 ^ 48) := by
      rw [hby]
      have : ((n * j.bytes : Nat) : Int) ≤ 70368744177664 := by omega
      rw [Int.natCast_mul] at this
      omega
    have hlt : ¬ ((n : Int) < 0) := by omega
    have h3 := h2 w
    have hti : (typeInfo e).run P w = .ok xi w := run_typeInfo w hx
    unfold Builtin.append_
    have e1 : (#[t, t1] : Array Nat)[0]? = some t := rfl
    have e2 : (#[t, t1] : Array Nat)[1]? = some t1 := rfl
    have e3 : (#[.slice base sLen sCap, .int q (n : Int)] : Array Value)[0]? = some (.slice base sLen sCap) := rfl
    have e4 : (#[.slice base sLen sCap, .int q (n : Int)] : Array Value)[1]? = some (.int q (n : Int)) := rfl
    simp only [e1, e2, e3, e4, Sem.run_bind, run_underlying hu, run_underlying hd, Result.andThen, size_ok hj, Sem.run_pure]
    simp only [if_true, asInt, asIntOf, Sem.run_bind, Sem.run_pure, Result.andThen, hw, if_neg hlt, hti, if_neg h48, Int.toNat_natCast, if_pos hc, Bool.not_true, Bool.false_eq_true, if_false]
    rw [h3]
    simp only
    cases base with
    | none => simp only [Sem.run_pure] at hst ⊢; cases hst; rfl
    | some b => simp only [Sem.run_bind, hst, Result.andThen, Sem.run_pure]
theorem app_grow {t t1 ty e : Nat} {j : TI} (hu : P.underlying t = some (.slice e)) (hj : TOk P e j) {x : Value} {n : Nat} {new : Array Value} (ha : Apnd P t1 e j.size x n new w) (ha' : Apnd P t1 e j.size x n new w.drew)
    {base : Option Addr} {sLen sCap : Nat} (hb : (sLen + n) * j.bytes ≤ 70368744177664) (hn : sLen + n ≤ 70368744177664) (hc : sCap < sLen + n) {old : Array Value} (ho : (Builtin.firstCells j.size sLen (.slice base sLen sCap)).run P w.drew = .ok old w.drew) (μ : Nat → Loc) :
    (Builtin.append_ #[t, t1] ty #[.slice base sLen sCap, x]).run P w =
      .ok (.slice (some ⟨w.heap.size, 0, none⟩) (sLen + n) (grownCap w (sLen + n) sCap e)) { w.drew with heap := w.heap.push (.cells (old ++ new ++ (concs μ (reps (grownCap w (sLen + n) sCap e - (sLen + n)) j.zero.cells)).toArray) e) } := by
  obtain ⟨xi, z, hx, hs, hby, hz, hza, hzl, hzo⟩ := hj.info
  have hzv : z.cells = (concs μ j.zero.cells).toArray := by rw [← (absV_ok hza (fun _ => True) μ).1, cells_conc]
  have hti : ∀ w, (typeInfo e).run P w = .ok xi w := fun w => run_typeInfo w hx
  have hzz : ∀ w, (zeroValue e).run P w = .ok z w := fun w => by simp [zeroValue, typeInfo, hx, hz]
  have hc' : ¬ (sLen + n ≤ sCap) := by omega
  have hfit : ¬ (Builtin.nextslicecap (sLen + n) sCap * xi.bytes > 2 ^ 48) := by
    rw [hby]
    have := growslice_fits (bytes := j.bytes) hc (by omega)
    omega
  have h63 : ¬ (((sLen + n : Nat) : Int) > IntKind.i64.max) := by
    have : IntKind.i64.max = 9223372036854775807 := rfl
    rw [this]; omega
  have hq : (Question.appendCap (sLen + n) sCap e).forced = false := rfl
  have hch : (choose (Question.appendCap (sLen + n) sCap e)).run P w = .ok (grownCap w (sLen + n) sCap e) w.drew := by
    rw [run_choose_drew, hq]; rfl
  rcases ha.how with ⟨d, hd, hdi, h1, h2⟩ | ⟨k, q, hd, rfl, h2⟩
  · have h2' : (Builtin.firstCells j.size n x).run P w.drew = .ok new w.drew := by
      rcases ha'.how with ⟨d', hd', _, _, h⟩ | ⟨k, q, hd', _, _⟩
      · exact h
      · rw [hd] at hd'; cases hd'; exact absurd rfl (hdi k)
    unfold Builtin.append_
    have e1 : (#[t, t1] : Array Nat)[0]? = some t := rfl
    have e2 : (#[t, t1] : Array Nat)[1]? = some t1 := rfl
    have e3 : (#[.slice base sLen sCap, x] : Array Value)[0]? = some (.slice base sLen sCap) := rfl
    have e4 : (#[.slice base sLen sCap, x] : Array Value)[1]? = some x := rfl
    simp only [e1, e2, e3, e4, Sem.run_bind, run_underlying hu, run_underlying hd, Result.andThen, size_ok hj, Sem.run_pure]
    simp only [Bool.false_eq_true, if_false, Sem.run_bind, h1, Result.andThen, if_neg hc', Bool.not_false, if_true, hti, h63, false_and, if_neg hfit, hch, run_askRoom, ho, h2', hzz, Sem.run_pure, run_newRow, hzv, zeroCells_ok]
    rfl
  · have hw : IntKind.i64.wrap (n : Int) = (n : Int) := wrap_nat ha.le
    have h48 : ¬ ((n : Int) * (xi.bytes : Int) > 2 ^ 48) := by
      rw [hby]
      have : ((n * j.bytes : Nat) : Int) ≤ 70368744177664 := by rw [Nat.add_mul] at hb; omega
      rw [Int.natCast_mul] at this
      omega
    have hlt : ¬ ((n : Int) < 0) := by omega
    have h3 := h2 w.drew
    unfold Builtin.append_
    have e1 : (#[t, t1] : Array Nat)[0]? = some t := rfl
    have e2 : (#[t, t1] : Array Nat)[1]? = some t1 := rfl
    have e3 : (#[.slice base sLen sCap, .int q (n : Int)] : Array Value)[0]? = some (.slice base sLen sCap) := rfl
    have e4 : (#[.slice base sLen sCap, .int q (n : Int)] : Array Value)[1]? = some (.int q (n : Int)) := rfl
    simp only [e1, e2, e3, e4, Sem.run_bind, run_underlying hu, run_underlying hd, Result.andThen, size_ok hj, Sem.run_pure]
    simp only [if_true, asInt, asIntOf, Sem.run_bind, Sem.run_pure, Result.andThen, hw, if_neg hlt, hti, if_neg h48, Int.toNat_natCast, if_neg hc', Bool.not_true, Bool.false_eq_true, if_false, h63, false_and, if_neg hfit, hch, run_askRoom, ho]
    rw [h3]
    simp only [hzz, Sem.run_pure, run_newRow, hzv, zeroCells_ok]
    rfl
end
end Go.Proofs.YtaocoplfdhcoaaaGreatDoor.Ev
set_option linter.unusedVariables false
set_option linter.unusedSimpArgs false
namespace Go.Proofs.YtaocoplfdhcoaaaGreatDoor.Ev
open Go Go.RowKit
section
variable {P : Program} {E : Env} {S S' : Nat → Prop} {μ μ' : Nat → Loc} {m : T AV} {a : Act} {w w' : World} {lo0 N0 lo : Nat}
theorem Sim.heap {h : T Blk} (hs : Sim lo0 N0 S μ h w) (e : w'.heap = w.heap) : Sim lo0 N0 S μ h w' :=
  ⟨by rw [e]; exact hs.size, fun b k hk => by rw [e]; exact hs.blk b k hk, hs.inj⟩
theorem takeE_ok {h : T Blk} (hs : Sim lo0 N0 S μ h w) {z n : Nat} {y : AV} {cs : List AV} (hy : wf S μ y) (ht : takeE h z n y = some cs) :
    wfs S μ cs ∧ cs.length = n * z ∧ (Builtin.firstCells z n (conc μ y)).run P w = .ok (concs μ cs).toArray w := by
  unfold takeE at ht
  split at ht
  · rename_i l
    cases hc : Nat.beq z 1 && Nat.ble n l.length with
    | false => rw [hc] at ht; cases ht
    | true =>
      rw [hc] at ht
      cases ht
      simp only [Bool.and_eq_true, beq_iff, ble_iff] at hc
      obtain ⟨rfl, hn⟩ := hc
      refine ⟨(wfs_iff _ _ _).2 fun v hv => ?_, by simp; omega, ?_⟩
      · obtain ⟨u, _, rfl⟩ := List.mem_map.1 hv
        trivial
      · simp only [Builtin.firstCells, conc, Sem.run_pure, ByteArray.extract_mk]
        congr 1
        apply Array.ext'
        simp [concs_map]
        rfl
  · rename_i l c q
    cases hc : Nat.beq n 0 with
    | false => rw [hc] at ht; cases ht
    | true =>
      rw [hc] at ht
      cases ht
      have := beq_iff.1 hc
      subst this
      exact ⟨trivial, by simp, by simp [Builtin.firstCells, conc, concs]⟩
  · rename_i b o l c q
    have hca : ∃ l' c', conc μ (.slice (some (b, o)) l c q) = .slice (some ⟨(μ b).blk, (μ b).base + o, none⟩) l' c' := by cases q <;> exact ⟨_, _, rfl⟩
    obtain ⟨l', c', hca⟩ := hca
    cases hc : Nat.beq n 0 with
    | true =>
      rw [hc] at ht
      cases ht
      have := beq_iff.1 hc
      subst this
      refine ⟨trivial, by simp, ?_⟩
      rw [hca]
      have := run_firstCells_some (P := P) w z 0 (⟨(μ b).blk, (μ b).base + o, none⟩ : Addr) l' c' [] (by simp) (fun j v h => by simp at h)
      simpa [concs] using this
    | false =>
      rw [hc] at ht
      obtain ⟨h1, h2, h3⟩ := cellsAt_ok hs ht
      refine ⟨h1, h2, ?_⟩
      rw [hca]
      exact run_firstCells_some (P := P) w z n _ l' c' (concs μ cs) (by rw [concs_length, h2]) h3
  · rename_i b o l q
    cases hc : Nat.beq n 0 with
    | false => rw [hc] at ht; cases ht
    | true =>
      rw [hc] at ht
      cases ht
      have := beq_iff.1 hc
      subst this
      refine ⟨trivial, by simp, ?_⟩
      simp only [conc]
      exact run_firstCells_some (P := P) w z 0 _ _ _ [] (by simp) (fun j v h => by simp at h)
  · cases ht
theorem lenOf_ok {y : AV} {n : Nat} (h : lenOfE y = some n) : (Builtin.lenOf (conc μ y)).run P w = .ok n w := by
  unfold lenOfE at h
  split at h
  · cases h; simp [Builtin.lenOf, conc]; rfl
  · rename_i a l c q
    cases h
    cases a <;> cases q <;> simp [Builtin.lenOf, conc]
  · cases h; simp [Builtin.lenOf, conc]
  · cases h
theorem grown_le (w : World) (need old e : Nat) : need ≤ grownCap w need old e := by
  unfold grownCap Question.cut
  simp only
  omega
/-- The row that append makes. -/
theorem grown_ok {s s' : St} {h : T Blk} (hs : Sim lo0 N0 S μ h w) (hlo : lo0 ≤ s.c) (hf : ¬ S s.c) {e : Nat} {j : TI} (hj : TOk P e j) (hz : j.size ≠ 0) {len n : Nat} {old new : List AV} (ho : wfs S μ old) (hn : wfs S μ new) (hol : old.length = len * j.size) (hnl : new.length = n * j.size)
    {v : AV} (hg : growE ⟨h, s.c⟩ e j.size len n old new = some (v, s')) {G : Nat} (hG : len + n ≤ G) {w1 : World}
    (h1 : w1 = { w.drew with heap := w.heap.push (.cells ((concs μ old).toArray ++ (concs μ new).toArray ++ (concs μ (reps (G - (len + n)) j.zero.cells)).toArray) e) }) :
    s.c ≤ s'.c ∧ HPost lo0 N0 S μ s s' w v (.slice (some ⟨w.heap.size, 0, none⟩) (len + n) G) w1 := by
  obtain ⟨s1, hs1, hv⟩ := Option.map_eq_some_iff.1 hg
  simp only [Prod.mk.injEq] at hv
  obtain ⟨rfl, rfl⟩ := hv
  obtain ⟨hone, rfl⟩ := newAt_ok hs1
  obtain ⟨zw, zc, zl⟩ := zero_cells (S := S) (μ := μ) hj
  obtain ⟨q, hq⟩ : ∃ q, j.size = q + 1 := ⟨j.size - 1, by omega⟩
  have hmul : len * j.size + n * j.size + (G - (len + n)) * j.size = G * j.size := by
    rw [← Nat.add_mul, ← Nat.add_mul]
    congr 1
    omega
  refine ⟨Nat.le_succ _, upd μ s.c ⟨w.heap.size, 0, G * j.size, none⟩, upd_agree hf, ?_, ?_, ?_, ?_⟩
  · refine sim_alloc hs hf hlo (wfs_append ho hn) (arr := (concs μ old).toArray ++ (concs μ new).toArray ++ (concs μ (reps (G - (len + n)) j.zero.cells)).toArray) ?_ ?_ (fun i v hi => ?_) ?_
    · simp [concs_length, reps_length, hol, hnl, zl]; omega
    · rw [List.length_append, hol, hnl]; omega
    · have : (concs μ old).toArray ++ (concs μ new).toArray ++ (concs μ (reps (G - (len + n)) j.zero.cells)).toArray = (concs μ (old ++ new) ++ concs μ (reps (G - (len + n)) j.zero.cells)).toArray := by simp [concs_append]
      rw [this, List.getElem?_toArray, List.getElem?_append_left (by rw [concs_length]; exact (List.getElem?_eq_some_iff.1 hi).1), concs_get, hi]
      rfl
    · rw [h1]
  · rw [hq]
    show Plus S s.c (s.c + 1) s.c ∧ _
    refine ⟨.inr ⟨Nat.le_refl _, Nat.lt_succ_self _⟩, ?_⟩
    unfold upd
    rw [if_pos rfl, ← hq]
    simp only [Nat.sub_zero]
    rw [Nat.mul_div_cancel _ (by omega)]
    exact hG
  · rw [hq]
    simp only [conc]
    unfold upd
    rw [if_pos rfl, ← hq]
    simp only [Nat.sub_zero, Nat.add_zero]
    rw [Nat.mul_div_cancel _ (by omega)]
  · rw [h1]
    have := below_push (N0 := N0) (w := w.drew) hs.size (.cells ((concs μ old).toArray ++ (concs μ new).toArray ++ (concs μ (reps (G - (len + n)) j.zero.cells)).toArray) e)
    exact (Below.drew (Below.refl N0 w)).trans this
theorem appE_ok {s s' : St} (hs : Sim lo0 N0 S μ s.h w) (hlo : lo0 ≤ lo) (hc : lo0 ≤ s.c) (hf : ∀ b, S b → b < s.c ∨ s'.c ≤ b) {t t1 ty e : Nat} {j : TI} (hu : P.underlying t = some (.slice e)) (hj : TOk P e j) (hz : j.size ≠ 0) {n : Nat} {new : List AV} {x v : AV} {y : Value}
    (ha : ∀ w', w'.heap = w.heap → Apnd P t1 e j.size y n (concs μ new).toArray w') (hnl : new.length = n * j.size) (hn : wfs S μ new) (hx : wf S μ x) (h : appE lo s e j.size j.bytes n new x = some (v, s')) :
    s.c ≤ s'.c ∧ ∃ u w1, (Builtin.append_ #[t, t1] ty #[conc μ x, y]).run P w = .ok u w1 ∧ HPost lo0 N0 S μ s s' w v u w1 := by
  unfold appE at h
  split at h
  · cases h0 : Nat.beq n 0 with
    | true =>
      rw [h0] at h
      cases h
      have := beq_iff.1 h0
      subst this
      refine ⟨Nat.le_refl _, _, w, ?_, HPost.same rfl hs trivial (Below.refl _ _)⟩
      exact app_room hu hj (ha w rfl) (by simp) (base := none) (sLen := 0) (sCap := 0) (by simp) rfl
    | false =>
      rw [h0] at h
      have hn0 : n ≠ 0 := fun e => by rw [beq_iff.2 e] at h0; cases h0
      cases hb : Nat.ble (n * j.bytes) 70368744177664 && Nat.ble n 70368744177664 with
      | false => rw [hb] at h; cases h
      | true =>
        rw [hb] at h
        simp only [Bool.and_eq_true, ble_iff] at hb
        simp only [cond_true, cond_false] at h
        have hcc : s'.c = s.c + 1 := by
          obtain ⟨s1, hs1, hv⟩ := Option.map_eq_some_iff.1 h
          simp only [Prod.mk.injEq] at hv
          obtain ⟨_, rfl⟩ := hv
          obtain ⟨_, rfl⟩ := newAt_ok hs1
          rfl
        have hr := app_grow (ty := ty) hu hj (ha w rfl) (ha w.drew rfl) (base := none) (sLen := 0) (sCap := 0) (by simpa using hb.1) (by simpa using hb.2) (by omega) (old := #[]) (by simp [Builtin.firstCells]) μ
        have hcx : conc μ (.slice none 0 0 0) = .slice none 0 0 := rfl
        rw [hcx]
        obtain ⟨g1, g2⟩ := grown_ok (s := s) hs hc (fresh hf hcc) hj hz (len := 0) (n := n) (old := []) (new := new) trivial hn (by simp) hnl h (grown_le w (0 + n) 0 e) rfl
        exact ⟨g1, _, _, hr, by simpa [concs] using g2⟩
  · rename_i b o d
    have hcv : conc μ (.void b o d 0) = .slice (some (voidAt (μ b) o d 0)) 0 0 := by simp [conc]
    cases h0 : Nat.beq n 0 with
    | true =>
      rw [h0] at h
      cases h
      have := beq_iff.1 h0
      subst this
      refine ⟨Nat.le_refl _, _, w, ?_, HPost.same rfl hs hx (Below.refl _ _)⟩
      have hnil : new = [] := List.eq_nil_of_length_eq_zero (by simpa using hnl)
      subst hnil
      rw [hcv]
      exact app_room hu hj (ha w rfl) (by simp) (base := some _) (sLen := 0) (sCap := 0) (by simp) (by simp [concs, storeCells])
    | false =>
      rw [h0] at h
      have hn0 : n ≠ 0 := fun e => by rw [beq_iff.2 e] at h0; cases h0
      cases hb : Nat.ble (n * j.bytes) 70368744177664 && Nat.ble n 70368744177664 with
      | false => rw [hb] at h; cases h
      | true =>
        rw [hb] at h
        simp only [Bool.and_eq_true, ble_iff] at hb
        simp only [cond_true, cond_false] at h
        have hcc : s'.c = s.c + 1 := by
          obtain ⟨s1, hs1, hv⟩ := Option.map_eq_some_iff.1 h
          simp only [Prod.mk.injEq] at hv
          obtain ⟨_, rfl⟩ := hv
          obtain ⟨_, rfl⟩ := newAt_ok hs1
          rfl
        have hr := app_grow (ty := ty) hu hj (ha w rfl) (ha w.drew rfl) (base := some (voidAt (μ b) o d 0)) (sLen := 0) (sCap := 0) (by simpa using hb.1) (by simpa using hb.2) (by omega) (old := #[]) (by simpa using run_firstCells_some (P := P) w.drew j.size 0 _ _ _ [] (by simp) (fun j v h => by simp at h)) μ
        rw [hcv]
        obtain ⟨g1, g2⟩ := grown_ok (s := s) hs hc (fresh hf hcc) hj hz (len := 0) (n := n) (old := []) (new := new) trivial hn (by simp) hnl h (grown_le w (0 + n) 0 e) rfl
        exact ⟨g1, _, _, hr, by simpa [concs] using g2⟩
  · rename_i b o len c op
    cases h0 : Nat.beq n 0 with
    | true =>
      rw [h0] at h
      cases hlc : Nat.ble len c with
      | false => rw [hlc] at h; cases h
      | true =>
        rw [hlc] at h
        cases h
        have := beq_iff.1 h0
        subst this
        have hlc' := ble_iff.1 hlc
        refine ⟨Nat.le_refl _, _, w, ?_, HPost.same rfl hs hx (Below.refl _ _)⟩
        have hnil : new = [] := List.eq_nil_of_length_eq_zero (by simpa using hnl)
        subst hnil
        cases op with
        | zero =>
          simp only [conc]
          exact app_room hu hj (ha w rfl) (by simp) (base := some _) (sLen := len) (sCap := c) (by simpa using hlc') (by simp [concs, storeCells])
        | succ q =>
          have hk := (show S b ∧ c ≤ ((μ b).ext - o) / (q + 1) from hx).2
          simp only [conc]
          exact app_room hu hj (ha w rfl) (by simp) (base := some _) (sLen := len) (by omega) (by simp [concs, storeCells])
    | false =>
      rw [h0] at h
      have hn0 : n ≠ 0 := fun e => by rw [beq_iff.2 e] at h0; cases h0
      cases hb : Nat.ble ((len + n) * j.bytes) 70368744177664 && Nat.ble (len + n) 70368744177664 with
      | false => rw [hb] at h; cases h
      | true =>
        rw [hb] at h
        simp only [Bool.and_eq_true, ble_iff] at hb
        simp only [cond_true, cond_false] at h
        have hbn : n * j.bytes ≤ 70368744177664 := by have := hb.1; rw [Nat.add_mul] at this; omega
        obtain ⟨C, hC, hcC⟩ : ∃ C, conc μ (.slice (some (b, o)) len c op) = .slice (some ⟨(μ b).blk, (μ b).base + o, none⟩) len C ∧ (c ≤ C ∧ (op = 0 → C = c) ∧ ∀ q, op = q + 1 → C = ((μ b).ext - o) / (q + 1)) := by
          cases op with
          | zero => exact ⟨c, rfl, Nat.le_refl _, fun _ => rfl, fun q e => by cases e⟩
          | succ q => exact ⟨_, rfl, (show S b ∧ c ≤ ((μ b).ext - o) / (q + 1) from hx).2, fun e => (by cases e), fun q' e => by cases e; rfl⟩
        cases hroom : Nat.ble (len + n) c with
        | true =>
          rw [hroom] at h
          have hroom' := ble_iff.1 hroom
          obtain ⟨s1, hp, hv⟩ := Option.map_eq_some_iff.1 h
          simp only [Prod.mk.injEq] at hv
          obtain ⟨rfl, rfl⟩ := hv
          obtain ⟨p1, p2, p3, p4, p5, _⟩ := putAt_ok (P := P) hs hlo hn hp
          have hr := app_room (ty := ty) hu hj (ha w rfl) hbn (base := some ⟨(μ b).blk, (μ b).base + o, none⟩) (sLen := len) (sCap := C) (by omega) (w' := w.setCells (μ b).blk ((μ b).base + (o + len * j.size)) (concs μ new)) (by simp only [add_at, Nat.add_assoc]; exact p3)
          rw [hC]
          have hwx : wf S μ (.slice (some (b, o)) (len + n) c op) := by cases op <;> exact hx
          have hcx : conc μ (.slice (some (b, o)) (len + n) c op) = .slice (some ⟨(μ b).blk, (μ b).base + o, none⟩) (len + n) C := by
            cases op with
            | zero => rw [hcC.2.1 rfl]; rfl
            | succ q => rw [hcC.2.2 q rfl]; rfl
          refine ⟨by rw [p1]; exact Nat.le_refl _, _, _, hr, ?_⟩
          rw [← hcx]
          exact HPost.same p1 p4 hwx p5
        | false =>
          rw [hroom] at h
          have hroom' : c < len + n := by
            rcases Nat.lt_or_ge c (len + n) with h | h
            · exact h
            · rw [ble_iff.2 h] at hroom; cases hroom
          simp only [cond_false] at h
          cases hop : Nat.beq op 0 with
          | true =>
            rw [hop] at h
            have := beq_iff.1 hop
            subst this
            obtain ⟨old, hold, hg⟩ := Option.bind_eq_some_iff.1 h
            have hCc := hcC.2.1 rfl
            subst hCc
            have hcc : s'.c = s.c + 1 := by
              obtain ⟨s1, hs1, hv⟩ := Option.map_eq_some_iff.1 hg
              simp only [Prod.mk.injEq] at hv
              obtain ⟨_, rfl⟩ := hv
              obtain ⟨_, rfl⟩ := newAt_ok hs1
              rfl
            obtain ⟨t1', t2', t3'⟩ := takeE_ok (P := P) (hs.heap (w' := w.drew) rfl) hx hold
            rw [hC] at t3'
            have hr := app_grow (ty := ty) hu hj (ha w rfl) (ha w.drew rfl) (base := some ⟨(μ b).blk, (μ b).base + o, none⟩) (sLen := len) (sCap := C) hb.1 hb.2 hroom' t3' μ
            rw [hC]
            obtain ⟨g1, g2⟩ := grown_ok (s := s) hs hc (fresh hf hcc) hj hz t1' hn t2' hnl hg (grown_le w (len + n) C e) rfl
            exact ⟨g1, _, _, hr, g2⟩
          | false =>
            rw [hop] at h
            cases hop2 : Nat.beq op j.size && Nat.ble lo b && tyB s.h b e with
            | false => rw [hop2] at h; cases h
            | true =>
              rw [hop2] at h
              simp only [Bool.and_eq_true, beq_iff, ble_iff] at hop2
              obtain ⟨⟨o1, o2⟩, o3⟩ := hop2
              simp only [cond_true, cond_false] at h
              obtain ⟨old, hold, hg⟩ := Option.bind_eq_some_iff.1 h
              have hcc : s'.c = s.c + 1 := by
                obtain ⟨s1, hs1, hv⟩ := Option.map_eq_some_iff.1 hg
                simp only [Prod.mk.injEq] at hv
                obtain ⟨_, rfl⟩ := hv
                obtain ⟨_, rfl⟩ := newAt_ok hs1
                rfl
              have hcl := cellsAt_ok hs hold
              obtain ⟨q, hq⟩ : ∃ q, op = q + 1 := ⟨op - 1, by omega⟩
              have hCq := hcC.2.2 q hq
              rcases Nat.lt_or_ge C (len + n) with hCn | hCn
              · have hf1 := run_firstCells_some (P := P) w.drew j.size len _ len C (concs μ old) (by rw [concs_length]; exact hcl.2.1) (fun jj v hv => by have := hcl.2.2 jj v hv; exact this)
                have hr := app_grow (ty := ty) hu hj (ha w rfl) (ha w.drew rfl) (base := some ⟨(μ b).blk, (μ b).base + o, none⟩) (sLen := len) (sCap := C) hb.1 hb.2 hCn hf1 μ
                rw [hC]
                obtain ⟨g1, g2⟩ := grown_ok (s := s) (sim_del hs b) hc (fresh hf hcc) hj hz hcl.1 hn hcl.2.1 hnl hg (grown_le w (len + n) C e) rfl
                exact ⟨g1, _, _, hr, g2⟩
              · have hmul : (len + n) * j.size ≤ (μ b).ext - o := by
                  rw [o1] at hq
                  rw [← hq] at hCq
                  rw [hCq] at hCn
                  exact Nat.le_trans (Nat.mul_le_mul_right _ hCn) (Nat.div_mul_le_self _ _)
                have hpos : 0 < n * j.size := Nat.mul_pos (by omega) (by omega)
                rw [Nat.add_mul] at hmul
                obtain ⟨k, hk, hold'⟩ := Option.bind_eq_some_iff.1 hold
                have hty : k.ty = e := by
                  unfold tyB at o3
                  rw [hk] at o3
                  exact beq_iff.1 o3
                obtain ⟨b1, b2, b3, arr, fr, ba, be, bcell, bown⟩ := hs.blk b k hk
                obtain ⟨bN, bfr⟩ := bown (Nat.le_trans hlo o2)
                have hlen : (concs μ new).length = n * j.size := by rw [concs_length, hnl]
                have hfit : (μ b).base + (o + len * j.size) + (concs μ new).length ≤ arr.size := by rw [hlen]; omega
                obtain ⟨⟨arr', g1, g2, g3, g4⟩, g5, g6⟩ := setCells_heap (μ b).blk k.ty fr (concs μ new) ((μ b).base + (o + len * j.size)) w arr ba hfit
                obtain ⟨s1, hs1, hv⟩ := Option.map_eq_some_iff.1 hg
                simp only [Prod.mk.injEq] at hv
                obtain ⟨rfl, rfl⟩ := hv
                obtain ⟨hone, rfl⟩ := newAt_ok hs1
                have hnone : ∀ v ∈ new, v.one = true := fun v hv => wfs_ones hone v (List.mem_append_right _ hv)
                have hst := run_storeCells_cells (P := P) (μ b).blk ((μ b).base + (o + len * j.size)) (concs μ new) 0 w (fun jj hj' => by
                  simp only [World.cell?, ba, Nat.add_zero]
                  rw [Array.getElem?_eq_getElem (by omega)]
                  rfl) (fun jj hj' => by
                  simp only [World.frozen?, ba, Nat.add_zero]
                  have := bfr ((μ b).base + (o + len * j.size) + jj) (by omega)
                  simp at this ⊢
                  omega) (fun v hv => by
                  rw [concs_map] at hv
                  obtain ⟨u, hu', rfl⟩ := List.mem_map.1 hv
                  exact one_conc (hnone u hu'))
                simp only [Nat.add_zero] at hst
                have hr := app_room (ty := ty) hu hj (ha w rfl) hbn (base := some ⟨(μ b).blk, (μ b).base + o, none⟩) (sLen := len) (sCap := C) hCn (w' := w.setCells (μ b).blk ((μ b).base + (o + len * j.size)) (concs μ new)) (by simp only [add_at, Nat.add_assoc]; exact hst)
                rw [hC]
                have hfr' : ¬ S s.c := fresh hf rfl
                refine ⟨Nat.le_succ _, _, _, hr, upd μ s.c ⟨(μ b).blk, (μ b).base + o, (μ b).ext - o, none⟩, upd_agree hfr', ?_, ?_, ?_, below_cells bN _ _ _⟩
                · refine sim_new (sim_del hs b) hfr' hc (wfs_append hcl.1 hn) (l := ⟨(μ b).blk, (μ b).base + o, (μ b).ext - o, none⟩) (arr := arr') bN (by rw [g6]; exact hs.size) (fr := fr) (by rw [← hty]; exact g1) (fun i hi => bfr i (by rw [← g2]; exact hi)) (by simp only; rw [g2]; omega) (by simp only; rw [List.length_append, hcl.2.1, hnl]; exact hmul) (fun i v hi => ?_) (fun b' hb' => ?_)
                  · simp only
                    rcases Nat.lt_or_ge i (len * j.size) with hi1 | hi1
                    · rw [List.getElem?_append_left (by rw [hcl.2.1]; exact hi1)] at hi
                      rw [g4 _ (.inl (by omega))]
                      cases hle : Nat.ble (o + len * j.size) k.cells.length with
                      | false => rw [hle] at hold'; cases hold'
                      | true =>
                        rw [hle] at hold'
                        cases hold'
                        rw [List.getElem?_take, if_pos hi1, List.getElem?_drop] at hi
                        rw [Nat.add_assoc]
                        exact bcell _ _ hi
                    · rw [List.getElem?_append_right (by rw [hcl.2.1]; exact hi1), hcl.2.1] at hi
                      have := g3 (i - len * j.size) (conc μ v) (by rw [concs_get, hi]; rfl)
                      rw [show (μ b).base + o + i = (μ b).base + (o + len * j.size) + (i - len * j.size) by omega]
                      exact this
                  · have hne : b ≠ b' := fun e => by
                      rw [T.get_del, if_pos e] at hb'
                      cases hb'
                    have hb2 : (s.h.get b').isSome = true := by rw [T.get_del, if_neg hne] at hb'; exact hb'
                    have hbb := hs.inj b b' (Nat.le_trans hlo o2) (by rw [hk]; rfl) hb2 hne
                    exact ⟨g5 _ hbb.symm, hbb.symm⟩
                · rw [← o1, hq]
                  show Plus S s.c (s.c + 1) s.c ∧ _
                  refine ⟨.inr ⟨Nat.le_refl _, Nat.lt_succ_self _⟩, ?_⟩
                  unfold upd
                  rw [if_pos rfl]
                  simp only [Nat.sub_zero]
                  rw [← hCq]
                  exact hCn
                · rw [← o1, hq]
                  simp only [conc]
                  unfold upd
                  rw [if_pos rfl]
                  simp only [Nat.sub_zero, Nat.add_zero]
                  rw [← hCq]
  · cases h
end
end Go.Proofs.YtaocoplfdhcoaaaGreatDoor.Ev

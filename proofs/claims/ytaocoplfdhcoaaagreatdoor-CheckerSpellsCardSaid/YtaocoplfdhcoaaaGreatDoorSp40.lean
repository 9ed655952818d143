/- What stays where blocks without integers and texts change; slices that are made; append to a slice of one element. No condition. -/
import Derived.Test.YtaocoplfdhcoaaaGreatDoorSp38
import Derived.Test.YtaocoplfdhcoaaaGreatDoorSp39
import Derived.Test.YtaocoplfdhcoaaaGreatDoorSp36
set_option linter.unusedVariables false
set_option linter.unusedSimpArgs false
namespace Go.Proofs.YtaocoplfdhcoaaaGreatDoor.EvA
open Go Go.RowKit Go.Proofs.YtaocoplfdhcoaaaGreatDoor.Ev
theorem RW.put {h : T Blk} {zs : List Int} {cs : List AV} (hr : RW h zs cs) {c : Nat} (hc : c < zs.length) {z : Int} {a d : AV} (hz : WZ h z (.agg [a, d])) : RW h (zs.set c z) (putL cs (c * 2) [a, d]) := by
  have hl := hr.1
  have hfit : c * 2 + [a, d].length ≤ cs.length := by simp; omega
  refine ⟨by rw [putL_length hfit, List.length_set, hl], fun i y hi => ?_⟩
  rw [putL_get hfit, putL_get hfit]
  simp only [List.length_cons, List.length_nil]
  rw [List.getElem?_set] at hi
  by_cases hci : c = i
  · subst hci
    rw [if_pos rfl, if_pos hc] at hi
    cases hi
    refine ⟨a, d, ?_, ?_, hz⟩
    · rw [if_neg (by omega), if_pos (by omega), Nat.sub_self]; rfl
    · rw [if_neg (by omega), if_pos (by omega), show c * 2 + 1 - c * 2 = 1 by omega]; rfl
  · rw [if_neg hci] at hi
    obtain ⟨a', d', h1, h2, h3⟩ := hr.2 i y hi
    refine ⟨a', d', ?_, ?_, h3⟩
    · rcases Nat.lt_or_gt_of_ne hci with g | g
      · rw [if_neg (by omega), if_neg (by omega)]; exact h1
      · rw [if_pos (by omega)]; exact h1
    · rcases Nat.lt_or_gt_of_ne hci with g | g
      · rw [if_neg (by omega), if_neg (by omega)]; exact h2
      · rw [if_pos (by omega)]; exact h2
theorem reps_zints (n : Nat) : reps n [.int .i64 0] = zints (List.replicate n 0) := by rw [reps_one, zints, List.map_replicate]
theorem getD_set {zs : List Int} {c : Nat} {z : Int} (hc : c < zs.length) (j : Nat) : (zs.set c z).getD j 0 = if j = c then z else zs.getD j 0 := by
  rw [List.getD_eq_getElem?_getD, List.getElem?_set]
  by_cases h : c = j
  · subst h; simp [hc]
  · rw [if_neg h, if_neg (fun e => h e.symm), List.getD_eq_getElem?_getD]
theorem ones_putL {cs new : List AV} {o : Nat} (h1 : ones cs = true) (h2 : ones new = true) : ones (putL cs o new) = true := by
  rw [ones_all] at h1 h2 ⊢
  intro v hv
  unfold putL at hv
  rcases List.mem_append.1 hv with hv | hv
  · exact h1 v (List.mem_of_mem_take hv)
  · rcases List.mem_append.1 hv with hv | hv
    · exact h2 v hv
    · exact h1 v (List.mem_of_mem_drop hv)
def NoIS (k : Blk) : Prop := ∀ x ∈ k.cells, (∀ kd n, x ≠ .int kd n) ∧ ∀ l, x ≠ .str l
/-- What may have changed: blocks without integers and texts, and new ones. -/
def Chg3 (h h' : T Blk) : Prop := ∀ b k, h.get b = some k → h'.get b = some k ∨ NoIS k
theorem Chg3.refl (h : T Blk) : Chg3 h h := fun b k hb => .inl hb
theorem Chg3.trans {h h1 h2 : T Blk} (a : Chg3 h h1) (b : Chg3 h1 h2) : Chg3 h h2 := fun x k hx => (a x k hx).elim (fun e => b x k e) .inr
theorem Chg3.kept {s s' : St} {c0 : Nat} (hF : Lt c0 s) (hk : Kept c0 s s') : Chg3 s.h s'.h := fun b k hb => .inl (by rw [hk.keep _ (hF b k hb)]; exact hb)
theorem Chg3.put {h : T Blk} {b : Nat} {k k' : Blk} (hg : h.get b = some k) (hn : NoIS k) : Chg3 h (h.set b k') := fun b' k0 hb => by
  by_cases e : b = b'
  · subst e; rw [hg] at hb; cases hb; exact .inr hn
  · rw [T.get_set, if_neg e]; exact .inl hb
theorem Row.chg3 {h h' : T Blk} {z : Nat} {cs : List AV} {v : AV} (hz : z ≠ 0) (hr : Row h z cs v) (hi : cs ≠ [] → ∃ x ∈ cs, (∃ kd n, x = .int kd n) ∨ ∃ l, x = .str l) (hc : Chg3 h h') : Row h' z cs v := by
  unfold Row at hr ⊢
  split at hr
  · exact hr
  · rename_i b o n c q
    refine ⟨hr.1, hr.2.1, hr.2.2.1, fun hn => ?_⟩
    have h2 := hr.2.2.2 hn
    cases hg : h.get b with
    | none => unfold cellsAt at h2; rw [hg] at h2; cases h2
    | some k0 =>
      rcases hc b k0 hg with h3 | h3
      · unfold cellsAt at h2 ⊢
        rw [h3]
        rw [hg] at h2
        exact h2
      · exfalso
        unfold cellsAt at h2
        rw [hg, Option.bind_some] at h2
        cases hle : Nat.ble (o + n * z) k0.cells.length with
        | false => rw [hle] at h2; cases h2
        | true =>
          rw [hle] at h2
          simp only [cond_true, Option.some.injEq] at h2
          have hne : cs ≠ [] := fun e => by
            have := hr.1
            rw [e] at this
            rcases Nat.mul_eq_zero.1 (show n * z = 0 by simpa using this.symm) with h | h
            · exact hn h
            · exact hz h
          obtain ⟨x, hx, hxx⟩ := hi hne
          have : x ∈ k0.cells := by rw [← h2] at hx; exact List.mem_of_mem_drop (List.mem_of_mem_take hx)
          obtain ⟨g1, g2⟩ := h3 x this
          rcases hxx with ⟨kd, m, e⟩ | ⟨l, e⟩
          · exact g1 kd m e
          · exact g2 l e
  · exact hr
  · exact hr.elim
theorem RZ.chg3 {h h' : T Blk} {r : List Int} {v : AV} (hv : RZ h r v) (hc : Chg3 h h') : RZ h' r v := Row.chg3 (by decide) hv (fun hne => by
  cases r with
  | nil => exact absurd rfl hne
  | cons x xs => exact ⟨_, List.mem_cons_self, .inl ⟨_, _, rfl⟩⟩) hc
theorem SYs.chg3 {h h' : T Blk} {ys : List (List Int)} {cs : List AV} (hs : SYs h ys cs) (hc : Chg3 h h') : SYs h' ys cs := ⟨hs.1, fun i r hi => by
  obtain ⟨nm, v, g1, g2, g3⟩ := hs.2 i r hi
  exact ⟨nm, v, g1, g2, g3.chg3 hc⟩⟩
theorem SY.chg3 {h h' : T Blk} {ys : List (List Int)} {v : AV} (hs : SY h ys v) (hc : Chg3 h h') : SY h' ys v := by
  obtain ⟨cs, h1, h2⟩ := hs
  refine ⟨cs, Row.chg3 (by decide) h1 (fun hne => ?_) hc, h2.chg3 hc⟩
  cases ys with
  | nil => exact absurd (List.eq_nil_of_length_eq_zero (by simpa using h2.1)) hne
  | cons y ys =>
    obtain ⟨nm, v, g1, _⟩ := h2.2 0 y rfl
    exact ⟨_, List.mem_of_getElem? g1, .inr ⟨nm, rfl⟩⟩
theorem RW.nois {h : T Blk} {zs : List Int} {cs : List AV} (hv : RW h zs cs) {ty : Nat} : NoIS ⟨ty, cs⟩ := by
  intro x hx
  refine ⟨hv.noint x hx, fun l e => ?_⟩
  subst e
  obtain ⟨i, hi, he⟩ := List.mem_iff_getElem.1 hx
  have hl := hv.1
  obtain ⟨a, d, h1, h2, x, ⟨d', hd, hr⟩, _⟩ := hv.2 (i / 2) _ (List.getElem?_eq_getElem (by simp only at hi; omega))
  simp only [wv, AV.agg.injEq, List.cons.injEq, and_true] at hd
  obtain ⟨rfl, rfl⟩ := hd
  have hg : cs[i]? = some (.str l) := by rw [List.getElem?_eq_getElem hi, he]
  by_cases hp : i % 2 = 0
  · rw [show i / 2 * 2 = i by omega, hg] at h1
    cases h1
  · rw [show i / 2 * 2 + 1 = i by omega, hg] at h2
    cases h2
    exact hr.elim
theorem Own.own_le {c0 : Nat} {s : St} {e z : Nat} {cs : List AV} {v : AV} (h : Own c0 s e z cs v) {c1 : Nat} (hc : c1 ≤ c0) : Own c1 s e z cs v := by
  rcases h with h | ⟨b, m, h0, h1, h2⟩
  · exact .inl h
  · exact .inr ⟨b, m, h0, by omega, h2⟩
section
variable {lo c0 c1 j n d t0 e z : Nat} {t : T AV} {s : St} {all os : List Oper} {o : Oper} {K : Tm → St → Prop} {draw : Bool} {acs : List Nat}
/-- make([]T, m) -/
theorem mks {x : Operand} {m : Nat} {v : AV} {i ji : TI} (ho1 : v.one = true) (hb : m * ji.bytes ≤ 70368744177664) (hm : m ≤ 70368744177664) (k : SeqR E lo draw c0 acs all (j + 1) os ⟨n, t.set d (.slice (some (s.c, 0)) m m 0)⟩ ⟨s.h.set s.c ⟨e, reps m [v]⟩, s.c + 1⟩ K) (hw : wantE all t o = some true := by rfl) (hl : (draw && looseB E (acs.getD j 0) 0 (all.take j)) = false := by rfl) (ho : o.op = .makeSlice t0 x x := by rfl) (hr : rho t x = some (.int .i64 (Int.ofNat m)) := by (simp only [rho, T.get_set, Nat.reduceEqDiff, if_true, if_false] <;> rfl)) (ht : E.tt.get t0 = some i := by rfl) (hk : i.k = .slice e := by rfl) (hj : E.tt.get e = some ji := by rfl) (hz : ji.zero.cells = [v] := by rfl) (hd : o.dst = some d := by rfl) (hlt : Nat.blt d n = true := by rfl) : SeqR E lo draw c0 acs all j (o :: os) ⟨n, t⟩ s K :=
  SeqR.step hw hl (by rw [ho]; exact fun call lc => op_make hr ht hk hj hz ho1 hb hm call lc _) hd hlt k
/-- append(x, y...), x a slice of one element that was just written down. -/
theorem appT {x y : Operand} {b m : Nat} {w : AV} {cs new : List AV} {i : TI} (ji : TI) (hg : s.h.get b = some ⟨e, cs⟩) (hcl : cs.length = z) (hF : Fresh s) (hrow : Row s.h z new w) (hnew : new.length = m * z) (hcs : ones cs = true) (hone : ones new = true) (hlen : (1 + m) * ji.bytes ≤ 70368744177664 ∧ 1 + m ≤ 70368744177664)
    (k : ∀ v' s', Row s'.h z (cs ++ new) v' → Fol s s' → SeqR E lo draw c1 acs all (j + 1) os ⟨n, t.set d v'⟩ s' K) (hw : wantE all t o = some true := by rfl) (ho : o.op = .call { callee := .builtin .append, args := #[x, y], argTypes := #[t0, t0] } := by rfl) (ht : E.tt.get t0 = some i := by rfl) (hk : i.k = .slice e := by rfl) (hj : E.tt.get e = some ji := by rfl) (hz : ji.size = z := by rfl) (hz0 : z ≠ 0 := by decide) (hx' : rho t x = some (.slice (some (b, 0)) 1 1 0) := by (simp only [rho, T.get_set, Nat.reduceEqDiff, if_true, if_false] <;> rfl)) (hy' : rho t y = some w := by (simp only [rho, T.get_set, Nat.reduceEqDiff, if_true, if_false] <;> rfl)) (hd : o.dst = some d := by rfl) (hlt : Nat.blt d n = true := by rfl) : SeqR E lo draw c1 acs all j (o :: os) ⟨n, t⟩ s K := by
  subst hz
  obtain ⟨r1, r2⟩ := row_take hrow hz0 hnew
  have key : ∃ v' s', appE lo s e ji.size ji.bytes m new (.slice (some (b, 0)) 1 1 0) = some (v', s') ∧ Row s'.h ji.size (cs ++ new) v' ∧ Fol s s' := by
    by_cases hm : m = 0
    · subst hm
      have : new = [] := List.eq_nil_of_length_eq_zero (by rw [hnew]; simp)
      subst this
      refine ⟨.slice (some (b, 0)) 1 1 0, s, rfl, ?_, Fol.refl hF⟩
      rw [List.append_nil]
      exact ⟨by omega, Nat.le_refl _, .inl rfl, fun _ => cells_box hg (by omega)⟩
    · refine ⟨.slice (some (s.c, 0)) (1 + m) (1 + m) ji.size, ⟨s.h.set s.c ⟨e, cs ++ new⟩, s.c + 1⟩, ?_, ?_, (Fol.refl hF).new _⟩
      · have hcell : cellsAt s.h b 0 (1 * ji.size) = some cs := cells_box hg (by omega)
        simp only [appE, beq_f hm, cond_false, ble_iff.2 hlen.1, ble_iff.2 hlen.2, Bool.and_self, cond_true, ble_f (show 1 < 1 + m by omega), nb00, takeE, show Nat.beq 1 0 = false from rfl, hcell, Option.bind_some, growE, newAt, ones_append hcs hone, Option.map_some]
      · have hl2 : (cs ++ new).length = (1 + m) * ji.size := by rw [List.length_append, hcl, hnew, Nat.add_mul]; omega
        exact ⟨hl2, Nat.le_refl _, .inr rfl, fun _ => cells_box (ty := e) (by simp only [T.get_set, if_true]) hl2⟩
  obtain ⟨v', s', h1, h2, h3⟩ := key
  refine SeqR.gen (n0 := 0) hw ?_ (by rw [hd]; exact putK_some hlt (k v' s' h2 h3))
  rw [ho, ← h1]
  simp only [opE, kindOf, show Nat.beq 4 0 = false from rfl, cond_false, heapE, ht, hk, hj, Option.bind_some, List.toList_toArray, List.getElem?_toArray, List.getElem?_cons_zero, List.getElem?_cons_succ, rhos, hx', hy', Option.map_some, beq_f hz0, r1, r2]
/-- A value of some cells is stored into a row. -/
theorem stp {x y : Operand} {b o1 ty : Nat} {v : AV} {cs0 cs : List AV} (hv : v.cells = cs) (hg : s.h.get b = some ⟨ty, cs0⟩) (hone : ones cs = true) (hl : o1 + cs.length ≤ cs0.length) (hlo : lo ≤ b) (hsz : szE E t0 = some cs.length) (k : SeqR E lo draw c0 acs all (j + 1) os ⟨n, t⟩ ⟨s.h.set b ⟨ty, putL cs0 o1 cs⟩, s.c⟩ K) (hw : wantE all t o = some true := by rfl) (ho : o.op = .store t0 x y := by rfl) (hx' : rho t x = some (.ptr (some (b, o1))) := by (simp only [rho, T.get_set, Nat.reduceEqDiff, if_true, if_false] <;> rfl)) (hy' : rho t y = some v := by (simp only [rho, T.get_set, Nat.reduceEqDiff, if_true, if_false] <;> rfl)) (hd : o.dst = none := by rfl) : SeqR E lo draw c0 acs all j (o :: os) ⟨n, t⟩ s K :=
  SeqR.step0 hw (by rw [ho]; exact fun call lc old => op_store hx' hy' hv rfl hone hsz hg (by simp only; omega) hlo call lc old) hd k
end
end Go.Proofs.YtaocoplfdhcoaaaGreatDoor.EvA
set_option linter.unusedVariables false
set_option linter.unusedSimpArgs false
set_option maxRecDepth 20000
set_option maxHeartbeats 4000000
namespace Go.Proofs.YtaocoplfdhcoaaaGreatDoor.EvA
open Go Go.RowKit Go.Proofs.YtaocoplfdhcoaaaGreatDoor.Ev
theorem fn33' : E.fns.get 33 = some Tryz.f33 := by kernel_rfl
theorem hy33 : E.tt.get 3 = some ⟨.int .i64, 1, 8, .int .i64 0⟩ ∧ szE E 3 = some 1 ∧ E.tt.get 4 = some ⟨.bool, 1, 1, .bool false⟩ ∧ szE E 4 = some 1 ∧ E.tt.get 9 = some ⟨.str, 1, 16, .str []⟩ ∧ szE E 9 = some 1 ∧ E.tt.get 24 = some ⟨.slice 3, 1, 24, .slice none 0 0 0⟩ ∧ szE E 24 = some 1 ∧ E.tt.get 25 = some ⟨.slice 3, 1, 24, .slice none 0 0 0⟩ ∧ szE E 25 = some 1 ∧ E.tt.get 29 = some ⟨.slice 32, 1, 24, .slice none 0 0 0⟩ ∧ szE E 29 = some 1 ∧ E.tt.get 32 = some ⟨.struct [(0, 4), (1, 24)], 2, 32, .agg [.bool false, .slice none 0 0 0]⟩ ∧ szE E 32 = some 2 ∧ E.tt.get 40 = some ⟨.slice 47, 1, 24, .slice none 0 0 0⟩ ∧ szE E 40 = some 1 ∧ E.tt.get 42 = some ⟨.struct [(0, 40), (1, 40)], 2, 48, .agg [.slice none 0 0 0, .slice none 0 0 0]⟩ ∧ szE E 42 = some 2 ∧ E.tt.get 44 = some ⟨.struct [(0, 3), (1, 25)], 2, 32, .agg [.int .i64 0, .slice none 0 0 0]⟩ ∧ szE E 44 = some 2 ∧ E.tt.get 47 = some ⟨.struct [(0, 9), (1, 25)], 2, 40, .agg [.str [], .slice none 0 0 0]⟩ ∧ szE E 47 = some 2 := ⟨rfl, rfl, rfl, rfl, rfl, rfl, rfl, rfl, rfl, rfl, rfl, rfl, rfl, rfl, rfl, rfl, rfl, rfl, rfl, rfl, rfl, rfl⟩
theorem getD_succ {α : Type} (a d : α) (l : List α) (i : Nat) : (a :: l).getD (i + 1) d = l.getD i d := by simp
theorem near_i64' {z : Int} (h : Near z) : -9223372036854775808 < z ∧ z < 9223372036854775808 := by unfold Near at h; omega
theorem spells_run {lo : Nat} {vn va vk vx : AV} {nom : Int} {noms accs : List (List Int)} {ks x : List Int} {s : St} (hn : SY s.h noms vn) (ha : SY s.h accs va) (hk : RZ s.h ks vk) (hvx : RZ s.h x vx) (hF : Fresh s) (hlo : lo ≤ s.c)
    (ln : noms.length ≤ 4) (la : accs.length ≤ 3) (lk : ks.length ≤ 4) (lx : x.length ≤ 6) (hr6 : ∀ i, i < noms.length → (noms.getD i []).length ≤ 6) :
    FunR E lo 33 [.agg [vn, va], .agg [.int .i64 nom, vk], vx] s fun v s' => Fol s s' ∧ ∃ b, v = .bool b ∧ (b = true ↔ SpellsP noms accs nom ks x) := by
  have on : vn.one = true := by obtain ⟨cs, h, _⟩ := hn; exact Row.one h
  have oa : va.one = true := by obtain ⟨cs, h, _⟩ := ha; exact Row.one h
  have o1 : ones [vn, va] = true := by simp only [ones, on, oa]; rfl
  have o2 : ones [.int .i64 nom, vk] = true := by simp only [ones, Row.one hk, Bool.and_true]; rfl
  have o3 : ones [vx] = true := by simp only [ones, Row.one hvx]; rfl
  have cvx := one_cells (Row.one hvx)
  have hy := hy33
  refine FunR.body (fn := Tryz.f33) fn33' rfl ?_
  have hn : (max ([.agg [vn, va], .agg [.int .i64 nom, vk], vx] : List AV).length Tryz.f33.ntmps) = 124 := rfl
  generalize max ([.agg [vn, va], .agg [.int .i64 nom, vk], vx] : List AV).length Tryz.f33.ntmps = n at hn
  subst hn
  have g0 : (argsT 0 ([.agg [vn, va], .agg [.int .i64 nom, vk], vx] : List AV)).get 0 = some (.agg [vn, va]) := rfl
  have g1 : (argsT 0 ([.agg [vn, va], .agg [.int .i64 nom, vk], vx] : List AV)).get 1 = some (.agg [.int .i64 nom, vk]) := rfl
  have g2 : (argsT 0 ([.agg [vn, va], .agg [.int .i64 nom, vk], vx] : List AV)).get 2 = some (vx) := rfl
  generalize argsT 0 ([.agg [vn, va], .agg [.int .i64 nom, vk], vx] : List AV) = T0 at g0 g1 g2 ⊢
  refine CodeR.seq (CodeR.reg rfl ?_)
  have hx := g0
  refine bx (v := .agg [vn, va]) (cs := [vn, va]) rfl o1 ?_
  clear hx
  have hx := g1
  refine bx (v := .agg [.int .i64 nom, vk]) (cs := [.int .i64 nom, vk]) rfl o2 ?_
  clear hx
  have hx := g2
  refine bx (v := vx) (cs := [vx]) cvx o3 ?_
  clear hx
  have hf1 : Fol s ⟨((s.h.set s.c ⟨42, [vn, va]⟩).set (s.c + 1) ⟨44, [.int .i64 nom, vk]⟩).set (s.c + 1 + 1) ⟨25, [vx]⟩, s.c + 1 + 1 + 1⟩ := (((Fol.refl hF).new ⟨42, [vn, va]⟩).new ⟨44, [.int .i64 nom, vk]⟩).new ⟨25, [vx]⟩
  have hg3 : (((s.h.set s.c (⟨42, [vn, va]⟩ : Blk)).set (s.c + 1) ⟨44, [.int .i64 nom, vk]⟩).set (s.c + 1 + 1) ⟨25, [vx]⟩).get s.c = some ⟨42, [vn, va]⟩ := by rw [T.get_set, if_neg (by omega), T.get_set, if_neg (by omega), T.get_set, if_pos rfl]
  have hg4 : (((s.h.set s.c (⟨42, [vn, va]⟩ : Blk)).set (s.c + 1) ⟨44, [.int .i64 nom, vk]⟩).set (s.c + 1 + 1) ⟨25, [vx]⟩).get (s.c + 1) = some ⟨44, [.int .i64 nom, vk]⟩ := by rw [T.get_set, if_neg (by omega), T.get_set, if_pos rfl]
  have hg5 : (((s.h.set s.c (⟨42, [vn, va]⟩ : Blk)).set (s.c + 1) ⟨44, [.int .i64 nom, vk]⟩).set (s.c + 1 + 1) ⟨25, [vx]⟩).get (s.c + 2) = some ⟨25, [vx]⟩ := by rw [T.get_set, if_pos rfl]
  generalize hs1 : (⟨((s.h.set s.c ⟨42, [vn, va]⟩).set (s.c + 1) ⟨44, [.int .i64 nom, vk]⟩).set (s.c + 1 + 1) ⟨25, [vx]⟩, s.c + 1 + 1 + 1⟩ : St) = s1 at hf1 ⊢
  have hg3' : s1.h.get s.c = some ⟨42, [vn, va]⟩ := by rw [← hs1]; exact hg3
  have hg4' : s1.h.get (s.c + 1) = some ⟨44, [.int .i64 nom, vk]⟩ := by rw [← hs1]; exact hg4
  have hg5' : s1.h.get (s.c + 2) = some ⟨25, [vx]⟩ := by rw [← hs1]; exact hg5
  have hc1 : s1.c = s.c + 3 := by rw [← hs1]
  clear hg3 hg4 hg5 hs1
  rw [show s.c + 1 + 1 = s.c + 2 from rfl]
  have e3 : Nat.blt s.c s1.c = true := blt_iff.2 (by omega)
  have e4 : Nat.blt (s.c + 1) s1.c = true := blt_iff.2 (by omega)
  have e5 : Nat.blt (s.c + 2) s1.c = true := blt_iff.2 (by omega)
  have hn1 := hn.keep hF.lt hf1.2
  have ha1 := ha.keep hF.lt hf1.2
  have hk1 := RZ.keep hk hF.lt hf1.2
  have hx1 := RZ.keep hvx hF.lt hf1.2
  have lnn := hn.len 47
  have lna := ha.len 47
  have lnk := lenR hk 3
  have lnx := lenR hvx 3
  have stop : ∀ {s' : St}, Fol s1 s' → ¬ SpellsP noms accs nom ks x → Fol s s' ∧ ∃ b, AV.bool false = .bool b ∧ (b = true ↔ SpellsP noms accs nom ks x) := fun hf h => ⟨hf1.trans hf, false, rfl, by simp [h]⟩
  refine SeqR.stepM rfl rfl rfl (v := .bool false) (s' := s1) (fun call lc => by simp only [opE, kindOf, pureE, sA, rho, absV, absS]; rfl) rfl rfl ?_
  refine SeqR.done ?_
  refine CodeR.seq (CodeR.seq (CodeR.mono (Q := fun e m' s' => e = .nrm ∧ s1 = s' ∧ ∃ T1 w, m' = ⟨124, T1⟩ ∧ (T1.get 3 = some (.ptr (some (s.c, 0))) ∧ T1.get 4 = some (.ptr (some (s.c + 1, 0))) ∧ T1.get 5 = some (.ptr (some (s.c + 2, 0))) ∧ T1.get 44 = some (.bool w)) ∧ (w = false ↔ SpellPre noms accs nom ks x)) (CodeR.reg rfl ?_) ?_))
  · have no : ∀ {p : Prop}, ¬ p → (true = false ↔ p) := fun h => ⟨fun h1 => (by cases h1), fun h2 => absurd h2 h⟩
    have fin : ∀ T1 w, (T1.get 3 = some (.ptr (some (s.c, 0))) ∧ T1.get 4 = some (.ptr (some (s.c + 1, 0))) ∧ T1.get 5 = some (.ptr (some (s.c + 2, 0))) ∧ T1.get 44 = some (.bool w)) → (w = false ↔ SpellPre noms accs nom ks x) → Ex.nrm = .nrm ∧ s1 = s1 ∧ ∃ U u, (⟨124, T1⟩ : Tm) = ⟨124, U⟩ ∧ (U.get 3 = some (.ptr (some (s.c, 0))) ∧ U.get 4 = some (.ptr (some (s.c + 1, 0))) ∧ U.get 5 = some (.ptr (some (s.c + 2, 0))) ∧ U.get 44 = some (.bool u)) ∧ (u = false ↔ SpellPre noms accs nom ks x) := fun T1 w h h' => ⟨rfl, rfl, T1, w, rfl, h, h'⟩
    by_cases c1 : nom < 0
    · have d1 : ltB nom 0 = true := by rw [ltB_eq]; simpa using c1
      have hx := an hg3' (an hg4' (an e3 (an e4 d1))); refine go ?_; clear hx
      refine fin _ true ?_ (no fun h => by have := h.1; omega)
      exact has0
    have d1 : ltB nom 0 = false := by rw [ltB_eq]; simpa using c1
    obtain ⟨p, rfl⟩ : ∃ p : Nat, nom = Int.ofNat p := ⟨nom.toNat, by simp; omega⟩
    by_cases c2 : noms.length ≤ p
    · have d2 := lt_f c2
      have hx := an hg3' (an hg4' (an e3 (an e4 (an d1 (an lnn d2))))); refine go ?_; clear hx
      refine fin _ true ?_ (no fun h => by have := h.2.1; simp at this; omega)
      exact has0
    have d2 := lt_t (a := p) (b := noms.length) (by omega)
    by_cases c3 : ks.length = accs.length
    case neg =>
      have d3 := eq_f c3
      have hx := an hg3' (an hg4' (an e3 (an e4 (an d1 (an lnn (an d2 (an lnk (an lna d3)))))))); refine go ?_; clear hx
      refine fin _ true ?_ (no fun h => c3 h.2.2.1)
      exact has0
    have d3 := eq_t c3
    have hx := an hg3' (an hg4' (an e3 (an e4 (an d1 (an lnn (an d2 (an lnk (an lna d3)))))))); refine go ?_; clear hx
    refine cal0 (g := 18) (vs := [vk]) (hf := fun lc hlc => (rowRight_run hk1 hf1.1 (by omega)).mono fun v s' hq => ?_)
    obtain ⟨rfl, bk, rfl, hbk⟩ := hq
    cases bk with
    | false =>
      refine go0 ?_
      refine fin _ true ?_ (no fun h => by have := hbk.2 h.2.2.2.1; cases this)
      exact has0
    | true =>
    have hx := an hg5' e5; refine go ?_; clear hx
    refine cal0 (g := 18) (vs := [vx]) (hf := fun lc hlc => (rowRight_run hx1 hf1.1 (by omega)).mono fun v s' hq => ?_)
    obtain ⟨rfl, bx', rfl, hbx⟩ := hq
    refine go0 ?_
    refine fin _ (!bx') ?_ ?_
    exact has0
    · cases bx' with
      | false => exact no fun h => by have := hbx.2 h.2.2.2.2; cases this
      | true => simp only [Bool.not_true, true_iff]; exact ⟨by simp, by simp; omega, c3, hbk.1 rfl, hbx.1 rfl⟩
  · rintro e m' s' ⟨rfl, rfl, T1, w, rfl, hT, hw⟩
    cases w with
    | true =>
      have hx := hT; refine cnd (t := true) (fun _ => ?_) (fun h => by cases h); clear hx
      refine go0 ?_
      refine CodeR.ret ⟨.inr rfl, [.bool false], res0 (rs := [.tmp 6]), ?_⟩
      exact stop (Fol.refl hf1.1) fun h => by have := hw.2 h.1; cases this
    | false =>
      obtain ⟨pr1, pr2, pr3, pr4, pr5⟩ := hw.1 rfl
      obtain ⟨p, rfl⟩ : ∃ p : Nat, nom = Int.ofNat p := ⟨nom.toNat, by simp; omega⟩
      have hpn : p < noms.length := by simp at pr2; omega
      have hx := hT; refine cnd (t := false) (fun h => by cases h) (fun _ => ?_); clear hx
      have hx := an hT (an hg5' (an e5 lnx)); refine go ?_; clear hx
      refine mks (m := x.length) (v := .int .i64 0) (ji := i3) rfl (by simp only [i3]; omega) (by omega) ?_
      rw [reps_zints]
      have hf2 := (Fol.refl hf1.1).new ⟨3, zints (List.replicate x.length 0)⟩
      have hr2 : RZ (s1.h.set s1.c ⟨3, zints (List.replicate x.length 0)⟩) (List.replicate x.length 0) (.slice (some (s1.c, 0)) x.length x.length 0) := row_own (by rw [T.get_set, if_pos rfl]) x.length (by rw [zints_length]; simp)
      refine cal0 (g := 19) (vs := [.slice (some (s1.c, 0)) x.length x.length 0]) (hf := fun lc hlc => (ToRow_run hr2 hf2.1 (lim_lo hlc (by simp only; omega)) (by simp; omega) (fun i hi => by rw [List.getD_eq_getElem?_getD, List.getElem?_replicate]; split <;> (unfold I64; decide))).mono fun v7 s3 hp => ?_)
      obtain ⟨p1, p2, cs3, p3, p4, p5⟩ := hp
      have hf13 : Fol s1 s3 := hf2.trans ⟨p1, p2⟩
      have m3 := hf13.mono
      have hO3 : Own s1.c s3 32 2 cs3 v7 := Own.own_le p3 (by simp only; omega)
      have hg33 : s3.h.get s.c = some ⟨42, [vn, va]⟩ := by rw [hf13.2.keep _ (by omega)]; exact hg3'
      have hg43 : s3.h.get (s.c + 1) = some ⟨44, [.int .i64 (Int.ofNat p), vk]⟩ := by rw [hf13.2.keep _ (by omega)]; exact hg4'
      have e33 : Nat.blt s.c s3.c = true := blt_iff.2 (by omega)
      have e43 : Nat.blt (s.c + 1) s3.c = true := blt_iff.2 (by omega)
      obtain ⟨b, o, n, cc, q, k, nm0, r0, hvn, f1, f2, f3, f4, f5, f9⟩ := (hn1.keep hf1.1.lt hf13.2).at p1 hpn
      have f9' : Nat.blt b s3.c = true := blt_iff.2 f9
      have ones0 : ones [.str nm0, r0] = true := by simp only [ones, Row.one f5, Bool.and_true]; rfl
      have hx := an hT (an hg33 (an hg43 (an e33 (an e43 (an hvn (an f1 (an f3 f9'))))))); refine go ?_; clear hx
      refine bld (v := .agg [.str nm0, r0]) (cs := [.str nm0, r0]) rfl ones0 ?_
      have hf4 := (Fol.refl p1).new ⟨47, [.str nm0, r0]⟩
      have hg04 : (s3.h.set s3.c (⟨47, [.str nm0, r0]⟩ : Blk)).get s3.c = some ⟨47, [.str nm0, r0]⟩ := by rw [T.get_set, if_pos rfl]
      have hc4 : (⟨s3.h.set s3.c ⟨47, [.str nm0, r0]⟩, s3.c + 1⟩ : St).c = s3.c + 1 := rfl
      generalize hs4 : (⟨s3.h.set s3.c ⟨47, [.str nm0, r0]⟩, s3.c + 1⟩ : St) = s4 at hf4 hc4 ⊢
      have hg04' : s4.h.get s3.c = some ⟨47, [.str nm0, r0]⟩ := by rw [← hs4]; exact hg04
      clear hg04 hs4
      have hf14 := hf13.trans hf4
      have hg34 : s4.h.get s.c = some ⟨42, [vn, va]⟩ := by rw [hf14.2.keep _ (by omega)]; exact hg3'
      have e34 : Nat.blt s.c s4.c = true := blt_iff.2 (by omega)
      have hx := an hT (an hg34 (an e34 e33)); refine go ?_; clear hx
      have ha4 := ha1.keep hf1.1.lt hf14.2
      obtain ⟨acs, har, has1⟩ := ha4
      refine appT (z := 2) i47 hg04' rfl hf4.1 har (m := accs.length) has1.1 ones0 has1.ones (by simp only [i47]; omega) fun v58 sL q1 q2 => ?_
      have hf1A := hf14.trans q2
      have mA := hf1A.mono
      have hLA : SY sL.h (noms.getD p [] :: accs) v58 := by
        refine ⟨_, q1, SYs.append (ys := [noms.getD p []]) ⟨rfl, fun i r hi => ?_⟩ (has1.keep hf4.1.lt q2.2)⟩
        cases i with
        | zero => cases hi; exact ⟨nm0, r0, rfl, rfl, RZ.keep (RZ.keep f5 p1.lt hf4.2) hf4.1.lt q2.2⟩
        | succ i => simp at hi
      have lL := hLA.len 47
      have hOA : Own s1.c sL 32 2 cs3 v7 := (hO3.keep p1 hf4.2).keep hf4.1 q2.2
      have hWA := (p4.keep p1.lt hf4.2).keep hf4.1.lt q2.2
      generalize hL : noms.getD p [] :: accs = L at hLA lL
      generalize hKs : (1 : Int) :: ks = Ks
      have lenL : L.length = accs.length + 1 := by rw [← hL]; rfl
      have nearK : NearR Ks := fun i hi => by
        rw [← hKs] at hi ⊢
        cases i with
        | zero => show Near 1; unfold Near; omega
        | succ i => rw [getD_succ]; exact pr4 i (by simpa using hi)
      have lenK : Ks.length = L.length := by rw [← hKs, lenL]; simp [pr3]
      have hx := lL; refine go ?_; clear hx
      refine CodeR.up L.length (fun i mm s5 => Fol s1 s5 ∧ sL.c ≤ s5.c ∧ Chg3 sL.h s5.h ∧ (∀ j, j < i → (L.getD j []).length = x.length ∧ NearR (L.getD j [])) ∧ ∃ T2 zs cs, mm = ⟨124, T2⟩ ∧ (T2.get 3 = some (.ptr (some (s.c, 0))) ∧ T2.get 4 = some (.ptr (some (s.c + 1, 0))) ∧ T2.get 5 = some (.ptr (some (s.c + 2, 0))) ∧ T2.get 7 = some (v7) ∧ T2.get 58 = some (v58) ∧ T2.get 59 = some (.int .i64 (Int.ofNat L.length)) ∧ T2.get 60 = some (.int .i64 (Int.ofNat i))) ∧ Own s1.c s5 32 2 cs v7 ∧ RW s5.h zs cs ∧ ones cs = true ∧ zs.length = x.length ∧ ∀ c, c < x.length → zs.getD c 0 = comb Ks L c i) ?_ ?_ ?_
      · refine ⟨hf1A, Nat.le_refl _, Chg3.refl _, fun j hj => by omega, _, _, _, rfl, ?_, hOA, hWA, p5, by simp, fun c hc => ?_⟩
        have hx := hT; exact has
        · rw [List.getD_eq_getElem?_getD, List.getElem?_replicate, if_pos hc]; rfl
      · rintro i mm s5 hi ⟨hf5, hc5, hch5, hok, T2, zs0, cs0, rfl, hT2, hO5, hW5, ho5, hzl, hzs⟩
        have m5 := hf5.mono
        have lt1 := lt_t hi
        have wi := w_up (i := i) (by omega)
        obtain ⟨b1, o1, n1, cc1, q1', k1, nm, r, hvs, u1, u2, u3, u4, u5, u9⟩ := (hLA.chg3 hch5).at hf5.1 hi
        have u9' : Nat.blt b1 s5.c = true := blt_iff.2 u9
        have ones1 : ones [.str nm, r] = true := by simp only [ones, Row.one u5, Bool.and_true]; rfl
        have hx := an hT2 lt1; refine go ?_; clear hx
        refine cnd0 (t := true) (fun _ => ?_) (fun h => by cases h)
        have hx := an hT2 (an hvs (an u1 (an u3 u9'))); refine go ?_; clear hx
        refine alc (cs := [.str [], .slice none 0 0 0]) ?_
        refine go0 ?_
        have hx := True.intro
        refine sto (b := s5.c) (cs := [.str nm, r]) (ty := 47) (cs0 := [.str [], .slice none 0 0 0]) (by simp only [T.get_set, if_true]) ones1 rfl (by omega) ?_
        clear hx
        have hf6 : Fol s5 ⟨(s5.h.set s5.c ⟨47, [.str [], .slice none 0 0 0]⟩).set s5.c ⟨47, [.str nm, r]⟩, s5.c + 1⟩ := ((Fol.refl hf5.1).new _).put (Nat.le_refl _) (by simp)
        have hg6 : ((s5.h.set s5.c (⟨47, [.str [], .slice none 0 0 0]⟩ : Blk)).set s5.c ⟨47, [.str nm, r]⟩).get s5.c = some ⟨47, [.str nm, r]⟩ := by rw [T.get_set, if_pos rfl]
        generalize hs6 : (⟨(s5.h.set s5.c ⟨47, [.str [], .slice none 0 0 0]⟩).set s5.c ⟨47, [.str nm, r]⟩, s5.c + 1⟩ : St) = s6 at hf6 ⊢
        have hg6' : s6.h.get s5.c = some ⟨47, [.str nm, r]⟩ := by rw [← hs6]; exact hg6
        have hc6 : s6.c = s5.c + 1 := by rw [← hs6]
        clear hg6 hs6
        have e6 : Nat.blt s5.c s6.c = true := blt_iff.2 (by omega)
        have hf16 := hf5.trans hf6
        have hr6' : RZ s6.h (L.getD i []) r := RZ.keep u5 hf5.1.lt hf6.2
        have hg56 : s6.h.get (s.c + 2) = some ⟨25, [vx]⟩ := by rw [hf16.2.keep _ (by omega)]; exact hg5'
        have e56 : Nat.blt (s.c + 2) s6.c = true := blt_iff.2 (by omega)
        have ly := lenR u5 3
        have bad : ¬ ((L.getD i []).length = x.length ∧ NearR (L.getD i [])) → ¬ SpellsP noms accs (Int.ofNat p) ks x := fun h hS => h (by
          rw [← hL]
          cases i with
          | zero => exact hS.2.1 p hpn
          | succ i => rw [getD_succ]; exact hS.2.2.1 i (by rw [← hL] at hi; simpa using hi))
        have lyle : (L.getD i []).length ≤ 1000000 ∨ ¬ (L.getD i []).length = x.length := by omega
        by_cases c1 : (L.getD i []).length = x.length
        case neg =>
          have d1 := eq_f c1
          have hx := an hT2 (an hg6' (an e6 (an hg56 (an e56 (an ly (an lnx d1)))))); refine go ?_; clear hx
          refine cnd0 (t := true) (fun _ => ?_) (fun h => by cases h)
          refine go0 ?_
          refine CodeR.ret ⟨.inr rfl, [.bool false], res0 (rs := [.tmp 6]), ?_⟩
          exact stop hf16 (bad fun h => c1 h.1)
        have d1 := eq_t c1
        have hx := an hT2 (an hg6' (an e6 (an hg56 (an e56 (an ly (an lnx d1)))))); refine go ?_; clear hx
        refine cal0 (g := 18) (vs := [r]) (hf := fun lc hlc => (rowRight_run hr6' hf16.1 (by omega)).mono fun v s' hq => ?_)
        obtain ⟨rfl, br, rfl, hbr⟩ := hq
        cases br with
        | false =>
          refine go0 ?_
          refine cnd0 (t := true) (fun _ => ?_) (fun h => by cases h)
          refine go0 ?_
          refine CodeR.ret ⟨.inr rfl, [.bool false], res0 (rs := [.tmp 6]), ?_⟩
          exact stop hf16 (bad fun h => by have := hbr.2 h.2; cases this)
        | true =>
          have nr := hbr.1 rfl
          refine go0 ?_
          refine cnd0 (t := false) (fun h => by cases h) (fun _ => ?_)
          refine CodeR.skip ?_
          refine CodeR.seq (CodeR.reg rfl ?_)
          refine st0 ?_
          refine SeqR.done ?_
          refine CodeR.seq (CodeR.mono (Q := fun e m' s' => e = .nrm ∧ s6 = s' ∧ ∃ T3, m' = ⟨124, T3⟩ ∧ (T3.get 3 = some (.ptr (some (s.c, 0))) ∧ T3.get 4 = some (.ptr (some (s.c + 1, 0))) ∧ T3.get 5 = some (.ptr (some (s.c + 2, 0))) ∧ T3.get 7 = some (v7) ∧ T3.get 58 = some (v58) ∧ T3.get 59 = some (.int .i64 (Int.ofNat L.length)) ∧ T3.get 60 = some (.int .i64 (Int.ofNat i)) ∧ T3.get 9 = some (.ptr (some (s5.c, 0))) ∧ T3.get 10 = some (.int .i64 (Ks.getD i 0)))) ?_ ?_)
          · cases i with
            | zero =>
              have d0 : ltB 0 (Int.ofNat 0) = false := rfl
              have hx := an hT2 d0; refine go ?_; clear hx
              refine cnd0 (t := false) (fun h => by cases h) (fun _ => ?_)
              refine go0 ?_
              refine ⟨rfl, rfl, _, rfl, ?_⟩
              rw [← hKs]
              have hx := hT2; exact has
            | succ i =>
              have d0 : ltB 0 (Int.ofNat (i + 1)) = true := lt_t (a := 0) (by omega)
              have w9 : wr .i64 (Int.ofNat (i + 1) - 1) = Int.ofNat i := by
                rw [show Int.ofNat (i + 1) - 1 = Int.ofNat i by simp]; exact wr_nat (by omega)
              have hg46 : s6.h.get (s.c + 1) = some ⟨44, [.int .i64 (Int.ofNat p), vk]⟩ := by rw [hf16.2.keep _ (by omega)]; exact hg4'
              have e46 : Nat.blt (s.c + 1) s6.c = true := blt_iff.2 (by omega)
              obtain ⟨b3, o3, n3, cc3, q3, k3, hvk, x1, x2, x3⟩ := Row.zint (RZ.keep hk1 hf1.1.lt hf16.2) (i := i) (by omega)
              have x9 : Nat.blt b3 s6.c = true := blt_iff.2 (hf16.1.lt b3 k3 x2)
              have hx := an hT2 d0; refine go ?_; clear hx
              refine cnd0 (t := true) (fun _ => ?_) (fun h => by cases h)
              have hx := an hT2 (an hg46 (an e46 (an hvk (an w9 (an x1 (an x2 (an x3 x9))))))); refine go ?_; clear hx
              refine ⟨rfl, rfl, _, rfl, ?_⟩
              rw [← hKs, getD_succ]
              have hx := hT2; exact has
          · rintro e m' s' ⟨rfl, rfl, T3, rfl, hT3⟩
            have nki := nearK i (by omega)
            generalize hki : Ks.getD i 0 = ki at hT3 nki
            have hx := an hT3 (an hg56 (an e56 lnx)); refine go ?_; clear hx
            have hO6 := hO5.keep hf5.1 hf6.2
            have hW6 := hW5.keep hf5.1.lt hf6.2
            refine CodeR.up x.length (fun c mm s7 => Fol s1 s7 ∧ s6.c ≤ s7.c ∧ Chg3 s6.h s7.h ∧ ∃ T4 zs cs, mm = ⟨124, T4⟩ ∧ (T4.get 3 = some (.ptr (some (s.c, 0))) ∧ T4.get 4 = some (.ptr (some (s.c + 1, 0))) ∧ T4.get 5 = some (.ptr (some (s.c + 2, 0))) ∧ T4.get 7 = some (v7) ∧ T4.get 58 = some (v58) ∧ T4.get 59 = some (.int .i64 (Int.ofNat L.length)) ∧ T4.get 60 = some (.int .i64 (Int.ofNat i)) ∧ T4.get 9 = some (.ptr (some (s5.c, 0))) ∧ T4.get 10 = some (.int .i64 ki) ∧ T4.get 86 = some (.int .i64 (Int.ofNat x.length)) ∧ T4.get 87 = some (.int .i64 (Int.ofNat c))) ∧ Own s1.c s7 32 2 cs v7 ∧ RW s7.h zs cs ∧ ones cs = true ∧ zs.length = x.length ∧ ∀ j, j < x.length → zs.getD j 0 = if j < c then comb Ks L j (i + 1) else comb Ks L j i) ?_ ?_ ?_
            · refine ⟨hf16, Nat.le_refl _, Chg3.refl _, _, _, _, rfl, ?_, hO6, hW6, ho5, hzl, fun j hj => by rw [if_neg (by omega)]; exact hzs j hj⟩
              have hx := hT3; exact has
            · clear hzs hzl ho5 hW5 hO5 hO6 hW6 zs0 cs0
              rintro c mm s7 hc ⟨hf7, hc7, hch7, T4, zs, cs, rfl, hT4, hO7, hW7, ho7, hzl, hzs⟩
              have m7 := hf7.mono
              have lt2 := lt_t hc
              have wc := w_up (i := c) (by omega)
              rcases hO7 with ⟨rfl, rfl⟩ | ⟨bS, nS, rfl, hge, hgS, hlS, hnS⟩
              · have := hW7.1
                simp at this
                omega
              obtain ⟨a0, d0, w1, w2, hz0⟩ := hW7.2 c (zs.getD c 0) (by rw [List.getD_eq_getElem?_getD, List.getElem?_eq_getElem (by omega)]; rfl)
              have hbS : bS < s7.c := hf7.1.lt bS _ hgS
              have e9 : Nat.blt bS s7.c = true := blt_iff.2 hbS
              have hcl2 : Nat.blt c nS = true := blt_iff.2 (by have := hW7.1; omega)
              have hcell : cellsAt s7.h bS (c * 2) 2 = some [a0, d0] := by
                unfold cellsAt
                rw [hgS, Option.bind_some]
                simp only
                rw [ble_iff.2 (by have := hW7.1; omega), cond_true, take_two w1 w2]
              have hz1 : zs.getD c 0 = comb Ks L c i := by rw [hzs c hc, if_neg (by omega)]
              rw [hz1] at hz0
              have nmi := nr c (by omega)
              have hcw : (comb Ks L c i).natAbs < 10 ^ 30 := by
                have := sumN_bound (f := fun i => Ks.getD i 0 * (L.getD i []).getD c 0) (B := 1000000000000000000) i fun j hj => near_mul (nearK j (by omega)) ((hok j hj).2 c (by rw [(hok j hj).1]; exact hc))
                unfold comb
                omega
              have hmul := near_mul nki nmi
              have hx := an hT4 lt2; refine go ?_; clear hx
              refine cnd0 (t := true) (fun _ => ?_) (fun h => by cases h)
              have hx := an hT4 (an hcl2 (an hcell e9)); refine go ?_; clear hx
              refine cal0 (g := 22) (vs := [.int .i64 ki]) (hf := fun lc hlc => (Of_run (near_i64' nki).1 (near_i64' nki).2 hf7.1 (lim_lo hlc (by omega))).mono fun v8 s8 hp => ?_)
              obtain ⟨x1, x2, x3⟩ := hp
              have m8 := x2.mono
              have hch8 : Chg3 s6.h s8.h := hch7.trans (Chg3.kept hf7.1.lt x2)
              have hg98 : s8.h.get s5.c = some ⟨47, [.str nm, r]⟩ := (hch8 _ _ hg6').elim id fun h => absurd rfl ((h (.str nm) List.mem_cons_self).2 nm)
              have hr8 : RZ s8.h (L.getD i []) r := RZ.chg3 hr6' hch8
              have hr7 : RZ s7.h (L.getD i []) r := RZ.chg3 hr6' hch7
              obtain ⟨b4, o4, n4, cc4, q4, k4, hvr, y1, y2, y3⟩ := Row.zint hr8 (i := c) (by omega)
              have y98 : Nat.blt b4 s8.c = true := blt_iff.2 (x1.lt b4 k4 y2)
              have y97 : Nat.blt b4 s7.c = true := by
                obtain ⟨b6, o6, n6, cc6, q6, k6, hvr6, _, zz, _⟩ := Row.zint hr7 (i := c) (by omega)
                rw [hvr] at hvr6
                cases hvr6
                exact blt_iff.2 (hf7.1.lt b4 k6 zz)
              have e68 : Nat.blt s5.c s8.c = true := blt_iff.2 (by omega)
              have e67 : Nat.blt s5.c s7.c = true := blt_iff.2 (by omega)
              have hx := an hT4 (an hg98 (an e68 (an e67 (an hvr (an y1 (an y2 (an y3 (an y98 y97)))))))); refine go ?_; clear hx
              refine cal0 (g := 22) (vs := [.int .i64 ((L.getD i []).getD c 0)]) (hf := fun lc hlc => (Of_run (near_i64' nmi).1 (near_i64' nmi).2 x1 (lim_lo hlc (by omega))).mono fun v9 s9 hp => ?_)
              obtain ⟨z1, z2, z3⟩ := hp
              have m9 := z2.mono
              refine cal0 (g := 21) (vs := [v8, v9]) (hf := fun lc hlc => (mulW_z (x3.keep x1.lt z2) z3 z1 (lim_lo hlc (by omega)) (n := 20) (by omega) (by unfold Near at nki; omega) (by unfold Near at nmi; omega)).mono fun v10 s10 hp => ?_)
              obtain ⟨j1, j2, j3⟩ := hp
              have m10 := j2.mono
              have hz10 := ((hz0.keep hf7.1.lt x2).keep x1.lt z2).keep z1.lt j2
              refine cal0 (g := 20) (vs := [.agg [a0, d0], v10]) (hf := fun lc hlc => (addW_z hz10 j3 j1 (lim_lo hlc (by omega)) (n := 20) (by omega) (by omega) (by omega)).mono fun v11 s11 hp => ?_)
              obtain ⟨i1, i2, i3⟩ := hp
              have m11 := i2.mono
              have kk : ∀ b', b' < s7.c → s11.h.get b' = s7.h.get b' := fun b' hb' => by rw [i2.keep _ (by omega), j2.keep _ (by omega), z2.keep _ (by omega), x2.keep _ (by omega)]
              have hW11 := (((hW7.keep hf7.1.lt x2).keep x1.lt z2).keep z1.lt j2).keep j1.lt i2
              obtain ⟨a6, d6, rfl, ho6⟩ := wz_cells i3
              have hg11 : s11.h.get bS = some ⟨32, cs⟩ := by rw [kk _ hbS]; exact hgS
              have hK7 : Kept s7.c s7 s11 := ((x2.trans (z2.le m8)).trans (j2.le (by omega))).trans (i2.le (by omega))
              have hx := an hT4 hcl2; refine go ?_; clear hx
              refine stp (b := bS) (o1 := c * 2) (v := .agg [a6, d6]) (cs := [a6, d6]) rfl hg11 ho6 (by have := hW7.1; simp; omega) (by omega) si32 ?_
              have hno : NoInt ⟨32, cs⟩ := hW11.noint
              have hch : Chg s11.h (s11.h.set bS ⟨32, putL cs (c * 2) [a6, d6]⟩) := chg_set hg11 hno
              have hx := an hT4 wc; refine go ?_; clear hx
              refine ⟨⟨fresh_set i1 (by omega), kept_set (hf7.2.trans (hK7.le m7)) hge⟩, by simp only; omega, (hch7.trans (Chg3.kept hf7.1.lt hK7)).trans (Chg3.put hg11 hW11.nois), _, zs.set c (comb Ks L c i + ki * (L.getD i []).getD c 0), putL cs (c * 2) [a6, d6], rfl, ?_, .inr ⟨bS, nS, rfl, hge, by simp only [T.get_set, if_true], ?_, hnS⟩, (hW11.chg hch).put (by omega) (i3.chg hch), ones_putL ho7 ho6, by rw [List.length_set]; exact hzl, fun j hj => ?_⟩
              have hx := hT4; exact has
              · rw [putL_length (by simp; have := hW7.1; omega)]; exact hlS
              · rw [getD_set (by omega)]
                by_cases hjc : j = c
                · subst hjc
                  rw [if_pos rfl, if_pos (by omega), comb_succ, hki]
                · rw [if_neg hjc, hzs j hj]
                  by_cases hjl : j < c
                  · rw [if_pos hjl, if_pos (by omega)]
                  · rw [if_neg hjl, if_neg (by omega)]
            · rintro mm s7 ⟨hf7, hc7, hch7, T4, zs, cs, rfl, hT4, hO7, hW7, ho7, hzl', hzs'⟩
              have lt2 := lt_f (Nat.le_refl x.length)
              have hx := an hT4 lt2; refine go ?_; clear hx
              refine cnd0 (t := false) (fun h => by cases h) (fun _ => ?_)
              have hx := an hT4 wi; refine go ?_; clear hx
              refine ⟨hf7, by omega, (hch5.trans (Chg3.kept hf5.1.lt hf6.2)).trans hch7, fun j hj => ?_, _, zs, cs, rfl, ?_, hO7, hW7, ho7, hzl', fun c hc => by rw [hzs' c hc, if_pos hc]⟩
              · by_cases e : j = i
                · subst e; exact ⟨c1, nr⟩
                · exact hok j (by omega)
              have hx := hT4; exact has
      · rintro mm s5 ⟨hf5, hc5, hch5, hok, T2, zs, cs, rfl, hT2, hO5, hW5, ho5, hzl, hzs⟩
        have m5 := hf5.mono
        have hacc : Rows x.length accs := fun i hi => by
          have := hok (i + 1) (by omega)
          rw [← hL, getD_succ] at this
          exact this
        have lt1 := lt_f (Nat.le_refl L.length)
        have hg35 : s5.h.get s.c = some ⟨42, [vn, va]⟩ := by rw [hf5.2.keep _ (by omega)]; exact hg3'
        have e35 : Nat.blt s.c s5.c = true := blt_iff.2 (by omega)
        have hg55 : s5.h.get (s.c + 2) = some ⟨25, [vx]⟩ := by rw [hf5.2.keep _ (by omega)]; exact hg5'
        have hx5 := RZ.keep hx1 hf1.1.lt hf5.2
        have hx := an hT2 lt1; refine go ?_; clear hx
        refine cnd0 (t := false) (fun h => by cases h) (fun _ => ?_)
        have hx := an hT2 (an hg35 e35); refine go ?_; clear hx
        refine cal0 (g := 117) (vs := [vn, .fn 118 [.ptr (some (s.c + 2, 0))]]) (hf := fun lc hlc => (containsS_run (hn1.keep hf1.1.lt hf5.2) hg55 hx5 hf5.1 (lim_lo hlc (by omega)) (by omega) (fun i hi => by have := hr6 i hi; omega)).mono fun v6 s6 hp => ?_)
        obtain ⟨hf6, bb, rfl, hbb⟩ := hp
        have m6 := hf6.mono
        have hf16 := hf5.trans hf6
        cases bb with
        | true =>
          refine go0 ?_
          refine cnd0 (t := true) (fun _ => ?_) (fun h => by cases h)
          refine go0 ?_
          refine CodeR.ret ⟨.inr rfl, [.bool false], res0 (rs := [.tmp 6]), ?_⟩
          exact stop hf16 fun h => by have := hbb.2 h.2.1; cases this
        | false =>
          have hnom := hbb.1 rfl
          have hcomb : ∀ c, c < x.length → zs.getD c 0 = (noms.getD p []).getD c 0 + comb ks accs c accs.length := fun c hc => by rw [hzs c hc, lenL, ← hKs, ← hL, comb_one]
          have hbound : ∀ c, c < zs.length → (zs.getD c 0).natAbs < 10 ^ 100 := fun c hc => by
            rw [hcomb c (by omega)]
            have h1 := comb_le (c := c) (i := accs.length) pr4 (fun i hi => (hacc i hi).2) (by omega) (Nat.le_refl _) (fun i hi => by rw [(hacc i hi).1]; omega) (by omega)
            have h2 := (hnom p hpn).2 c (by rw [(hnom p hpn).1]; omega)
            unfold Near at h2
            omega
          have eqx : (∀ c, c < x.length → zs.getD c 0 = x.getD c 0) ↔ SpellsP noms accs (Int.ofNat p) ks x := ⟨fun h => ⟨⟨pr1, pr2, pr3, pr4, pr5⟩, hnom, hacc, fun c hc => by rw [← h c hc, hcomb c hc]; rfl⟩, fun h c hc => by rw [hcomb c hc]; exact h.2.2.2 c hc⟩
          refine go0 ?_
          refine cnd0 (t := false) (fun h => by cases h) (fun _ => ?_)
          have hx := hT2; refine go ?_; clear hx
          refine cal0 (g := 23) (vs := [v7]) (hf := fun lc hlc => (FromRow_run (hO5.keep hf5.1 hf6.2).row (hW5.keep hf5.1.lt hf6.2) hf6.1 (lim_lo hlc (by omega)) (by omega) hbound).mono fun v8 s8 hp => ?_)
          obtain ⟨x1, x2, x3⟩ := hp
          have m8 := x2.mono
          have hf18 : Fol s1 s8 := hf16.trans ⟨x1, x2⟩
          rcases x3 with ⟨hnr, r', rfl, hr'⟩ | ⟨hnr, r', rfl⟩
          · have hg58 : s8.h.get (s.c + 2) = some ⟨25, [vx]⟩ := by rw [hf18.2.keep _ (by omega)]; exact hg5'
            have e58 : Nat.blt (s.c + 2) s8.c = true := blt_iff.2 (by omega)
            have hx := an hT2 (an hg58 e58); refine go ?_; clear hx
            refine cal0 (g := 24) (vs := [r', vx]) (hf := fun lc hlc => (equal24 hr' (RZ.keep hx1 hf1.1.lt hf18.2) hf18.1 (by omega)).mono fun v9 s9 hp => ?_)
            obtain ⟨rfl, b9, rfl, hb9⟩ := hp
            refine go0 ?_
            refine CodeR.ret ⟨.inr rfl, [.bool b9], res0 (rs := [.tmp 6]), ?_⟩
            refine ⟨hf1.trans hf18, b9, rfl, hb9.trans (Iff.trans ?_ eqx)⟩
            rw [hzl]
            exact ⟨fun h => h.2, fun h => ⟨rfl, h⟩⟩
          · refine go0 ?_
            refine CodeR.ret ⟨.inr rfl, [.bool false], res0 (rs := [.tmp 6]), ?_⟩
            exact stop hf18 fun h => hnr fun c hc => by rw [eqx.2 h c (by omega)]; exact pr5 c (by omega)
end Go.Proofs.YtaocoplfdhcoaaaGreatDoor.EvA

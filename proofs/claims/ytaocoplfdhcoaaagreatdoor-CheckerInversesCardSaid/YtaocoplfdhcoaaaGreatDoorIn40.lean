/- checker.Inverse, run. No condition. -/
import Derived.Test.YtaocoplfdhcoaaaGreatDoorIn39
import Derived.Test.YtaocoplfdhcoaaaGreatDoorIn38
import Derived.Test.YtaocoplfdhcoaaaGreatDoorIn32
import Derived.Test.YtaocoplfdhcoaaaGreatDoorIn20
set_option linter.unusedVariables false
set_option linter.unusedSimpArgs false
set_option maxRecDepth 20000
set_option maxHeartbeats 2000000
namespace Go.Proofs.YtaocoplfdhcoaaaGreatDoor.EvA
open Go Go.RowKit Go.Proofs.YtaocoplfdhcoaaaGreatDoor.Ev
theorem fn30' : E.fns.get 30 = some Tryz.f30 := by kernel_rfl
theorem hy30 : E.tt.get 2 = some ⟨.int .i64, 1, 8, .int .i64 0⟩ ∧ szE E 2 = some 1 ∧ E.tt.get 3 = some ⟨.int .i64, 1, 8, .int .i64 0⟩ ∧ szE E 3 = some 1 ∧ E.tt.get 4 = some ⟨.bool, 1, 1, .bool false⟩ ∧ szE E 4 = some 1 ∧ E.tt.get 22 = some ⟨.slice 25, 1, 24, .slice none 0 0 0⟩ ∧ szE E 22 = some 1 ∧ E.tt.get 23 = some ⟨.slice 25, 1, 24, .slice none 0 0 0⟩ ∧ szE E 23 = some 1 ∧ E.tt.get 24 = some ⟨.slice 3, 1, 24, .slice none 0 0 0⟩ ∧ szE E 24 = some 1 ∧ E.tt.get 25 = some ⟨.slice 3, 1, 24, .slice none 0 0 0⟩ ∧ szE E 25 = some 1 ∧ E.tt.get 169 = some ⟨.slice 245, 1, 24, .slice none 0 0 0⟩ ∧ szE E 169 = some 1 ∧ E.tt.get 171 = some ⟨.struct [(0, 4), (1, 169)], 2, 32, .agg [.bool false, .slice none 0 0 0]⟩ ∧ szE E 171 = some 2 ∧ E.tt.get 183 = some ⟨.slice 23, 1, 24, .slice none 0 0 0⟩ ∧ szE E 183 = some 1 ∧ E.tt.get 245 = some ⟨.int .u32, 1, 4, .int .u32 0⟩ ∧ szE E 245 = some 1 := ⟨rfl, rfl, rfl, rfl, rfl, rfl, rfl, rfl, rfl, rfl, rfl, rfl, rfl, rfl, rfl, rfl, rfl, rfl, rfl, rfl, rfl, rfl⟩
theorem bld2 {lo c0 j n d t0 e : Nat} {t : T AV} {s : St} {all os : List Oper} {o : Oper} {K : Tm → St → Prop} {draw : Bool} {acs : List Nat} {x y : Operand} {v w z : AV} {i ji : TI} (hv : v.one = true) (hv' : w.one = true) (k : SeqR E lo draw c0 acs all (j + 1) os ⟨n, t.set d (.slice (some (s.c, 0)) 2 2 0)⟩ ⟨s.h.set s.c ⟨e, [v, w]⟩, s.c + 1⟩ K) (hw : wantE all t o = some true := by rfl) (hl : (draw && looseB E (acs.getD j 0) 0 (all.take j)) = false := by rfl) (ho : o.op = .buildSlice t0 2 #[(0, x), (1, y)] := by rfl) (ht : E.tt.get t0 = some i := by rfl) (hk : i.k = .slice e := by rfl) (hj : E.tt.get e = some ji := by rfl) (hz : ji.zero.cells = [z] := by rfl) (hsz : ji.size = 1 := by rfl) (hr : rho t x = some v := by (simp only [rho, T.get_set, Nat.reduceEqDiff, if_true, if_false] <;> rfl)) (hr' : rho t y = some w := by (simp only [rho, T.get_set, Nat.reduceEqDiff, if_true, if_false] <;> rfl)) (hd : o.dst = some d := by rfl) (hlt : Nat.blt d n = true := by rfl) : SeqR E lo draw c0 acs all j (o :: os) ⟨n, t⟩ s K := by
  refine SeqR.step hw hl ?_ hd hlt k
  rw [ho]
  intro call lc
  have ho1 : ones [v, w] = true := by simp only [ones, hv, hv', Bool.and_self]
  simp only [opE, kindOf, show Nat.beq 2 0 = false from rfl, cond_false, heapE, ht, hk, hj, Option.bind_some, List.toList_toArray, fillE, hr, hr', hz, hsz, reps, one_cells hv, one_cells hv', Nat.mul_one]
  simp only [show Nat.ble 2 16777216 = true from rfl, cond_true, List.length_singleton, show Nat.beq 1 1 = true from rfl, Nat.zero_mul, Nat.zero_add, List.cons_append, List.nil_append, List.length_cons, List.length_nil, show Nat.ble 1 (1 + 1) = true from rfl, Bool.and_self, putL, List.take_zero, List.drop_succ_cons, List.drop_zero, show Nat.ble (1 + 1) (1 + 1) = true from rfl, List.take_succ_cons, newAt, ho1, Option.map_some, Option.bind_some]
def SqN (n : Nat) (m : List (List Int)) : Prop := RightM m ∧ m.length = n ∧ (n ≠ 0 → (m.getD 0 []).length = n)
def Both (a b : List (List Int)) (i k : Nat) : Prop := comb (a.getD i []) b k b.length = delta i k ∧ comb (b.getD i []) a k a.length = delta i k
theorem inv_iff {a b : List (List Int)} : InvP a b ↔ SqN a.length a ∧ SqN a.length b ∧ ∀ i k, i < a.length → k < a.length → Both a b i k := by
  constructor
  · rintro ⟨h1, h2, h3, h4, h5⟩
    exact ⟨⟨h1.1, rfl, h1.2⟩, ⟨h2.1, h3.symm, fun h => by rw [h3]; exact h2.2 (by omega)⟩, fun i k hi hk => ⟨h4 i k hi hk, h5 i k (by omega) (by omega)⟩⟩
  · rintro ⟨⟨h1, _, h2⟩, ⟨h3, h4, h5⟩, h6⟩
    exact ⟨⟨h1, h2⟩, ⟨h3, fun h => by rw [h4]; exact h5 (by omega)⟩, h4.symm, fun i k hi hk => (h6 i k hi hk).1, fun i k hi hk => (h6 i k (by omega) (by omega)).2⟩
theorem row_eq {s : St} {m : List (List Int)} {v : AV} (hm : MZ s.h m v) (hF : Fresh s) {i : Nat} (hi : i < m.length) : ∃ b o n c q k r, v = .slice (some (b, o)) n c q ∧ Nat.blt i n = true ∧ s.h.get b = some k ∧ k.cells[o + i]? = some r ∧ RZ s.h (m.getD i []) r ∧ b < s.c := by
  obtain ⟨b, o, n, c, q, k, r, h1, h2, h3, h4, h5⟩ := hm.row hi
  exact ⟨b, o, n, c, q, k, r, h1, h2, h3, h4, h5, hF.lt b k h3⟩
theorem Inverse_run {lo : Nat} {va vb : AV} {a b : List (List Int)} {s : St} (ha : MZ s.h a va) (hb : MZ s.h b vb) (hF : Fresh s) (hlo : lo ≤ s.c) :
    FunR E lo 30 [va, vb] s fun v s' => Fol s s' ∧ ∃ r, v = .bool r ∧ (r = true ↔ InvP a b) := by
  have onea : va.one = true := by obtain ⟨cs, h, _⟩ := ha; exact Row.one h
  have oneb : vb.one = true := by obtain ⟨cs, h, _⟩ := hb; exact Row.one h
  have hy := hy30
  refine FunR.body (fn := Tryz.f30) fn30' rfl ?_
  have hn : (max ([va, vb] : List AV).length Tryz.f30.ntmps) = 82 := rfl
  generalize max ([va, vb] : List AV).length Tryz.f30.ntmps = n at hn
  subst hn
  have g0 : (argsT 0 ([va, vb] : List AV)).get 0 = some (va) := rfl
  have g1 : (argsT 0 ([va, vb] : List AV)).get 1 = some (vb) := rfl
  generalize argsT 0 ([va, vb] : List AV) = T0 at g0 g1 ⊢
  have lna := ha.len 25
  have hx := an g0 (an g1 lna); refine go ?_; clear hx
  refine bld2 onea oneb ?_
  have hf1 := (Fol.refl hF).new ⟨23, [va, vb]⟩
  have hg1 : (s.h.set s.c (⟨23, [va, vb]⟩ : Blk)).get s.c = some ⟨23, [va, vb]⟩ := by rw [T.get_set, if_pos rfl]
  have hc1 : (⟨s.h.set s.c ⟨23, [va, vb]⟩, s.c + 1⟩ : St).c = s.c + 1 := rfl
  generalize hs1 : (⟨s.h.set s.c ⟨23, [va, vb]⟩, s.c + 1⟩ : St) = s1 at hf1 hc1 ⊢
  have hg1' : s1.h.get s.c = some ⟨23, [va, vb]⟩ := by rw [← hs1]; exact hg1
  clear hg1 hs1
  have ha1 := ha.keep hF.lt hf1.2
  have hb1 := hb.keep hF.lt hf1.2
  have e1 : Nat.blt s.c s1.c = true := blt_iff.2 (by omega)
  refine go0 ?_
  refine CodeR.up 2 (fun j mm s2 => s1 = s2 ∧ (0 < j → SqN a.length a) ∧ (1 < j → SqN a.length b) ∧ ∃ T1, mm = ⟨82, T1⟩ ∧ (T1.get 0 = some (va) ∧ T1.get 1 = some (vb) ∧ T1.get 5 = some (.int .i64 (Int.ofNat a.length)) ∧ T1.get 15 = some (.slice (some (s.c, 0)) 2 2 0) ∧ T1.get 16 = some (.int .i64 (Int.ofNat 2)) ∧ T1.get 17 = some (.int .i64 (Int.ofNat j)))) ?_ ?_ ?_
  · refine ⟨rfl, fun h => by omega, fun h => by omega, _, rfl, ?_⟩
    have hx := an g0 g1; exact has
  · rintro j mm s2 hj ⟨rfl, ka, kb, T1, rfl, hT⟩
    have lt1 := lt_t hj
    have lt9 : Nat.blt j 2 = true := blt_iff.2 hj
    obtain ⟨m, vm, hvm, hm, hnext, hbad⟩ : ∃ m vm, [va, vb][j]? = some vm ∧ MZ s1.h m vm ∧ (SqN a.length m → (0 < j + 1 → SqN a.length a) ∧ (1 < j + 1 → SqN a.length b)) ∧ (¬ SqN a.length m → ¬ InvP a b) := by
      match j, hj, ka with
      | 0, _, _ => exact ⟨a, va, rfl, ha1, fun h => ⟨fun _ => h, fun h => by omega⟩, fun h hI => h (inv_iff.1 hI).1⟩
      | 1, _, ka => exact ⟨b, vb, rfl, hb1, fun h => ⟨fun _ => ka (by omega), fun _ => h⟩, fun h hI => h (inv_iff.1 hI).2.1⟩
    have stop : ¬ SqN a.length m → Fol s s1 ∧ ∃ r, AV.bool false = .bool r ∧ (r = true ↔ InvP a b) := fun h => ⟨hf1, false, rfl, by simp only [Bool.false_eq_true, false_iff]; exact hbad h⟩
    have lm := hm.len 25
    have hx := an hT lt1; refine go ?_; clear hx
    refine cnd0 (t := true) (fun _ => ?_) (fun h => by cases h)
    have hx := an hT (an lt9 (an hg1' (an hvm e1))); refine go ?_; clear hx
    refine cal0 (g := 103) (vs := [vm]) (hf := fun lc hlc => (matrix_run hm hf1.1).mono fun v s' hq => ?_)
    obtain ⟨rfl, bm, rfl, hbm⟩ := hq
    have wi := w_up (i := j) (by omega)
    cases bm with
    | false =>
      refine go0 ?_
      refine cnd0 (t := true) (fun _ => ?_) (fun h => by cases h)
      refine go0 ?_
      refine CodeR.ret ⟨.inr rfl, [.bool false], res0 (rs := [.tmp 4]), ?_⟩
      exact stop fun h => by have := hbm.2 h.1; cases this
    | true =>
      have hR := hbm.1 rfl
      by_cases el : m.length = a.length
      case neg =>
        have e2 := eq_f el
        have hx := an hT (an lm e2); refine go ?_; clear hx
        refine cnd0 (t := true) (fun _ => ?_) (fun h => by cases h)
        refine go0 ?_
        refine CodeR.ret ⟨.inr rfl, [.bool false], res0 (rs := [.tmp 4]), ?_⟩
        exact stop fun h => el h.2.1
      have e2 := eq_t el
      by_cases ez : a.length = 0
      · have e3 : ltB 0 (Int.ofNat a.length) = false := lt_f (a := 0) (by omega)
        have hx := an hT (an lm (an e2 e3)); refine go ?_; clear hx
        refine cnd0 (t := false) (fun h => by cases h) (fun _ => ?_)
        have hx := an hT wi; refine go ?_; clear hx
        obtain ⟨n1, n2⟩ := hnext ⟨hR, el, fun h => absurd ez h⟩
        refine ⟨rfl, n1, n2, _, rfl, ?_⟩
        have hx := hT; exact has
      · have e3 : ltB 0 (Int.ofNat a.length) = true := lt_t (a := 0) (by omega)
        obtain ⟨b', o, n, c, q, kk, r, hv, f1, f2, f3, f4, f9⟩ := row_eq hm hf1.1 (i := 0) (by omega)
        have f9 : Nat.blt b' s1.c = true := blt_iff.2 f9
        rw [Nat.add_zero] at f3
        have lr := lenR f4 3
        by_cases er : (m.getD 0 []).length = a.length
        · have e4 := eq_t er
          have hx := an hT (an lm (an e2 e3)); refine go ?_; clear hx
          have hx := an hT (an hv (an f1 (an f2 (an f3 (an f9 (an lr e4)))))); refine go ?_; clear hx
          refine cnd0 (t := false) (fun h => by cases h) (fun _ => ?_)
          have hx := an hT wi; refine go ?_; clear hx
          obtain ⟨n1, n2⟩ := hnext ⟨hR, el, fun h => er⟩
          refine ⟨rfl, n1, n2, _, rfl, ?_⟩
          have hx := hT; exact has
        · have e4 := eq_f er
          have hx := an hT (an lm (an e2 e3)); refine go ?_; clear hx
          have hx := an hT (an hv (an f1 (an f2 (an f3 (an f9 (an lr e4)))))); refine go ?_; clear hx
          refine cnd0 (t := true) (fun _ => ?_) (fun h => by cases h)
          refine go0 ?_
          refine CodeR.ret ⟨.inr rfl, [.bool false], res0 (rs := [.tmp 4]), ?_⟩
          exact stop fun h => er (h.2.2 ez)
  · rintro mm s2 ⟨rfl, ka, kb, T1, rfl, hT⟩
    have lt1 := lt_f (Nat.le_refl 2)
    have sqa := ka (by omega)
    have sqb := kb (by omega)
    have sa : SquareP a := ⟨sqa.1, sqa.2.2⟩
    have sb : SquareP b := ⟨sqb.1, fun h => by rw [sqb.2.1]; exact sqb.2.2 (by have := sqb.2.1; omega)⟩
    have lab := sqb.2.1
    have la := sa.le
    have hx := an hT lt1; refine go ?_; clear hx
    refine cnd0 (t := false) (fun h => by cases h) (fun _ => ?_)
    have hx := hT; refine go ?_; clear hx
    refine CodeR.up a.length (fun i mm s2 => Fol s1 s2 ∧ (∀ i' k, i' < i → k < a.length → Both a b i' k) ∧ ∃ T1, mm = ⟨82, T1⟩ ∧ (T1.get 0 = some (va) ∧ T1.get 1 = some (vb) ∧ T1.get 5 = some (.int .i64 (Int.ofNat a.length)) ∧ T1.get 43 = some (.int .i64 (Int.ofNat a.length)) ∧ T1.get 44 = some (.int .i64 (Int.ofNat i)))) ?_ ?_ ?_
    · refine ⟨Fol.refl hf1.1, fun i' k h => by omega, _, rfl, ?_⟩
      have hx := hT; exact has
    · rintro i mm s2 hi ⟨hf2, hok, T2, rfl, hT2⟩
      have lt2 := lt_t hi
      have hx := an hT2 lt2; refine go ?_; clear hx
      refine cnd0 (t := true) (fun _ => ?_) (fun h => by cases h)
      have hx := hT2; refine go ?_; clear hx
      refine CodeR.up a.length (fun k mm s3 => Fol s1 s3 ∧ (∀ k', k' < k → Both a b i k') ∧ ∃ T2, mm = ⟨82, T2⟩ ∧ (T2.get 0 = some (va) ∧ T2.get 1 = some (vb) ∧ T2.get 5 = some (.int .i64 (Int.ofNat a.length)) ∧ T2.get 43 = some (.int .i64 (Int.ofNat a.length)) ∧ T2.get 44 = some (.int .i64 (Int.ofNat i)) ∧ T2.get 8 = some (.int .i64 (Int.ofNat i)) ∧ T2.get 47 = some (.int .i64 (Int.ofNat a.length)) ∧ T2.get 48 = some (.int .i64 (Int.ofNat k)))) ?_ ?_ ?_
      · refine ⟨hf2, fun k' h => by omega, _, rfl, ?_⟩
        have hx := hT2; exact has
      · rintro k mm s3 hk ⟨hf3, hok2, T3, rfl, hT3⟩
        have m3 := hf3.mono
        have lt3 := lt_t hk
        have hx := an hT3 lt3; refine go ?_; clear hx
        refine cnd0 (t := true) (fun _ => ?_) (fun h => by cases h)
        have hx := hT3; refine go ?_; clear hx
        refine cal0 (g := 108) (vs := [.int .i64 0]) (hf := fun lc hlc => (number_run (by decide) (by decide) hf3.1 (lim_lo hlc (by omega))).mono fun v4 s4 hp => ?_)
        obtain ⟨p1, p2, p3⟩ := hp
        have m4 := p2.mono
        obtain ⟨d0, rfl, hd0⟩ := p3
        refine alc (cs := [.bool false, .slice none 0 0 0]) ?_
        have hx := True.intro
        refine sto (b := s4.c) (cs := [.bool (decide ((0 : Int) < 0)), d0]) (ty := 171) (cs0 := [.bool false, .slice none 0 0 0]) (by simp only [T.get_set, if_true]) (ones_pair hd0) rfl (by omega) ?_
        have hf5 : Fol s4 ⟨(s4.h.set s4.c ⟨171, [.bool false, .slice none 0 0 0]⟩).set s4.c ⟨171, [.bool (decide ((0 : Int) < 0)), d0]⟩, s4.c + 1⟩ := ((Fol.refl p1).new _).put (Nat.le_refl _) (by simp)
        have hz5 : IV _ 0 (.agg [.bool (decide ((0 : Int) < 0)), d0]) := IV.keep ⟨d0, rfl, hd0⟩ p1.lt hf5.2
        have hg5 : ((s4.h.set s4.c (⟨171, [.bool false, .slice none 0 0 0]⟩ : Blk)).set s4.c ⟨171, [.bool (decide ((0 : Int) < 0)), d0]⟩).get s4.c = some ⟨171, [.bool (decide ((0 : Int) < 0)), d0]⟩ := by rw [T.get_set, if_pos rfl]
        generalize hs5 : (⟨(s4.h.set s4.c ⟨171, [.bool false, .slice none 0 0 0]⟩).set s4.c ⟨171, [.bool (decide ((0 : Int) < 0)), d0]⟩, s4.c + 1⟩ : St) = s5 at hf5 hz5 ⊢
        have hg5' : s5.h.get s4.c = some ⟨171, [.bool (decide ((0 : Int) < 0)), d0]⟩ := by rw [← hs5]; exact hg5
        have hc5 : s5.c = s4.c + 1 := by rw [← hs5]
        clear hg5 hs5 hx
        refine SeqR.done ?_
        refine CodeR.seq (CodeR.mono (Q := fun e m' s6 => e = .nrm ∧ Fresh s6 ∧ Kept s4.c s4 s6 ∧ s4.c < s6.c ∧ ∃ T4 es, m' = ⟨82, T4⟩ ∧ (T4.get 0 = some (va) ∧ T4.get 1 = some (vb) ∧ T4.get 5 = some (.int .i64 (Int.ofNat a.length)) ∧ T4.get 43 = some (.int .i64 (Int.ofNat a.length)) ∧ T4.get 44 = some (.int .i64 (Int.ofNat i)) ∧ T4.get 8 = some (.int .i64 (Int.ofNat i)) ∧ T4.get 9 = some (.int .i64 (Int.ofNat k)) ∧ T4.get 47 = some (.int .i64 (Int.ofNat a.length)) ∧ T4.get 48 = some (.int .i64 (Int.ofNat k)) ∧ T4.get 10 = some (.ptr (some (s4.c, 0)))) ∧ s6.h.get s4.c = some ⟨171, es⟩ ∧ es.length = 2 ∧ IV s6.h (delta i k) (.agg es)) ?_ ?_)
        · by_cases hik : i = k
          · have e1 := eq_t hik
            have hx := an hT3 e1; refine go ?_; clear hx
            refine cnd0 (t := true) (fun _ => ?_) (fun h => by cases h)
            refine go0 ?_
            refine cal0 (g := 108) (vs := [.int .i64 1]) (hf := fun lc hlc => (number_run (by decide) (by decide) hf5.1 (lim_lo hlc (by omega))).mono fun v7 s7 hp => ?_)
            obtain ⟨q1, q2, q3⟩ := hp
            have m7 := q2.mono
            obtain ⟨d1, rfl, hd1⟩ := q3
            have hg7 : s7.h.get s4.c = some ⟨171, [.bool (decide ((0 : Int) < 0)), d0]⟩ := by rw [q2.keep _ (by omega)]; exact hg5'
            have hx := True.intro
            refine sto (b := s4.c) (cs := [.bool (decide ((1 : Int) < 0)), d1]) hg7 (ones_pair hd1) rfl (by omega) ?_
            clear hx
            refine go0 ?_
            refine ⟨rfl, fresh_set q1 (by omega), kept_set (hf5.2.trans (q2.le (by omega))) (by omega), by simp only; omega, _, _, rfl, ?_, by simp only; rw [T.get_set, if_pos rfl], rfl, ?_⟩
            have hx := hT3; exact has
            · rw [show delta i k = 1 from if_pos hik]
              refine ⟨d1, rfl, nv_other hd1 (k0 := ⟨171, _⟩) hg7 ?_⟩
              obtain ⟨d', hd', hn'⟩ := hz5
              cases hd'
              exact pairNo hn'
          · have e1 := eq_f hik
            have hx := an hT3 e1; refine go ?_; clear hx
            refine cnd0 (t := false) (fun h => by cases h) (fun _ => ?_)
            refine go0 ?_
            refine ⟨rfl, hf5.1, hf5.2, by omega, _, _, rfl, ?_, hg5', rfl, ?_⟩
            have hx := hT3; exact has
            · rw [show delta i k = 0 from if_neg hik]
              exact hz5
        · rintro e m' s6 ⟨rfl, hF6, hK6, hc6, T4, es, rfl, hT4, hg6, hl6, hI6⟩
          have hk46 : Kept s1.c s1 s6 := (hf3.2.trans (p2.le m3)).trans (hK6.le (by omega))
          have ha6 := ha1.keep hf1.1.lt hk46
          have hb6 := hb1.keep hf1.1.lt hk46
          obtain ⟨b1, o1, n1, c1, q1, k1, r1, va', f1, f2, f3, f4, f9⟩ := row_eq ha6 hF6 hi
          have f9' : Nat.blt b1 s6.c = true := blt_iff.2 f9
          obtain ⟨b2, o2, n2, c2, q2, k2, r2, vb', g1, g2, g3, g4, g9⟩ := row_eq hb6 hF6 (i := i) (by omega)
          have g9' : Nat.blt b2 s6.c = true := blt_iff.2 g9
          have e9 : Nat.blt s4.c s6.c = true := blt_iff.2 hc6
          have nra := sa.row hi
          have nrb := sb.row (i := i) (by omega)
          have lra : (a.getD i []).length = a.length := nra.1
          have lrb : (b.getD i []).length = b.length := nrb.1
          have stop : ∀ {s' : St}, Fol s1 s' → ¬ Both a b i k → Fol s s' ∧ ∃ r, AV.bool false = .bool r ∧ (r = true ↔ InvP a b) := fun hf h => ⟨hf1.trans hf, false, rfl, by simp only [Bool.false_eq_true, false_iff]; exact fun hI => h ((inv_iff.1 hI).2.2 i k hi hk)⟩
          have hx := an hT4 (an va' (an f1 (an f2 (an f3 f9')))); refine go ?_; clear hx
          have hx := hT4; refine cal (g := 106) (vs := [vb, .int .i64 (Int.ofNat k)]) (hf := fun lc hlc => (column_run hb6 hF6 (lim_lo hlc (by omega)) (by omega) (fun i hi => by rw [(sb.row hi).1]; omega)).mono fun v7 s7 hp => ?_); clear hx
          obtain ⟨t1, t2, t3⟩ := hp
          have m7 := t2.mono
          refine cal0 (g := 105) (vs := [r1, v7]) (hf := fun lc hlc => (dot_run (RZ.keep f4 hF6.lt t2) t3 t1 (lim_lo hlc (by omega)) (by rw [colL_length]; omega) (by omega) nra.2 (sb.col (by omega))).mono fun v8 s8 hp => ?_)
          obtain ⟨u1, u2, u3⟩ := hp
          have m8 := u2.mono
          have hw8 := dotN_w nra.2 (sb.col (c := k) (by omega)) (n := (a.getD i []).length) (Nat.le_refl _) (by rw [colL_length]; omega) (by omega)
          rw [comb_col, show (a.getD i []).length = b.length by omega] at u3 hw8
          have hg8 : s8.h.get s4.c = some ⟨171, es⟩ := by rw [u2.keep _ (by omega), t2.keep _ (by omega)]; exact hg6
          have hbx8 := cells_box hg8 hl6
          have hI8 := (hI6.keep hF6.lt t2).keep t1.lt u2
          have hx := an hT4 (an hbx8 e9); refine go ?_; clear hx
          refine cal0 (g := 107) (vs := [v8, .agg es]) (hf := fun lc hlc => (equal_run u3 hI8 u1 (lim_lo hlc (by omega)) (n := 10) (by decide) hw8).mono fun v9 s9 hp => ?_)
          obtain ⟨w1, w2, rfl⟩ := hp
          have m9 := w2.mono
          have hf9 : Fol s1 s9 := ⟨w1, ((hk46.trans (t2.le (by omega))).trans (u2.le (by omega))).trans (w2.le (by omega))⟩
          by_cases c1 : comb (a.getD i []) b k b.length = delta i k
          case neg =>
            have d1 := dec_f c1
            have hx := d1; refine go ?_; clear hx
            refine cnd0 (t := true) (fun _ => ?_) (fun h => by cases h)
            refine go0 ?_
            refine CodeR.ret ⟨.inr rfl, [.bool false], res0 (rs := [.tmp 4]), ?_⟩
            exact stop hf9 fun h => c1 h.1
          have d1 := dec_t c1
          have kk : ∀ b', b' < s6.c → s9.h.get b' = s6.h.get b' := fun b' hb' => by rw [w2.keep _ (by omega), u2.keep _ (by omega), t2.keep _ hb']
          have g2' : s9.h.get b2 = some k2 := by rw [kk _ g9]; exact g2
          have ha9 := ha1.keep hf1.1.lt hf9.2
          have g4' := (((g4.keep hF6.lt t2).keep t1.lt u2).keep u1.lt w2)
          have g9'' : Nat.blt b2 s9.c = true := blt_iff.2 (by omega)
          have hx := an d1 (an hT4 (an vb' (an g1 (an g2' (an g3 g9''))))); refine go ?_; clear hx
          have hx := an hT4 d1; refine cal (g := 106) (vs := [va, .int .i64 (Int.ofNat k)]) (hf := fun lc hlc => (column_run ha9 w1 (lim_lo hlc (by omega)) (by omega) (fun i hi => by rw [(sa.row hi).1]; omega)).mono fun v10 s10 hp => ?_); clear hx
          obtain ⟨x1, x2, x3⟩ := hp
          have m10 := x2.mono
          have hx := d1; refine cal (g := 105) (vs := [r2, v10]) (hf := fun lc hlc => (dot_run (RZ.keep g4' w1.lt x2) x3 x1 (lim_lo hlc (by omega)) (by rw [colL_length]; omega) (by omega) nrb.2 (sa.col (by omega))).mono fun v11 s11 hp => ?_); clear hx
          obtain ⟨y1, y2, y3⟩ := hp
          have m11 := y2.mono
          have hw11 := dotN_w nrb.2 (sa.col (c := k) (by omega)) (n := (b.getD i []).length) (Nat.le_refl _) (by rw [colL_length]; omega) (by omega)
          rw [comb_col, show (b.getD i []).length = a.length by omega] at y3 hw11
          have hg11 : s11.h.get s4.c = some ⟨171, es⟩ := by rw [y2.keep _ (by omega), x2.keep _ (by omega), kk _ hc6]; exact hg6
          have hbx11 := cells_box hg11 hl6
          have hI11 := (((hI8.keep u1.lt w2).keep w1.lt x2).keep x1.lt y2)
          have hx := an d1 (an hT4 (an hbx11 e9)); refine go ?_; clear hx
          have hx := d1; refine cal (g := 107) (vs := [v11, .agg es]) (hf := fun lc hlc => (equal_run y3 hI11 y1 (lim_lo hlc (by omega)) (n := 10) (by decide) hw11).mono fun v12 s12 hp => ?_); clear hx
          obtain ⟨z1, z2, rfl⟩ := hp
          have m12 := z2.mono
          have hf12 : Fol s1 s12 := ⟨z1, ((hf9.2.trans (x2.le (by omega))).trans (y2.le (by omega))).trans (z2.le (by omega))⟩
          by_cases c2 : comb (b.getD i []) a k a.length = delta i k
          · have d2 := dec_t c2
            have wi := w_up (i := k) (by omega)
            have hx := an d1 d2; refine go ?_; clear hx
            refine cnd0 (t := false) (fun h => by cases h) (fun _ => ?_)
            have hx := an hT4 wi; refine go ?_; clear hx
            refine ⟨hf12, fun k' hk' => ?_, _, rfl, ?_⟩
            · by_cases e : k' = k
              · subst e; exact ⟨c1, c2⟩
              · exact hok2 k' (by omega)
            have hx := hT4; exact has
          · have d2 := dec_f c2
            have hx := an d1 d2; refine go ?_; clear hx
            refine cnd0 (t := true) (fun _ => ?_) (fun h => by cases h)
            refine go0 ?_
            refine CodeR.ret ⟨.inr rfl, [.bool false], res0 (rs := [.tmp 4]), ?_⟩
            exact stop hf12 fun h => c2 h.2
      · rintro mm s3 ⟨hf3, hok2, T3, rfl, hT3⟩
        have lt3 := lt_f (Nat.le_refl a.length)
        have wi := w_up (i := i) (by omega)
        have hx := an hT3 lt3; refine go ?_; clear hx
        refine cnd0 (t := false) (fun h => by cases h) (fun _ => ?_)
        have hx := an hT3 wi; refine go ?_; clear hx
        refine ⟨hf3, fun i' k h hk => ?_, _, rfl, ?_⟩
        · by_cases e : i' = i
          · subst e; exact hok2 k hk
          · exact hok i' k (by omega) hk
        have hx := hT3; exact has
    · rintro mm s2 ⟨hf2, hok, T2, rfl, hT2⟩
      have lt2 := lt_f (Nat.le_refl a.length)
      have hx := an hT2 lt2; refine go ?_; clear hx
      refine cnd0 (t := false) (fun h => by cases h) (fun _ => ?_)
      refine go0 ?_
      refine CodeR.ret ⟨.inr rfl, [.bool true], res0 (rs := [.tmp 4]), ?_⟩
      exact ⟨hf1.trans hf2, true, rfl, by simp only [true_iff]; exact inv_iff.2 ⟨sqa, sqb, hok⟩⟩
end Go.Proofs.YtaocoplfdhcoaaaGreatDoor.EvA
set_option linter.unusedVariables false
set_option linter.unusedSimpArgs false
set_option maxRecDepth 20000
set_option maxHeartbeats 2000000
namespace Go.Proofs.YtaocoplfdhcoaaaGreatDoor.EvA
open Go Go.RowKit Go.Proofs.YtaocoplfdhcoaaaGreatDoor.Ev
theorem fn28' : E.fns.get 28 = some Tryz.f28 := by kernel_rfl
theorem square_run {lo : Nat} {d : AV} {m : List (List Int)} {s : St} (hd : MZ s.h m d) (hF : Fresh s) :
    FunR E lo 28 [d] s fun v s' => s = s' ∧ ∃ b, v = .bool b ∧ (b = true ↔ SquareP m) := by
  refine FunR.body (fn := Tryz.f28) fn28' rfl ?_
  have hn : (max ([d] : List AV).length Tryz.f28.ntmps) = 19 := rfl
  generalize max ([d] : List AV).length Tryz.f28.ntmps = n at hn
  subst hn
  have g0 : (argsT 0 ([d] : List AV)).get 0 = some (d) := rfl
  generalize argsT 0 ([d] : List AV) = T0 at g0 ⊢
  have hn : (19 : Nat) = 19 := rfl
  have ld := hd.len 25
  have e0 : eqB (Int.ofNat m.length) 0 = decide (m.length = 0) := eqB_nat _ 0
  repeat (first | (refine CodeR.seq ?_) | (refine CodeR.reg rfl ?_) | (refine CodeR.regD rfl rfl rfl ?_) | (refine SeqR.done ?_) | (refine CodeR.block ?_) | (refine CodeR.skip ?_) | (refine CodeR.exit ?_; simp only [sA, Ex.then, Ex.inBlock, Nat.reduceEqDiff]) | (first | (refine SeqR.skipN ?_ rfl rfl ?_; (simp only [sA, wantE, T.get_set, Nat.reduceEqDiff, g0] <;> with_reducible rfl)) | ((first | refine SeqR.stepN (v := ?_) (s' := ?_) rfl ?_ rfl ?_ rfl rfl ?_ | refine SeqR.stepLN (v := ?_) (s' := ?_) rfl ?_ rfl ?_ rfl rfl ?_); rotate_left 3; (intro call lc; simp only [sA, opE, kindOf, pureE, heapE, rho, rhos, T.get_set, Nat.reduceEqDiff, nb00, absV, absS, l_slice, l_void, l_str, l_arr, natE, loadE, isConst, TK.agg, u_notB, b_eqlB, b_neqB, b_add, b_sub, b_mul, b_lss, b_gtr, b_leq, b_geq, b_eql, b_neq, ty3, i3, si3, ty23, i23, si23, ty25, i25, si25, g0] <;> rfl); rotate_left 1; (simp only [sA, wantE, T.get_set, Nat.reduceEqDiff, g0] <;> with_reducible rfl))))
  refine SeqR.callN (by first | with_reducible rfl | (simp only [sA, wantE, T.get_set, Nat.reduceEqDiff, u_notB, b_eqlB, b_neqB, b_add, b_sub, b_mul, b_lss, b_gtr, b_leq, b_geq, b_eql, b_neq, ty3, i3, si3, ty23, i23, si23, ty25, i25, si25, g0] <;> with_reducible rfl)) rfl rfl (g := 17) (vs := [d]) (by simp only [calleeE, sA, rho, rhos, T.get_set, Nat.reduceEqDiff, u_notB, b_eqlB, b_neqB, b_add, b_sub, b_mul, b_lss, b_gtr, b_leq, b_geq, b_eql, b_neq, ty3, i3, si3, ty23, i23, si23, ty25, i25, si25, g0]; rfl) (by first | rfl | assumption) rfl rfl (fun lc hlc => (right_run hd hF).mono fun v s' hq => ?_)
  obtain ⟨rfl, b, rfl, hb⟩ := hq
  cases b with
  | false =>
    repeat (first | (refine CodeR.seq ?_) | (refine CodeR.reg rfl ?_) | (refine CodeR.regD rfl rfl rfl ?_) | (refine SeqR.done ?_) | (refine CodeR.block ?_) | (refine CodeR.skip ?_) | (refine CodeR.exit ?_; simp only [sA, Ex.then, Ex.inBlock, Nat.reduceEqDiff]) | (first | (refine SeqR.skipN ?_ rfl rfl ?_; (simp only [sA, wantE, T.get_set, Nat.reduceEqDiff] <;> with_reducible rfl)) | ((first | refine SeqR.stepN (v := ?_) (s' := ?_) rfl ?_ rfl ?_ rfl rfl ?_ | refine SeqR.stepLN (v := ?_) (s' := ?_) rfl ?_ rfl ?_ rfl rfl ?_); rotate_left 3; (intro call lc; simp only [sA, opE, kindOf, pureE, heapE, rho, rhos, T.get_set, Nat.reduceEqDiff, nb00, absV, absS, l_slice, l_void, l_str, l_arr, natE, loadE, isConst, TK.agg, u_notB, b_eqlB, b_neqB, b_add, b_sub, b_mul, b_lss, b_gtr, b_leq, b_geq, b_eql, b_neq, ty3, i3, si3, ty23, i23, si23, ty25, i25, si25] <;> rfl); rotate_left 1; (simp only [sA, wantE, T.get_set, Nat.reduceEqDiff] <;> with_reducible rfl))))
    refine CodeR.ret ⟨.inr rfl, [.bool false], by (show ressE E _ _ [.tmp 2] = _; simp only [sA, ressE, resE, T.get_set, Nat.reduceEqDiff, u_notB, b_eqlB, b_neqB, b_add, b_sub, b_mul, b_lss, b_gtr, b_leq, b_geq, b_eql, b_neq, ty3, i3, si3, ty23, i23, si23, ty25, i25, si25]), ?_⟩
    refine ⟨rfl, false, rfl, ?_⟩
    simp only [Bool.false_eq_true, false_iff]
    intro h
    have := hb.2 h.1
    cases this
  | true =>
    by_cases hz : m.length = 0
    · have dz : decide (m.length = 0) = true := by simpa using hz
      repeat (first | (refine CodeR.seq ?_) | (refine CodeR.reg rfl ?_) | (refine CodeR.regD rfl rfl rfl ?_) | (refine SeqR.done ?_) | (refine CodeR.block ?_) | (refine CodeR.skip ?_) | (refine CodeR.exit ?_; simp only [sA, Ex.then, Ex.inBlock, Nat.reduceEqDiff]) | (first | (refine SeqR.skipN ?_ rfl rfl ?_; (simp only [sA, wantE, T.get_set, Nat.reduceEqDiff, g0, ld, e0, dz] <;> with_reducible rfl)) | ((first | refine SeqR.stepN (v := ?_) (s' := ?_) rfl ?_ rfl ?_ rfl rfl ?_ | refine SeqR.stepLN (v := ?_) (s' := ?_) rfl ?_ rfl ?_ rfl rfl ?_); rotate_left 3; (intro call lc; simp only [sA, opE, kindOf, pureE, heapE, rho, rhos, T.get_set, Nat.reduceEqDiff, nb00, absV, absS, l_slice, l_void, l_str, l_arr, natE, loadE, isConst, TK.agg, u_notB, b_eqlB, b_neqB, b_add, b_sub, b_mul, b_lss, b_gtr, b_leq, b_geq, b_eql, b_neq, ty3, i3, si3, ty23, i23, si23, ty25, i25, si25, g0, ld, e0, dz] <;> rfl); rotate_left 1; (simp only [sA, wantE, T.get_set, Nat.reduceEqDiff, g0, ld, e0, dz] <;> with_reducible rfl))))
      refine CodeR.ret ⟨.inr rfl, [.bool true], by (show ressE E _ _ [.tmp 2] = _; simp only [sA, ressE, resE, T.get_set, Nat.reduceEqDiff, u_notB, b_eqlB, b_neqB, b_add, b_sub, b_mul, b_lss, b_gtr, b_leq, b_geq, b_eql, b_neq, ty3, i3, si3, ty23, i23, si23, ty25, i25, si25, dz]), ?_⟩
      refine ⟨rfl, true, rfl, ?_⟩
      simp only [true_iff]
      exact ⟨hb.1 rfl, fun h => absurd hz h⟩
    · have dz : decide (m.length = 0) = false := by simpa using hz
      obtain ⟨b', o, n, c, q, kk, r, rfl, f1, f2, f3, f4⟩ := hd.row (i := 0) (by omega)
      have f9 : Nat.blt b' s.c = true := blt_iff.2 (hF.lt b' kk f2)
      rw [Nat.add_zero] at f3
      have lr := lenR f4 3
      repeat (first | (refine CodeR.seq ?_) | (refine CodeR.reg rfl ?_) | (refine CodeR.regD rfl rfl rfl ?_) | (refine SeqR.done ?_) | (refine CodeR.block ?_) | (refine CodeR.skip ?_) | (refine CodeR.exit ?_; simp only [sA, Ex.then, Ex.inBlock, Nat.reduceEqDiff]) | (first | (refine SeqR.skipN ?_ rfl rfl ?_; (simp only [sA, wantE, T.get_set, Nat.reduceEqDiff, g0, ld, e0, dz, f1, f2, f3, f9, lr, eqB_nat] <;> with_reducible rfl)) | ((first | refine SeqR.stepN (v := ?_) (s' := ?_) rfl ?_ rfl ?_ rfl rfl ?_ | refine SeqR.stepLN (v := ?_) (s' := ?_) rfl ?_ rfl ?_ rfl rfl ?_); rotate_left 3; (intro call lc; simp only [sA, opE, kindOf, pureE, heapE, rho, rhos, T.get_set, Nat.reduceEqDiff, nb00, absV, absS, l_slice, l_void, l_str, l_arr, natE, loadE, isConst, TK.agg, u_notB, b_eqlB, b_neqB, b_add, b_sub, b_mul, b_lss, b_gtr, b_leq, b_geq, b_eql, b_neq, ty3, i3, si3, ty23, i23, si23, ty25, i25, si25, g0, ld, e0, dz, f1, f2, f3, f9, lr, eqB_nat] <;> rfl); rotate_left 1; (simp only [sA, wantE, T.get_set, Nat.reduceEqDiff, g0, ld, e0, dz, f1, f2, f3, f9, lr, eqB_nat] <;> with_reducible rfl))))
      refine CodeR.ret ⟨.inr rfl, [.bool (decide ((m.getD 0 []).length = m.length))], by (show ressE E _ _ [.tmp 2] = _; simp only [sA, ressE, resE, T.get_set, Nat.reduceEqDiff, u_notB, b_eqlB, b_neqB, b_add, b_sub, b_mul, b_lss, b_gtr, b_leq, b_geq, b_eql, b_neq, ty3, i3, si3, ty23, i23, si23, ty25, i25, si25, dz]), ?_⟩
      refine ⟨rfl, _, rfl, ?_⟩
      simp only [decide_eq_true_eq]
      exact ⟨fun h => ⟨hb.1 rfl, fun _ => h⟩, fun h => h.2 hz⟩
end Go.Proofs.YtaocoplfdhcoaaaGreatDoor.EvA
set_option linter.unusedVariables false
set_option linter.unusedSimpArgs false
set_option maxRecDepth 20000
set_option maxHeartbeats 2000000
namespace Go.Proofs.YtaocoplfdhcoaaaGreatDoor.EvA
open Go Go.RowKit Go.Proofs.YtaocoplfdhcoaaaGreatDoor.Ev
theorem fn4' : E.fns.get 4 = some Tryz.f4 := by kernel_rfl
theorem hy4 : E.tt.get 3 = some ⟨.int .i64, 1, 8, .int .i64 0⟩ ∧ szE E 3 = some 1 ∧ E.tt.get 23 = some ⟨.slice 25, 1, 24, .slice none 0 0 0⟩ ∧ szE E 23 = some 1 ∧ E.tt.get 25 = some ⟨.slice 3, 1, 24, .slice none 0 0 0⟩ ∧ szE E 25 = some 1 := ⟨rfl, rfl, rfl, rfl, rfl, rfl⟩
theorem inverses_run {lo : Nat} {va vb : AV} {a b : List (List Int)} {s : St} (ha : MZ s.h a va) (hb : MZ s.h b vb) (hF : Fresh s) (hlo : lo ≤ s.c) :
    FunR E lo 4 [va, vb] s fun v s' => v = .bool true := by
  have hy := hy4
  refine FunR.body (fn := Tryz.f4) fn4' rfl ?_
  have hn : (max ([va, vb] : List AV).length Tryz.f4.ntmps) = 60 := rfl
  generalize max ([va, vb] : List AV).length Tryz.f4.ntmps = n at hn
  subst hn
  have g0 : (argsT 0 ([va, vb] : List AV)).get 0 = some (va) := rfl
  have g1 : (argsT 0 ([va, vb] : List AV)).get 1 = some (vb) := rfl
  generalize argsT 0 ([va, vb] : List AV) = T0 at g0 g1 ⊢
  have lna := ha.len 25
  have lnb := hb.len 25
  refine CodeR.seq (CodeR.reg rfl ?_)
  refine st0 ?_
  refine SeqR.done ?_
  refine CodeR.seq (CodeR.seq (CodeR.mono (Q := fun e m' s' => e = .nrm ∧ s = s' ∧ ∃ T1 w, m' = ⟨60, T1⟩ ∧ (T1.get 0 = some (va) ∧ T1.get 1 = some (vb) ∧ T1.get 28 = some (.bool w))) (CodeR.reg rfl ?_) ?_))
  · refine SeqR.extN rfl rfl rfl (g := 15) (vs := []) (v := .bool true) rfl rfl rfl rfl rfl ?_
    have fin : ∀ T1 w, (T1.get 0 = some (va) ∧ T1.get 1 = some (vb) ∧ T1.get 28 = some (.bool w)) → ∃ U1 u, (⟨60, T1⟩ : Tm) = ⟨60, U1⟩ ∧ (U1.get 0 = some (va) ∧ U1.get 1 = some (vb) ∧ U1.get 28 = some (.bool u)) := fun T1 w h => ⟨T1, w, rfl, h⟩
    by_cases c1 : 4 < a.length
    · have d1 : ltB 4 (Int.ofNat a.length) = true := lt_t (a := 4) c1
      have hx := an g0 (an lna d1); refine go ?_; clear hx
      refine ⟨rfl, rfl, fin _ true ?_⟩
      have hx := an g0 g1; exact has
    have d1 : ltB 4 (Int.ofNat a.length) = false := lt_f (a := 4) (by omega)
    by_cases c2 : 4 < b.length
    · have d2 : ltB 4 (Int.ofNat b.length) = true := lt_t (a := 4) c2
      have hx := an g0 (an g1 (an lna (an lnb (an d1 d2)))); refine go ?_; clear hx
      refine ⟨rfl, rfl, fin _ true ?_⟩
      have hx := an g0 g1; exact has
    have d2 : ltB 4 (Int.ofNat b.length) = false := lt_f (a := 4) (by omega)
    have hx := an g0 (an g1 (an lna (an lnb (an d1 d2)))); refine go ?_; clear hx
    refine cal0 (g := 16) (vs := [va]) (hf := fun lc hlc => (few_run ha hF).mono fun v s' hq => ?_)
    obtain ⟨rfl, bf, rfl, hbf⟩ := hq
    cases bf with
    | false =>
      refine go0 ?_
      refine ⟨rfl, rfl, fin _ true ?_⟩
      have hx := an g0 g1; exact has
    | true =>
      have hx := g1; refine go ?_; clear hx
      refine cal0 (g := 16) (vs := [vb]) (hf := fun lc hlc => (few_run hb hF).mono fun v s' hq => ?_)
      obtain ⟨rfl, bg, rfl, hbg⟩ := hq
      refine go0 ?_
      refine ⟨rfl, rfl, fin _ (!bg) ?_⟩
      have hx := an g0 g1; exact has
  · rintro e m' s' ⟨rfl, rfl, T1, w, rfl, hT⟩
    cases w with
    | true =>
      have hx := hT; refine cnd (t := true) (fun _ => ?_) (fun h => by cases h); clear hx
      refine CodeR.seq (CodeR.reg rfl ?_)
      refine SeqR.extN rfl rfl rfl (g := 15) (vs := []) (v := .bool true) rfl rfl rfl rfl rfl ?_
      refine go0 ?_
      refine CodeR.ret ⟨.inr rfl, [.bool true], res0 (rs := [.tmp 4]), ?_⟩
      rfl
    | false =>
      have hx := hT; refine cnd (t := false) (fun h => by cases h) (fun _ => ?_); clear hx
      refine CodeR.skip ?_
      refine CodeR.seq (CodeR.reg rfl ?_)
      refine st0 ?_
      refine SeqR.done ?_
      refine CodeR.seq (CodeR.mono (Q := fun e m' s' => e = .nrm ∧ Fol s s' ∧ ∃ T1 w, m' = ⟨60, T1⟩ ∧ (T1.get 0 = some (va) ∧ T1.get 1 = some (vb) ∧ T1.get 6 = some (.bool w)) ∧ (w = true ↔ InvP a b)) (CodeR.reg rfl ?_) ?_)
      · have fin : ∀ (s' : St) T1 w, Fol s s' → (T1.get 0 = some (va) ∧ T1.get 1 = some (vb) ∧ T1.get 6 = some (.bool w)) → (w = true ↔ InvP a b) → Ex.nrm = .nrm ∧ Fol s s' ∧ ∃ U1 u, (⟨60, T1⟩ : Tm) = ⟨60, U1⟩ ∧ (U1.get 0 = some (va) ∧ U1.get 1 = some (vb) ∧ U1.get 6 = some (.bool u)) ∧ (u = true ↔ InvP a b) := fun s' T1 w h h1 h2 => ⟨rfl, h, T1, w, rfl, h1, h2⟩
        have no : ∀ {p : Prop}, ¬ p → (false = true ↔ p) := fun h => ⟨fun h1 => (by cases h1), fun h2 => absurd h2 h⟩
        have hx := hT; refine go ?_; clear hx
        refine cal0 (g := 28) (vs := [va]) (hf := fun lc hlc => (square_run ha hF).mono fun v s' hq => ?_)
        obtain ⟨rfl, w1, rfl, h1⟩ := hq
        cases w1 with
        | false =>
          refine go0 ?_
          refine fin _ _ false (Fol.refl hF) ?_ (no fun h => by have := h1.2 h.1; cases this)
          have hx := hT; exact has
        | true =>
        have hx := hT; refine go ?_; clear hx
        refine cal0 (g := 28) (vs := [vb]) (hf := fun lc hlc => (square_run hb hF).mono fun v s' hq => ?_)
        obtain ⟨rfl, w2, rfl, h2⟩ := hq
        cases w2 with
        | false =>
          refine go0 ?_
          refine fin _ _ false (Fol.refl hF) ?_ (no fun h => by have := h2.2 h.2.1; cases this)
          have hx := hT; exact has
        | true =>
        have sa := h1.1 rfl
        have sb := h2.1 rfl
        by_cases el : a.length = b.length
        case neg =>
          have e1 := eq_f el
          have hx := an hT (an lna (an lnb e1)); refine go ?_; clear hx
          refine fin _ _ false (Fol.refl hF) ?_ (no fun h => el h.2.2.1)
          have hx := hT; exact has
        have e1 := eq_t el
        have hx := an hT (an lna (an lnb e1)); refine go ?_; clear hx
        refine cal0 (g := 29) (vs := [va, vb]) (hf := fun lc hlc => (identity_run ha hb hF (lim_lo hlc hlo) sa sb el).mono fun v s1 hq => ?_)
        obtain ⟨hf1, w3, rfl, h3⟩ := hq
        have m1 := hf1.mono
        cases w3 with
        | false =>
          refine go0 ?_
          refine fin _ _ false hf1 ?_ (no fun h => by have := h3.2 h.2.2.2.1; cases this)
          have hx := hT; exact has
        | true =>
        have hx := hT; refine go ?_; clear hx
        refine cal0 (g := 29) (vs := [vb, va]) (hf := fun lc hlc => (identity_run (hb.keep hF.lt hf1.2) (ha.keep hF.lt hf1.2) hf1.1 (lim_lo hlc (by omega)) sb sa el.symm).mono fun v s2 hq => ?_)
        obtain ⟨hf2, w4, rfl, h4⟩ := hq
        refine go0 ?_
        refine fin _ _ w4 (hf1.trans hf2) ?_ ⟨fun h => ⟨sa, sb, el, h3.1 rfl, h4.1 h⟩, fun h => h4.2 h.2.2.2.2⟩
        have hx := hT; exact has
      · rintro e m' s1 ⟨rfl, hf1, T2, w, rfl, hT2, hw⟩
        have m1 := hf1.mono
        have hx := hT2; refine go ?_; clear hx
        refine cal0 (g := 30) (vs := [va, vb]) (hf := fun lc hlc => (Inverse_run (ha.keep hF.lt hf1.2) (hb.keep hF.lt hf1.2) hf1.1 (lim_lo hlc (by omega))).mono fun v s2 hq => ?_)
        obtain ⟨hf2, r, rfl, hr⟩ := hq
        have hrw : (r == w) = true := by
          have : r = w := Bool.eq_iff_iff.2 (hr.trans hw.symm)
          rw [this]; exact beq_self_eq_true w
        have hx := an hT2 hrw; refine go ?_; clear hx
        refine CodeR.ret ⟨.inr rfl, [.bool true], res0 (rs := [.tmp 4]), ?_⟩
        rfl
end Go.Proofs.YtaocoplfdhcoaaaGreatDoor.EvA
set_option linter.unusedVariables false
set_option linter.unusedSimpArgs false
namespace Go.Proofs.YtaocoplfdhcoaaaGreatDoor.EvA
open Go Go.RowKit Go.Proofs.YtaocoplfdhcoaaaGreatDoor.Ev
theorem inverses_calls {H : Type} {enc : TypeId × Value → H} {W : World} (hW : Tab W) {held : Bool} {f0 f1 : Nat} {v0 v1 : Value} {x0 x1 : DataW H × List MemPlace} {a0 a1 : Option Addr} {l0 c0 l1 c1 : Nat}
    (e0 : v0 = .slice a0 l0 c0) (e1 : v1 = .slice a1 l1 c1)
    (h0 : DataW.trod enc Tryz.prog W 0 (fun _ => true) held f0 23 v0.cells.toList = some x0) (h1 : DataW.trod enc Tryz.prog W 0 (fun _ => true) held f1 23 v1.cells.toList = some x1) :
    Calls Tryz.prog 4 #[v0, v1] W fun e w' => e = .returned (.bool true) ∧ Below W.heap.size W w' := by
  subst e0 e1
  have oI : Opn W.heap.size W 3 IntR := opn_int Tryz.underlying3
  have oR : Opn W.heap.size W 25 (SL 1 IntR) := opn_slice Tryz.underlying25 (by kernel_rfl) (by decide) oI stays_int
  have sR := stays_slice (z := 1) stays_int
  have oM : Opn W.heap.size W 23 (SL 1 (SL 1 IntR)) := opn_slice Tryz.underlying23 (by kernel_rfl) (by decide) oR sR
  have sM := stays_slice (z := 1) sR
  obtain ⟨s1, μ1, vs1, m, L1, K1, A1, w1, q1, r1⟩ := oM H enc held f0 _ x0 _ _ h0 (laid_nil (Nat.le_refl _))
  obtain ⟨s2, μ2, vs2, k, L2, K2, A2, w2, q2, r2⟩ := oM H enc held f1 _ x1 _ _ h1 L1
  have m2 := K2.mono
  have r1' := sM _ _ _ _ r1 L1.fresh K2
  obtain ⟨vm, rfl, hm⟩ := sl_mat r1'
  obtain ⟨vk, rfl, hk⟩ := sl_mat r2
  have wm : wf (fun b => b < s2.c) μ2 vm := (wfs_agree A2 (S' := fun b => b < s2.c) (fun b hb => Nat.lt_of_lt_of_le hb m2) _ w1).1
  have cm : conc μ2 vm = .slice a0 l0 c0 := by
    rw [conc_agree A2 vm w1.1]
    have : [conc μ1 vm] = [Value.slice a0 l0 c0] := q1
    exact (List.cons.inj this).1
  have ck : conc μ2 vk = .slice a1 l1 c1 := by
    have : [conc μ2 vk] = [Value.slice a1 l1 c1] := q2
    exact (List.cons.inj this).1
  exact calls_of hW L2 (vs := [vm, vk]) ⟨wm, w2.1, trivial⟩ (by simp only [concs, cm, ck]) (inverses_run (lo := s2.c) hm hk L2.fresh (Nat.le_refl _))
end Go.Proofs.YtaocoplfdhcoaaaGreatDoor.EvA

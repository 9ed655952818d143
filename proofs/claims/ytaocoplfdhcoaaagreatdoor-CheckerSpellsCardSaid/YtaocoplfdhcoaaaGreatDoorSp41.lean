/- The law CheckerSpells, run: true. No condition. -/
import Derived.Test.YtaocoplfdhcoaaaGreatDoorSp38
import Derived.Test.YtaocoplfdhcoaaaGreatDoorSp40
import Derived.Test.YtaocoplfdhcoaaaGreatDoorSp36
set_option linter.unusedVariables false
set_option linter.unusedSimpArgs false
set_option maxRecDepth 20000
set_option maxHeartbeats 2000000
namespace Go.Proofs.YtaocoplfdhcoaaaGreatDoor.EvA
open Go Go.RowKit Go.Proofs.YtaocoplfdhcoaaaGreatDoor.Ev
theorem fn5' : E.fns.get 5 = some Tryz.f5 := by kernel_rfl
theorem hy5 : E.tt.get 3 = some ⟨.int .i64, 1, 8, .int .i64 0⟩ ∧ szE E 3 = some 1 ∧ E.tt.get 9 = some ⟨.str, 1, 16, .str []⟩ ∧ szE E 9 = some 1 ∧ E.tt.get 25 = some ⟨.slice 3, 1, 24, .slice none 0 0 0⟩ ∧ szE E 25 = some 1 ∧ E.tt.get 40 = some ⟨.slice 47, 1, 24, .slice none 0 0 0⟩ ∧ szE E 40 = some 1 ∧ E.tt.get 42 = some ⟨.struct [(0, 40), (1, 40)], 2, 48, .agg [.slice none 0 0 0, .slice none 0 0 0]⟩ ∧ szE E 42 = some 2 ∧ E.tt.get 44 = some ⟨.struct [(0, 3), (1, 25)], 2, 32, .agg [.int .i64 0, .slice none 0 0 0]⟩ ∧ szE E 44 = some 2 ∧ E.tt.get 47 = some ⟨.struct [(0, 9), (1, 25)], 2, 40, .agg [.str [], .slice none 0 0 0]⟩ ∧ szE E 47 = some 2 := ⟨rfl, rfl, rfl, rfl, rfl, rfl, rfl, rfl, rfl, rfl, rfl, rfl, rfl, rfl⟩
theorem lawSpells_run {lo : Nat} {vn va vk vx : AV} {nom : Int} {noms accs : List (List Int)} {ks x : List Int} {s : St} (hn : SY s.h noms vn) (ha : SY s.h accs va) (hk : RZ s.h ks vk) (hvx : RZ s.h x vx) (hF : Fresh s) (hlo : lo ≤ s.c) :
    FunR E lo 5 [.agg [vn, va], .agg [.int .i64 nom, vk], vx] s fun v s' => v = .bool true := by
  have on : vn.one = true := by obtain ⟨cs, h, _⟩ := hn; exact Row.one h
  have oa : va.one = true := by obtain ⟨cs, h, _⟩ := ha; exact Row.one h
  have o1 : ones [vn, va] = true := by simp only [ones, on, oa]; rfl
  have o2 : ones [.int .i64 nom, vk] = true := by simp only [ones, Row.one hk, Bool.and_true]; rfl
  have hy := hy5
  refine FunR.body (fn := Tryz.f5) fn5' rfl ?_
  have hn : (max ([.agg [vn, va], .agg [.int .i64 nom, vk], vx] : List AV).length Tryz.f5.ntmps) = 60 := rfl
  generalize max ([.agg [vn, va], .agg [.int .i64 nom, vk], vx] : List AV).length Tryz.f5.ntmps = n at hn
  subst hn
  have g0 : (argsT 0 ([.agg [vn, va], .agg [.int .i64 nom, vk], vx] : List AV)).get 0 = some (.agg [vn, va]) := rfl
  have g1 : (argsT 0 ([.agg [vn, va], .agg [.int .i64 nom, vk], vx] : List AV)).get 1 = some (.agg [.int .i64 nom, vk]) := rfl
  have g2 : (argsT 0 ([.agg [vn, va], .agg [.int .i64 nom, vk], vx] : List AV)).get 2 = some (vx) := rfl
  generalize argsT 0 ([.agg [vn, va], .agg [.int .i64 nom, vk], vx] : List AV) = T0 at g0 g1 g2 ⊢
  refine CodeR.seq (CodeR.reg rfl ?_)
  have hx := g0
  refine bx (v := .agg [vn, va]) (cs := [vn, va]) rfl o1 ?_
  clear hx
  have hx := g1
  refine bx (v := .agg [.int .i64 nom, vk]) (cs := [.int .i64 nom, vk]) rfl o2 ?_
  clear hx
  have hf1 : Fol s ⟨(s.h.set s.c ⟨42, [vn, va]⟩).set (s.c + 1) ⟨44, [.int .i64 nom, vk]⟩, s.c + 1 + 1⟩ := ((Fol.refl hF).new ⟨42, [vn, va]⟩).new ⟨44, [.int .i64 nom, vk]⟩
  have hg3 : ((s.h.set s.c (⟨42, [vn, va]⟩ : Blk)).set (s.c + 1) ⟨44, [.int .i64 nom, vk]⟩).get s.c = some ⟨42, [vn, va]⟩ := by rw [T.get_set, if_neg (by omega), T.get_set, if_pos rfl]
  have hg4 : ((s.h.set s.c (⟨42, [vn, va]⟩ : Blk)).set (s.c + 1) ⟨44, [.int .i64 nom, vk]⟩).get (s.c + 1) = some ⟨44, [.int .i64 nom, vk]⟩ := by rw [T.get_set, if_pos rfl]
  generalize hs1 : (⟨(s.h.set s.c ⟨42, [vn, va]⟩).set (s.c + 1) ⟨44, [.int .i64 nom, vk]⟩, s.c + 1 + 1⟩ : St) = s1 at hf1 ⊢
  have hg3' : s1.h.get s.c = some ⟨42, [vn, va]⟩ := by rw [← hs1]; exact hg3
  have hg4' : s1.h.get (s.c + 1) = some ⟨44, [.int .i64 nom, vk]⟩ := by rw [← hs1]; exact hg4
  have hc1 : s1.c = s.c + 2 := by rw [← hs1]
  clear hg3 hg4 hs1
  have e3 : Nat.blt s.c s1.c = true := blt_iff.2 (by omega)
  have e4 : Nat.blt (s.c + 1) s1.c = true := blt_iff.2 (by omega)
  have hn1 := hn.keep hF.lt hf1.2
  have ha1 := ha.keep hF.lt hf1.2
  have hk1 := RZ.keep hk hF.lt hf1.2
  have hx1 := RZ.keep hvx hF.lt hf1.2
  have lnn := hn.len 47
  have lna := ha.len 47
  have lnk := lenR hk 3
  have lnx := lenR hvx 3
  refine SeqR.stepM rfl rfl rfl (v := .bool false) (s' := s1) (fun call lc => by simp only [opE, kindOf, pureE, sA, rho, absV, absS]; rfl) rfl rfl ?_
  refine SeqR.done ?_
  refine CodeR.seq (CodeR.seq (CodeR.mono (Q := fun e m' s' => e = .nrm ∧ s1 = s' ∧ ∃ T1 w, m' = ⟨60, T1⟩ ∧ (T1.get 2 = some (vx) ∧ T1.get 3 = some (.ptr (some (s.c, 0))) ∧ T1.get 4 = some (.ptr (some (s.c + 1, 0))) ∧ T1.get 33 = some (.bool w)) ∧ (w = false → noms.length ≤ 4 ∧ accs.length ≤ 3 ∧ ks.length ≤ 4 ∧ x.length ≤ 6)) (CodeR.reg rfl ?_) ?_))
  · have fin : ∀ T1 w, (T1.get 2 = some (vx) ∧ T1.get 3 = some (.ptr (some (s.c, 0))) ∧ T1.get 4 = some (.ptr (some (s.c + 1, 0))) ∧ T1.get 33 = some (.bool w)) → (w = false → noms.length ≤ 4 ∧ accs.length ≤ 3 ∧ ks.length ≤ 4 ∧ x.length ≤ 6) → Ex.nrm = .nrm ∧ s1 = s1 ∧ ∃ U u, (⟨60, T1⟩ : Tm) = ⟨60, U⟩ ∧ (U.get 2 = some (vx) ∧ U.get 3 = some (.ptr (some (s.c, 0))) ∧ U.get 4 = some (.ptr (some (s.c + 1, 0))) ∧ U.get 33 = some (.bool u)) ∧ (u = false → noms.length ≤ 4 ∧ accs.length ≤ 3 ∧ ks.length ≤ 4 ∧ x.length ≤ 6) := fun T1 w h h' => ⟨rfl, rfl, T1, w, rfl, h, h'⟩
    refine SeqR.extN rfl rfl rfl (g := 15) (vs := []) (v := .bool true) rfl rfl rfl rfl rfl ?_
    by_cases c1 : 4 < noms.length
    · have d1 : ltB 4 (Int.ofNat noms.length) = true := lt_t (a := 4) c1
      have hx := an hg3' (an hg4' (an e3 (an e4 (an lnn d1)))); refine go ?_; clear hx
      refine fin _ true ?_ (fun h => by cases h)
      have hx := g2; exact has
    have d1 : ltB 4 (Int.ofNat noms.length) = false := lt_f (a := 4) (by omega)
    by_cases c2 : 3 < accs.length
    · have d2 : ltB 3 (Int.ofNat accs.length) = true := lt_t (a := 3) c2
      have hx := an hg3' (an hg4' (an e3 (an e4 (an lnn (an d1 (an lna d2)))))); refine go ?_; clear hx
      refine fin _ true ?_ (fun h => by cases h)
      have hx := g2; exact has
    have d2 : ltB 3 (Int.ofNat accs.length) = false := lt_f (a := 3) (by omega)
    by_cases c3 : 4 < ks.length
    · have d3 : ltB 4 (Int.ofNat ks.length) = true := lt_t (a := 4) c3
      have hx := an hg3' (an hg4' (an e3 (an e4 (an lnn (an d1 (an lna (an d2 (an lnk d3)))))))); refine go ?_; clear hx
      refine fin _ true ?_ (fun h => by cases h)
      have hx := g2; exact has
    have d3 : ltB 4 (Int.ofNat ks.length) = false := lt_f (a := 4) (by omega)
    have d4 : ltB 6 (Int.ofNat x.length) = decide (6 < x.length) := ltB_nat 6 _
    have hx := an hg3' (an hg4' (an e3 (an e4 (an lnn (an d1 (an lna (an d2 (an lnk (an d3 (an g2 (an lnx d4))))))))))); refine go ?_; clear hx
    refine fin _ (decide (6 < x.length)) ?_ (fun h => ⟨by omega, by omega, by omega, by simpa using h⟩)
    have hx := g2; exact has
  · rintro e m' s' ⟨rfl, rfl, T1, w, rfl, hT, hw⟩
    cases w with
    | true =>
      have hx := hT; refine cnd (t := true) (fun _ => ?_) (fun h => by cases h); clear hx
      refine CodeR.seq (CodeR.reg rfl ?_)
      refine SeqR.extN rfl rfl rfl (g := 15) (vs := []) (v := .bool true) rfl rfl rfl rfl rfl ?_
      refine go0 ?_
      refine CodeR.ret ⟨.inr rfl, [.bool true], res0 (rs := [.tmp 6]), ?_⟩
      rfl
    | false =>
      obtain ⟨ln, la, lk, lx⟩ := hw rfl
      have hx := hT; refine cnd (t := false) (fun h => by cases h) (fun _ => ?_); clear hx
      have hx := an hT (an hg3' e3); refine go ?_; clear hx
      refine cal0 (g := 31) (vs := [vn]) (hf := fun lc hlc => (Clone_run hn1 hf1.1 (lim_lo hlc (by omega)) (by omega)).mono fun v2 s2 hp => ?_)
      obtain ⟨hf2, cs2, hG2, hs2⟩ := hp
      have m2 := hf2.mono
      have hg32 : s2.h.get s.c = some ⟨42, [vn, va]⟩ := by rw [hf2.2.keep _ (by omega)]; exact hg3'
      have e32 : Nat.blt s.c s2.c = true := blt_iff.2 (by omega)
      have hx := an hT (an hg32 (an e32 e3)); refine go ?_; clear hx
      obtain ⟨acs, har, has1⟩ := ha1
      refine appM i47 s1.c hG2 hf2.1 (har.keep hf1.1.lt hf2.2) (m := accs.length) has1.1 hs2.ones has1.ones (by simp only [i47, hs2.1, has1.1]; omega) (by omega) m2 fun v3 s3 q1 q2 q3 q4 => ?_
      have hf3 : Fol s1 s3 := ⟨q2, hf2.2.trans q3⟩
      have m3 := hf3.mono
      have hL3 : SY s3.h (noms ++ accs) v3 := ⟨_, q1.row, (hs2.kept q4 hs2.noint).append (has1.keep hf1.1.lt hf3.2)⟩
      have lL := hL3.len 47
      have ha1' : SY s1.h accs va := ⟨acs, har, has1⟩
      have hx := lL; refine go ?_; clear hx
      refine CodeR.up (noms ++ accs).length (fun i mm s4 => Fol s1 s4 ∧ s3.c ≤ s4.c ∧ Kept s3.c s3 s4 ∧ (∀ j, j < i → ((noms ++ accs).getD j []).length ≤ 6) ∧ ∃ T2, mm = ⟨60, T2⟩ ∧ (T2.get 2 = some (vx) ∧ T2.get 3 = some (.ptr (some (s.c, 0))) ∧ T2.get 4 = some (.ptr (some (s.c + 1, 0))) ∧ T2.get 40 = some (v3) ∧ T2.get 41 = some (.int .i64 (Int.ofNat (noms ++ accs).length)) ∧ T2.get 42 = some (.int .i64 (Int.ofNat i)))) ?_ ?_ ?_
      · refine ⟨hf3, Nat.le_refl _, Kept.refl _ _, fun j hj => by omega, _, rfl, ?_⟩
        have hx := hT; exact has
      · rintro i mm s4 hi ⟨hf4, hc4, hk4, hok, T2, rfl, hT2⟩
        have m4 := hf4.mono
        have lt1 := lt_t hi
        have hi7 : i < 7 := by rw [List.length_append] at hi; omega
        have wi := w_up (i := i) (by omega)
        obtain ⟨b, o, n, c, q, k, nm, r, hvs, f1, f2, f3, f4, f5, f9⟩ := (hL3.keep hf3.1.lt hk4).at hf4.1 hi
        have f9' : Nat.blt b s4.c = true := blt_iff.2 f9
        have ones1 : ones [.str nm, r] = true := by simp only [ones, Row.one f5, Bool.and_true]; rfl
        have hx := an hT2 lt1; refine go ?_; clear hx
        refine cnd0 (t := true) (fun _ => ?_) (fun h => by cases h)
        have hx := an hT2 (an hvs (an f1 (an f3 f9'))); refine go ?_; clear hx
        refine alc (cs := [.str [], .slice none 0 0 0]) ?_
        have hx := True.intro
        refine sto (b := s4.c) (cs := [.str nm, r]) (ty := 47) (cs0 := [.str [], .slice none 0 0 0]) (by simp only [T.get_set, if_true]) ones1 rfl (by omega) ?_
        clear hx
        have hf5 : Fol s4 ⟨(s4.h.set s4.c ⟨47, [.str [], .slice none 0 0 0]⟩).set s4.c ⟨47, [.str nm, r]⟩, s4.c + 1⟩ := ((Fol.refl hf4.1).new _).put (Nat.le_refl _) (by simp)
        have hg5 : ((s4.h.set s4.c (⟨47, [.str [], .slice none 0 0 0]⟩ : Blk)).set s4.c ⟨47, [.str nm, r]⟩).get s4.c = some ⟨47, [.str nm, r]⟩ := by rw [T.get_set, if_pos rfl]
        generalize hs5 : (⟨(s4.h.set s4.c ⟨47, [.str [], .slice none 0 0 0]⟩).set s4.c ⟨47, [.str nm, r]⟩, s4.c + 1⟩ : St) = s5 at hf5 ⊢
        have hg5' : s5.h.get s4.c = some ⟨47, [.str nm, r]⟩ := by rw [← hs5]; exact hg5
        have hc5 : s5.c = s4.c + 1 := by rw [← hs5]
        clear hg5 hs5
        have e5 : Nat.blt s4.c s5.c = true := blt_iff.2 (by omega)
        have ly := lenR f5 3
        have hf45 := hf4.trans hf5
        by_cases c1 : 6 < ((noms ++ accs).getD i []).length
        · have d1 : ltB 6 (Int.ofNat ((noms ++ accs).getD i []).length) = true := lt_t (a := 6) c1
          have hx := an hT2 (an hg5' (an e5 (an ly d1))); refine go ?_; clear hx
          refine cnd0 (t := true) (fun _ => ?_) (fun h => by cases h)
          refine go0 ?_
          refine CodeR.ret ⟨.inr rfl, [.bool true], res0 (rs := [.tmp 6]), ?_⟩
          rfl
        · have d1 : ltB 6 (Int.ofNat ((noms ++ accs).getD i []).length) = false := lt_f (a := 6) (by omega)
          have hx := an hT2 (an hg5' (an e5 (an ly d1))); refine go ?_; clear hx
          refine cnd0 (t := false) (fun h => by cases h) (fun _ => ?_)
          have hx := an hT2 wi; refine go ?_; clear hx
          refine ⟨hf45, by omega, hk4.trans (hf5.2.le hc4), fun j hj => ?_, _, rfl, ?_⟩
          · by_cases e : j = i
            · subst e; omega
            · exact hok j (by omega)
          have hx := hT2; exact has
      · rintro mm s4 ⟨hf4, hc4, hk4, hok, T2, rfl, hT2⟩
        have m4 := hf4.mono
        have lt1 := lt_f (Nat.le_refl (noms ++ accs).length)
        have hr6 : ∀ i, i < noms.length → (noms.getD i []).length ≤ 6 := fun i hi => by
          have := hok i (by rw [List.length_append]; omega)
          rwa [List.getD_eq_getElem?_getD, List.getElem?_append_left hi, ← List.getD_eq_getElem?_getD] at this
        have box : ∀ {s' : St}, Fol s1 s' → cellsAt s'.h s.c 0 2 = some [vn, va] ∧ cellsAt s'.h (s.c + 1) 0 2 = some [.int .i64 nom, vk] ∧ Nat.blt s.c s'.c = true ∧ Nat.blt (s.c + 1) s'.c = true := fun {s'} hf => by
          have m := hf.mono
          exact ⟨cells_box (ty := 42) (by rw [hf.2.keep _ (by omega)]; exact hg3') rfl, cells_box (ty := 44) (by rw [hf.2.keep _ (by omega)]; exact hg4') rfl, blt_iff.2 (by omega), blt_iff.2 (by omega)⟩
        obtain ⟨x1, x2, x3, x4⟩ := box hf4
        have hx := an hT2 lt1; refine go ?_; clear hx
        refine cnd0 (t := false) (fun h => by cases h) (fun _ => ?_)
        have hx := an hT2 (an x1 (an x2 (an x3 x4))); refine go ?_; clear hx
        refine cal0 (g := 32) (vs := [.agg [vn, va], .agg [.int .i64 nom, vk], vx]) (hf := fun lc hlc => (Spells_run (hn1.keep hf1.1.lt hf4.2) (ha1'.keep hf1.1.lt hf4.2) (RZ.keep hk1 hf1.1.lt hf4.2) (RZ.keep hx1 hf1.1.lt hf4.2) hf4.1 (lim_lo hlc (by omega)) ln la lk lx).mono fun v5 s5 hp => ?_)
        obtain ⟨hf5, w1, rfl, h1⟩ := hp
        have hf45 := hf4.trans hf5
        have m5 := hf45.mono
        obtain ⟨y1, y2, y3, y4⟩ := box hf45
        have hx := an hT2 (an y1 (an y2 (an y3 (an y4 (an x3 x4))))); refine go ?_; clear hx
        refine cal0 (g := 33) (vs := [.agg [vn, va], .agg [.int .i64 nom, vk], vx]) (hf := fun lc hlc => (spells_run (hn1.keep hf1.1.lt hf45.2) (ha1'.keep hf1.1.lt hf45.2) (RZ.keep hk1 hf1.1.lt hf45.2) (RZ.keep hx1 hf1.1.lt hf45.2) hf45.1 (lim_lo hlc (by omega)) ln la lk lx hr6).mono fun v6 s6 hp => ?_)
        obtain ⟨hf6, w2, rfl, h2⟩ := hp
        have hrw : (w1 == w2) = true := by
          have : w1 = w2 := Bool.eq_iff_iff.2 (h1.trans h2.symm)
          rw [this]; exact beq_self_eq_true w2
        have hx := hrw; refine go ?_; clear hx
        refine CodeR.ret ⟨.inr rfl, [.bool true], res0 (rs := [.tmp 6]), ?_⟩
        rfl
end Go.Proofs.YtaocoplfdhcoaaaGreatDoor.EvA
set_option linter.unusedVariables false
set_option linter.unusedSimpArgs false
namespace Go.Proofs.YtaocoplfdhcoaaaGreatDoor.EvA
open Go Go.RowKit Go.Proofs.YtaocoplfdhcoaaaGreatDoor.Ev
theorem spells_calls {H : Type} {enc : TypeId × Value → H} {W : World} (hW : Tab W) {held : Bool} {f0 f1 f2 : Nat} {v0 v1 v2 : Value} {x0 x1 x2 : DataW H × List MemPlace} {c0 c1 : Array Value} {a2 : Option Addr} {l2 k2 : Nat}
    (e0 : v0 = .agg c0) (e1 : v1 = .agg c1) (e2 : v2 = .slice a2 l2 k2)
    (h0 : DataW.trod enc Tryz.prog W 0 (fun _ => true) held f0 42 v0.cells.toList = some x0) (h1 : DataW.trod enc Tryz.prog W 0 (fun _ => true) held f1 44 v1.cells.toList = some x1) (h2 : DataW.trod enc Tryz.prog W 0 (fun _ => true) held f2 25 v2.cells.toList = some x2) :
    Calls Tryz.prog 5 #[v0, v1, v2] W fun e w' => e = .returned (.bool true) ∧ Below W.heap.size W w' := by
  subst e0 e1 e2
  have oI : Opn W.heap.size W 3 IntR := opn_int Tryz.underlying3
  have oR : Opn W.heap.size W 25 (SL 1 IntR) := opn_slice Tryz.underlying25 (by kernel_rfl) (by decide) oI stays_int
  have sR := stays_slice (z := 1) stays_int
  have oS : Opn W.heap.size W 9 StrR := opn_str Tryz.underlying9
  have oY : Opn W.heap.size W 47 SymR := opn_struct2 Tryz.underlying47 rfl (z := 1) (by kernel_rfl) rfl (by kernel_rfl) oS oR stays_str
  have oN : Opn W.heap.size W 40 (SL 2 SymR) := opn_slice Tryz.underlying40 (by kernel_rfl) (by decide) oY stays_sym
  have sN := stays_slice (z := 2) stays_sym
  have oA : Opn W.heap.size W 42 (PR 1 (SL 2 SymR) (SL 2 SymR)) := opn_struct2 Tryz.underlying42 rfl (z := 1) (by kernel_rfl) rfl (by kernel_rfl) oN oN sN
  have sA := stays_pr (z := 1) sN sN
  have oB : Opn W.heap.size W 44 (PR 1 IntR (SL 1 IntR)) := opn_struct2 Tryz.underlying44 rfl (z := 1) (by kernel_rfl) rfl (by kernel_rfl) oI oR stays_int
  have sB := stays_pr (z := 1) stays_int sR
  obtain ⟨s1, μ1, vs1, ⟨nn, na⟩, L1, K1, A1, w1, q1, r1⟩ := oA H enc held f0 _ x0 _ _ h0 (laid_nil (Nat.le_refl _))
  obtain ⟨s2, μ2, vs2, ⟨nm, k⟩, L2, K2, A2, w2, q2, r2⟩ := oB H enc held f1 _ x1 _ _ h1 L1
  obtain ⟨s3, μ3, vs3, x, L3, K3, A3, w3, q3, r3⟩ := oR H enc held f2 _ x2 _ _ h2 L2
  have m2 := K2.mono
  have m3 := K3.mono
  have r1' := sA _ _ _ _ (sA _ _ _ _ r1 L1.fresh K2) L2.fresh K3
  have r2' := sB _ _ _ _ r2 L2.fresh K3
  obtain ⟨us, ws, rfl, hl, ra, rb⟩ := r1'
  obtain ⟨vn, rfl, hn⟩ := sl_sym ra
  obtain ⟨va, rfl, ha⟩ := sl_sym rb
  obtain ⟨us, ws, rfl, hl', ⟨rfl, _⟩, rb'⟩ := r2'
  obtain ⟨vk, rfl, hk⟩ := sl_row rb'
  obtain ⟨vx, rfl, hx⟩ := sl_row r3
  have A13 : Agree (fun b => b < s1.c) μ1 μ3 := agree_trans A2 A3 m2
  have w1' : wfs (fun b => b < s3.c) μ3 [vn, va] := wfs_agree A13 (S' := fun b => b < s3.c) (fun b hb => Nat.lt_of_lt_of_le hb (Nat.le_trans m2 m3)) _ w1
  have w2' : wfs (fun b => b < s3.c) μ3 [AV.int .i64 nm, vk] := wfs_agree A3 (S' := fun b => b < s3.c) (fun b hb => Nat.lt_of_lt_of_le hb m3) _ w2
  have c1' : concs μ3 [vn, va] = c0.toList := (concs_agree A13 _ w1).trans q1
  have c2' : concs μ3 [AV.int .i64 nm, vk] = c1.toList := (concs_agree A3 _ w2).trans q2
  have cx : conc μ3 vx = .slice a2 l2 k2 := by
    have : [conc μ3 vx] = [Value.slice a2 l2 k2] := q3
    exact (List.cons.inj this).1
  refine calls_of hW L3 (vs := [AV.agg [vn, va], AV.agg [AV.int .i64 nm, vk], vx]) ⟨w1', w2', w3.1, trivial⟩ ?_ (lawSpells_run (lo := s3.c) hn ha hk hx L3.fresh (Nat.le_refl _))
  have g1 : conc μ3 (.agg [vn, va]) = .agg c0 := by
    show Value.agg (concs μ3 [vn, va]).toArray = _
    rw [c1']
  have g2 : conc μ3 (.agg [AV.int .i64 nm, vk]) = .agg c1 := by
    show Value.agg (concs μ3 [AV.int .i64 nm, vk]).toArray = _
    rw [c2']
  show #[conc μ3 (.agg [vn, va]), conc μ3 (.agg [AV.int .i64 nm, vk]), conc μ3 vx] = _
  rw [g1, g2, cx]
end Go.Proofs.YtaocoplfdhcoaaaGreatDoor.EvA

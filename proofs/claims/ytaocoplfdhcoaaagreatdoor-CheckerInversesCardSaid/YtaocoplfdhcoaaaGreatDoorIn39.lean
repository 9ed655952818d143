/- schismaref07.Product, run. No condition. -/
import Derived.Test.YtaocoplfdhcoaaaGreatDoorIn38
set_option linter.unusedVariables false
set_option linter.unusedSimpArgs false
set_option maxRecDepth 20000
set_option maxHeartbeats 2000000
namespace Go.Proofs.YtaocoplfdhcoaaaGreatDoor.EvA
open Go Go.RowKit Go.Proofs.YtaocoplfdhcoaaaGreatDoor.Ev
theorem fn111' : E.fns.get 111 = some Tryz.f111 := by kernel_rfl
theorem hy111 : E.tt.get 3 = some ⟨.int .i64, 1, 8, .int .i64 0⟩ ∧ szE E 3 = some 1 ∧ E.tt.get 4 = some ⟨.bool, 1, 1, .bool false⟩ ∧ szE E 4 = some 1 ∧ E.tt.get 24 = some ⟨.slice 3, 1, 24, .slice none 0 0 0⟩ ∧ szE E 24 = some 1 ∧ E.tt.get 29 = some ⟨.slice 32, 1, 24, .slice none 0 0 0⟩ ∧ szE E 29 = some 1 ∧ E.tt.get 32 = some ⟨.struct [(0, 4), (1, 24)], 2, 32, .agg [.bool false, .slice none 0 0 0]⟩ ∧ szE E 32 = some 2 ∧ E.tt.get 178 = some ⟨.slice 29, 1, 24, .slice none 0 0 0⟩ ∧ szE E 178 = some 1 := ⟨rfl, rfl, rfl, rfl, rfl, rfl, rfl, rfl, rfl, rfl, rfl, rfl⟩
/-- A matrix of whole numbers, as a value. -/
def WM (h : T Blk) (m : List (List Int)) (v : AV) : Prop := ∃ cs, Row h 1 cs v ∧ RWs h m cs
theorem WM.keep {s s' : St} {m : List (List Int)} {v : AV} {c0 : Nat} (h : WM s.h m v) (hF : Lt c0 s) (hk : Kept c0 s s') : WM s'.h m v := by
  obtain ⟨cs, h1, h2⟩ := h
  exact ⟨cs, h1.keep hF hk, h2.keep hF hk⟩
theorem WM.len {h : T Blk} {m : List (List Int)} {v : AV} (hm : WM h m v) (e : Nat) : lenE (.slice e) v = some m.length := by
  obtain ⟨cs, h1, h2⟩ := hm
  obtain ⟨n, h3, h4⟩ := h1.len (e := e) (by omega)
  rw [h3, ← h2.1, h4, Nat.mul_one]
theorem WM.row {h : T Blk} {m : List (List Int)} {v : AV} (hm : WM h m v) {i : Nat} (hi : i < m.length) : ∃ b o n c q k r, v = .slice (some (b, o)) n c q ∧ Nat.blt i n = true ∧ h.get b = some k ∧ k.cells[o + i]? = some r ∧ RWV h (m.getD i []) r := by
  obtain ⟨cs, h1, h2, h3⟩ := hm
  obtain ⟨b, o, n, c, q, rfl, g1, _, k, g2, g3, g4⟩ := h1.shape (i := i) (by omega) (by omega)
  have g5 := g4 0 (by omega)
  simp only [Nat.mul_one, Nat.add_zero] at g5
  have hc : cs[i]? = some cs[i] := List.getElem?_eq_getElem (by omega)
  refine ⟨b, o, n, c, q, k, cs[i], rfl, blt_iff.2 g1, g2, by rw [g5, hc], h3 i _ _ ?_ hc⟩
  simp [List.getD_eq_getElem?_getD, List.getElem?_eq_getElem hi]
theorem RWV.at {h : T Blk} {zs : List Int} {v : AV} (hv : RWV h zs v) {i : Nat} (hi : i < zs.length) : ∃ b o n c q k a d, v = .slice (some (b, o)) n c q ∧ Nat.blt i n = true ∧ h.get b = some k ∧ cellsAt h b (o + i * 2) 2 = some [a, d] ∧ WZ h (zs.getD i 0) (.agg [a, d]) := by
  obtain ⟨cs, h1, h2⟩ := hv
  obtain ⟨b, o, n, c, q, k, a, d, e1, e2, e3, e4, e5, _⟩ := RW.at h1 h2 hi
  exact ⟨b, o, n, c, q, k, a, d, e1, e2, e3, e4, e5⟩
def rowL (r : List Int) (b : List (List Int)) (c : Nat) : List Int := (List.range c).map fun c => comb r b c b.length
def prodL (a b : List (List Int)) (nc : Nat) : List (List Int) := a.map fun r => rowL r b nc
theorem rowL_succ (r : List Int) (b : List (List Int)) (c : Nat) : rowL r b (c + 1) = rowL r b c ++ [comb r b c b.length] := by
  simp [rowL, List.range_succ]
theorem comb_b {k : List Int} {m : List (List Int)} {c i : Nat} (nk : NearR k) (nm : ∀ i, i < m.length → NearR (m.getD i [])) (hk : i ≤ k.length) (hm : i ≤ m.length) (hc : ∀ i, i < m.length → c < (m.getD i []).length) (hi : i ≤ 1000) : (comb k m c i).natAbs < 10 ^ 30 := by
  have := sumN_bound (f := fun i => k.getD i 0 * (m.getD i []).getD c 0) (B := 1000000000000000000) i fun j hj => near_mul (nk j (by omega)) (nm j (by omega) c (hc j (by omega)))
  unfold comb
  omega
theorem Product_run {lo nc : Nat} {va vb : AV} {a b : List (List Int)} {s : St} (ha : WM s.h a va) (hb : WM s.h b vb) (hF : Fresh s) (hlo : lo ≤ s.c) (la : a.length ≤ 100) (lb : b.length ≤ 100) (ln : nc ≤ 100)
    (ra : ∀ i, i < a.length → (a.getD i []).length = b.length ∧ NearR (a.getD i [])) (rb : ∀ k, k < b.length → (b.getD k []).length = nc ∧ NearR (b.getD k [])) :
    FunR E lo 111 [va, vb, .int .i64 (Int.ofNat nc)] s fun v s' => Fol s s' ∧ WM s'.h (prodL a b nc) v := by
  have hy := hy111
  refine FunR.body (fn := Tryz.f111) fn111' rfl ?_
  have hn : (max ([va, vb, .int .i64 (Int.ofNat nc)] : List AV).length Tryz.f111.ntmps) = 57 := rfl
  generalize max ([va, vb, .int .i64 (Int.ofNat nc)] : List AV).length Tryz.f111.ntmps = n at hn
  subst hn
  have g0 : (argsT 0 ([va, vb, .int .i64 (Int.ofNat nc)] : List AV)).get 0 = some (va) := rfl
  have g1 : (argsT 0 ([va, vb, .int .i64 (Int.ofNat nc)] : List AV)).get 1 = some (vb) := rfl
  have g2 : (argsT 0 ([va, vb, .int .i64 (Int.ofNat nc)] : List AV)).get 2 = some (.int .i64 (Int.ofNat nc)) := rfl
  generalize argsT 0 ([va, vb, .int .i64 (Int.ofNat nc)] : List AV) = T0 at g0 g1 g2 ⊢
  have la' := ha.len 29
  have lb' := hb.len 29
  have hx := g0; refine go ?_; clear hx
  refine CodeR.up a.length (fun i mm s1 => Fol s s1 ∧ ∃ T1 v cs, mm = ⟨57, T1⟩ ∧ (T1.get 0 = some (va) ∧ T1.get 1 = some (vb) ∧ T1.get 2 = some (.int .i64 (Int.ofNat nc)) ∧ T1.get 7 = some (v) ∧ T1.get 8 = some (.int .i64 (Int.ofNat i))) ∧ Own s.c s1 29 1 cs v ∧ RWs s1.h (prodL (a.take i) b nc) cs ∧ Sls cs ∧ ones cs = true) ?_ ?_ ?_
  · refine ⟨Fol.refl hF, _, _, [], rfl, ?_, .inl ⟨rfl, rfl⟩, ⟨by simp [prodL], fun i r c hi => by simp [prodL] at hi⟩, fun x hx => by simp at hx, rfl⟩
    have hx := an g0 (an g1 g2); exact has
  · rintro i mm s1 hi ⟨hf1, T1, v, cs, rfl, hT, hO, hW, hS, hcs⟩
    have m1 := hf1.mono
    have lt1 := lt_t hi
    obtain ⟨rai, nai⟩ := ra i hi
    have hx := an hT (an la' lt1); refine go ?_; clear hx
    refine cnd0 (t := true) (fun _ => ?_) (fun h => by cases h)
    refine go0 ?_
    refine CodeR.up nc (fun c mm s2 => Fol s1 s2 ∧ ∃ T2 w ds, mm = ⟨57, T2⟩ ∧ (T2.get 0 = some (va) ∧ T2.get 1 = some (vb) ∧ T2.get 2 = some (.int .i64 (Int.ofNat nc)) ∧ T2.get 7 = some (v) ∧ T2.get 8 = some (.int .i64 (Int.ofNat i)) ∧ T2.get 9 = some (w) ∧ T2.get 10 = some (.int .i64 (Int.ofNat c))) ∧ Own s1.c s2 32 2 ds w ∧ RW s2.h (rowL (a.getD i []) b c) ds ∧ ones ds = true) ?_ ?_ ?_
    · refine ⟨Fol.refl hf1.1, _, _, [], rfl, ?_, .inl ⟨rfl, rfl⟩, ⟨by simp [rowL], fun i z hi => by simp [rowL] at hi⟩, rfl⟩
      have hx := hT; exact has
    · rintro c mm s2 hc ⟨hf2, T2, w, ds, rfl, hT2, hO2, hW2, hds⟩
      have m2 := hf2.mono
      have lt2 := lt_t hc
      have hx := an hT2 lt2; refine go ?_; clear hx
      refine cnd0 (t := true) (fun _ => ?_) (fun h => by cases h)
      refine go0 ?_
      refine cal0 (g := 22) (vs := [.int .i64 0]) (hf := fun lc hlc => (Of_run (by decide) (by decide) hf2.1 (lim_lo hlc (by omega))).mono fun v3 s3 hp => ?_)
      obtain ⟨p1, p2, p3⟩ := hp
      have m3 := p2.mono
      obtain ⟨ca, cd, rfl, hones⟩ := wz_cells p3
      refine alc (cs := [.bool false, .slice none 0 0 0]) ?_
      have hx := True.intro
      refine sto (b := s3.c) (cs := [ca, cd]) (ty := 32) (cs0 := [.bool false, .slice none 0 0 0]) (by simp only [T.get_set, if_true]) hones rfl (by omega) ?_
      have hf4 : Fol s3 ⟨(s3.h.set s3.c ⟨32, [.bool false, .slice none 0 0 0]⟩).set s3.c ⟨32, [ca, cd]⟩, s3.c + 1⟩ := ((Fol.refl p1).new _).put (Nat.le_refl _) (by simp)
      have hz4 := p3.keep p1.lt hf4.2
      have hg4 : ((s3.h.set s3.c (⟨32, [.bool false, .slice none 0 0 0]⟩ : Blk)).set s3.c ⟨32, [ca, cd]⟩).get s3.c = some ⟨32, [ca, cd]⟩ := by rw [T.get_set, if_pos rfl]
      generalize hs4 : (⟨(s3.h.set s3.c ⟨32, [.bool false, .slice none 0 0 0]⟩).set s3.c ⟨32, [ca, cd]⟩, s3.c + 1⟩ : St) = s4 at hf4 hz4 ⊢
      have hg4' : s4.h.get s3.c = some ⟨32, [ca, cd]⟩ := by rw [← hs4]; exact hg4
      have hc4 : s4.c = s3.c + 1 := by rw [← hs4]
      clear hg4 hs4 hx
      refine go0 ?_
      refine CodeR.up b.length (fun k mm s5 => Fresh s5 ∧ Kept s3.c s3 s5 ∧ s3.c < s5.c ∧ ∃ T3 es, mm = ⟨57, T3⟩ ∧ (T3.get 0 = some (va) ∧ T3.get 1 = some (vb) ∧ T3.get 2 = some (.int .i64 (Int.ofNat nc)) ∧ T3.get 7 = some (v) ∧ T3.get 8 = some (.int .i64 (Int.ofNat i)) ∧ T3.get 9 = some (w) ∧ T3.get 10 = some (.int .i64 (Int.ofNat c)) ∧ T3.get 11 = some (.ptr (some (s3.c, 0))) ∧ T3.get 12 = some (.int .i64 (Int.ofNat k))) ∧ s5.h.get s3.c = some ⟨32, es⟩ ∧ WZ s5.h (comb (a.getD i []) b c k) (.agg es)) ?_ ?_ ?_
      · refine ⟨hf4.1, hf4.2, by omega, _, _, rfl, ?_, hg4', hz4⟩
        have hx := hT2; exact has
      · rintro k mm s5 hk ⟨hF5, hK5, hc5, T3, es, rfl, hT3, hg5, hz5⟩
        have lt3 := lt_t hk
        obtain ⟨ea, ed, hes, ones5⟩ := wz_cells hz5
        cases hes
        have hbx := cells_box hg5 (n := 2) rfl
        have e9 : Nat.blt s3.c s5.c = true := blt_iff.2 hc5
        have hcum : Kept s.c s s5 := ((hf1.2.trans (hf2.2.le m1)).trans (p2.le (by omega))).trans (hK5.le (by omega))
        obtain ⟨rbk, nbk⟩ := rb k hk
        have hx := an hT3 (an lb' lt3); refine go ?_; clear hx
        refine cnd0 (t := true) (fun _ => ?_) (fun h => by cases h)
        obtain ⟨b1, o1, n1, c1, q1, k1, r1, rfl, f1, f2, f3, f4⟩ := (ha.keep hF.lt hcum).row hi
        obtain ⟨b2, o2, n2, c2, q2, k2, r2, rfl, g1, g2, g3, g4⟩ := (hb.keep hF.lt hcum).row hk
        obtain ⟨b3, o3, n3, c3, q3, k3, xa, xd, rfl, u1, u2, u3, u4⟩ := f4.at (i := k) (by omega)
        obtain ⟨b4, o4, n4, c4, q4, k4, ya, yd, rfl, w1, w2, w3, w4⟩ := g4.at (i := c) (by omega)
        have f9 : Nat.blt b1 s5.c = true := blt_iff.2 (hF5.lt b1 k1 f2)
        have g9 : Nat.blt b2 s5.c = true := blt_iff.2 (hF5.lt b2 k2 g2)
        have u9 : Nat.blt b3 s5.c = true := blt_iff.2 (hF5.lt b3 k3 u2)
        have w9 : Nat.blt b4 s5.c = true := blt_iff.2 (hF5.lt b4 k4 w2)
        have hx := an hT3 (an hbx (an e9 (an f1 (an f2 (an f3 (an f9 (an g1 (an g2 (an g3 (an g9 (an u1 (an u3 (an u9 (an w1 (an w3 w9))))))))))))))); refine go ?_; clear hx
        have near_a := nai k (by omega)
        have near_b := nbk c (by omega)
        have hmul := near_mul near_a near_b
        have hcb := comb_b nai (fun i hi => (rb i hi).2) (i := k) (by omega) (by omega) (fun i hi => by rw [(rb i hi).1]; exact hc) (by omega)
        refine cal0 (g := 21) (vs := [.agg [xa, xd], .agg [ya, yd]]) (hf := fun lc hlc => (mulW_z u4 w4 hF5 (lim_lo hlc (by omega)) (n := 20) (by decide) (by unfold Near at near_a; omega) (by unfold Near at near_b; omega)).mono fun v6 s6 hp => ?_)
        obtain ⟨p6, q6, z6⟩ := hp
        have m6 := q6.mono
        refine cal0 (g := 20) (vs := [.agg [ea, ed], v6]) (hf := fun lc hlc => (addW_z (hz5.keep hF5.lt q6) z6 p6 (lim_lo hlc (by omega)) (n := 20) (by decide) (by omega) (by omega)).mono fun v7 s7 hp => ?_)
        obtain ⟨p7, q7, z7⟩ := hp
        have m7 := q7.mono
        obtain ⟨ga, gd, rfl, ones7⟩ := wz_cells z7
        have hg7 : s7.h.get s3.c = some ⟨32, [ea, ed]⟩ := by rw [q7.keep _ (by omega), q6.keep _ hc5]; exact hg5
        have hno : NoInt ⟨32, [ea, ed]⟩ := by
          obtain ⟨x, ⟨d', hd', hr'⟩, _⟩ := hz5
          simp only [wv, AV.agg.injEq, List.cons.injEq, and_true] at hd'
          obtain ⟨rfl, rfl⟩ := hd'
          intro y hy kd nn e
          subst e
          simp only [List.mem_cons, List.not_mem_nil, or_false] at hy
          rcases hy with h | h
          · cases h
          · subst h; exact hr'.elim
        have hx := hT3
        refine sto (b := s3.c) (cs := [ga, gd]) hg7 ones7 rfl (by omega) ?_
        clear hx
        have wi := w_up (i := k) (by omega)
        have hx := an hT3 wi; refine go ?_; clear hx
        refine ⟨fresh_set p7 (by omega), kept_set ((hK5.trans (q6.le (by omega))).trans (q7.le (by omega))) (by omega), by simp only; omega, _, _, rfl, ?_, by simp only; rw [T.get_set, if_pos rfl], z7.chg (chg_set hg7 hno)⟩
        have hx := hT3; exact has
      · rintro mm s5 ⟨hF5, hK5, hc5, T3, es, rfl, hT3, hg5, hz5⟩
        have lt3 := lt_f (Nat.le_refl b.length)
        obtain ⟨ea, ed, hes, ones5⟩ := wz_cells hz5
        cases hes
        have hbx := cells_box hg5 (n := 2) rfl
        have e9 : Nat.blt s3.c s5.c = true := blt_iff.2 hc5
        have hx := an hT3 (an lb' lt3); refine go ?_; clear hx
        refine cnd0 (t := false) (fun h => by cases h) (fun _ => ?_)
        have hx := an hT3 (an hbx e9); refine go ?_; clear hx
        have hk2 : Kept s2.c s2 s5 := p2.trans (hK5.le m3)
        have hO5 := hO2.keep hf2.1 hk2
        have hW5 := hW2.keep hf2.1.lt hk2
        have hl2 : ds.length ≤ 200 := by rw [hW2.1]; simp [rowL]; omega
        refine app1 (.agg [ea, ed]) s1.c (new := [ea, ed]) (ji := i32) rfl ones5 hO5 hF5 hds (by simp only [i32]; omega) (by omega) (by omega) fun v' s8 q1 q2 q3 q4 => ?_
        have hch := q4.chg hW5.noint
        have wi := w_up (i := c) (by omega)
        have hx := an hT3 wi; refine go ?_; clear hx
        refine ⟨⟨q2, (hf2.2.trans (hk2.le m2)).trans q3⟩, _, _, _, rfl, ?_, q1, ?_, ones_append hds ones5⟩
        have hx := hT3; exact has
        · rw [rowL_succ]
          exact (hW5.chg hch).append (hz5.chg hch)
    · rintro mm s2 ⟨hf2, T2, w, ds, rfl, hT2, hO2, hW2, hds⟩
      have m2 := hf2.mono
      have lt2 := lt_f (Nat.le_refl nc)
      have hx := an hT2 lt2; refine go ?_; clear hx
      refine cnd0 (t := false) (fun h => by cases h) (fun _ => ?_)
      have hx := hT2; refine go ?_; clear hx
      obtain ⟨a2, n2, c2, q2, rfl⟩ := own_sl hO2
      have hO3 := hO.keep hf1.1 hf2.2
      have hW3 := hW.keep hf1.1.lt hf2.2
      have hR3 : RWV s2.h _ _ := ⟨ds, hO2.row, hW2⟩
      have hl3 : cs.length ≤ 100 := by rw [hW.1]; simp [prodL]; omega
      refine app1 (.slice a2 n2 c2 q2) s.c (new := [.slice a2 n2 c2 q2]) (ji := i29) rfl rfl hO3 hf2.1 hcs (by simp only [i29]; omega) hlo (by omega) fun v' s4 q1 q2' q3 q4 => ?_
      have hch := q4.chg2 hS
      have wi := w_up (i := i) (by omega)
      have hx := an hT2 wi; refine go ?_; clear hx
      refine ⟨⟨q2', (hf1.2.trans (hf2.2.le m1)).trans q3⟩, _, _, _, rfl, ?_, q1, ?_, fun x hx => ?_, ones_append hcs rfl⟩
      have hx := hT2; exact has
      · rw [take_at hi [], prodL, List.map_append]
        exact (hW3.chg2 hch).append (hR3.chg2 hch)
      · rcases List.mem_append.1 hx with hx | hx
        · exact hS x hx
        · rw [List.mem_singleton.1 hx]; exact ⟨_, _, _, _, rfl⟩
  · rintro mm s1 ⟨hf1, T1, v, cs, rfl, hT, hO, hW, hS, hcs⟩
    have lt1 := lt_f (Nat.le_refl a.length)
    have hx := an hT (an la' lt1); refine go ?_; clear hx
    refine cnd0 (t := false) (fun h => by cases h) (fun _ => ?_)
    have hx := hT; refine go ?_; clear hx
    refine CodeR.ret ⟨.inr rfl, [v], res0 (rs := [.tmp 6]), ?_⟩
    rw [List.take_length] at hW
    exact ⟨hf1, cs, hO.row, hW⟩
end Go.Proofs.YtaocoplfdhcoaaaGreatDoor.EvA
set_option linter.unusedVariables false
namespace Go.Proofs.YtaocoplfdhcoaaaGreatDoor.EvA
open Go Go.Proofs.YtaocoplfdhcoaaaGreatDoor.Ev
def delta (i k : Nat) : Int := if i = k then 1 else 0
theorem near_delta (i k : Nat) : Near (delta i k) := by
  unfold delta Near
  split <;> omega
def SquareP (m : List (List Int)) : Prop := RightM m ∧ (m.length ≠ 0 → (m.getD 0 []).length = m.length)
theorem SquareP.row {m : List (List Int)} (h : SquareP m) {i : Nat} (hi : i < m.length) : (m.getD i []).length = m.length ∧ NearR (m.getD i []) := by
  obtain ⟨_, h1, h2⟩ := h.1.2 i hi
  exact ⟨by rw [h1]; exact h.2 (by omega), h2⟩
theorem SquareP.le {m : List (List Int)} (h : SquareP m) : m.length ≤ 12 := h.1.1
/-- The product is the identity. -/
def IdP (a b : List (List Int)) : Prop := ∀ i k, i < a.length → k < a.length → comb (a.getD i []) b k b.length = delta i k
def InvP (a b : List (List Int)) : Prop := SquareP a ∧ SquareP b ∧ a.length = b.length ∧ IdP a b ∧ IdP b a
theorem prodL_get {a b : List (List Int)} {n i : Nat} (hi : i < a.length) : (prodL a b n).getD i [] = rowL (a.getD i []) b n := by
  unfold prodL
  rw [List.getD_eq_getElem?_getD, List.getElem?_map, List.getElem?_eq_getElem hi, List.getD_eq_getElem?_getD, List.getElem?_eq_getElem hi]
  rfl
theorem rowL_get {r : List Int} {b : List (List Int)} {n k : Nat} (hk : k < n) : (rowL r b n).getD k 0 = comb r b k b.length := by
  unfold rowL
  rw [List.getD_eq_getElem?_getD, List.getElem?_map, List.getElem?_range hk]
  rfl
theorem rowL_length (r : List Int) (b : List (List Int)) (n : Nat) : (rowL r b n).length = n := by simp [rowL]
theorem prodL_length (a b : List (List Int)) (n : Nat) : (prodL a b n).length = a.length := by simp [prodL]
theorem colL_at (m : List (List Int)) (c i : Nat) : (colL m c).getD i 0 = (m.getD i []).getD c 0 := by
  unfold colL
  rw [List.getD_eq_getElem?_getD, List.getElem?_map, List.getD_eq_getElem?_getD (l := m)]
  cases m[i]? with
  | none => simp
  | some r => rfl
theorem colL_length (m : List (List Int)) (c : Nat) : (colL m c).length = m.length := by simp [colL]
theorem comb_col (k : List Int) (m : List (List Int)) (c n : Nat) : dotN k (colL m c) n = comb k m c n := by
  unfold dotN comb
  exact sumN_congr n fun i _ => by rw [colL_at]
theorem SquareP.col {m : List (List Int)} (h : SquareP m) {c : Nat} (hc : c < m.length) : NearR (colL m c) := fun i hi => by
  rw [colL_length] at hi
  rw [colL_at]
  obtain ⟨h1, h2⟩ := h.row hi
  exact h2 c (by omega)
end Go.Proofs.YtaocoplfdhcoaaaGreatDoor.EvA
set_option linter.unusedVariables false
set_option linter.unusedSimpArgs false
set_option maxRecDepth 20000
set_option maxHeartbeats 2000000
namespace Go.Proofs.YtaocoplfdhcoaaaGreatDoor.EvA
open Go Go.RowKit Go.Proofs.YtaocoplfdhcoaaaGreatDoor.Ev
theorem fn113' : E.fns.get 113 = some Tryz.f113 := by kernel_rfl
theorem hy113 : E.tt.get 3 = some ⟨.int .i64, 1, 8, .int .i64 0⟩ ∧ szE E 3 = some 1 ∧ E.tt.get 4 = some ⟨.bool, 1, 1, .bool false⟩ ∧ szE E 4 = some 1 ∧ E.tt.get 23 = some ⟨.slice 25, 1, 24, .slice none 0 0 0⟩ ∧ szE E 23 = some 1 ∧ E.tt.get 24 = some ⟨.slice 3, 1, 24, .slice none 0 0 0⟩ ∧ szE E 24 = some 1 ∧ E.tt.get 25 = some ⟨.slice 3, 1, 24, .slice none 0 0 0⟩ ∧ szE E 25 = some 1 ∧ E.tt.get 29 = some ⟨.slice 32, 1, 24, .slice none 0 0 0⟩ ∧ szE E 29 = some 1 ∧ E.tt.get 32 = some ⟨.struct [(0, 4), (1, 24)], 2, 32, .agg [.bool false, .slice none 0 0 0]⟩ ∧ szE E 32 = some 2 ∧ E.tt.get 178 = some ⟨.slice 29, 1, 24, .slice none 0 0 0⟩ ∧ szE E 178 = some 1 := ⟨rfl, rfl, rfl, rfl, rfl, rfl, rfl, rfl, rfl, rfl, rfl, rfl, rfl, rfl, rfl, rfl⟩
/-- The rows of a matrix, as cells. -/
def MZs (h : T Blk) (m : List (List Int)) (cs : List AV) : Prop := cs.length = m.length ∧ ∀ (i : Nat) (r : List Int) (c : AV), m[i]? = some r → cs[i]? = some c → RZ h r c
theorem RZ.chg2 {h h' : T Blk} {r : List Int} {v : AV} (hv : RZ h r v) (hc : Chg2 h h') : RZ h' r v := Row.chg2 (by decide) hv (zints_head _) hc
theorem MZs.keep {s s' : St} {m : List (List Int)} {cs : List AV} {c0 : Nat} (h : MZs s.h m cs) (hF : Lt c0 s) (hk : Kept c0 s s') : MZs s'.h m cs := ⟨h.1, fun i r c h1 h2 => (h.2 i r c h1 h2).keep hF hk⟩
theorem MZs.chg2 {h h' : T Blk} {m : List (List Int)} {cs : List AV} (hw : MZs h m cs) (hc : Chg2 h h') : MZs h' m cs := ⟨hw.1, fun i r c h1 h2 => (hw.2 i r c h1 h2).chg2 hc⟩
theorem MZs.append {h : T Blk} {m : List (List Int)} {cs : List AV} (hw : MZs h m cs) {r : List Int} {c : AV} (hr : RZ h r c) : MZs h (m ++ [r]) (cs ++ [c]) := by
  refine ⟨by simp [hw.1], fun i r' c' hi hc => ?_⟩
  rcases Nat.lt_or_ge i m.length with hlt | hge
  · rw [List.getElem?_append_left hlt] at hi
    rw [List.getElem?_append_left (by have := hw.1; omega)] at hc
    exact hw.2 i r' c' hi hc
  · have hi' : i = m.length := by
      have := (List.getElem?_eq_some_iff.1 hi).1
      simp at this
      omega
    subst hi'
    have hl := hw.1
    rw [← hl] at hc
    simp at hi hc
    subst hi hc
    exact hr
theorem From_mat {lo : Nat} {va : AV} {m : List (List Int)} {s : St} (hm : WM s.h m va) (hF : Fresh s) (hlo : lo ≤ s.c) (hl : m.length ≤ 100) (hz : ∀ i, i < m.length → (m.getD i []).length ≤ 1000 ∧ ∀ j, j < (m.getD i []).length → ((m.getD i []).getD j 0).natAbs < 10 ^ 100) :
    FunR E lo 113 [va] s fun v s' => Fol s s' ∧ (((∀ i, i < m.length → NearR (m.getD i [])) ∧ ∃ r, v = .tuple [r, .bool true] ∧ MZ s'.h m r) ∨ ((∃ i, i < m.length ∧ ¬ NearR (m.getD i [])) ∧ v = .tuple [.slice none 0 0 0, .bool false])) := by
  have hy := hy113
  refine FunR.body (fn := Tryz.f113) fn113' rfl ?_
  have hn : (max ([va] : List AV).length Tryz.f113.ntmps) = 29 := rfl
  generalize max ([va] : List AV).length Tryz.f113.ntmps = n at hn
  subst hn
  have g0 : (argsT 0 ([va] : List AV)).get 0 = some (va) := rfl
  generalize argsT 0 ([va] : List AV) = T0 at g0 ⊢
  have lm := hm.len 29
  have hx := g0; refine go ?_; clear hx
  refine CodeR.up m.length (fun i mm s1 => Fol s s1 ∧ (∀ j, j < i → NearR (m.getD j [])) ∧ ∃ T1 v cs, mm = ⟨29, T1⟩ ∧ (T1.get 0 = some (va) ∧ T1.get 4 = some (v) ∧ T1.get 5 = some (.int .i64 (Int.ofNat i))) ∧ Own s.c s1 25 1 cs v ∧ MZs s1.h (m.take i) cs ∧ Sls cs ∧ ones cs = true) ?_ ?_ ?_
  · refine ⟨Fol.refl hF, fun j hj => by omega, _, _, [], rfl, ?_, .inl ⟨rfl, rfl⟩, ⟨by simp, fun i r c hi => by simp at hi⟩, fun x hx => by simp at hx, rfl⟩
    have hx := g0; exact has
  · rintro i mm s1 hi ⟨hf1, hok, T1, v, cs, rfl, hT, hO, hW, hS, hcs⟩
    have m1 := hf1.mono
    have lt1 := lt_t hi
    have hx := an hT (an lm lt1); refine go ?_; clear hx
    refine cnd0 (t := true) (fun _ => ?_) (fun h => by cases h)
    obtain ⟨b, o, n, c, q, kk, r, rfl, f1, f2, f3, f4⟩ := (hm.keep hF.lt hf1.2).row hi
    have f9 : Nat.blt b s1.c = true := blt_iff.2 (hf1.1.lt b kk f2)
    obtain ⟨r1, r2⟩ := hz i hi
    obtain ⟨rs, f5, f6⟩ := f4
    have hx := an hT (an f1 (an f2 (an f3 f9))); refine go ?_; clear hx
    refine cal0 (g := 23) (vs := [r]) (hf := fun lc hlc => (FromRow_run' f5 f6 hf1.1 (lim_lo hlc (by omega)) (by omega) r2).mono fun v2 s2 hp => ?_)
    obtain ⟨p1, p2, p3⟩ := hp
    have m2 := p2.mono
    rcases p3 with ⟨hn, r', rfl, hr', a2, n2, c2, q2, rfl⟩ | ⟨hn, r', rfl⟩
    · have hx := hT; refine go ?_; clear hx
      refine cnd0 (t := false) (fun h => by cases h) (fun _ => ?_)
      have hx := hT; refine go ?_; clear hx
      have hO3 := hO.keep hf1.1 p2
      have hW3 := hW.keep hf1.1.lt p2
      have hl3 : cs.length ≤ 100 := by rw [hW.1]; simp; omega
      refine app1 (.slice a2 n2 c2 q2) s.c (new := [.slice a2 n2 c2 q2]) (ji := i25) rfl rfl hO3 p1 hcs (by simp only [i25]; omega) hlo (by omega) fun v' s4 q1 q2' q3 q4 => ?_
      have hch := q4.chg2 hS
      have wi := w_up (i := i) (by omega)
      have hx := an hT wi; refine go ?_; clear hx
      refine ⟨⟨q2', (hf1.2.trans (p2.le m1)).trans q3⟩, fun j hj => ?_, _, _, _, rfl, ?_, q1, ?_, fun x hx => ?_, ones_append hcs rfl⟩
      · by_cases hji : j = i
        · subst hji; exact hn
        · exact hok j (by omega)
      have hx := hT; exact has
      · rw [take_at hi []]
        exact (hW3.chg2 hch).append (hr'.chg2 hch)
      · rcases List.mem_append.1 hx with hx | hx
        · exact hS x hx
        · rw [List.mem_singleton.1 hx]; exact ⟨_, _, _, _, rfl⟩
    · have hx := hT; refine go ?_; clear hx
      refine cnd0 (t := true) (fun _ => ?_) (fun h => by cases h)
      have hx := hT; refine go ?_; clear hx
      refine CodeR.ret ⟨.inr rfl, [.slice none 0 0 0, .bool false], res0 (rs := [.tmp 2, .tmp 3]), ?_⟩
      exact ⟨⟨p1, hf1.2.trans (p2.le m1)⟩, .inr ⟨⟨i, hi, hn⟩, rfl⟩⟩
  · rintro mm s1 ⟨hf1, hok, T1, v, cs, rfl, hT, hO, hW, hS, hcs⟩
    have lt1 := lt_f (Nat.le_refl m.length)
    have hx := an hT (an lm lt1); refine go ?_; clear hx
    refine cnd0 (t := false) (fun h => by cases h) (fun _ => ?_)
    have hx := hT; refine go ?_; clear hx
    refine CodeR.ret ⟨.inr rfl, [v, .bool true], res0 (rs := [.tmp 2, .tmp 3]), ?_⟩
    rw [List.take_length] at hW
    exact ⟨hf1, .inl ⟨hok, v, rfl, cs, hO.row, hW.1, hW.2⟩⟩
end Go.Proofs.YtaocoplfdhcoaaaGreatDoor.EvA
set_option linter.unusedVariables false
set_option linter.unusedSimpArgs false
set_option maxRecDepth 20000
set_option maxHeartbeats 2000000
namespace Go.Proofs.YtaocoplfdhcoaaaGreatDoor.EvA
open Go Go.RowKit Go.Proofs.YtaocoplfdhcoaaaGreatDoor.Ev
theorem fn29' : E.fns.get 29 = some Tryz.f29 := by kernel_rfl
theorem hy29 : E.tt.get 3 = some ⟨.int .i64, 1, 8, .int .i64 0⟩ ∧ szE E 3 = some 1 ∧ E.tt.get 4 = some ⟨.bool, 1, 1, .bool false⟩ ∧ szE E 4 = some 1 ∧ E.tt.get 23 = some ⟨.slice 25, 1, 24, .slice none 0 0 0⟩ ∧ szE E 23 = some 1 ∧ E.tt.get 24 = some ⟨.slice 3, 1, 24, .slice none 0 0 0⟩ ∧ szE E 24 = some 1 ∧ E.tt.get 25 = some ⟨.slice 3, 1, 24, .slice none 0 0 0⟩ ∧ szE E 25 = some 1 ∧ E.tt.get 29 = some ⟨.slice 32, 1, 24, .slice none 0 0 0⟩ ∧ szE E 29 = some 1 ∧ E.tt.get 32 = some ⟨.struct [(0, 4), (1, 24)], 2, 32, .agg [.bool false, .slice none 0 0 0]⟩ ∧ szE E 32 = some 2 ∧ E.tt.get 178 = some ⟨.slice 29, 1, 24, .slice none 0 0 0⟩ ∧ szE E 178 = some 1 := ⟨rfl, rfl, rfl, rfl, rfl, rfl, rfl, rfl, rfl, rfl, rfl, rfl, rfl, rfl, rfl, rfl⟩
theorem eq_t {a b : Nat} (h : a = b) : eqB (Int.ofNat a) (Int.ofNat b) = true := by rw [eqB_nat]; exact dec_t h
theorem eq_f {a b : Nat} (h : ¬ a = b) : eqB (Int.ofNat a) (Int.ofNat b) = false := by rw [eqB_nat]; exact dec_f h
theorem eqZ_t {a b : Int} (h : a = b) : eqB a b = true := by rw [eqB_eq]; simpa using h
theorem eqZ_f {a b : Int} (h : ¬ a = b) : eqB a b = false := by rw [eqB_eq]; simpa using h
theorem SquareP.near {m : List (List Int)} (h : SquareP m) : ∀ i, i < m.length → (m.getD i []).length ≤ 1000 ∧ NearR (m.getD i []) := fun i hi => by
  have := h.le
  obtain ⟨h1, h2⟩ := h.row hi
  exact ⟨by omega, h2⟩
theorem identity_run {lo : Nat} {va vb : AV} {a b : List (List Int)} {s : St} (ha : MZ s.h a va) (hb : MZ s.h b vb) (hF : Fresh s) (hlo : lo ≤ s.c) (sa : SquareP a) (sb : SquareP b) (hn : a.length = b.length) :
    FunR E lo 29 [va, vb] s fun v s' => Fol s s' ∧ ∃ r, v = .bool r ∧ (r = true ↔ IdP a b) := by
  have la := sa.le
  have lb := sb.le
  have hy := hy29
  refine FunR.body (fn := Tryz.f29) fn29' rfl ?_
  have hn : (max ([va, vb] : List AV).length Tryz.f29.ntmps) = 57 := rfl
  generalize max ([va, vb] : List AV).length Tryz.f29.ntmps = n at hn
  subst hn
  have g0 : (argsT 0 ([va, vb] : List AV)).get 0 = some (va) := rfl
  have g1 : (argsT 0 ([va, vb] : List AV)).get 1 = some (vb) := rfl
  generalize argsT 0 ([va, vb] : List AV) = T0 at g0 g1 ⊢
  have lna := ha.len 25
  have hx := g0; refine go ?_; clear hx
  refine cal0 (g := 112) (vs := [va]) (hf := fun lc hlc => (To112 ha hF (lim_lo hlc hlo) (by omega) sa.near).mono fun v1 s1 hp => ?_)
  obtain ⟨p1, p2, p3⟩ := hp
  have m1 := p2.mono
  have hx := g1; refine go ?_; clear hx
  refine cal0 (g := 112) (vs := [vb]) (hf := fun lc hlc => (To112 (hb.keep hF.lt p2) p1 (lim_lo hlc (by omega)) (by omega) sb.near).mono fun v2 s2 hp => ?_)
  obtain ⟨q1, q2, q3⟩ := hp
  have m2 := q2.mono
  have hx := an g0 lna; refine go ?_; clear hx
  refine cal0 (g := 111) (vs := [v1, v2, .int .i64 (Int.ofNat a.length)]) (hf := fun lc hlc => (Product_run (WM.keep p3 p1.lt q2) q3 q1 (lim_lo hlc (by omega)) (by omega) (by omega) (by omega) (fun i hi => ⟨by rw [(sa.row hi).1, hn], (sa.row hi).2⟩) (fun k hk => ⟨by rw [(sb.row hk).1, hn], (sb.row hk).2⟩)).mono fun v3 s3 hp => ?_)
  obtain ⟨hf3, hm3⟩ := hp
  have m3 := hf3.mono
  have hf03 : Fol s s3 := Fol.trans (Fol.trans ⟨p1, p2⟩ ⟨q1, q2⟩) hf3
  refine go0 ?_
  have hbound : ∀ i, i < (prodL a b a.length).length → ((prodL a b a.length).getD i []).length ≤ 1000 ∧ ∀ j, j < ((prodL a b a.length).getD i []).length → (((prodL a b a.length).getD i []).getD j 0).natAbs < 10 ^ 100 := fun i hi => by
    rw [prodL_length] at hi
    rw [prodL_get hi, rowL_length]
    refine ⟨by omega, fun j hj => ?_⟩
    rw [rowL_get hj]
    have := comb_b (k := a.getD i []) (m := b) (c := j) (i := b.length) (sa.row hi).2 (fun i hi => (sb.row hi).2) (by rw [(sa.row hi).1]; omega) (Nat.le_refl _) (fun i hi => by rw [(sb.row hi).1]; omega) (by omega)
    omega
  refine cal0 (g := 113) (vs := [v3]) (hf := fun lc hlc => (From_mat hm3 hf3.1 (lim_lo hlc (by omega)) (by rw [prodL_length]; omega) hbound).mono fun v4 s4 hp => ?_)
  obtain ⟨hf4, hp⟩ := hp
  have hf04 := hf03.trans hf4
  rcases hp with ⟨hnear, r, rfl, hr⟩ | ⟨⟨i, hi, hnn⟩, rfl⟩
  · have lr := hr.len 25
    rw [prodL_length] at lr
    have hx := lr; refine go ?_; clear hx
    refine CodeR.up a.length (fun i mm s5 => s4 = s5 ∧ (∀ i' k, i' < i → k < a.length → comb (a.getD i' []) b k b.length = delta i' k) ∧ ∃ T1, mm = ⟨57, T1⟩ ∧ (T1.get 7 = some (.bool true) ∧ T1.get 24 = some (r) ∧ T1.get 25 = some (.int .i64 (Int.ofNat a.length)) ∧ T1.get 26 = some (.int .i64 (Int.ofNat i)))) ?_ ?_ ?_
    · refine ⟨rfl, fun i' k h => by omega, _, rfl, ?_⟩
      exact has0
    · rintro i mm s5 hi ⟨rfl, hok, T1, rfl, hT⟩
      have lt1 := lt_t hi
      obtain ⟨b', o, n, c, q, kk, r', rfl, f1, f2, f3, f4⟩ := hr.row (i := i) (by rw [prodL_length]; exact hi)
      have f9 : Nat.blt b' s4.c = true := blt_iff.2 (hf4.1.lt b' kk f2)
      rw [prodL_get hi] at f4
      have lr' := lenR f4 3
      rw [rowL_length] at lr'
      have hx := an hT lt1; refine go ?_; clear hx
      refine cnd0 (t := true) (fun _ => ?_) (fun h => by cases h)
      have hx := an hT (an f1 (an f2 (an f3 (an f9 lr')))); refine go ?_; clear hx
      refine CodeR.up a.length (fun k mm s5 => s4 = s5 ∧ (∀ k', k' < k → comb (a.getD i []) b k' b.length = delta i k') ∧ ∃ T2, mm = ⟨57, T2⟩ ∧ (T2.get 7 = some (.bool true) ∧ T2.get 24 = some (.slice (some (b', o)) n c q) ∧ T2.get 25 = some (.int .i64 (Int.ofNat a.length)) ∧ T2.get 26 = some (.int .i64 (Int.ofNat i)) ∧ T2.get 8 = some (.int .i64 (Int.ofNat i)) ∧ T2.get 31 = some (r') ∧ T2.get 32 = some (.int .i64 (Int.ofNat a.length)) ∧ T2.get 33 = some (.int .i64 (Int.ofNat k)))) ?_ ?_ ?_
      · refine ⟨rfl, fun k' h => by omega, _, rfl, ?_⟩
        have hx := hT; exact has
      · rintro k mm s5 hk ⟨rfl, hok2, T2, rfl, hT2⟩
        have lt2 := lt_t hk
        obtain ⟨b2, o2, n2, c2, q2, k2, rfl, u1, u2, u3⟩ := Row.zint f4 (i := k) (by rw [rowL_length]; exact hk)
        have u9 : Nat.blt b2 s4.c = true := blt_iff.2 (hf4.1.lt b2 k2 u2)
        rw [rowL_get hk] at u3
        have wi := w_up (i := k) (by omega)
        have next : comb (a.getD i []) b k b.length = delta i k → ∀ k', k' < k + 1 → comb (a.getD i []) b k' b.length = delta i k' := fun h k' hk' => by
          by_cases e : k' = k
          · subst e; exact h
          · exact hok2 k' (by omega)
        have stop : ¬ comb (a.getD i []) b k b.length = delta i k → Fol s s4 ∧ ∃ r, AV.bool false = .bool r ∧ (r = true ↔ IdP a b) := fun h => ⟨hf04, false, rfl, by simp only [Bool.false_eq_true, false_iff]; exact fun hI => h (hI i k hi hk)⟩
        have hx := an hT2 lt2; refine go ?_; clear hx
        refine cnd0 (t := true) (fun _ => ?_) (fun h => by cases h)
        by_cases hik : i = k
        · have e1 := eq_t hik
          have hd : delta i k = 1 := if_pos hik
          rw [hd] at next stop
          by_cases hz : comb (a.getD i []) b k b.length = 1
          · have e2 := eqZ_t hz
            have hx := an hT2 (an u1 (an u2 (an u3 (an u9 (an e1 e2))))); refine go ?_; clear hx
            refine cnd0 (t := false) (fun h => by cases h) (fun _ => ?_)
            have hx := an hT2 wi; refine go ?_; clear hx
            refine ⟨rfl, next hz, _, rfl, ?_⟩
            have hx := hT2; exact has
          · have e2 := eqZ_f hz
            have hx := an hT2 (an u1 (an u2 (an u3 (an u9 (an e1 e2))))); refine go ?_; clear hx
            refine cnd0 (t := true) (fun _ => ?_) (fun h => by cases h)
            refine go0 ?_
            refine CodeR.ret ⟨.inr rfl, [.bool false], res0 (rs := [.tmp 4]), ?_⟩
            exact stop hz
        · have e1 := eq_f hik
          have hd : delta i k = 0 := if_neg hik
          rw [hd] at next stop
          by_cases hz : comb (a.getD i []) b k b.length = 0
          · have e2 := eqZ_t hz
            have hx := an hT2 (an u1 (an u2 (an u3 (an u9 (an e1 e2))))); refine go ?_; clear hx
            refine cnd0 (t := false) (fun h => by cases h) (fun _ => ?_)
            have hx := an hT2 wi; refine go ?_; clear hx
            refine ⟨rfl, next hz, _, rfl, ?_⟩
            have hx := hT2; exact has
          · have e2 := eqZ_f hz
            have hx := an hT2 (an u1 (an u2 (an u3 (an u9 (an e1 e2))))); refine go ?_; clear hx
            refine cnd0 (t := true) (fun _ => ?_) (fun h => by cases h)
            refine go0 ?_
            refine CodeR.ret ⟨.inr rfl, [.bool false], res0 (rs := [.tmp 4]), ?_⟩
            exact stop hz
      · rintro mm s5 ⟨rfl, hok2, T2, rfl, hT2⟩
        have lt2 := lt_f (Nat.le_refl a.length)
        have wi := w_up (i := i) (by omega)
        have hx := an hT2 lt2; refine go ?_; clear hx
        refine cnd0 (t := false) (fun h => by cases h) (fun _ => ?_)
        have hx := an hT2 wi; refine go ?_; clear hx
        refine ⟨rfl, fun i' k h hk => ?_, _, rfl, ?_⟩
        · by_cases e : i' = i
          · subst e; exact hok2 k hk
          · exact hok i' k (by omega) hk
        have hx := hT2; exact has
    · rintro mm s5 ⟨rfl, hok, T1, rfl, hT⟩
      have lt1 := lt_f (Nat.le_refl a.length)
      have hx := an hT lt1; refine go ?_; clear hx
      refine cnd0 (t := false) (fun h => by cases h) (fun _ => ?_)
      have hx := hT; refine go ?_; clear hx
      refine CodeR.ret ⟨.inr rfl, [.bool true], res0 (rs := [.tmp 4]), ?_⟩
      exact ⟨hf04, true, rfl, by simp only [true_iff]; exact fun i k hi hk => hok i k hi hk⟩
  · refine go0 ?_
    refine CodeR.up 0 (fun i mm s5 => s4 = s5 ∧ ∃ T1, mm = ⟨57, T1⟩ ∧ (T1.get 7 = some (.bool false) ∧ T1.get 25 = some (.int .i64 (Int.ofNat 0)) ∧ T1.get 26 = some (.int .i64 (Int.ofNat 0)))) ?_ ?_ ?_
    · refine ⟨rfl, _, rfl, ?_⟩
      exact has0
    · intro i mm s5 hi
      omega
    · rintro mm s5 ⟨rfl, T1, rfl, hT⟩
      have lt1 := lt_f (Nat.le_refl 0)
      have hx := an hT lt1; refine go ?_; clear hx
      refine cnd0 (t := false) (fun h => by cases h) (fun _ => ?_)
      have hx := hT; refine go ?_; clear hx
      refine CodeR.ret ⟨.inr rfl, [.bool false], res0 (rs := [.tmp 4]), ?_⟩
      refine ⟨hf04, false, rfl, ?_⟩
      simp only [Bool.false_eq_true, false_iff]
      intro hI
      rw [prodL_length] at hi
      refine hnn fun k hk => ?_
      rw [prodL_get hi] at hk ⊢
      rw [rowL_length] at hk
      rw [rowL_get hk, hI i k hi hk]
      exact near_delta i k
end Go.Proofs.YtaocoplfdhcoaaaGreatDoor.EvA

/- The closure of 'spells'; slices.IndexFunc, ContainsFunc of symbols, run. No condition. -/
import Derived.Test.YtaocoplfdhcoaaaGreatDoorSp37
import Derived.Test.YtaocoplfdhcoaaaGreatDoorSp26
import Derived.Test.YtaocoplfdhcoaaaGreatDoorSp36
import Derived.Test.YtaocoplfdhcoaaaGreatDoorSp33
set_option linter.unusedVariables false
set_option linter.unusedSimpArgs false
set_option maxRecDepth 20000
set_option maxHeartbeats 2000000
namespace Go.Proofs.YtaocoplfdhcoaaaGreatDoor.EvA
open Go Go.RowKit Go.Proofs.YtaocoplfdhcoaaaGreatDoor.Ev
theorem fn118' : E.fns.get 118 = some Tryz.f118 := by kernel_rfl
theorem hy118 : E.tt.get 3 = some ⟨.int .i64, 1, 8, .int .i64 0⟩ ∧ szE E 3 = some 1 ∧ E.tt.get 9 = some ⟨.str, 1, 16, .str []⟩ ∧ szE E 9 = some 1 ∧ E.tt.get 25 = some ⟨.slice 3, 1, 24, .slice none 0 0 0⟩ ∧ szE E 25 = some 1 ∧ E.tt.get 47 = some ⟨.struct [(0, 9), (1, 25)], 2, 40, .agg [.str [], .slice none 0 0 0]⟩ ∧ szE E 47 = some 2 := ⟨rfl, rfl, rfl, rfl, rfl, rfl, rfl, rfl⟩
theorem fn218' : E.fns.get 218 = some Tryz.f218 := by kernel_rfl
theorem hy218 : E.tt.get 3 = some ⟨.int .i64, 1, 8, .int .i64 0⟩ ∧ szE E 3 = some 1 ∧ E.tt.get 9 = some ⟨.str, 1, 16, .str []⟩ ∧ szE E 9 = some 1 ∧ E.tt.get 25 = some ⟨.slice 3, 1, 24, .slice none 0 0 0⟩ ∧ szE E 25 = some 1 ∧ E.tt.get 40 = some ⟨.slice 47, 1, 24, .slice none 0 0 0⟩ ∧ szE E 40 = some 1 ∧ E.tt.get 47 = some ⟨.struct [(0, 9), (1, 25)], 2, 40, .agg [.str [], .slice none 0 0 0]⟩ ∧ szE E 47 = some 2 := ⟨rfl, rfl, rfl, rfl, rfl, rfl, rfl, rfl, rfl, rfl⟩
theorem fn117' : E.fns.get 117 = some Tryz.f117 := by kernel_rfl
theorem hy117 : E.tt.get 3 = some ⟨.int .i64, 1, 8, .int .i64 0⟩ ∧ szE E 3 = some 1 ∧ E.tt.get 9 = some ⟨.str, 1, 16, .str []⟩ ∧ szE E 9 = some 1 ∧ E.tt.get 25 = some ⟨.slice 3, 1, 24, .slice none 0 0 0⟩ ∧ szE E 25 = some 1 ∧ E.tt.get 40 = some ⟨.slice 47, 1, 24, .slice none 0 0 0⟩ ∧ szE E 40 = some 1 ∧ E.tt.get 47 = some ⟨.struct [(0, 9), (1, 25)], 2, 40, .agg [.str [], .slice none 0 0 0]⟩ ∧ szE E 47 = some 2 := ⟨rfl, rfl, rfl, rfl, rfl, rfl, rfl, rfl, rfl, rfl⟩
theorem bad_run {lo b5 : Nat} {nm : List UInt8} {r vx : AV} {y x : List Int} {s : St} (hb : s.h.get b5 = some ⟨25, [vx]⟩) (hvx : RZ s.h x vx) (hy1 : RZ s.h y r) (hF : Fresh s) (hlo : lo ≤ s.c) (hl : y.length ≤ 1000000) :
    FunR E lo 118 [.agg [.str nm, r], .ptr (some (b5, 0))] s fun v s' => Fol s s' ∧ ∃ b, v = .bool b ∧ (b = false ↔ y.length = x.length ∧ NearR y) := by
  have ones1 : ones [.str nm, r] = true := by simp only [ones, Row.one hy1, Bool.and_true]; rfl
  have ly := lenR hy1 3
  have lx := lenR hvx 3
  have hb5 := hF.lt b5 _ hb
  have hy := hy118
  refine FunR.body (fn := Tryz.f118) fn118' rfl ?_
  have hn : (max ([.agg [.str nm, r], .ptr (some (b5, 0))] : List AV).length Tryz.f118.ntmps) = 16 := rfl
  generalize max ([.agg [.str nm, r], .ptr (some (b5, 0))] : List AV).length Tryz.f118.ntmps = n at hn
  subst hn
  have g0 : (argsT 0 ([.agg [.str nm, r], .ptr (some (b5, 0))] : List AV)).get 0 = some (.agg [.str nm, r]) := rfl
  have g1 : (argsT 0 ([.agg [.str nm, r], .ptr (some (b5, 0))] : List AV)).get 1 = some (.ptr (some (b5, 0))) := rfl
  generalize argsT 0 ([.agg [.str nm, r], .ptr (some (b5, 0))] : List AV) = T0 at g0 g1 ⊢
  refine CodeR.seq (CodeR.reg rfl ?_)
  have hx := g0
  refine bx (v := .agg [.str nm, r]) (cs := [.str nm, r]) rfl ones1 ?_
  clear hx
  have hf1 := (Fol.refl hF).new ⟨47, [.str nm, r]⟩
  have hg1 : (s.h.set s.c (⟨47, [.str nm, r]⟩ : Blk)).get s.c = some ⟨47, [.str nm, r]⟩ := by rw [T.get_set, if_pos rfl]
  have hg5 : (s.h.set s.c (⟨47, [.str nm, r]⟩ : Blk)).get b5 = some ⟨25, [vx]⟩ := by rw [T.get_set, if_neg (by omega)]; exact hb
  have hc1 : (⟨s.h.set s.c ⟨47, [.str nm, r]⟩, s.c + 1⟩ : St).c = s.c + 1 := rfl
  generalize hs1 : (⟨s.h.set s.c ⟨47, [.str nm, r]⟩, s.c + 1⟩ : St) = s1 at hf1 hc1 ⊢
  have hg1' : s1.h.get s.c = some ⟨47, [.str nm, r]⟩ := by rw [← hs1]; exact hg1
  have hg5' : s1.h.get b5 = some ⟨25, [vx]⟩ := by rw [← hs1]; exact hg5
  clear hg1 hg5 hs1
  have e1 : Nat.blt s.c s1.c = true := blt_iff.2 (by omega)
  have e5 : Nat.blt b5 s1.c = true := blt_iff.2 (by omega)
  by_cases hn : y.length = x.length
  case neg =>
    have d1 := eq_f hn
    have hx := an g1 (an hg1' (an hg5' (an e1 (an e5 (an ly (an lx d1)))))); refine go ?_; clear hx
    refine CodeR.ret ⟨.inr rfl, [.bool true], res0 (rs := [.tmp 3]), ?_⟩
    exact ⟨hf1, true, rfl, by simp [hn]⟩
  have d1 := eq_t hn
  have hx := an g1 (an hg1' (an hg5' (an e1 (an e5 (an ly (an lx d1)))))); refine go ?_; clear hx
  refine cal0 (g := 18) (vs := [r]) (hf := fun lc hlc => (rowRight_run (RZ.keep hy1 hF.lt hf1.2) hf1.1 hl).mono fun v s' hq => ?_)
  obtain ⟨rfl, br, rfl, hbr⟩ := hq
  refine go0 ?_
  refine CodeR.ret ⟨.inr rfl, [.bool (!br)], res0 (rs := [.tmp 3]), ?_⟩
  refine ⟨hf1, !br, rfl, ?_⟩
  cases br with
  | false => simp only [Bool.not_false, Bool.true_eq_false, false_iff]; intro h; have := hbr.2 h.2; cases this
  | true => simp only [Bool.not_true, true_iff]; exact ⟨hn, hbr.1 rfl⟩
theorem indexS_run {lo b5 : Nat} {vs vx : AV} {ys : List (List Int)} {x : List Int} {s : St} (hv : SY s.h ys vs) (hb : s.h.get b5 = some ⟨25, [vx]⟩) (hvx : RZ s.h x vx) (hF : Fresh s) (hlo : lo ≤ s.c) (hl : ys.length ≤ 1000) (hl2 : ∀ i, i < ys.length → (ys.getD i []).length ≤ 1000000) :
    FunR E lo 218 [vs, .fn 118 [.ptr (some (b5, 0))]] s fun v s' => Fol s s' ∧ ((v = .int .i64 (-1) ∧ Rows x.length ys) ∨ (∃ i, v = .int .i64 (Int.ofNat i) ∧ ¬ Rows x.length ys)) := by
  have hb5 := hF.lt b5 _ hb
  have ls := hv.len 47
  have hy := hy218
  refine FunR.body (fn := Tryz.f218) fn218' rfl ?_
  have hn : (max ([vs, .fn 118 [.ptr (some (b5, 0))]] : List AV).length Tryz.f218.ntmps) = 19 := rfl
  generalize max ([vs, .fn 118 [.ptr (some (b5, 0))]] : List AV).length Tryz.f218.ntmps = n at hn
  subst hn
  have g0 : (argsT 0 ([vs, .fn 118 [.ptr (some (b5, 0))]] : List AV)).get 0 = some (vs) := rfl
  have g1 : (argsT 0 ([vs, .fn 118 [.ptr (some (b5, 0))]] : List AV)).get 1 = some (.fn 118 [.ptr (some (b5, 0))]) := rfl
  generalize argsT 0 ([vs, .fn 118 [.ptr (some (b5, 0))]] : List AV) = T0 at g0 g1 ⊢
  have hx := an g0 ls; refine go ?_; clear hx
  refine CodeR.up ys.length (fun i mm s1 => Fol s s1 ∧ (∀ j, j < i → (ys.getD j []).length = x.length ∧ NearR (ys.getD j [])) ∧ ∃ T1, mm = ⟨19, T1⟩ ∧ (T1.get 0 = some (vs) ∧ T1.get 1 = some (.fn 118 [.ptr (some (b5, 0))]) ∧ T1.get 7 = some (.int .i64 (Int.ofNat ys.length)) ∧ T1.get 8 = some (.int .i64 (Int.ofNat i)))) ?_ ?_ ?_
  · refine ⟨Fol.refl hF, fun j hj => by omega, _, rfl, ?_⟩
    have hx := an g0 g1; exact has
  · rintro i mm s1 hi ⟨hf1, hok, T1, rfl, hT⟩
    have m1 := hf1.mono
    have lt1 := lt_t hi
    have wi := w_up (i := i) (by omega)
    obtain ⟨b, o, n, c, q, k, nm, r, hvs, f1, f2, f3, f4, f5, f9⟩ := (hv.keep hF.lt hf1.2).at hf1.1 hi
    have f9' : Nat.blt b s1.c = true := blt_iff.2 f9
    have hx := an hT lt1; refine go ?_; clear hx
    refine cnd0 (t := true) (fun _ => ?_) (fun h => by cases h)
    have hx := an hT (an hvs (an f1 (an f3 f9'))); refine go ?_; clear hx
    have hx := hT; refine cal (g := 118) (vs := [.agg [.str nm, r], .ptr (some (b5, 0))]) (hf := fun lc hlc => (bad_run (by rw [hf1.2.keep _ hb5]; exact hb) (RZ.keep hvx hF.lt hf1.2) f5 hf1.1 (lim_lo hlc (by omega)) (hl2 i hi)).mono fun v s2 hp => ?_); clear hx
    obtain ⟨hf2, bb, rfl, hbb⟩ := hp
    cases bb with
    | true =>
      refine go0 ?_
      refine cnd0 (t := true) (fun _ => ?_) (fun h => by cases h)
      have hx := hT; refine go ?_; clear hx
      refine CodeR.ret ⟨.inr rfl, [.int .i64 (Int.ofNat i)], res0 (rs := [.tmp 4]), ?_⟩
      exact ⟨hf1.trans hf2, .inr ⟨i, rfl, fun h => by have := hbb.2 (h i hi); cases this⟩⟩
    | false =>
      refine go0 ?_
      refine cnd0 (t := false) (fun h => by cases h) (fun _ => ?_)
      have hx := an hT wi; refine go ?_; clear hx
      refine ⟨hf1.trans hf2, fun j hj => ?_, _, rfl, ?_⟩
      · by_cases e : j = i
        · subst e; exact hbb.1 rfl
        · exact hok j (by omega)
      have hx := hT; exact has
  · rintro mm s1 ⟨hf1, hok, T1, rfl, hT⟩
    have lt1 := lt_f (Nat.le_refl ys.length)
    have hx := an hT lt1; refine go ?_; clear hx
    refine cnd0 (t := false) (fun h => by cases h) (fun _ => ?_)
    refine go0 ?_
    refine CodeR.ret ⟨.inr rfl, [.int .i64 (-1)], res0 (rs := [.tmp 4]), ?_⟩
    exact ⟨hf1, .inl ⟨rfl, hok⟩⟩
theorem containsS_run {lo b5 : Nat} {vs vx : AV} {ys : List (List Int)} {x : List Int} {s : St} (hv : SY s.h ys vs) (hb : s.h.get b5 = some ⟨25, [vx]⟩) (hvx : RZ s.h x vx) (hF : Fresh s) (hlo : lo ≤ s.c) (hl : ys.length ≤ 1000) (hl2 : ∀ i, i < ys.length → (ys.getD i []).length ≤ 1000000) :
    FunR E lo 117 [vs, .fn 118 [.ptr (some (b5, 0))]] s fun v s' => Fol s s' ∧ ∃ b, v = .bool b ∧ (b = false ↔ Rows x.length ys) := by
  have hy := hy117
  refine FunR.body (fn := Tryz.f117) fn117' rfl ?_
  have hn : (max ([vs, .fn 118 [.ptr (some (b5, 0))]] : List AV).length Tryz.f117.ntmps) = 9 := rfl
  generalize max ([vs, .fn 118 [.ptr (some (b5, 0))]] : List AV).length Tryz.f117.ntmps = n at hn
  subst hn
  have g0 : (argsT 0 ([vs, .fn 118 [.ptr (some (b5, 0))]] : List AV)).get 0 = some (vs) := rfl
  have g1 : (argsT 0 ([vs, .fn 118 [.ptr (some (b5, 0))]] : List AV)).get 1 = some (.fn 118 [.ptr (some (b5, 0))]) := rfl
  generalize argsT 0 ([vs, .fn 118 [.ptr (some (b5, 0))]] : List AV) = T0 at g0 g1 ⊢
  have hx := an g0 g1; refine go ?_; clear hx
  refine cal0 (g := 218) (vs := [vs, .fn 118 [.ptr (some (b5, 0))]]) (hf := fun lc hlc => (indexS_run hv hb hvx hF (lim_lo hlc hlo) hl hl2).mono fun v s1 hp => ?_)
  obtain ⟨hf1, hp⟩ := hp
  rcases hp with ⟨rfl, h⟩ | ⟨i, rfl, h⟩
  · have em : ltB (-1) 0 = true := rfl
    have hx := em; refine go ?_; clear hx
    refine CodeR.ret ⟨.inr rfl, [.bool false], res0 (rs := [.tmp 4]), ?_⟩
    exact ⟨hf1, false, rfl, by simp [h]⟩
  · have em : ltB (Int.ofNat i) 0 = false := lt_f (b := 0) (Nat.zero_le _)
    have hx := em; refine go ?_; clear hx
    refine CodeR.ret ⟨.inr rfl, [.bool true], res0 (rs := [.tmp 4]), ?_⟩
    exact ⟨hf1, true, rfl, by simp [h]⟩
end Go.Proofs.YtaocoplfdhcoaaaGreatDoor.EvA
set_option linter.unusedVariables false
set_option linter.unusedSimpArgs false
set_option maxRecDepth 20000
set_option maxHeartbeats 2000000
namespace Go.Proofs.YtaocoplfdhcoaaaGreatDoor.EvA
open Go Go.RowKit Go.Proofs.YtaocoplfdhcoaaaGreatDoor.Ev
theorem fn32' : E.fns.get 32 = some Tryz.f32 := by kernel_rfl
theorem hy32 : E.tt.get 2 = some ⟨.int .i64, 1, 8, .int .i64 0⟩ ∧ szE E 2 = some 1 ∧ E.tt.get 3 = some ⟨.int .i64, 1, 8, .int .i64 0⟩ ∧ szE E 3 = some 1 ∧ E.tt.get 4 = some ⟨.bool, 1, 1, .bool false⟩ ∧ szE E 4 = some 1 ∧ E.tt.get 9 = some ⟨.str, 1, 16, .str []⟩ ∧ szE E 9 = some 1 ∧ E.tt.get 25 = some ⟨.slice 3, 1, 24, .slice none 0 0 0⟩ ∧ szE E 25 = some 1 ∧ E.tt.get 40 = some ⟨.slice 47, 1, 24, .slice none 0 0 0⟩ ∧ szE E 40 = some 1 ∧ E.tt.get 42 = some ⟨.struct [(0, 40), (1, 40)], 2, 48, .agg [.slice none 0 0 0, .slice none 0 0 0]⟩ ∧ szE E 42 = some 2 ∧ E.tt.get 44 = some ⟨.struct [(0, 3), (1, 25)], 2, 32, .agg [.int .i64 0, .slice none 0 0 0]⟩ ∧ szE E 44 = some 2 ∧ E.tt.get 47 = some ⟨.struct [(0, 9), (1, 25)], 2, 40, .agg [.str [], .slice none 0 0 0]⟩ ∧ szE E 47 = some 2 ∧ E.tt.get 169 = some ⟨.slice 245, 1, 24, .slice none 0 0 0⟩ ∧ szE E 169 = some 1 ∧ E.tt.get 171 = some ⟨.struct [(0, 4), (1, 169)], 2, 32, .agg [.bool false, .slice none 0 0 0]⟩ ∧ szE E 171 = some 2 ∧ E.tt.get 245 = some ⟨.int .u32, 1, 4, .int .u32 0⟩ ∧ szE E 245 = some 1 ∧ E.tt.get 284 = some ⟨.slice 40, 1, 24, .slice none 0 0 0⟩ ∧ szE E 284 = some 1 := ⟨rfl, rfl, rfl, rfl, rfl, rfl, rfl, rfl, rfl, rfl, rfl, rfl, rfl, rfl, rfl, rfl, rfl, rfl, rfl, rfl, rfl, rfl, rfl, rfl, rfl, rfl⟩
theorem rows_all {n : Nat} {ys : List (List Int)} : Rows n ys ↔ ∀ i, i < ys.length → (ys.getD i []).length = n ∧ NearR (ys.getD i []) := Iff.rfl
theorem Spells_run {lo : Nat} {vn va vk vx : AV} {nom : Int} {noms accs : List (List Int)} {ks x : List Int} {s : St} (hn : SY s.h noms vn) (ha : SY s.h accs va) (hk : RZ s.h ks vk) (hvx : RZ s.h x vx) (hF : Fresh s) (hlo : lo ≤ s.c)
    (ln : noms.length ≤ 4) (la : accs.length ≤ 3) (lk : ks.length ≤ 4) (lx : x.length ≤ 6) :
    FunR E lo 32 [.agg [vn, va], .agg [.int .i64 nom, vk], vx] s fun v s' => Fol s s' ∧ ∃ b, v = .bool b ∧ (b = true ↔ SpellsP noms accs nom ks x) := by
  have on : vn.one = true := by obtain ⟨cs, h, _⟩ := hn; exact Row.one h
  have oa : va.one = true := by obtain ⟨cs, h, _⟩ := ha; exact Row.one h
  have o1 : ones [vn, va] = true := by simp only [ones, on, oa]; rfl
  have o2 : ones [.int .i64 nom, vk] = true := by simp only [ones, Row.one hk, Bool.and_true]; rfl
  have hy := hy32
  refine FunR.body (fn := Tryz.f32) fn32' rfl ?_
  have hn : (max ([.agg [vn, va], .agg [.int .i64 nom, vk], vx] : List AV).length Tryz.f32.ntmps) = 117 := rfl
  generalize max ([.agg [vn, va], .agg [.int .i64 nom, vk], vx] : List AV).length Tryz.f32.ntmps = n at hn
  subst hn
  have g0 : (argsT 0 ([.agg [vn, va], .agg [.int .i64 nom, vk], vx] : List AV)).get 0 = some (.agg [vn, va]) := rfl
  have g1 : (argsT 0 ([.agg [vn, va], .agg [.int .i64 nom, vk], vx] : List AV)).get 1 = some (.agg [.int .i64 nom, vk]) := rfl
  have g2 : (argsT 0 ([.agg [vn, va], .agg [.int .i64 nom, vk], vx] : List AV)).get 2 = some (vx) := rfl
  generalize argsT 0 ([.agg [vn, va], .agg [.int .i64 nom, vk], vx] : List AV) = T0 at g0 g1 g2 ⊢
  refine CodeR.seq (CodeR.reg rfl ?_)
  have hx := g0
  refine bx (v := .agg [vn, va]) (cs := [vn, va]) rfl o1 ?_
  clear hx
  have hx := g1
  refine bx (v := .agg [.int .i64 nom, vk]) (cs := [.int .i64 nom, vk]) rfl o2 ?_
  clear hx
  have hf1 : Fol s ⟨(s.h.set s.c ⟨42, [vn, va]⟩).set (s.c + 1) ⟨44, [.int .i64 nom, vk]⟩, s.c + 1 + 1⟩ := ((Fol.refl hF).new ⟨42, [vn, va]⟩).new ⟨44, [.int .i64 nom, vk]⟩
  have hg3 : ((s.h.set s.c (⟨42, [vn, va]⟩ : Blk)).set (s.c + 1) ⟨44, [.int .i64 nom, vk]⟩).get s.c = some ⟨42, [vn, va]⟩ := by rw [T.get_set, if_neg (by omega), T.get_set, if_pos rfl]
  have hg4 : ((s.h.set s.c (⟨42, [vn, va]⟩ : Blk)).set (s.c + 1) ⟨44, [.int .i64 nom, vk]⟩).get (s.c + 1) = some ⟨44, [.int .i64 nom, vk]⟩ := by rw [T.get_set, if_pos rfl]
  generalize hs1 : (⟨(s.h.set s.c ⟨42, [vn, va]⟩).set (s.c + 1) ⟨44, [.int .i64 nom, vk]⟩, s.c + 1 + 1⟩ : St) = s1 at hf1 ⊢
  have hg3' : s1.h.get s.c = some ⟨42, [vn, va]⟩ := by rw [← hs1]; exact hg3
  have hg4' : s1.h.get (s.c + 1) = some ⟨44, [.int .i64 nom, vk]⟩ := by rw [← hs1]; exact hg4
  have hc1 : s1.c = s.c + 2 := by rw [← hs1]
  clear hg3 hg4 hs1
  have e3 : Nat.blt s.c s1.c = true := blt_iff.2 (by omega)
  have e4 : Nat.blt (s.c + 1) s1.c = true := blt_iff.2 (by omega)
  have hn1 := hn.keep hF.lt hf1.2
  have ha1 := ha.keep hF.lt hf1.2
  have hk1 := RZ.keep hk hF.lt hf1.2
  have hx1 := RZ.keep hvx hF.lt hf1.2
  have lnn := hn.len 47
  have lna := ha.len 47
  have lnk := lenR hk 3
  have lnx := lenR hvx 3
  have stop : ∀ {s' : St}, Fol s1 s' → ¬ SpellsP noms accs nom ks x → Fol s s' ∧ ∃ b, AV.bool false = .bool b ∧ (b = true ↔ SpellsP noms accs nom ks x) := fun hf h => ⟨hf1.trans hf, false, rfl, by simp [h]⟩
  refine SeqR.stepM rfl rfl rfl (v := .bool false) (s' := s1) (fun call lc => by simp only [opE, kindOf, pureE, sA, rho, absV, absS]; rfl) rfl rfl ?_
  refine SeqR.done ?_
  refine CodeR.seq (CodeR.seq (CodeR.mono (Q := fun e m' s' => e = .nrm ∧ s1 = s' ∧ ∃ T1 w, m' = ⟨117, T1⟩ ∧ (T1.get 2 = some (vx) ∧ T1.get 3 = some (.ptr (some (s.c, 0))) ∧ T1.get 4 = some (.ptr (some (s.c + 1, 0))) ∧ T1.get 44 = some (.bool w)) ∧ (w = false ↔ SpellPre noms accs nom ks x)) (CodeR.reg rfl ?_) ?_))
  · have no : ∀ {p : Prop}, ¬ p → (true = false ↔ p) := fun h => ⟨fun h1 => (by cases h1), fun h2 => absurd h2 h⟩
    have fin : ∀ T1 w, (T1.get 2 = some (vx) ∧ T1.get 3 = some (.ptr (some (s.c, 0))) ∧ T1.get 4 = some (.ptr (some (s.c + 1, 0))) ∧ T1.get 44 = some (.bool w)) → (w = false ↔ SpellPre noms accs nom ks x) → Ex.nrm = .nrm ∧ s1 = s1 ∧ ∃ U u, (⟨117, T1⟩ : Tm) = ⟨117, U⟩ ∧ (U.get 2 = some (vx) ∧ U.get 3 = some (.ptr (some (s.c, 0))) ∧ U.get 4 = some (.ptr (some (s.c + 1, 0))) ∧ U.get 44 = some (.bool u)) ∧ (u = false ↔ SpellPre noms accs nom ks x) := fun T1 w h h' => ⟨rfl, rfl, T1, w, rfl, h, h'⟩
    by_cases c1 : nom < 0
    · have d1 : ltB nom 0 = true := by rw [ltB_eq]; simpa using c1
      have hx := an hg3' (an hg4' (an e3 (an e4 d1))); refine go ?_; clear hx
      refine fin _ true ?_ (no fun h => by have := h.1; omega)
      have hx := g2; exact has
    have d1 : ltB nom 0 = false := by rw [ltB_eq]; simpa using c1
    obtain ⟨p, rfl⟩ : ∃ p : Nat, nom = Int.ofNat p := ⟨nom.toNat, by simp; omega⟩
    by_cases c2 : noms.length ≤ p
    · have d2 := lt_f c2
      have hx := an hg3' (an hg4' (an e3 (an e4 (an d1 (an lnn d2))))); refine go ?_; clear hx
      refine fin _ true ?_ (no fun h => by have := h.2.1; simp at this; omega)
      have hx := g2; exact has
    have d2 := lt_t (a := p) (b := noms.length) (by omega)
    by_cases c3 : ks.length = accs.length
    case neg =>
      have d3 := eq_f c3
      have hx := an hg3' (an hg4' (an e3 (an e4 (an d1 (an lnn (an d2 (an lnk (an lna d3)))))))); refine go ?_; clear hx
      refine fin _ true ?_ (no fun h => c3 h.2.2.1)
      have hx := g2; exact has
    have d3 := eq_t c3
    have hx := an hg3' (an hg4' (an e3 (an e4 (an d1 (an lnn (an d2 (an lnk (an lna d3)))))))); refine go ?_; clear hx
    refine cal0 (g := 104) (vs := [vk]) (hf := fun lc hlc => (near_run hk1 hf1.1 (by omega)).mono fun v s' hq => ?_)
    obtain ⟨rfl, bk, rfl, hbk⟩ := hq
    cases bk with
    | false =>
      refine go0 ?_
      refine fin _ true ?_ (no fun h => by have := hbk.2 h.2.2.2.1; cases this)
      have hx := g2; exact has
    | true =>
    have hx := g2; refine go ?_; clear hx
    refine cal0 (g := 104) (vs := [vx]) (hf := fun lc hlc => (near_run hx1 hf1.1 (by omega)).mono fun v s' hq => ?_)
    obtain ⟨rfl, bx', rfl, hbx⟩ := hq
    refine go0 ?_
    refine fin _ (!bx') ?_ ?_
    have hx := g2; exact has
    · cases bx' with
      | false => exact no fun h => by have := hbx.2 h.2.2.2.2; cases this
      | true => simp only [Bool.not_true, true_iff]; exact ⟨by simp, by simp; omega, c3, hbk.1 rfl, hbx.1 rfl⟩
  · rintro e m' s' ⟨rfl, rfl, T1, w, rfl, hT, hw⟩
    cases w with
    | true =>
      have hx := hT; refine cnd (t := true) (fun _ => ?_) (fun h => by cases h); clear hx
      refine go0 ?_
      refine CodeR.ret ⟨.inr rfl, [.bool false], res0 (rs := [.tmp 6]), ?_⟩
      exact stop (Fol.refl hf1.1) fun h => by have := hw.2 h.1; cases this
    | false =>
      have pre := hw.1 rfl
      obtain ⟨pr1, pr2, pr3, pr4, pr5⟩ := pre
      obtain ⟨p, rfl⟩ : ∃ p : Nat, nom = Int.ofNat p := ⟨nom.toNat, by simp; omega⟩
      have hpn : p < noms.length := by simp at pr2; omega
      have hx := hT; refine cnd (t := false) (fun h => by cases h) (fun _ => ?_); clear hx
      have hx := an hT (an hg3' e3); refine go ?_; clear hx
      refine bld2 on oa ?_
      have hf2 := (Fol.refl hf1.1).new ⟨40, [vn, va]⟩
      have hg0 : (s1.h.set s1.c (⟨40, [vn, va]⟩ : Blk)).get s1.c = some ⟨40, [vn, va]⟩ := by rw [T.get_set, if_pos rfl]
      refine cal0 (g := 114) (vs := [.slice (some (s1.c, 0)) 2 2 0]) (hf := fun lc hlc => (Concat_run hg0 (hn1.keep hf1.1.lt hf2.2) (ha1.keep hf1.1.lt hf2.2) hf2.1 (lim_lo hlc (by simp only; omega)) (by omega) (by omega)).mono fun v3 s3 hp => ?_)
      obtain ⟨hf3, hv3⟩ := hp
      have hf13 := hf2.trans hf3
      have m3 := hf13.mono
      have l3 := hv3.len 47
      have hx := l3; refine go ?_; clear hx
      refine CodeR.up (noms ++ accs).length (fun i mm s4 => Fol s1 s4 ∧ s3.c ≤ s4.c ∧ Kept s3.c s3 s4 ∧ (∀ j, j < i → ((noms ++ accs).getD j []).length = x.length ∧ NearR ((noms ++ accs).getD j [])) ∧ ∃ T2, mm = ⟨117, T2⟩ ∧ (T2.get 2 = some (vx) ∧ T2.get 3 = some (.ptr (some (s.c, 0))) ∧ T2.get 4 = some (.ptr (some (s.c + 1, 0))) ∧ T2.get 50 = some (v3) ∧ T2.get 51 = some (.int .i64 (Int.ofNat (noms ++ accs).length)) ∧ T2.get 52 = some (.int .i64 (Int.ofNat i)))) ?_ ?_ ?_
      · refine ⟨hf13, Nat.le_refl _, Kept.refl _ _, fun j hj => by omega, _, rfl, ?_⟩
        have hx := hT; exact has
      · rintro i mm s4 hi ⟨hf4, hc4, hk4, hok, T2, rfl, hT2⟩
        have m4 := hf4.mono
        have lt1 := lt_t hi
        have hi7 : i < 7 := by rw [List.length_append] at hi; omega
        have wi := w_up (i := i) (by omega)
        obtain ⟨b, o, n, c, q, k, nm, r, hvs, f1, f2, f3, f4, f5, f9⟩ := (hv3.keep hf3.1.lt hk4).at hf4.1 hi
        have f9' : Nat.blt b s4.c = true := blt_iff.2 f9
        have ones1 : ones [.str nm, r] = true := by simp only [ones, Row.one f5, Bool.and_true]; rfl
        have hx := an hT2 lt1; refine go ?_; clear hx
        refine cnd0 (t := true) (fun _ => ?_) (fun h => by cases h)
        have hx := an hT2 (an hvs (an f1 (an f3 f9'))); refine go ?_; clear hx
        refine alc (cs := [.str [], .slice none 0 0 0]) ?_
        have hx := True.intro
        refine sto (b := s4.c) (cs := [.str nm, r]) (ty := 47) (cs0 := [.str [], .slice none 0 0 0]) (by simp only [T.get_set, if_true]) ones1 rfl (by omega) ?_
        clear hx
        have hf5 : Fol s4 ⟨(s4.h.set s4.c ⟨47, [.str [], .slice none 0 0 0]⟩).set s4.c ⟨47, [.str nm, r]⟩, s4.c + 1⟩ := ((Fol.refl hf4.1).new _).put (Nat.le_refl _) (by simp)
        have hg5 : ((s4.h.set s4.c (⟨47, [.str [], .slice none 0 0 0]⟩ : Blk)).set s4.c ⟨47, [.str nm, r]⟩).get s4.c = some ⟨47, [.str nm, r]⟩ := by rw [T.get_set, if_pos rfl]
        generalize hs5 : (⟨(s4.h.set s4.c ⟨47, [.str [], .slice none 0 0 0]⟩).set s4.c ⟨47, [.str nm, r]⟩, s4.c + 1⟩ : St) = s5 at hf5 ⊢
        have hg5' : s5.h.get s4.c = some ⟨47, [.str nm, r]⟩ := by rw [← hs5]; exact hg5
        have hc5 : s5.c = s4.c + 1 := by rw [← hs5]
        clear hg5 hs5
        have e5 : Nat.blt s4.c s5.c = true := blt_iff.2 (by omega)
        have ly := lenR f5 3
        have hf45 := hf4.trans hf5
        have bad : ¬ (((noms ++ accs).getD i []).length = x.length ∧ NearR ((noms ++ accs).getD i [])) → ¬ SpellsP noms accs (Int.ofNat p) ks x := fun h hS => h ((rows_append.2 ⟨hS.2.1, hS.2.2.1⟩) i hi)
        by_cases c1 : ((noms ++ accs).getD i []).length = x.length
        case neg =>
          have d1 := eq_f c1
          have hx := an hT2 (an hg5' (an e5 (an ly (an lnx d1)))); refine go ?_; clear hx
          refine cnd0 (t := true) (fun _ => ?_) (fun h => by cases h)
          refine go0 ?_
          refine CodeR.ret ⟨.inr rfl, [.bool false], res0 (rs := [.tmp 6]), ?_⟩
          exact stop hf45 (bad fun h => c1 h.1)
        have d1 := eq_t c1
        have hx := an hT2 (an hg5' (an e5 (an ly (an lnx d1)))); refine go ?_; clear hx
        refine cal0 (g := 104) (vs := [r]) (hf := fun lc hlc => (near_run (RZ.keep f5 hf4.1.lt hf5.2) hf5.1 (by omega)).mono fun v s' hq => ?_)
        obtain ⟨rfl, br, rfl, hbr⟩ := hq
        cases br with
        | false =>
          refine go0 ?_
          refine cnd0 (t := true) (fun _ => ?_) (fun h => by cases h)
          refine go0 ?_
          refine CodeR.ret ⟨.inr rfl, [.bool false], res0 (rs := [.tmp 6]), ?_⟩
          exact stop hf45 (bad fun h => by have := hbr.2 h.2; cases this)
        | true =>
          refine go0 ?_
          refine cnd0 (t := false) (fun h => by cases h) (fun _ => ?_)
          have hx := an hT2 wi; refine go ?_; clear hx
          refine ⟨hf45, by omega, hk4.trans (hf5.2.le hc4), fun j hj => ?_, _, rfl, ?_⟩
          · by_cases e : j = i
            · subst e; exact ⟨c1, hbr.1 rfl⟩
            · exact hok j (by omega)
          have hx := hT2; exact has
      · rintro mm s4 ⟨hf4, hc4, hk4, hok, T2, rfl, hT2⟩
        have hrows := rows_append.1 (rows_all.2 hok)
        have lt1 := lt_f (Nat.le_refl (noms ++ accs).length)
        have hx := an hT2 lt1; refine go ?_; clear hx
        refine cnd0 (t := false) (fun h => by cases h) (fun _ => ?_)
        have hx := an hT2 lnx; refine go ?_; clear hx
        refine CodeR.up x.length (fun c mm s5 => Fol s1 s5 ∧ (∀ j, j < c → (noms.getD p []).getD j 0 + comb ks accs j accs.length = x.getD j 0) ∧ ∃ T3, mm = ⟨117, T3⟩ ∧ (T3.get 3 = some (.ptr (some (s.c, 0))) ∧ T3.get 4 = some (.ptr (some (s.c + 1, 0))) ∧ T3.get 69 = some (vx) ∧ T3.get 70 = some (.int .i64 (Int.ofNat x.length)) ∧ T3.get 71 = some (.int .i64 (Int.ofNat c)))) ?_ ?_ ?_
        · refine ⟨hf4, fun j hj => by omega, _, rfl, ?_⟩
          have hx := hT2; exact has
        · rintro c mm s5 hc ⟨hf5, hokc, T3, rfl, hT3⟩
          have m5 := hf5.mono
          have lt2 := lt_t hc
          have wi := w_up (i := c) (by omega)
          have rn := hrows.1 p hpn
          have hx5 := RZ.keep hx1 hf1.1.lt hf5.2
          obtain ⟨b1, o1, n1, cc1, q1, k1, hvx', u1, u2, u3⟩ := Row.zint hx5 hc
          have u9 : Nat.blt b1 s5.c = true := blt_iff.2 (hf5.1.lt b1 k1 u2)
          have g3 : s5.h.get s.c = some ⟨42, [vn, va]⟩ := by rw [hf5.2.keep _ (by omega)]; exact hg3'
          have g4 : s5.h.get (s.c + 1) = some ⟨44, [.int .i64 (Int.ofNat p), vk]⟩ := by rw [hf5.2.keep _ (by omega)]; exact hg4'
          have e3' : Nat.blt s.c s5.c = true := blt_iff.2 (by omega)
          have e4' : Nat.blt (s.c + 1) s5.c = true := blt_iff.2 (by omega)
          obtain ⟨b, o, n, cc, q, k, nm, r, hvn, f1, f2, f3, f4, f5, f9⟩ := (hn1.keep hf1.1.lt hf5.2).at hf5.1 hpn
          have f9' : Nat.blt b s5.c = true := blt_iff.2 f9
          obtain ⟨b2, o2, n2, cc2, q2, k2, hvr, w1, w2, w3⟩ := Row.zint f5 (i := c) (by omega)
          have w9 : Nat.blt b2 s5.c = true := blt_iff.2 (hf5.1.lt b2 k2 w2)
          have nz := rn.2 c (by omega)
          have hx := an hT3 lt2; refine go ?_; clear hx
          refine cnd0 (t := true) (fun _ => ?_) (fun h => by cases h)
          have hx := an hT3 (an hvx' (an u1 (an u2 (an u3 u9)))); refine go ?_; clear hx
          have hx := an hT3 (an g3 (an g4 (an e3' (an e4' (an hvn (an f1 (an f2 (an f4 (an f9' (an hvr (an w1 (an w2 (an w3 w9))))))))))))); refine go ?_; clear hx
          refine cal0 (g := 108) (vs := [.int .i64 ((noms.getD p []).getD c 0)]) (hf := fun lc hlc => (number_run (near_i64 nz).1 (near_i64 nz).2 hf5.1 (lim_lo hlc (by omega))).mono fun v6 s6 hp => ?_)
          obtain ⟨p1, p2, p3⟩ := hp
          have m6 := p2.mono
          obtain ⟨d0, rfl, hd0⟩ := p3
          refine alc (cs := [.bool false, .slice none 0 0 0]) ?_
          have hx := True.intro
          refine sto (b := s6.c) (cs := [.bool (decide ((noms.getD p []).getD c 0 < 0)), d0]) (ty := 171) (cs0 := [.bool false, .slice none 0 0 0]) (by simp only [T.get_set, if_true]) (ones_pair hd0) rfl (by omega) ?_
          clear hx
          have hf7 : Fol s6 ⟨(s6.h.set s6.c ⟨171, [.bool false, .slice none 0 0 0]⟩).set s6.c ⟨171, [.bool (decide ((noms.getD p []).getD c 0 < 0)), d0]⟩, s6.c + 1⟩ := ((Fol.refl p1).new _).put (Nat.le_refl _) (by simp)
          have hz7 : IV _ ((noms.getD p []).getD c 0) (.agg [.bool (decide ((noms.getD p []).getD c 0 < 0)), d0]) := IV.keep ⟨d0, rfl, hd0⟩ p1.lt hf7.2
          have hg7 : ((s6.h.set s6.c (⟨171, [.bool false, .slice none 0 0 0]⟩ : Blk)).set s6.c ⟨171, [.bool (decide ((noms.getD p []).getD c 0 < 0)), d0]⟩).get s6.c = some ⟨171, [.bool (decide ((noms.getD p []).getD c 0 < 0)), d0]⟩ := by rw [T.get_set, if_pos rfl]
          generalize hs7 : (⟨(s6.h.set s6.c ⟨171, [.bool false, .slice none 0 0 0]⟩).set s6.c ⟨171, [.bool (decide ((noms.getD p []).getD c 0 < 0)), d0]⟩, s6.c + 1⟩ : St) = s7 at hf7 hz7 ⊢
          have hg7' : s7.h.get s6.c = some ⟨171, [.bool (decide ((noms.getD p []).getD c 0 < 0)), d0]⟩ := by rw [← hs7]; exact hg7
          have hc7 : s7.c = s6.c + 1 := by rw [← hs7]
          clear hg7 hs7
          have hk57 : Kept s5.c s5 s7 := p2.trans (hf7.2.le m6)
          have g4' : s7.h.get (s.c + 1) = some ⟨44, [.int .i64 (Int.ofNat p), vk]⟩ := by rw [hk57.keep _ (by omega)]; exact g4
          have e4'' : Nat.blt (s.c + 1) s7.c = true := blt_iff.2 (by omega)
          have hx := an hT3 (an g4' (an e4'' lnk)); refine go ?_; clear hx
          refine CodeR.up ks.length (fun i mm s8 => Fresh s8 ∧ Kept s6.c s6 s8 ∧ s6.c < s8.c ∧ ∃ T4 es, mm = ⟨117, T4⟩ ∧ (T4.get 3 = some (.ptr (some (s.c, 0))) ∧ T4.get 4 = some (.ptr (some (s.c + 1, 0))) ∧ T4.get 69 = some (vx) ∧ T4.get 70 = some (.int .i64 (Int.ofNat x.length)) ∧ T4.get 71 = some (.int .i64 (Int.ofNat c)) ∧ T4.get 9 = some (.int .i64 (Int.ofNat c)) ∧ T4.get 10 = some (.int .i64 (x.getD c 0)) ∧ T4.get 11 = some (.ptr (some (s6.c, 0))) ∧ T4.get 88 = some (vk) ∧ T4.get 89 = some (.int .i64 (Int.ofNat ks.length)) ∧ T4.get 90 = some (.int .i64 (Int.ofNat i))) ∧ s8.h.get s6.c = some ⟨171, es⟩ ∧ es.length = 2 ∧ IV s8.h ((noms.getD p []).getD c 0 + comb ks accs c i) (.agg es)) ?_ ?_ ?_
          · refine ⟨hf7.1, hf7.2, by omega, _, _, rfl, ?_, hg7', rfl, by simpa [comb, sumN] using hz7⟩
            have hx := hT3; exact has
          · rintro i mm s8 hi ⟨hF8, hk8, hc8, T4, es, rfl, hT4, hg8, hl8, hI8⟩
            have lt3 := lt_t hi
            have wi3 := w_up (i := i) (by omega)
            have hk18 : Kept s1.c s1 s8 := (hf5.2.trans (p2.le m5)).trans (hk8.le (by omega))
            have hbx := cells_box hg8 hl8
            have e8 : Nat.blt s6.c s8.c = true := blt_iff.2 hc8
            have hk8' := RZ.keep hk1 hf1.1.lt hk18
            obtain ⟨b3, o3, n3, cc3, q3, k3, hvk, x1, x2, x3⟩ := Row.zint hk8' hi
            have x9 : Nat.blt b3 s8.c = true := blt_iff.2 (hF8.lt b3 k3 x2)
            have nk := pr4 i hi
            have rac := hrows.2 i (by omega)
            have hx := an hT4 lt3; refine go ?_; clear hx
            refine cnd0 (t := true) (fun _ => ?_) (fun h => by cases h)
            have hx := an hT4 (an hvk (an x1 (an x2 (an x3 x9)))); refine go ?_; clear hx
            have hx := an hT4 (an hbx e8); refine go ?_; clear hx
            refine cal0 (g := 108) (vs := [.int .i64 (ks.getD i 0)]) (hf := fun lc hlc => (number_run (near_i64 nk).1 (near_i64 nk).2 hF8 (lim_lo hlc (by omega))).mono fun v9 s9 hp => ?_)
            obtain ⟨t1, t2, t3⟩ := hp
            have m9 := t2.mono
            have hk19 : Kept s1.c s1 s9 := hk18.trans (t2.le (by omega))
            have g3'' : s9.h.get s.c = some ⟨42, [vn, va]⟩ := by rw [hk19.keep _ (by omega)]; exact hg3'
            have e38 : Nat.blt s.c s8.c = true := blt_iff.2 (by omega)
            have e39 : Nat.blt s.c s9.c = true := blt_iff.2 (by omega)
            obtain ⟨b4, o4, n4, cc4, q4, k4, nm4, r4, hva, y1, y2, y3, y4, y5, y9⟩ := (ha1.keep hf1.1.lt hk19).at t1 (i := i) (by omega)
            obtain ⟨b4', o4', n4', cc4', q4', k4', nm4', r4', hva', _, _, _, z4, z5, y9'⟩ := (ha1.keep hf1.1.lt hk18).at hF8 (i := i) (by omega)
            rw [hva] at hva'
            cases hva'
            have y98 : Nat.blt b4 s8.c = true := blt_iff.2 y9'
            have y99 : Nat.blt b4 s9.c = true := blt_iff.2 y9
            obtain ⟨b5, o5, n5, cc5, q5, k5, hvr5, z1, z2, z3⟩ := Row.zint y5 (i := c) (by omega)
            have z98 : Nat.blt b5 s8.c = true := by
              have hkk : k4' = k4 := by
                have h1 := t2.keep b4 y9'
                rename_i h2 _ 
                exact (Option.some.inj ((y2.symm.trans h1).trans (by assumption))).symm
              subst hkk
              rw [y4] at z4
              cases z4
              obtain ⟨b6, o6, n6, cc6, q6, k6, hvr6, _, zz, _⟩ := Row.zint z5 (i := c) (by omega)
              rw [hvr5] at hvr6
              cases hvr6
              exact blt_iff.2 (hF8.lt b5 k6 zz)
            have z99 : Nat.blt b5 s9.c = true := blt_iff.2 (t1.lt b5 k5 z2)
            have nac := rac.2 c (by omega)
            have hmul := near_mul nk nac
            have hx := an hT4 (an g3'' (an e38 (an e39 (an hva (an y1 (an y2 (an y4 (an y98 (an y99 (an hvr5 (an z1 (an z2 (an z3 (an z98 z99)))))))))))))); refine go ?_; clear hx
            refine cal0 (g := 108) (vs := [.int .i64 ((accs.getD i []).getD c 0)]) (hf := fun lc hlc => (number_run (near_i64 nac).1 (near_i64 nac).2 t1 (lim_lo hlc (by omega))).mono fun v10 s10 hp => ?_)
            obtain ⟨j1, j2, j3⟩ := hp
            have m10 := j2.mono
            refine cal0 (g := 116) (vs := [v9, v10]) (hf := fun lc hlc => (times_run (t3.keep t1.lt j2) j3 j1 (lim_lo hlc (by omega)) (n := 10) (by omega) (near_w nk) (near_w nac)).mono fun v11 s11 hp => ?_)
            obtain ⟨i1, i2, i3⟩ := hp
            have m11 := i2.mono
            have hcw := comb_le (c := c) (i := i) pr4 (fun i hi => (hrows.2 i hi).2) (by omega) (by omega) (fun i hi => by rw [(hrows.2 i hi).1]; exact hc) (by omega)
            have hnz : ((noms.getD p []).getD c 0).natAbs ≤ 1000000000 := by unfold Near at nz; omega
            refine cal0 (g := 115) (vs := [.agg es, v11]) (hf := fun lc hlc => (add_run (((hI8.keep hF8.lt t2).keep t1.lt j2).keep j1.lt i2) i3 i1 (lim_lo hlc (by omega)) (n := 10) (by omega) (by omega) (by omega)).mono fun v12 s12 hp => ?_)
            obtain ⟨h1', h2', h3'⟩ := hp
            have m12 := h2'.mono
            obtain ⟨d12, rfl, hd12⟩ := h3'
            have hg12 : s12.h.get s6.c = some ⟨171, es⟩ := by rw [h2'.keep _ (by omega), i2.keep _ (by omega), j2.keep _ (by omega), t2.keep _ (by omega)]; exact hg8
            have hx := hT4
            refine sto (b := s6.c) (cs := [.bool (decide ((noms.getD p []).getD c 0 + comb ks accs c i + ks.getD i 0 * (accs.getD i []).getD c 0 < 0)), d12]) hg12 (ones_pair hd12) hl8 (by omega) ?_
            clear hx
            have hx := an hT4 wi3; refine go ?_; clear hx
            refine ⟨fresh_set h1' (by omega), kept_set ((((hk8.trans (t2.le (by omega))).trans (j2.le (by omega))).trans (i2.le (by omega))).trans (h2'.le (by omega))) (by omega), by simp only; omega, _, _, rfl, ?_, by simp only; rw [T.get_set, if_pos rfl], rfl, ?_⟩
            have hx := hT4; exact has
            · rw [comb_succ, ← Int.add_assoc]
              refine ⟨d12, rfl, nv_other hd12 (k0 := ⟨171, es⟩) hg12 ?_⟩
              obtain ⟨d', hd', hn'⟩ := hI8
              cases hd'
              exact pairNo hn'
          · rintro mm s8 ⟨hF8, hk8, hc8, T4, es, rfl, hT4, hg8, hl8, hI8⟩
            have lt3 := lt_f (Nat.le_refl ks.length)
            have hbx := cells_box hg8 hl8
            have e8 : Nat.blt s6.c s8.c = true := blt_iff.2 hc8
            have nx := pr5 c hc
            have hcw := comb_le (c := c) (i := ks.length) pr4 (fun i hi => (hrows.2 i hi).2) (by omega) (by omega) (fun i hi => by rw [(hrows.2 i hi).1]; exact hc) (by omega)
            have hnz : ((noms.getD p []).getD c 0).natAbs ≤ 1000000000 := by unfold Near at nz; omega
            have hx := an hT4 lt3; refine go ?_; clear hx
            refine cnd0 (t := false) (fun h => by cases h) (fun _ => ?_)
            have hx := an hT4 (an hbx e8); refine go ?_; clear hx
            refine cal0 (g := 108) (vs := [.int .i64 (x.getD c 0)]) (hf := fun lc hlc => (number_run (near_i64 nx).1 (near_i64 nx).2 hF8 (lim_lo hlc (by omega))).mono fun v9 s9 hp => ?_)
            obtain ⟨t1, t2, t3⟩ := hp
            have m9 := t2.mono
            refine cal0 (g := 107) (vs := [.agg es, v9]) (hf := fun lc hlc => (equal_run (hI8.keep hF8.lt t2) t3 t1 (lim_lo hlc (by omega)) (n := 10) (by decide) (by omega)).mono fun v10 s10 hp => ?_)
            obtain ⟨j1, j2, rfl⟩ := hp
            have m10 := j2.mono
            have hf10 : Fol s1 s10 := ⟨j1, (((hf5.2.trans (p2.le m5)).trans (hk8.le (by omega))).trans (t2.le (by omega))).trans (j2.le (by omega))⟩
            rw [pr3]
            by_cases c1 : (noms.getD p []).getD c 0 + comb ks accs c accs.length = x.getD c 0
            · have d1 := dec_t c1
              have hx := d1; refine go ?_; clear hx
              refine cnd0 (t := false) (fun h => by cases h) (fun _ => ?_)
              have hx := an hT4 wi; refine go ?_; clear hx
              refine ⟨hf10, fun j hj => ?_, _, rfl, ?_⟩
              · by_cases e : j = c
                · subst e; exact c1
                · exact hokc j (by omega)
              have hx := hT4; exact has
            · have d1 := dec_f c1
              have hx := d1; refine go ?_; clear hx
              refine cnd0 (t := true) (fun _ => ?_) (fun h => by cases h)
              refine go0 ?_
              refine CodeR.ret ⟨.inr rfl, [.bool false], res0 (rs := [.tmp 6]), ?_⟩
              exact stop hf10 fun h => c1 (h.2.2.2 c hc)
        · rintro mm s5 ⟨hf5, hokc, T3, rfl, hT3⟩
          have lt2 := lt_f (Nat.le_refl x.length)
          have hx := an hT3 lt2; refine go ?_; clear hx
          refine cnd0 (t := false) (fun h => by cases h) (fun _ => ?_)
          refine go0 ?_
          refine CodeR.ret ⟨.inr rfl, [.bool true], res0 (rs := [.tmp 6]), ?_⟩
          exact ⟨hf1.trans hf5, true, rfl, by simp only [true_iff]; exact ⟨⟨pr1, pr2, pr3, pr4, pr5⟩, hrows.1, hrows.2, hokc⟩⟩
end Go.Proofs.YtaocoplfdhcoaaaGreatDoor.EvA

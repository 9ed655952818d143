/- Regions whose order is open, held against the model's. -/
import Derived.Test.YtaocoplfdhcoaaaGreatDoorSp07
import Derived.Orders
import Derived.Test.YtaocoplfdhcoaaaGreatDoorSp00
set_option linter.unusedVariables false
set_option linter.unusedSimpArgs false
namespace Go.Proofs.YtaocoplfdhcoaaaGreatDoor.Ev
open Go Go.RowKit
section
variable {P : Program} {E : Env} {call : CallT'} {S S' : Nat → Prop} {μ μ' : Nat → Loc} {m : Tm} {h : T Blk} {a : Act} {w w' W0 : World} {lo0 N0 lo c0 : Nat} {all : List Oper} {ops : Array Oper} {as : List Nat}
theorem ancOf_spec : ∀ (es : List Edge) (acc : List Nat) (k : Nat), (ancOf acc es).testBit k = true → ∃ e ∈ es, Region.binds .any e = true ∧ (k = e.on ∨ (acc.getD e.on 0).testBit k = true)
  | [], acc, k, h => by simp [ancOf] at h
  | e :: es, acc, k, h => by
    have rec' : (ancOf acc es).testBit k = true → ∃ x ∈ e :: es, Region.binds .any x = true ∧ (k = x.on ∨ (acc.getD x.on 0).testBit k = true) := fun h => by
      obtain ⟨x, h1, h2⟩ := ancOf_spec es acc k h
      exact ⟨x, List.mem_cons_of_mem _ h1, h2⟩
    have here : Region.binds .any e = true → (2 ^ e.on ||| acc.getD e.on 0 ||| ancOf acc es).testBit k = true → ∃ x ∈ e :: es, Region.binds .any x = true ∧ (k = x.on ∨ (acc.getD x.on 0).testBit k = true) := fun hb h => by
      rw [Nat.testBit_or, Nat.testBit_or, Bool.or_eq_true, Bool.or_eq_true, Nat.testBit_two_pow] at h
      rcases h with (h | h) | h
      · exact ⟨e, List.mem_cons_self, hb, .inl (of_decide_eq_true h).symm⟩
      · exact ⟨e, List.mem_cons_self, hb, .inr h⟩
      · exact rec' h
    unfold ancOf at h
    cases hg : e.ground <;> rw [hg] at h <;> first | exact rec' h | exact here (by simp [Region.binds, hg]) h
theorem ancs_spec : ∀ (os : List Oper) (acc : List Nat), (∀ i, i < acc.length → (ancs acc os)[i]? = acc[i]?) ∧ ∀ k o, os[k]? = some o → (ancs acc os).getD (acc.length + k) 0 = ancOf ((ancs acc os).take (acc.length + k)) o.after.toList
  | [], acc => ⟨fun _ _ => rfl, fun k o h => by simp at h⟩
  | o :: os, acc => by
    obtain ⟨h1, h2⟩ := ancs_spec os (acc ++ [ancOf acc o.after.toList])
    unfold ancs
    refine ⟨fun i hi => ?_, fun k x hk => ?_⟩
    · rw [h1 i (by simp; omega), List.getElem?_append_left hi]
    · cases k with
      | zero =>
        simp at hk
        subst hk
        have ht : (ancs (acc ++ [ancOf acc o.after.toList]) os).take acc.length = acc := by
          apply List.ext_getElem?
          intro i
          rw [List.getElem?_take]
          split
          · rw [h1 i (by simp; omega), List.getElem?_append_left (by assumption)]
          · rw [List.getElem?_eq_none (by omega)]
        rw [Nat.add_zero, ht, List.getD_eq_getElem?_getD, h1 _ (by simp)]
        simp
      | succ k =>
        have := h2 k x (by simpa using hk)
        rw [show (acc ++ [ancOf acc o.after.toList]).length + k = acc.length + (k + 1) by simp; omega] at this
        exact this
theorem backB_spec : ∀ {l : List Oper} {j0 : Nat}, backB j0 l = true → ∀ {k : Nat} {o : Oper}, l[k]? = some o → ∀ e ∈ o.after.toList, Region.binds .any e = true → e.on < j0 + k
  | [], _, _, k, o, ho, _, _, _ => by simp at ho
  | x :: xs, j0, h, k, o, ho, e, he, hb => by
    rw [backB, Bool.and_eq_true] at h
    cases k with
    | zero =>
      simp at ho
      subst ho
      have := List.all_eq_true.1 h.1 e he
      rw [Nat.add_zero]
      cases hg : e.ground <;> rw [hg] at this <;> first | exact blt_iff.1 this | (simp [Region.binds, hg] at hb)
    | succ k =>
      have := backB_spec h.2 (k := k) (by simpa using ho) e he hb
      omega
theorem mem_ready {listed : Array Bool} {i : Nat} : i ∈ Region.ready .any ops listed ↔ listed.getD i true = false ∧ ∃ o, ops[i]? = some o ∧ ∀ e ∈ o.after.toList, Region.binds .any e = true → listed.getD e.on false = true := by
  unfold Region.ready
  rw [List.mem_filter, List.mem_range, Bool.and_eq_true]
  constructor
  · rintro ⟨h1, h2, h3⟩
    refine ⟨by simpa using h2, ?_⟩
    rw [Array.getElem?_eq_getElem h1] at h3 ⊢
    simp only [Option.map_some, Option.getD_some] at h3
    rw [← Array.all_toList, List.all_eq_true] at h3
    exact ⟨_, rfl, fun e he hb => by simpa [hb] using h3 e he⟩
  · rintro ⟨h1, o, h2, h3⟩
    refine ⟨(Array.getElem?_eq_some_iff.1 h2).1, by simpa using h1, ?_⟩
    rw [h2]
    simp only [Option.map_some, Option.getD_some]
    rw [← Array.all_toList, List.all_eq_true]
    intro e he
    cases hb : Region.binds .any e with
    | false => rfl
    | true => simpa using h3 e he hb
theorem front (hcall : CallOk call) {y : Slot} {B : List Slot} {r : Tm × T Blk} (hy : SlotOk lo c0 true E all as y) : ∀ (A : List Slot) (m : Tm) (h : T Blk),
    (∀ x ∈ A, SlotOk lo c0 true E all as x ∧ x.j < y.j ∧ (as.getD y.j 0).testBit x.j = false ∧ x.c' ≤ y.c ∧ pairB E all x.o y.o = true) → (∀ b, y.c ≤ b → b < y.c' → h.get b = none) →
    slotsE E call lo all (A ++ y :: B) m h = some r → slotsE E call lo all (y :: (A ++ B)) m h = some r
  | [], m, h, _, _, hs => hs
  | x :: A, m, h, hA, hfr, hs => by
    obtain ⟨⟨m1, h1⟩, s1, s2⟩ := Option.bind_eq_some_iff.1 hs
    obtain ⟨q1, q2, q3, q4, q5⟩ := hA x List.mem_cons_self
    have hfr1 : ∀ b, y.c ≤ b → b < y.c' → h1.get b = none := fun b hb hb' => by
      obtain ⟨⟨v, h1'⟩, a1, a2⟩ := Option.bind_eq_some_iff.1 s1
      obtain ⟨m1', a3, a4⟩ := Option.map_eq_some_iff.1 a2
      simp only [Prod.mk.injEq] at a4
      obtain ⟨rfl, rfl⟩ := a4
      exact act_born hcall a1 b (hfr b hb hb') (.inr (Nat.le_trans q4 hb))
    have := front hcall hy A m1 h1 (fun z hz => hA z (List.mem_cons_of_mem _ hz)) hfr1 s2
    obtain ⟨⟨m2, h2⟩, t1, t2⟩ := Option.bind_eq_some_iff.1 this
    obtain ⟨m1', h1', u1, u2⟩ := step_swap hcall q1 hy q2 q3 q4 q5 hfr s1 t1
    rw [slotsE, u1, Option.bind_some, List.cons_append, slotsE, u2]
    exact t2
theorem any_order (hT : TTOk P E.tt) (hX : ExtSound P N0 W0 E) (hC : CallSound P N0 W0 call) (hcall : CallOk call) (hops : ops.toList = all) (hlo : lo0 ≤ lo) (hc0 : lo0 ≤ c0) (has : as = ancs [] all) (hdraw : drawB E all as 0 all = true) (hback : backB 0 all = true) {Q : Exit → Act → World → Prop} {mF : Tm} {hF : T Blk} {SF : Nat → Prop} :
    ∀ (fuel : Nat) (R : List Slot) (listed : Array Bool) (S : Nat → Prop) (μ : Nat → Loc) (m : Tm) (h : T Blk) (a : Act) (w : World), R.length ≤ fuel → listed.size = all.length → (∀ x ∈ R, SlotOk lo c0 true E all as x) → R.Pairwise (fun x y => x.j < y.j ∧ x.c' ≤ y.c) →
      (∀ i, i < all.length → (listed.getD i true = false ↔ ∃ x ∈ R, x.j = i)) → (∀ i, i < all.length → listed.getD i true = true → ∀ k, (as.getD i 0).testBit k = true → listed.getD k true = true) →
      Rel lo0 N0 W0 S μ m h a w → (∀ x ∈ R, ∀ b, S b → b < x.c ∨ x.c' ≤ b) → slotsE E call lo all R m h = some (mF, hF) → (∀ b, S b → SF b) → (∀ x ∈ R, ∀ b, x.c ≤ b → b < x.c' → SF b) →
      (∀ μ' a' w', Agree S μ μ' → Rel lo0 N0 W0 SF μ' mF hF a' w' → a'.defers = a.defers → Below N0 w w' → Q .normal a' w') → wpAny P .any ops Q fuel listed a w := by
  intro fuel
  have hlen : ops.size = all.length := by rw [← hops]; simp
  have none_left : ∀ (R : List Slot) (listed : Array Bool), listed.size = all.length → (∀ x ∈ R, SlotOk lo c0 true E all as x) → R.Pairwise (fun x y => x.j < y.j ∧ x.c' ≤ y.c) → (∀ i, i < all.length → (listed.getD i true = false ↔ ∃ x ∈ R, x.j = i)) → Region.ready .any ops listed = [] → R = [] := by
    intro R listed hsz hR hp hL hr
    cases R with
    | nil => rfl
    | cons x R =>
      exfalso
      obtain ⟨p1, p2⟩ := List.pairwise_cons.1 hp
      have hx := hR x List.mem_cons_self
      have hxl : x.j < all.length := (List.getElem?_eq_some_iff.1 hx.at_).1
      have : x.j ∈ Region.ready .any ops listed := by
        rw [mem_ready]
        refine ⟨(hL x.j hxl).2 ⟨x, List.mem_cons_self, rfl⟩, x.o, by have := hx.at_; rw [← hops] at this; simpa using this, fun e he hb => ?_⟩
        have hlt := backB_spec hback hx.at_ e he hb
        rw [Nat.zero_add] at hlt
        have hel : e.on < all.length := by omega
        cases hg : listed.getD e.on true with
        | true =>
          have : e.on < listed.size := by omega
          simpa [Array.getD, this] using hg
        | false =>
          obtain ⟨z, hz, hze⟩ := (hL e.on hel).1 hg
          rcases List.mem_cons.1 hz with rfl | hz
          · omega
          · have := (p1 z hz).1
            omega
      rw [hr] at this
      simp at this
  have finish : ∀ (S : Nat → Prop) (μ : Nat → Loc) (m : Tm) (h : T Blk) (a : Act) (w : World), Rel lo0 N0 W0 S μ m h a w → slotsE E call lo all [] m h = some (mF, hF) → (∀ b, S b → SF b) → (∀ μ' a' w', Agree S μ μ' → Rel lo0 N0 W0 SF μ' mF hF a' w' → a'.defers = a.defers → Below N0 w w' → Q .normal a' w') → Q .normal a w := by
    intro S μ m h a w hrel hs hSF hQ
    cases hs
    exact hQ μ a w (Agree.refl _ _) ⟨fun t v hv => ⟨wf_agree (Agree.refl _ _) hSF v (hrel.tr t v hv).1, (hrel.tr t v hv).2⟩, hrel.sz, hrel.sim.congr hSF, hrel.base⟩ rfl (Below.refl _ _)
  induction fuel with
  | zero =>
    intro R listed S μ m h a w hfuel hsz hR hp hL hcl hrel hf hs hSF hSR hQ
    obtain rfl : R = [] := List.eq_nil_of_length_eq_zero (by omega)
    refine ⟨?_, finish S μ m h a w hrel hs hSF hQ⟩
    apply List.eq_nil_iff_forall_not_mem.2
    intro i hi
    rw [mem_ready] at hi
    obtain ⟨h1, o, h2, _⟩ := hi
    have hil : i < all.length := by rw [← hlen]; exact (Array.getElem?_eq_some_iff.1 h2).1
    obtain ⟨x, hx, _⟩ := (hL i hil).1 h1
    simp at hx
  | succ fuel ih =>
    intro R listed S μ m h a w hfuel hsz hR hp hL hcl hrel hf hs hSF hSR hQ
    refine ⟨fun hr => ?_, fun i hi => ?_⟩
    · obtain rfl := none_left R listed hsz hR hp hL hr
      exact finish S μ m h a w hrel hs hSF hQ
    · rw [mem_ready] at hi
      obtain ⟨h1, o, h2, h3⟩ := hi
      have hil : i < all.length := by rw [← hlen]; exact (Array.getElem?_eq_some_iff.1 h2).1
      obtain ⟨y, hyR, hyi⟩ := (hL i hil).1 h1
      subst hyi
      have hy := hR y hyR
      have hyo : y.o = o := by
        have := hy.at_
        rw [← hops] at this
        simp only [Array.getElem?_toList] at this
        rw [h2] at this
        cases this
        rfl
      have hanc : ∀ k, (as.getD y.j 0).testBit k = true → listed.getD k true = true := fun k hk => by
        have hd : as.getD y.j 0 = ancOf (as.take y.j) y.o.after.toList := by
          have := (ancs_spec all []).2 y.j y.o hy.at_
          rw [← has] at this
          simpa using this
        rw [hd] at hk
        obtain ⟨e, he, hb, hk⟩ := ancOf_spec _ _ _ hk
        rw [hyo] at he
        have hl := h3 e he hb
        have hlt := backB_spec hback hy.at_ e (by rw [hyo]; exact he) hb
        rw [Nat.zero_add] at hlt
        have hlsz : e.on < listed.size := by omega
        have hl' : listed.getD e.on true = true := by simpa [Array.getD, hlsz] using hl
        rcases hk with rfl | hk
        · exact hl'
        · have : (as.take y.j).getD e.on 0 = as.getD e.on 0 := by
            rw [List.getD_eq_getElem?_getD, List.getD_eq_getElem?_getD, List.getElem?_take, if_pos hlt]
          rw [this] at hk
          exact hcl e.on (by omega) hl' k hk
      obtain ⟨A, B, rfl⟩ := List.append_of_mem hyR
      have hpA : ∀ x ∈ A, x.j < y.j ∧ x.c' ≤ y.c := fun x hx => (List.pairwise_append.1 hp).2.2 x hx y List.mem_cons_self
      have hpB : ∀ x ∈ B, y.j < x.j ∧ y.c' ≤ x.c := fun x hx => (List.pairwise_cons.1 (List.pairwise_append.1 hp).2.1).1 x hx
      have hAB : (A ++ B).Pairwise (fun x y => x.j < y.j ∧ x.c' ≤ y.c) := by
        obtain ⟨q1, q2, q3⟩ := List.pairwise_append.1 hp
        exact List.pairwise_append.2 ⟨q1, (List.pairwise_cons.1 q2).2, fun x hx z hz => q3 x hx z (List.mem_cons_of_mem _ hz)⟩
      have hmem : ∀ x, x ∈ A ++ B → x ∈ A ++ y :: B := fun x hx => by
        rcases List.mem_append.1 hx with hx | hx
        · exact List.mem_append_left _ hx
        · exact List.mem_append_right _ (List.mem_cons_of_mem _ hx)
      have hfresh : ∀ b, y.c ≤ b → b < y.c' → h.get b = none := fun b hb hb' => by
        cases hg : h.get b with
        | none => rfl
        | some k =>
          have := hf y hyR b (hrel.sim.blk b k hg).1
          omega
      have hfront := front hcall (B := B) (r := (mF, hF)) hy A m h (fun x hx => by
        have hxR := hR x (List.mem_append_left _ hx)
        have hnb : (as.getD y.j 0).testBit x.j = false := by
          cases hb : (as.getD y.j 0).testBit x.j with
          | false => rfl
          | true =>
            have h4 := hanc x.j hb
            have hxl : x.j < all.length := (List.getElem?_eq_some_iff.1 hxR.at_).1
            have := (hL x.j hxl).2 ⟨x, List.mem_append_left _ hx, rfl⟩
            rw [h4] at this
            cases this
        refine ⟨hxR, (hpA x hx).1, hnb, (hpA x hx).2, ?_⟩
        exact drawB_spec hdraw hy.at_ (by rw [Nat.zero_add]; exact (hpA x hx).1) hxR.at_ (by rw [Nat.zero_add]; exact hnb)) hfresh hs
      obtain ⟨⟨m1, h1'⟩, s1, s2⟩ := Option.bind_eq_some_iff.1 hfront
      refine step_ok hT hX hC hops hy hlo hc0 hrel (hf y hyR) s1 fun μ1 a1 w1 g1 g2 g3 g4 => ?_
      have hget : ∀ k, (listed.setIfInBounds y.j true).getD k true = if k = y.j then true else listed.getD k true := fun k => by
        by_cases e : k = y.j
        · rw [if_pos e]
          subst e
          simp [Array.getD]
        · rw [if_neg e]
          simp only [Array.getD_eq_getD_getElem?, Array.getElem?_setIfInBounds]
          rw [if_neg (fun x => e x.symm)]
      refine ih (A ++ B) (listed.setIfInBounds y.j true) (Plus S y.c y.c') μ1 m1 h1' a1 w1 (by simp at hfuel ⊢; omega) (by simpa using hsz) (fun x hx => hR x (hmem x hx)) hAB (fun k hk => ?_) (fun k hk hk2 q hq => ?_) g2 (fun x hx b hb => ?_) s2 (fun b hb => ?_) (fun x hx => hSR x (hmem x hx)) fun μ2 a2 w2 k1 k2 k3 k4 => ?_
      · rw [hget]
        by_cases e : k = y.j
        · rw [if_pos e]
          refine Iff.intro (fun h => absurd h (by simp)) fun hh => ?_
          obtain ⟨x, hx, hxk⟩ := hh
          exfalso
          rcases List.mem_append.1 hx with hx | hx
          · have := (hpA x hx).1; omega
          · have := (hpB x hx).1; omega
        · rw [if_neg e, hL k hk]
          constructor
          · rintro ⟨x, hx, hxk⟩
            refine ⟨x, ?_, hxk⟩
            rcases List.mem_append.1 hx with hx | hx
            · exact List.mem_append_left _ hx
            · rcases List.mem_cons.1 hx with rfl | hx
              · exact absurd hxk.symm e
              · exact List.mem_append_right _ hx
          · rintro ⟨x, hx, hxk⟩
            exact ⟨x, hmem x hx, hxk⟩
      · rw [hget] at hk2 ⊢
        by_cases e : q = y.j
        · rw [if_pos e]
        · rw [if_neg e]
          by_cases e2 : k = y.j
          · rw [e2] at hq
            exact hanc q hq
          · rw [if_neg e2] at hk2
            exact hcl k hk hk2 q hq
      · rcases hb with hb | hb
        · exact hf x (hmem x hx) b hb
        · rcases List.mem_append.1 hx with hx | hx
          · have := (hpA x hx).2; exact .inr (by omega)
          · have := (hpB x hx).2; exact .inl (by omega)
      · rcases hb with hb | hb
        · exact hSF b hb
        · exact hSR y hyR b hb.1 hb.2
      · exact hQ μ2 a2 w2 (fun b hb => (k1 b (.inl hb)).trans (g1 b hb)) k2 (k3.trans g3) (g4.trans k4)
/-! ### A region -/
theorem reg_ok (hm : P.follows .mixedOrders = true) (hT : TTOk P E.tt) (hX : ExtSound P N0 W0 E) (hC : CallSound P N0 W0 call) (hcall : CallOk call) {draw : Bool} {id : Nat} {s s' : St} {m' : Tm} (hlo : lo0 ≤ lo) (hc0 : lo0 ≤ s.c) (hrun : regE E call draw lo ops.toList m s = some (m', s')) (hrel : Rel lo0 N0 W0 S μ m s.h a w) (hf : ∀ b, S b → b < s.c ∨ s'.c ≤ b)
    {Q : Exit → Act → World → Prop} (hQ : ∀ μ' a' w', Agree S μ μ' → Rel lo0 N0 W0 (Plus S s.c s'.c) μ' m' s'.h a' w' → a'.defers = a.defers → Below N0 w w' → Q .normal a' w') : (Code.region id ops draw).wp P Q a w := by
  unfold regE at hrun
  have hall : ∀ k o, ops.toList[k]? = some o → ops.toList[0 + k]? = some o := fun k o h => by rw [Nat.zero_add]; exact h
  cases draw with
  | false =>
    simp only [cond_false] at hrun
    obtain ⟨g0, R, g1, g2, g3, g4⟩ := slots_of_run hcall false s.c [] ops.toList 0 m s m' s' hrun (Nat.le_refl _) hall
    apply wp_region
    have : List.range ops.size = R.map (·.j) := by rw [g1, List.range_eq_range', Array.length_toList]
    rw [this]
    exact in_order hT hX hC rfl hlo hc0 (SF := Plus S s.c s'.c) R S μ m s.h a w (fun x hx => (g2 x hx).1) g3 hrel (fun x hx b hb => by have := hf b hb; have := (g2 x hx).2; omega) g4 (fun b hb => .inl hb) (fun x hx b h1 h2 => .inr (by have := (g2 x hx).2; omega)) hQ
  | true =>
    simp only [cond_true] at hrun
    cases hd : drawB E ops.toList (ancs [] ops.toList) 0 ops.toList && backB 0 ops.toList with
    | false => rw [hd] at hrun; cases hrun
    | true =>
      rw [hd] at hrun
      rw [Bool.and_eq_true] at hd
      obtain ⟨g0, R, g1, g2, g3, g4⟩ := slots_of_run hcall true s.c (ancs [] ops.toList) ops.toList 0 m s m' s' hrun (Nat.le_refl _) hall
      apply wp_region_any hm
      have hrlen : R.length = ops.size := by
        have := congrArg List.length g1
        simpa using this
      have hrel' : Rel lo0 N0 W0 S μ m s.h a { w with drawn := w.drawn + 1 } := ⟨hrel.tr, hrel.sz, hrel.sim.heap rfl, ⟨hrel.base.os, hrel.base.tape, hrel.base.output, hrel.base.size, hrel.base.block⟩⟩
      refine any_order hT hX hC hcall rfl hlo hc0 rfl hd.1 hd.2 (SF := Plus S s.c s'.c) ops.size R (Array.replicate ops.size false) S μ m s.h a _ (by omega) (by simp) (fun x hx => (g2 x hx).1) g3 (fun i hi => ?_) (fun i hi hi2 => ?_) hrel' (fun x hx b hb => by have := hf b hb; have := (g2 x hx).2; omega) g4 (fun b hb => .inl hb) (fun x hx b h1 h2 => .inr (by have := (g2 x hx).2; omega)) fun μ' a' w' k1 k2 k3 k4 => hQ μ' a' w' k1 k2 k3 ⟨k4.os, k4.tape, k4.output, k4.size, k4.block⟩
      · have hi' : i < ops.size := by simpa using hi
        have hmem : i ∈ R.map (·.j) := by rw [g1]; exact List.mem_range'_1.2 ⟨by omega, by simpa using hi⟩
        obtain ⟨x, hx, hxi⟩ := List.mem_map.1 hmem
        refine ⟨fun _ => ⟨x, hx, hxi⟩, fun _ => ?_⟩
        simp [Array.getD, hi']
      · have hi' : i < ops.size := by simpa using hi
        simp [Array.getD, hi'] at hi2
end
end Go.Proofs.YtaocoplfdhcoaaaGreatDoor.Ev
set_option linter.unusedVariables false
set_option linter.unusedSimpArgs false
namespace Go.Proofs.YtaocoplfdhcoaaaGreatDoor.Ev
open Go Go.RowKit
def exOf : Ex → Exit
  | .nrm => .normal
  | .exit i => .exit i
  | .ret => .ret
def FnsOk (P : Program) (E : Env) : Prop := ∀ f fn, E.fns.get f = some fn → P.funcs[f]? = some fn ∧ (fn.name == "runtime.NumGoroutine") = false
section
variable {P : Program} {E : Env} {call : CallT'} {S S' : Nat → Prop} {μ μ' : Nat → Loc} {m : Tm} {h : T Blk} {a : Act} {w w' W0 : World} {lo0 N0 lo c0 : Nat}
theorem Rel.up (hr : Rel lo0 N0 W0 S μ m h a w) (hS : ∀ b, S b → S' b) : Rel lo0 N0 W0 S' μ m h a w :=
  ⟨fun t v hv => ⟨wf_agree (Agree.refl _ _) hS v (hr.tr t v hv).1, (hr.tr t v hv).2⟩, hr.sz, hr.sim.congr hS, hr.base⟩
theorem plus_plus {c c1 c2 : Nat} (h1 : c ≤ c1) (h2 : c1 ≤ c2) : ∀ b, Plus (Plus S c c1) c1 c2 b → Plus S c c2 b := fun b hb => by
  rcases hb with (hb | hb) | hb
  · exact .inl hb
  · exact .inr ⟨hb.1, by omega⟩
  · exact .inr ⟨by omega, hb.2⟩
/-- What is to be shown behind code. -/
def Post (lo0 N0 : Nat) (W0 : World) (S : Nat → Prop) (μ : Nat → Loc) (c c' : Nat) (m' : Tm) (h' : T Blk) (a : Act) (w : World) (K : Act → World → Prop) : Prop :=
  ∀ μ' a' w', Agree S μ μ' → Rel lo0 N0 W0 (Plus S c c') μ' m' h' a' w' → a'.defers = a.defers → Below N0 w w' → K a' w'
theorem post_trans {c c1 c2 : Nat} {m2 : Tm} {h2 : T Blk} {K : Act → World → Prop} {a1 : Act} {w1 : World} {μ1 : Nat → Loc} (hc1 : c ≤ c1) (hc2 : c1 ≤ c2) (hP : Post lo0 N0 W0 S μ c c2 m2 h2 a w K) (k1 : Agree S μ μ1) (k3 : a1.defers = a.defers) (k4 : Below N0 w w1) :
    Post lo0 N0 W0 (Plus S c c1) μ1 c1 c2 m2 h2 a1 w1 K := fun μ' a' w' g1 g2 g3 g4 =>
  hP μ' a' w' (fun b hb => (g1 b (.inl hb)).trans (k1 b hb)) (g2.up (plus_plus hc1 hc2)) (g3.trans k3) (k4.trans g4)
def CodeOk (P : Program) (N0 : Nat) (W0 : World) (lo : Nat) (F : Tm → St → Option (Ex × Tm × St)) (c : Code) : Prop :=
  ∀ (m : Tm) (s : St) (e : Ex) (m' : Tm) (s' : St), F m s = some (e, m', s') → ∀ (lo0 : Nat) (S : Nat → Prop) (μ : Nat → Loc) (a : Act) (w : World) (Q : Exit → Act → World → Prop), lo0 ≤ lo → lo0 ≤ s.c → Rel lo0 N0 W0 S μ m s.h a w → (∀ b, S b → b < s.c ∨ s'.c ≤ b) →
    Post lo0 N0 W0 S μ s.c s'.c m' s'.h a w (Q (exOf e)) → c.wp P Q a w
theorem iter_ok {c : Code} {F : Tm → St → Option (Ex × Tm × St)} (hF : CodeOk P N0 W0 lo F c) (hG : ∀ m, GoodC lo (F m)) : ∀ (n : Nat) (m : Tm) (s : St) (e : Ex) (m' : Tm) (s' : St), iterE F n m s = some (e, m', s') → ∀ (lo0 : Nat) (S : Nat → Prop) (μ : Nat → Loc) (a : Act) (w : World) (Q : Exit → Act → World → Prop), lo0 ≤ lo → lo0 ≤ s.c → Rel lo0 N0 W0 S μ m s.h a w → (∀ b, S b → b < s.c ∨ s'.c ≤ b) →
    Post lo0 N0 W0 S μ s.c s'.c m' s'.h a w (Q (exOf e)) → e ≠ .nrm ∧ Code.rounds P c Q n a w
  | 0, m, s, e, m', s', h, _, _, _, _, _, _, _, _, _, _, _ => by cases h
  | n + 1, m, s, e, m', s', h, lo0, S, μ, a, w, Q, h1, h2, h3, h4, h5 => by
    rw [rounds_succ]
    obtain ⟨⟨e1, m1, s1⟩, g1, g2⟩ := Option.bind_eq_some_iff.1 h
    have mono1 := (hG m s e1 m1 s1 g1).1.mono
    cases e1 with
    | nrm =>
      have mono2 := (good_iterE (lo := lo) hG n m1 s1 e m' s' g2).1.mono
      have hne : e ≠ .nrm := by
        have : ∀ (n : Nat) (m : Tm) (s : St) (e : Ex) (m' : Tm) (s' : St), iterE F n m s = some (e, m', s') → e ≠ .nrm := by
          intro n
          induction n with
          | zero => intro m s e m' s' h; cases h
          | succ n ih =>
            intro m s e m' s' h
            obtain ⟨⟨e1, m1, s1⟩, g1, g2⟩ := Option.bind_eq_some_iff.1 h
            cases e1 with
            | nrm => exact ih _ _ _ _ _ g2
            | exit i => cases g2; simp
            | ret => cases g2; simp
        exact this n m1 s1 e m' s' g2
      refine ⟨hne, hF m s .nrm m1 s1 g1 lo0 S μ a w _ h1 h2 h3 (fun b hb => by have := h4 b hb; omega) fun μ1 a1 w1 k1 k2 k3 k4 => ?_⟩
      exact (iter_ok hF hG n m1 s1 e m' s' g2 lo0 (Plus S s.c s1.c) μ1 a1 w1 Q h1 (by omega) k2 (fun b hb => by
        rcases hb with hb | hb
        · have := h4 b hb; omega
        · exact .inl hb.2) (post_trans mono1 mono2 h5 k1 k3 k4)).2
    | exit i =>
      cases g2
      exact ⟨by simp, hF m s (.exit i) m' s' g1 lo0 S μ a w _ h1 h2 h3 h4 h5⟩
    | ret =>
      cases g2
      exact ⟨by simp, hF m s .ret m' s' g1 lo0 S μ a w _ h1 h2 h3 h4 h5⟩
theorem code_ok (hm : P.follows .mixedOrders = true) (hT : TTOk P E.tt) (hX : ExtSound P N0 W0 E) (hC : CallSound P N0 W0 call) (hcall : CallOk call) (n : Nat) : ∀ c : Code, CodeOk P N0 W0 lo (codeE E call n lo c) c := by
  intro c
  induction c with
  | skip =>
    intro m s e m' s' h lo0 S μ a w Q h1 h2 h3 h4 h5
    cases h
    exact wp_skip (h5 μ a w (Agree.refl _ _) (h3.up fun b hb => .inl hb) rfl (Below.refl _ _))
  | region id ops draw =>
    intro m s e m' s' h lo0 S μ a w Q h1 h2 h3 h4 h5
    simp only [codeE] at h
    obtain ⟨⟨m1, s1⟩, g1, g2⟩ := Option.map_eq_some_iff.1 h
    cases g2
    exact reg_ok hm hT hX hC hcall h1 h2 g1 h3 h4 h5
  | seq x y ihx ihy =>
    intro m s e m' s' h lo0 S μ a w Q h1 h2 h3 h4 h5
    simp only [codeE] at h
    obtain ⟨⟨e1, m1, s1⟩, g1, g2⟩ := Option.bind_eq_some_iff.1 h
    have mono1 := (good_codeE (E := E) (lo := lo) hcall n x m s e1 m1 s1 g1).1.mono
    apply wp_seq
    cases e1 with
    | nrm =>
      have mono2 := (good_codeE (E := E) (lo := lo) hcall n y m1 s1 e m' s' g2).1.mono
      refine ihx m s .nrm m1 s1 g1 lo0 S μ a w _ h1 h2 h3 (fun b hb => by have := h4 b hb; omega) fun μ1 a1 w1 k1 k2 k3 k4 => ?_
      exact ihy m1 s1 e m' s' g2 lo0 (Plus S s.c s1.c) μ1 a1 w1 Q h1 (by omega) k2 (fun b hb => by
        rcases hb with hb | hb
        · have := h4 b hb; omega
        · exact .inl hb.2) (post_trans mono1 mono2 h5 k1 k3 k4)
    | exit i =>
      cases g2
      exact ihx m s (.exit i) m' s' g1 lo0 S μ a w _ h1 h2 h3 h4 h5
    | ret =>
      cases g2
      exact ihx m s .ret m' s' g1 lo0 S μ a w _ h1 h2 h3 h4 h5
  | cond c x y ihx ihy =>
    intro m s e m' s' h lo0 S μ a w Q h1 h2 h3 h4 h5
    simp only [codeE] at h
    obtain ⟨v, hv, g2⟩ := Option.bind_eq_some_iff.1 h
    have he := (rho_ok h3.tr hv).2
    split at g2
    · exact wp_cond_true (by rw [he]; rfl) (ihx m s e m' s' g2 lo0 S μ a w Q h1 h2 h3 h4 h5)
    · exact wp_cond_false (by rw [he]; rfl) (ihy m s e m' s' g2 lo0 S μ a w Q h1 h2 h3 h4 h5)
    · cases g2
  | block id x ihx =>
    intro m s e m' s' h lo0 S μ a w Q h1 h2 h3 h4 h5
    simp only [codeE] at h
    obtain ⟨⟨e1, m1, s1⟩, g1, g2⟩ := Option.map_eq_some_iff.1 h
    apply wp_block
    cases e1 with
    | nrm => cases g2; exact ihx m s .nrm m' s' g1 lo0 S μ a w _ h1 h2 h3 h4 h5
    | ret => cases g2; exact ihx m s .ret m' s' g1 lo0 S μ a w _ h1 h2 h3 h4 h5
    | exit i =>
      simp only at g2
      cases hi : Nat.beq i id with
      | true =>
        rw [hi] at g2
        cases g2
        refine ihx m s (.exit i) m' s' g1 lo0 S μ a w _ h1 h2 h3 h4 fun μ' a' w' k1 k2 k3 k4 => ?_
        simp only [exOf, Exit.inBlock]
        rw [if_pos (beq_iff.1 hi)]
        exact h5 μ' a' w' k1 k2 k3 k4
      | false =>
        rw [hi] at g2
        cases g2
        refine ihx m s (.exit i) m' s' g1 lo0 S μ a w _ h1 h2 h3 h4 fun μ' a' w' k1 k2 k3 k4 => ?_
        simp only [exOf, Exit.inBlock]
        rw [if_neg (fun e => by rw [beq_iff.2 e] at hi; cases hi)]
        exact h5 μ' a' w' k1 k2 k3 k4
  | loop x ihx =>
    intro m s e m' s' h lo0 S μ a w Q h1 h2 h3 h4 h5
    simp only [codeE] at h
    exact wp_loop_rounds n (iter_ok ihx (good_codeE (E := E) (lo := lo) hcall n x) n m s e m' s' h lo0 S μ a w Q h1 h2 h3 h4 h5).2
  | exit id =>
    intro m s e m' s' h lo0 S μ a w Q h1 h2 h3 h4 h5
    cases h
    exact wp_exit (h5 μ a w (Agree.refl _ _) (h3.up fun b hb => .inl hb) rfl (Below.refl _ _))
  | ret =>
    intro m s e m' s' h lo0 S μ a w Q h1 h2 h3 h4 h5
    cases h
    exact wp_ret (h5 μ a w (Agree.refl _ _) (h3.up fun b hb => .inl hb) rfl (Below.refl _ _))
  | _ => intro m s e m' s' h; cases h
/-! ### Functions -/
theorem argsT_get : ∀ (l : List AV) (i t : Nat), (argsT i l).get t = if i ≤ t then l[t - i]? else none
  | [], i, t => by simp [argsT, T.get_e]
  | v :: vs, i, t => by
    rw [argsT, T.get_set, argsT_get vs (i + 1) t]
    by_cases e : i = t
    · subst e
      simp
    · rw [if_neg e]
      by_cases h : i ≤ t
      · rw [if_pos h, if_pos (by omega)]
        obtain ⟨k, hk⟩ : ∃ k, t - i = k + 1 := ⟨t - i - 1, by omega⟩
        rw [hk, show t - (i + 1) = k by omega]
        simp
      · rw [if_neg h, if_neg (by omega)]
def resF (tmps : Array Value) : ResultVar → Sem Value
  | .tmp t => pure (tmps.getD t undef)
  | .cell p t => do loadVar t (← asAddr (tmps.getD p undef))
theorem results_eq (fn : Func) (tmps : Array Value) : results fn tmps = (do
    let vs ← fn.results.toList.mapM (resF tmps)
    pure (if h : vs.toArray.size = 1 then vs.toArray[0] else .tuple vs.toArray)) := by
  have : (fun x : ResultVar => (match x with
    | .tmp t => pure (tmps.getD t undef)
    | .cell a t => do loadVar t (← asAddr (tmps.getD a undef)) : Sem Value)) = resF tmps := by
    funext x
    cases x <;> rfl
  unfold results
  rw [Array.mapM_eq_mapM_toList]
  simp only [map_eq_pure_bind, bind_assoc, pure_bind]
  congr 1
theorem res_one (hT : TTOk P E.tt) {s : St} (hrel : Rel lo0 N0 W0 S μ m s.h a w) {r : ResultVar} {v : AV} (hv : resE E m.t s r = some v) : wf S μ v ∧ (resF a.tmps r).run P w = .ok (conc μ v) w := by
  cases r with
  | tmp t =>
    obtain ⟨k1, k2⟩ := hrel.tr t v hv
    exact ⟨k1, by simp [resF, Array.getD_eq_getD_getElem?, k2]⟩
  | cell p t =>
    simp only [resE] at hv
    obtain ⟨x, hx, hl⟩ := Option.bind_eq_some_iff.1 hv
    obtain ⟨k1, k2⟩ := hrel.tr p x hx
    obtain ⟨l1, l2⟩ := loadE_ok (c := s.c) hT hrel.sim hl
    refine ⟨l1, ?_⟩
    have hg : a.tmps.getD p undef = conc μ x := by simp [Array.getD_eq_getD_getElem?, k2]
    simp only [resF, hg]
    unfold loadE at hl
    split at hl
    · simpa [Instr.loadAt, Instr.sureAddr, asAddr, conc] using l2
    · cases hl
theorem res_ok (hT : TTOk P E.tt) {s : St} (hrel : Rel lo0 N0 W0 S μ m s.h a w) : ∀ {l : List ResultVar} {vs : List AV}, ressE E m.t s l = some vs → wfs S μ vs ∧ (l.mapM (resF a.tmps)).run P w = .ok (concs μ vs) w
  | [], vs, h => by cases h; exact ⟨trivial, by simp [concs]⟩
  | r :: rs, vs, h => by
    rw [ressE] at h
    obtain ⟨v, hv, h2⟩ := Option.bind_eq_some_iff.1 h
    obtain ⟨us, hus, rfl⟩ := Option.map_eq_some_iff.1 h2
    obtain ⟨g1, g2⟩ := res_ok hT hrel hus
    obtain ⟨k1, k2⟩ := res_one hT hrel hv
    refine ⟨⟨k1, g1⟩, ?_⟩
    rw [List.mapM_cons]
    simp only [Sem.run_bind]
    rw [k2]
    simp only [Result.andThen, g2, Sem.run_pure, concs]
theorem fun_ok (hm : P.follows .mixedOrders = true) (hT : TTOk P E.tt) (hX : ExtSound P N0 W0 E) (hF : FnsOk P E) : ∀ n, CallSound P N0 W0 (funE E n)
  | 0 => fun lc g as s v s' h => by cases h
  | n + 1 => fun lc g as s v s' h => by
    simp only [funE] at h
    obtain ⟨fn, hfn, h2⟩ := Option.bind_eq_some_iff.1 h
    obtain ⟨c, hc, h3⟩ := Option.bind_eq_some_iff.1 h2
    obtain ⟨⟨e, m1, s1⟩, hcode, h4⟩ := Option.bind_eq_some_iff.1 h3
    obtain ⟨f1, f2⟩ := hF g fn hfn
    refine ⟨⟨fn, c, f1, hc, f2⟩, fun lo0 S μ w kB k1 k2 k3 k4 k5 => ?_⟩
    have mono := (good_codeE (E := E) (lo := lc) (good_funE E n) n c _ s e m1 s1 hcode).1.mono
    have hargs : Rel lo0 N0 W0 S μ ⟨max as.length fn.ntmps, argsT 0 as⟩ s.h { tmps := (concs μ as).toArray ++ Array.replicate (fn.ntmps - (concs μ as).toArray.size) undef, defers := [] } w := by
      refine ⟨fun t v hv => ?_, ?_, k3, kB⟩
      · simp only [argsT_get, Nat.zero_le, if_true, Nat.sub_zero] at hv
        refine ⟨wfs_get k4 hv, ?_⟩
        have hlt := (List.getElem?_eq_some_iff.1 hv).1
        rw [Array.getElem?_append_left (by simpa [concs_length] using hlt), List.getElem?_toArray, concs_get, hv]
        rfl
      · simp [concs_length]; omega
    have body : ∀ (ex : Exit), (ex = .normal ∨ ex = .ret) → s1.c = s'.c → ∀ vs, ressE E m1.t s1 fn.results.toList = some vs → (match vs with | [v] => (v, s1) | vs => (AV.tuple vs, s1)) = (v, s') →
        Post lo0 N0 W0 S μ s.c s1.c m1 s1.h { tmps := (concs μ as).toArray ++ Array.replicate (fn.ntmps - (concs μ as).toArray.size) undef, defers := [] } w (bodyPost P fn (fun e w' => ∃ u, e = .returned u ∧ HPost lo0 N0 S μ s s' w v u w') ex) := by
      intro ex hex hs1 vs hvs hmatch μ' a' w' q1 q2 q3 q4
      obtain ⟨r1, r2⟩ := res_ok hT q2 hvs
      have hres : (results fn a'.tmps).run P w' = .ok (conc μ' v) w' ∧ wf (Plus S s.c s1.c) μ' v ∧ s1 = s' := by
        rw [results_eq]
        simp only [Sem.run_bind]
        rw [r2]
        simp only [Result.andThen, Sem.run_pure]
        match vs, hmatch, r1 with
        | [], hmatch, r1 => simp only [Prod.mk.injEq] at hmatch; obtain ⟨rfl, rfl⟩ := hmatch; exact ⟨rfl, trivial, rfl⟩
        | [x], hmatch, r1 => simp only [Prod.mk.injEq] at hmatch; obtain ⟨rfl, rfl⟩ := hmatch; exact ⟨by simp [concs], r1.1, rfl⟩
        | x :: y :: z, hmatch, r1 =>
          simp only [Prod.mk.injEq] at hmatch
          obtain ⟨rfl, rfl⟩ := hmatch
          refine ⟨?_, r1, rfl⟩
          have : ¬ ((concs μ' (x :: y :: z)).toArray.size = 1) := by simp [concs_length]
          rw [dif_neg this]
          rfl
      obtain ⟨t1, t2, t3⟩ := hres
      subst t3
      have fin : a'.defers = [] ∧ ∃ v1, (results fn a'.tmps).run P w' = .ok v1 w' ∧ ∃ u, (Ending.returned v1 = .returned u) ∧ HPost lo0 N0 S μ s s1 w v u w' :=
        ⟨q3, _, t1, _, rfl, μ', q1, q2.sim, t2, rfl, q4⟩
      rcases hex with rfl | rfl
      · exact fin
      · exact fin
    refine calls_of_wp f1 hc ?_
    have hs1 : ∀ vs, (match vs with | [v] => (v, s1) | vs => (AV.tuple vs, s1)) = (v, s') → s1.c = s'.c := fun vs hmatch => by
      match vs, hmatch with
      | [], hmatch => simp only [Prod.mk.injEq] at hmatch; rw [hmatch.2]
      | [x], hmatch => simp only [Prod.mk.injEq] at hmatch; rw [hmatch.2]
      | x :: y :: z, hmatch => simp only [Prod.mk.injEq] at hmatch; rw [hmatch.2]
    cases e with
    | exit i => cases h4
    | nrm =>
      obtain ⟨vs, hvs, hmatch⟩ := Option.map_eq_some_iff.1 h4
      have hsc := hs1 vs hmatch
      exact code_ok hm hT hX (fun_ok hm hT hX hF n) (good_funE E n) n c _ s .nrm m1 s1 hcode lo0 S μ _ w _ k1 k2 hargs (fun b hb => by rw [hsc]; exact k5 b hb) (body .normal (.inl rfl) hsc vs hvs hmatch)
    | ret =>
      obtain ⟨vs, hvs, hmatch⟩ := Option.map_eq_some_iff.1 h4
      have hsc := hs1 vs hmatch
      exact code_ok hm hT hX (fun_ok hm hT hX hF n) (good_funE E n) n c _ s .ret m1 s1 hcode lo0 S μ _ w _ k1 k2 hargs (fun b hb => by rw [hsc]; exact k5 b hb) (body .ret (.inr rfl) hsc vs hvs hmatch)
/-- A run without arguments: what it tells is so. -/
theorem run_ok (hm : P.follows .mixedOrders = true) (hT : TTOk P E.tt) (W : World) (hX : ExtSound P W.heap.size W E) (hF : FnsOk P E) {n f : Nat} {v : AV} {s' : St} (h : funE E n 0 f [] ⟨.e, 0⟩ = some (v, s')) :
    Calls P f #[] W fun e w' => ∃ u μ, e = .returned u ∧ u = conc μ v ∧ Below W.heap.size W w' := by
  have hsim : Sim 0 W.heap.size (fun _ => False) (fun _ => ⟨0, 0, 0, none⟩) (T.e : T Blk) W := ⟨Nat.le_refl _, fun b k hk => (by rw [T.get_e] at hk; cases hk), fun b b' _ _ hb _ => (by rw [T.get_e] at hb; cases hb)⟩
  have := ((fun_ok hm hT hX hF n) 0 f [] ⟨.e, 0⟩ v s' h).2 0 (fun _ => False) (fun _ => ⟨0, 0, 0, none⟩) W (Below.refl _ _) (Nat.le_refl _) (Nat.le_refl _) hsim trivial (fun b hb => hb.elim)
  refine this.mono fun e w' he => ?_
  obtain ⟨u, rfl, μ', h1, h2, h3, h4, h5⟩ := he
  exact ⟨u, μ', rfl, h4, h5⟩
end
end Go.Proofs.YtaocoplfdhcoaaaGreatDoor.Ev
namespace Go.Proofs.YtaocoplfdhcoaaaGreatDoor.Ev
open Go

noncomputable def T.getF {α : Type} (t : T α) : Nat → Option α := T.rec (fun _ => none) (fun v _ _ ihl ihr i => Bool.rec (Bool.rec (ihr (i / 2 - 1)) (ihl (i / 2)) (Nat.beq (i % 2) 1)) v (Nat.beq i 0)) t
noncomputable def T.singF {α : Type} (v : α) (f : Nat) : Nat → T α := Nat.rec (fun _ => .n (some v) .e .e) (fun _ ih i => Bool.rec (Bool.rec (.n none .e (ih (i / 2 - 1))) (.n none (ih (i / 2)) .e) (Nat.beq (i % 2) 1)) (.n (some v) .e .e) (Nat.beq i 0)) f
noncomputable def T.setF {α : Type} (x : α) (t : T α) : Nat → T α := T.rec (fun i => T.singF x i i) (fun v l r ihl ihr i => Bool.rec (Bool.rec (.n v l (ihr (i / 2 - 1))) (.n v (ihl (i / 2)) r) (Nat.beq (i % 2) 1)) (.n (some x) l r) (Nat.beq i 0)) t
noncomputable def ob {α β : Type} (o : Option α) (k : α → Option β) : Option β := Option.rec none k o

abbrev CallT := Nat → Nat → List AV → St → Option (AV × St)
structure OA where
  f : T AV → Option AV
structure HA where
  f : CallT → Nat → Nat → Nat → T AV → St → Option (AV × St)
structure SA where
  f : CallT → Nat → Nat → Tm → St → Option (Tm × St)
structure CA where
  f : CallT → Nat → Nat → Tm → St → Option (Ex × Tm × St)
structure FA where
  f : CallT → Nat → Nat → List AV → St → Option (AV × St)

noncomputable def rhoA : Operand → OA
  | .tmp t => ⟨fun m => m.getF t⟩
  | .const v => ⟨fun _ => absV v⟩
  | .global _ => ⟨fun _ => none⟩
  | .func f => ⟨fun _ => some (.fn f [])⟩
noncomputable def kNo (k : IntKind) : Nat := IntKind.rec 0 1 2 3 4 5 6 7 k
/-- An integer operation with its operator known. -/
structure BA where
  f : IntKind → Int → Int → Option AV
def intA : BinOp → BA
  | .add => ⟨fun k a b => some (.int k (wr k (a + b)))⟩
  | .sub => ⟨fun k a b => some (.int k (wr k (a - b)))⟩
  | .mul => ⟨fun k a b => some (.int k (wr k (a * b)))⟩
  | .quo => ⟨fun k a b => bif eqB b 0 then none else some (.int k (wr k (a.tdiv b)))⟩
  | .rem => ⟨fun k a b => bif eqB b 0 then none else some (.int k (a.tmod b))⟩
  | .eql => ⟨fun _ a b => some (.bool (eqB a b))⟩
  | .neq => ⟨fun _ a b => some (.bool (!eqB a b))⟩
  | .lss => ⟨fun _ a b => some (.bool (ltB a b))⟩
  | .leq => ⟨fun _ a b => some (.bool (!ltB b a))⟩
  | .gtr => ⟨fun _ a b => some (.bool (ltB b a))⟩
  | .geq => ⟨fun _ a b => some (.bool (!ltB a b))⟩
  | op => ⟨fun k a b => intE op k a b⟩
def shB : BinOp → Bool
  | .shl | .shr => true
  | _ => false
noncomputable def getInt {β : Type} (v : AV) (k : IntKind → Int → Option β) (z : Option β) : Option β :=
  AV.casesOn v (fun _ => z) (fun i n => k i n) (fun _ => z) (fun _ => z) (fun _ _ _ _ => z) (fun _ _ _ _ => z) (fun _ _ => z) z (fun _ _ => z) z (fun _ => z) (fun _ => z)
noncomputable def binA (E : Env) (op : BinOp) (t : Nat) (cst : Bool) : AV → AV → Option AV :=
  match shB op with
  | true => fun a b => binE E op t cst a b
  | false => fun a b => getInt a (fun k x => getInt b (fun k' y => Bool.rec (binE E op t cst a b) ((intA op).f k x y) (Nat.beq (kNo k) (kNo k'))) (binE E op t cst a b)) (binE E op t cst a b)
noncomputable def getPtr {β : Type} (v : AV) (k : Nat → Nat → Option β) (z : Option β) : Option β :=
  AV.casesOn v (fun _ => z) (fun _ _ => z) (fun _ => z) (fun a => Option.casesOn a z (fun p => k p.1 p.2)) (fun _ _ _ _ => z) (fun _ _ _ _ => z) (fun _ _ => z) z (fun _ _ => z) z (fun _ => z) (fun _ => z)
noncomputable def getSl {β : Type} (v : AV) (k : Nat → Nat → Nat → Option β) (z : Option β) : Option β :=
  AV.casesOn v (fun _ => z) (fun _ _ => z) (fun _ => z) (fun _ => z) (fun a n _ _ => Option.casesOn a z (fun p => k p.1 p.2 n)) (fun _ _ _ _ => z) (fun _ _ => z) z (fun _ _ => z) z (fun _ => z) (fun _ => z)
noncomputable def getNat {β : Type} (v : AV) (k : Nat → Option β) (z : Option β) : Option β := getInt v (fun _ n => Int.casesOn n k (fun _ => z)) z
noncomputable def getBool {β : Type} (v : AV) (a b : Option β) : Option β :=
  AV.casesOn v (fun c => Bool.rec b a c) (fun _ _ => none) (fun _ => none) (fun _ => none) (fun _ _ _ _ => none) (fun _ _ _ _ => none) (fun _ _ => none) none (fun _ _ => none) none (fun _ => none) (fun _ => none)

structure IA where
  f : T AV → AV → Nat → Option AV   -- indexAddr with the slice and the index known
def idxA (E : Env) (t : Nat) : IA :=
  match E.tt.get t with
  | some ⟨.slice e, _, _, _⟩ => (match szE E e with
    | some z => ⟨fun _ a j => match a with
      | .slice (some (b, o)) n _ _ => bif Nat.blt j n then some (.ptr (some (b, o + j * z))) else none
      | _ => none⟩
    | none => ⟨fun _ _ _ => none⟩)
  | some ⟨.arr n e, _, _, _⟩ => (match szE E e with
    | some z => ⟨fun _ a j => match a with
      | .ptr (some (b, o)) => bif Nat.blt j n then some (.ptr (some (b, o + j * z))) else none
      | _ => none⟩
    | none => ⟨fun _ _ _ => none⟩)
  | _ => ⟨fun _ _ _ => none⟩
structure LA where
  f : St → Nat → Nat → Option AV
noncomputable def loadA (E : Env) (t : Nat) : LA :=
  match E.tt.get t with
  | some i => (match i.k.agg with
    | true => ⟨fun s b o => (cellsAt s.h b o i.size).map .agg⟩
    | false => ⟨fun s b o => ob (s.h.getF b) fun k => k.cells[o]?⟩)
  | none => ⟨fun _ _ _ => none⟩
noncomputable def opA (E : Env) (o : Op) : HA :=
  match o with
  | .move x | .assign x => ⟨fun _ _ _ _ m s => ob ((rhoA x).f m) fun v => some (v, s)⟩
  | .binOp op t x y _ => ⟨fun _ _ _ _ m s => ob ((rhoA x).f m) fun a => ob ((rhoA y).f m) fun b => ob (binA E op t (isConst x || isConst y) a b) fun v => some (v, s)⟩
  | .load t x => ⟨fun _ _ _ old m s => ob ((rhoA x).f m) fun a => getPtr a (fun b q => Bool.rec none (ob ((loadA E t).f s b q) fun v => some (v, s)) (Nat.blt b old)) none⟩
  | .indexAddr t x ix => ⟨fun _ _ _ _ m s => ob ((rhoA x).f m) fun a => ob ((rhoA ix).f m) fun j => getNat j (fun j => ob ((idxA E t).f m a j) fun v => some (v, s)) none⟩
  | o => ⟨fun call lc lo old m s => opE E call lc lo old m s o⟩
structure WA where
  f : T AV → Option Bool
noncomputable def wantA (all : List Oper) (o : Oper) : WA :=
  match o.guard with
  | none => ⟨fun _ => some true⟩
  | some (j, w) => (match (all[j]?).bind (·.dst) with
    | some d => ⟨fun m => ob (m.getF d) fun v => match v with | .bool b => some (b == w) | _ => some false⟩
    | none => ⟨fun _ => none⟩)
noncomputable def putA (m : Tm) (d : Option Nat) (v : AV) (k : Tm → Option (Tm × St)) : Option (Tm × St) :=
  Option.rec (k m) (fun d => Bool.rec none (k ⟨m.n, T.setF v m.t d⟩) (Nat.blt d m.n)) d
noncomputable def seqA (E : Env) (draw : Bool) (all : List Oper) (as : List Nat) (j : Nat) : List Oper → SA
  | [] => ⟨fun _ _ _ m s => some (m, s)⟩
  | o :: os => ⟨fun call lo c0 m s =>
      ob ((wantA all o).f m.t) fun w => Bool.rec
        (putA m o.dst (.tuple []) fun m' => (seqA E draw all as (j + 1) os).f call lo c0 m' s)
        (ob ((opA E o.op).f call (bif draw && !tightB E as j 0 all then s.c else lo) lo (bif draw && looseB E (as.getD j 0) 0 (all.take j) then c0 else s.c) m.t s) fun r =>
          Prod.rec (fun v s' => putA m o.dst v fun m' => (seqA E draw all as (j + 1) os).f call lo c0 m' s') r) w⟩
noncomputable def regA (E : Env) (draw : Bool) (ops : List Oper) : SA :=
  match draw with
  | true => (match drawB E ops (ancs [] ops) 0 ops && backB 0 ops with
    | true => ⟨fun call lo _ m s => (seqA E true ops (ancs [] ops) 0 ops).f call lo s.c m s⟩
    | false => ⟨fun _ _ _ _ _ => none⟩)
  | false => ⟨fun call lo _ m s => (seqA E false ops [] 0 ops).f call lo s.c m s⟩
noncomputable def iterA (f : Tm → St → Option (Ex × Tm × St)) (n : Nat) : Tm → St → Option (Ex × Tm × St) :=
  Nat.rec (fun _ _ => none) (fun _ ih m s => ob (f m s) fun r => Prod.rec (fun e p => Prod.rec (fun m' s' => Ex.rec (ih m' s') (fun i => some (.exit i, m', s')) (some (.ret, m', s')) e) p) r) n
noncomputable def codeA (E : Env) : Code → CA
  | .skip => ⟨fun _ _ _ m s => some (.nrm, m, s)⟩
  | .region _ ops draw => ⟨fun call _ lo m s => ob ((regA E draw ops.toList).f call lo 0 m s) fun r => Prod.rec (fun m' s' => some (.nrm, m', s')) r⟩
  | .seq a b => ⟨fun call n lo m s => ob ((codeA E a).f call n lo m s) fun r => Prod.rec (fun e p => Prod.rec (fun m' s' => Ex.rec ((codeA E b).f call n lo m' s') (fun i => some (.exit i, m', s')) (some (.ret, m', s')) e) p) r⟩
  | .cond c a b => ⟨fun call n lo m s => ob ((rhoA c).f m.t) fun v => getBool v ((codeA E a).f call n lo m s) ((codeA E b).f call n lo m s)⟩
  | .block id a => ⟨fun call n lo m s => ob ((codeA E a).f call n lo m s) fun r => Prod.rec (fun e p => Prod.rec (fun m' s' => Ex.rec (some (.nrm, m', s')) (fun i => Bool.rec (some (.exit i, m', s')) (some (.nrm, m', s')) (Nat.beq i id)) (some (.ret, m', s')) e) p) r⟩
  | .loop a => ⟨fun call n lo m s => iterA (fun m s => (codeA E a).f call n lo m s) n m s⟩
  | .exit id => ⟨fun _ _ _ m s => some (.exit id, m, s)⟩
  | .ret => ⟨fun _ _ _ m s => some (.ret, m, s)⟩
  | _ => ⟨fun _ _ _ _ _ => none⟩
noncomputable def funA (E : Env) (f : Nat) : FA :=
  match E.fns.get f with
  | some fn => (match fn.body with
    | some c => ⟨fun call n lo args s => ob ((codeA E c).f call n lo ⟨max args.length fn.ntmps, argsT 0 args⟩ s) fun r =>
        Prod.rec (fun e p => Prod.rec (fun m' s' =>
          (let z : Option (AV × St) := ob (ressE E m'.t s' fn.results.toList) fun
            | [v] => some (v, s')
            | vs => some (.tuple vs, s')
           Ex.rec z (fun _ => none) z e)) p) r⟩
    | none => ⟨fun _ _ _ _ _ => none⟩)
  | none => ⟨fun _ _ _ _ _ => none⟩
noncomputable def funF (E : Env) (n : Nat) : Nat → Nat → List AV → St → Option (AV × St) :=
  Nat.rec (fun _ _ _ _ => none) (fun n ih lo f args s => (funA E f).f ih n lo args s) n
end Go.Proofs.YtaocoplfdhcoaaaGreatDoor.Ev

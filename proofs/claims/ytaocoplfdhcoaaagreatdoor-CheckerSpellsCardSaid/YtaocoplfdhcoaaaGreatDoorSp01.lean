/- What the evaluator's values, types and pure operations say of the model's. -/
import Derived.Test.YtaocoplfdhcoaaaGreatDoorSp00
import Derived.Calls
import Derived.LoopN
import Derived.Orders
import Derived.Below
import Derived.Tactics
import Derived.ChangeKeysEq
import Derived.Laws.IdiomCopy
import Derived.Laws.Cells
import Derived.Laws.Entries
namespace Go.Proofs.YtaocoplfdhcoaaaGreatDoor.Ev
open Go

/-- Where a block of the evaluator's lies: its block, from which cell on, how many cells. -/
structure Loc where
  blk : Nat
  base : Nat
  ext : Nat
  spot : Option Nat
/-- Where an empty rest points to; q = 0: an empty slice that was handed in, wherever it points to. -/
def voidAt (l : Loc) (o d q : Nat) : Addr := match q with
  | 0 => ⟨l.blk, l.base + o, l.spot⟩
  | q + 1 => if (l.ext - o) / (q + 1) = d then ⟨l.blk, l.base + o, none⟩ else ⟨l.blk, l.base + (o + d * (q + 1)), none⟩

mutual
def conc (μ : Nat → Loc) : AV → Value
  | .bool b => .bool b
  | .int k n => .int k n
  | .str s => .string ⟨s.toArray⟩
  | .ptr none => .pointer none
  | .ptr (some (b, o)) => .pointer (some ⟨(μ b).blk, (μ b).base + o, none⟩)
  | .slice none l c _ => .slice none l c
  | .slice (some (b, o)) l c 0 => .slice (some ⟨(μ b).blk, (μ b).base + o, none⟩) l c
  | .slice (some (b, o)) l _ (q + 1) => .slice (some ⟨(μ b).blk, (μ b).base + o, none⟩) l (((μ b).ext - o) / (q + 1))
  | .void b o l q => .slice (some (voidAt (μ b) o l q)) 0 (((μ b).ext - o) / q - l)
  | .fn f cs => .func (.func f) #[] (concs μ cs).toArray
  | .nilFn => .nilFunc
  | .iface t v => .iface t (conc μ v)
  | .nilIface => .nilIface
  | .agg cs => .agg (concs μ cs).toArray
  | .tuple vs => .tuple (concs μ vs).toArray
def concs (μ : Nat → Loc) : List AV → List Value
  | [] => []
  | v :: vs => conc μ v :: concs μ vs
end
theorem concs_map (μ : Nat → Loc) (l : List AV) : concs μ l = l.map (conc μ) := by
  induction l with
  | nil => rw [concs]; rfl
  | cons v vs ih => rw [concs, ih]; rfl

mutual
/-- What a value leads to is in S; an open slice has at least the capacity that it tells. -/
def wf (S : Nat → Prop) (μ : Nat → Loc) : AV → Prop
  | .bool _ | .int _ _ | .str _ | .ptr none | .slice none _ _ _ | .nilFn | .nilIface => True
  | .ptr (some (b, _)) => S b
  | .slice (some (b, _)) _ _ 0 => S b
  | .slice (some (b, o)) _ c (q + 1) => S b ∧ c ≤ ((μ b).ext - o) / (q + 1)
  | .void b o l q => S b ∧ l ≤ ((μ b).ext - o) / q
  | .fn _ cs => wfs S μ cs
  | .iface _ v => wf S μ v
  | .agg cs => wfs S μ cs
  | .tuple vs => wfs S μ vs
def wfs (S : Nat → Prop) (μ : Nat → Loc) : List AV → Prop
  | [] => True
  | v :: vs => wf S μ v ∧ wfs S μ vs
end
theorem wfs_iff (S : Nat → Prop) (μ : Nat → Loc) (l : List AV) : wfs S μ l ↔ ∀ v ∈ l, wf S μ v := by
  induction l with
  | nil => rw [wfs]; simp
  | cons v vs ih => rw [wfs, ih]; simp

mutual
theorem conc_agree {S : Nat → Prop} {μ μ' : Nat → Loc} (h : ∀ b, S b → μ' b = μ b) : ∀ v, wf S μ v → conc μ' v = conc μ v
  | .bool _, _ => rfl
  | .int _ _, _ => rfl
  | .str _, _ => rfl
  | .ptr none, _ => rfl
  | .ptr (some (b, o)), hw => by rw [wf] at hw; simp only [conc, h b hw]
  | .slice none _ _ _, _ => rfl
  | .slice (some (b, o)) l c 0, hw => by rw [wf] at hw; simp only [conc, h b hw]
  | .slice (some (b, o)) l c (q + 1), hw => by rw [wf] at hw; simp only [conc, h b hw.1]
  | .void b o l q, hw => by rw [wf] at hw; simp only [conc, h b hw.1]
  | .fn f cs, hw => by rw [wf] at hw; simp only [conc, concs_agree h cs hw]
  | .nilFn, _ => rfl
  | .iface t v, hw => by rw [wf] at hw; simp only [conc, conc_agree h v hw]
  | .nilIface, _ => rfl
  | .agg cs, hw => by rw [wf] at hw; simp only [conc, concs_agree h cs hw]
  | .tuple cs, hw => by rw [wf] at hw; simp only [conc, concs_agree h cs hw]
theorem concs_agree {S : Nat → Prop} {μ μ' : Nat → Loc} (h : ∀ b, S b → μ' b = μ b) : ∀ l, wfs S μ l → concs μ' l = concs μ l
  | [], _ => rfl
  | v :: vs, hw => by rw [wfs] at hw; simp only [concs, conc_agree h v hw.1, concs_agree h vs hw.2]
end
mutual
theorem wf_agree {S S' : Nat → Prop} {μ μ' : Nat → Loc} (h : ∀ b, S b → μ' b = μ b) (hS : ∀ b, S b → S' b) : ∀ v, wf S μ v → wf S' μ' v
  | .bool _, _ => trivial
  | .int _ _, _ => trivial
  | .str _, _ => trivial
  | .ptr none, _ => trivial
  | .ptr (some (b, o)), hw => by rw [wf] at hw ⊢; exact hS b hw
  | .slice none _ _ _, _ => trivial
  | .slice (some (b, o)) l c 0, hw => by rw [wf] at hw ⊢; exact hS b hw
  | .slice (some (b, o)) l c (q + 1), hw => by rw [wf] at hw ⊢; rw [h b hw.1]; exact ⟨hS b hw.1, hw.2⟩
  | .void b o l q, hw => by rw [wf] at hw ⊢; rw [h b hw.1]; exact ⟨hS b hw.1, hw.2⟩
  | .fn f cs, hw => by rw [wf] at hw ⊢; exact wfs_agree h hS cs hw
  | .nilFn, _ => trivial
  | .iface t v, hw => by rw [wf] at hw ⊢; exact wf_agree h hS v hw
  | .nilIface, _ => trivial
  | .agg cs, hw => by rw [wf] at hw ⊢; exact wfs_agree h hS cs hw
  | .tuple cs, hw => by rw [wf] at hw ⊢; exact wfs_agree h hS cs hw
theorem wfs_agree {S S' : Nat → Prop} {μ μ' : Nat → Loc} (h : ∀ b, S b → μ' b = μ b) (hS : ∀ b, S b → S' b) : ∀ l, wfs S μ l → wfs S' μ' l
  | [], _ => trivial
  | v :: vs, hw => by rw [wfs] at hw ⊢; exact ⟨wf_agree h hS v hw.1, wfs_agree h hS vs hw.2⟩
end

/-! ### Small facts on numbers and texts -/
theorem blt_iff {a b : Nat} : Nat.blt a b = true ↔ a < b := by rw [Nat.blt_eq]
theorem ble_iff {a b : Nat} : Nat.ble a b = true ↔ a ≤ b := by rw [Nat.ble_eq]
theorem beq_iff {a b : Nat} : Nat.beq a b = true ↔ a = b := by rw [Nat.beq_eq]
theorem beq_self (a : Nat) : Nat.beq a a = true := beq_iff.2 rfl
theorem ltB_eq (a b : Int) : ltB a b = decide (a < b) := by
  cases a <;> cases b <;> simp only [ltB] <;> rw [Bool.eq_iff_iff]
  · rw [blt_iff]; simp
  · simp; omega
  · simp; omega
  · rw [blt_iff]; simp; omega
theorem eqB_eq (a b : Int) : eqB a b = (a == b) := by
  cases a <;> cases b <;> simp only [eqB] <;> rw [Bool.eq_iff_iff]
  · rw [beq_iff]; simp; omega
  · simp
  · simp
  · rw [beq_iff]; simp
theorem wrap_u (k : IntKind) (hk : k.signed = false) (n : Int) : k.wrap n = n % (2 ^ k.bits : Int) := by
  unfold IntKind.wrap
  rw [hk]
  simp
theorem wrap_s (k : IntKind) (hk : k.signed = true) (n : Int) (h0 : -(2 ^ (k.bits - 1) : Int) ≤ n) (h1 : n < (2 ^ (k.bits - 1) : Int)) (hb : (2 ^ k.bits : Int) = 2 * 2 ^ (k.bits - 1)) : k.wrap n = n := by
  unfold IntKind.wrap
  rw [hk, hb]
  generalize (2 ^ (k.bits - 1) : Int) = B at h0 h1
  simp only [Bool.true_and, decide_eq_true_eq]
  by_cases hn : 0 ≤ n
  · rw [Int.emod_eq_of_lt hn (by omega), if_neg (by omega)]
  · have : n % (2 * B) = n + 2 * B := by
      rw [← Int.add_emod_right, Int.emod_eq_of_lt (by omega) (by omega)]
    rw [this, if_pos (by omega)]
    omega
theorem i64_half : (2 ^ (IntKind.i64.bits - 1) : Int) = 9223372036854775808 := by rfl
theorem wrap_i64 (n : Int) (h0 : -9223372036854775808 ≤ n) (h1 : n < 9223372036854775808) : IntKind.i64.wrap n = n :=
  wrap_s .i64 rfl n (by rw [i64_half]; exact h0) (by rw [i64_half]; exact h1) rfl
theorem cond_keep (c : Bool) (n w : Int) (h : c = true → w = n) : (bif c then n else w) = w := by
  cases c with
  | true => exact (h rfl).symm
  | false => rfl
theorem cond_mod (c : Bool) (m B : Nat) (h : c = true → m < B) : (bif c then Int.ofNat m else Int.ofNat (m % B)) = Int.ofNat m % (B : Int) := by
  cases c with
  | true => simp only [cond_true, Int.ofNat_eq_natCast]; rw [← Int.natCast_emod, Nat.mod_eq_of_lt (h rfl)]
  | false => simp only [cond_false, Int.ofNat_eq_natCast, Int.natCast_emod]
theorem wr_eq (k : IntKind) (n : Int) : wr k n = k.wrap n := by
  unfold wr
  split
  · rename_i m
    refine cond_keep _ _ _ fun h => ?_
    have hm := ble_iff.1 h
    clear h
    exact wrap_i64 (Int.ofNat m) (by rw [Int.ofNat_eq_natCast]; omega) (by rw [Int.ofNat_eq_natCast]; omega)
  · rename_i m
    refine cond_keep _ _ _ fun h => ?_
    have hm := ble_iff.1 h
    clear h
    exact wrap_i64 (Int.negSucc m) (by rw [Int.negSucc_eq]; omega) (by rw [Int.negSucc_eq]; omega)
  · rename_i m
    rw [wrap_u .u64 rfl]
    refine cond_mod _ _ _ fun h => ?_
    have hm := ble_iff.1 h
    clear h
    omega
  · rename_i m
    rw [wrap_u .u32 rfl]
    refine cond_mod _ _ _ fun h => ?_
    have hm := ble_iff.1 h
    clear h
    omega
  · rename_i m
    rw [wrap_u .u8 rfl]
    refine cond_mod _ _ _ fun h => ?_
    have hm := ble_iff.1 h
    clear h
    omega
  · rfl
theorem toNat_inj {a b : UInt8} : a.toNat = b.toNat ↔ a = b := UInt8.toNat_inj
theorem eqL_eq : ∀ a b : List UInt8, eqL a b = (a == b)
  | [], [] => rfl
  | [], _ :: _ => rfl
  | _ :: _, [] => rfl
  | a :: x, b :: y => by
    rw [eqL, eqL_eq x y]
    cases h : Nat.beq a.toNat b.toNat with
    | true =>
      obtain rfl := toNat_inj.1 (beq_iff.1 h)
      simp
    | false =>
      have : a ≠ b := fun e => by subst e; rw [beq_self] at h; cases h
      simp [this]
theorem ltL_eq : ∀ a b : List UInt8, ltL a b = Op.bytesLess a b
  | [], [] => rfl
  | [], _ :: _ => rfl
  | _ :: _, [] => rfl
  | a :: x, b :: y => by
    rw [ltL, ltL_eq x y, Op.bytesLess]
    cases h : Nat.blt a.toNat b.toNat with
    | true =>
      have : a < b := UInt8.lt_iff_toNat_lt.2 (blt_iff.1 h)
      simp [this]
    | false =>
      have h1 : ¬ a < b := fun e => by have := blt_iff.2 (UInt8.lt_iff_toNat_lt.1 e); rw [h] at this; cases this
      cases h2 : Nat.beq a.toNat b.toNat with
      | true =>
        obtain rfl := toNat_inj.1 (beq_iff.1 h2)
        simp
      | false =>
        have : a ≠ b := fun e => by subst e; rw [beq_self] at h2; cases h2
        simp [h1, this]

/-! ### Values of the text -/
theorem absS_ok {v : Value} {a : AV} (h : absS v = some a) (S : Nat → Prop) (μ : Nat → Loc) : conc μ a = v ∧ wf S μ a ∧ a.one = true := by
  unfold absS at h
  split at h <;> first | (cases h; exact ⟨rfl, trivial, rfl⟩) | cases h
theorem absL_ok : ∀ {l : List Value} {as : List AV}, absL l = some as → ∀ (S : Nat → Prop) (μ : Nat → Loc), concs μ as = l ∧ wfs S μ as ∧ ones as = true
  | [], as, h, S, μ => by cases h; exact ⟨rfl, trivial, rfl⟩
  | v :: vs, as, h, S, μ => by
    rw [absL] at h
    obtain ⟨a, ha, h⟩ := Option.bind_eq_some_iff.1 h
    obtain ⟨bs, hb, rfl⟩ := Option.map_eq_some_iff.1 h
    obtain ⟨h1, h2, h3⟩ := absS_ok ha S μ
    obtain ⟨h4, h5, h6⟩ := absL_ok hb S μ
    exact ⟨by rw [concs, h1, h4], by rw [wfs]; exact ⟨h2, h5⟩, by rw [ones, h3, h6]; rfl⟩
theorem absV_ok {v : Value} {a : AV} (h : absV v = some a) (S : Nat → Prop) (μ : Nat → Loc) : conc μ a = v ∧ wf S μ a := by
  unfold absV at h
  split at h
  · obtain ⟨bs, hb, rfl⟩ := Option.map_eq_some_iff.1 h
    obtain ⟨h4, h5, _⟩ := absL_ok hb S μ
    exact ⟨by rw [conc, h4], by rw [wf]; exact h5⟩
  · obtain ⟨bs, hb, rfl⟩ := Option.map_eq_some_iff.1 h
    obtain ⟨h4, h5, _⟩ := absL_ok hb S μ
    exact ⟨by rw [conc, h4], by rw [wf]; exact h5⟩
  · exact ⟨(absS_ok h S μ).1, (absS_ok h S μ).2.1⟩
theorem cells_conc (μ : Nat → Loc) (v : AV) : (conc μ v).cells = (concs μ v.cells).toArray := by
  cases v with
  | agg cs => rw [conc, AV.cells]; rfl
  | ptr a => cases a <;> (simp only [conc, AV.cells, concs]; rfl)
  | slice a l c q => cases a <;> cases q <;> (simp only [conc, AV.cells, concs]; rfl)
  | _ => simp only [conc, AV.cells, concs]; rfl
theorem wfs_cells {S : Nat → Prop} {μ : Nat → Loc} {v : AV} (h : wf S μ v) : wfs S μ v.cells := by
  cases v <;> first | (rw [wf] at h; exact h) | exact ⟨h, trivial⟩
theorem one_conc {μ : Nat → Loc} {v : AV} (h : v.one = true) : (conc μ v).oneCell' = true := by
  cases v with
  | agg cs => cases h
  | tuple cs => cases h
  | ptr a => cases a <;> (simp only [conc]; rfl)
  | slice a l c q => cases a <;> cases q <;> (simp only [conc]; rfl)
  | _ => simp only [conc]; rfl

/-! ### Types -/
def KOk (P : Program) (t : Nat) : TK → Prop
  | .int k => P.underlying t = some (.int k)
  | .bool => P.underlying t = some .bool
  | .str => P.underlying t = some .string
  | .ptr e => P.underlying t = some (.pointer e)
  | .slice e => P.underlying t = some (.slice e)
  | .arr n e => P.underlying t = some (.array n e)
  | .struct fs => ∃ fields places, P.underlying t = some (.struct fields) ∧ fields.toList.map (fun f => (f.offset, f.type)) = fs ∧ fields.toList.mapM (fun f => (P.info? f.type).map fun i => (f.offset, i.size)) = some places
  | .iface => ∃ ms, P.underlying t = some (.interface ms)
  | .func => ∃ a b c, P.underlying t = some (.func a b c)
structure TOk (P : Program) (t : Nat) (i : TI) : Prop where
  k : KOk P t i.k
  info : ∃ x z, P.info? t = some x ∧ x.size = i.size ∧ x.bytes = i.bytes ∧ x.zero = some z ∧ absV z = some i.zero ∧ i.zero.cells.length = i.size ∧ ones i.zero.cells = true
def TTOk (P : Program) (tt : T TI) : Prop := ∀ t i, tt.get t = some i → TOk P t i
theorem agg_ok {P : Program} {t : Nat} {i : TI} (h : TOk P t i) (w : World) : (isAgg t).run P w = .ok i.k.agg w := by
  have hk := h.k
  cases hi : i.k <;> rw [hi] at hk <;> simp only [KOk] at hk
  case struct fs => obtain ⟨_, _, hk, _⟩ := hk; simp [isAgg, run_underlying hk, TK.agg]
  case iface => obtain ⟨_, hk⟩ := hk; simp [isAgg, run_underlying hk, TK.agg]
  case func => obtain ⟨_, _, _, hk⟩ := hk; simp [isAgg, run_underlying hk, TK.agg]
  all_goals simp [isAgg, run_underlying hk, TK.agg]
theorem size_ok {P : Program} {t : Nat} {i : TI} (h : TOk P t i) (w : World) : (sizeOf t).run P w = .ok i.size w := by
  obtain ⟨x, z, hx, hs, _⟩ := h.info
  simp [sizeOf, typeInfo, hx, hs]
theorem zero_ok {P : Program} {t : Nat} {i : TI} (h : TOk P t i) (μ : Nat → Loc) (w : World) : (zeroValue t).run P w = .ok (conc μ i.zero) w := by
  obtain ⟨x, z, hx, _, _, hz, ha, _⟩ := h.info
  rw [(absV_ok ha (fun _ => True) μ).1]
  simp [zeroValue, typeInfo, hx, hz]
theorem szE_ok {P : Program} {E : Env} (hT : TTOk P E.tt) {t z : Nat} (h : szE E t = some z) : ∃ i, TOk P t i ∧ i.size = z := by
  obtain ⟨i, hi, rfl⟩ := Option.map_eq_some_iff.1 h
  exact ⟨i, hT t i hi, rfl⟩

/-! ### Operands -/
def TR (S : Nat → Prop) (μ : Nat → Loc) (m : T AV) (a : Act) : Prop := ∀ t v, m.get t = some v → wf S μ v ∧ a.tmps[t]? = some (conc μ v)
section
variable {P : Program} {E : Env} {S : Nat → Prop} {μ : Nat → Loc} {m : T AV} {a : Act} {w : World}
theorem rho_ok (hT : TR S μ m a) {x : Operand} {v : AV} (h : rho m x = some v) : wf S μ v ∧ a.eval x = conc μ v := by
  cases x with
  | tmp t =>
    obtain ⟨h1, h2⟩ := hT t v h
    exact ⟨h1, by simp [Act.eval, Array.getD_eq_getD_getElem?, h2]⟩
  | const c => exact ⟨(absV_ok h S μ).2, (absV_ok h S μ).1.symm⟩
  | global g => cases h
  | func f => cases h; exact ⟨by simp [wf, wfs], by simp [Act.eval, conc, concs]⟩
theorem rhos_ok (hT : TR S μ m a) : ∀ {xs : List Operand} {vs : List AV}, rhos m xs = some vs → wfs S μ vs ∧ xs.map a.eval = concs μ vs
  | [], vs, h => by cases h; exact ⟨trivial, rfl⟩
  | x :: xs, vs, h => by
    rw [rhos] at h
    obtain ⟨v, hv, h⟩ := Option.bind_eq_some_iff.1 h
    obtain ⟨us, hu, rfl⟩ := Option.map_eq_some_iff.1 h
    obtain ⟨h1, h2⟩ := rho_ok hT hv
    obtain ⟨h3, h4⟩ := rhos_ok hT hu
    exact ⟨⟨h1, h3⟩, by rw [List.map_cons, h2, h4, concs]⟩
end
end Go.Proofs.YtaocoplfdhcoaaaGreatDoor.Ev

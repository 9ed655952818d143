/- An evaluator of the program's text over a small heap of its own: values, heap, operations, code, functions. What it tells is proved to hold of the model in EvS. -/
import GoSem.Core.Code
import GoSem.Core.Region
import GoSem.Core.View
import GoSem.Op.String
namespace Go.Proofs.YtaocoplfdhcoaaaGreatDoor.Ev
open Go

/-! ### Trees by number -/
inductive T (α : Type) where
  | e
  | n (v : Option α) (l r : T α)
namespace T
variable {α : Type}
def get : T α → Nat → Option α
  | .e, _ => none
  | .n v l r, i => bif Nat.beq i 0 then v else bif Nat.beq (i % 2) 1 then l.get (i / 2) else r.get (i / 2 - 1)
def sing : Nat → Nat → α → T α
  | 0, _, v => .n (some v) .e .e
  | f + 1, i, v => bif Nat.beq i 0 then .n (some v) .e .e else bif Nat.beq (i % 2) 1 then .n none (sing f (i / 2) v) .e else .n none .e (sing f (i / 2 - 1) v)
def set : T α → Nat → α → T α
  | .e, i, v => sing i i v
  | .n w l r, i, v => bif Nat.beq i 0 then .n (some v) l r else bif Nat.beq (i % 2) 1 then .n w (l.set (i / 2) v) r else .n w l (r.set (i / 2 - 1) v)
def del : T α → Nat → T α
  | .e, _ => .e
  | .n w l r, i => bif Nat.beq i 0 then .n none l r else bif Nat.beq (i % 2) 1 then .n w (l.del (i / 2)) r else .n w l (r.del (i / 2 - 1))
def ofList : List (Nat × α) → T α
  | [] => .e
  | p :: ps => (ofList ps).set p.1 p.2
theorem cbeq {β : Type} (a b : Nat) (x y : β) : (bif Nat.beq a b then x else y) = if a = b then x else y := by
  cases h : Nat.beq a b with
  | true => rw [if_pos (Nat.eq_of_beq_eq_true h)]; rfl
  | false => rw [if_neg (Nat.ne_of_beq_eq_false h)]; rfl
theorem get_e (i : Nat) : (T.e : T α).get i = none := rfl
theorem get_n (v : Option α) (l r : T α) (i : Nat) : (T.n v l r).get i = if i = 0 then v else if i % 2 = 1 then l.get (i / 2) else r.get (i / 2 - 1) := by
  rw [get, cbeq, cbeq]
theorem get_sing : ∀ (f i : Nat) (v : α), i ≤ f → ∀ j, (sing f i v).get j = if i = j then some v else none := by
  intro f
  induction f with
  | zero =>
    intro i v hi j
    obtain rfl : i = 0 := by omega
    rw [sing, get_n]
    simp only [get_e, ite_self]
    by_cases hj : j = 0
    · rw [if_pos hj, if_pos hj.symm]
    · rw [if_neg hj, if_neg (by omega)]
  | succ f ih =>
    intro i v hi j
    rw [sing, cbeq, cbeq]
    by_cases h0 : i = 0
    · rw [if_pos h0, get_n]
      simp only [get_e, ite_self]
      by_cases hj : j = 0
      · rw [if_pos hj, if_pos (by omega)]
      · rw [if_neg hj, if_neg (by omega)]
    · rw [if_neg h0]
      by_cases h1 : i % 2 = 1
      · rw [if_pos h1, get_n, ih _ _ (by omega)]
        by_cases hj : j = 0
        · rw [if_pos hj, if_neg (by omega)]
        · rw [if_neg hj]
          by_cases hj1 : j % 2 = 1
          · rw [if_pos hj1]
            by_cases e : i = j
            · rw [if_pos e, if_pos (by omega)]
            · rw [if_neg e, if_neg (by omega)]
          · rw [if_neg hj1, if_neg (by omega)]; rfl
      · rw [if_neg h1, get_n, ih _ _ (by omega)]
        by_cases hj : j = 0
        · rw [if_pos hj, if_neg (by omega)]
        · rw [if_neg hj]
          by_cases hj1 : j % 2 = 1
          · rw [if_pos hj1, if_neg (by omega)]; rfl
          · rw [if_neg hj1]
            by_cases e : i = j
            · rw [if_pos e, if_pos (by omega)]
            · rw [if_neg e, if_neg (by omega)]
theorem get_set : ∀ (t : T α) (i : Nat) (v : α) (j : Nat), (t.set i v).get j = if i = j then some v else t.get j := by
  intro t
  induction t with
  | e => intro i v j; rw [set, get_sing i i v (Nat.le_refl _)]; rfl
  | n w l r ihl ihr =>
    intro i v j
    rw [set, cbeq, cbeq, get_n w]
    by_cases h0 : i = 0
    · rw [if_pos h0, get_n]
      by_cases hj : j = 0
      · rw [if_pos hj, if_pos (by omega)]
      · rw [if_neg hj, if_neg (show ¬ i = j by omega), if_neg hj]
    · rw [if_neg h0]
      by_cases h1 : i % 2 = 1
      · rw [if_pos h1, get_n, ihl]
        by_cases hj : j = 0
        · rw [if_pos hj, if_neg (by omega), if_pos hj]
        · rw [if_neg hj, if_neg hj]
          by_cases hj1 : j % 2 = 1
          · rw [if_pos hj1, if_pos hj1]
            by_cases e : i = j
            · rw [if_pos e, if_pos (by omega)]
            · rw [if_neg e, if_neg (by omega)]
          · rw [if_neg hj1, if_neg (by omega), if_neg hj1]
      · rw [if_neg h1, get_n, ihr]
        by_cases hj : j = 0
        · rw [if_pos hj, if_neg (by omega), if_pos hj]
        · rw [if_neg hj, if_neg hj]
          by_cases hj1 : j % 2 = 1
          · rw [if_pos hj1, if_neg (by omega), if_pos hj1]
          · rw [if_neg hj1, if_neg hj1]
            by_cases e : i = j
            · rw [if_pos e, if_pos (by omega)]
            · rw [if_neg e, if_neg (by omega)]
theorem get_del : ∀ (t : T α) (i j : Nat), (t.del i).get j = if i = j then none else t.get j := by
  intro t
  induction t with
  | e => intro i j; rw [del]; simp [get_e]
  | n w l r ihl ihr =>
    intro i j
    rw [del, cbeq, cbeq, get_n w]
    by_cases h0 : i = 0
    · rw [if_pos h0, get_n]
      by_cases hj : j = 0
      · rw [if_pos hj, if_pos (by omega)]
      · rw [if_neg hj, if_neg (show ¬ i = j by omega), if_neg hj]
    · rw [if_neg h0]
      by_cases h1 : i % 2 = 1
      · rw [if_pos h1, get_n, ihl]
        by_cases hj : j = 0
        · rw [if_pos hj, if_neg (by omega), if_pos hj]
        · rw [if_neg hj, if_neg hj]
          by_cases hj1 : j % 2 = 1
          · rw [if_pos hj1, if_pos hj1]
            by_cases e : i = j
            · rw [if_pos e, if_pos (by omega)]
            · rw [if_neg e, if_neg (by omega)]
          · rw [if_neg hj1, if_neg (by omega), if_neg hj1]
      · rw [if_neg h1, get_n, ihr]
        by_cases hj : j = 0
        · rw [if_pos hj, if_neg (by omega), if_pos hj]
        · rw [if_neg hj, if_neg hj]
          by_cases hj1 : j % 2 = 1
          · rw [if_pos hj1, if_neg (by omega), if_pos hj1]
          · rw [if_neg hj1, if_neg hj1]
            by_cases e : i = j
            · rw [if_pos e, if_pos (by omega)]
            · rw [if_neg e, if_neg (by omega)]
theorem get_ofList {l : List (Nat × α)} {i : Nat} {v : α} (h : (ofList l).get i = some v) : (i, v) ∈ l := by
  induction l with
  | nil => simp [ofList, get] at h
  | cons p ps ih =>
    unfold ofList at h
    rw [get_set] at h
    split at h
    · rename_i he
      simp only [Option.some.injEq] at h
      subst he h
      exact List.mem_cons_self
    · exact List.mem_cons_of_mem _ (ih h)
end T

/-! ### Values, types, heap -/
/-- A value: addresses by the evaluator's own block numbers. A slice's capacity: told (op = 0), or at least that, as far as its block goes (op: the size of an element). 'void b o l op': what is left of an open slice behind its l first elements, where nothing is left. -/
inductive AV where
  | bool (b : Bool)
  | int (k : IntKind) (n : Int)
  | str (s : List UInt8)
  | ptr (a : Option (Nat × Nat))
  | slice (a : Option (Nat × Nat)) (len cap op : Nat)
  | void (b o l op : Nat)
  | fn (f : Nat) (cs : List AV)
  | nilFn
  | iface (t : Nat) (v : AV)
  | nilIface
  | agg (cs : List AV)
  | tuple (vs : List AV)
instance : Inhabited AV := ⟨.nilFn⟩
def AV.cells : AV → List AV
  | .agg cs => cs
  | v => [v]
def AV.one : AV → Bool
  | .agg _ | .tuple _ => false
  | _ => true

inductive TK where
  | int (k : IntKind)
  | bool
  | str
  | ptr (e : Nat)
  | slice (e : Nat)
  | arr (n e : Nat)
  | struct (fs : List (Nat × Nat))
  | iface
  | func
def TK.agg : TK → Bool
  | .arr .. | .struct _ => true
  | _ => false
structure TI where
  k : TK
  size : Nat
  bytes : Nat
  zero : AV

structure Blk where
  ty : Nat
  cells : List AV
structure St where
  h : T Blk
  c : Nat
structure Env where
  tt : T TI
  fns : T Func
  ext : T (List AV → Option AV)
structure Tm where
  n : Nat
  t : T AV

def wr (k : IntKind) (n : Int) : Int :=
  match k, n with
  | .i64, .ofNat m => bif Nat.ble m 9223372036854775807 then n else k.wrap n
  | .i64, .negSucc m => bif Nat.ble m 9223372036854775807 then n else k.wrap n
  | .u64, .ofNat m => bif Nat.ble m 18446744073709551615 then n else .ofNat (m % 18446744073709551616)
  | .u32, .ofNat m => bif Nat.ble m 4294967295 then n else .ofNat (m % 4294967296)
  | .u8, .ofNat m => bif Nat.ble m 255 then n else .ofNat (m % 256)
  | _, _ => k.wrap n
def ltB : Int → Int → Bool
  | .ofNat a, .ofNat b => Nat.blt a b
  | .negSucc _, .ofNat _ => true
  | .ofNat _, .negSucc _ => false
  | .negSucc a, .negSucc b => Nat.blt b a
def eqB : Int → Int → Bool
  | .ofNat a, .ofNat b => Nat.beq a b
  | .negSucc a, .negSucc b => Nat.beq a b
  | _, _ => false
def eqL : List UInt8 → List UInt8 → Bool
  | [], [] => true
  | a :: x, b :: y => bif Nat.beq a.toNat b.toNat then eqL x y else false
  | _, _ => false
def ltL : List UInt8 → List UInt8 → Bool
  | _, [] => false
  | [], _ :: _ => true
  | a :: x, b :: y => bif Nat.blt a.toNat b.toNat then true else bif Nat.beq a.toNat b.toNat then ltL x y else false

def absS : Value → Option AV
  | .bool b => some (.bool b)
  | .int k n => some (.int k n)
  | .string s => some (.str s.data.toList)
  | .pointer none => some (.ptr none)
  | .slice none 0 0 => some (.slice none 0 0 0)
  | .nilFunc => some .nilFn
  | .nilIface => some .nilIface
  | _ => none
def absL : List Value → Option (List AV)
  | [] => some []
  | v :: vs => (absS v).bind fun a => (absL vs).map (a :: ·)
def absV : Value → Option AV
  | .agg cs => (absL cs.toList).map .agg
  | .tuple vs => (absL vs.toList).map .tuple
  | v => absS v

def rho (m : T AV) : Operand → Option AV
  | .tmp t => m.get t
  | .const v => absV v
  | .global _ => none
  | .func f => some (.fn f [])
def rhos (m : T AV) : List Operand → Option (List AV)
  | [] => some []
  | x :: xs => (rho m x).bind fun a => (rhos m xs).map (a :: ·)

/-! ### Pure operations -/
def intE (op : BinOp) (k : IntKind) (a b : Int) : Option AV :=
  match op with
  | .add => some (.int k (wr k (a + b)))
  | .sub => some (.int k (wr k (a - b)))
  | .mul => some (.int k (wr k (a * b)))
  | .quo => bif eqB b 0 then none else some (.int k (wr k (a.tdiv b)))
  | .rem => bif eqB b 0 then none else some (.int k (a.tmod b))
  | .and => some (.int k (k.wrap (BitVec.ofInt k.bits a &&& BitVec.ofInt k.bits b).toNat))
  | .or => some (.int k (k.wrap (BitVec.ofInt k.bits a ||| BitVec.ofInt k.bits b).toNat))
  | .xor => some (.int k (k.wrap (BitVec.ofInt k.bits a ^^^ BitVec.ofInt k.bits b).toNat))
  | .andNot => some (.int k (k.wrap (BitVec.ofInt k.bits a &&& ~~~BitVec.ofInt k.bits b).toNat))
  | .eql => some (.bool (eqB a b))
  | .neq => some (.bool (!eqB a b))
  | .lss => some (.bool (ltB a b))
  | .leq => some (.bool (!ltB b a))
  | .gtr => some (.bool (ltB b a))
  | .geq => some (.bool (!ltB a b))
  | _ => none
def strE (op : BinOp) (a b : List UInt8) : Option AV :=
  match op with
  | .add => bif Nat.ble (a.length + b.length) 4611686018427387904 then some (.str (a ++ b)) else none
  | .eql => some (.bool (eqL a b))
  | .neq => some (.bool (!eqL a b))
  | .lss => some (.bool (ltL a b))
  | .leq => some (.bool (ltL a b || eqL a b))
  | .gtr => some (.bool (!(ltL a b || eqL a b)))
  | .geq => some (.bool (!ltL a b))
  | _ => none
def eqK (k : TK) (x y : AV) : Option Bool :=
  match k, x, y with
  | .bool, .bool a, .bool b => some (a == b)
  | .ptr _, .ptr none, .ptr b => some b.isNone
  | .ptr _, .ptr (some _), .ptr none => some false
  | .iface, .nilIface, .nilIface => some true
  | .iface, .nilIface, .iface _ _ => some false
  | .iface, .iface _ _, .nilIface => some false
  | .slice _, .slice none _ _ _, .slice b _ _ _ => some b.isNone
  | .slice _, .slice (some _) _ _ _, .slice none _ _ _ => some false
  | .slice _, .void _ _ _ _, .slice none _ _ _ => some false
  | .slice _, .slice none _ _ _, .void _ _ _ _ => some false
  | .func, .nilFn, .nilFn => some true
  | .func, .nilFn, .fn _ _ => some false
  | .func, .fn _ _, .nilFn => some false
  | _, _, _ => none
def nilB : AV → Bool
  | .nilIface => true
  | _ => false
def isConst : Operand → Bool
  | .const _ => true
  | _ => false
def binE (E : Env) (op : BinOp) (t : Nat) (cst : Bool) (x y : AV) : Option AV :=
  match op, x, y with
  | .shl, .int k a, .int _ b => bif ltB b 0 then none else some (.int k (wr k (a * Int.ofNat (2 ^ min b.toNat k.bits))))
  | .shr, .int k a, .int _ b => bif ltB b 0 then none else some (.int k (a.fdiv (Int.ofNat (2 ^ min b.toNat k.bits))))
  | op, .int k a, .int k' b => if k = k' then intE op k a b else none
  | op, .str a, .str b => strE op a b
  | .eql, x, y => (E.tt.get t).bind fun i => bif cst || !nilB x then (eqK i.k x y).map .bool else none
  | .neq, x, y => (E.tt.get t).bind fun i => bif cst || !nilB x then (eqK i.k x y).map fun b => .bool (!b) else none
  | _, _, _ => none
def unE (op : UnOp) (x : AV) : Option AV :=
  match op, x with
  | .neg, .int k n => some (.int k (wr k (0 - n)))
  | .xor, .int k n => some (.int k (k.wrap (BitVec.ofInt k.bits (if k.signed then -1 else k.max) ^^^ BitVec.ofInt k.bits n).toNat))
  | .not, .bool b => some (.bool !b)
  | _, _ => none
def putL (cs : List AV) (off : Nat) (vs : List AV) : List AV := cs.take off ++ (vs ++ cs.drop (off + vs.length))
def fillE (E : Env) (m : T AV) (place : Nat → Option (Nat × Nat)) (cells : List AV) : List (Nat × Operand) → Option (List AV)
  | [] => some cells
  | (i, x) :: rest =>
    (place i).bind fun p => (rho m x).bind fun v =>
      bif Nat.beq v.cells.length p.2 && Nat.ble (p.1 + v.cells.length) cells.length then fillE E m place (putL cells p.1 v.cells) rest else none
def szE (E : Env) (t : Nat) : Option Nat := (E.tt.get t).map (·.size)
def natE : AV → Option Nat
  | .int _ (.ofNat n) => some n
  | _ => none
def boundE (d : Nat) : Option AV → Option Nat
  | none => some d
  | some v => natE v
def zeroE : Option AV → Bool
  | some (.int _ (.ofNat 0)) => true
  | _ => false
def sliceE (esz : Nat) (x : AV) (lo hi mx : Option AV) : Option AV :=
  match x with
  | .str s => (boundE 0 lo).bind fun l => (boundE s.length hi).bind fun h => bif Nat.ble l h && Nat.ble h s.length && mx.isNone then some (.str ((s.drop l).take (h - l))) else none
  | .slice a len c 0 => (boundE c mx).bind fun m => (boundE len hi).bind fun h => (boundE 0 lo).bind fun l =>
      bif Nat.ble l h && Nat.ble h m && Nat.ble m c && (mx.isNone || hi.isSome) then some (.slice (bif Nat.beq m l then a else a.map fun p => (p.1, p.2 + l * esz)) (h - l) (m - l) 0) else none
  | .slice (some (b, o)) len k (q + 1) => (boundE len hi).bind fun h => (boundE 0 lo).bind fun l => bif Nat.beq (q + 1) esz then
      match mx with
      | none => bif Nat.ble l h && Nat.ble h k then
          some (bif Nat.beq l 0 then .slice (some (b, o)) h k (q + 1) else bif Nat.blt l h then .slice (some (b, o + l * esz)) (h - l) (k - l) (q + 1) else .void b o l (q + 1)) else none
      | some v => (natE v).bind fun m => bif Nat.ble l h && Nat.ble h m && Nat.ble m k && hi.isSome then some (.slice (some (b, bif Nat.beq m l then o else o + l * esz)) (h - l) (m - l) 0) else none
      else none
  | .void b o d q => (boundE 0 hi).bind fun h => (boundE 0 lo).bind fun l => bif Nat.beq h 0 && Nat.beq l 0 && (mx.isNone || (Nat.beq q 0 && hi.isSome && zeroE mx)) then some (.void b o d q) else none
  | _ => none
def partE (E : Env) (t : Nat) (cs : List AV) (off : Nat) : Option AV :=
  (E.tt.get t).bind fun i => bif i.k.agg then (bif Nat.ble (off + i.size) cs.length then some (.agg ((cs.drop off).take i.size)) else none) else cs[off]?
def capE (k : TK) (v : AV) : Option Nat :=
  match k, v with
  | .slice _, .slice _ _ c 0 => some c
  | _, _ => none
def lenE (k : TK) (x : AV) : Option Nat :=
  match k, x with
  | .str, .str s => some s.length
  | .arr n _, _ => some n
  | .slice _, .slice _ n _ _ => some n
  | .slice _, .void _ _ _ _ => some 0
  | _, _ => none
def mxE : List AV → Option AV
  | [.int k a, .int _ b] => some (.int k (bif ltB a b then b else a))
  | _ => none
def mnE : List AV → Option AV
  | [.int k a, .int _ b] => some (.int k (bif ltB b a then b else a))
  | _ => none

/-- What reads and writes no memory. -/
def pureE (E : Env) (m : T AV) : Op → Option AV
  | .move x => rho m x
  | .assign x => rho m x
  | .pick c a b => (rho m c).bind fun
    | .bool true => rho m a
    | .bool false => rho m b
    | _ => none
  | .build t parts => (E.tt.get t).bind fun i =>
    match i.k with
    | .struct fs => (fillE E m (fun j => (fs[j]?).bind fun f => (szE E f.2).map fun z => (f.1, z)) i.zero.cells parts.toList).map .agg
    | .arr _ e => (szE E e).bind fun z => (fillE E m (fun j => some (j * z, z)) i.zero.cells parts.toList).map .agg
    | _ => none
  | .nilCheck x => (rho m x).bind fun
    | .ptr (some p) => some (.ptr (some p))
    | .fn f cs => some (.fn f cs)
    | .iface t v => some (.iface t v)
    | _ => none
  | .binOp op t x y _ => (rho m x).bind fun a => (rho m y).bind fun b => binE E op t (isConst x || isConst y) a b
  | .unOp op _ x => (rho m x).bind (unE op)
  | .convert src dst x => (E.tt.get src).bind fun s => (E.tt.get dst).bind fun d => (rho m x).bind fun a =>
    match s.k, d.k, a with
    | .int _, .int k, .int _ n => some (.int k (wr k n))
    | .str, .str, .str l => some (.str l)
    | _, _, _ => none
  | .makeInterface t x => (E.tt.get t).bind fun i => match i.k with
    | .iface => none
    | _ => (rho m x).map (.iface t ·)
  | .makeFunc fn first captured => match fn, first.toList with
    | .func f, [] => (rhos m captured.toList).map (.fn f ·)
    | _, _ => none
  | .slice t x lo hi mx => (E.tt.get t).bind fun i => (rho m x).bind fun a =>
    let go (o : Option Operand) : Option (Option AV) := match o with | none => some none | some y => (rho m y).map some
    (go lo).bind fun l => (go hi).bind fun h => (go mx).bind fun x2 =>
    match i.k, a with
    | .str, .str s => sliceE 1 (.str s) l h x2
    | .slice e, .slice p n c w => (szE E e).bind fun z => sliceE z (.slice p n c w) l h x2
    | .slice e, .void b o d q => (szE E e).bind fun z => sliceE z (.void b o d q) l h x2
    | .arr n e, .ptr (some p) => (szE E e).bind fun z => sliceE z (.slice (some p) n n 0) l h x2
    | _, _ => none
  | .fieldAddr t x f => (E.tt.get t).bind fun i => (rho m x).bind fun a =>
    match i.k, a with
    | .struct fs, .ptr (some (b, o)) => (fs[f]?).bind fun g => (szE E g.2).bind fun z => bif Nat.beq z 0 then none else some (.ptr (some (b, o + g.1)))
    | _, _ => none
  | .field t x f => (E.tt.get t).bind fun i => (rho m x).bind fun a =>
    match i.k, a with
    | .struct fs, .agg cs => (fs[f]?).bind fun g => partE E g.2 cs g.1
    | _, _ => none
  | .indexAddr t x ix => (E.tt.get t).bind fun i => (rho m x).bind fun a => (rho m ix).bind fun jv => (natE jv).bind fun j =>
    match i.k, a with
    | .slice e, .slice (some (b, o)) n _ _ => (szE E e).bind fun z => bif Nat.blt j n then some (.ptr (some (b, o + j * z))) else none
    | .arr n e, .ptr (some (b, o)) => (szE E e).bind fun z => bif Nat.blt j n then some (.ptr (some (b, o + j * z))) else none
    | _, _ => none
  | .index t x ix => (E.tt.get t).bind fun i => (rho m x).bind fun a => (rho m ix).bind fun jv => (natE jv).bind fun j =>
    match i.k, a with
    | .str, .str s => (s[j]?).map fun u => .int .u8 u.toNat
    | .arr n e, .agg cs => (szE E e).bind fun z => bif Nat.blt j n then partE E e cs (j * z) else none
    | _, _ => none
  | .extract x j => (rho m x).bind fun
    | .tuple vs => vs[j]?
    | _ => none
  | .call c => match c.callee with
    | .builtin .len => (c.argTypes[0]?).bind fun t => (E.tt.get t).bind fun i => (rhos m c.args.toList).bind fun
      | [x] => (lenE i.k x).map fun n => .int .i64 (Int.ofNat n)
      | _ => none
    | .builtin .cap => (c.argTypes[0]?).bind fun t => (E.tt.get t).bind fun i => (rhos m c.args.toList).bind fun
      | [x] => (capE i.k x).map fun n => .int .i64 (Int.ofNat n)
      | _ => none
    | .builtin .max => (rhos m c.args.toList).bind mxE
    | .builtin .min => (rhos m c.args.toList).bind mnE
    | _ => none
  | _ => none

/-! ### Operations over the heap -/
def cellsAt (h : T Blk) (b o n : Nat) : Option (List AV) :=
  (h.get b).bind fun k => bif Nat.ble (o + n) k.cells.length then some ((k.cells.drop o).take n) else none
def ones : List AV → Bool
  | [] => true
  | v :: vs => v.one && ones vs
/-- Cells of a block that may be written. -/
def putAt (lo : Nat) (s : St) (b o : Nat) (vs : List AV) : Option St :=
  (s.h.get b).bind fun k => bif Nat.ble lo b && Nat.ble (o + vs.length) k.cells.length && ones vs then some ⟨s.h.set b ⟨k.ty, putL k.cells o vs⟩, s.c⟩ else none
def newAt (s : St) (ty : Nat) (cells : List AV) : Option St := bif ones cells then some ⟨s.h.set s.c ⟨ty, cells⟩, s.c + 1⟩ else none
def reps (n : Nat) (z : List AV) : List AV := match n with
  | 0 => []
  | n + 1 => z ++ reps n z
def loadE (E : Env) (s : St) (t : Nat) : AV → Option AV
  | .ptr (some (b, o)) => (E.tt.get t).bind fun i => bif i.k.agg then (cellsAt s.h b o i.size).map .agg else (s.h.get b).bind fun k => k.cells[o]?
  | _ => none
/-- What stands in a slice's (a string's) first n elements. -/
def takeE (h : T Blk) (esz n : Nat) : AV → Option (List AV)
  | .str l => bif Nat.beq esz 1 && Nat.ble n l.length then some ((l.take n).map fun u => .int .u8 (Int.ofNat u.toNat)) else none
  | .slice none _ _ _ => bif Nat.beq n 0 then some [] else none
  | .slice (some (b, o)) _ _ _ => bif Nat.beq n 0 then some [] else cellsAt h b o (n * esz)
  | .void _ _ _ _ => bif Nat.beq n 0 then some [] else none
  | _ => none
def lenOfE : AV → Option Nat
  | .str l => some l.length
  | .slice _ n _ _ => some n
  | .void _ _ _ _ => some 0
  | _ => none
def lenSE : AV → Option Nat
  | .slice _ n _ _ => some n
  | .void _ _ _ _ => some 0
  | _ => none
def growE (s : St) (e esz len n : Nat) (old new : List AV) : Option (AV × St) :=
  (newAt s e (old ++ new)).map fun s' => (.slice (some (s.c, 0)) (len + n) (len + n) esz, s')
def tyB (h : T Blk) (b e : Nat) : Bool := match h.get b with
  | some k => Nat.beq k.ty e
  | none => false
def appE (lo : Nat) (s : St) (e esz bytes n : Nat) (new : List AV) (x : AV) : Option (AV × St) :=
  match x with
  | .slice none 0 0 0 => bif Nat.beq n 0 then some (x, s) else bif Nat.ble (n * bytes) 70368744177664 && Nat.ble n 70368744177664 then growE s e esz 0 n [] new else none
  | .void _ _ _ 0 => bif Nat.beq n 0 then some (x, s) else bif Nat.ble (n * bytes) 70368744177664 && Nat.ble n 70368744177664 then growE s e esz 0 n [] new else none
  | .slice (some (b, o)) len c op =>
    bif Nat.beq n 0 then bif Nat.ble len c then some (x, s) else none else bif Nat.ble ((len + n) * bytes) 70368744177664 && Nat.ble (len + n) 70368744177664 then
      bif Nat.ble (len + n) c then (putAt lo s b (o + len * esz) new).map fun s' => (.slice (some (b, o)) (len + n) c op, s')
      else bif Nat.beq op 0 then (takeE s.h esz len x).bind fun old => growE s e esz len n old new
      else bif Nat.beq op esz && Nat.ble lo b && tyB s.h b e then (cellsAt s.h b o (len * esz)).bind fun old => growE ⟨s.h.del b, s.c⟩ e esz len n old new else none
    else none
  | _ => none
def bytesE : List AV → Option (List UInt8)
  | [] => some []
  | .int .u8 (.ofNat n) :: vs => (bytesE vs).map (UInt8.ofNat n :: ·)
  | _ :: _ => none

/-- What reads or writes memory, but for calls of functions. -/
def heapE (E : Env) (lo : Nat) (m : T AV) (s : St) : Op → Option (AV × St)
  | .load t x => (rho m x).bind fun a => (loadE E s t a).map (·, s)
  | .store t x y => (rho m x).bind fun a => (rho m y).bind fun v => (szE E t).bind fun z =>
    match a with
    | .ptr (some (b, o)) => bif Nat.beq v.cells.length z then (putAt lo s b o v.cells).map (.tuple [], ·) else none
    | _ => none
  | .box t x => (rho m x).bind fun v => (newAt s t v.cells).map (.ptr (some (s.c, 0)), ·)
  | .alloc t => (E.tt.get t).bind fun i => (newAt s t i.zero.cells).map (.ptr (some (s.c, 0)), ·)
  | .buildSlice t n parts => (E.tt.get t).bind fun i =>
    match i.k with
    | .slice e => (E.tt.get e).bind fun j => bif Nat.ble (n * j.size) 16777216 then
        (fillE E m (fun q => some (q * j.size, j.size)) (reps n j.zero.cells) parts.toList).bind fun cs => (newAt s e cs).map (.slice (some (s.c, 0)) n n 0, ·) else none
    | _ => none
  | .makeSlice t x y => (E.tt.get t).bind fun i => (rho m x).bind fun a => (rho m y).bind fun b => (natE a).bind fun l => (natE b).bind fun c =>
    match i.k with
    | .slice e => (E.tt.get e).bind fun j => bif Nat.ble l c && Nat.ble (c * j.bytes) 70368744177664 && Nat.ble c 70368744177664 then
        (newAt s e (reps c j.zero.cells)).map (.slice (some (s.c, 0)) l c 0, ·) else none
    | _ => none
  | .convert src dst x => (E.tt.get src).bind fun p => (E.tt.get dst).bind fun d => (rho m x).bind fun a =>
    match p.k, d.k with
    | .slice e, .str => (E.tt.get e).bind fun i => match i.k with
      | .int .u8 => match a with
        | .slice q n c w => (takeE s.h 1 n (.slice q n c w)).bind fun cs => (bytesE cs).map fun l => (.str l, s)
        | .void _ _ _ _ => some (.str [], s)
        | _ => none
      | _ => none
    | .str, .slice e => (E.tt.get e).bind fun i => match i.k, a with
      | .int .u8, .str l => (newAt s e (l.map fun u => .int .u8 (Int.ofNat u.toNat))).map (.slice (some (s.c, 0)) l.length l.length 1, ·)
      | _, _ => none
    | _, _ => none
  | .call c => match c.callee with
    | .builtin .append => (c.argTypes[0]?).bind fun t => (c.argTypes[1]?).bind fun t1 => (E.tt.get t).bind fun i => (E.tt.get t1).bind fun i1 => (rhos m c.args.toList).bind fun
      | [x, y] => match i.k with
        | .slice e => (E.tt.get e).bind fun j => bif Nat.beq j.size 0 then none else
          match i1.k with
          | .int _ => (natE y).bind fun n => appE lo s e j.size j.bytes n (reps n j.zero.cells) x
          | _ => (lenOfE y).bind fun n => (takeE s.h j.size n y).bind fun new => appE lo s e j.size j.bytes n new x
        | _ => none
      | _ => none
    | .builtin .copy => (c.argTypes[0]?).bind fun t => (E.tt.get t).bind fun i => (rhos m c.args.toList).bind fun
      | [x, y] => match i.k with
        | .slice e => (szE E e).bind fun z => (lenSE x).bind fun d => (lenOfE y).bind fun k =>
          let n := min k d
          bif Nat.beq n 0 then some (.int .i64 0, s) else
          (takeE s.h z n y).bind fun cs => match x with
          | .slice (some (b, o)) _ _ _ => (putAt lo s b o cs).map (.int .i64 (Int.ofNat n), ·)
          | _ => none
        | _ => none
      | _ => none
    | .builtin .clear => (c.argTypes[0]?).bind fun t => (E.tt.get t).bind fun i => (rhos m c.args.toList).bind fun
      | [x] => match i.k, x with
        | .slice e, .slice (some (b, o)) n _ _ => bif Nat.beq n 0 then some (.tuple [], s) else (E.tt.get e).bind fun j => (putAt lo s b o (reps n j.zero.cells)).map (.tuple [], ·)
        | .slice _, .slice none _ _ _ => some (.tuple [], s)
        | .slice _, .void _ _ _ _ => some (.tuple [], s)
        | _, _ => none
      | _ => none
    | _ => none
  | _ => none

/-! ### Regions -/
/-- 0: touches no memory; 1: reads; 2: makes, and reads nothing; 3: calls; 4: the rest. -/
def kindOf (E : Env) : Op → Nat
  | .load .. => 1
  | .box .. | .alloc .. | .buildSlice .. | .makeSlice .. => 2
  | .convert a b _ => match E.tt.get a, E.tt.get b with
    | some p, some d => (match p.k, d.k with
      | .int _, .int _ => 0
      | .str, .str => 0
      | _, _ => 4)
    | _, _ => 4
  | .store .. => 4
  | .call c => match c.callee with
    | .builtin .len | .builtin .max | .builtin .min | .builtin .cap => 0
    | .builtin _ => 4
    | _ => 3
  | _ => 0
/-- What surely comes before, as the bits of a number. -/
def ancOf (acc : List Nat) : List Edge → Nat
  | [] => 0
  | e :: es => match e.ground with
    | .textOnly _ | .gcOnly _ => ancOf acc es
    | _ => (2 ^ e.on ||| acc.getD e.on 0) ||| ancOf acc es
def ancs (acc : List Nat) : List Oper → List Nat
  | [] => acc
  | o :: os => ancs (acc ++ [ancOf acc o.after.toList]) os
def looks (all : List Oper) (o : Oper) : List Nat :=
  (o.op.operands.toList.filterMap fun | .tmp t => some t | _ => none) ++ (match o.guard with | some (g, _) => ((all[g]?).bind (·.dst)).toList | none => [])
def apartB (all : List Oper) (x y : Oper) : Bool :=
  (match x.dst with | some d => !(looks all y).contains d && !(y.dst == some d) | none => true) && (match y.dst with | some d => !(looks all x).contains d | none => true)
def freeB (a b : Nat) : Bool := Nat.beq a 0 || Nat.beq b 0 || (Nat.beq a 1 && Nat.ble b 3) || (Nat.ble a 3 && Nat.beq b 1) || (Nat.ble 2 a && Nat.ble a 3 && Nat.beq b 2)
/-- x stands ahead of y in the text, and nothing says that it comes before: they may change places. -/
def pairB (E : Env) (all : List Oper) (x y : Oper) : Bool := apartB all x y && freeB (kindOf E x.op) (kindOf E y.op)
def rowB (E : Env) (all : List Oper) (m : Nat) (y : Oper) : Nat → List Oper → Bool
  | _, [] => true
  | i, x :: xs => (m.testBit i || pairB E all x y) && rowB E all m y (i + 1) xs
def drawB (E : Env) (all : List Oper) (as : List Nat) : Nat → List Oper → Bool
  | _, [] => true
  | j, y :: ys => rowB E all (as.getD j 0) y 0 (all.take j) && drawB E all as (j + 1) ys
/-- Is one that makes or calls, and doesn't surely come before, ahead? -/
def looseB (E : Env) (m : Nat) : Nat → List Oper → Bool
  | _, [] => false
  | i, x :: xs => (!m.testBit i && (Nat.beq (kindOf E x.op) 2 || Nat.beq (kindOf E x.op) 3)) || looseB E m (i + 1) xs
/-- Is it told of each other one that reads, calls or writes, which of the two comes first? -/
def tightB (E : Env) (as : List Nat) (j : Nat) : Nat → List Oper → Bool
  | _, [] => true
  | i, x :: xs => (Nat.beq i j || Nat.beq (kindOf E x.op) 0 || Nat.beq (kindOf E x.op) 2 || (bif Nat.blt i j then (as.getD j 0).testBit i else (as.getD i 0).testBit j)) && tightB E as j (i + 1) xs
def putT (m : Tm) (d : Option Nat) (v : AV) : Option Tm :=
  match d with
  | none => some m
  | some d => bif Nat.blt d m.n then some ⟨m.n, m.t.set d v⟩ else none
def wantE (all : List Oper) (m : T AV) (o : Oper) : Option Bool :=
  match o.guard with
  | none => some true
  | some (j, w) => ((all[j]?).bind (·.dst)).bind fun d => (m.get d).map fun
    | .bool b => b == w
    | _ => false
def calleeE (m : T AV) (c : Call) : Option (Nat × List AV) :=
  match c.callee with
  | .value f => (rho m f).bind fun
    | .fn g cs => (rhos m c.args.toList).map fun as => (g, as ++ cs)
    | _ => none
  | _ => none
/-- One operation. 'call lc f args s'; 'old': a bound that a load's block must stay below (in a region whose order is open). -/
def opE (E : Env) (call : Nat → Nat → List AV → St → Option (AV × St)) (lc lo old : Nat) (m : T AV) (s : St) (o : Op) : Option (AV × St) :=
  match o with
  | .load t x => (rho m x).bind fun
    | .ptr (some (b, q)) => bif Nat.blt b old then (loadE E s t (.ptr (some (b, q)))).map (·, s) else none
    | _ => none
  | .call c => match c.callee with
    | .value _ => (calleeE m c).bind fun (g, as) => match E.ext.get g with
      | some f => (f as).map (·, s)
      | none => call lc g as s
    | _ => bif Nat.beq (kindOf E (.call c)) 0 then (pureE E m (.call c)).map (·, s) else heapE E lo m s (.call c)
  | o => bif Nat.beq (kindOf E o) 0 then (pureE E m o).map (·, s) else heapE E lo m s o
/-- Is whatever comes before ahead in the text, too? -/
def backB : Nat → List Oper → Bool
  | _, [] => true
  | j, o :: os => (o.after.toList.all fun e => match e.ground with
    | .textOnly _ | .gcOnly _ => true
    | _ => Nat.blt e.on j) && backB (j + 1) os
def runE (E : Env) (call : Nat → Nat → List AV → St → Option (AV × St)) (draw : Bool) (lo c0 : Nat) (all : List Oper) (as : List Nat) : Nat → List Oper → Tm → St → Option (Tm × St)
  | _, [], m, s => some (m, s)
  | j, o :: os, m, s =>
    (wantE all m.t o).bind fun w => bif w then
      (opE E call (bif draw && !tightB E as j 0 all then s.c else lo) lo (bif draw && looseB E (as.getD j 0) 0 (all.take j) then c0 else s.c) m.t s o.op).bind fun r => (putT m o.dst r.1).bind fun m' => runE E call draw lo c0 all as (j + 1) os m' r.2
    else (putT m o.dst (.tuple [])).bind fun m' => runE E call draw lo c0 all as (j + 1) os m' s
def regE (E : Env) (call : Nat → Nat → List AV → St → Option (AV × St)) (draw : Bool) (lo : Nat) (ops : List Oper) (m : Tm) (s : St) : Option (Tm × St) :=
  bif draw then
    let as := ancs [] ops
    bif drawB E ops as 0 ops && backB 0 ops then runE E call true lo s.c ops as 0 ops m s else none
  else runE E call false lo s.c ops [] 0 ops m s

/-! ### Code, functions -/
inductive Ex where
  | nrm
  | exit (id : Nat)
  | ret
def iterE (f : Tm → St → Option (Ex × Tm × St)) : Nat → Tm → St → Option (Ex × Tm × St)
  | 0, _, _ => none
  | n + 1, m, s => (f m s).bind fun
    | (.nrm, m', s') => iterE f n m' s'
    | r => some r
def codeE (E : Env) (call : Nat → Nat → List AV → St → Option (AV × St)) (n lo : Nat) : Code → Tm → St → Option (Ex × Tm × St)
  | .skip, m, s => some (.nrm, m, s)
  | .region _ ops draw, m, s => (regE E call draw lo ops.toList m s).map fun r => (.nrm, r.1, r.2)
  | .seq a b, m, s => (codeE E call n lo a m s).bind fun
    | (.nrm, m', s') => codeE E call n lo b m' s'
    | r => some r
  | .cond c a b, m, s => (rho m.t c).bind fun
    | .bool true => codeE E call n lo a m s
    | .bool false => codeE E call n lo b m s
    | _ => none
  | .block id a, m, s => (codeE E call n lo a m s).map fun
    | (.exit i, m', s') => bif Nat.beq i id then (.nrm, m', s') else (.exit i, m', s')
    | r => r
  | .loop a, m, s => iterE (fun m s => codeE E call n lo a m s) n m s
  | .exit id, m, s => some (.exit id, m, s)
  | .ret, m, s => some (.ret, m, s)
  | _, _, _ => none
def argsT : Nat → List AV → T AV
  | _, [] => .e
  | i, v :: vs => (argsT (i + 1) vs).set i v
def resE (E : Env) (m : T AV) (s : St) : ResultVar → Option AV
  | .tmp t => m.get t
  | .cell a t => (m.get a).bind (loadE E s t)
def ressE (E : Env) (m : T AV) (s : St) : List ResultVar → Option (List AV)
  | [] => some []
  | r :: rs => (resE E m s r).bind fun v => (ressE E m s rs).map (v :: ·)
def funE (E : Env) : Nat → Nat → Nat → List AV → St → Option (AV × St)
  | 0, _, _, _, _ => none
  | n + 1, lo, f, args, s =>
    (E.fns.get f).bind fun fn => fn.body.bind fun c =>
      (codeE E (funE E n) n lo c ⟨max args.length fn.ntmps, argsT 0 args⟩ s).bind fun
      | (.exit _, _, _) => none
      | (_, m, s') => (ressE E m.t s' fn.results.toList).map fun
        | [v] => (v, s')
        | vs => (.tuple vs, s')
end Go.Proofs.YtaocoplfdhcoaaaGreatDoor.Ev

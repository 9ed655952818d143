/- Contracts of Go's library at this program, in the shelf's plain words. -/
import Derived.Shelf.Strconv.Atoi
import Derived.Shelf.LaysM
import Derived.Shelf.Strconv.Itoa3
import Derived.Ground.Names2Prog
import Derived.Ground.SlgnProg
import Derived.Test.YtaocoplfdhcoaaaGreatDoorProg
import Derived.Shelf.Strings.Builder1
import Derived.Shelf.Strings.Builder2
import Derived.Shelf.Strings.BuilderF
import Derived.Shelf.Strings.Repeat
import Derived.Test.YtaocoplfdhcoaaaGreatDoorSp09
import Derived.Test.YtaocoplfdhcoaaaGreatDoorSp00
namespace Go.Proofs
def Tryz.lays172_ren : Go.Shelf.Ren := ⟨fun | 172 => 135 | 244 => 239 | 245 => 240 | 247 => 322 | 279 => 323 | 280 => 324 | 281 => 325 | 282 => 326 | 287 => 386 | 316 => 387 | 171 => 132 | 205 => 388 | 321 => 417 | 322 => 418 | 243 => 233 | 246 => 319 | 283 => 380 | 284 => 381 | 285 => 382 | 286 => 383 | 129 => 310 | 317 => 413 | 318 => 414 | 319 => 415 | 320 => 416 | 337 => 433 | 338 => 434 | n => n, fun | 9 => 9 | 3 => 3 | 75 => 207 | 76 => 208 | 4 => 4 | 5 => 5 | 167 => 382 | 37 => 299 | 0 => 0 | 85 => 383 | 2 => 2 | 168 => 385 | 53 => 283 | 175 => 437 | 46 => 231 | 210 => 441 | 127 => 381 | 145 => 467 | 143 => 465 | 21 => 21 | 171 => 430 | 173 => 432 | 212 => 461 | 51 => 245 | 20 => 20 | 213 => 462 | 232 => 474 | 233 => 475 | 80 => 304 | n => n, fun | 15 => 0 | 16 => 1 | 17 => 2 | 18 => 4 | 19 => 5 | n => n⟩
theorem Tryz.lays172 : Go.Proofs.Lays.n172 Tryz.prog Tryz.lays172_ren := {
  mixed := by kernel_rfl
  f129 := Tryz.func310.trans (congrArg some (by kernel_rfl))
  f171 := Tryz.func132.trans (congrArg some (by kernel_rfl))
  f172 := Tryz.func135.trans (congrArg some (by kernel_rfl))
  f205 := Tryz.func388.trans (congrArg some (by kernel_rfl))
  f243 := Tryz.func233.trans (congrArg some (by kernel_rfl))
  f244 := Tryz.func239.trans (congrArg some (by kernel_rfl))
  f245 := Tryz.func240.trans (congrArg some (by kernel_rfl))
  f246 := Tryz.func319.trans (congrArg some (by kernel_rfl))
  f247 := Tryz.func322.trans (congrArg some (by kernel_rfl))
  f279 := Tryz.func323.trans (congrArg some (by kernel_rfl))
  f280 := Tryz.func324.trans (congrArg some (by kernel_rfl))
  f281 := Tryz.func325.trans (congrArg some (by kernel_rfl))
  f282 := Tryz.func326.trans (congrArg some (by kernel_rfl))
  f283 := Tryz.func380.trans (congrArg some (by kernel_rfl))
  f284 := Tryz.func381.trans (congrArg some (by kernel_rfl))
  f285 := Tryz.func382.trans (congrArg some (by kernel_rfl))
  f286 := Tryz.func383.trans (congrArg some (by kernel_rfl))
  f287 := Tryz.func386.trans (congrArg some (by kernel_rfl))
  f316 := Tryz.func387.trans (congrArg some (by kernel_rfl))
  f317 := Tryz.func413.trans (congrArg some (by kernel_rfl))
  f318 := Tryz.func414.trans (congrArg some (by kernel_rfl))
  f319 := Tryz.func415.trans (congrArg some (by kernel_rfl))
  f320 := Tryz.func416.trans (congrArg some (by kernel_rfl))
  f321 := Tryz.func417.trans (congrArg some (by kernel_rfl))
  f322 := Tryz.func418.trans (congrArg some (by kernel_rfl))
  f337 := Tryz.func433.trans (congrArg some (by kernel_rfl))
  f338 := Tryz.func434.trans (congrArg some (by kernel_rfl))
  t0 := Tryz.underlying0
  a0 := Tryz.isAgg0
  z0 := Tryz.sizeOf0
  v0 := Tryz.zeroValue0
  t2 := Tryz.underlying2
  a2 := Tryz.isAgg2
  z2 := Tryz.sizeOf2
  v2 := Tryz.zeroValue2
  t3 := Tryz.underlying3
  a3 := Tryz.isAgg3
  z3 := Tryz.sizeOf3
  v3 := Tryz.zeroValue3
  t4 := Tryz.underlying4
  a4 := Tryz.isAgg4
  z4 := Tryz.sizeOf4
  v4 := Tryz.zeroValue4
  t5 := Tryz.underlying5
  a5 := Tryz.isAgg5
  z5 := Tryz.sizeOf5
  v5 := Tryz.zeroValue5
  t9 := Tryz.underlying9
  a9 := Tryz.isAgg9
  z9 := Tryz.sizeOf9
  v9 := Tryz.zeroValue9
  t20 := Tryz.underlying20
  a20 := Tryz.isAgg20
  z20 := Tryz.sizeOf20
  v20 := Tryz.zeroValue20
  t21 := Tryz.underlying21
  a21 := Tryz.isAgg21
  z21 := Tryz.sizeOf21
  v21 := Tryz.zeroValue21
  t37 := Tryz.underlying299
  a37 := Tryz.isAgg299
  z37 := Tryz.sizeOf299
  v37 := Tryz.zeroValue299
  t46 := Tryz.underlying231
  a46 := Tryz.isAgg231
  z46 := Tryz.sizeOf231
  v46 := Tryz.zeroValue231
  t51 := Tryz.underlying245
  a51 := Tryz.isAgg245
  z51 := Tryz.sizeOf245
  v51 := Tryz.zeroValue245
  t53 := Tryz.underlying283
  a53 := Tryz.isAgg283
  z53 := Tryz.sizeOf283
  v53 := Tryz.zeroValue283
  t75 := Tryz.underlying207
  a75 := Tryz.isAgg207
  z75 := Tryz.sizeOf207
  v75 := Tryz.zeroValue207
  t76 := Tryz.underlying208
  a76 := Tryz.isAgg208
  z76 := Tryz.sizeOf208
  v76 := Tryz.zeroValue208
  t85 := Tryz.underlying383
  a85 := Tryz.isAgg383
  z85 := Tryz.sizeOf383
  v85 := Tryz.zeroValue383
  t127 := Tryz.underlying381
  a127 := Tryz.isAgg381
  z127 := Tryz.sizeOf381
  v127 := Tryz.zeroValue381
  t143 := Tryz.underlying465
  a143 := Tryz.isAgg465
  z143 := Tryz.sizeOf465
  v143 := Tryz.zeroValue465
  t145 := Tryz.underlying467
  a145 := Tryz.isAgg467
  z145 := Tryz.sizeOf467
  v145 := Tryz.zeroValue467
  t167 := Tryz.underlying382
  a167 := Tryz.isAgg382
  z167 := Tryz.sizeOf382
  v167 := Tryz.zeroValue382
  t168 := Tryz.underlying385
  a168 := Tryz.isAgg385
  z168 := Tryz.sizeOf385
  v168 := Tryz.zeroValue385
  t171 := Tryz.underlying430
  a171 := Tryz.isAgg430
  z171 := Tryz.sizeOf430
  v171 := Tryz.zeroValue430
  t173 := Tryz.underlying432
  a173 := Tryz.isAgg432
  z173 := Tryz.sizeOf432
  v173 := Tryz.zeroValue432
  t175 := Tryz.underlying437
  a175 := Tryz.isAgg437
  z175 := Tryz.sizeOf437
  v175 := Tryz.zeroValue437
  t210 := Tryz.underlying441
  a210 := Tryz.isAgg441
  z210 := Tryz.sizeOf441
  v210 := Tryz.zeroValue441
  t212 := Tryz.underlying461
  a212 := Tryz.isAgg461
  z212 := Tryz.sizeOf461
  v212 := Tryz.zeroValue461
  t213 := Tryz.underlying462
  a213 := Tryz.isAgg462
  z213 := Tryz.sizeOf462
  t232 := Tryz.underlying474
  a232 := Tryz.isAgg474
  z232 := Tryz.sizeOf474
  v232 := Tryz.zeroValue474
  t233 := Tryz.underlying475
  a233 := Tryz.isAgg475
  z233 := Tryz.sizeOf475
  v233 := Tryz.zeroValue475
  g15 := by kernel_rfl
  g16 := by kernel_rfl
  g17 := by kernel_rfl
  g18 := by kernel_rfl
  g19 := by kernel_rfl }
open Go.RowKit in
theorem Tryz.strconv_Atoi (s : ByteArray) (n : Int) (hl : s.size ≤ 18) (h : Lib.atoi s.data.toList = some n) (w : World) :
    Calls Tryz.prog 135 #[.string s] w fun e w' => e = .returned (.tuple #[.int .i64 n, .nilIface]) ∧ ∃ t, w' = Lib.bytesWorld w 5 t := Any.strconv_Atoi Tryz.lays172 s n hl h w
def Tryz.laysM171_ren : Go.Shelf.Ren := ⟨fun | 171 => 132 | 243 => 233 | 246 => 319 | 283 => 380 | 284 => 381 | 285 => 382 | 286 => 383 | 129 => 310 | 317 => 413 | 318 => 414 | 319 => 415 | 320 => 416 | 337 => 433 | 338 => 434 | n => n, fun | 3 => 3 | 9 => 9 | 2 => 2 | 4 => 4 | 171 => 430 | 0 => 0 | 53 => 283 | 37 => 299 | 5 => 5 | 173 => 432 | 212 => 461 | 51 => 245 | 20 => 20 | 213 => 462 | 46 => 231 | 232 => 474 | 233 => 475 | n => n, fun | 17 => 2 | 18 => 4 | 19 => 5 | n => n⟩
theorem Tryz.laysM171 : Go.Proofs.LaysM.n171 Tryz.prog Tryz.laysM171_ren := {
  mixed := by kernel_rfl
  f129 := Tryz.func310.trans (congrArg some (by kernel_rfl))
  f171 := Tryz.func132.trans (congrArg some (by kernel_rfl))
  f243 := Tryz.func233.trans (congrArg some (by kernel_rfl))
  f246 := Tryz.func319.trans (congrArg some (by kernel_rfl))
  f283 := Tryz.func380.trans (congrArg some (by kernel_rfl))
  f284 := Tryz.func381.trans (congrArg some (by kernel_rfl))
  f285 := Tryz.func382.trans (congrArg some (by kernel_rfl))
  f286 := Tryz.func383.trans (congrArg some (by kernel_rfl))
  f317 := Tryz.func413.trans (congrArg some (by kernel_rfl))
  f318 := Tryz.func414.trans (congrArg some (by kernel_rfl))
  f319 := Tryz.func415.trans (congrArg some (by kernel_rfl))
  f320 := Tryz.func416.trans (congrArg some (by kernel_rfl))
  f337 := Tryz.func433.trans (congrArg some (by kernel_rfl))
  f338 := Tryz.func434.trans (congrArg some (by kernel_rfl))
  t0 := Tryz.underlying0
  a0 := Tryz.isAgg0
  z0 := Tryz.sizeOf0
  v0 := Tryz.zeroValue0
  t2 := Tryz.underlying2
  a2 := Tryz.isAgg2
  z2 := Tryz.sizeOf2
  v2 := Tryz.zeroValue2
  t3 := Tryz.underlying3
  a3 := Tryz.isAgg3
  z3 := Tryz.sizeOf3
  v3 := Tryz.zeroValue3
  t4 := Tryz.underlying4
  a4 := Tryz.isAgg4
  z4 := Tryz.sizeOf4
  v4 := Tryz.zeroValue4
  t5 := Tryz.underlying5
  a5 := Tryz.isAgg5
  z5 := Tryz.sizeOf5
  v5 := Tryz.zeroValue5
  t9 := Tryz.underlying9
  a9 := Tryz.isAgg9
  z9 := Tryz.sizeOf9
  v9 := Tryz.zeroValue9
  t20 := Tryz.underlying20
  a20 := Tryz.isAgg20
  z20 := Tryz.sizeOf20
  v20 := Tryz.zeroValue20
  t37 := Tryz.underlying299
  a37 := Tryz.isAgg299
  z37 := Tryz.sizeOf299
  v37 := Tryz.zeroValue299
  t46 := Tryz.underlying231
  a46 := Tryz.isAgg231
  z46 := Tryz.sizeOf231
  v46 := Tryz.zeroValue231
  t51 := Tryz.underlying245
  a51 := Tryz.isAgg245
  z51 := Tryz.sizeOf245
  v51 := Tryz.zeroValue245
  t53 := Tryz.underlying283
  a53 := Tryz.isAgg283
  z53 := Tryz.sizeOf283
  v53 := Tryz.zeroValue283
  t171 := Tryz.underlying430
  a171 := Tryz.isAgg430
  z171 := Tryz.sizeOf430
  v171 := Tryz.zeroValue430
  t173 := Tryz.underlying432
  a173 := Tryz.isAgg432
  z173 := Tryz.sizeOf432
  v173 := Tryz.zeroValue432
  t212 := Tryz.underlying461
  a212 := Tryz.isAgg461
  z212 := Tryz.sizeOf461
  v212 := Tryz.zeroValue461
  t213 := Tryz.underlying462
  a213 := Tryz.isAgg462
  z213 := Tryz.sizeOf462
  t232 := Tryz.underlying474
  a232 := Tryz.isAgg474
  z232 := Tryz.sizeOf474
  v232 := Tryz.zeroValue474
  t233 := Tryz.underlying475
  a233 := Tryz.isAgg475
  z233 := Tryz.sizeOf475
  v233 := Tryz.zeroValue475
  g17 := by kernel_rfl
  g18 := by kernel_rfl
  g19 := by kernel_rfl
  i0 := by kernel_rfl
  i2 := by kernel_rfl
  i3 := by kernel_rfl
  i4 := by kernel_rfl
  i5 := by kernel_rfl
  i9 := by kernel_rfl
  i20 := by kernel_rfl
  i37 := by kernel_rfl
  i46 := by kernel_rfl
  i51 := by kernel_rfl
  i53 := by kernel_rfl
  i171 := by kernel_rfl
  i173 := by kernel_rfl
  i212 := by kernel_rfl
  i232 := by kernel_rfl
  i233 := by kernel_rfl
  m17 := by kernel_rfl
  m18 := by kernel_rfl
  m19 := by kernel_rfl }
open Go.RowKit Go.Sort Go.Lib in
theorem Tryz.strconv_Itoa (n : Int) (h0 : -9223372036854775808 ≤ n) (h1 : n ≤ 9223372036854775807) (w : World) (htab : Lib.TabIs Tryz.prog w "internal/strconv.uint64pow10" .u64 Lib.pow10Tab) :
    Calls Tryz.prog 132 #[.int .i64 n] w fun e w' => e = .returned (.string ⟨(Lib.itoa n).toArray⟩) ∧ ∃ k os, w' = grow (w.drewN k) os := Any.strconv_Itoa Tryz.laysM171 n h0 h1 w htab
end Go.Proofs
/- Contracts of Go's library at this program, in the shelf's plain words. -/
namespace Go.Proofs
def Tryz.lays105_ren : Go.Shelf.Ren := ⟨fun | 105 => 133 | 212 => 153 | 99 => 134 | 165 => 234 | 166 => 235 | 170 => 236 | 169 => 237 | 263 => 262 | 264 => 263 | 206 => 238 | 240 => 320 | 241 => 321 | 276 => 384 | 277 => 385 | n => n, fun | 9 => 9 | 3 => 3 | 4 => 4 | 20 => 20 | 0 => 0 | 46 => 231 | 109 => 232 | 5 => 5 | 72 => 301 | 76 => 208 | 51 => 245 | 146 => 328 | 53 => 283 | 148 => 330 | 70 => 298 | 37 => 299 | 75 => 207 | 127 => 381 | 164 => 434 | 80 => 304 | n => n, fun | n => n⟩
theorem Tryz.lays105 : Go.Proofs.Lays.n105 Tryz.prog Tryz.lays105_ren := {
  mixed := by kernel_rfl
  f99 := Tryz.func134.trans (congrArg some (by kernel_rfl))
  f105 := Tryz.func133.trans (congrArg some (by kernel_rfl))
  f165 := Tryz.func234.trans (congrArg some (by kernel_rfl))
  f166 := Tryz.func235.trans (congrArg some (by kernel_rfl))
  f169 := Tryz.func237.trans (congrArg some (by kernel_rfl))
  f170 := Tryz.func236.trans (congrArg some (by kernel_rfl))
  f206 := Tryz.func238.trans (congrArg some (by kernel_rfl))
  f212 := Tryz.func153.trans (congrArg some (by kernel_rfl))
  f240 := Tryz.func320.trans (congrArg some (by kernel_rfl))
  f241 := Tryz.func321.trans (congrArg some (by kernel_rfl))
  f263 := Tryz.func262.trans (congrArg some (by kernel_rfl))
  f264 := Tryz.func263.trans (congrArg some (by kernel_rfl))
  f276 := Tryz.func384.trans (congrArg some (by kernel_rfl))
  f277 := Tryz.func385.trans (congrArg some (by kernel_rfl))
  t0 := Tryz.underlying0
  a0 := Tryz.isAgg0
  z0 := Tryz.sizeOf0
  v0 := Tryz.zeroValue0
  t3 := Tryz.underlying3
  a3 := Tryz.isAgg3
  z3 := Tryz.sizeOf3
  v3 := Tryz.zeroValue3
  t4 := Tryz.underlying4
  a4 := Tryz.isAgg4
  z4 := Tryz.sizeOf4
  v4 := Tryz.zeroValue4
  t5 := Tryz.underlying5
  a5 := Tryz.isAgg5
  z5 := Tryz.sizeOf5
  v5 := Tryz.zeroValue5
  t9 := Tryz.underlying9
  a9 := Tryz.isAgg9
  z9 := Tryz.sizeOf9
  v9 := Tryz.zeroValue9
  t20 := Tryz.underlying20
  a20 := Tryz.isAgg20
  z20 := Tryz.sizeOf20
  v20 := Tryz.zeroValue20
  t37 := Tryz.underlying299
  a37 := Tryz.isAgg299
  z37 := Tryz.sizeOf299
  v37 := Tryz.zeroValue299
  t46 := Tryz.underlying231
  a46 := Tryz.isAgg231
  z46 := Tryz.sizeOf231
  v46 := Tryz.zeroValue231
  t51 := Tryz.underlying245
  a51 := Tryz.isAgg245
  z51 := Tryz.sizeOf245
  v51 := Tryz.zeroValue245
  t53 := Tryz.underlying283
  a53 := Tryz.isAgg283
  z53 := Tryz.sizeOf283
  v53 := Tryz.zeroValue283
  t70 := Tryz.underlying298
  a70 := Tryz.isAgg298
  z70 := Tryz.sizeOf298
  v70 := Tryz.zeroValue298
  t72 := Tryz.underlying301
  a72 := Tryz.isAgg301
  z72 := Tryz.sizeOf301
  v72 := Tryz.zeroValue301
  t75 := Tryz.underlying207
  a75 := Tryz.isAgg207
  z75 := Tryz.sizeOf207
  v75 := Tryz.zeroValue207
  t76 := Tryz.underlying208
  a76 := Tryz.isAgg208
  z76 := Tryz.sizeOf208
  v76 := Tryz.zeroValue208
  t109 := Tryz.underlying232
  a109 := Tryz.isAgg232
  z109 := Tryz.sizeOf232
  v109 := Tryz.zeroValue232
  t127 := Tryz.underlying381
  a127 := Tryz.isAgg381
  z127 := Tryz.sizeOf381
  v127 := Tryz.zeroValue381
  t146 := Tryz.underlying328
  a146 := Tryz.isAgg328
  z146 := Tryz.sizeOf328
  v146 := Tryz.zeroValue328
  t148 := Tryz.underlying330
  a148 := Tryz.isAgg330
  z148 := Tryz.sizeOf330
  v148 := Tryz.zeroValue330
  t164 := Tryz.underlying434
  a164 := Tryz.isAgg434
  z164 := Tryz.sizeOf434
  v164 := Tryz.zeroValue434 }
theorem Tryz.Builder_Extra_105 : Builder.Extra Tryz.prog Tryz.lays105_ren := {
  sizeBuilder := by kernel_rfl
  liesBuilder := by kernel_rfl
  t5 := Tryz.underlying5
  a5 := Tryz.isAgg5
  z5 := Tryz.sizeOf5
  v5 := Tryz.zeroValue5
  infoByte := by kernel_rfl
  cellsByte := by kernel_rfl
  sizeByte := by kernel_rfl
  neB5 := by decide }
open Go.RowKit Go.Lib in
theorem Tryz.strings_Repeat (s : ByteArray) (c : Nat) (w : World) (hc : c ≤ 9223372036854775807) (hlen : s.size * c ≤ 140737488355328) :
    Calls Tryz.prog 133 #[.string s, .int .i64 c] w fun e w' => e = .returned (.string ⟨(Lib.repeatL s.data.toList c).toArray⟩) ∧ Below w.heap.size w w' := Any.strings_Repeat Tryz.lays105 Tryz.Builder_Extra_105 s c w hc hlen
end Go.Proofs
set_option linter.unusedVariables false
set_option linter.unusedSimpArgs false
namespace Go.Proofs.YtaocoplfdhcoaaaGreatDoor.Ev
open Go Go.RowKit
def decs : Nat → Nat → List UInt8 → List UInt8
  | 0, _, acc => acc
  | f + 1, n, acc => bif Nat.blt n 10 then UInt8.ofNat (48 + n) :: acc else decs f (n / 10) (UInt8.ofNat (48 + n % 10) :: acc)
theorem decs_eq : ∀ (f n : Nat) (acc : List UInt8), n < 10 ^ (f + 1) → decs (f + 1) n acc = Lib.decDigits n ++ acc
  | 0, n, acc, h => by
    have h' : n < 10 := by simpa using h
    rw [decs, blt_iff.2 h', Lib.decDigits, dif_pos h']
    rfl
  | f + 1, n, acc, h => by
    rw [decs]
    by_cases h' : n < 10
    · rw [blt_iff.2 h', Lib.decDigits, dif_pos h']
      rfl
    · have : Nat.blt n 10 = false := by
        cases hb : Nat.blt n 10 with
        | false => rfl
        | true => exact absurd (blt_iff.1 hb) h'
      rw [this, cond_false, decs_eq f (n / 10) _ (by rw [Nat.pow_succ] at h; omega)]
      conv => rhs; rw [Lib.decDigits, dif_neg h']
      simp
def itoa : List AV → Option AV
  | [.int .i64 (.ofNat m)] => bif Nat.ble m 9223372036854775807 then some (.str (decs 20 m [])) else none
  | [.int .i64 (.negSucc m)] => bif Nat.ble m 9223372036854775807 then some (.str (45 :: decs 20 (m + 1) [])) else none
  | _ => none
def atoi : List AV → Option AV
  | [.str l] => bif Nat.ble l.length 18 then (Lib.atoi l).map fun n => .tuple [.int .i64 n, .nilIface] else none
  | _ => none
/-- What these lean on: the library's table, as the run finds it. -/
def Tab (W : World) : Prop := Lib.TabIs Tryz.prog W "internal/strconv.uint64pow10" .u64 Lib.pow10Tab
theorem Tab.below {W w : World} (h : Tab W) (hb : Below W.heap.size W w) : Tab w := by
  unfold Tab Lib.TabIs at h ⊢
  rw [← h]
  unfold World.var?
  cases hg : Tryz.prog.globalNamed "internal/strconv.uint64pow10" with
  | none => rfl
  | some g =>
    unfold World.var? at h
    rw [hg] at h
    simp only [Option.bind_some] at h ⊢
    have hlt : g < W.heap.size := by
      rcases Nat.lt_or_ge g W.heap.size with h' | h'
      · exact h'
      · rw [Array.getElem?_eq_none h'] at h
        simp at h
    rw [hb.block g hlt]
theorem itoa_int (n : Int) (v : AV) (h : itoa [.int .i64 n] = some v) : v = .str (Lib.itoa n) ∧ -9223372036854775808 ≤ n ∧ n ≤ 9223372036854775807 := by
  cases n with
  | ofNat m =>
    simp only [itoa] at h
    cases hb : Nat.ble m 9223372036854775807 with
    | false => rw [hb] at h; cases h
    | true =>
      rw [hb] at h
      have hm := ble_iff.1 hb
      simp only [cond_true, Option.some.injEq] at h
      rw [← h, decs_eq 19 m [] (by omega)]
      refine ⟨?_, by simp only [Int.ofNat_eq_natCast]; omega, by simp only [Int.ofNat_eq_natCast]; omega⟩
      unfold Lib.itoa
      rw [if_neg (by simp)]
      simp
  | negSucc m =>
    simp only [itoa] at h
    cases hb : Nat.ble m 9223372036854775807 with
    | false => rw [hb] at h; cases h
    | true =>
      rw [hb] at h
      have hm := ble_iff.1 hb
      simp only [cond_true, Option.some.injEq] at h
      rw [← h, decs_eq 19 (m + 1) [] (by omega)]
      refine ⟨?_, by omega, by omega⟩
      unfold Lib.itoa
      rw [if_pos (by omega)]
      simp
theorem plain132 : Plain Tryz.prog 132 := ⟨Tryz.f132, _, Tryz.func132, rfl, by kernel_rfl⟩
theorem plain135 : Plain Tryz.prog 135 := ⟨Tryz.f135, _, Tryz.func135, rfl, by kernel_rfl⟩
theorem itoa_ok {N0 : Nat} {W : World} (hN : N0 = W.heap.size) (hW : Tab W) (vs : List AV) (v : AV) (h : itoa vs = some v) (S : Nat → Prop) (μ : Nat → Loc) (w : World) (hb : Below N0 W w) (hs : N0 ≤ w.heap.size) (hw : wfs S μ vs) :
    wf S μ v ∧ Calls Tryz.prog 132 (concs μ vs).toArray w fun e w' => e = .returned (conc μ v) ∧ Below w.heap.size w w' := by
  have : ∃ n, vs = [.int .i64 n] := by
    unfold itoa at h
    split at h
    · exact ⟨_, rfl⟩
    · exact ⟨_, rfl⟩
    · cases h
  obtain ⟨n, rfl⟩ := this
  obtain ⟨rfl, h0, h1⟩ := itoa_int n v h
  refine ⟨trivial, ?_⟩
  subst hN
  refine (Tryz.strconv_Itoa n h0 h1 w (hW.below hb)).mono fun e w' he => ?_
  obtain ⟨rfl, k, os, rfl⟩ := he
  refine ⟨rfl, rfl, rfl, rfl, ?_, fun i hi => ?_⟩
  · show _ ≤ (w.heap ++ os).size
    simp
  · show (w.heap ++ os)[i]? = _
    rw [Array.getElem?_append_left hi]
theorem atoi_ok (vs : List AV) (v : AV) (h : atoi vs = some v) (S : Nat → Prop) (μ : Nat → Loc) (w : World) (hw : wfs S μ vs) :
    wf S μ v ∧ Calls Tryz.prog 135 (concs μ vs).toArray w fun e w' => e = .returned (conc μ v) ∧ Below w.heap.size w w' := by
  unfold atoi at h
  split at h
  · rename_i l
    cases hb : Nat.ble l.length 18 with
    | false => rw [hb] at h; cases h
    | true =>
      rw [hb] at h
      obtain ⟨n, hn, rfl⟩ := Option.map_eq_some_iff.1 h
      refine ⟨⟨trivial, trivial, trivial⟩, ?_⟩
      refine (Tryz.strconv_Atoi ⟨l.toArray⟩ n (by have := ble_iff.1 hb; show l.toArray.size ≤ 18; simpa using this) (by simpa using hn) w).mono fun e w' he => ?_
      obtain ⟨rfl, t, rfl⟩ := he
      exact ⟨rfl, rfl, rfl, rfl, by rw [Lib.bytesWorld_size]; omega, fun i hi => Lib.bytesWorld_at_old w 5 t i hi⟩
  · cases h
end Go.Proofs.YtaocoplfdhcoaaaGreatDoor.Ev
namespace Go.Proofs.YtaocoplfdhcoaaaGreatDoor.EvA
open Go Go.Proofs.YtaocoplfdhcoaaaGreatDoor.Ev
def i2 : TI := ⟨.int .i64, 1, 8, .int .i64 0⟩
def i3 : TI := ⟨.int .i64, 1, 8, .int .i64 0⟩
def i4 : TI := ⟨.bool, 1, 1, .bool false⟩
def i5 : TI := ⟨.int .u8, 1, 1, .int .u8 0⟩
def i9 : TI := ⟨.str, 1, 16, .str []⟩
def i10 : TI := ⟨.str, 1, 16, .str []⟩
def i21 : TI := ⟨.int .i32, 1, 4, .int .i32 0⟩
def i22 : TI := ⟨.slice 25, 1, 24, .slice none 0 0 0⟩
def i23 : TI := ⟨.slice 25, 1, 24, .slice none 0 0 0⟩
def i24 : TI := ⟨.slice 3, 1, 24, .slice none 0 0 0⟩
def i25 : TI := ⟨.slice 3, 1, 24, .slice none 0 0 0⟩
def i29 : TI := ⟨.slice 32, 1, 24, .slice none 0 0 0⟩
def i32 : TI := ⟨.struct [(0, 4), (1, 24)], 2, 32, .agg [.bool false, .slice none 0 0 0]⟩
def i40 : TI := ⟨.slice 47, 1, 24, .slice none 0 0 0⟩
def i42 : TI := ⟨.struct [(0, 40), (1, 40)], 2, 48, .agg [.slice none 0 0 0, .slice none 0 0 0]⟩
def i44 : TI := ⟨.struct [(0, 3), (1, 25)], 2, 32, .agg [.int .i64 0, .slice none 0 0 0]⟩
def i47 : TI := ⟨.struct [(0, 9), (1, 25)], 2, 40, .agg [.str [], .slice none 0 0 0]⟩
def i49 : TI := ⟨.str, 1, 16, .str []⟩
def i51 : TI := ⟨.struct [(0, 49), (1, 49)], 2, 32, .agg [.str [], .str []]⟩
def i52 : TI := ⟨.slice 3, 1, 24, .slice none 0 0 0⟩
def i53 : TI := ⟨.slice 51, 1, 24, .slice none 0 0 0⟩
def i54 : TI := ⟨.slice 51, 1, 24, .slice none 0 0 0⟩
def i58 : TI := ⟨.int .i64, 1, 8, .int .i64 0⟩
def i63 : TI := ⟨.struct [(0, 3), (1, 3), (2, 49)], 3, 32, .agg [.int .i64 0, .int .i64 0, .str []]⟩
def i71 : TI := ⟨.slice 213, 1, 24, .slice none 0 0 0⟩
def i73 : TI := ⟨.struct [(0, 5), (1, 71), (2, 4)], 3, 40, .agg [.int .u8 0, .slice none 0 0 0, .bool false]⟩
def i77 : TI := ⟨.struct [(0, 52), (1, 23), (2, 23)], 3, 72, .agg [.slice none 0 0 0, .slice none 0 0 0, .slice none 0 0 0]⟩
def i82 : TI := ⟨.int .i8, 1, 1, .int .i8 0⟩
def i83 : TI := ⟨.arr 18 82, 18, 18, .agg [.int .i8 0, .int .i8 0, .int .i8 0, .int .i8 0, .int .i8 0, .int .i8 0, .int .i8 0, .int .i8 0, .int .i8 0, .int .i8 0, .int .i8 0, .int .i8 0, .int .i8 0, .int .i8 0, .int .i8 0, .int .i8 0, .int .i8 0, .int .i8 0]⟩
def i84 : TI := ⟨.arr 3 82, 3, 3, .agg [.int .i8 0, .int .i8 0, .int .i8 0]⟩
def i85 : TI := ⟨.arr 6 84, 18, 18, .agg [.int .i8 0, .int .i8 0, .int .i8 0, .int .i8 0, .int .i8 0, .int .i8 0, .int .i8 0, .int .i8 0, .int .i8 0, .int .i8 0, .int .i8 0, .int .i8 0, .int .i8 0, .int .i8 0, .int .i8 0, .int .i8 0, .int .i8 0, .int .i8 0]⟩
def i87 : TI := ⟨.struct [(0, 4), (1, 5), (2, 5), (3, 83), (21, 85), (39, 84)], 42, 42, .agg [.bool false, .int .u8 0, .int .u8 0, .int .i8 0, .int .i8 0, .int .i8 0, .int .i8 0, .int .i8 0, .int .i8 0, .int .i8 0, .int .i8 0, .int .i8 0, .int .i8 0, .int .i8 0, .int .i8 0, .int .i8 0, .int .i8 0, .int .i8 0, .int .i8 0, .int .i8 0, .int .i8 0, .int .i8 0, .int .i8 0, .int .i8 0, .int .i8 0, .int .i8 0, .int .i8 0, .int .i8 0, .int .i8 0, .int .i8 0, .int .i8 0, .int .i8 0, .int .i8 0, .int .i8 0, .int .i8 0, .int .i8 0, .int .i8 0, .int .i8 0, .int .i8 0, .int .i8 0, .int .i8 0, .int .i8 0]⟩
def i88 : TI := ⟨.slice 224, 1, 24, .slice none 0 0 0⟩
def i90 : TI := ⟨.struct [(0, 52), (1, 3), (2, 88), (3, 53)], 4, 80, .agg [.slice none 0 0 0, .int .i64 0, .slice none 0 0 0, .slice none 0 0 0]⟩
def i96 : TI := ⟨.slice 54, 1, 24, .slice none 0 0 0⟩
def i98 : TI := ⟨.struct [(0, 53)], 1, 24, .agg [.slice none 0 0 0]⟩
def i100 : TI := ⟨.struct [(0, 3), (1, 54), (2, 96), (3, 98), (4, 53)], 5, 104, .agg [.int .i64 0, .slice none 0 0 0, .slice none 0 0 0, .slice none 0 0 0, .slice none 0 0 0]⟩
def i107 : TI := ⟨.arr 3 84, 9, 9, .agg [.int .i8 0, .int .i8 0, .int .i8 0, .int .i8 0, .int .i8 0, .int .i8 0, .int .i8 0, .int .i8 0, .int .i8 0]⟩
def i115 : TI := ⟨.struct [(0, 5), (1, 5), (2, 5)], 3, 3, .agg [.int .u8 0, .int .u8 0, .int .u8 0]⟩
def i117 : TI := ⟨.slice 63, 1, 24, .slice none 0 0 0⟩
def i119 : TI := ⟨.struct [(0, 3), (1, 3), (2, 117)], 3, 40, .agg [.int .i64 0, .int .i64 0, .slice none 0 0 0]⟩
def i136 : TI := ⟨.arr 2 5, 2, 2, .agg [.int .u8 0, .int .u8 0]⟩
def i137 : TI := ⟨.arr 8 136, 16, 16, .agg [.int .u8 0, .int .u8 0, .int .u8 0, .int .u8 0, .int .u8 0, .int .u8 0, .int .u8 0, .int .u8 0, .int .u8 0, .int .u8 0, .int .u8 0, .int .u8 0, .int .u8 0, .int .u8 0, .int .u8 0, .int .u8 0]⟩
def i138 : TI := ⟨.arr 2 82, 2, 2, .agg [.int .i8 0, .int .i8 0]⟩
def i139 : TI := ⟨.arr 8 138, 16, 16, .agg [.int .i8 0, .int .i8 0, .int .i8 0, .int .i8 0, .int .i8 0, .int .i8 0, .int .i8 0, .int .i8 0, .int .i8 0, .int .i8 0, .int .i8 0, .int .i8 0, .int .i8 0, .int .i8 0, .int .i8 0, .int .i8 0]⟩
def i141 : TI := ⟨.struct [(0, 5), (1, 5), (2, 137), (18, 139), (34, 115)], 37, 37, .agg [.int .u8 0, .int .u8 0, .int .u8 0, .int .u8 0, .int .u8 0, .int .u8 0, .int .u8 0, .int .u8 0, .int .u8 0, .int .u8 0, .int .u8 0, .int .u8 0, .int .u8 0, .int .u8 0, .int .u8 0, .int .u8 0, .int .u8 0, .int .u8 0, .int .i8 0, .int .i8 0, .int .i8 0, .int .i8 0, .int .i8 0, .int .i8 0, .int .i8 0, .int .i8 0, .int .i8 0, .int .i8 0, .int .i8 0, .int .i8 0, .int .i8 0, .int .i8 0, .int .i8 0, .int .i8 0, .int .u8 0, .int .u8 0, .int .u8 0]⟩
def i142 : TI := ⟨.slice 145, 1, 24, .slice none 0 0 0⟩
def i145 : TI := ⟨.struct [(0, 3), (1, 3), (2, 54), (3, 119)], 6, 80, .agg [.int .i64 0, .int .i64 0, .slice none 0 0 0, .int .i64 0, .int .i64 0, .slice none 0 0 0]⟩
def i154 : TI := ⟨.slice 98, 1, 24, .slice none 0 0 0⟩
def i169 : TI := ⟨.slice 245, 1, 24, .slice none 0 0 0⟩
def i171 : TI := ⟨.struct [(0, 4), (1, 169)], 2, 32, .agg [.bool false, .slice none 0 0 0]⟩
def i178 : TI := ⟨.slice 29, 1, 24, .slice none 0 0 0⟩
def i183 : TI := ⟨.slice 23, 1, 24, .slice none 0 0 0⟩
def i190 : TI := ⟨.struct [(0, 171), (2, 169)], 3, 56, .agg [.bool false, .slice none 0 0 0, .slice none 0 0 0]⟩
def i213 : TI := ⟨.arr 4 82, 4, 4, .agg [.int .i8 0, .int .i8 0, .int .i8 0, .int .i8 0]⟩
def i218 : TI := ⟨.struct [(0, 3), (1, 23)], 2, 32, .agg [.int .i64 0, .slice none 0 0 0]⟩
def i224 : TI := ⟨.struct [(0, 53), (1, 54)], 2, 48, .agg [.slice none 0 0 0, .slice none 0 0 0]⟩
def i227 : TI := ⟨.arr 2 54, 2, 48, .agg [.slice none 0 0 0, .slice none 0 0 0]⟩
def i231 : TI := ⟨.int .u64, 1, 8, .int .u64 0⟩
def i240 : TI := ⟨.slice 190, 1, 24, .slice none 0 0 0⟩
def i245 : TI := ⟨.int .u32, 1, 4, .int .u32 0⟩
def i247 : TI := ⟨.ptr 340, 1, 8, .ptr none⟩
def i272 : TI := ⟨.slice 53, 1, 24, .slice none 0 0 0⟩
def i275 : TI := ⟨.struct [(0, 272), (1, 53)], 2, 48, .agg [.slice none 0 0 0, .slice none 0 0 0]⟩
def i276 : TI := ⟨.slice 275, 1, 24, .slice none 0 0 0⟩
def i283 : TI := ⟨.int .u64, 1, 8, .int .u64 0⟩
def i284 : TI := ⟨.slice 40, 1, 24, .slice none 0 0 0⟩
def i294 : TI := ⟨.slice 4, 1, 24, .slice none 0 0 0⟩
def i299 : TI := ⟨.slice 5, 1, 24, .slice none 0 0 0⟩
def i306 : TI := ⟨.slice 52, 1, 24, .slice none 0 0 0⟩
def i313 : TI := ⟨.slice 391, 1, 24, .slice none 0 0 0⟩
def i320 : TI := ⟨.ptr 323, 1, 8, .ptr none⟩
def i323 : TI := ⟨.struct [(0, 90), (4, 3), (5, 3), (6, 272), (7, 96), (8, 24), (9, 53), (10, 58)], 11, 200, .agg [.slice none 0 0 0, .int .i64 0, .slice none 0 0 0, .slice none 0 0 0, .int .i64 0, .int .i64 0, .slice none 0 0 0, .slice none 0 0 0, .slice none 0 0 0, .slice none 0 0 0, .int .i64 0]⟩
def i333 : TI := ⟨.slice 49, 1, 24, .slice none 0 0 0⟩
def i335 : TI := ⟨.struct [(0, 52), (1, 333), (2, 49)], 3, 64, .agg [.slice none 0 0 0, .slice none 0 0 0, .str []]⟩
def i340 : TI := ⟨.struct [(0, 52), (1, 54), (2, 3), (3, 333)], 4, 80, .agg [.slice none 0 0 0, .slice none 0 0 0, .int .i64 0, .slice none 0 0 0]⟩
def i371 : TI := ⟨.ptr 417, 1, 8, .ptr none⟩
def i381 : TI := ⟨.ptr 5, 1, 8, .ptr none⟩
def i382 : TI := ⟨.int .i64, 1, 8, .int .i64 0⟩
def i385 : TI := ⟨.ptr 441, 1, 8, .ptr none⟩
def i391 : TI := ⟨.slice 49, 1, 24, .slice none 0 0 0⟩
def i413 : TI := ⟨.slice 283, 1, 24, .slice none 0 0 0⟩
def i414 : TI := ⟨.slice 283, 1, 24, .slice none 0 0 0⟩
def i417 : TI := ⟨.struct [(0, 414), (1, 414), (2, 3)], 3, 56, .agg [.slice none 0 0 0, .slice none 0 0 0, .int .i64 0]⟩
def i423 : TI := ⟨.slice 283, 1, 24, .slice none 0 0 0⟩
def i430 : TI := ⟨.arr 24 5, 24, 24, .agg [.int .u8 0, .int .u8 0, .int .u8 0, .int .u8 0, .int .u8 0, .int .u8 0, .int .u8 0, .int .u8 0, .int .u8 0, .int .u8 0, .int .u8 0, .int .u8 0, .int .u8 0, .int .u8 0, .int .u8 0, .int .u8 0, .int .u8 0, .int .u8 0, .int .u8 0, .int .u8 0, .int .u8 0, .int .u8 0, .int .u8 0, .int .u8 0]⟩
def i441 : TI := ⟨.struct [(0, 9), (1, 9), (2, 207)], 3, 48, .agg [.str [], .str [], .nilIface]⟩
def i461 : TI := ⟨.arr 20 283, 20, 160, .agg [.int .u64 0, .int .u64 0, .int .u64 0, .int .u64 0, .int .u64 0, .int .u64 0, .int .u64 0, .int .u64 0, .int .u64 0, .int .u64 0, .int .u64 0, .int .u64 0, .int .u64 0, .int .u64 0, .int .u64 0, .int .u64 0, .int .u64 0, .int .u64 0, .int .u64 0, .int .u64 0]⟩
def i465 : TI := ⟨.ptr 467, 1, 8, .ptr none⟩
def i467 : TI := ⟨.struct [(0, 9)], 1, 16, .agg [.str []]⟩
def i474 : TI := ⟨.arr 32 5, 32, 32, .agg [.int .u8 0, .int .u8 0, .int .u8 0, .int .u8 0, .int .u8 0, .int .u8 0, .int .u8 0, .int .u8 0, .int .u8 0, .int .u8 0, .int .u8 0, .int .u8 0, .int .u8 0, .int .u8 0, .int .u8 0, .int .u8 0, .int .u8 0, .int .u8 0, .int .u8 0, .int .u8 0, .int .u8 0, .int .u8 0, .int .u8 0, .int .u8 0, .int .u8 0, .int .u8 0, .int .u8 0, .int .u8 0, .int .u8 0, .int .u8 0, .int .u8 0, .int .u8 0]⟩
def i475 : TI := ⟨.arr 64 5, 64, 64, .agg [.int .u8 0, .int .u8 0, .int .u8 0, .int .u8 0, .int .u8 0, .int .u8 0, .int .u8 0, .int .u8 0, .int .u8 0, .int .u8 0, .int .u8 0, .int .u8 0, .int .u8 0, .int .u8 0, .int .u8 0, .int .u8 0, .int .u8 0, .int .u8 0, .int .u8 0, .int .u8 0, .int .u8 0, .int .u8 0, .int .u8 0, .int .u8 0, .int .u8 0, .int .u8 0, .int .u8 0, .int .u8 0, .int .u8 0, .int .u8 0, .int .u8 0, .int .u8 0, .int .u8 0, .int .u8 0, .int .u8 0, .int .u8 0, .int .u8 0, .int .u8 0, .int .u8 0, .int .u8 0, .int .u8 0, .int .u8 0, .int .u8 0, .int .u8 0, .int .u8 0, .int .u8 0, .int .u8 0, .int .u8 0, .int .u8 0, .int .u8 0, .int .u8 0, .int .u8 0, .int .u8 0, .int .u8 0, .int .u8 0, .int .u8 0, .int .u8 0, .int .u8 0, .int .u8 0, .int .u8 0, .int .u8 0, .int .u8 0, .int .u8 0, .int .u8 0]⟩
def tt : T TI := .n none (.n none (.n (some i3) (.n none (.n none (.n none (.n (some i63) .e .e) .e) (.n (some i47) (.n none .e (.n none (.n (some i335) .e .e) .e)) .e)) (.n (some i23) (.n none (.n (some i71) (.n none .e (.n (some i391) .e .e)) .e) (.n none (.n none .e (.n (some i423) .e .e)) (.n (some i231) .e .e))) (.n none (.n (some i87) .e .e) (.n (some i119) (.n (some i183) .e .e) (.n (some i247) .e .e))))) (.n none (.n none (.n none (.n none .e (.n none (.n (some i323) .e .e) .e)) (.n none .e (.n (some i227) .e .e))) (.n (some i51) (.n (some i83) (.n none (.n (some i275) .e .e) .e) (.n none .e (.n (some i467) .e .e))) (.n (some i115) .e (.n none (.n (some i371) .e .e) .e)))) (.n none (.n none (.n none (.n (some i139) .e .e) .e) (.n (some i107) (.n (some i171) (.n (some i299) .e .e) .e) .e)) (.n none (.n none (.n none (.n (some i283) .e .e) .e) (.n none .e (.n (some i475) .e .e))) .e)))) (.n (some i5) (.n (some i9) (.n none (.n none (.n none (.n none .e (.n (some i385) .e .e)) .e) (.n none (.n none .e (.n (some i417) .e .e)) .e)) (.n (some i49) (.n none (.n (some i145) .e .e) (.n none .e (.n (some i465) .e .e))) .e)) (.n (some i25) (.n none (.n (some i73) (.n (some i137) .e .e) .e) (.n none (.n (some i169) .e .e) .e)) (.n none .e (.n none (.n none (.n (some i313) .e .e) (.n (some i441) .e .e)) .e)))) (.n none (.n (some i21) .e (.n (some i53) (.n (some i85) .e (.n (some i213) .e .e)) (.n (some i117) .e (.n (some i245) .e .e)))) (.n (some i29) (.n none (.n (some i77) (.n (some i141) .e .e) (.n none (.n (some i333) .e .e) (.n (some i461) .e .e))) .e) (.n none (.n none (.n none .e (.n (some i413) .e .e)) .e) (.n none .e (.n none (.n (some i381) .e .e) .e))))))) (.n (some i2) (.n (some i4) (.n none (.n none (.n (some i32) (.n none .e (.n none (.n (some i320) .e .e) .e)) (.n (some i96) .e (.n (some i224) .e .e))) (.n none (.n none (.n none (.n (some i272) .e .e) .e) .e) (.n none .e (.n (some i240) .e .e)))) (.n (some i24) (.n (some i40) (.n none (.n (some i136) .e .e) .e) .e) (.n none (.n (some i88) .e .e) .e))) (.n none (.n none (.n none .e (.n (some i100) .e .e)) (.n (some i52) (.n (some i84) (.n none (.n (some i276) .e .e) .e) (.n none (.n (some i340) .e .e) .e)) .e)) (.n none (.n (some i44) .e .e) (.n none (.n none (.n none (.n (some i284) .e .e) .e) .e) .e)))) (.n none (.n (some i10) (.n none (.n none .e (.n (some i98) .e .e)) (.n none (.n (some i82) .e .e) (.n none (.n (some i178) (.n (some i306) .e .e) .e) .e))) (.n none (.n (some i42) (.n none (.n (some i138) .e .e) .e) .e) (.n (some i58) (.n (some i90) (.n (some i154) .e .e) (.n (some i218) .e (.n (some i474) .e .e))) .e))) (.n none (.n (some i22) (.n none .e (.n none (.n none (.n (some i294) .e .e) .e) .e)) (.n (some i54) .e .e)) (.n none (.n none (.n none (.n (some i142) .e .e) .e) (.n none (.n none .e (.n (some i430) .e .e)) .e)) (.n none (.n none (.n none .e (.n (some i414) .e .e)) .e) (.n none (.n (some i190) .e .e) (.n none (.n (some i382) .e .e) .e)))))))
noncomputable def fns : T Func := .n none (.n none (.n (some Tryz.f3) (.n (some Tryz.f7) (.n (some Tryz.f15) (.n (some Tryz.f31) (.n (some Tryz.f63) (.n (some Tryz.f127) (.n (some Tryz.f255) .e .e) (.n (some Tryz.f383) .e .e)) (.n (some Tryz.f191) .e .e)) (.n (some Tryz.f95) (.n (some Tryz.f159) (.n (some Tryz.f287) .e .e) (.n (some Tryz.f415) .e .e)) (.n (some Tryz.f223) (.n (some Tryz.f351) .e .e) .e))) (.n (some Tryz.f47) (.n (some Tryz.f79) (.n (some Tryz.f143) (.n (some Tryz.f271) .e .e) (.n (some Tryz.f399) .e .e)) (.n (some Tryz.f207) (.n (some Tryz.f335) .e .e) .e)) (.n (some Tryz.f111) (.n (some Tryz.f175) (.n (some Tryz.f303) .e .e) (.n (some Tryz.f431) .e .e)) (.n none (.n (some Tryz.f367) .e .e) .e)))) (.n (some Tryz.f23) (.n (some Tryz.f39) (.n (some Tryz.f71) (.n none (.n (some Tryz.f263) .e .e) (.n (some Tryz.f391) .e .e)) (.n (some Tryz.f199) (.n (some Tryz.f327) .e .e) .e)) (.n (some Tryz.f103) (.n (some Tryz.f167) (.n (some Tryz.f295) .e .e) (.n (some Tryz.f423) .e .e)) (.n (some Tryz.f231) (.n (some Tryz.f359) .e .e) .e))) (.n (some Tryz.f55) (.n (some Tryz.f87) (.n (some Tryz.f151) (.n (some Tryz.f279) .e .e) (.n (some Tryz.f407) .e .e)) (.n (some Tryz.f215) (.n (some Tryz.f343) .e .e) .e)) (.n (some Tryz.f119) (.n (some Tryz.f183) (.n (some Tryz.f311) .e .e) .e) (.n (some Tryz.f247) (.n (some Tryz.f375) .e .e) .e))))) (.n (some Tryz.f11) (.n (some Tryz.f19) (.n (some Tryz.f35) (.n (some Tryz.f67) (.n (some Tryz.f131) (.n (some Tryz.f259) .e .e) (.n (some Tryz.f387) .e .e)) (.n (some Tryz.f195) (.n (some Tryz.f323) .e .e) .e)) (.n (some Tryz.f99) (.n (some Tryz.f163) (.n (some Tryz.f291) .e .e) (.n (some Tryz.f419) .e .e)) (.n (some Tryz.f227) (.n (some Tryz.f355) .e .e) .e))) (.n (some Tryz.f51) (.n (some Tryz.f83) (.n (some Tryz.f147) (.n (some Tryz.f275) .e .e) (.n (some Tryz.f403) .e .e)) (.n (some Tryz.f211) (.n (some Tryz.f339) .e .e) .e)) (.n (some Tryz.f115) (.n (some Tryz.f179) (.n (some Tryz.f307) .e .e) .e) (.n (some Tryz.f243) (.n (some Tryz.f371) .e .e) .e)))) (.n (some Tryz.f27) (.n (some Tryz.f43) (.n (some Tryz.f75) (.n (some Tryz.f139) (.n (some Tryz.f267) .e .e) (.n (some Tryz.f395) .e .e)) (.n (some Tryz.f203) (.n (some Tryz.f331) .e .e) .e)) (.n (some Tryz.f107) (.n (some Tryz.f171) (.n (some Tryz.f299) .e .e) (.n (some Tryz.f427) .e .e)) (.n none (.n (some Tryz.f363) .e .e) .e))) (.n (some Tryz.f59) (.n (some Tryz.f91) (.n (some Tryz.f155) (.n (some Tryz.f283) .e .e) (.n (some Tryz.f411) .e .e)) (.n (some Tryz.f219) (.n (some Tryz.f347) .e .e) .e)) (.n (some Tryz.f123) (.n (some Tryz.f187) (.n (some Tryz.f315) .e .e) .e) (.n (some Tryz.f251) (.n (some Tryz.f379) .e .e) .e)))))) (.n (some Tryz.f5) (.n (some Tryz.f9) (.n (some Tryz.f17) (.n (some Tryz.f33) (.n (some Tryz.f65) (.n (some Tryz.f129) (.n (some Tryz.f257) .e .e) .e) (.n (some Tryz.f193) .e .e)) (.n (some Tryz.f97) (.n (some Tryz.f161) (.n (some Tryz.f289) .e .e) (.n (some Tryz.f417) .e .e)) (.n (some Tryz.f225) (.n (some Tryz.f353) .e .e) .e))) (.n (some Tryz.f49) (.n (some Tryz.f81) (.n (some Tryz.f145) (.n (some Tryz.f273) .e .e) (.n (some Tryz.f401) .e .e)) (.n (some Tryz.f209) (.n (some Tryz.f337) .e .e) .e)) (.n (some Tryz.f113) (.n (some Tryz.f177) (.n (some Tryz.f305) .e .e) (.n (some Tryz.f433) .e .e)) (.n (some Tryz.f241) (.n (some Tryz.f369) .e .e) .e)))) (.n (some Tryz.f25) (.n (some Tryz.f41) (.n (some Tryz.f73) (.n (some Tryz.f137) (.n (some Tryz.f265) .e .e) (.n (some Tryz.f393) .e .e)) (.n (some Tryz.f201) (.n (some Tryz.f329) .e .e) .e)) (.n (some Tryz.f105) (.n (some Tryz.f169) (.n (some Tryz.f297) .e .e) (.n (some Tryz.f425) .e .e)) (.n none (.n (some Tryz.f361) .e .e) .e))) (.n (some Tryz.f57) (.n (some Tryz.f89) (.n (some Tryz.f153) (.n (some Tryz.f281) .e .e) (.n (some Tryz.f409) .e .e)) (.n (some Tryz.f217) (.n (some Tryz.f345) .e .e) .e)) (.n (some Tryz.f121) (.n (some Tryz.f185) (.n (some Tryz.f313) .e .e) .e) (.n (some Tryz.f249) (.n (some Tryz.f377) .e .e) .e))))) (.n (some Tryz.f13) (.n (some Tryz.f21) (.n (some Tryz.f37) (.n (some Tryz.f69) (.n none (.n (some Tryz.f261) .e .e) (.n (some Tryz.f389) .e .e)) (.n (some Tryz.f197) (.n (some Tryz.f325) .e .e) .e)) (.n (some Tryz.f101) (.n (some Tryz.f165) (.n (some Tryz.f293) .e .e) (.n (some Tryz.f421) .e .e)) (.n (some Tryz.f229) (.n (some Tryz.f357) .e .e) .e))) (.n (some Tryz.f53) (.n (some Tryz.f85) (.n (some Tryz.f149) (.n (some Tryz.f277) .e .e) (.n (some Tryz.f405) .e .e)) (.n (some Tryz.f213) (.n (some Tryz.f341) .e .e) .e)) (.n (some Tryz.f117) (.n (some Tryz.f181) (.n (some Tryz.f309) .e .e) .e) (.n (some Tryz.f245) (.n (some Tryz.f373) .e .e) .e)))) (.n (some Tryz.f29) (.n (some Tryz.f45) (.n (some Tryz.f77) (.n (some Tryz.f141) (.n (some Tryz.f269) .e .e) (.n (some Tryz.f397) .e .e)) (.n (some Tryz.f205) (.n (some Tryz.f333) .e .e) .e)) (.n (some Tryz.f109) (.n (some Tryz.f173) (.n (some Tryz.f301) .e .e) (.n (some Tryz.f429) .e .e)) (.n none (.n (some Tryz.f365) .e .e) .e))) (.n (some Tryz.f61) (.n (some Tryz.f93) (.n (some Tryz.f157) (.n (some Tryz.f285) .e .e) (.n (some Tryz.f413) .e .e)) (.n (some Tryz.f221) (.n (some Tryz.f349) .e .e) .e)) (.n (some Tryz.f125) (.n (some Tryz.f189) (.n (some Tryz.f317) .e .e) .e) (.n (some Tryz.f253) (.n (some Tryz.f381) .e .e) .e))))))) (.n none (.n (some Tryz.f4) (.n (some Tryz.f8) (.n (some Tryz.f16) (.n (some Tryz.f32) (.n (some Tryz.f64) (.n (some Tryz.f128) (.n (some Tryz.f256) .e .e) .e) (.n (some Tryz.f192) .e .e)) (.n (some Tryz.f96) (.n (some Tryz.f160) (.n (some Tryz.f288) .e .e) (.n (some Tryz.f416) .e .e)) (.n (some Tryz.f224) (.n (some Tryz.f352) .e .e) .e))) (.n (some Tryz.f48) (.n (some Tryz.f80) (.n (some Tryz.f144) (.n (some Tryz.f272) .e .e) (.n (some Tryz.f400) .e .e)) (.n (some Tryz.f208) (.n (some Tryz.f336) .e .e) .e)) (.n (some Tryz.f112) (.n (some Tryz.f176) (.n (some Tryz.f304) .e .e) (.n (some Tryz.f432) .e .e)) (.n (some Tryz.f240) (.n (some Tryz.f368) .e .e) .e)))) (.n (some Tryz.f24) (.n (some Tryz.f40) (.n (some Tryz.f72) (.n (some Tryz.f136) (.n (some Tryz.f264) .e .e) (.n (some Tryz.f392) .e .e)) (.n (some Tryz.f200) (.n (some Tryz.f328) .e .e) .e)) (.n (some Tryz.f104) (.n (some Tryz.f168) (.n (some Tryz.f296) .e .e) (.n (some Tryz.f424) .e .e)) (.n (some Tryz.f232) (.n (some Tryz.f360) .e .e) .e))) (.n (some Tryz.f56) (.n (some Tryz.f88) (.n (some Tryz.f152) (.n (some Tryz.f280) .e .e) (.n (some Tryz.f408) .e .e)) (.n (some Tryz.f216) (.n (some Tryz.f344) .e .e) .e)) (.n (some Tryz.f120) (.n (some Tryz.f184) (.n (some Tryz.f312) .e .e) .e) (.n (some Tryz.f248) (.n (some Tryz.f376) .e .e) .e))))) (.n (some Tryz.f12) (.n (some Tryz.f20) (.n (some Tryz.f36) (.n (some Tryz.f68) (.n none (.n (some Tryz.f260) .e .e) (.n (some Tryz.f388) .e .e)) (.n (some Tryz.f196) (.n (some Tryz.f324) .e .e) .e)) (.n (some Tryz.f100) (.n (some Tryz.f164) (.n (some Tryz.f292) .e .e) (.n (some Tryz.f420) .e .e)) (.n (some Tryz.f228) (.n (some Tryz.f356) .e .e) .e))) (.n (some Tryz.f52) (.n (some Tryz.f84) (.n (some Tryz.f148) (.n (some Tryz.f276) .e .e) (.n (some Tryz.f404) .e .e)) (.n (some Tryz.f212) (.n (some Tryz.f340) .e .e) .e)) (.n (some Tryz.f116) (.n (some Tryz.f180) (.n (some Tryz.f308) .e .e) .e) (.n (some Tryz.f244) (.n (some Tryz.f372) .e .e) .e)))) (.n (some Tryz.f28) (.n (some Tryz.f44) (.n (some Tryz.f76) (.n (some Tryz.f140) (.n (some Tryz.f268) .e .e) (.n (some Tryz.f396) .e .e)) (.n (some Tryz.f204) (.n (some Tryz.f332) .e .e) .e)) (.n (some Tryz.f108) (.n (some Tryz.f172) (.n (some Tryz.f300) .e .e) (.n (some Tryz.f428) .e .e)) (.n none (.n (some Tryz.f364) .e .e) .e))) (.n (some Tryz.f60) (.n (some Tryz.f92) (.n (some Tryz.f156) (.n (some Tryz.f284) .e .e) (.n (some Tryz.f412) .e .e)) (.n (some Tryz.f220) (.n (some Tryz.f348) .e .e) .e)) (.n (some Tryz.f124) (.n (some Tryz.f188) (.n (some Tryz.f316) .e .e) .e) (.n (some Tryz.f252) (.n (some Tryz.f380) .e .e) .e)))))) (.n (some Tryz.f6) (.n (some Tryz.f10) (.n (some Tryz.f18) (.n (some Tryz.f34) (.n (some Tryz.f66) (.n (some Tryz.f130) (.n (some Tryz.f258) .e .e) (.n (some Tryz.f386) .e .e)) (.n (some Tryz.f194) (.n (some Tryz.f322) .e .e) .e)) (.n (some Tryz.f98) (.n (some Tryz.f162) (.n (some Tryz.f290) .e .e) (.n (some Tryz.f418) .e .e)) (.n (some Tryz.f226) (.n (some Tryz.f354) .e .e) .e))) (.n (some Tryz.f50) (.n (some Tryz.f82) (.n (some Tryz.f146) (.n (some Tryz.f274) .e .e) (.n (some Tryz.f402) .e .e)) (.n (some Tryz.f210) (.n (some Tryz.f338) .e .e) .e)) (.n (some Tryz.f114) (.n (some Tryz.f178) (.n (some Tryz.f306) .e .e) (.n (some Tryz.f434) .e .e)) (.n (some Tryz.f242) (.n (some Tryz.f370) .e .e) .e)))) (.n (some Tryz.f26) (.n (some Tryz.f42) (.n (some Tryz.f74) (.n (some Tryz.f138) (.n (some Tryz.f266) .e .e) (.n (some Tryz.f394) .e .e)) (.n (some Tryz.f202) (.n (some Tryz.f330) .e .e) .e)) (.n (some Tryz.f106) (.n (some Tryz.f170) (.n (some Tryz.f298) .e .e) (.n (some Tryz.f426) .e .e)) (.n none (.n (some Tryz.f362) .e .e) .e))) (.n (some Tryz.f58) (.n (some Tryz.f90) (.n (some Tryz.f154) (.n (some Tryz.f282) .e .e) (.n (some Tryz.f410) .e .e)) (.n (some Tryz.f218) (.n (some Tryz.f346) .e .e) .e)) (.n (some Tryz.f122) (.n (some Tryz.f186) (.n (some Tryz.f314) .e .e) .e) (.n (some Tryz.f250) (.n (some Tryz.f378) .e .e) .e))))) (.n (some Tryz.f14) (.n (some Tryz.f22) (.n (some Tryz.f38) (.n (some Tryz.f70) (.n (some Tryz.f134) (.n (some Tryz.f262) .e .e) (.n (some Tryz.f390) .e .e)) (.n (some Tryz.f198) (.n (some Tryz.f326) .e .e) .e)) (.n (some Tryz.f102) (.n (some Tryz.f166) (.n (some Tryz.f294) .e .e) (.n (some Tryz.f422) .e .e)) (.n (some Tryz.f230) (.n (some Tryz.f358) .e .e) .e))) (.n (some Tryz.f54) (.n (some Tryz.f86) (.n (some Tryz.f150) (.n (some Tryz.f278) .e .e) (.n (some Tryz.f406) .e .e)) (.n (some Tryz.f214) (.n (some Tryz.f342) .e .e) .e)) (.n (some Tryz.f118) (.n (some Tryz.f182) (.n (some Tryz.f310) .e .e) .e) (.n (some Tryz.f246) (.n (some Tryz.f374) .e .e) .e)))) (.n (some Tryz.f30) (.n (some Tryz.f46) (.n (some Tryz.f78) (.n (some Tryz.f142) (.n (some Tryz.f270) .e .e) (.n (some Tryz.f398) .e .e)) (.n (some Tryz.f206) (.n (some Tryz.f334) .e .e) .e)) (.n (some Tryz.f110) (.n (some Tryz.f174) (.n (some Tryz.f302) .e .e) (.n (some Tryz.f430) .e .e)) (.n (some Tryz.f238) (.n (some Tryz.f366) .e .e) .e))) (.n (some Tryz.f62) (.n (some Tryz.f94) (.n (some Tryz.f158) (.n (some Tryz.f286) .e .e) (.n (some Tryz.f414) .e .e)) (.n (some Tryz.f222) (.n (some Tryz.f350) .e .e) .e)) (.n (some Tryz.f126) (.n (some Tryz.f190) (.n (some Tryz.f318) .e .e) .e) (.n (some Tryz.f254) (.n (some Tryz.f382) .e .e) .e)))))))
end Go.Proofs.YtaocoplfdhcoaaaGreatDoor.EvA

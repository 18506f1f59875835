/- What decimals and complex numbers are, as texts: definitions alone. No program in sight. -/
import Derived.Lib.ParseIntB
import Derived.Lib.Strings
namespace Go.Proofs.YtenpnejkgopghaaDoor.Form
open Go
def isDig (c : UInt8) : Bool := 48 ≤ c.toNat && c.toNat ≤ 57
/-- A decimal's digits, a '-' ahead taken off. -/
def body (l : List UInt8) : List UInt8 := Lib.trimPrefix l [45]
def formB (l : List UInt8) : Bool := !(body l).isEmpty && !((body l).head? == some 48 && l != [48]) && (body l).all isDig
/-- What Parse answers. -/
def parseS (l : List UInt8) : Int × Int :=
  if formB l then (match Lib.parseIntB 64 l with | .ok v => (v, 0) | _ => (0, 6)) else (0, 2)
end Go.Proofs.YtenpnejkgopghaaDoor.Form
namespace Go.Proofs.YtenpnejkgopghaaDoor.ParseC
/-- A digit's worth. -/
def hx (c : UInt8) : Option Nat := if 48 ≤ c.toNat ∧ c.toNat ≤ 57 then some (c.toNat - 48) else if 97 ≤ c.toNat ∧ c.toNat ≤ 102 then some (c.toNat - 87) else none
/-- The word of digits, the ones ahead being worth acc. -/
def wordL (acc : Nat) : List UInt8 → Option Nat
  | [] => some acc
  | c :: r => match hx c with
    | some d => wordL ((acc * 16 + d) % 18446744073709551616) r
    | none => none
/-- What both ParseC answer. -/
def parseC (l : List UInt8) : Int × Int × Int :=
  if l.length = 34 ∧ l.take 2 = [48, 99] then
    (match wordL 0 ((l.drop 2).take 16), wordL 0 (l.drop 18) with
     | some a, some b => ((a : Int), (b : Int), 0)
     | _, _ => (0, 0, 2))
  else (0, 0, 2)
end Go.Proofs.YtenpnejkgopghaaDoor.ParseC

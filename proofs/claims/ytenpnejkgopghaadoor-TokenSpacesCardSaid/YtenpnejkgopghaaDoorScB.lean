/- Proved: what is asked of a byte, byte by byte: the scanner's functions and the reference's. Conditions: none. -/
import Derived.Test.YtenpnejkgopghaaDoorSc
set_option linter.unusedSectionVars false
namespace Go.Proofs.YtenpnejkgopghaaDoor.Tok
open Go Go.RowKit Go.Proofs.YtenpnejkgopghaaDoor.AK
theorem small_calls (c : UInt8) (w : World) : Calls Tryd.prog 39 #[.int .u8 (c.toNat : Int)] w fun e w' => e = .returned (.bool (isSmall c)) ∧ Below w.heap.size w w' :=
  letI := Env.plain
  byte_calls .nil (by kernel_rfl) rfl c w
theorem capital_calls (c : UInt8) (w : World) : Calls Tryd.prog 36 #[.int .u8 (c.toNat : Int)] w fun e w' => e = .returned (.bool (isCap c)) ∧ Below w.heap.size w w' :=
  letI := Env.plain
  byte_calls .nil (by kernel_rfl) rfl c w
theorem digit_calls (c : UInt8) (w : World) : Calls Tryd.prog 40 #[.int .u8 (c.toNat : Int)] w fun e w' => e = .returned (.bool (isDigit c)) ∧ Below w.heap.size w w' :=
  letI := Env.plain
  byte_calls .nil (by kernel_rfl) rfl c w
theorem wordy_calls (c : UInt8) (w : World) : Calls Tryd.prog 37 #[.int .u8 (c.toNat : Int)] w fun e w' => e = .returned (.bool (isWordy c)) ∧ Below w.heap.size w w' :=
  letI := Env.plain
  byte_calls .nil (by kernel_rfl) rfl c w
theorem sign_calls (c : UInt8) (w : World) : Calls Tryd.prog 45 #[.int .u8 (c.toNat : Int)] w fun e w' => e = .returned (.bool (isSign c)) ∧ Below w.heap.size w w' :=
  letI := Env.plain
  byte_calls .nil (by kernel_rfl) rfl c w
theorem skip1_calls (c : UInt8) (w : World) : Calls Tryd.prog 30 #[.int .u8 (c.toNat : Int)] w fun e w' => e = .returned (.bool (isWhite c)) ∧ Below w.heap.size w w' :=
  letI := Env.plain
  byte_calls .nil (by kernel_rfl) rfl c w
theorem skip2_calls (c : UInt8) (w : World) : Calls Tryd.prog 33 #[.int .u8 (c.toNat : Int)] w fun e w' => e = .returned (.bool (notNl c)) ∧ Below w.heap.size w w' :=
  letI := Env.plain
  byte_calls .nil (p := notNl) (by kernel_rfl) rfl c w
theorem inWhite_calls (c : UInt8) (w : World) : Calls Tryd.prog 31 #[.int .u8 (c.toNat : Int), .string ⟨#[32, 9, 10, 13]⟩] w fun e w' => e = .returned (.bool (isWhite c)) ∧ Below w.heap.size w w' :=
  letI := Env.plain
  byte_calls (rest := [.str 4 537463309]) (.cons (Is.str _ _ _ rfl (by kernel_rfl)) .nil) (by kernel_rfl) rfl c w
theorem inPunct_calls (c : UInt8) (w : World) : Calls Tryd.prog 31 #[.int .u8 (c.toNat : Int), .string ⟨#[40, 41, 91, 93, 44, 124]⟩] w fun e w' => e = .returned (.bool (isPunct c)) ∧ Below w.heap.size w w' :=
  letI := Env.plain
  byte_calls (rest := [.str 6 44158091603068]) (.cons (Is.str _ _ _ rfl (by kernel_rfl)) .nil) (by kernel_rfl) rfl c w
theorem rlower_calls (c : UInt8) (w : World) : Calls Tryd.prog 53 #[.int .u8 (c.toNat : Int)] w fun e w' => e = .returned (.bool (isSmall c)) ∧ Below w.heap.size w w' :=
  letI := Env.plain
  byte_calls .nil (by kernel_rfl) rfl c w
theorem rupper_calls (c : UInt8) (w : World) : Calls Tryd.prog 50 #[.int .u8 (c.toNat : Int)] w fun e w' => e = .returned (.bool (isCap c)) ∧ Below w.heap.size w w' :=
  letI := Env.plain
  byte_calls .nil (by kernel_rfl) rfl c w
theorem rdigit_calls (c : UInt8) (w : World) : Calls Tryd.prog 54 #[.int .u8 (c.toNat : Int)] w fun e w' => e = .returned (.bool (isDigit c)) ∧ Below w.heap.size w w' :=
  letI := Env.plain
  byte_calls .nil (by kernel_rfl) rfl c w
theorem rword_calls (c : UInt8) (w : World) : Calls Tryd.prog 70 #[.int .u8 (c.toNat : Int)] w fun e w' => e = .returned (.bool (isWordy c)) ∧ Below w.heap.size w w' :=
  letI := Env.plain
  byte_calls .nil (by kernel_rfl) rfl c w
theorem rwhite_calls (c : UInt8) (w : World) : Calls Tryd.prog 49 #[.int .u8 (c.toNat : Int)] w fun e w' => e = .returned (.bool (isWhite c)) ∧ Below w.heap.size w w' :=
  letI := Env.plain
  byte_calls .nil (by kernel_rfl) rfl c w
end Go.Proofs.YtenpnejkgopghaaDoor.Tok

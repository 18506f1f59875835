/- The start that fits what this seat's rows list of the library's variables, and what such a list says. Nothing of the program is claimed here. -/
import Derived.Test.YtenpnejkgopghaaDoorRows
import Derived.LaidLaws
import Derived.Lib.LaidTab
import Derived.Stop.LaidErr
import Derived.Deep.DeepLaidRun
import Derived.ChangeAt
import Derived.Below
import Derived.ProofKit
namespace Go.Proofs.YtenpnejkgopghaaDoor.LaidW
open Go Go.RowKit Go.ChangeAt

/-- So many blocks has the settled world. -/
noncomputable def low : Nat := (World.holding Tryd.prog default ⟨#[], #[], []⟩).heap.size
def setdeBruijn32tab : Obj → Obj
  | .cells _ t frozen => .cells #[.int .u8 0, .int .u8 1, .int .u8 28, .int .u8 2, .int .u8 29, .int .u8 14, .int .u8 24, .int .u8 3, .int .u8 30, .int .u8 22, .int .u8 20, .int .u8 15, .int .u8 25, .int .u8 17, .int .u8 4, .int .u8 8, .int .u8 31, .int .u8 27, .int .u8 13, .int .u8 23, .int .u8 21, .int .u8 19, .int .u8 16, .int .u8 7, .int .u8 26, .int .u8 12, .int .u8 18, .int .u8 6, .int .u8 11, .int .u8 5, .int .u8 10, .int .u8 9] t frozen
  | o => o
def setdeBruijn64tab : Obj → Obj
  | .cells _ t frozen => .cells #[.int .u8 0, .int .u8 1, .int .u8 56, .int .u8 2, .int .u8 57, .int .u8 49, .int .u8 28, .int .u8 3, .int .u8 61, .int .u8 58, .int .u8 42, .int .u8 50, .int .u8 38, .int .u8 29, .int .u8 17, .int .u8 4, .int .u8 62, .int .u8 47, .int .u8 59, .int .u8 36, .int .u8 45, .int .u8 43, .int .u8 51, .int .u8 22, .int .u8 53, .int .u8 39, .int .u8 33, .int .u8 30, .int .u8 24, .int .u8 18, .int .u8 12, .int .u8 5, .int .u8 63, .int .u8 55, .int .u8 48, .int .u8 27, .int .u8 60, .int .u8 41, .int .u8 37, .int .u8 16, .int .u8 46, .int .u8 35, .int .u8 44, .int .u8 21, .int .u8 52, .int .u8 32, .int .u8 23, .int .u8 11, .int .u8 54, .int .u8 26, .int .u8 40, .int .u8 15, .int .u8 34, .int .u8 20, .int .u8 31, .int .u8 10, .int .u8 25, .int .u8 14, .int .u8 19, .int .u8 9, .int .u8 13, .int .u8 8, .int .u8 7, .int .u8 6] t frozen
  | o => o
def setuint64pow10 : Obj → Obj
  | .cells _ t frozen => .cells #[.int .u64 1, .int .u64 10, .int .u64 100, .int .u64 1000, .int .u64 10000, .int .u64 100000, .int .u64 1000000, .int .u64 10000000, .int .u64 100000000, .int .u64 1000000000, .int .u64 10000000000, .int .u64 100000000000, .int .u64 1000000000000, .int .u64 10000000000000, .int .u64 100000000000000, .int .u64 1000000000000000, .int .u64 10000000000000000, .int .u64 100000000000000000, .int .u64 1000000000000000000, .int .u64 10000000000000000000] t frozen
  | o => o
noncomputable def setErrRange : Obj → Obj
  | .cells _ t frozen => .cells #[.iface 109 (.pointer (some ⟨low + 0, 0, none⟩))] t frozen
  | o => o
noncomputable def setErrSyntax : Obj → Obj
  | .cells _ t frozen => .cells #[.iface 109 (.pointer (some ⟨low + 1, 0, none⟩))] t frozen
  | o => o
/-- The settled world, the listed variables as their initialisers lay them. -/
noncomputable def world (os : Os) : World :=
  let w0 := World.holding Tryd.prog os ⟨#[.cells #[.string ⟨#[118, 97, 108, 117, 101, 32, 111, 117, 116, 32, 111, 102, 32, 114, 97, 110, 103, 101]⟩] 111, .cells #[.string ⟨#[105, 110, 118, 97, 108, 105, 100, 32, 115, 121, 110, 116, 97, 120]⟩] 111], #[], []⟩
  { w0 with heap := (((((w0.heap.modify 2 setdeBruijn32tab).modify 3 setdeBruijn64tab).modify 1 setuint64pow10).modify 5 setErrRange).modify 4 setErrSyntax) }

theorem star : "*" ++ "errors.errorString" = "*errors.errorString" := by decide
theorem row_sent (u : TypeId) (h : Tryd.prog.typeName? 3 u = some "*errors.errorString") : u = 109 :=
  Go.typeName_ptr_named (nm := "errors.errorString") (by rw [star]; kernel_rfl) (by kernel_rfl) (by decide) u (by rw [star]; exact h)
def tabdeBruijn32tab : List Int := [0, 1, 28, 2, 29, 14, 24, 3, 30, 22, 20, 15, 25, 17, 4, 8, 31, 27, 13, 23, 21, 19, 16, 7, 26, 12, 18, 6, 11, 5, 10, 9]
def tabdeBruijn64tab : List Int := [0, 1, 56, 2, 57, 49, 28, 3, 61, 58, 42, 50, 38, 29, 17, 4, 62, 47, 59, 36, 45, 43, 51, 22, 53, 39, 33, 30, 24, 18, 12, 5, 63, 55, 48, 27, 60, 41, 37, 16, 46, 35, 44, 21, 52, 32, 23, 11, 54, 26, 40, 15, 34, 20, 31, 10, 25, 14, 19, 9, 13, 8, 7, 6]
def tabuint64pow10 : List Int := [1, 10, 100, 1000, 10000, 100000, 1000000, 10000000, 100000000, 1000000000, 10000000000, 100000000000, 1000000000000, 10000000000000, 100000000000000, 1000000000000000, 10000000000000000, 100000000000000000, 1000000000000000000, 10000000000000000000]
/-- What the variables of the 1. list hold. -/
structure Laid (W : World) : Prop where
  deBruijn32tab : Lib.TabIs Tryd.prog W "math/bits.deBruijn32tab" .u8 tabdeBruijn32tab
  deBruijn64tab : Lib.TabIs Tryd.prog W "math/bits.deBruijn64tab" .u8 tabdeBruijn64tab
  uint64pow10 : Lib.TabIs Tryd.prog W "internal/strconv.uint64pow10" .u64 tabuint64pow10
  ErrRange : ∃ (a : Addr) (s : ByteArray), W.var? Tryd.prog "strconv.ErrRange" = some #[.iface 109 (.pointer (some a))] ∧ W.cell? a = some (.string s) ∧ s.data.toList = [118, 97, 108, 117, 101, 32, 111, 117, 116, 32, 111, 102, 32, 114, 97, 110, 103, 101]
  ErrSyntax : ∃ (a : Addr) (s : ByteArray), W.var? Tryd.prog "strconv.ErrSyntax" = some #[.iface 109 (.pointer (some a))] ∧ W.cell? a = some (.string s) ∧ s.data.toList = [105, 110, 118, 97, 108, 105, 100, 32, 115, 121, 110, 116, 97, 120]
set_option maxRecDepth 100000 in
theorem of_deBruijn32tab_deBruijn64tab_uint64pow10_ErrRange_ErrSyntax {W : World} (h0 : laidMet Tryd.prog [("math/bits.deBruijn32tab", Rows.laid_math_bits_deBruijn32tab), ("math/bits.deBruijn64tab", Rows.laid_math_bits_deBruijn64tab), ("internal/strconv.uint64pow10", Rows.laid_internal_strconv_uint64pow10), ("strconv.ErrRange", Rows.laid_strconv_ErrRange), ("strconv.ErrSyntax", Rows.laid_strconv_ErrSyntax)] W) : Laid W := by
  have h1 := h0.tail
  have h2 := h1.tail
  have h3 := h2.tail
  have h4 := h3.tail
  exact ⟨Lib.tabIs_of_head (g := 2) (by kernel_rfl) (by kernel_rfl) Tryd.underlying102 Tryd.underlying5 (by kernel_rfl) (by kernel_rfl) h0,
    Lib.tabIs_of_head (g := 3) (by kernel_rfl) (by kernel_rfl) Tryd.underlying103 Tryd.underlying5 (by kernel_rfl) (by kernel_rfl) h1,
    Lib.tabIs_of_head (g := 1) (by kernel_rfl) (by kernel_rfl) Tryd.underlying87 Tryd.underlying22 (by kernel_rfl) (by kernel_rfl) h2,
    (let ⟨a, s, h1, h2, h3, _⟩ := laid_sentinel h3 (g := 5) (by kernel_rfl) (by kernel_rfl) Tryd.underlying83 row_sent Tryd.underlying109 Tryd.underlying111 rfl rfl Tryd.underlying9 (by kernel_rfl) (by kernel_rfl); ⟨a, s, h1, h2, h3⟩),
    (let ⟨a, s, h1, h2, h3, _⟩ := laid_sentinel h4 (g := 4) (by kernel_rfl) (by kernel_rfl) Tryd.underlying83 row_sent Tryd.underlying109 Tryd.underlying111 rfl rfl Tryd.underlying9 (by kernel_rfl) (by kernel_rfl); ⟨a, s, h1, h2, h3⟩)⟩
end Go.Proofs.YtenpnejkgopghaaDoor.LaidW

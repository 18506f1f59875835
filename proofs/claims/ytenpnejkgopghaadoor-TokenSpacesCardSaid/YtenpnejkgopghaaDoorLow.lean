/- Proved: the laws' lower(s), remark(s). Conditions: the text's length. -/
import Derived.Test.YtenpnejkgopghaaDoorWordP
import Derived.Test.YtenpnejkgopghaaDoorProg
import Derived.WalkKit
import Derived.Lib.Hide
import Derived.KernelRfl
set_option linter.unusedVariables false
set_option maxRecDepth 100000
set_option linter.unusedSectionVars false
set_option linter.unusedSimpArgs false
namespace Go.Proofs.YtenpnejkgopghaaDoor.Tok
open Go Go.RowKit
theorem at8_bk {s : ByteArray} {k : Nat} {c : Int} (hlt : k < s.size) (hc : c = ((at8 s k).toNat : Int)) : ∀ h : k < s.size, ((s[k]'h).toNat : Int) = c := fun h => by rw [hc, at8_eq h]
set_option maxHeartbeats 3200000 in
theorem remark_calls (s : ByteArray) (hs : s.size ≤ 1000000) (b : Bool) (hb : b = true ↔ ∃ k, k < s.size ∧ (at8 s k).toNat = 37) (w : World) : Calls Tryd.prog 12 #[.string s] w fun e w' => e = .returned (.bool b) ∧ Below w.heap.size w w' := by
  have HB := Lib.hid hb
  clear hb
  go_enter Tryd.func12, Tryd.ntmps12
  go_wp2
  go_loop [6] (fun i => ∃ k : Nat, k ≤ s.size ∧ i = .int .i64 k ∧ ∀ j, j < k → (at8 s j).toNat ≠ 37) (fun i => s.size - (intOf i).toNat)
  case atStart => exact ⟨0, Nat.zero_le _, rfl, fun j hj => absurd hj (Nat.not_lt_zero j)⟩
  case round =>
    obtain ⟨k, hk, rfl, hall⟩ := hrel
    have HA := Lib.hid hall
    clear hall
    by_cases hlt : k < s.size
    · obtain ⟨c, hc⟩ : ∃ c : Int, c = ((at8 s k).toNat : Int) := ⟨_, rfl⟩
      have bk := at8_bk hlt hc
      have HC := Lib.hid hc
      clear hc
      by_cases c1 : c = 37
      · go_wp2
        go_ret
        refine ⟨?_, Below.refl _ _⟩
        have : b = true := HB.out.2 ⟨k, hlt, by have := HC.out; omega⟩
        rw [this]; rfl
      · go_wp2
        go_round
        case rel =>
          refine ⟨k + 1, by omega, by go_num, fun j hj => ?_⟩
          by_cases e : j = k
          · rw [e]; have := HC.out; omega
          · exact HA.out j (by omega)
        case measure => simp [intOf]; omega
    · obtain rfl : k = s.size := by omega
      go_wp2
      go_ret
      refine ⟨?_, Below.refl _ _⟩
      have : b = false := Bool.eq_false_iff.2 fun h => by
        obtain ⟨k, h1, h2⟩ := HB.out.1 h
        exact HA.out k h1 h2
      rw [this]; rfl
end Go.Proofs.YtenpnejkgopghaaDoor.Tok

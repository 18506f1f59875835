/- Proved: elenchusref1.TextC is the text of two words. Conditions: the words are words of 64 bits; math/bits' table holds what its text lays in it. -/
import Derived.Test.YtenpnejkgopghaaDoorHex
set_option linter.unusedSectionVars false
set_option linter.unusedSimpArgs false
namespace Go.Proofs.YtenpnejkgopghaaDoor.Hex
open Go Go.RowKit Go.Proofs.YtenpnejkgopghaaDoor.Form Go.Proofs.YtenpnejkgopghaaDoor.ParseC Go.Proofs.YtenpnejkgopghaaDoor.Put
open Go.Lib (hid)
set_option linter.unusedVariables false

/-- The cell of math/bits' table that the calls read. -/
structure Tz (w : World) : Prop where
  lt : 3 < w.heap.size
  cell : w.cell? ⟨3, 15, none⟩ = some (.int .u8 4)
theorem Tz.below {w w' : World} (h : Tz w) (hb : Below w.heap.size w w') : Tz w' :=
  ⟨Nat.lt_of_lt_of_le h.lt hb.size, by rw [World.cell?_of_block (hb.block _ h.lt)]; exact h.cell⟩

theorem inner_any (x : Int) (hx : 0 ≤ x ∧ x < 18446744073709551616) (w : World) (T : Tz w) :
    Calls Tryd.prog 69 #[.int .u64 x, .int .i64 16] w fun e w' => ∃ n, e = .returned (.string (strOfNums (lowd x.toNat n))) ∧ 1 ≤ n ∧ n ≤ 16 ∧ x.toNat < 16 ^ n ∧ Below w.heap.size w w' := by
  have HX := hid hx
  clear hx
  go_enter Tryd.func69, Tryd.ntmps69
  go_wp2_with (first | (go_at_call 68; (with_reducible refine (bits_any x HX.out _ T.lt T.cell).mono ?_); rintro e w' ⟨n, rfl, h1, h2, h3, hb⟩; have H := hid (And.intro h1 (And.intro h2 (And.intro h3 hb))); clear h1 h2 h3 hb))
  go_ret
  exact ⟨n, rfl, H.out⟩
theorem outer_any (x : Int) (hx : 0 ≤ x ∧ x < 18446744073709551616) (w : World) (T : Tz w) :
    Calls Tryd.prog 48 #[.int .u64 x, .int .i64 16] w fun e w' => ∃ n, e = .returned (.string (strOfNums (lowd x.toNat n))) ∧ 1 ≤ n ∧ n ≤ 16 ∧ x.toNat < 16 ^ n ∧ Below w.heap.size w w' := by
  have HX := hid hx
  clear hx
  go_enter Tryd.func48, Tryd.ntmps48
  go_wp2_with (first | (go_at_call 69; (with_reducible refine (inner_any x HX.out _ T).mono ?_); rintro e w' ⟨n, rfl, h1, h2, h3, hb⟩; have H := hid (And.intro h1 (And.intro h2 (And.intro h3 hb))); clear h1 h2 h3 hb))
  go_ret
  exact ⟨n, rfl, H.out⟩

theorem size_str (xs : List Int) : (strOfNums xs).size = xs.length := by
  show ((xs.map _).toArray).size = _
  simp
def sz : Value → Nat
  | .string s => s.size
  | _ => 0
theorem pad_one (u m : Nat) (h : u < 16 ^ m) : (⟨#[48]⟩ : ByteArray) ++ strOfNums (lowd u m) = strOfNums (lowd u (m + 1)) := by
  rw [lowd_cons, Nat.div_eq_of_lt h]
  apply ByteArray.ext
  rw [ByteArray.data_append]
  show #[48] ++ ((lowd u m).map _).toArray = ((hexd 0 :: lowd u m).map _).toArray
  simp [hexd]

set_option maxHeartbeats 1600000 in
theorem hex_any (x : Int) (hx : 0 ≤ x ∧ x < 18446744073709551616) (w : World) (T : Tz w) :
    Calls Tryd.prog 25 #[.int .u64 x] w fun e w' => e = .returned (.string (strOfNums (hexs x 16))) ∧ Below w.heap.size w w' := by
  have HX := hid hx
  clear hx
  obtain ⟨u, hu⟩ : ∃ u, u = x.toNat := ⟨_, rfl⟩
  have hfin : lowd u 16 = hexs x 16 := by rw [hu]; have := lowd_hexs x 16 (Nat.le_refl _); simpa [hexs] using this
  have HF := hid hfin
  have HU := hid hu
  clear hfin hu
  go_enter Tryd.func25, Tryd.ntmps25
  go_wp2_with (first | (go_at_call 48; (with_reducible refine (outer_any x HX.out _ T).mono ?_); rintro e w' ⟨n, rfl, h1, h2, h3, hb⟩; have H := hid (And.intro h1 (And.intro h2 (And.intro h3 hb))); clear h1 h2 h3 hb))
  go_loop [3] (fun t => ∃ (m : Nat) (s : ByteArray), t = .string s ∧ s.size ≤ 16 ∧ Aside0 (s = strOfNums (lowd u m) ∧ s.size = m ∧ u < 16 ^ m)) (fun t => 16 - sz t)
  case atStart => exact ⟨n, _, rfl, by rw [size_str, lowd_len]; exact H.out.2.1, ⟨by rw [HU.out], by rw [size_str, lowd_len], by rw [HU.out]; exact H.out.2.2.1⟩⟩
  case round =>
    obtain ⟨m, s, rfl, hs, HM⟩ := hrel
    by_cases hlt : s.size < 16
    · go_wp2
      go_round
      case rel =>
        obtain ⟨q1, q2, q3⟩ := HM.out
        have e := pad_one u m q3
        rw [← q1] at e
        have e2 : ((⟨#[48]⟩ : ByteArray) ++ s).size = s.size + 1 := by rw [e, size_str, lowd_len, q2]
        exact ⟨m + 1, _, rfl, by omega, ⟨e, by omega, by have := Nat.pow_lt_pow_right (a := 16) (by omega) (Nat.lt_succ_self m); omega⟩⟩
      case measure =>
        show 16 - ((⟨#[48]⟩ : ByteArray) ++ s).size < 16 - s.size
        rw [ByteArray.size_append]
        show 16 - (1 + s.size) < 16 - s.size
        omega
    · go_wp2
      go_ret
      have : strOfNums (hexs x 16) = s := by
        obtain ⟨q1, q2, q3⟩ := HM.out
        rw [q1, ← HF.out]; congr 1; congr 1; omega
      exact ⟨by rw [this]; rfl, H.out.2.2.2⟩

theorem text_join (x y : Int) : ((⟨#[48, 99]⟩ : ByteArray) ++ strOfNums (hexs x 16)) ++ strOfNums (hexs y 16) = strOfNums (textC x y) := by
  apply ByteArray.ext
  rw [ByteArray.data_append, ByteArray.data_append]
  show (#[48, 99] ++ ((hexs x 16).map _).toArray) ++ ((hexs y 16).map _).toArray = ((textC x y).map _).toArray
  unfold textC
  simp

theorem reftextC_any (x y : Int) (hx : 0 ≤ x ∧ x < 18446744073709551616) (hy : 0 ≤ y ∧ y < 18446744073709551616) (w : World) (T : Tz w) :
    Calls Tryd.prog 15 #[.int .u64 x, .int .u64 y] w fun e w' => e = .returned (.string (strOfNums (textC x y))) ∧ Below w.heap.size w w' := by
  have HX := hid hx
  have HY := hid hy
  have J := hid (text_join x y)
  have s1 : (strOfNums (hexs x 16)).size = 16 := by rw [size_str, hexs_length]
  have s2 : (strOfNums (hexs y 16)).size = 16 := by rw [size_str, hexs_length]
  clear hx hy
  go_enter Tryd.func15, Tryd.ntmps15
  go_wp2_with fail
  (with_reducible refine (hex_any x HX.out _ T).mono ?_); rintro e w1 ⟨rfl, b1⟩
  have B1 := hid b1
  have T1 := hid (T.below b1)
  clear b1
  go_wp2_with fail
  (with_reducible refine (hex_any y HY.out _ T1.out).mono ?_); rintro e w2 ⟨rfl, b2⟩
  have B2 := hid (chain B1.out b2)
  clear b2
  go_wp2_with fail
  go_ret
  exact ⟨by rw [← J.out]; rfl, B2.out⟩
end Go.Proofs.YtenpnejkgopghaaDoor.Hex

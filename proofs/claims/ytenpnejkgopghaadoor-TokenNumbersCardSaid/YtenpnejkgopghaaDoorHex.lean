/- Proved: strconv.FormatUint at base 16 is a word's digits, and elenchusref1.TextC is the text of two words. Conditions: the words are words of 64 bits; math/bits' table holds what its text lays in it. -/
import Derived.Test.YtenpnejkgopghaaDoorBackC
import Derived.Test.YtenpnejkgopghaaDoorTextR
import Derived.Test.YtenpnejkgopghaaDoorLaidW
import Derived.Deep.CutBlock
import Derived.Laws.Rows
set_option linter.unusedSectionVars false
set_option linter.unusedSimpArgs false
namespace Go.Proofs.YtenpnejkgopghaaDoor.Hex
open Go Go.RowKit Go.Proofs.YtenpnejkgopghaaDoor.Form Go.Proofs.YtenpnejkgopghaaDoor.ParseC Go.Proofs.YtenpnejkgopghaaDoor.Put
open Go.Lib (hid)
set_option linter.unusedVariables false

/-- The last j digits of a number. -/
def lowd (u : Nat) : Nat → List Int
  | 0 => []
  | j + 1 => lowd (u / 16) j ++ [hexd (u % 16)]
theorem lowd_len (j : Nat) : ∀ u, (lowd u j).length = j := by
  induction j with
  | zero => intro u; rfl
  | succ j ih => intro u; unfold lowd; rw [List.length_append, ih]; rfl
theorem lowd_cons (j : Nat) : ∀ u, lowd u (j + 1) = hexd (u / 16 ^ j % 16) :: lowd u j := by
  induction j with
  | zero => intro u; simp [lowd]
  | succ j ih =>
    intro u
    rw [lowd, ih (u / 16), lowd]
    rw [Nat.div_div_eq_div_mul, Nat.pow_succ, Nat.mul_comm 16]
    rfl
theorem lowd_hexs (x : Int) : ∀ j, j ≤ 16 → hexs x (16 - j) ++ lowd x.toNat j = hexs x 16 := by
  intro j
  induction j with
  | zero => intro _; simp [lowd]
  | succ j ih =>
    intro hj
    rw [← ih (by omega), lowd_cons, show 16 - j = (16 - (j + 1)) + 1 by omega, hexs_succ, List.append_assoc]
    congr 2
    rw [show 15 - (16 - (j + 1)) = j by omega]

theorem byte36 (d : Nat) (h : d < 16) : ∀ hd : d < (⟨#[48, 49, 50, 51, 52, 53, 54, 55, 56, 57, 97, 98, 99, 100, 101, 102, 103, 104, 105, 106, 107, 108, 109, 110, 111, 112, 113, 114, 115, 116, 117, 118, 119, 120, 121, 122]⟩ : ByteArray).size, (((⟨#[48, 49, 50, 51, 52, 53, 54, 55, 56, 57, 97, 98, 99, 100, 101, 102, 103, 104, 105, 106, 107, 108, 109, 110, 111, 112, 113, 114, 115, 116, 117, 118, 119, 120, 121, 122]⟩ : ByteArray)[d]'hd).toNat : Int) = hexd d := fun hd =>
  (bt_at _ (d : Int) (by simpa using hd)).trans (by
    have : ∀ m : Fin 16, bt (⟨#[48, 49, 50, 51, 52, 53, 54, 55, 56, 57, 97, 98, 99, 100, 101, 102, 103, 104, 105, 106, 107, 108, 109, 110, 111, 112, 113, 114, 115, 116, 117, 118, 119, 120, 121, 122]⟩ : ByteArray) (m.val : Int) = hexd m.val := by decide
    exact this ⟨d, h⟩)

/-- A store into the row from above. -/
theorem row_down {wr : World} {B m u j y : Nat} {cur : Array Value} {t : TypeId} (h1 : m + j = 65) (h2 : y = u / 16 ^ j) (h3 : wr.heap[B]? = some (.cells cur t (0, 0))) (h4 : cur.size = 65) (h5 : cur.toList.drop m = nums .u8 (lowd u j)) (hm : 1 ≤ m) :
    ∃ (j' : Nat) (cur' : Array Value), m - 1 + j' = 65 ∧ y / 16 = u / 16 ^ j' ∧ (wr.setCell ⟨B, m - 1, none⟩ (.int .u8 (hexd (y % 16)))).heap[B]? = some (.cells cur' t (0, 0)) ∧ cur'.size = 65 ∧ cur'.toList.drop (m - 1) = nums .u8 (lowd u j') := by
  refine ⟨j + 1, _, by omega, by rw [h2, Nat.div_div_eq_div_mul, Nat.pow_succ], heap_setCell_same wr B (m - 1) cur t _ h3, by simpa using h4, ?_⟩
  rw [Array.toList_setIfInBounds, lowd_cons, List.drop_eq_getElem_cons (by simp; omega), List.getElem_set_self, List.drop_set_of_lt (by omega), show m - 1 + 1 = m by omega, h5, h2]
  rfl
theorem tz_any (w : World) (h : w.cell? ⟨3, 15, none⟩ = some (.int .u8 4)) :
    Calls Tryd.prog 85 #[.int .u64 16] w fun e w' => e = .returned (.int .i64 4) ∧ w = w' := by
  have h1 : Go.bits .and .u64 16 (IntKind.u64.wrap (-16)) = 16 := by decide
  have h2 : IntKind.u64.wrap (16 * 285870213051353865) / 288230376151711744 = 15 := by decide
  go_enter Tryd.func85, Tryd.ntmps85
  go_wp2
  go_ret
  exact ⟨rfl, rfl⟩
theorem slice_arr (W : World) (N : Nat) (l : Int) (k : Nat) (hk : l = (k : Int)) (h : k < 65) : (Instr.sliceAt 89 (.pointer (some ⟨N, 0, none⟩)) (some (.int .i64 l)) none none).run Tryd.prog W = .ok (.slice (some ⟨N, k, none⟩) (65 - k) (65 - k)) W := by
  subst hk
  have ht : Tryd.prog.underlying 89 = some (.array (Tryd.prog.arrayLen 89) (Tryd.prog.elem 89)) := by kernel_rfl
  have hl : Tryd.prog.arrayLen 89 = 65 := by kernel_rfl
  have he : Tryd.prog.elem 89 = 5 := by kernel_rfl
  have hs : ∀ w, (sizeOf 5).run Tryd.prog w = .ok 1 w := fun w => by kernel_rfl
  rw [run_sliceAt_array_l W _ ⟨N, 0, none⟩ ht .i64 (k : Int) (by omega) (by rw [hl]; omega), hl, he, hs]
  have ea : (⟨N, 0, none⟩ : Addr).add k = ⟨N, k, none⟩ := by unfold Addr.add; split <;> simp_all
  simp only [Result.andThen, slicedAt, Int.toNat_natCast, Nat.mul_one, ea]
  rw [if_neg (by omega)]
theorem pow_any (w : World) : Calls Tryd.prog 84 #[.int .i64 16] w fun e w' => e = .returned (.bool true) ∧ w = w' := by
  have h1 : Go.bits .and .i64 16 15 = 0 := by decide
  go_enter Tryd.func84, Tryd.ntmps84
  go_wp2
  go_ret
  exact ⟨rfl, rfl⟩

set_option maxHeartbeats 1600000 in
set_option maxRecDepth 100000 in
theorem bits_any (x : Int) (hx : 0 ≤ x ∧ x < 18446744073709551616) (w : World) (hg : 3 < w.heap.size) (h : w.cell? ⟨3, 15, none⟩ = some (.int .u8 4)) :
    Calls Tryd.prog 68 #[.slice none 0 0, .int .u64 x, .int .i64 16, .bool false, .bool false] w fun e w' => ∃ n, e = .returned (.tuple #[.slice none 0 0, .string (strOfNums (lowd x.toNat n))]) ∧ 1 ≤ n ∧ n ≤ 16 ∧ x.toNat < 16 ^ n ∧ Below w.heap.size w w' := by
  have HX := hid hx
  obtain ⟨u, hu⟩ : ∃ u : Nat, x = (u : Int) := ⟨x.toNat, by omega⟩
  subst hu
  clear hx
  have hcell := hid (fun (o : Obj) => show (w.alloc o).cell? ⟨3, 15, none⟩ = some (.int .u8 4) by rw [World.cell?_of_block (heap_alloc_old _ _ hg)]; exact h)
  clear h hg
  go_enter Tryd.func68, Tryd.ntmps68
  go_wp2_with (first | (go_at_call 85; (with_reducible refine (tz_any _ (hcell.out _)).mono ?_); rintro e w' ⟨rfl, rfl⟩) | (go_at_call 84; (with_reducible refine (pow_any _).mono ?_); rintro e w' ⟨rfl, rfl⟩))
  have hz : (Tryd.zeroCells89).size = 65 := by kernel_rfl
  go_loopw [1, 13] (fun v i wr => ∃ (y m : Nat), v = .int .u64 (y : Int) ∧ i = .int .i64 (m : Int) ∧ 50 ≤ m ∧ m ≤ 65 ∧ Aside0 (∃ (j : Nat) (cur : Array Value), m + j = 65 ∧ y = u / 16 ^ j ∧
      wr.heap[w.heap.size]? = some (.cells cur 89 (0, 0)) ∧ cur.size = 65 ∧ cur.toList.drop m = nums .u8 (lowd u j)) ∧ Aside0 (Below w.heap.size w wr)) (fun v _ _ => (intOf v).toNat)
  case atStart => exact ⟨u, 65, rfl, rfl, by omega, by omega, ⟨0, Tryd.zeroCells89, by omega, by simp, heap_alloc_new _ _, hz, by rw [List.drop_eq_nil_of_le (by rw [Array.length_toList]; omega)]; rfl⟩, ⟨(Below.refl _ _).alloc (Nat.le_refl _) _⟩⟩
  case round =>
    obtain ⟨y, m, rfl, rfl, hm1, hm2, HC, HB⟩ := hrel
    clear hcell hz
    have hyu : y < 18446744073709551616 ∧ (m = 50 → y < 16) := by
      obtain ⟨j, cur, h1, h2, h3, h4, h5⟩ := HC.out
      have := HX.out
      have hle : y ≤ u := by rw [h2]; exact Nat.div_le_self _ _
      refine ⟨by omega, fun h => ?_⟩
      have : j = 15 := by omega
      rw [h2, this]
      have e : (16 : Nat) ^ 15 = 1152921504606846976 := by decide
      rw [e]; omega
    have HYU := hid hyu
    clear hyu
    obtain ⟨c, cell, frz⟩ : ∃ c, wr.cell? ⟨w.heap.size, m - 1, none⟩ = some c ∧ wr.frozen? ⟨w.heap.size, m - 1, none⟩ = false := by
      obtain ⟨j, cur, h1, h2, h3, h4, h5⟩ := HC.out
      exact ⟨cur[m - 1]'(by omega), (cell_of_row wr _ _ _ _ _ h3).trans (Array.getElem?_eq_getElem _), frozen_of_row wr _ _ _ _ h3⟩
    by_cases hge : 16 ≤ y
    · have g1 : decide ((16 : Int) ≤ (y : Int)) = true := by simp; omega
      have hm : Go.bits .and .u64 (y : Int) 15 = ((y % 16 : Nat) : Int) := by rw [low4 _ (by omega) (by have := HYU.out; omega)]; rfl
      obtain ⟨d, hdd⟩ : ∃ d, d = y % 16 := ⟨_, rfl⟩
      rw [← hdd] at hm
      have hd2 : d < 16 := by omega
      have HDD := hid hdd
      clear hdd
      have hb := byte36 d hd2
      go_wp2
      go_roundw
      case rel =>
        obtain ⟨j, cur, q1, q2, q3, q4, q5⟩ := HC.out
        have R := row_down q1 q2 q3 q4 q5 (by omega)
        rw [← HDD.out] at R
        exact ⟨y / 16, m - 1, by first | rfl | go_num, by go_num, by have := HYU.out; omega, by omega, ⟨R⟩, ⟨HB.out.setCell (Nat.le_refl _) _⟩⟩
      case measure => simp [intOf]; omega
    · have g1 : decide ((16 : Int) ≤ (y : Int)) = false := by simp; omega
      have hb := byte36 y (by omega)
      have hsl := fun W => slice_arr W w.heap.size ((m : Int) - 1) (m - 1) (by omega) (by omega)
      obtain ⟨j, cur, q1, q2, q3, q4, q5⟩ := HC.out
      have R := row_down q1 q2 q3 q4 q5 (by omega)
      rw [Nat.mod_eq_of_lt (by omega : y < 16)] at R
      obtain ⟨j', cur', r1, r2, r3, r4, r5⟩ := R
      have hcv := run_convert_bytes_arg (P := Tryd.prog) (wr.setCell ⟨w.heap.size, m - 1, none⟩ (.int .u8 (hexd y))) 23 5 Tryd.underlying23 Tryd.underlying5 w.heap.size (m - 1) (65 - (m - 1)) (65 - (m - 1)) (lowd u j') (by rw [lowd_len]; omega) (fun i hi => by
        rw [cell_of_row _ _ _ _ _ _ r3]
        have e1 : cur'.toList.drop (m - 1) = nums .u8 (lowd u j') := r5
        have e2 := congrArg (fun l => l[i]?) e1
        simp only [List.getElem?_drop, nums, List.getElem?_map] at e2
        rw [← Array.getElem?_toList, e2, List.getElem?_eq_getElem (by rw [lowd_len]; omega), Option.map_some, List.getD_eq_getElem?_getD, List.getElem?_eq_getElem (by rw [lowd_len]; omega)]
        rfl) 9 Tryd.underlying9
      have hu : u < 16 ^ j' := by
        have h0 : u / 16 ^ j' = 0 := by omega
        exact (Nat.div_eq_zero_iff_lt (Nat.pow_pos (by omega))).1 h0
      have HU := hid (And.intro hu r1)
      have HB' := hid (HB.out.setCell (Nat.le_refl _) (p := ⟨w.heap.size, m - 1, none⟩) (.int .u8 (hexd y)))
      clear hu q1 q2 q3 q4 q5 r1 r2 r3 r4 r5 HC HB
      go_wp2
      go_ret2
      exact ⟨j', rfl, by have := HU.out.2; omega, by have := HU.out.2; omega, by simpa using HU.out.1, HB'.out⟩
end Go.Proofs.YtenpnejkgopghaaDoor.Hex

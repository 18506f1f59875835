/- Proved: for every four words and every text the call of NumberComplex returns true, and nothing that was there is changed. Conditions: the text is no longer than the reach; the library's variables hold what their texts lay in them. -/
import Derived.Test.YtbkojghbgoejcaaDoorHexT
import Derived.Test.YtbkojghbgoejcaaDoorFlS
import Derived.Test.YtbkojghbgoejcaaDoorPrC
namespace Go.Proofs.YtbkojghbgoejcaaDoor.Complex
open Go Go.RowKit Go.Proofs.YtbkojghbgoejcaaDoor.Form Go.Proofs.YtbkojghbgoejcaaDoor.ParseC Go.Proofs.YtbkojghbgoejcaaDoor.Put Go.Proofs.YtbkojghbgoejcaaDoor.Hex Go.Proofs.YtbkojghbgoejcaaDoor.FlW Go.Proofs.YtbkojghbgoejcaaDoor.Pr Go.Proofs.YtbkojghbgoejcaaDoorW.PrintWords
open Go.Lib (hid)

theorem awake_true : elenchuslaw1_awake.f = some true := by
  simp [elenchuslaw1_awake.f, number_Div.f, number_Mod.f, number_Rem.f, wrap64]
theorem drawn_below {w w' : World} (h : Drawn0 w w') : Below w.heap.size w w' := h.below

def cmp3 (a b : Int) : Int := if a < b then -1 else if a > b then 1 else 0
def lex (a b c d : Int) : Int := if cmp3 a c = 0 then cmp3 b d else cmp3 a c
theorem compare_eq (a b : Int) : cmp_Compare_uint64.f a b = some (cmp3 a b) := by
  unfold cmp_Compare_uint64.f cmp_isNaN_uint64.f cmp3
  simp only [bne_self_eq_false, Option.bind_some, Bool.false_eq_true, if_false]
  split
  · rfl
  · split <;> rfl
theorem or_eq (x y : Int) : cmp_Or_int.f 4 [x, y] = some (if x = 0 then y else x) := by
  unfold cmp_Or_int.f
  have w1 : wrap64 (0 + 1) = 1 := by unfold wrap64; omega
  have w2 : wrap64 (1 + 1) = 2 := by unfold wrap64; omega
  simp only [cmp_Or_int.l0, w1, w2]
  by_cases hx : x = 0
  · by_cases hy : y = 0
    · simp [rd, hx, hy]
    · simp [rd, hx, hy]
  · simp [rd, hx]
theorem compareC_eq (a b c d : Int) : number_CompareC.f 4 a b c d = some (lex a b c d) := by
  unfold number_CompareC.f lex
  rw [compare_eq, compare_eq]
  simp only [Option.bind_some]
  rw [or_eq]
  rfl
theorem less_eq (a b : Int) : elenchusref1_less.f a b = some (cmp3 a b) := by
  unfold elenchusref1_less.f cmp3
  (repeat' split) <;> first | rfl | omega
theorem refcompareC_eq (a b c d : Int) : elenchusref1_CompareC.f a b c d = some (lex a b c d) := by
  unfold elenchusref1_CompareC.f lex
  rw [less_eq]
  simp only [Option.bind_some, less_eq]
  by_cases h : cmp3 a c = 0 <;> simp [h]

set_option maxHeartbeats 6400000 in
set_option maxRecDepth 100000 in
theorem complex_walk (p q r s : Nat) (t : ByteArray) (hp : (p : Int) < 18446744073709551616) (hq : (q : Int) < 18446744073709551616) (ht : t.size ≤ 140737488351232) (w : World) (T : Tz w) :
    Calls Tryd.prog 3 #[.int .u64 p, .int .u64 q, .int .u64 r, .int .u64 s, .string t] w fun e w' => e = .returned (.bool true) ∧ Below w.heap.size w w' := by
  obtain ⟨k1, hk1⟩ := parseC_num t ht
  obtain ⟨k2, hk2⟩ := parseC_ref t ht
  generalize (parseC t.data.toList).1 = u at hk1 hk2
  generalize (parseC t.data.toList).2.1 = v at hk1 hk2
  generalize (parseC t.data.toList).2.2 = e0 at hk1 hk2
  have K1 := hid hk1
  have K2 := hid hk2
  have HP := hid (And.intro (Int.natCast_nonneg p) hp)
  have HQ := hid (And.intro (Int.natCast_nonneg q) hq)
  have TT := hid T
  clear hk1 hk2 hp hq ht T
  go_enter Tryd.func3, Tryd.ntmps3
  go_wp2_with (first
    | (go_at_call 6; (with_reducible refine (refof_any _ _ _).mono ?_); rintro e w' ⟨rfl, rfl⟩)
    | (go_at_call 7; (with_reducible refine (numwords_any _ _ _).mono ?_); rintro e w' ⟨rfl, rfl⟩))
  (with_reducible refine (number_ParseC.calls k1 _ _ _ _ _ K1.out).mono ?_); rintro e w1 ⟨rfl, d1⟩
  have B1 := hid (drawn_below d1)
  clear d1
  go_wp2_with fail
  (with_reducible refine (elenchusref1_ParseC.calls k2 _ _ _ _ _ K2.out).mono ?_); rintro e w2 ⟨rfl, d2⟩
  have B2 := hid (chain B1.out (drawn_below d2))
  clear d2 B1
  go_wp2_with fail
  (with_reducible refine (of_any _ _ _).mono ?_); rintro e w' ⟨rfl, rfl⟩
  go_wp2_with fail
  (with_reducible refine (same_any _ _ _ _ _).mono ?_); rintro e w' ⟨rfl, rfl⟩
  go_wp2_with fail
  (with_reducible refine (addc_any _ _ _ _ _).mono ?_); rintro e w3 ⟨rfl, d3⟩
  have B3 := hid (chain B2.out d3.below)
  clear d3 B2
  go_wp2_with fail
  (with_reducible refine (refadd_any _ _ _ _ _).mono ?_); rintro e w4 ⟨rfl, d4⟩
  have B4 := hid (chain B3.out d4.below)
  clear d4 B3
  go_wp2_with fail
  (with_reducible refine (same_any _ _ _ _ _).mono ?_); rintro e w' ⟨rfl, rfl⟩
  go_wp2_with fail
  (with_reducible refine (subc_any _ _ _ _ _).mono ?_); rintro e w5 ⟨rfl, d5⟩
  have B5 := hid (chain B4.out d5.below)
  clear d5 B4
  go_wp2_with fail
  (with_reducible refine (refsub_any _ _ _ _ _).mono ?_); rintro e w6 ⟨rfl, d6⟩
  have B6 := hid (chain B5.out d6.below)
  clear d6 B5
  go_wp2_with fail
  (with_reducible refine (same_any _ _ _ _ _).mono ?_); rintro e w' ⟨rfl, rfl⟩
  go_wp2_with fail
  (with_reducible refine (mulc_any _ _ _ _ _).mono ?_); rintro e w7 ⟨rfl, d7⟩
  have B7 := hid (chain B6.out d7.below)
  clear d7 B6
  go_wp2_with fail
  (with_reducible refine (refmul_any _ _ _ _ _).mono ?_); rintro e w8 ⟨rfl, d8⟩
  have B8 := hid (chain B7.out d8.below)
  clear d8 B7
  go_wp2_with fail
  (with_reducible refine (same_any _ _ _ _ _).mono ?_); rintro e w' ⟨rfl, rfl⟩
  go_wp2_with fail
  (with_reducible refine (textC_any _ _ HP.out HQ.out _).mono ?_); rintro e w9 ⟨rfl, b9⟩
  have B9 := hid (chain B8.out b9)
  clear b9 B8
  go_wp2_with fail
  (with_reducible refine (reftextC_any _ _ HP.out HQ.out _ (TT.out.below B9.out)).mono ?_); rintro e w10 ⟨rfl, b10⟩
  have B10 := hid (chain B9.out b10)
  clear b10 B9
  go_wp2_with fail
  (with_reducible refine (number_CompareC.calls 4 _ _ _ _ _ _ (compareC_eq _ _ _ _)).mono ?_); rintro e w11 ⟨rfl, b11⟩
  have B11 := hid (chain B10.out b11)
  clear b11 B10
  go_wp2_with fail
  (with_reducible refine (elenchusref1_CompareC.calls _ _ _ _ _ _ (refcompareC_eq _ _ _ _)).mono ?_); rintro e w12 ⟨rfl, d12⟩
  have B12 := hid (chain B11.out (drawn_below d12))
  clear d12 B11
  go_wp2_with fail
  (with_reducible refine (elenchuslaw1_awake.calls _ _ awake_true).mono ?_); rintro e w13 ⟨rfl, d13⟩
  have B13 := hid (chain B12.out (drawn_below d13))
  clear d13 B12
  go_wp2_with fail
  go_ret
  exact ⟨rfl, B13.out⟩

theorem walk (p q r s : Int) (t : ByteArray) (w : World) (wp : (Lit.int .u64 p).wf = true) (wq : (Lit.int .u64 q).wf = true) (wr : (Lit.int .u64 r).wf = true) (ws : (Lit.int .u64 s).wf = true) (ht : t.size ≤ 140737488351232) (L : LaidW.Laid0 w) :
    Calls Tryd.prog 3 #[.int .u64 p, .int .u64 q, .int .u64 r, .int .u64 s, .string t] w fun e w' => e = .returned (.bool true) ∧ Below w.heap.size w w' := by
  have u64 : ∀ x : Int, (Lit.int .u64 x).wf = true → ∃ n : Nat, x = n ∧ (n : Int) < 18446744073709551616 := by
    intro x h
    have h2 : IntKind.u64.min ≤ x ∧ x ≤ IntKind.u64.max := by simpa [Lit.wf] using h
    have e1 : IntKind.u64.min = 0 := rfl
    have e2 : IntKind.u64.max = 18446744073709551615 := rfl
    exact ⟨x.toNat, by omega, by omega⟩
  obtain ⟨p, rfl, hp⟩ := u64 p wp
  obtain ⟨q, rfl, hq⟩ := u64 q wq
  obtain ⟨r, rfl, hr⟩ := u64 r wr
  obtain ⟨s, rfl, hs⟩ := u64 s ws
  have hc := L.deBruijn64tab.cell (g := 5) (by kernel_rfl) 15 (by decide)
  refine complex_walk p q r s t hp hq ht w ⟨?_, hc⟩
  rcases Nat.lt_or_ge 5 w.heap.size with h | h
  · exact h
  · unfold World.cell? at hc
    rw [Array.getElem?_eq_none h] at hc
    simp at hc
end Go.Proofs.YtbkojghbgoejcaaDoor.Complex

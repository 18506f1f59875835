/- Proved: for every int64 and every text the call of NumberTexts returns true, and nothing that was there is changed. Conditions: the text is no longer than the reach; the library's variables hold what their texts lay in them. -/
import Derived.Test.YtbkojghbgoejcaaDoorParseRef
import Derived.Test.YtbkojghbgoejcaaDoorText
import Derived.Test.YtbkojghbgoejcaaDoorLaidW
namespace Go.Proofs.YtbkojghbgoejcaaDoor.Texts
open Go Go.RowKit Go.Proofs.YtbkojghbgoejcaaDoor.Form Go.Proofs.YtbkojghbgoejcaaDoor.Pr Go.Proofs.YtbkojghbgoejcaaDoorW.PrintWords

theorem awake_true : elenchuslaw1_awake.f = some true := by
  simp [elenchuslaw1_awake.f, number_Div.f, number_Mod.f, number_Rem.f, wrap64]

theorem drawn_below {w w' : World} (h : Drawn0 w w') : Below w.heap.size w w' := h.below

set_option maxHeartbeats 1600000 in
theorem texts_walk (n : Int) (s : ByteArray) (h0 : -9223372036854775808 ≤ n ∧ n ≤ 9223372036854775807) (hs : s.size ≤ 140737488351232) (w : World) (L : Libs w) :
    Calls Tryd.prog 4 #[.int .i64 n, .string s] w fun e w' => e = .returned (.bool true) ∧ Below w.heap.size w w' := by
  obtain ⟨tp, p, hr⟩ := L.range
  obtain ⟨k, hk⟩ := ref_parse s hs
  have HK := Lib.hid hk
  have H0 := Lib.hid h0
  have HR := Lib.hid hr
  have HL := Lib.hid L
  clear hk h0 hr L
  go_enter Tryd.func4, Tryd.ntmps4
  go_wp2_with fail
  (with_reducible refine (parse_any s hs tp p _ HR.out).mono ?_); rintro e w1 ⟨rfl, b1⟩
  have B1 := Lib.hid b1
  have L1 := Lib.hid (HL.out.below b1)
  clear b1
  go_wp2_with fail
  (with_reducible refine (elenchusref1_Parse.calls k s _ _ _ HK.out).mono ?_); rintro e w2 ⟨rfl, d2⟩
  have B2 := Lib.hid (chain B1.out (drawn_below d2))
  have L2 := Lib.hid (L1.out.below (drawn_below d2))
  clear d2
  go_wp2_with fail
  (with_reducible refine (text_any n H0.out.1 H0.out.2 _ L2.out).mono ?_); rintro e w3 ⟨rfl, b3⟩
  have B3 := Lib.hid (chain B2.out b3)
  have L3 := Lib.hid (L2.out.below b3)
  clear b3
  go_wp2_with fail
  (with_reducible refine (reftext_any n H0.out.1 H0.out.2 _ L3.out).mono ?_); rintro e w4 ⟨rfl, b4⟩
  have B4 := Lib.hid (chain B3.out b4)
  clear b4
  go_wp2_with fail
  (with_reducible refine (elenchuslaw1_awake.calls _ _ awake_true).mono ?_); rintro e w5 ⟨rfl, d5⟩
  have B5 := Lib.hid (chain B4.out (drawn_below d5))
  clear d5
  go_wp2_with fail
  go_ret
  exact ⟨rfl, B5.out⟩

theorem walk (n : Int) (s : ByteArray) (w : World) (wn : (Lit.int .i64 n).wf = true) (hs : s.size ≤ 140737488351232) (L : LaidW.Laid1 w) :
    Calls Tryd.prog 4 #[.int .i64 n, .string s] w fun e w' => e = .returned (.bool true) ∧ Below w.heap.size w w' :=
  texts_walk n s (by simp only [Lit.wf, Bool.and_eq_true, decide_eq_true_eq] at wn; exact wn) hs w ⟨by obtain ⟨a, s, h, _⟩ := L.ErrRange; exact ⟨_, _, h⟩, L.uint64pow10⟩
end Go.Proofs.YtbkojghbgoejcaaDoor.Texts

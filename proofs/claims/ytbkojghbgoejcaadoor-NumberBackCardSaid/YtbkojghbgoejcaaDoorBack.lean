/- Proved: for every two int64 and every two words the call of NumberBack returns true, and nothing that was there is changed. Conditions: the library's variables hold what their texts lay in them. -/
import Derived.Test.YtbkojghbgoejcaaDoorBackN
import Derived.Test.YtbkojghbgoejcaaDoorBackC
import Derived.Test.YtbkojghbgoejcaaDoorText
import Derived.Test.YtbkojghbgoejcaaDoorLaidW
namespace Go.Proofs.YtbkojghbgoejcaaDoor.Back
open Go Go.RowKit Go.Proofs.YtbkojghbgoejcaaDoor.Form Go.Proofs.YtbkojghbgoejcaaDoor.ParseC Go.Proofs.YtbkojghbgoejcaaDoor.Put Go.Proofs.YtbkojghbgoejcaaDoor.Pr Go.Proofs.YtbkojghbgoejcaaDoorW.PrintWords

theorem awake_true : elenchuslaw1_awake.f = some true := by
  simp [elenchuslaw1_awake.f, number_Div.f, number_Mod.f, number_Rem.f, wrap64]
theorem drawn_below {w w' : World} (h : Drawn0 w w') : Below w.heap.size w w' := h.below

theorem bfacts {x y : Bool} (h : x = y) : (x != y) = false ∧ decide (x = y) = true ∧ (x == y) = true := by subst h; cases x <;> decide
theorem bne_t {x y : Int} (h : (x == y) = true) : (x != y) = false := by rw [bne, h]; rfl
theorem bne_f {x y : Int} (h : (x == y) = false) : (x != y) = true := by rw [bne, h]; rfl

/-- What is told of quotients, in the law's own tests. -/
structure Quot (a b d e r m : Int) : Prop where
  t1 : (m == r) = false → (m == wrap64 (r + b)) = true
  t2 : (m == 0) = false → decide (m < 0) = decide (b < 0)
  t3 : (r == 0) = false → decide (r < 0) = decide (a < 0)
  t4 : (e = 6 ∧ d = 0) ∨ (e = 0 ∧ wrap64 (wrap64 (d * b) + r) = a)

theorem quot (a b : Int) (ha : -9223372036854775808 ≤ a ∧ a ≤ 9223372036854775807) (hb : -9223372036854775808 ≤ b ∧ b ≤ 9223372036854775807) (h0 : b ≠ 0) :
    ∃ d e r m, number_Div.f a b = some (d, e) ∧ number_Rem.f a b = some (r, 0) ∧ number_Mod.f a b = some (m, 0) ∧ Quot a b d e r m := by
  have e1 : number_Rem.f a b = some (if b = -1 then 0 else a.tmod b, 0) := by
    unfold number_Rem.f; rw [if_neg h0]; split <;> rfl
  have key := Int.tdiv_mul_add_tmod a b
  by_cases h1 : b = -1
  · subst h1
    rw [if_pos rfl] at e1
    have e2 : number_Mod.f a (-1) = some (0, 0) := by unfold number_Mod.f; rw [e1]; rfl
    have ed : a.tdiv (-1) = -a := by rw [Int.tdiv_neg, Int.tdiv_one]
    by_cases hm : a = -9223372036854775808
    · refine ⟨0, 6, 0, 0, ?_, e1, e2, ⟨by simp, by simp, by simp, .inl ⟨rfl, rfl⟩⟩⟩
      unfold number_Div.f; rw [if_neg h0, if_pos hm, if_pos rfl]
    · refine ⟨-a, 0, 0, 0, ?_, e1, e2, ⟨by simp, by simp, by simp, .inr ⟨rfl, ?_⟩⟩⟩
      · unfold number_Div.f; rw [if_neg h0, if_neg hm, ed]
        congr 2; unfold wrap64; omega
      · rw [show -a * -1 = a by omega]; unfold wrap64; omega
  · rw [if_neg h1] at e1
    have hr1 : (a.tmod b).natAbs < b.natAbs := by rw [Int.natAbs_tmod]; exact Nat.mod_lt _ (by omega)
    have hr2 : 0 ≤ a → 0 ≤ a.tmod b := fun h => Int.tmod_nonneg b h
    have hr3 : a ≤ 0 → a.tmod b ≤ 0 := fun h => by
      have := Int.tmod_nonneg b (show 0 ≤ -a by omega)
      rw [Int.neg_tmod] at this; omega
    have hd : -9223372036854775808 ≤ a.tdiv b ∧ a.tdiv b ≤ 9223372036854775807 := by
      have h2 : (a.tdiv b).natAbs = a.natAbs / b.natAbs := Int.natAbs_tdiv a b
      have h3 : a.natAbs / b.natAbs ≤ a.natAbs := Nat.div_le_self _ _
      by_cases hb1 : b = 1
      · subst hb1; rw [Int.tdiv_one]; exact ha
      · have h4 : a.natAbs / b.natAbs ≤ a.natAbs / 2 := Nat.div_le_div_left (by omega) (by omega)
        omega
    have ew : wrap64 (a.tdiv b) = a.tdiv b := by unfold wrap64; omega
    have f1 : number_Div.f a b = some (a.tdiv b, 0) := by
      unfold number_Div.f; rw [if_neg h0]
      by_cases ha2 : a = -9223372036854775808
      · rw [if_pos ha2, if_neg h1, ew]
      · rw [if_neg ha2, ew]
    have hk : a.tdiv b * b + a.tmod b = a := key
    have w4 : wrap64 (wrap64 (a.tdiv b * b) + a.tmod b) = a := by
      have e : wrap64 (a.tdiv b * b) = a.tdiv b * b := by unfold wrap64; omega
      rw [e, hk]; unfold wrap64; omega
    generalize a.tmod b = r at *
    have f3 : number_Mod.f a b = some (if r = 0 then r else if (decide (r < 0) != decide (b < 0)) = true then wrap64 (r + b) else r, 0) := by
      unfold number_Mod.f; rw [e1]; simp only [Option.bind_some]; (repeat' split) <;> rfl
    refine ⟨a.tdiv b, 0, r, _, f1, e1, f3, ⟨?_, ?_, ?_, .inr ⟨rfl, w4⟩⟩⟩
    · intro h
      split at h
      · simp at h
      · split at h
        · rename_i hz hs
          rw [if_neg hz, if_pos hs]; simp
        · simp at h
    · intro h
      by_cases hz : r = 0
      · rw [if_pos hz] at h; simp [hz] at h
      · rw [if_neg hz] at h ⊢
        by_cases hs : (decide (r < 0) != decide (b < 0)) = true
        · rw [if_pos hs]
          simp only [bne_iff_ne, ne_eq, decide_eq_decide] at hs
          rw [decide_eq_decide]
          unfold wrap64; omega
        · rw [if_neg hs]
          simpa using hs
    · intro h
      simp only [beq_eq_false_iff_ne, ne_eq] at h
      rw [decide_eq_decide]
      omega

set_option maxHeartbeats 6400000 in
theorem back_walk (a b p q : Int) (ha : -9223372036854775808 ≤ a ∧ a ≤ 9223372036854775807) (hb : -9223372036854775808 ≤ b ∧ b ≤ 9223372036854775807) (hp : 0 ≤ p ∧ p < 18446744073709551616) (hq : 0 ≤ q ∧ q < 18446744073709551616) (w : World) (L : Libs w) :
    Calls Tryd.prog 5 #[.int .i64 a, .int .i64 b, .int .u64 p, .int .u64 q] w fun e w' => e = .returned (.bool true) ∧ Below w.heap.size w w' := by
  have hl : (⟨(Lib.itoa a).toArray⟩ : ByteArray).size ≤ 140737488351232 := by
    have h := itoa_len a ha.1 ha.2
    show (Lib.itoa a).toArray.size ≤ _
    rw [List.size_toArray]; omega
  have hl2 : (strOfNums (textC p q)).size ≤ 140737488351232 := by
    show ((textC p q).map _).toArray.size ≤ _
    simp [textC, hexs_length]
  obtain ⟨kc, hkc⟩ := parseC_num (strOfNums (textC p q)) hl2
  rw [parse_text p q hp hq] at hkc
  have hpn : parseS (⟨(Lib.itoa a).toArray⟩ : ByteArray).data.toList = (a, 0) := back_num a ha.1 ha.2
  have HPN := Lib.hid hpn
  have HKC := Lib.hid hkc
  have HLL := Lib.hid hl
  have HA := Lib.hid ha
  have HB := Lib.hid hb
  have HP := Lib.hid hp
  have HQ := Lib.hid hq
  have HL := Lib.hid L
  clear hpn hkc hl hl2 ha hb hp hq L
  go_enter Tryd.func5, Tryd.ntmps5
  go_wp2_with fail
  (with_reducible refine (text_any a HA.out.1 HA.out.2 _ HL.out).mono ?_); rintro e w1 ⟨rfl, b1⟩
  have B1 := Lib.hid b1
  have L1 := Lib.hid (HL.out.below b1)
  clear b1
  go_wp2_with fail
  obtain ⟨tp, pe, hr⟩ := L1.out.range
  (with_reducible refine (parse_any _ HLL.out tp pe _ hr).mono ?_); clear hr; rw [HPN.out]; rintro e w2 ⟨rfl, b2⟩
  have B2 := Lib.hid (chain B1.out b2)
  clear b2 B1 L1
  go_wp2_with fail
  (with_reducible refine (textC_any p q HP.out HQ.out _).mono ?_); rintro e w3 ⟨rfl, b3⟩
  have B3 := Lib.hid (chain B2.out b3)
  clear b3 B2
  go_wp2_with fail
  (with_reducible refine (number_ParseC.calls kc _ _ _ _ _ HKC.out).mono ?_); rintro e w4 ⟨rfl, d4⟩
  have B4 := Lib.hid (chain B3.out (drawn_below d4))
  clear d4 B3
  go_wp2_with fail
  by_cases h0 : b = 0
  · have f1 : number_Div.f a b = some (0, 1) := by unfold number_Div.f; rw [if_pos h0]
    have f2 : number_Rem.f a b = some (0, 1) := by unfold number_Rem.f; rw [if_pos h0]
    have f3 : number_Mod.f a b = some (0, 1) := by unfold number_Mod.f; rw [f2]; rfl
    have F1 := Lib.hid f1
    have F2 := Lib.hid f2
    have F3 := Lib.hid f3
    have hz : (b == 0) = true := by rw [h0]; rfl
    clear f1 f2 f3 h0
    (with_reducible refine (number_Div.calls _ _ _ _ _ F1.out).mono ?_); rintro e w5 ⟨rfl, ⟨n5, rfl⟩⟩
    go_wp2_with fail
    (with_reducible refine (number_Rem.calls _ _ _ _ _ F2.out).mono ?_); rintro e w6 ⟨rfl, ⟨n6, rfl⟩⟩
    go_wp2_with fail
    (with_reducible refine (number_Mod.calls _ _ _ _ _ F3.out).mono ?_); rintro e w7 ⟨rfl, ⟨n7, rfl⟩⟩
    go_wp2_with fail
    (with_reducible refine (elenchuslaw1_awake.calls _ _ awake_true).mono ?_); rintro e w8 ⟨rfl, ⟨n8, rfl⟩⟩
    go_wp2_with fail
    go_ret
    exact ⟨rfl, by repeat (first | exact B4.out | apply pw_below_drewN)⟩
  · obtain ⟨d, e, r, m, f1, f2, f3, Q⟩ := quot a b HA.out HB.out h0
    have F1 := Lib.hid f1
    have F2 := Lib.hid f2
    have F3 := Lib.hid f3
    have hz : (b == 0) = false := by simpa using h0
    clear f1 f2 f3 h0
    (with_reducible refine (number_Div.calls _ _ _ _ _ F1.out).mono ?_); rintro e w5 ⟨rfl, ⟨n5, rfl⟩⟩
    go_wp2_with fail
    (with_reducible refine (number_Rem.calls _ _ _ _ _ F2.out).mono ?_); rintro e w6 ⟨rfl, ⟨n6, rfl⟩⟩
    go_wp2_with fail
    (with_reducible refine (number_Mod.calls _ _ _ _ _ F3.out).mono ?_); rintro e w7 ⟨rfl, ⟨n7, rfl⟩⟩
    have t1 := Q.t1
    have t2 := Q.t2
    have t3 := Q.t3
    have t4 := Q.t4
    clear Q
    rcases t4 with ⟨rfl, rfl⟩ | ⟨rfl, t4⟩
    · cases h1 : (m == r) with
      | false =>
        have n1 := bne_f h1
        have u1 := t1 h1
        have v1 := bne_t u1
        clear t1
        cases h2 : (m == 0) with
        | false =>
          have n2 := bne_f h2
          obtain ⟨u2, v2, x2⟩ := bfacts (t2 h2)
          clear t2
          cases h3 : (r == 0) with
          | false =>
            have n3 := bne_f h3
            obtain ⟨u3, v3, x3⟩ := bfacts (t3 h3)
            clear t3
            go_wp2_with (first | (go_at_call 22; (with_reducible refine (elenchuslaw1_awake.calls _ _ awake_true).mono ?_); rintro e w8 ⟨rfl, ⟨n8, rfl⟩⟩))
            go_ret
            exact ⟨rfl, by repeat (first | exact B4.out | apply pw_below_drewN)⟩
          | true =>
            have n3 := bne_t h3
            clear t3
            go_wp2_with (first | (go_at_call 22; (with_reducible refine (elenchuslaw1_awake.calls _ _ awake_true).mono ?_); rintro e w8 ⟨rfl, ⟨n8, rfl⟩⟩))
            go_ret
            exact ⟨rfl, by repeat (first | exact B4.out | apply pw_below_drewN)⟩
        | true =>
          have n2 := bne_t h2
          clear t2
          cases h3 : (r == 0) with
          | false =>
            have n3 := bne_f h3
            obtain ⟨u3, v3, x3⟩ := bfacts (t3 h3)
            clear t3
            go_wp2_with (first | (go_at_call 22; (with_reducible refine (elenchuslaw1_awake.calls _ _ awake_true).mono ?_); rintro e w8 ⟨rfl, ⟨n8, rfl⟩⟩))
            go_ret
            exact ⟨rfl, by repeat (first | exact B4.out | apply pw_below_drewN)⟩
          | true =>
            have n3 := bne_t h3
            clear t3
            go_wp2_with (first | (go_at_call 22; (with_reducible refine (elenchuslaw1_awake.calls _ _ awake_true).mono ?_); rintro e w8 ⟨rfl, ⟨n8, rfl⟩⟩))
            go_ret
            exact ⟨rfl, by repeat (first | exact B4.out | apply pw_below_drewN)⟩
      | true =>
        have n1 := bne_t h1
        clear t1
        cases h2 : (m == 0) with
        | false =>
          have n2 := bne_f h2
          obtain ⟨u2, v2, x2⟩ := bfacts (t2 h2)
          clear t2
          cases h3 : (r == 0) with
          | false =>
            have n3 := bne_f h3
            obtain ⟨u3, v3, x3⟩ := bfacts (t3 h3)
            clear t3
            go_wp2_with (first | (go_at_call 22; (with_reducible refine (elenchuslaw1_awake.calls _ _ awake_true).mono ?_); rintro e w8 ⟨rfl, ⟨n8, rfl⟩⟩))
            go_ret
            exact ⟨rfl, by repeat (first | exact B4.out | apply pw_below_drewN)⟩
          | true =>
            have n3 := bne_t h3
            clear t3
            go_wp2_with (first | (go_at_call 22; (with_reducible refine (elenchuslaw1_awake.calls _ _ awake_true).mono ?_); rintro e w8 ⟨rfl, ⟨n8, rfl⟩⟩))
            go_ret
            exact ⟨rfl, by repeat (first | exact B4.out | apply pw_below_drewN)⟩
        | true =>
          have n2 := bne_t h2
          clear t2
          cases h3 : (r == 0) with
          | false =>
            have n3 := bne_f h3
            obtain ⟨u3, v3, x3⟩ := bfacts (t3 h3)
            clear t3
            go_wp2_with (first | (go_at_call 22; (with_reducible refine (elenchuslaw1_awake.calls _ _ awake_true).mono ?_); rintro e w8 ⟨rfl, ⟨n8, rfl⟩⟩))
            go_ret
            exact ⟨rfl, by repeat (first | exact B4.out | apply pw_below_drewN)⟩
          | true =>
            have n3 := bne_t h3
            clear t3
            go_wp2_with (first | (go_at_call 22; (with_reducible refine (elenchuslaw1_awake.calls _ _ awake_true).mono ?_); rintro e w8 ⟨rfl, ⟨n8, rfl⟩⟩))
            go_ret
            exact ⟨rfl, by repeat (first | exact B4.out | apply pw_below_drewN)⟩
    · have t5 : (wrap64 (wrap64 (d * b) + r) == a) = true := by rw [t4]; simp
      clear t4
      cases h1 : (m == r) with
      | false =>
        have n1 := bne_f h1
        have u1 := t1 h1
        have v1 := bne_t u1
        clear t1
        cases h2 : (m == 0) with
        | false =>
          have n2 := bne_f h2
          obtain ⟨u2, v2, x2⟩ := bfacts (t2 h2)
          clear t2
          cases h3 : (r == 0) with
          | false =>
            have n3 := bne_f h3
            obtain ⟨u3, v3, x3⟩ := bfacts (t3 h3)
            clear t3
            go_wp2_with (first | (go_at_call 22; (with_reducible refine (elenchuslaw1_awake.calls _ _ awake_true).mono ?_); rintro e w8 ⟨rfl, ⟨n8, rfl⟩⟩))
            go_ret
            exact ⟨rfl, by repeat (first | exact B4.out | apply pw_below_drewN)⟩
          | true =>
            have n3 := bne_t h3
            clear t3
            go_wp2_with (first | (go_at_call 22; (with_reducible refine (elenchuslaw1_awake.calls _ _ awake_true).mono ?_); rintro e w8 ⟨rfl, ⟨n8, rfl⟩⟩))
            go_ret
            exact ⟨rfl, by repeat (first | exact B4.out | apply pw_below_drewN)⟩
        | true =>
          have n2 := bne_t h2
          clear t2
          cases h3 : (r == 0) with
          | false =>
            have n3 := bne_f h3
            obtain ⟨u3, v3, x3⟩ := bfacts (t3 h3)
            clear t3
            go_wp2_with (first | (go_at_call 22; (with_reducible refine (elenchuslaw1_awake.calls _ _ awake_true).mono ?_); rintro e w8 ⟨rfl, ⟨n8, rfl⟩⟩))
            go_ret
            exact ⟨rfl, by repeat (first | exact B4.out | apply pw_below_drewN)⟩
          | true =>
            have n3 := bne_t h3
            clear t3
            go_wp2_with (first | (go_at_call 22; (with_reducible refine (elenchuslaw1_awake.calls _ _ awake_true).mono ?_); rintro e w8 ⟨rfl, ⟨n8, rfl⟩⟩))
            go_ret
            exact ⟨rfl, by repeat (first | exact B4.out | apply pw_below_drewN)⟩
      | true =>
        have n1 := bne_t h1
        clear t1
        cases h2 : (m == 0) with
        | false =>
          have n2 := bne_f h2
          obtain ⟨u2, v2, x2⟩ := bfacts (t2 h2)
          clear t2
          cases h3 : (r == 0) with
          | false =>
            have n3 := bne_f h3
            obtain ⟨u3, v3, x3⟩ := bfacts (t3 h3)
            clear t3
            go_wp2_with (first | (go_at_call 22; (with_reducible refine (elenchuslaw1_awake.calls _ _ awake_true).mono ?_); rintro e w8 ⟨rfl, ⟨n8, rfl⟩⟩))
            go_ret
            exact ⟨rfl, by repeat (first | exact B4.out | apply pw_below_drewN)⟩
          | true =>
            have n3 := bne_t h3
            clear t3
            go_wp2_with (first | (go_at_call 22; (with_reducible refine (elenchuslaw1_awake.calls _ _ awake_true).mono ?_); rintro e w8 ⟨rfl, ⟨n8, rfl⟩⟩))
            go_ret
            exact ⟨rfl, by repeat (first | exact B4.out | apply pw_below_drewN)⟩
        | true =>
          have n2 := bne_t h2
          clear t2
          cases h3 : (r == 0) with
          | false =>
            have n3 := bne_f h3
            obtain ⟨u3, v3, x3⟩ := bfacts (t3 h3)
            clear t3
            go_wp2_with (first | (go_at_call 22; (with_reducible refine (elenchuslaw1_awake.calls _ _ awake_true).mono ?_); rintro e w8 ⟨rfl, ⟨n8, rfl⟩⟩))
            go_ret
            exact ⟨rfl, by repeat (first | exact B4.out | apply pw_below_drewN)⟩
          | true =>
            have n3 := bne_t h3
            clear t3
            go_wp2_with (first | (go_at_call 22; (with_reducible refine (elenchuslaw1_awake.calls _ _ awake_true).mono ?_); rintro e w8 ⟨rfl, ⟨n8, rfl⟩⟩))
            go_ret
            exact ⟨rfl, by repeat (first | exact B4.out | apply pw_below_drewN)⟩

theorem walk (a b p q : Int) (w : World) (wa : (Lit.int .i64 a).wf = true) (wb : (Lit.int .i64 b).wf = true) (wp : (Lit.int .u64 p).wf = true) (wq : (Lit.int .u64 q).wf = true) (L : LaidW.Laid1 w) :
    Calls Tryd.prog 5 #[.int .i64 a, .int .i64 b, .int .u64 p, .int .u64 q] w fun e w' => e = .returned (.bool true) ∧ Below w.heap.size w w' := by
  have i64 : ∀ x : Int, (Lit.int .i64 x).wf = true → -9223372036854775808 ≤ x ∧ x ≤ 9223372036854775807 := by
    intro x h; simp only [Lit.wf, Bool.and_eq_true, decide_eq_true_eq] at h; exact h
  have u64 : ∀ x : Int, (Lit.int .u64 x).wf = true → 0 ≤ x ∧ x < 18446744073709551616 := by
    intro x h
    have h2 : IntKind.u64.min ≤ x ∧ x ≤ IntKind.u64.max := by simpa [Lit.wf] using h
    have e1 : IntKind.u64.min = 0 := rfl
    have e2 : IntKind.u64.max = 18446744073709551615 := rfl
    omega
  exact back_walk a b p q (i64 a wa) (i64 b wb) (u64 p wp) (u64 q wq) w ⟨by obtain ⟨a, s, h, _⟩ := L.ErrRange; exact ⟨_, _, h⟩, L.uint64pow10⟩
end Go.Proofs.YtbkojghbgoejcaaDoor.Back

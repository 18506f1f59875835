/- Proved: number.word, number.ParseC of a text. Conditions: the text is no longer than the reach. -/
import Derived.Test.YtenpnejkgopghaaDoorParP
import Derived.Test.YtenpnejkgopghaaDoorProg
import Derived.Test.YtenpnejkgopghaaDoorShelf
import Derived.WalkKit
import Derived.KernelRfl
set_option linter.unusedVariables false
set_option maxRecDepth 100000
set_option linter.unusedSectionVars false
set_option linter.unusedSimpArgs false
namespace Go.Proofs.YtenpnejkgopghaaDoor.ParseC
open Go Go.RowKit
open Go.Lib (hid)
theorem hx_lt {c : UInt8} {d : Nat} (h : hx c = some d) : d < 16 := by
  unfold hx at h
  split at h
  · cases h; omega
  · split at h
    · cases h; omega
    · cases h
theorem wordL_some {acc : Nat} {c : UInt8} {r : List UInt8} {d : Nat} (h : hx c = some d) : wordL acc (c :: r) = wordL ((acc * 16 + d) % 18446744073709551616) r := by
  rw [wordL, h]
theorem wordL_none {acc : Nat} {c : UInt8} {r : List UInt8} (h : hx c = none) : wordL acc (c :: r) = none := by
  rw [wordL, h]
theorem or_low (a d : Nat) (hd : d < 16) : Go.bits .or .u64 (IntKind.u64.wrap ((a : Int) * 16)) (d : Int) = (((a * 16 + d) % 18446744073709551616 : Nat) : Int) := by
  have ew (x : Int) : IntKind.u64.wrap x = x % 18446744073709551616 := rfl
  rw [ew]
  unfold Go.bits
  obtain ⟨m, hm⟩ : ∃ m : Nat, ((a : Int) * 16 % 18446744073709551616) = (m : Int) ∧ m = a * 16 % 18446744073709551616 := ⟨_, by omega, rfl⟩
  rw [hm.1]
  have e : ((BitVec.ofInt 64 (m : Int)) ||| (BitVec.ofInt 64 (d : Int))).toNat = m + d := by
    rw [BitVec.toNat_or]
    have h1 : (BitVec.ofInt 64 (m : Int)).toNat = m := by simp; omega
    have h2 : (BitVec.ofInt 64 (d : Int)).toNat = d := by simp; omega
    rw [h1, h2]
    have h3 : m = 16 * (m / 16) := by omega
    have h4 := Nat.two_pow_add_eq_or_of_lt (i := 4) (b := d) (by omega) (m / 16)
    rw [show (2 : Nat) ^ 4 = 16 from rfl] at h4
    rw [h3, ← h4]
  show IntKind.u64.wrap (((BitVec.ofInt 64 (m : Int)) ||| (BitVec.ofInt 64 (d : Int))).toNat : Int) = _
  rw [e, ew]
  omega
def wordV (l : List UInt8) : Int := match wordL 0 l with | some v => (v : Int) | none => 0
def wordB (l : List UInt8) : Bool := (wordL 0 l).isSome
set_option maxHeartbeats 3200000 in
theorem word_any (s : ByteArray) (hs : s.size ≤ 140737488351232) (w : World) :
    Calls Tryd.prog 78 #[.string s] w fun e w' => e = .returned (.tuple #[.int .u64 (wordV s.data.toList), .bool (wordB s.data.toList)]) ∧ w = w' := by
  have hl : s.data.toList.length = s.size := by cases s; rfl
  have HL := Lib.hid hl
  clear hl
  go_enter Tryd.func78, Tryd.ntmps78
  go_wp2
  go_loop [4, 9] (fun t i => ∃ k acc : Nat, k ≤ s.size ∧ i = .int .i64 k ∧ t = .int .u64 acc ∧ acc < 18446744073709551616 ∧ wordL acc (s.data.toList.drop k) = wordL 0 s.data.toList) (fun _ i => s.size - (intOf i).toNat)
  case atStart => exact ⟨0, 0, Nat.zero_le _, rfl, rfl, by decide, rfl⟩
  case round =>
    obtain ⟨k, acc, hk, rfl, rfl, hacc, hw⟩ := hrel
    have HW := Lib.hid hw
    clear hw
    by_cases hlt : k < s.size
    · have bk : ∀ h : k < s.size, ((s[k]'h).toNat : Int) = ((s[k]'hlt).toNat : Int) := fun _ => rfl
      obtain ⟨c, hc⟩ : ∃ c : Int, c = ((s[k]'hlt).toNat : Int) := ⟨_, rfl⟩
      rw [← hc] at bk
      have hd : s.data.toList.drop k = s[k] :: s.data.toList.drop (k + 1) := by
        have := HL.out
        exact List.drop_eq_getElem_cons (by omega)
      have HD := Lib.hid hd
      have HC := Lib.hid hc
      have hcb : 0 ≤ c ∧ c < 256 := by have := (s[k]'hlt).toNat_lt; omega
      clear hd hc
      have key : ∀ d : Nat, hx s[k] = some d → wordL ((acc * 16 + d) % 18446744073709551616) (s.data.toList.drop (k + 1)) = wordL 0 s.data.toList := fun d h => by
        rw [← HW.out, HD.out, wordL_some h]
      have none_ : hx s[k] = none → wordL 0 s.data.toList = none := fun h => by
        rw [← HW.out, HD.out, wordL_none h]
      have hxc : hx s[k] = if 48 ≤ c ∧ c ≤ 57 then some (c - 48).toNat else if 97 ≤ c ∧ c ≤ 102 then some (c - 87).toNat else none := by
        have hC := HC.out
        unfold hx
        by_cases q : 48 ≤ c ∧ c ≤ 57
        · rw [if_pos q, if_pos (by omega)]; congr 1; omega
        · rw [if_neg q, if_neg (by omega)]
          by_cases q2 : 97 ≤ c ∧ c ≤ 102
          · rw [if_pos q2, if_pos (by omega)]; congr 1; omega
          · rw [if_neg q2, if_neg (by omega)]
      have KEY := Lib.hid key
      have NONE := Lib.hid none_
      have HXC := Lib.hid hxc
      clear key none_ hxc HC HD
      have bad : ¬ (48 ≤ c ∧ c ≤ 57) → ¬ (97 ≤ c ∧ c ≤ 102) → wordV s.data.toList = 0 ∧ wordB s.data.toList = false := fun q1 q2 => by
        have e := NONE.out (by rw [HXC.out, if_neg q1, if_neg q2])
        unfold wordV wordB
        rw [e]; exact ⟨rfl, rfl⟩
      have BAD := Lib.hid bad
      clear bad
      by_cases c1 : 48 ≤ c
      · by_cases c2 : c ≤ 57
        · have e := HXC.out
          rw [if_pos ⟨c1, c2⟩] at e
          have E := Lib.hid e
          clear e
          go_wp2
          go_round
          case rel =>
            refine ⟨k + 1, (acc * 16 + (c - 48).toNat) % 18446744073709551616, by omega, by go_num, ?_, Nat.mod_lt _ (by decide), KEY.out _ E.out⟩
            rw [show c - 48 = (((c - 48).toNat : Nat) : Int) by omega, or_low acc _ (by omega)]
            rw [show (((c - 48).toNat : Nat) : Int).toNat = (c - 48).toNat by omega]
          case measure => simp [intOf]; omega
        · by_cases c3 : 97 ≤ c
          · by_cases c4 : c ≤ 102
            · have e := HXC.out
              rw [if_neg (by omega), if_pos ⟨c3, c4⟩] at e
              have E := Lib.hid e
              clear e
              go_wp2
              go_round
              case rel =>
                refine ⟨k + 1, (acc * 16 + (c - 87).toNat) % 18446744073709551616, by omega, by go_num, ?_, Nat.mod_lt _ (by decide), KEY.out _ E.out⟩
                rw [show c - 97 + 10 = (((c - 87).toNat : Nat) : Int) by omega, or_low acc _ (by omega)]
              case measure => simp [intOf]; omega
            · have B := Lib.hid (BAD.out (by omega) (by omega))
              go_wp2
              go_ret2
              exact ⟨by rw [B.out.1, B.out.2]; rfl, rfl⟩
          · have B := Lib.hid (BAD.out (by omega) (by omega))
            go_wp2
            go_ret2
            exact ⟨by rw [B.out.1, B.out.2]; rfl, rfl⟩
      · have B := Lib.hid (BAD.out (by omega) (by omega))
        go_wp2
        go_ret2
        exact ⟨by rw [B.out.1, B.out.2]; rfl, rfl⟩
    · obtain rfl : k = s.size := by omega
      go_wp2
      go_ret2
      have e := HW.out
      have h0 : s.data.toList.drop s.size = [] := by rw [List.drop_eq_nil_iff, HL.out]; omega
      rw [h0] at e
      unfold wordV wordB
      rw [← e]
      exact ⟨rfl, rfl⟩
theorem extract_mid (s : ByteArray) (a b : Nat) (h : a ≤ b) (hb : b ≤ s.size) : (s.extract a b).data.toList = (s.data.toList.drop a).take (b - a) := by
  simp [List.extract_eq_take_drop]
set_option maxHeartbeats 3200000 in
theorem parseC_any (s : ByteArray) (hs : s.size ≤ 140737488351232) (w : World) :
    Calls Tryd.prog 62 #[.string s] w fun e w' => e = .returned (.tuple #[.int .u64 (parseC s.data.toList).1, .int .u64 (parseC s.data.toList).2.1, .int .i64 (parseC s.data.toList).2.2]) ∧ Below w.heap.size w w' := by
  have hl : s.data.toList.length = s.size := by cases s; rfl
  have hp : Lib.hasPrefix s.data.toList [48, 99] = decide (s.data.toList.take 2 = [48, 99]) := by
    unfold Lib.hasPrefix
    rw [Bool.eq_iff_iff, List.isPrefixOf_iff_prefix, decide_eq_true_eq, List.prefix_iff_eq_take]
    constructor
    · intro h; exact h.symm
    · intro h; exact h.symm
  obtain ⟨r, hr⟩ : ∃ r : ByteArray, r = ⟨(Lib.trimPrefix s.data.toList [48, 99]).toArray⟩ := ⟨_, rfl⟩
  have hrl : r.data.toList = Lib.trimPrefix s.data.toList [48, 99] := by rw [hr]
  by_cases h2 : s.data.toList.take 2 = [48, 99]
  · rw [decide_eq_true h2] at hp
    have e1 : Lib.trimPrefix s.data.toList [48, 99] = s.data.toList.drop 2 := by unfold Lib.trimPrefix; rw [hp]; rfl
    rw [e1] at hrl
    have hrs : r.size = s.size - 2 := by
      have : r.data.toList.length = r.size := by cases r; rfl
      rw [← this, hrl, List.length_drop, hl]
    by_cases h3 : s.size = 34
    · have w1 : (r.extract 0 16).data.toList = (s.data.toList.drop 2).take 16 := by
        rw [extract_mid _ 0 16 (by omega) (by omega), hrl, List.drop_zero]
      have hr32 : r.size = 32 := by omega
      have w2 : (r.extract 16 32).data.toList = s.data.toList.drop 18 := by
        rw [extract_mid _ 16 _ (by omega) (by omega), hrl, List.drop_drop, List.take_of_length_le (by rw [List.length_drop]; omega)]
      have z1 : (r.extract 0 16).size ≤ 140737488351232 := by simp; omega
      have z2 : (r.extract 16 32).size ≤ 140737488351232 := by simp; omega
      have pc : parseC s.data.toList = if wordB ((s.data.toList.drop 2).take 16) && wordB (s.data.toList.drop 18) then (wordV ((s.data.toList.drop 2).take 16), wordV (s.data.toList.drop 18), 0) else (0, 0, 2) := by
        unfold parseC wordB wordV
        rw [if_pos ⟨by omega, h2⟩]
        cases wordL 0 ((s.data.toList.drop 2).take 16) <;> cases wordL 0 (s.data.toList.drop 18) <;> rfl
      have c1 := word_any (r.extract 0 16) z1
      have c2 := word_any (r.extract 16 32) z2
      rw [w1] at c1
      rw [w2] at c2
      generalize wordB ((s.data.toList.drop 2).take 16) = b1 at c1 pc
      generalize wordB (s.data.toList.drop 18) = b2 at c2 pc
      generalize wordV ((s.data.toList.drop 2).take 16) = v1 at c1 pc
      generalize wordV (s.data.toList.drop 18) = v2 at c2 pc
      have hr32' : (r.size : Int) = 32 := by omega
      have HR := Lib.hid hr
      have HP := Lib.hid hp
      have PC := Lib.hid pc
      clear hr hp hrl h2 hl w1 w2 z1 z2 e1 pc
      cases b1 <;> cases b2
      all_goals
        go_enter Tryd.func62, Tryd.ntmps62
        go_wp2_with fail
        (with_reducible refine (Tryd.strings_CutPrefix _ _ _).mono ?_); rintro e w' ⟨rfl, rfl⟩
        rw [show (⟨#[48, 99]⟩ : ByteArray).data.toList = [48, 99] from rfl, HP.out, ← HR.out]
        go_wp2_with fail
        (with_reducible refine (c1 _).mono ?_); rintro e w' ⟨rfl, rfl⟩
        go_wp2_with fail
        (with_reducible refine (c2 _).mono ?_); rintro e w' ⟨rfl, rfl⟩
        go_wp2_with fail
        go_ret3
        exact ⟨by rw [PC.out]; rfl, Below.refl _ _⟩
    · have pc : parseC s.data.toList = (0, 0, 2) := by
        unfold parseC; rw [if_neg (fun h => by have := h.1; omega)]
      have hr32' : ¬ ((r.size : Int) = 32) := by
        have : 2 ≤ s.size := by
          have := congrArg List.length h2
          rw [List.length_take, hl] at this
          simp at this; omega
        omega
      have HR := Lib.hid hr
      have HP := Lib.hid hp
      have PC := Lib.hid pc
      clear hr hp hrl h2 hl e1 pc
      go_enter Tryd.func62, Tryd.ntmps62
      go_wp2_with fail
      (with_reducible refine (Tryd.strings_CutPrefix _ _ _).mono ?_); rintro e w' ⟨rfl, rfl⟩
      rw [show (⟨#[48, 99]⟩ : ByteArray).data.toList = [48, 99] from rfl, HP.out, ← HR.out]
      go_wp2_with fail
      go_ret3
      exact ⟨by rw [PC.out]; rfl, Below.refl _ _⟩
  · rw [decide_eq_false h2] at hp
    have pc : parseC s.data.toList = (0, 0, 2) := by
      unfold parseC; rw [if_neg (fun h => h2 h.2)]
    have HR := Lib.hid hr
    have HP := Lib.hid hp
    have PC := Lib.hid pc
    clear hr hp hrl h2 hl pc
    go_enter Tryd.func62, Tryd.ntmps62
    go_wp2_with fail
    (with_reducible refine (Tryd.strings_CutPrefix _ _ _).mono ?_); rintro e w' ⟨rfl, rfl⟩
    rw [show (⟨#[48, 99]⟩ : ByteArray).data.toList = [48, 99] from rfl, HP.out, ← HR.out]
    go_wp2_with fail
    go_ret3
    exact ⟨by rw [PC.out]; rfl, Below.refl _ _⟩
end Go.Proofs.YtenpnejkgopghaaDoor.ParseC

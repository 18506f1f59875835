/- Proved: number.form tells whether a text is a decimal. Conditions: the text is no longer than the reach. -/
import Derived.Test.YtenpnejkgopghaaDoorShelf
import Derived.Test.YtenpnejkgopghaaDoorProg
import Derived.WalkKit
import Derived.KernelRfl
import Derived.Test.YtenpnejkgopghaaDoorParP
import Derived.Laws.Strings
set_option linter.unusedVariables false
set_option linter.unusedSectionVars false
set_option linter.unusedSimpArgs false
namespace Go.Proofs.YtenpnejkgopghaaDoor.Form
open Go Go.RowKit
open Go.Lib (hid)


theorem all_take_succ (r : ByteArray) (k : Nat) (h : k < r.size) : (r.data.toList.take (k + 1)).all isDig = ((r.data.toList.take k).all isDig && isDig r[k]) := by
  rw [List.take_succ_eq_append_getElem (by simpa using h)]
  simp
  rfl
theorem all_false {r : ByteArray} {k : Nat} (h : k < r.size) (hd : isDig r[k] = false) : r.data.toList.all isDig = false := by
  rw [List.all_eq_false]
  exact ⟨r[k], List.getElem_mem (l := r.data.toList) (n := k) (by simpa using h), by simp [hd]⟩

set_option maxHeartbeats 1600000 in
theorem form_any (s : ByteArray) (hs : s.size ≤ 140737488351232) (w : World) :
    Calls Tryd.prog 79 #[.string s] w fun e w' => e = .returned (.bool (formB s.data.toList)) ∧ w = w' := by
  have hsz : (body s.data.toList).length ≤ s.size := by
    have : s.data.toList.length = s.size := by cases s; rfl
    unfold body Lib.trimPrefix; split <;> simp <;> omega
  have hf : formB s.data.toList = (!(body s.data.toList).isEmpty && !((body s.data.toList).head? == some 48 && s.data.toList != [48]) && (body s.data.toList).all isDig) := rfl
  obtain ⟨r, hr⟩ : ∃ r : ByteArray, r = ⟨(body s.data.toList).toArray⟩ := ⟨_, rfl⟩
  have hb : body s.data.toList = r.data.toList := by rw [hr]
  rw [hb] at hsz hf
  have hrs : r.size ≤ 140737488351232 := by
    have : r.data.toList.length = r.size := by cases r; rfl
    omega
  have HR := Lib.hid hr
  have HF := Lib.hid hf
  clear hr hb hsz hf
  by_cases h0 : r.size = 0
  · have e1 : r.data.toList = [] := by
      have : r.data.toList.length = r.size := by cases r; rfl
      exact List.eq_nil_of_length_eq_zero (by omega)
    have e2 : r.toList = [] := by rw [ByteArray.toList_eq]; exact e1
    have h1 : (!r.toList.isEmpty) = false := by rw [e2]; rfl
    go_enter Tryd.func79, Tryd.ntmps79
    go_wp2_with (first | (go_at_call 90; (with_reducible refine (Tryd.strings_TrimPrefix _ _ _).mono ?_); rintro e w' ⟨rfl, rfl⟩; have hx := HR.out; unfold body at hx; rw [← hx]; clear hx))
    go_ret
    exact ⟨by rw [HF.out, e1]; rfl, rfl⟩
  · have hpos : 0 < r.size := by omega
    have hlen : r.data.toList.length = r.size := by cases r; rfl
    have e1 : r.data.toList.isEmpty = false := by
      cases h : r.data.toList with
      | nil => rw [h] at hlen; simp at hlen; omega
      | cons a l => rfl
    have e2 : r.data.toList.head? = some r[0] := by
      rw [List.head?_eq_getElem?, List.getElem?_eq_getElem (by omega)]
      rfl
    have h2 : r.toList.isEmpty = false := by rw [ByteArray.toList_eq]; exact e1
    have h3 : ¬ r.toList = [] := by intro h; rw [h] at h2; cases h2
    have bt0 : ∀ h : 0 < r.size, ((r[0]'h).toNat : Int) = ((r[0]'hpos).toNat : Int) := fun _ => rfl
    obtain ⟨b, hb⟩ : ∃ b : Int, b = ((r[0]'hpos).toNat : Int) := ⟨_, rfl⟩
    rw [← hb] at bt0
    have e3 : (some r[0] == some (48 : UInt8)) = (b == 48) := by
      rw [hb, Bool.eq_iff_iff]
      simp only [beq_iff_eq, Option.some.injEq]
      constructor
      · intro h; rw [h]; rfl
      · intro h; exact UInt8.toNat_inj.1 (by simpa using (by omega : r[0].toNat = 48))
    have HE := Lib.hid (show formB s.data.toList = (!((b == 48) && !(s.toList == [48])) && r.data.toList.all isDig) by rw [HF.out, e1, e2, e3, ByteArray.toList_eq]; rfl)
    clear e1 e2 e3 hb h0
    cases hb1 : (b == 48) <;> cases hb2 : (s.toList == [48])
    case true.false =>
      go_enter Tryd.func79, Tryd.ntmps79
      go_wp2_with (first | (go_at_call 90; (with_reducible refine (Tryd.strings_TrimPrefix _ _ _).mono ?_); rintro e w' ⟨rfl, rfl⟩; have hx := HR.out; unfold body at hx; rw [← hx]; clear hx))
      go_ret
      exact ⟨by rw [HE.out, hb1, hb2]; rfl, rfl⟩
    all_goals
      go_enter Tryd.func79, Tryd.ntmps79
      go_wp2_with (first | (go_at_call 90; (with_reducible refine (Tryd.strings_TrimPrefix _ _ _).mono ?_); rintro e w' ⟨rfl, rfl⟩; have hx := HR.out; unfold body at hx; rw [← hx]; clear hx))
      go_loop [4, 20] (fun _ i => ∃ k : Nat, k ≤ r.size ∧ i = .int .i64 k ∧ (r.data.toList.take k).all isDig = true) (fun _ i => r.size - (intOf i).toNat)
      case atStart => exact ⟨0, Nat.zero_le _, rfl, rfl⟩
      case round =>
        obtain ⟨k, hk, rfl, hall⟩ := hrel
        have HA := Lib.hid hall
        clear hall bt0
        by_cases hlt : k < r.size
        · have bk : ∀ h : k < r.size, ((r[k]'h).toNat : Int) = ((r[k]'hlt).toNat : Int) := fun _ => rfl
          obtain ⟨c, hc⟩ : ∃ c : Int, c = ((r[k]'hlt).toNat : Int) := ⟨_, rfl⟩
          rw [← hc] at bk
          have HC := Lib.hid hc
          clear hc
          have hd : isDig r[k] = (!decide (c < 48) && !decide (57 < c)) := by
            unfold isDig; rw [HC.out, Bool.eq_iff_iff]; simp; omega
          have HD := Lib.hid hd
          clear hd
          cases c1 : decide (c < 48) <;> cases c2 : decide (57 < c)
          case false.false =>
            go_wp2
            go_round
            case rel => exact ⟨k + 1, by omega, by go_num, by rw [all_take_succ r k hlt, HA.out, HD.out, c1, c2]; rfl⟩
            case measure => simp [intOf]; omega
          all_goals
            go_wp2
            go_ret
            exact ⟨by rw [HE.out, all_false hlt (by rw [HD.out, c1, c2]; rfl), Bool.and_false]; rfl, rfl⟩
        · obtain rfl : k = r.size := by omega
          go_wp2
          go_ret
          have := HA.out
          rw [List.take_of_length_le (by omega)] at this
          exact ⟨by rw [HE.out, hb1, hb2, this]; rfl, rfl⟩
end Go.Proofs.YtenpnejkgopghaaDoor.Form

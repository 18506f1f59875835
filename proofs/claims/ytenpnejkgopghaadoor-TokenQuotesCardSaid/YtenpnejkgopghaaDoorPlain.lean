/- Proved: token.Plain: what it answers. Conditions: the text's length; what lies below is laid. -/
import Derived.Test.YtenpnejkgopghaaDoorTopB
import Derived.Test.YtenpnejkgopghaaDoorQuoP
import Derived.WalkKit
import Derived.Lib.Hide
set_option linter.unusedVariables false
set_option linter.unusedSectionVars false
set_option linter.unusedSimpArgs false
set_option maxRecDepth 100000
namespace Go.Proofs.YtenpnejkgopghaaDoor.Tok
open Go Go.RowKit Go.Proofs.YtenpnejkgopghaaDoor.AK
theorem bytesV_push2 (b : ByteArray) (c d : UInt8) : bytesV ((b.push c).push d) = bytesV b ++ [.int .u8 (c.toNat : Int), .int .u8 (d.toNat : Int)] := by
  rw [bytesV_push, bytesV_push, List.append_assoc]; rfl
theorem tl_beq (x y : ByteArray) : (x.toList == y.toList) = (x == y) := by
  rw [Bool.eq_iff_iff, beq_iff_eq, ba_beq]
  constructor
  · intro h
    apply ByteArray.ext
    apply Array.toList_inj.1
    rw [← ByteArray.toList_eq, ← ByteArray.toList_eq, h]
  · intro h; rw [h]
theorem all_gnd [Gnd] (hgn : GndOk) (w : World) (hw : ∀ x o, Gnd.obj x = some o → x < w.heap.size ∧ w.heap[x]? = some o) {s : ByteArray} (hs : s.size ≤ 65536) {L : Lexed} (hL : lexTo s 0 [] = L) :
    Calls Tryd.prog 10 #[.string s] w fun e w' => ∃ v, e = .returned (.tuple #[v, .int .i64 ((L.at_ : Nat) : Int), .int .i64 L.e]) ∧ Row w' w.heap.size 33 6 v L.ts.length (tokX L.ts) ∧ Below w.heap.size w w' := by
  subst hL
  exact all_calls hs w hgn hw
set_option maxHeartbeats 3200000 in
theorem plain_gnd [Gnd] (hgn : GndOk) (w : World) (hw : ∀ x o, Gnd.obj x = some o → x < w.heap.size ∧ w.heap[x]? = some o) {s : ByteArray} (hs : s.size ≤ 60000) :
    Calls Tryd.prog 18 #[.string s] w fun e w' => e = .returned (.bool (plainB s)) ∧ Below w.heap.size w w' := by
  have hp0 : plainB s = ((s == ⟨#[91, 93]⟩) || (decide (s.size ≤ 200) && plainL (lexTo (s ++ ⟨#[32]⟩) 0 []) s)) := rfl
  have B0 := Lib.hid (Below.refl w.heap.size w)
  have HW := Lib.hid hw
  clear hw
  cases h0 : (s == ⟨#[91, 93]⟩) with
  | true =>
    rw [h0, Bool.true_or] at hp0
    have HP := Lib.hid hp0
    have h1 := (tl_beq s ⟨#[91, 93]⟩).trans h0
    rw [show (⟨#[91, 93]⟩ : ByteArray).toList = [91, 93] by rw [ByteArray.toList_eq]] at h1
    clear hp0 h0
    go_enter Tryd.func18, Tryd.ntmps18
    go_wp2_with fail
    go_ret
    exact ⟨by rw [HP.out]; rfl, B0.out⟩
  | false =>
    rw [h0, Bool.false_or] at hp0
    have h1 := (tl_beq s ⟨#[91, 93]⟩).trans h0
    rw [show (⟨#[91, 93]⟩ : ByteArray).toList = [91, 93] by rw [ByteArray.toList_eq]] at h1
    clear h0
    by_cases hl : s.size ≤ 200
    · rw [decide_eq_true hl, Bool.true_and] at hp0
      have z1 : (⟨#[32]⟩ : ByteArray).size = 1 := rfl
      have y1 := ByteArray.size_append (a := s) (b := ⟨#[32]⟩)
      obtain ⟨L, hL⟩ : ∃ L, lexTo (s ++ ⟨#[32]⟩) 0 [] = L := ⟨_, rfl⟩
      rw [hL] at hp0
      have LL := Lib.hid hL
      have HP := Lib.hid hp0
      clear hL hp0
      go_enter Tryd.func18, Tryd.ntmps18
      go_wp2_with fail
      (with_reducible refine (all_gnd hgn _ HW.out (by omega) LL.out).mono ?_); rintro e w1 ⟨v, rfl, r1, b1⟩
      have B1 := Lib.hid b1
      clear b1
      have hpl : plainL L s = (decide (L.e = 0) && (match L.ts with | [t] => decide (t.kind = 1) && (t.text == s) | _ => false)) := rfl
      by_cases he : L.e = 0
      · rw [he] at hpl ⊢
        obtain ⟨ts, hts⟩ : ∃ ts, L.ts = ts := ⟨_, rfl⟩
        rw [hts] at r1 hpl
        match ts, hts with
        | [], _ =>
          have r1 : Row w1 _ _ 6 v 0 _ := r1
          obtain ⟨a1, c1, rfl⟩ := row_nil r1
          have HPL := Lib.hid hpl
          clear r1 hpl he
          go_wp2_with fail
          go_ret
          exact ⟨by rw [HP.out, HPL.out]; rfl, B1.out⟩
        | [t], _ =>
          have r1 : Row w1 _ _ 6 v 1 _ := r1
          obtain ⟨g1, c1, rfl, hc1, hb1, hg1, q1⟩ := row_cells r1 (by decide)
          have p0 := q1 0 _ rfl
          have p1 := q1 1 _ rfl
          obtain ⟨kd, tx, it, re, im, at5⟩ := t
          have hpl : plainL L s = (decide (kd = 1) && (tx == s)) := hpl
          have HPL := Lib.hid hpl
          clear r1 q1 hb1 hg1 hpl he
          by_cases hk : kd = 1
          · subst hk
            have hx := tl_beq tx s
            cases hq : (tx == s) with
            | true =>
              rw [hq] at hx
              go_wp2_with fail
              go_ret
              exact ⟨by rw [HP.out, HPL.out, hq]; rfl, B1.out⟩
            | false =>
              rw [hq] at hx
              go_wp2_with fail
              go_ret
              exact ⟨by rw [HP.out, HPL.out, hq]; rfl, B1.out⟩
          · have hk2 : (kd == 1) = false := by simpa using hk
            go_wp2_with fail
            go_ret
            exact ⟨by rw [HP.out, HPL.out, decide_eq_false hk]; rfl, B1.out⟩
        | t :: u :: ts, _ =>
          have r1 : Row w1 _ _ 6 v (ts.length + 2) _ := r1
          obtain ⟨g1, c1, rfl, hc1, hb1, hg1, q1⟩ := row_cells r1 (by omega)
          have hn : ¬ ((ts.length + 2 : Nat) : Int) = 1 := by omega
          generalize ts.length + 2 = n2 at hn ⊢
          have hn2 : ((n2 : Int) == 1) = false := by simpa using hn
          have HPL := Lib.hid hpl
          clear r1 q1 hpl he
          go_wp2_with fail
          go_ret
          exact ⟨by rw [HP.out, HPL.out]; rfl, B1.out⟩
      · have he2 : (L.e == 0) = false := by simpa using he
        rw [decide_eq_false he, Bool.false_and] at hpl
        have HPL := Lib.hid hpl
        clear hpl
        go_wp2_with fail
        go_ret
        exact ⟨by rw [HP.out, HPL.out]; rfl, B1.out⟩
    · rw [decide_eq_false hl, Bool.false_and] at hp0
      have HP := Lib.hid hp0
      have hl' : ¬ ((s.size : Int) ≤ 200) := by omega
      clear hp0
      go_enter Tryd.func18, Tryd.ntmps18
      go_wp2_with fail
      go_ret
      exact ⟨by rw [HP.out]; rfl, B0.out⟩
theorem plain_any {w0 w : World} (R : Ready w0) (b : Below w0.heap.size w0 w) {s : ByteArray} (hs : s.size ≤ 60000) :
    Calls Tryd.prog 18 #[.string s] w fun e w' => e = .returned (.bool (plainB s)) ∧ Below w.heap.size w w' :=
  letI := gndOf w0
  plain_gnd (gnd_ok R) w (gnd_at b) hs
/-- A row of tokens. -/
def trow (c : CellV) (ts : List T) : MSt := ⟨[], [⟨c, 33, 6, ts.length, tokX ts⟩]⟩
/-- One token with a name. -/
def tok1 (k : Int) (s : ByteArray) : List T := [⟨k, s, 0, 0, 0, 0⟩]
theorem tok1_len (k : Int) (s : ByteArray) : (tok1 k s).length = 1 := rfl
end Go.Proofs.YtenpnejkgopghaaDoor.Tok

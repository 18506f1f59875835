/- Proved: number.put appends sixteen digits of a word, and number.TextC is the text of two words. Conditions: each stands at its theorem. -/
import Derived.Test.YtbkojghbgoejcaaDoorKitA
import Derived.Test.YtbkojghbgoejcaaDoorProg
import Derived.WalkKit
namespace Go.Proofs.YtbkojghbgoejcaaDoor.Put
open Go Go.RowKit Go.Proofs.YtbkojghbgoejcaaDoor.Kit Go.Proofs.YtbkojghbgoejcaaDoorW.PrintWords Go.Proofs.YtbkojghbgoejcaaDoorW.PrintLast Go.Proofs.YtbkojghbgoejcaaDoorW.PrintMore

/-- The byte of a digit. -/
def hexd (n : Nat) : Int := if n < 10 then 48 + n else 87 + n
/-- The first j of sixteen digits of a word. -/
def hexs (x : Int) (j : Nat) : List Int := (List.range j).map fun t => hexd (x.toNat / 16 ^ (15 - t) % 16)
theorem hexs_succ (x : Int) (j : Nat) : hexs x (j + 1) = hexs x j ++ [hexd (x.toNat / 16 ^ (15 - j) % 16)] := by
  unfold hexs; rw [List.range_succ, List.map_append]; rfl
theorem hexs_length (x : Int) (j : Nat) : (hexs x j).length = j := by unfold hexs; simp

theorem byte_at (n : Nat) (h : n < 16) : bt (⟨#[48, 49, 50, 51, 52, 53, 54, 55, 56, 57, 97, 98, 99, 100, 101, 102]⟩ : ByteArray) n = hexd n := by
  have : ∀ m : Fin 16, bt (⟨#[48, 49, 50, 51, 52, 53, 54, 55, 56, 57, 97, 98, 99, 100, 101, 102]⟩ : ByteArray) (m.val : Int) = hexd m.val := by decide
  exact this ⟨n, h⟩

theorem low4 (y : Int) (h0 : 0 ≤ y) (h1 : y < 18446744073709551616) : Go.bits .and .u64 y 15 = y % 16 := by
  obtain ⟨n, rfl⟩ : ∃ n : Nat, y = n := ⟨y.toNat, by omega⟩
  unfold Go.bits
  have e : ((BitVec.ofInt 64 (n : Int)) &&& (BitVec.ofInt 64 15)).toNat = n % 16 := by
    rw [BitVec.toNat_and]
    have h1 : (BitVec.ofInt 64 (n : Int)).toNat = n := by simp; omega
    have h3 : (BitVec.ofInt 64 15).toNat = 2 ^ 4 - 1 := by decide
    rw [h1, h3, Nat.and_two_pow_sub_one_eq_mod]
  show IntKind.u64.wrap (((BitVec.ofInt 64 (n : Int)) &&& (BitVec.ofInt 64 15)).toNat : Int) = _
  rw [e]
  show ((n % 16 : Nat) : Int) % 18446744073709551616 = _
  omega
theorem nib (x : Int) (h0 : 0 ≤ x) (h1 : x < 18446744073709551616) (k : Nat) :
    Go.bits .and .u64 (x / 2 ^ (4 * k)) 15 = ((x.toNat / 16 ^ k % 16 : Nat) : Int) := by
  obtain ⟨n, rfl⟩ : ∃ n : Nat, x = n := ⟨x.toNat, by omega⟩
  have e2 : ((n : Int) / (2 ^ (4 * k) : Int)) = ((n / 16 ^ k : Nat) : Int) := by
    rw [Int.natCast_ediv, show (16 : Nat) = 2 ^ 4 from rfl, ← Nat.pow_mul]
    simp
  have le : n / 16 ^ k ≤ n := Nat.div_le_self _ _
  rw [e2]
  show _ = ((n / 16 ^ k % 16 : Nat) : Int)
  generalize n / 16 ^ k = m at *
  rw [low4 _ (by omega) (by omega)]
  rfl
theorem byte_of (d : Nat) (h : d < 16) : ∀ hd : d < (⟨#[48, 49, 50, 51, 52, 53, 54, 55, 56, 57, 97, 98, 99, 100, 101, 102]⟩ : ByteArray).size,
    (((⟨#[48, 49, 50, 51, 52, 53, 54, 55, 56, 57, 97, 98, 99, 100, 101, 102]⟩ : ByteArray)[d]'hd).toNat : Int) = hexd d := fun hd =>
  (bt_at _ (d : Int) (by simpa using hd)).trans (byte_at d h)

theorem info5 : (Tryd.prog.info? 5).map (fun i => (i.zero, i.size, i.bytes)) = some (some (.int .u8 0), 1, 1) := by kernel_rfl
set_option maxHeartbeats 1600000 in
theorem put_any (x : Int) (h0 : 0 ≤ x) (h1 : x < 18446744073709551616) (v : Value) (l : List Int) (hl : l.length ≤ 100) (w : World) (base : Nat) (hb : base ≤ w.heap.size) (ha : Apd w base 5 1 v l.length (nums .u8 l)) :
    Calls Tryd.prog 38 #[v, .int .u64 x] w fun e w' => ∃ v', e = .returned v' ∧ w'.ownsRow base 5 1 v' (l.length + 16) (nums .u8 (l ++ hexs x 16)) ∧ Below base w w' := by
  have HA := Aside0.mk ha
  have HL := Aside0.mk hl
  obtain ⟨A, c, rfl⟩ := ha.shape
  clear ha hl
  go_enter Tryd.func38, Tryd.ntmps38
  go_wp2
  go_loopw [0, 5] (fun v i wr => ∃ j : Nat, j ≤ 16 ∧ i = .int .i64 (15 - (j : Int)) ∧ Aside0 (Apd wr base 5 1 v (l.length + j) (nums .u8 (l ++ hexs x j))) ∧ Aside0 (0 < j → wr.ownsRow base 5 1 v (l.length + j) (nums .u8 (l ++ hexs x j))) ∧ Aside0 (Below base w wr)) (fun _ i _ => (intOf i + 1).toNat)
  case atStart => exact ⟨0, by omega, rfl, ⟨by simpa [hexs] using HA.out⟩, ⟨by omega⟩, ⟨Below.refl _ _⟩⟩
  case round =>
    obtain ⟨j, hj, rfl, HP, HO', HB⟩ := hrel
    obtain ⟨A', c', rfl⟩ := HP.out.shape
    clear HA
    by_cases hlt : j < 16
    · have g1 : decide (0 ≤ 15 - (j : Int)) = true := by simp; omega
      have n1 := nib x h0 h1 (15 - j)
      have n2 : x.toNat / 16 ^ (15 - j) % 16 < 16 := Nat.mod_lt _ (by omega)
      have n3 := hexs_succ x j
      generalize x.toNat / 16 ^ (15 - j) % 16 = d at *
      have n4 := byte_of d n2
      have N3 := Aside0.mk n3
      clear n3
      go_wp2_with (at_builtin; go_loud (refine wpList_append_apd _ rfl (.tmp 10) (.tmp 17) 51 rfl base 5 (.int .u8 0) 1 1 Tryd.underlying51 info5 rfl Nat.one_pos _ (l.length + j) (nums .u8 (l ++ hexs x j)) rfl ?ap ⟨wr.heap.size, 0, none⟩ 1 1 [.int .u8 (hexd d)] rfl rfl ?c1 ?c2 Nat.one_pos ?c3 ?c4 ?c5 ?_))
      case ap => exact HP.out.below ((Below.refl _ _).alloc (Nat.le_refl _) _)
      case c1 => go_simp
      case c2 => simp [Value.oneCell']
      case c3 => have := HL.out; unfold maxLen; omega
      case c4 => have := HL.out; omega
      case c5 => have := HB.out.size; simp; omega
      intro v' w1 ho hb1
      have HO := Aside0.mk ho
      have HB1 : Aside0 (Below base w w1) := ⟨(HB.out.alloc (Nat.le_trans hb HB.out.size) _).trans hb1⟩
      clear ho hb1 HB HP HO'
      go_wp2
      go_roundw
      case rel => exact ⟨j + 1, by omega, by congr 1; omega, ⟨.inl (by rw [N3.out, ← List.append_assoc, nums_append]; exact HO.out)⟩, ⟨fun _ => by rw [N3.out, ← List.append_assoc, nums_append]; exact HO.out⟩, HB1⟩
      case measure => simp [intOf]; omega
    · have g1 : decide (0 ≤ 15 - (j : Int)) = false := by simp; omega
      obtain rfl : j = 16 := by omega
      go_wp2
      go_ret
      exact ⟨_, rfl, HO'.out (by omega), HB.out⟩

/-- The text of two words. -/
def textC (x y : Int) : List Int := ([48, 99] : List Int) ++ hexs x 16 ++ hexs y 16

set_option maxHeartbeats 1600000 in
theorem textC_any (x y : Int) (hx : 0 ≤ x ∧ x < 18446744073709551616) (hy : 0 ≤ y ∧ y < 18446744073709551616) (w : World) :
    Calls Tryd.prog 18 #[.int .u64 x, .int .u64 y] w fun e w' => e = .returned (.string (strOfNums (textC x y))) ∧ Below w.heap.size w w' := by
  have kc := fun (w : World) (C : Array Value) (n c : Nat) => Lib.run_convert_bytes_const (P := Tryd.prog) w 51 5 C n c Tryd.underlying51 Tryd.underlying5
  go_enter Tryd.func18, Tryd.ntmps18
  go_wp2_with fail
  have hput := fun (W : World) (h : w.heap.size ≤ W.heap.size) (hc : ∀ j u, (nums .u8 [48, 99])[j]? = some u → W.cell? ((⟨w.heap.size, 0, none⟩ : Addr).add j) = some u) =>
    (show Calls Tryd.prog 38 #[.slice (some ⟨w.heap.size, 0, none⟩) 2 2, .int .u64 x] W _ from put_any x hx.1 hx.2 _ [48, 99] (by simp) W w.heap.size h (Apd.full ⟨w.heap.size, 0, none⟩ rfl hc))
  (with_reducible refine (hput _ ?c0 ?c1).mono ?_)
  case c0 => simp
  case c1 =>
    exact World.news_of_block (heap_alloc_new _ _)
  rintro e w1 ⟨v, rfl, h1, h2⟩
  have H1 := Aside0.mk h1
  have B1 : Aside0 (Below w.heap.size w w1) := ⟨(Below.refl _ _ |>.alloc (Nat.le_refl _) _).trans h2⟩
  clear h1 h2 kc
  go_wp2_with fail
  (with_reducible refine (put_any y hy.1 hy.2 _ ([48, 99] ++ hexs x 16) (by simp [hexs_length]) _ w.heap.size B1.out.size (Apd.own ?c2)).mono ?_)
  case c2 => simpa [hexs_length] using H1.out
  rintro e w2 ⟨v2, rfl, h1, h2⟩
  have hcv := own_string (P := Tryd.prog) Tryd.underlying51 Tryd.underlying5 Tryd.underlying9 h1
  have B2 : Aside0 (Below w.heap.size w w2) := ⟨B1.out.trans h2⟩
  clear h1 h2 H1 B1
  go_wp2_with fail
  go_ret
  exact ⟨rfl, B2.out⟩
end Go.Proofs.YtbkojghbgoejcaaDoor.Put

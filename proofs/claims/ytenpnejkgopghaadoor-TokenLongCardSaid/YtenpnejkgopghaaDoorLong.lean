/- Proved: for every two numbers the call of TokenLong returns true, and nothing that was there is changed. Conditions: the library's variables hold what their texts lay in them; the world's shape. -/
import Derived.Test.YtenpnejkgopghaaDoorTop
import Derived.Test.YtenpnejkgopghaaDoorLow
import Derived.Test.YtenpnejkgopghaaDoorLongP
import Derived.WalkKit
import Derived.Laws.MakeOwn
import Derived.Laws.BytesArg
set_option linter.unusedVariables false
set_option linter.unusedSectionVars false
set_option linter.unusedSimpArgs false
set_option maxRecDepth 100000
namespace Go.Proofs.YtenpnejkgopghaaDoor.Tok
open Go Go.RowKit Go.Proofs.YtenpnejkgopghaaDoor.AK
/-- A row of m bytes, filled up to k. -/
structure Filled (w : World) (g m k : Nat) (c : Int) : Prop where
  all : ∀ j, j < m → w.cell? ⟨g, j, none⟩ = some (.int .u8 (if j < k then c else 0)) ∧ w.frozen? ⟨g, j, none⟩ = false
theorem Filled.cell {w : World} {g m k : Nat} {c : Int} (h : Filled w g m k c) (hk : k < m) : w.cell? ⟨g, k, none⟩ = some (.int .u8 0) := by
  have := (h.all k hk).1
  rwa [if_neg (Nat.lt_irrefl _)] at this
theorem Filled.free {w : World} {g m k : Nat} {c : Int} (h : Filled w g m k c) (hk : k < m) : w.frozen? ⟨g, k, none⟩ = false := (h.all k hk).2
theorem Filled.set {w : World} {g m k : Nat} {c : Int} (h : Filled w g m k c) (hk : k < m) : Filled (w.setCell ⟨g, k, none⟩ (.int .u8 c)) g m (k + 1) c := ⟨fun j hj => by
  obtain ⟨h1, h2⟩ := h.all j hj
  rw [World.frozen?_setCell]
  refine ⟨?_, h2⟩
  by_cases e : j = k
  · subst e
    rw [World.cell?_setCell_same _ _ _ h1, if_pos (Nat.lt_succ_self _)]
  · rw [World.cell?_setCell_other _ _ _ _ (fun q => by injection q with _ q; omega), h1]
    by_cases hl : j < k
    · rw [if_pos hl, if_pos (by omega)]
    · rw [if_neg hl, if_neg (by omega)]⟩
theorem filled_new {w : World} {m : Nat} {c : Int} {C : Array Value} (el : TypeId) (hC : C.size = m ∧ ∀ j, j < m → C[j]? = some (.int .u8 0)) : Filled (w.alloc (.cells C el)) w.heap.size m 0 c := ⟨fun j hj => by
  rw [if_neg (Nat.not_lt_zero _)]
  refine ⟨?_, World.frozen?_alloc_new w C el j⟩
  unfold World.cell?
  rw [alloc_new]
  exact hC.2 j hj⟩
theorem rep_size (k : Nat) (c : Int) : (strOfNums (List.replicate k c)).size = k := by rw [strOfNums_size, List.length_replicate]
theorem rep_at {k j : Nat} {c : Int} {d : UInt8} (hd : UInt8.ofNat c.toNat = d) (hj : j < k) : at8 (strOfNums (List.replicate k c)) j = d := by
  have h1 : bs (strOfNums (List.replicate k c)) = List.replicate k d := by
    show (strOfNums (List.replicate k c)).data.toList = _
    rw [strOfNums_data, List.map_replicate, hd]
  have h2 : (bs (strOfNums (List.replicate k c)))[j]? = some d := by rw [h1]; simp [hj]
  rw [at8_eq (by rw [rep_size]; exact hj)]
  have h3 : (bs (strOfNums (List.replicate k c)))[j]? = some ((strOfNums (List.replicate k c))[j]'(by rw [rep_size]; exact hj)) := by
    rw [List.getElem?_eq_getElem (by rw [bs_length, rep_size]; exact hj)]; rfl
  rw [h3] at h2
  exact Option.some.inj h2
theorem Filled.text {P : Program} {w : World} {g m : Nat} {c : Int} (h : Filled w g m m c) {t e dst : TypeId} (hs : P.underlying t = some (.slice e)) (he : P.underlying e = some (.int .u8)) (hd : P.underlying dst = some .string) (cap : Nat) :
    (convert t dst (.slice (some ⟨g, 0, none⟩) m cap)).run P w = .ok (.string (strOfNums (List.replicate m c))) w :=
  run_convert_bytes_arg w t e hs he g 0 m cap (List.replicate m c) List.length_replicate (fun i hi => by
    rw [Nat.zero_add, (h.all i hi).1, if_pos hi]
    rw [List.getD_eq_getElem?_getD, List.getElem?_replicate_of_lt hi]; rfl) dst hd
theorem made_row (m : Nat) (hm : m ≤ 1000000) : ∃ C : Array Value, (C.size = m ∧ ∀ j, j < m → C[j]? = some (.int .u8 0)) ∧ ∀ w : World, (Instr.makeSlice 23 (.int .i64 (m : Int)) (.int .i64 (m : Int))).run Tryd.prog w = .ok (.slice (some ⟨w.heap.size, 0, none⟩) m m) (w.alloc (.cells C 5)) := by
  obtain ⟨i, hi, hz, hsz, hby⟩ : ∃ i : TypeInfo, Tryd.prog.info? 5 = some i ∧ i.zero = some (.int .u8 0) ∧ i.size = 1 ∧ i.bytes = 1 := ⟨_, rfl, rfl, rfl, rfl⟩
  refine ⟨madeCells (Value.cells (.int .u8 0)) m, ⟨size_madeCells _ _, fun j hj => ?_⟩, fun w => ?_⟩
  · unfold madeCells
    rw [Array.getElem?_map, Array.getElem?_range, if_pos hj]
    show some ((#[Value.int .u8 0])[j % 1]!) = _
    rw [Nat.mod_one]; rfl
  · have h := run_make (P := Tryd.prog) w 23 5 i (.int .u8 0) Tryd.underlying23 hi hz .i64 .i64 (m : Int) (m : Int) (by omega) (by omega) (by rw [hby]; omega) (by omega)
    rw [hsz, Int.toNat_natCast, Nat.mul_one] at h
    exact h
theorem cell_keep {w w' : World} {g k : Nat} (b : Below w.heap.size w w') (h : g < w.heap.size) : w'.cell? ⟨g, k, none⟩ = w.cell? ⟨g, k, none⟩ := by
  unfold World.cell?
  rw [b.block g h]
theorem below_alloc (w : World) (o : Obj) : Below w.heap.size w (w.alloc o) := ⟨rfl, rfl, rfl, by rw [alloc_size]; omega, fun k hk => alloc_at w o hk⟩
theorem chain {w w1 w2 : World} (a : Below w.heap.size w w1) (b : Below w1.heap.size w1 w2) : Below w.heap.size w w2 := a.trans (b.mono a.size)
theorem row_nil {w : World} {B : Nat} {e : TypeId} {sz : Nat} {v : Value} {xs : List Value} (h : Row w B e sz v 0 xs) : ∃ a c, v = .slice a 0 c := by
  rcases h.2 with ⟨rfl, _⟩ | ⟨g, c, _, _, rfl, _⟩
  · exact ⟨_, _, rfl⟩
  · exact ⟨_, _, rfl⟩
/-- A text that is too long. -/
theorem all_long {s : ByteArray} (hs : 65536 < s.size) (w : World) : Calls Tryd.prog 10 #[.string s] w fun e w' => e = .returned (.tuple #[.slice none 0 0, .int .i64 0, .int .i64 3]) ∧ Below w.heap.size w w' := by
  letI := Env.plain
  obtain ⟨T0, hT0⟩ : ∃ T0, T0 = tlC (scC (tlC (codeOf Tryd.f10))) := ⟨_, rfl⟩
  have hb : Tryd.f10.body = some (.seq (hdC (codeOf Tryd.f10)) (.scope (.seq (hdC (scC (tlC (codeOf Tryd.f10)))) T0))) := by
    rw [hT0]; kernel_rfl
  refine (callsIn_wd (rd := none) (n := 0)).1 (callsIn_of_wp_marks Tryd.func10 hb trivial ?_)
  refine wpIn_seq (wpIn_wide.2 (all_pre0 ?_))
  show (Code.scope _).wpIn (Wd none) 0 Tryd.prog _ _ _
  refine wpIn_scope_ 1 ?_
  generalize hC : (Code.seq (hdC (scC (tlC (codeOf Tryd.f10)))) T0) = C
  refine (?_ : C.wpIn (Wd none) 0 Tryd.prog (fun e a w => match e with | .goto l => (match findLabel C l with | some r => jumpsIn (Wd none) 0 Tryd.prog C _ 0 r a w | none => _) | e => _) _ w)
  rw [show C.wpIn (Wd none) 0 Tryd.prog _ _ w = C.wp Tryd.prog _ _ w from propext wpIn_wide]
  subst hC
  refine all_preL hs ?_
  intro a1 hd h2 h3 h4
  show LeavesInM _ _ _ _ _ _ _ _ _
  rw [hd]
  refine ⟨_, ?_, rfl, Below.refl _ _⟩
  show (results Tryd.f10 a1.tmps).run Tryd.prog w = _
  have hr : Tryd.f10.results = #[.tmp 2, .tmp 3, .tmp 4] := rfl
  rw [Array.getD_eq_getD_getElem?] at h2 h3 h4
  simp [results, hr, h2, h3, h4]
set_option maxHeartbeats 6400000 in
theorem long_walk (n kd : Int) (w : World) (R : Ready w) (hn : -9223372036854775808 ≤ n ∧ n ≤ 9223372036854775807) (hk0 : -9223372036854775808 ≤ kd ∧ kd ≤ 9223372036854775807) :
    Calls Tryd.prog 3 #[.int .i64 n, .int .i64 kd] w fun e w' => e = .returned (.bool true) ∧ Below w.heap.size w w' := by
  have B0 := Lib.hid (Below.refl w.heap.size w)
  obtain ⟨d, hd, hd5⟩ : ∃ d : Nat, wrap64 ((IntKind.u64.wrap n).tmod 5) = (d : Int) ∧ d < 5 := by
    have e : IntKind.u64.wrap n = n % 18446744073709551616 := rfl
    rw [e]
    have e2 : (n % 18446744073709551616).tmod 5 = (n % 18446744073709551616) % 5 := Int.tmod_eq_emod_of_nonneg (by omega)
    rw [e2]
    exact ⟨((n % 18446744073709551616) % 5).toNat, by unfold wrap64; omega, by omega⟩
  obtain ⟨m, hm⟩ : ∃ m : Nat, m = 198 + d := ⟨_, rfl⟩
  obtain ⟨m2, hm2⟩ : ∃ m2 : Nat, m2 = 65534 + d := ⟨_, rfl⟩
  have hw1 : (198 : Int) + (d : Int) = (m : Int) := by omega
  have hw2 : (65534 : Int) + (d : Int) = (m2 : Int) := by omega
  obtain ⟨C1, hC1, hmk1⟩ := made_row m (by omega)
  obtain ⟨C2, hC2, hmk2⟩ := made_row m2 (by omega)
  have HMm := Lib.hid hm
  have HMm2 := Lib.hid hm2
  have hmb : m ≤ 1000000 := by omega
  have hmb2 : m2 ≤ 1000000 := by omega
  rw [← hw1] at hmk1
  rw [← hw2] at hmk2
  clear hw1 hw2 hm hm2
  have HM0 := Lib.hid hC1
  have HM2 := Lib.hid hC2
  clear hC1 hC2
  by_cases hk : kd.tmod 2 = 0
  · by_cases hd2 : d ≤ 2
    · have hkb : (kd.tmod 2 == 0) = true := by simpa using hk
      have hd2' : ((d : Int) ≤ 2) := by omega
      go_enter Tryd.func3, Tryd.ntmps3
      go_wp2_with fail
      go_loopw [28] (fun i wr => ∃ k : Nat, k ≤ m ∧ i = .int .i64 k ∧ Filled wr w.heap.size m k 65 ∧ Below w.heap.size w wr) (fun i _ => m - (intOf i).toNat)
      case atStart => exact ⟨0, Nat.zero_le _, rfl, filled_new _ HM0.out, below_alloc _ _⟩
      case round =>
        obtain ⟨k, hk, rfl, hf, bw⟩ := hrel
        have BW := Lib.hid bw
        have HF := Lib.hid hf
        clear bw hf
        by_cases hlt : k < m
        · have c1 := HF.out.cell hlt
          have c2 := HF.out.free hlt
          go_wp2_with fail
          go_roundw
          case rel => exact ⟨k + 1, by omega, by go_num, HF.out.set hlt, BW.out.setCell (Nat.le_refl _) _⟩
          case measure => simp [intOf]; omega
        · obtain rfl : k = m := by omega
          have hcv := HF.out.text (t := 23) (P := Tryd.prog) Tryd.underlying23 Tryd.underlying5 Tryd.underlying9 k
          obtain ⟨s1, hs1⟩ : ∃ s, strOfNums (List.replicate k 65) = s := ⟨_, rfl⟩
          rw [hs1] at hcv
          have hz1 : s1.size = k := by rw [← hs1]; exact rep_size _ _
          have ha1 : ∀ j, j < s1.size → at8 s1 j = 65 := fun j hj => by rw [← hs1] at hj ⊢; rw [rep_size] at hj; exact rep_at (by decide) hj
          have hmm := HMm.out
          have l1 := long_name (c := 65) (by decide) (by omega) ha1
          rw [if_neg (by omega)] at l1
          have L1 := Lib.hid l1
          have HZ1 := Lib.hid hz1
          clear ha1 hs1 l1 hz1 hmm
          go_wp2_with fail
          (with_reducible refine (all_any R BW.out (by have := HZ1.out; have := HMm.out; omega) L1.out).mono ?_); rintro e w1 ⟨v1, rfl, r1, b1⟩
          have B1 := Lib.hid (chain BW.out b1)
          have r1 : Row w1 _ _ 6 v1 1 _ := r1
          obtain ⟨g1, c1, rfl, hc1, hb1, hg1, q1⟩ := row_cells r1 (by decide)
          clear q1 hb1 hg1
          clear b1 r1 hcv BW HF
          go_wp2_with fail
          go_loopw [48] (fun i wr => ∃ k : Nat, k ≤ m2 ∧ i = .int .i64 k ∧ Filled wr w1.heap.size m2 k 32 ∧ Below w1.heap.size w1 wr) (fun i _ => m2 - (intOf i).toNat)
          case atStart => exact ⟨0, Nat.zero_le _, rfl, filled_new _ HM2.out, below_alloc _ _⟩
          case round =>
            obtain ⟨k2, hk2, rfl, hf, bw⟩ := hrel
            have BW := Lib.hid bw
            have HF := Lib.hid hf
            clear bw hf
            by_cases hlt : k2 < m2
            · have c1 := HF.out.cell hlt
              have c2 := HF.out.free hlt
              go_wp2_with fail
              go_roundw
              case rel => exact ⟨k2 + 1, by omega, by go_num, HF.out.set hlt, BW.out.setCell (Nat.le_refl _) _⟩
              case measure => simp [intOf]; omega
            · obtain rfl : k2 = m2 := by omega
              have hcv := HF.out.text (t := 23) (P := Tryd.prog) Tryd.underlying23 Tryd.underlying5 Tryd.underlying9 k2
              obtain ⟨s2, hs2⟩ : ∃ s, strOfNums (List.replicate k2 32) = s := ⟨_, rfl⟩
              rw [hs2] at hcv
              have hz2 : s2.size = k2 := by rw [← hs2]; exact rep_size _ _
              have ha2 : ∀ j, j < s2.size → at8 s2 j = 32 := fun j hj => by rw [← hs2] at hj ⊢; rw [rep_size] at hj; exact rep_at (by decide) hj
              have B2 := Lib.hid (chain B1.out BW.out)
              have L2 := Lib.hid (long_space ha2)
              have HZ2 := Lib.hid hz2
              clear ha2 hs2 hz2
              go_wp2_with fail
              (with_reducible refine (all_any R B2.out (by have := HZ2.out; have := HMm2.out; omega) L2.out).mono ?_); rintro e w3 ⟨v2, rfl, r3, b3⟩
              have B3 := Lib.hid (chain B2.out b3)
              have r3 : Row w3 _ _ 6 v2 0 _ := r3
              obtain ⟨g3, c3, rfl⟩ := row_nil r3
              clear r3
              clear b3 hcv HF
              go_wp2_with fail
              (with_reducible refine (awake_calls _).mono ?_); rintro e w6 ⟨rfl, b6⟩
              have B6 := Lib.hid (chain B3.out b6)
              clear b6
              go_wp2_with fail
              go_ret
              exact ⟨rfl, B6.out⟩
    · have hkb : (kd.tmod 2 == 0) = true := by simpa using hk
      have hd2' : ¬ ((d : Int) ≤ 2) := by omega
      go_enter Tryd.func3, Tryd.ntmps3
      go_wp2_with fail
      go_loopw [28] (fun i wr => ∃ k : Nat, k ≤ m ∧ i = .int .i64 k ∧ Filled wr w.heap.size m k 65 ∧ Below w.heap.size w wr) (fun i _ => m - (intOf i).toNat)
      case atStart => exact ⟨0, Nat.zero_le _, rfl, filled_new _ HM0.out, below_alloc _ _⟩
      case round =>
        obtain ⟨k, hk, rfl, hf, bw⟩ := hrel
        have BW := Lib.hid bw
        have HF := Lib.hid hf
        clear bw hf
        by_cases hlt : k < m
        · have c1 := HF.out.cell hlt
          have c2 := HF.out.free hlt
          go_wp2_with fail
          go_roundw
          case rel => exact ⟨k + 1, by omega, by go_num, HF.out.set hlt, BW.out.setCell (Nat.le_refl _) _⟩
          case measure => simp [intOf]; omega
        · obtain rfl : k = m := by omega
          have hcv := HF.out.text (t := 23) (P := Tryd.prog) Tryd.underlying23 Tryd.underlying5 Tryd.underlying9 k
          obtain ⟨s1, hs1⟩ : ∃ s, strOfNums (List.replicate k 65) = s := ⟨_, rfl⟩
          rw [hs1] at hcv
          have hz1 : s1.size = k := by rw [← hs1]; exact rep_size _ _
          have ha1 : ∀ j, j < s1.size → at8 s1 j = 65 := fun j hj => by rw [← hs1] at hj ⊢; rw [rep_size] at hj; exact rep_at (by decide) hj
          have hmm := HMm.out
          have l1 := long_name (c := 65) (by decide) (by omega) ha1
          rw [if_pos (by omega)] at l1
          have L1 := Lib.hid l1
          have HZ1 := Lib.hid hz1
          clear ha1 hs1 l1 hz1 hmm
          go_wp2_with fail
          (with_reducible refine (all_any R BW.out (by have := HZ1.out; have := HMm.out; omega) L1.out).mono ?_); rintro e w1 ⟨v1, rfl, r1, b1⟩
          have B1 := Lib.hid (chain BW.out b1)
          have r1 : Row w1 _ _ 6 v1 0 _ := r1
          obtain ⟨g1, c1, rfl⟩ := row_nil r1
          clear b1 r1 hcv BW HF
          go_wp2_with fail
          go_loopw [48] (fun i wr => ∃ k : Nat, k ≤ m2 ∧ i = .int .i64 k ∧ Filled wr w1.heap.size m2 k 32 ∧ Below w1.heap.size w1 wr) (fun i _ => m2 - (intOf i).toNat)
          case atStart => exact ⟨0, Nat.zero_le _, rfl, filled_new _ HM2.out, below_alloc _ _⟩
          case round =>
            obtain ⟨k2, hk2, rfl, hf, bw⟩ := hrel
            have BW := Lib.hid bw
            have HF := Lib.hid hf
            clear bw hf
            by_cases hlt : k2 < m2
            · have c1 := HF.out.cell hlt
              have c2 := HF.out.free hlt
              go_wp2_with fail
              go_roundw
              case rel => exact ⟨k2 + 1, by omega, by go_num, HF.out.set hlt, BW.out.setCell (Nat.le_refl _) _⟩
              case measure => simp [intOf]; omega
            · obtain rfl : k2 = m2 := by omega
              have hcv := HF.out.text (t := 23) (P := Tryd.prog) Tryd.underlying23 Tryd.underlying5 Tryd.underlying9 k2
              obtain ⟨s2, hs2⟩ : ∃ s, strOfNums (List.replicate k2 32) = s := ⟨_, rfl⟩
              rw [hs2] at hcv
              have hz2 : s2.size = k2 := by rw [← hs2]; exact rep_size _ _
              have ha2 : ∀ j, j < s2.size → at8 s2 j = 32 := fun j hj => by rw [← hs2] at hj ⊢; rw [rep_size] at hj; exact rep_at (by decide) hj
              have B2 := Lib.hid (chain B1.out BW.out)
              have L2 := Lib.hid (long_space ha2)
              have HZ2 := Lib.hid hz2
              clear ha2 hs2 hz2
              go_wp2_with fail
              (with_reducible refine (all_long (by have := HZ2.out; have := HMm2.out; omega) _).mono ?_); rintro e w3 ⟨rfl, b3⟩
              have B3 := Lib.hid (chain B2.out b3)
              clear b3 hcv HF
              go_wp2_with fail
              (with_reducible refine (awake_calls _).mono ?_); rintro e w6 ⟨rfl, b6⟩
              have B6 := Lib.hid (chain B3.out b6)
              clear b6
              go_wp2_with fail
              go_ret
              exact ⟨rfl, B6.out⟩
  · by_cases hd2 : d ≤ 2
    · have hkb : (kd.tmod 2 == 0) = false := by simpa using hk
      have hd2' : ((d : Int) ≤ 2) := by omega
      go_enter Tryd.func3, Tryd.ntmps3
      go_wp2_with fail
      go_loopw [28] (fun i wr => ∃ k : Nat, k ≤ m ∧ i = .int .i64 k ∧ Filled wr w.heap.size m k 97 ∧ Below w.heap.size w wr) (fun i _ => m - (intOf i).toNat)
      case atStart => exact ⟨0, Nat.zero_le _, rfl, filled_new _ HM0.out, below_alloc _ _⟩
      case round =>
        obtain ⟨k, hk, rfl, hf, bw⟩ := hrel
        have BW := Lib.hid bw
        have HF := Lib.hid hf
        clear bw hf
        by_cases hlt : k < m
        · have c1 := HF.out.cell hlt
          have c2 := HF.out.free hlt
          go_wp2_with fail
          go_roundw
          case rel => exact ⟨k + 1, by omega, by go_num, HF.out.set hlt, BW.out.setCell (Nat.le_refl _) _⟩
          case measure => simp [intOf]; omega
        · obtain rfl : k = m := by omega
          have hcv := HF.out.text (t := 23) (P := Tryd.prog) Tryd.underlying23 Tryd.underlying5 Tryd.underlying9 k
          obtain ⟨s1, hs1⟩ : ∃ s, strOfNums (List.replicate k 97) = s := ⟨_, rfl⟩
          rw [hs1] at hcv
          have hz1 : s1.size = k := by rw [← hs1]; exact rep_size _ _
          have ha1 : ∀ j, j < s1.size → at8 s1 j = 97 := fun j hj => by rw [← hs1] at hj ⊢; rw [rep_size] at hj; exact rep_at (by decide) hj
          have hmm := HMm.out
          have l1 := long_name (c := 97) (by decide) (by omega) ha1
          rw [if_neg (by omega)] at l1
          have L1 := Lib.hid l1
          have HZ1 := Lib.hid hz1
          clear ha1 hs1 l1 hz1 hmm
          go_wp2_with fail
          (with_reducible refine (all_any R BW.out (by have := HZ1.out; have := HMm.out; omega) L1.out).mono ?_); rintro e w1 ⟨v1, rfl, r1, b1⟩
          have B1 := Lib.hid (chain BW.out b1)
          have r1 : Row w1 _ _ 6 v1 1 _ := r1
          obtain ⟨g1, c1, rfl, hc1, hb1, hg1, q1⟩ := row_cells r1 (by decide)
          clear q1 hb1 hg1
          clear b1 r1 hcv BW HF
          go_wp2_with fail
          go_loopw [48] (fun i wr => ∃ k : Nat, k ≤ m2 ∧ i = .int .i64 k ∧ Filled wr w1.heap.size m2 k 32 ∧ Below w1.heap.size w1 wr) (fun i _ => m2 - (intOf i).toNat)
          case atStart => exact ⟨0, Nat.zero_le _, rfl, filled_new _ HM2.out, below_alloc _ _⟩
          case round =>
            obtain ⟨k2, hk2, rfl, hf, bw⟩ := hrel
            have BW := Lib.hid bw
            have HF := Lib.hid hf
            clear bw hf
            by_cases hlt : k2 < m2
            · have c1 := HF.out.cell hlt
              have c2 := HF.out.free hlt
              go_wp2_with fail
              go_roundw
              case rel => exact ⟨k2 + 1, by omega, by go_num, HF.out.set hlt, BW.out.setCell (Nat.le_refl _) _⟩
              case measure => simp [intOf]; omega
            · obtain rfl : k2 = m2 := by omega
              have hcv := HF.out.text (t := 23) (P := Tryd.prog) Tryd.underlying23 Tryd.underlying5 Tryd.underlying9 k2
              obtain ⟨s2, hs2⟩ : ∃ s, strOfNums (List.replicate k2 32) = s := ⟨_, rfl⟩
              rw [hs2] at hcv
              have hz2 : s2.size = k2 := by rw [← hs2]; exact rep_size _ _
              have ha2 : ∀ j, j < s2.size → at8 s2 j = 32 := fun j hj => by rw [← hs2] at hj ⊢; rw [rep_size] at hj; exact rep_at (by decide) hj
              have B2 := Lib.hid (chain B1.out BW.out)
              have L2 := Lib.hid (long_space ha2)
              have HZ2 := Lib.hid hz2
              clear ha2 hs2 hz2
              go_wp2_with fail
              (with_reducible refine (all_any R B2.out (by have := HZ2.out; have := HMm2.out; omega) L2.out).mono ?_); rintro e w3 ⟨v2, rfl, r3, b3⟩
              have B3 := Lib.hid (chain B2.out b3)
              have r3 : Row w3 _ _ 6 v2 0 _ := r3
              obtain ⟨g3, c3, rfl⟩ := row_nil r3
              clear r3
              clear b3 hcv HF
              go_wp2_with fail
              (with_reducible refine (awake_calls _).mono ?_); rintro e w6 ⟨rfl, b6⟩
              have B6 := Lib.hid (chain B3.out b6)
              clear b6
              go_wp2_with fail
              go_ret
              exact ⟨rfl, B6.out⟩
    · have hkb : (kd.tmod 2 == 0) = false := by simpa using hk
      have hd2' : ¬ ((d : Int) ≤ 2) := by omega
      go_enter Tryd.func3, Tryd.ntmps3
      go_wp2_with fail
      go_loopw [28] (fun i wr => ∃ k : Nat, k ≤ m ∧ i = .int .i64 k ∧ Filled wr w.heap.size m k 97 ∧ Below w.heap.size w wr) (fun i _ => m - (intOf i).toNat)
      case atStart => exact ⟨0, Nat.zero_le _, rfl, filled_new _ HM0.out, below_alloc _ _⟩
      case round =>
        obtain ⟨k, hk, rfl, hf, bw⟩ := hrel
        have BW := Lib.hid bw
        have HF := Lib.hid hf
        clear bw hf
        by_cases hlt : k < m
        · have c1 := HF.out.cell hlt
          have c2 := HF.out.free hlt
          go_wp2_with fail
          go_roundw
          case rel => exact ⟨k + 1, by omega, by go_num, HF.out.set hlt, BW.out.setCell (Nat.le_refl _) _⟩
          case measure => simp [intOf]; omega
        · obtain rfl : k = m := by omega
          have hcv := HF.out.text (t := 23) (P := Tryd.prog) Tryd.underlying23 Tryd.underlying5 Tryd.underlying9 k
          obtain ⟨s1, hs1⟩ : ∃ s, strOfNums (List.replicate k 97) = s := ⟨_, rfl⟩
          rw [hs1] at hcv
          have hz1 : s1.size = k := by rw [← hs1]; exact rep_size _ _
          have ha1 : ∀ j, j < s1.size → at8 s1 j = 97 := fun j hj => by rw [← hs1] at hj ⊢; rw [rep_size] at hj; exact rep_at (by decide) hj
          have hmm := HMm.out
          have l1 := long_name (c := 97) (by decide) (by omega) ha1
          rw [if_pos (by omega)] at l1
          have L1 := Lib.hid l1
          have HZ1 := Lib.hid hz1
          clear ha1 hs1 l1 hz1 hmm
          go_wp2_with fail
          (with_reducible refine (all_any R BW.out (by have := HZ1.out; have := HMm.out; omega) L1.out).mono ?_); rintro e w1 ⟨v1, rfl, r1, b1⟩
          have B1 := Lib.hid (chain BW.out b1)
          have r1 : Row w1 _ _ 6 v1 0 _ := r1
          obtain ⟨g1, c1, rfl⟩ := row_nil r1
          clear b1 r1 hcv BW HF
          go_wp2_with fail
          go_loopw [48] (fun i wr => ∃ k : Nat, k ≤ m2 ∧ i = .int .i64 k ∧ Filled wr w1.heap.size m2 k 32 ∧ Below w1.heap.size w1 wr) (fun i _ => m2 - (intOf i).toNat)
          case atStart => exact ⟨0, Nat.zero_le _, rfl, filled_new _ HM2.out, below_alloc _ _⟩
          case round =>
            obtain ⟨k2, hk2, rfl, hf, bw⟩ := hrel
            have BW := Lib.hid bw
            have HF := Lib.hid hf
            clear bw hf
            by_cases hlt : k2 < m2
            · have c1 := HF.out.cell hlt
              have c2 := HF.out.free hlt
              go_wp2_with fail
              go_roundw
              case rel => exact ⟨k2 + 1, by omega, by go_num, HF.out.set hlt, BW.out.setCell (Nat.le_refl _) _⟩
              case measure => simp [intOf]; omega
            · obtain rfl : k2 = m2 := by omega
              have hcv := HF.out.text (t := 23) (P := Tryd.prog) Tryd.underlying23 Tryd.underlying5 Tryd.underlying9 k2
              obtain ⟨s2, hs2⟩ : ∃ s, strOfNums (List.replicate k2 32) = s := ⟨_, rfl⟩
              rw [hs2] at hcv
              have hz2 : s2.size = k2 := by rw [← hs2]; exact rep_size _ _
              have ha2 : ∀ j, j < s2.size → at8 s2 j = 32 := fun j hj => by rw [← hs2] at hj ⊢; rw [rep_size] at hj; exact rep_at (by decide) hj
              have B2 := Lib.hid (chain B1.out BW.out)
              have L2 := Lib.hid (long_space ha2)
              have HZ2 := Lib.hid hz2
              clear ha2 hs2 hz2
              go_wp2_with fail
              (with_reducible refine (all_long (by have := HZ2.out; have := HMm2.out; omega) _).mono ?_); rintro e w3 ⟨rfl, b3⟩
              have B3 := Lib.hid (chain B2.out b3)
              clear b3 hcv HF
              go_wp2_with fail
              (with_reducible refine (awake_calls _).mono ?_); rintro e w6 ⟨rfl, b6⟩
              have B6 := Lib.hid (chain B3.out b6)
              clear b6
              go_wp2_with fail
              go_ret
              exact ⟨rfl, B6.out⟩
theorem long_card (n kd : Int) (W : World) (hn : (Lit.int .i64 n).wf = true) (hk : (Lit.int .i64 kd).wf = true) (L : LaidW.Laid W) (hsh : W.ShapedOpen Tryd.prog) :
    Calls Tryd.prog 3 #[.int .i64 n, .int .i64 kd] W fun e w' => e = .returned (.bool true) ∧ Below W.heap.size W w' :=
  long_walk n kd W (ready_of L hsh) (by simp only [Lit.wf, Bool.and_eq_true, decide_eq_true_eq] at hn; exact hn) (by simp only [Lit.wf, Bool.and_eq_true, decide_eq_true_eq] at hk; exact hk)
end Go.Proofs.YtenpnejkgopghaaDoor.Tok

/- Proved: x.quoted() of a scanner. Conditions: the text's length, how many tokens there are. -/
import Derived.Test.YtenpnejkgopghaaDoorSc4
import Derived.Test.YtenpnejkgopghaaDoorScK
set_option linter.unusedVariables false
namespace Go.Proofs.YtenpnejkgopghaaDoor.Tok
open Go Go.RowKit Go.Proofs.YtenpnejkgopghaaDoor.AK
variable [Gnd]
/-- A row of bytes. -/
def brow (c : CellV) (b : ByteArray) : MSt := ⟨[], [⟨c, 5, 1, b.size, bytesV b⟩]⟩
theorem brow_raw {B : Nat} {S : MSt} {tv : Value} {b : ByteArray} (h : ∃ w, MemAt w B (S.and (brow (.st tv) b)) []) : rawOne tv = true := by
  obtain ⟨w, h⟩ := h
  obtain ⟨v', e, h2⟩ := h.row ⟨.st tv, 5, 1, b.size, bytesV b⟩ (List.mem_append_right _ (List.mem_singleton.2 rfl))
  cases e
  obtain ⟨_, _, _, ho⟩ := h2.slice
  exact ho
theorem sc_raw2 {B g : Nat} {s : ByteArray} {i : Nat} {ts : List T} {v : Value} {R : MSt} (h : ∃ w, MemAt w B ((Sc g s i ts (.st v)).and R) []) : rawOne v = true := by
  letI := Env.plain
  obtain ⟨w, h⟩ := h
  exact sc_raw ⟨w, h.left (sc_foot [])⟩
/-- One round. -/
theorem quo_round {B g i j : Nat} {s : ByteArray} {ts : List T} {v tv : Value} {b : ByteArray} (hij : i < j) (hj : j ≤ s.size) (hs : s.size ≤ 800000) (hts : ts.length ≤ 900000) (hb : b.size ≤ j) :
    Goes Tryd.prog 89 B (tlC (tlC (tlC (scC (tlC (codeOf Tryd.f42)))))) ((Sc g s i ts (.st v)).and (brow (.st tv) b)) (frO 89 [(0, .pointer (some ⟨g, 0, none⟩)), (3, tv), (4, .int .i64 ((j : Nat) : Int))]) fun e S1 o1 =>
      (quoStep s j = none ∧ e = .ret ∧ S1 = (Sc g s i ts (.st v)).and (brow (.st tv) b) ∧ resO Tryd.f42.results.toList o1 = some (.int .i64 2)) ∨
      (quoStep s j = some none ∧ 200 < b.size ∧ e = .ret ∧ S1 = (Sc g s i ts (.st v)).and (brow (.st tv) b) ∧ resO Tryd.f42.results.toList o1 = some (.int .i64 3)) ∨
      (quoStep s j = some none ∧ ¬ 200 < b.size ∧ e = .ret ∧ ∃ v0, S1 = (Sc g s (j + 1) (ts ++ [⟨2, b, 0, 0, 0, ((i : Nat) : Int)⟩]) (.st v0)).and (brow (.st tv) b) ∧ resO Tryd.f42.results.toList o1 = some (.int .i64 0)) ∨
      (∃ k c, quoStep s j = some (some (k, c)) ∧ e = .goto 0 ∧ ∃ v0, S1 = (Sc g s i ts (.st v)).and (brow (.st v0) (b.push c)) ∧ o1 = frO 89 [(0, .pointer (some ⟨g, 0, none⟩)), (3, v0), (4, .int .i64 ((k : Nat) : Int))]) := by
  refine Goes.know fun hw => ?_
  have hv := sc_raw2 hw
  have htv := brow_raw hw
  have hbb : b.size ≤ 900000 := by omega
  by_cases a0 : s.size = j
  · exact ((((quod hij hj (by omega) hts hbb hv htv).2 (by omega)).1 (by omega))).mono (fun e S1 o1 ⟨q1, q2, q3⟩ => .inl ⟨by unfold quoStep; rw [if_pos (by omega)], q1, q2, by rw [q3]; rfl⟩)
  · by_cases a1 : (at8 s j).toNat = 10
    · exact (((((quod hij hj (by omega) hts hbb hv htv).2 (by omega)).2 (by omega)).1 (by omega))).mono (fun e S1 o1 ⟨q1, q2, q3⟩ => .inl ⟨by unfold quoStep; rw [if_pos (by omega)], q1, q2, by rw [q3]; rfl⟩)
    · by_cases a2 : (at8 s j).toNat = 39
      · by_cases a3 : j + 1 < s.size
        · by_cases a4 : (at8 s (j + 1)).toNat = 39
          · exact ((((((((quod hij hj (by omega) hts hbb hv htv).2 (by omega)).2 (by omega)).2 (by omega)).2 (by omega)).1 (by omega)).1 (by omega))).mono (fun e S1 o1 ⟨q1, v0, q2, q3⟩ => .inr (.inr (.inr ⟨_, _, by unfold quoStep; rw [if_neg (by omega), if_pos (by omega), if_pos (by omega)], q1, v0, q2, q3⟩)))
          · by_cases a9 : 200 < b.size
            · exact (((((((((quod hij hj (by omega) hts hbb hv htv).2 (by omega)).2 (by omega)).2 (by omega)).2 (by omega)).1 (by omega)).2 (by omega)).1 (by omega))).mono (fun e S1 o1 ⟨q1, q2, q3⟩ => .inr (.inl ⟨by unfold quoStep; rw [if_neg (by omega), if_pos (by omega), if_neg (by omega)], a9, q1, q2, by rw [q3]; rfl⟩))
            · exact (((((((((quod hij hj (by omega) hts hbb hv htv).2 (by omega)).2 (by omega)).2 (by omega)).2 (by omega)).1 (by omega)).2 (by omega)).2 (by omega))).mono (fun e S1 o1 ⟨q1, v0, q2, q3⟩ => .inr (.inr (.inl ⟨by unfold quoStep; rw [if_neg (by omega), if_pos (by omega), if_neg (by omega)], a9, q1, v0, q2, by rw [q3]; rfl⟩)))
        · by_cases a9 : 200 < b.size
          · exact ((((((((quod hij hj (by omega) hts hbb hv htv).2 (by omega)).2 (by omega)).2 (by omega)).1 (by omega)).1 (by omega)).1 (by omega))).mono (fun e S1 o1 ⟨q1, q2, q3⟩ => .inr (.inl ⟨by unfold quoStep; rw [if_neg (by omega), if_pos (by omega), if_neg (by omega)], a9, q1, q2, by rw [q3]; rfl⟩))
          · exact ((((((((quod hij hj (by omega) hts hbb hv htv).2 (by omega)).2 (by omega)).2 (by omega)).1 (by omega)).1 (by omega)).2 (by omega))).mono (fun e S1 o1 ⟨q1, v0, q2, q3⟩ => .inr (.inr (.inl ⟨by unfold quoStep; rw [if_neg (by omega), if_pos (by omega), if_neg (by omega)], a9, q1, v0, q2, by rw [q3]; rfl⟩)))
      · by_cases a3 : (at8 s j).toNat = 92
        · by_cases a4 : j + 1 < s.size
          · by_cases a5 : (at8 s (j + 1)).toNat = 92
            · exact (((((((((quod hij hj (by omega) hts hbb hv htv).2 (by omega)).2 (by omega)).2 (by omega)).2 (by omega)).2 (by omega)).1 (by omega)).1 (by omega))).mono (fun e S1 o1 ⟨q1, v0, q2, q3⟩ => .inr (.inr (.inr ⟨_, _, by unfold quoStep; rw [if_neg (by omega), if_neg (by omega), if_pos (by omega), if_pos (by omega)], q1, v0, q2, q3⟩)))
            · by_cases a6 : (at8 s (j + 1)).toNat = 110
              · exact ((((((((((quod hij hj (by omega) hts hbb hv htv).2 (by omega)).2 (by omega)).2 (by omega)).2 (by omega)).2 (by omega)).1 (by omega)).2 (by omega)).1 (by omega))).mono (fun e S1 o1 ⟨q1, v0, q2, q3⟩ => .inr (.inr (.inr ⟨_, _, by unfold quoStep; rw [if_neg (by omega), if_neg (by omega), if_pos (by omega), if_neg (by omega), if_pos (by omega)], q1, v0, q2, q3⟩)))
              · by_cases a7 : (at8 s (j + 1)).toNat = 39
                · exact (((((((((((quod hij hj (by omega) hts hbb hv htv).2 (by omega)).2 (by omega)).2 (by omega)).2 (by omega)).2 (by omega)).1 (by omega)).2 (by omega)).2 (by omega)).1 (by omega))).mono (fun e S1 o1 ⟨q1, v0, q2, q3⟩ => .inr (.inr (.inr ⟨_, _, by unfold quoStep; rw [if_neg (by omega), if_neg (by omega), if_pos (by omega), if_neg (by omega), if_neg (by omega), if_pos (by omega)], q1, v0, q2, q3⟩)))
                · exact (((((((((((quod hij hj (by omega) hts hbb hv htv).2 (by omega)).2 (by omega)).2 (by omega)).2 (by omega)).2 (by omega)).1 (by omega)).2 (by omega)).2 (by omega)).2 (by omega))).mono (fun e S1 o1 ⟨q1, q2, q3⟩ => .inl ⟨by unfold quoStep; rw [if_neg (by omega), if_neg (by omega), if_pos (by omega), if_neg (by omega), if_neg (by omega), if_neg (by omega)], q1, q2, by rw [q3]; rfl⟩)
          · exact ((((((((quod hij hj (by omega) hts hbb hv htv).2 (by omega)).2 (by omega)).2 (by omega)).1 (by omega)).2 (by omega)).1 (by omega))).mono (fun e S1 o1 ⟨q1, q2, q3⟩ => .inl ⟨by unfold quoStep; rw [if_neg (by omega), if_neg (by omega), if_pos (by omega), if_neg (by omega), if_neg (by omega), if_neg (by omega)], q1, q2, by rw [q3]; rfl⟩)
        · by_cases a4 : j + 1 < s.size
          · exact ((((((((quod hij hj (by omega) hts hbb hv htv).2 (by omega)).2 (by omega)).2 (by omega)).2 (by omega)).2 (by omega)).2 (by omega))).mono (fun e S1 o1 ⟨q1, v0, q2, q3⟩ => .inr (.inr (.inr ⟨_, _, by unfold quoStep; rw [if_neg (by omega), if_neg (by omega), if_neg (by omega)], q1, v0, q2, q3⟩)))
          · exact ((((((((quod hij hj (by omega) hts hbb hv htv).2 (by omega)).2 (by omega)).2 (by omega)).1 (by omega)).2 (by omega)).2 (by omega))).mono (fun e S1 o1 ⟨q1, v0, q2, q3⟩ => .inr (.inr (.inr ⟨_, _, by unfold quoStep; rw [if_neg (by omega), if_neg (by omega), if_neg (by omega)], q1, v0, q2, q3⟩)))
/-- A quoted name. -/
theorem quoted_does {B g i : Nat} {s : ByteArray} {ts : List T} {v : Value} (hi : i < s.size) (hs : s.size ≤ 800000) (hts : ts.length ≤ 900000) :
    Does Tryd.prog 42 [.pointer (some ⟨g, 0, none⟩)] B (Sc g s i ts (.st v)) fun u S1 => match quoTo s (i + 1) ⟨#[]⟩ with
      | none => u = .int .i64 2 ∧ S1 = Sc g s i ts (.st v)
      | some (j, b) => if 200 < b.size then u = .int .i64 3 ∧ S1 = Sc g s i ts (.st v) else u = .int .i64 0 ∧ ∃ v0, S1 = Sc g s (j + 1) (ts ++ [⟨2, b, 0, 0, 0, ((i : Nat) : Int)⟩]) (.st v0) := by
  refine Does.know fun hw => ?_
  have hv := sc_raw hw
  obtain ⟨Q, hQ⟩ : ∃ Q : Value → MSt → Prop, ∀ u S1, Q u S1 ↔ (match quoTo s (i + 1) ⟨#[]⟩ with
      | none => u = .int .i64 2 ∧ S1 = Sc g s i ts (.st v)
      | some (j, b) => if 200 < b.size then u = .int .i64 3 ∧ S1 = Sc g s i ts (.st v) else u = .int .i64 0 ∧ ∃ v0, S1 = Sc g s (j + 1) (ts ++ [⟨2, b, 0, 0, 0, ((i : Nat) : Int)⟩]) (.st v0)) := ⟨_, fun _ _ => Iff.rfl⟩
  have round : ∀ j b tv n, i < j → j ≤ s.size → b.size ≤ j → quoTo s j b = quoTo s (i + 1) ⟨#[]⟩ → s.size - j ≤ n → Goes Tryd.prog 89 B (tlC (tlC (tlC (scC (tlC (codeOf Tryd.f42)))))) ((Sc g s i ts (.st v)).and (brow (.st tv) b)) (frO 89 [(0, .pointer (some ⟨g, 0, none⟩)), (3, tv), (4, .int .i64 ((j : Nat) : Int))]) fun e S1 o1 =>
      match e with
      | .goto l => l = 0 ∧ ∃ n', n' < n ∧ ∃ j b tv, n' = s.size - j ∧ i < j ∧ j ≤ s.size ∧ b.size ≤ j ∧ quoTo s j b = quoTo s (i + 1) ⟨#[]⟩ ∧ S1 = (Sc g s i ts (.st v)).and (brow (.st tv) b) ∧ o1 = frO 89 [(0, .pointer (some ⟨g, 0, none⟩)), (3, tv), (4, .int .i64 ((j : Nat) : Int))]
      | e => (e = .normal ∨ e = .ret) ∧ ∃ u, resO Tryd.f42.results.toList o1 = some u ∧ ∃ T R, S1 = MSt.and T R ∧ (∃ x, Foot T [] x) ∧ Q u T := by
    intro j b tv n h1 h2 h3 h4 hn
    refine (quo_round h1 h2 hs hts h3).mono ?_
    rintro e S1 o1 (⟨q0, rfl, rfl, q3⟩ | ⟨q0, q1, rfl, rfl, q3⟩ | ⟨q0, q1, rfl, v0, rfl, q3⟩ | ⟨k, c, q0, rfl, v0, rfl, rfl⟩)
    · refine ⟨.inr rfl, _, q3, _, _, rfl, sc_foot [], ?_⟩
      rw [hQ]
      rw [← h4, quoTo_bad q0]; exact ⟨rfl, rfl⟩
    · refine ⟨.inr rfl, _, q3, _, _, rfl, sc_foot [], ?_⟩
      rw [hQ]
      rw [← h4, quoTo_end q0]; exact (if_pos q1).mpr ⟨rfl, rfl⟩
    · refine ⟨.inr rfl, _, q3, _, _, rfl, sc_foot [], ?_⟩
      rw [hQ]
      rw [← h4, quoTo_end q0]; exact (if_neg q1).mpr ⟨rfl, v0, rfl⟩
    · have hk := quoStep_on q0
      exact ⟨rfl, s.size - k, by omega, k, b.push c, v0, rfl, by omega, hk.2, by rw [ByteArray.size_push]; omega, by rw [← h4, quoTo_on q0], rfl, rfl⟩
  refine Does.mono (post := Q) ?_ (fun u S1 h => (hQ u S1).1 h)
  refine Does.drop (Goes.callsE (fn := Tryd.f42) Tryd.func42 rfl (Nat.le_of_ble_eq_true rfl) ?_)
  refine Goes.seqE (by kernel_rfl) ((quoa hi (by omega) hv).mono ?_)
  rintro e S1 o1 ⟨rfl, rfl, rfl⟩
  refine Goes.scopeE 0 (by kernel_rfl) (by kernel_rfl) (fun n S o => ∃ j b tv, n = s.size - j ∧ i < j ∧ j ≤ s.size ∧ b.size ≤ j ∧ quoTo s j b = quoTo s (i + 1) ⟨#[]⟩ ∧ S = (Sc g s i ts (.st v)).and (brow (.st tv) b) ∧ o = frO 89 [(0, .pointer (some ⟨g, 0, none⟩)), (3, tv), (4, .int .i64 ((j : Nat) : Int))]) (s.size - i) ?_ ?_
  · refine Goes.seqE (by kernel_rfl) ((quob hi (by omega) hv).mono ?_)
    rintro e S1 o1 ⟨rfl, rfl, rfl⟩
    refine Goes.seqE (by kernel_rfl) ((quoc hi (by omega) hv).mono ?_)
    rintro e S1 o1 ⟨rfl, rfl, rfl⟩
    refine Goes.seqE (by kernel_rfl) ?_
    rw [show hdC (tlC (tlC (scC (tlC (codeOf Tryd.f42))))) = .label 0 by kernel_rfl]
    refine Goes.label ?_
    show Goes _ _ _ (tlC (tlC (tlC (scC (tlC (codeOf Tryd.f42)))))) _ _ _
    refine Goes.addNil 5 1 ((round (i + 1) ⟨#[]⟩ (.slice none 0 0) (s.size - i) (by omega) (by omega) (Nat.zero_le _) rfl (by omega)).mono ?_)
    intro e S1 o1 h
    cases e <;> exact h
  · rintro n S o ⟨j, b, tv, rfl, h1, h2, h3, h4, rfl, rfl⟩
    refine Goes.seqE (by kernel_rfl) ?_
    rw [show hdC (labC 0 (scC (tlC (codeOf Tryd.f42)))) = .skip by kernel_rfl]
    refine Goes.skip ?_
    show Goes _ _ _ (tlC (labC 0 (scC (tlC (codeOf Tryd.f42))))) _ _ _
    rw [show tlC (labC 0 (scC (tlC (codeOf Tryd.f42)))) = tlC (tlC (tlC (scC (tlC (codeOf Tryd.f42))))) by kernel_rfl]
    refine (round j b tv (s.size - j) h1 h2 h3 h4 (Nat.le_refl _)).mono ?_
    intro e S1 o1 h
    cases e <;> exact h
end Go.Proofs.YtenpnejkgopghaaDoor.Tok

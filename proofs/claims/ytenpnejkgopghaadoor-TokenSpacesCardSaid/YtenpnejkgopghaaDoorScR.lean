/- Proved: x.row(is) of a scanner, by kinds of bytes. Conditions: none but the text's length. -/
import Derived.Test.YtenpnejkgopghaaDoorSc1
set_option linter.unusedVariables false
namespace Go.Proofs.YtenpnejkgopghaaDoor.Tok
open Go Go.RowKit Go.Proofs.YtenpnejkgopghaaDoor.AK
variable [Gnd]
theorem rowW_does {B g i : Nat} {s : ByteArray} {ts : List T} {v : Value} (hi : i ≤ s.size) (hs : s.size ≤ 1000000) :
    Does Tryd.prog 29 [.pointer (some ⟨g, 0, none⟩), .func (.func 37) #[] #[]] B (Sc g s i ts (.st v)) fun u S1 => u = .string (s.extract i (runTo isWordy s i)) ∧ S1 = Sc g s i ts (.st v) := by
  refine Does.know fun hw => ?_
  have hv := sc_raw hw
  have tail : ∀ j, i ≤ j → j ≤ s.size → j = runTo isWordy s i → Goes Tryd.prog 39 B (tlC (tlC (tlC (codeOf Tryd.f29)))) (Sc g s i ts (.st v)) (frO 39 [(0, .pointer (some ⟨g, 0, none⟩)), (1, .func (.func 37) #[] #[]), (5, .int .i64 ((j : Nat) : Int))]) fun e S1 o1 => (e = .normal ∨ e = .ret) ∧ ∃ u, resO Tryd.f29.results.toList o1 = some u ∧ u = .string (s.extract i (runTo isWordy s i)) ∧ S1 = Sc g s i ts (.st v) := by
    rintro j h1 h2 rfl
    refine (rowWd h1 h2 hs hv).mono ?_
    rintro e S1 o1 ⟨rfl, rfl, rfl⟩
    exact ⟨.inr rfl, _, rfl, rfl, rfl⟩
  refine Goes.callsE (fn := Tryd.f29) Tryd.func29 rfl (Nat.le_of_ble_eq_true rfl) ?_
  refine Goes.seqE (by kernel_rfl) ((rowWa hi hs hv).mono ?_)
  rintro e S1 o1 ⟨rfl, rfl, rfl⟩
  refine Goes.seqE (by kernel_rfl) ((rowWb hi hs hv).mono ?_)
  rintro e S1 o1 ⟨rfl, rfl, rfl⟩
  refine Goes.seqE (by kernel_rfl) (Goes.blockE 0 (by kernel_rfl) (Goes.loopE (by kernel_rfl) (fun n S o => ∃ j, n = s.size - j ∧ i ≤ j ∧ j ≤ s.size ∧ runTo isWordy s j = runTo isWordy s i ∧ S = Sc g s i ts (.st v) ∧ o = frO 39 [(0, .pointer (some ⟨g, 0, none⟩)), (1, .func (.func 37) #[] #[]), (5, .int .i64 ((j : Nat) : Int))]) (s.size - i) ⟨i, rfl, Nat.le_refl _, hi, rfl, rfl, rfl⟩ ?_))
  rintro n S o ⟨j, rfl, h1, h2, h3, rfl, rfl⟩
  by_cases hj : j < s.size
  · by_cases hp : isWordy (at8 s j) = true
    · refine ((((rowWc h1 h2 hs hv).1 (by omega)).1 hp)).mono ?_
      rintro e S1 o1 ⟨rfl, rfl, rfl⟩
      exact ⟨s.size - (j + 1), by omega, j + 1, rfl, by omega, by omega, by rw [← h3, runTo_yes hj hp], rfl, rfl⟩
    · refine ((((rowWc h1 h2 hs hv).1 (by omega)).2 hp)).mono ?_
      rintro e S1 o1 ⟨rfl, rfl, rfl⟩
      exact (if_pos rfl).mpr (tail j h1 h2 (by rw [← h3, runTo_no (fun h => hp h.2)]))
  · refine (((rowWc h1 h2 hs hv).2 (by omega))).mono ?_
    rintro e S1 o1 ⟨rfl, rfl, rfl⟩
    exact (if_pos rfl).mpr (tail j h1 h2 (by rw [← h3, runTo_no (fun h => hj h.1)]))
theorem rowS_does {B g i : Nat} {s : ByteArray} {ts : List T} {v : Value} (hi : i ≤ s.size) (hs : s.size ≤ 1000000) :
    Does Tryd.prog 29 [.pointer (some ⟨g, 0, none⟩), .func (.func 45) #[] #[]] B (Sc g s i ts (.st v)) fun u S1 => u = .string (s.extract i (runTo isSign s i)) ∧ S1 = Sc g s i ts (.st v) := by
  refine Does.know fun hw => ?_
  have hv := sc_raw hw
  have tail : ∀ j, i ≤ j → j ≤ s.size → j = runTo isSign s i → Goes Tryd.prog 39 B (tlC (tlC (tlC (codeOf Tryd.f29)))) (Sc g s i ts (.st v)) (frO 39 [(0, .pointer (some ⟨g, 0, none⟩)), (1, .func (.func 45) #[] #[]), (5, .int .i64 ((j : Nat) : Int))]) fun e S1 o1 => (e = .normal ∨ e = .ret) ∧ ∃ u, resO Tryd.f29.results.toList o1 = some u ∧ u = .string (s.extract i (runTo isSign s i)) ∧ S1 = Sc g s i ts (.st v) := by
    rintro j h1 h2 rfl
    refine (rowSd h1 h2 hs hv).mono ?_
    rintro e S1 o1 ⟨rfl, rfl, rfl⟩
    exact ⟨.inr rfl, _, rfl, rfl, rfl⟩
  refine Goes.callsE (fn := Tryd.f29) Tryd.func29 rfl (Nat.le_of_ble_eq_true rfl) ?_
  refine Goes.seqE (by kernel_rfl) ((rowSa hi hs hv).mono ?_)
  rintro e S1 o1 ⟨rfl, rfl, rfl⟩
  refine Goes.seqE (by kernel_rfl) ((rowSb hi hs hv).mono ?_)
  rintro e S1 o1 ⟨rfl, rfl, rfl⟩
  refine Goes.seqE (by kernel_rfl) (Goes.blockE 0 (by kernel_rfl) (Goes.loopE (by kernel_rfl) (fun n S o => ∃ j, n = s.size - j ∧ i ≤ j ∧ j ≤ s.size ∧ runTo isSign s j = runTo isSign s i ∧ S = Sc g s i ts (.st v) ∧ o = frO 39 [(0, .pointer (some ⟨g, 0, none⟩)), (1, .func (.func 45) #[] #[]), (5, .int .i64 ((j : Nat) : Int))]) (s.size - i) ⟨i, rfl, Nat.le_refl _, hi, rfl, rfl, rfl⟩ ?_))
  rintro n S o ⟨j, rfl, h1, h2, h3, rfl, rfl⟩
  by_cases hj : j < s.size
  · by_cases hp : isSign (at8 s j) = true
    · refine ((((rowSc h1 h2 hs hv).1 (by omega)).1 hp)).mono ?_
      rintro e S1 o1 ⟨rfl, rfl, rfl⟩
      exact ⟨s.size - (j + 1), by omega, j + 1, rfl, by omega, by omega, by rw [← h3, runTo_yes hj hp], rfl, rfl⟩
    · refine ((((rowSc h1 h2 hs hv).1 (by omega)).2 hp)).mono ?_
      rintro e S1 o1 ⟨rfl, rfl, rfl⟩
      exact (if_pos rfl).mpr (tail j h1 h2 (by rw [← h3, runTo_no (fun h => hp h.2)]))
  · refine (((rowSc h1 h2 hs hv).2 (by omega))).mono ?_
    rintro e S1 o1 ⟨rfl, rfl, rfl⟩
    exact (if_pos rfl).mpr (tail j h1 h2 (by rw [← h3, runTo_no (fun h => hj h.1)]))
theorem rowB_does {B g i : Nat} {s : ByteArray} {ts : List T} {v : Value} (hi : i ≤ s.size) (hs : s.size ≤ 1000000) :
    Does Tryd.prog 29 [.pointer (some ⟨g, 0, none⟩), .func (.func 30) #[] #[]] B (Sc g s i ts (.st v)) fun u S1 => u = .string (s.extract i (runTo isWhite s i)) ∧ S1 = Sc g s i ts (.st v) := by
  refine Does.know fun hw => ?_
  have hv := sc_raw hw
  have tail : ∀ j, i ≤ j → j ≤ s.size → j = runTo isWhite s i → Goes Tryd.prog 39 B (tlC (tlC (tlC (codeOf Tryd.f29)))) (Sc g s i ts (.st v)) (frO 39 [(0, .pointer (some ⟨g, 0, none⟩)), (1, .func (.func 30) #[] #[]), (5, .int .i64 ((j : Nat) : Int))]) fun e S1 o1 => (e = .normal ∨ e = .ret) ∧ ∃ u, resO Tryd.f29.results.toList o1 = some u ∧ u = .string (s.extract i (runTo isWhite s i)) ∧ S1 = Sc g s i ts (.st v) := by
    rintro j h1 h2 rfl
    refine (rowBd h1 h2 hs hv).mono ?_
    rintro e S1 o1 ⟨rfl, rfl, rfl⟩
    exact ⟨.inr rfl, _, rfl, rfl, rfl⟩
  refine Goes.callsE (fn := Tryd.f29) Tryd.func29 rfl (Nat.le_of_ble_eq_true rfl) ?_
  refine Goes.seqE (by kernel_rfl) ((rowBa hi hs hv).mono ?_)
  rintro e S1 o1 ⟨rfl, rfl, rfl⟩
  refine Goes.seqE (by kernel_rfl) ((rowBb hi hs hv).mono ?_)
  rintro e S1 o1 ⟨rfl, rfl, rfl⟩
  refine Goes.seqE (by kernel_rfl) (Goes.blockE 0 (by kernel_rfl) (Goes.loopE (by kernel_rfl) (fun n S o => ∃ j, n = s.size - j ∧ i ≤ j ∧ j ≤ s.size ∧ runTo isWhite s j = runTo isWhite s i ∧ S = Sc g s i ts (.st v) ∧ o = frO 39 [(0, .pointer (some ⟨g, 0, none⟩)), (1, .func (.func 30) #[] #[]), (5, .int .i64 ((j : Nat) : Int))]) (s.size - i) ⟨i, rfl, Nat.le_refl _, hi, rfl, rfl, rfl⟩ ?_))
  rintro n S o ⟨j, rfl, h1, h2, h3, rfl, rfl⟩
  by_cases hj : j < s.size
  · by_cases hp : isWhite (at8 s j) = true
    · refine ((((rowBc h1 h2 hs hv).1 (by omega)).1 hp)).mono ?_
      rintro e S1 o1 ⟨rfl, rfl, rfl⟩
      exact ⟨s.size - (j + 1), by omega, j + 1, rfl, by omega, by omega, by rw [← h3, runTo_yes hj hp], rfl, rfl⟩
    · refine ((((rowBc h1 h2 hs hv).1 (by omega)).2 hp)).mono ?_
      rintro e S1 o1 ⟨rfl, rfl, rfl⟩
      exact (if_pos rfl).mpr (tail j h1 h2 (by rw [← h3, runTo_no (fun h => hp h.2)]))
  · refine (((rowBc h1 h2 hs hv).2 (by omega))).mono ?_
    rintro e S1 o1 ⟨rfl, rfl, rfl⟩
    exact (if_pos rfl).mpr (tail j h1 h2 (by rw [← h3, runTo_no (fun h => hj h.1)]))
theorem rowL_does {B g i : Nat} {s : ByteArray} {ts : List T} {v : Value} (hi : i ≤ s.size) (hs : s.size ≤ 1000000) :
    Does Tryd.prog 29 [.pointer (some ⟨g, 0, none⟩), .func (.func 33) #[] #[]] B (Sc g s i ts (.st v)) fun u S1 => u = .string (s.extract i (runTo notNl s i)) ∧ S1 = Sc g s i ts (.st v) := by
  refine Does.know fun hw => ?_
  have hv := sc_raw hw
  have tail : ∀ j, i ≤ j → j ≤ s.size → j = runTo notNl s i → Goes Tryd.prog 39 B (tlC (tlC (tlC (codeOf Tryd.f29)))) (Sc g s i ts (.st v)) (frO 39 [(0, .pointer (some ⟨g, 0, none⟩)), (1, .func (.func 33) #[] #[]), (5, .int .i64 ((j : Nat) : Int))]) fun e S1 o1 => (e = .normal ∨ e = .ret) ∧ ∃ u, resO Tryd.f29.results.toList o1 = some u ∧ u = .string (s.extract i (runTo notNl s i)) ∧ S1 = Sc g s i ts (.st v) := by
    rintro j h1 h2 rfl
    refine (rowLd h1 h2 hs hv).mono ?_
    rintro e S1 o1 ⟨rfl, rfl, rfl⟩
    exact ⟨.inr rfl, _, rfl, rfl, rfl⟩
  refine Goes.callsE (fn := Tryd.f29) Tryd.func29 rfl (Nat.le_of_ble_eq_true rfl) ?_
  refine Goes.seqE (by kernel_rfl) ((rowLa hi hs hv).mono ?_)
  rintro e S1 o1 ⟨rfl, rfl, rfl⟩
  refine Goes.seqE (by kernel_rfl) ((rowLb hi hs hv).mono ?_)
  rintro e S1 o1 ⟨rfl, rfl, rfl⟩
  refine Goes.seqE (by kernel_rfl) (Goes.blockE 0 (by kernel_rfl) (Goes.loopE (by kernel_rfl) (fun n S o => ∃ j, n = s.size - j ∧ i ≤ j ∧ j ≤ s.size ∧ runTo notNl s j = runTo notNl s i ∧ S = Sc g s i ts (.st v) ∧ o = frO 39 [(0, .pointer (some ⟨g, 0, none⟩)), (1, .func (.func 33) #[] #[]), (5, .int .i64 ((j : Nat) : Int))]) (s.size - i) ⟨i, rfl, Nat.le_refl _, hi, rfl, rfl, rfl⟩ ?_))
  rintro n S o ⟨j, rfl, h1, h2, h3, rfl, rfl⟩
  by_cases hj : j < s.size
  · by_cases hp : notNl (at8 s j) = true
    · refine ((((rowLc h1 h2 hs hv).1 (by omega)).1 hp)).mono ?_
      rintro e S1 o1 ⟨rfl, rfl, rfl⟩
      exact ⟨s.size - (j + 1), by omega, j + 1, rfl, by omega, by omega, by rw [← h3, runTo_yes hj hp], rfl, rfl⟩
    · refine ((((rowLc h1 h2 hs hv).1 (by omega)).2 hp)).mono ?_
      rintro e S1 o1 ⟨rfl, rfl, rfl⟩
      exact (if_pos rfl).mpr (tail j h1 h2 (by rw [← h3, runTo_no (fun h => hp h.2)]))
  · refine (((rowLc h1 h2 hs hv).2 (by omega))).mono ?_
    rintro e S1 o1 ⟨rfl, rfl, rfl⟩
    exact (if_pos rfl).mpr (tail j h1 h2 (by rw [← h3, runTo_no (fun h => hj h.1)]))
end Go.Proofs.YtenpnejkgopghaaDoor.Tok

/- Proved: token.Quote: what it answers. Conditions: the text's length; what lies below is laid. -/
import Derived.Test.YtenpnejkgopghaaDoorSc8
set_option linter.unusedVariables false
set_option linter.unusedSectionVars false
set_option linter.unusedSimpArgs false
set_option maxRecDepth 100000
namespace Go.Proofs.YtenpnejkgopghaaDoor.Tok
open Go Go.RowKit Go.Proofs.YtenpnejkgopghaaDoor.AK
theorem brow_raw1 [Gnd] {B : Nat} {tv : Value} {b : ByteArray} (h : ∃ w, MemAt w B (brow (.st tv) b) []) : rawOne tv = true := by
  obtain ⟨w, h⟩ := h
  obtain ⟨v', e, h2⟩ := h.row ⟨.st tv, 5, 1, b.size, bytesV b⟩ (List.mem_singleton.2 rfl)
  cases e
  obtain ⟨_, _, _, ho⟩ := h2.slice
  exact ho
noncomputable abbrev quoT : Code := tlC (tlC (tlC (codeOf Tryd.f20)))
def QI (s : ByteArray) (q : ByteArray) (n : Nat) (S : MSt) (o : List (Option Value)) : Prop :=
  ∃ j b tv, n = s.size - j ∧ j ≤ s.size ∧ b.size ≤ 2 * j + 1 ∧ quoteTo s j b = q ∧ S = brow (.st tv) b ∧ o = frO 43 [(0, .string s), (3, tv), (10, .int .i64 ((s.size : Nat) : Int)), (11, .int .i64 ((j : Nat) : Int))]
def QP (q : ByteArray) (e : Exit) (S1 : MSt) (o1 : List (Option Value)) : Prop := e = .ret ∧ resO Tryd.f20.results.toList o1 = some (.string q)
theorem quo_goes [Gnd] {B : Nat} {s : ByteArray} {tv : Value} (hs : s.size ≤ 400000) :
    Goes Tryd.prog 43 B quoT (brow (.st tv) ⟨#[39]⟩) (frO 43 [(0, .string s), (3, tv)]) (QP (quoteTo s 0 ⟨#[39]⟩)) := by
  refine Goes.know fun hw => ?_
  have htv := brow_raw1 hw
  refine Goes.seqE (by kernel_rfl) (Goes.seqE (by kernel_rfl) ((qur4 (j := 0) (Nat.zero_le _) hs (by decide) htv).mono ?_))
  rintro e S1 o1 ⟨rfl, rfl, rfl⟩
  refine Goes.blockE 0 (by kernel_rfl) (Goes.loopE (by kernel_rfl) (QI s (quoteTo s 0 ⟨#[39]⟩)) s.size ⟨0, ⟨#[39]⟩, tv, rfl, Nat.zero_le _, Nat.le_refl _, rfl, rfl, rfl⟩ ?_)
  rintro n S o ⟨j, b, tv, rfl, hj, hb, hq, rfl, rfl⟩
  refine Goes.know fun hw => ?_
  have htv := brow_raw1 hw
  by_cases h0 : ((j : Nat) : Int) < ((s.size : Nat) : Int)
  · have on : ∀ (b' : ByteArray) (v0 : Value), escB b (at8 s j) = b' → ∃ n', n' < s.size - j ∧ QI s (quoteTo s 0 ⟨#[39]⟩) n' (brow (.st v0) b') (frO 43 [(0, .string s), (3, v0), (10, .int .i64 ((s.size : Nat) : Int)), (11, .int .i64 (((j + 1) : Nat) : Int))]) := fun b' v0 hb' => by
      have := escB_size b (at8 s j)
      rw [hb'] at this
      exact ⟨s.size - (j + 1), by omega, j + 1, b', v0, rfl, by omega, by omega, by rw [← hq, quoteTo_on (s := s) (j := j) (b := b) (by omega), hb'], rfl, rfl⟩
    by_cases h1 : ((at8 s j).toNat : Int) = (92 : Int)
    · refine ((((qurd hj hs (by omega) htv).1 h0).1 h1)).mono ?_
      rintro e S1 o1 ⟨rfl, v0, rfl, rfl⟩
      exact on _ _ (by unfold escB; rw [if_pos (by omega)])
    · by_cases h2 : ((at8 s j).toNat : Int) = (10 : Int)
      · refine (((((qurd hj hs (by omega) htv).1 h0).2 h1).1 h2)).mono ?_
        rintro e S1 o1 ⟨rfl, v0, rfl, rfl⟩
        exact on _ _ (by unfold escB; rw [if_neg (by omega), if_pos (by omega)])
      · by_cases h3 : ((at8 s j).toNat : Int) = (39 : Int)
        · refine ((((((qurd hj hs (by omega) htv).1 h0).2 h1).2 h2).1 h3)).mono ?_
          rintro e S1 o1 ⟨rfl, v0, rfl, rfl⟩
          exact on _ _ (by unfold escB; rw [if_neg (by omega), if_neg (by omega), if_pos (by omega)])
        · refine ((((((qurd hj hs (by omega) htv).1 h0).2 h1).2 h2).2 h3)).mono ?_
          rintro e S1 o1 ⟨rfl, v0, rfl, rfl⟩
          exact on _ _ (by unfold escB; rw [if_neg (by omega), if_neg (by omega), if_neg (by omega)])
  · refine (((qurd hj hs (by omega) htv).2 h0)).mono ?_
    rintro e S1 o1 ⟨rfl, rfl, rfl⟩
    refine (if_pos rfl).mpr ?_
    refine (quend hj hs (by omega) htv).mono ?_
    rintro e S1 o1 ⟨rfl, v0, rfl, rfl⟩
    exact ⟨rfl, by rw [← hq, quoteTo_end (by omega)]; rfl⟩
theorem new_row [Gnd] (w1 : World) (hg : ∀ x o, Gnd.obj x = some o → False) : MemAt (w1.alloc (Obj.cells #[Value.int IntKind.u8 39] 5)) w1.heap.size (brow (.st (.slice (some ⟨w1.heap.size, 0, none⟩) 1 1)) ⟨#[39]⟩) [] where
  blk := fun b hb => by cases hb
  row := fun r hr => by
    rcases List.mem_singleton.1 hr with rfl
    exact ⟨_, rfl, rfl, .inr ⟨w1.heap.size, 1, _, _, rfl, Nat.le_refl _, alloc_new w1 _, fun j => by simp, Nat.le_refl _, rfl, rfl⟩⟩
  one := fun u hu => by cases hu
  bb := List.Pairwise.nil
  br := fun b hb => by cases hb
  rr := List.pairwise_singleton _ _
  ex := ⟨w1.heap.size, .inr ⟨_, List.mem_singleton.2 rfl, _, rfl, rfl⟩⟩
  gd := fun x o hx => (hg x o hx).elim
set_option maxHeartbeats 3200000 in
theorem quote_any {w0 w : World} (R : Ready w0) (b : Below w0.heap.size w0 w) {s : ByteArray} (hs : s.size ≤ 60000) :
    Calls Tryd.prog 20 #[.string s] w fun e w' => e = .returned (.string (quoteB s)) ∧ Below w.heap.size w w' := by
  have hp := plain_any R b hs
  have hq0 : quoteB s = if plainB s = true then s else quoteTo s 0 ⟨#[39]⟩ := rfl
  cases hpl : plainB s with
  | true =>
    rw [hpl] at hp
    rw [hpl, if_pos rfl] at hq0
    have HQ := Lib.hid hq0
    clear hq0 hpl
    go_enter Tryd.func20, Tryd.ntmps20
    go_wp2_with fail
    (with_reducible refine hp.mono ?_); rintro e w1 ⟨rfl, b1⟩
    have B1 := Lib.hid b1
    clear b1
    go_wp2_with fail
    go_ret
    exact ⟨by rw [HQ.out]; rfl, B1.out⟩
  | false =>
    rw [hpl] at hp
    rw [hpl, if_neg (by decide)] at hq0
    have HQ := Lib.hid hq0
    clear hq0 hpl
    letI : Gnd := ⟨fun _ => none⟩
    letI := Env.plain
    obtain ⟨T0, hT0⟩ : ∃ T0, T0 = quoT := ⟨_, rfl⟩
    have hb : Tryd.f20.body = some (.seq (hdC (codeOf Tryd.f20)) (.seq (hdC (tlC (codeOf Tryd.f20))) (.seq (hdC (tlC (tlC (codeOf Tryd.f20)))) T0))) := by
      rw [hT0]; kernel_rfl
    have e1 : hdC (codeOf Tryd.f20) = Code.region 0 _ false := rfl
    have e2 : hdC (tlC (codeOf Tryd.f20)) = Code.seq (.region 1 _ false) (.cond _ _ _) := rfl
    have e3 : hdC (tlC (tlC (codeOf Tryd.f20))) = Code.region 3 _ false := rfl
    rw [e1, e2, e3] at hb
    clear e1 e2 e3
    refine (callsIn_wd (rd := none) (n := 0)).1 (callsIn_of_wp_marks Tryd.func20 hb trivial ?_)
    refine wpIn_wide.2 ?_
    simp only [Tryd.ntmps20, List.size_toArray, List.length_cons, List.length_nil, Nat.reduceAdd, Nat.reduceSub, Array.replicate_succ, Array.replicate_zero, List.push_toArray, List.append_toArray, List.nil_append, List.cons_append]
    go_wp2_with fail
    (with_reducible refine hp.mono ?_); rintro e w1 ⟨rfl, b1⟩
    have B1 := Lib.hid b1
    clear b1 hp
    go_wp2_with fail
    refine wp_of_wd ?_
    have hm := new_row w1 (fun x o hx => by cases hx)
    rw [hT0]
    refine wpIn_mono ((quo_goes (s := s) (by omega)) (w1.alloc (Obj.cells #[Value.int IntKind.u8 39] 5)).heap.size (w1.alloc (Obj.cells #[Value.int IntKind.u8 39] 5)) _ _ _ (by rw [alloc_size]; omega) (MemTo.refl hm) ⟨?_, rfl, Nat.le_refl _, .nil⟩) ?_
    · repeat (first | exact .nil | refine .is ?_ | refine .any ?_)
    · rintro e a1 w2 ⟨S1, o1, ⟨rfl, hres⟩, r1, r2⟩
      exact leave_mem hm (by rw [alloc_size]; omega) r1 r2 hres fun w' h3 => ⟨by rw [HQ.out], chain B1.out (memTo_below h3 hm)⟩
end Go.Proofs.YtenpnejkgopghaaDoor.Tok

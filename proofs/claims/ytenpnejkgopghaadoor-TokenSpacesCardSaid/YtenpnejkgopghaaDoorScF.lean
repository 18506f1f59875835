/- Proved: token.All: a text's tokens, in fresh memory. Conditions: the text is no longer than may be; what lies below is laid. -/
import Derived.Test.YtenpnejkgopghaaDoorSc7
import Derived.WalkKit
set_option linter.unusedVariables false
set_option maxRecDepth 100000
set_option linter.unusedSectionVars false
set_option linter.unusedSimpArgs false
namespace Go.Proofs.YtenpnejkgopghaaDoor.AK
open Go
section
variable [Gnd] {P : Program} {nt B : Nat} {S : MSt} {o : List (Option Value)}
/-- Code ahead of a label that is jumped back to. -/
theorem Goes.late {post : Exit → MSt → List (Option Value) → Prop} {l : Nat} {r c d : Code} (hl : findLabel c l = some r) (I : Nat → MSt → List (Option Value) → Prop) (n0 : Nat)
    (hd : Goes P nt B d S o fun e S1 o1 => match e with | .goto j => j = l ∧ ∃ n', n' < n0 ∧ I n' S1 o1 | e => post e S1 o1)
    (round : ∀ n S o, I n S o → Goes P nt B r S o fun e S1 o1 => match e with | .goto j => j = l ∧ ∃ n', n' < n ∧ I n' S1 o1 | e => post e S1 o1)
    {Q : Exit → Act → World → Prop} {lo : Nat} {w0 : World} {S0 : MSt} {a : Act} {w : World} (hB : B ≤ lo) (hT : MemTo w0 B S0 [] S [] w) (hF : Fra nt lo (Foot S []) o a w)
    (hQ : ∀ e a1 w1 S1 o1, post e S1 o1 → MemTo w0 B S0 [] S1 [] w1 → Fra nt lo (Foot S1 []) o1 a1 w1 → Q e a1 w1) :
    d.wpIn (Wd none) 0 P (fun e a w => match e with | .goto l => (match findLabel c l with | some r => jumpsIn (Wd none) 0 P c Q n0 r a w | none => Q (.goto l) a w) | e => Q e a w) a w := by
  have key : ∀ n, ∀ S o a w, I n S o → MemTo w0 B S0 [] S [] w → Fra nt lo (Foot S []) o a w → jumpsIn (Wd none) 0 P c Q (n + 1) r a w := by
    intro n
    induction n using Nat.strongRecOn with
    | _ n ih =>
      intro S o a w hI hT hF
      refine wpIn_mono (round n S o hI lo w0 S0 a w hB hT hF) ?_
      rintro e a1 w1 ⟨S1, o1, q, r1, r2⟩
      cases e with
      | goto j =>
        obtain ⟨rfl, n', q1, q2⟩ := q
        show (match findLabel c j with | some r => jumpsIn (Wd none) 0 P c Q n r a1 w1 | none => Q (.goto j) a1 w1)
        rw [hl]
        exact jumpsIn_le (ih n' q1 S1 o1 a1 w1 q2 r1 r2) q1
      | normal => exact hQ _ _ _ S1 o1 q r1 r2
      | exit _ => exact hQ _ _ _ S1 o1 q r1 r2
      | ret => exact hQ _ _ _ S1 o1 q r1 r2
      | panic _ => exact hQ _ _ _ S1 o1 q r1 r2
      | outgrown => exact hQ _ _ _ S1 o1 q r1 r2
  refine wpIn_mono (hd lo w0 S0 a w hB hT hF) ?_
  rintro e a1 w1 ⟨S1, o1, q, r1, r2⟩
  cases e with
  | goto j =>
    obtain ⟨rfl, n', q1, q2⟩ := q
    show (match findLabel c j with | some r => jumpsIn (Wd none) 0 P c Q n0 r a1 w1 | none => Q (.goto j) a1 w1)
    rw [hl]
    exact jumpsIn_le (key n' S1 o1 a1 w1 q2 r1 r2) q1
  | normal => exact hQ _ _ _ S1 o1 q r1 r2
  | exit _ => exact hQ _ _ _ S1 o1 q r1 r2
  | ret => exact hQ _ _ _ S1 o1 q r1 r2
  | panic _ => exact hQ _ _ _ S1 o1 q r1 r2
  | outgrown => exact hQ _ _ _ S1 o1 q r1 r2
/-- A function is left. -/
theorem leave_mem {fn : Func} {w w1 : World} {S1 : MSt} {o1 : List (Option Value)} {a1 : Act} {v : Value} {R : Ending → World → Prop} (hw : MemAt w B S []) (hB : B ≤ w.heap.size) (h3 : MemTo w B S [] S1 [] w1) (h4 : Fra fn.ntmps w.heap.size (Foot S1 []) o1 a1 w1) (h1 : resO fn.results.toList o1 = some v)
    (hR : ∀ w', MemTo w B S [] S1 [] w' → R (.returned v) w') : LeavesInM (Wd none) 0 P fn a1.tmps R a1.defers .returning w1 := by
  letI := memEnv [] B [(S, 0), (S1, 0)]
  have hd : DefF w.heap.size (Env.foot 1 []) w1 a1.defers := h4.defs.more fun x hx => by
    rcases (show (∃ S' n', [(S, 0), (S1, 0)][1]? = some (S', n') ∧ Foot S' [] x) ∨ (Gnd.obj x).isSome = true from hx) with ⟨S', n', q1, q2⟩ | q
    · cases q1; exact .inl q2
    · obtain ⟨o, ho⟩ := Option.isSome_iff_exists.1 q
      exact .inr (Array.getElem?_eq_some_iff.1 (hw.gd x o ho).2).1
  have hE : Eff 0 [] w 1 [] w1 := mem_eff (vs := []) (n := 0) (n1 := 0) (S := S) (S1 := S1) rfl rfl rfl rfl h3
  refine leaveF (k := 0) (k1 := 1) (σ := []) (σ1 := []) a1.defers w1 hE hd ?_
  intro w2 E2
  obtain ⟨_, q2⟩ := mem_of_eff (n := 0) (n1 := 0) (S := S) (S1 := S1) rfl rfl (fun x o hx => (hw.gd x o hx).2) E2
  exact ⟨v, resO_run h4.slots h1, hR w2 q2⟩
end
end Go.Proofs.YtenpnejkgopghaaDoor.AK
namespace Go.Proofs.YtenpnejkgopghaaDoor.Tok
open Go Go.RowKit Go.Proofs.YtenpnejkgopghaaDoor.AK
theorem wp_of_wd {P : Program} {c : Code} {Q : Exit → Act → World → Prop} {a : Act} {w : World} (h : c.wpIn (Wd none) 0 P Q a w) : c.wp P Q a w := wpIn_wide.1 h
theorem alloc_at (w : World) (o : Obj) {x : Nat} (h : x < w.heap.size) : (w.alloc o).heap[x]? = w.heap[x]? := by
  show (w.heap.push o)[x]? = _
  rw [Array.getElem?_push, if_neg (Nat.ne_of_lt h)]
theorem alloc_new (w : World) (o : Obj) : (w.alloc o).heap[w.heap.size]? = some o := by
  show (w.heap.push o)[w.heap.size]? = _
  rw [Array.getElem?_push, if_pos rfl]
theorem alloc_size (w : World) (o : Obj) : (w.alloc o).heap.size = w.heap.size + 1 := Array.size_push ..
set_option maxHeartbeats 1600000 in
theorem all_pre {s : ByteArray} (hs : s.size ≤ 65536) {Q : Exit → Act → World → Prop} {w : World} {T : Code} 
  (hQ : ∀ v8 v9 v10 v11 v12 w1, w1 = w.alloc (Obj.cells #[Value.string s, Value.int IntKind.i64 0, Value.slice none 0 0] 43) → T.wp Tryd.prog Q { tmps := #[.string s, undef, .slice none 0 0, .int .i64 0, .int .i64 0, .pointer (some ⟨w.heap.size, 0, none⟩), .int .i64 0, undef, v8, v9, v10, v11, v12, .pointer (some ⟨w.heap.size, 0, none⟩), undef, undef, undef, undef, undef, undef, undef, undef, undef, undef, undef, undef, undef, undef, undef, undef, undef, undef, undef, undef, undef, undef, undef, undef, undef, undef, undef, undef, undef, undef, undef, undef], defers := [] } w1) :
  (Code.seq (hdC (scC (tlC (codeOf Tryd.f10)))) (.seq (hdC (tlC (scC (tlC (codeOf Tryd.f10))))) (.seq (hdC (tlC (tlC (scC (tlC (codeOf Tryd.f10)))))) T))).wp Tryd.prog Q { tmps := #[.string s, undef, .slice none 0 0, .int .i64 0, .int .i64 0, undef, undef, undef, undef, undef, undef, undef, undef, undef, undef, undef, undef, undef, undef, undef, undef, undef, undef, undef, undef, undef, undef, undef, undef, undef, undef, undef, undef, undef, undef, undef, undef, undef, undef, undef, undef, undef, undef, undef, undef, undef], defers := [] } w := by
  have e1 : hdC (scC (tlC (codeOf Tryd.f10))) = Code.seq (.region 1 _ false) (.cond _ _ _) := rfl
  have e2 : hdC (tlC (scC (tlC (codeOf Tryd.f10)))) = Code.region 3 _ false := rfl
  have e3 : hdC (tlC (tlC (scC (tlC (codeOf Tryd.f10))))) = Code.region 4 _ false := rfl
  rw [e1, e2, e3]
  clear e1 e2 e3
  go_wp2_with fail
set_option maxHeartbeats 1600000 in
theorem all_preL {s : ByteArray} (hs : 65536 < s.size) {Q : Exit → Act → World → Prop} {w : World} {T : Code}
  (hQ : ∀ a1 : Act, a1.defers = [] → a1.tmps.getD 2 undef = .slice none 0 0 → a1.tmps.getD 3 undef = .int .i64 0 → a1.tmps.getD 4 undef = .int .i64 3 → Q .ret a1 w) :
  (Code.seq (hdC (scC (tlC (codeOf Tryd.f10)))) T).wp Tryd.prog Q { tmps := #[.string s, undef, .slice none 0 0, .int .i64 0, .int .i64 0, undef, undef, undef, undef, undef, undef, undef, undef, undef, undef, undef, undef, undef, undef, undef, undef, undef, undef, undef, undef, undef, undef, undef, undef, undef, undef, undef, undef, undef, undef, undef, undef, undef, undef, undef, undef, undef, undef, undef, undef, undef], defers := [] } w := by
  have e1 : hdC (scC (tlC (codeOf Tryd.f10))) = Code.seq (.region 1 _ false) (.cond _ _ _) := rfl
  rw [e1]
  clear e1
  have hs' : (65536 : Int) < (s.size : Int) := by omega
  go_wp2_with fail
  exact hQ _ rfl rfl rfl rfl
set_option maxHeartbeats 1600000 in
theorem all_pre0 {s : ByteArray} {Q : Exit → Act → World → Prop} {w : World}
  (hQ : Q .normal { tmps := #[.string s, undef, .slice none 0 0, .int .i64 0, .int .i64 0, undef, undef, undef, undef, undef, undef, undef, undef, undef, undef, undef, undef, undef, undef, undef, undef, undef, undef, undef, undef, undef, undef, undef, undef, undef, undef, undef, undef, undef, undef, undef, undef, undef, undef, undef, undef, undef, undef, undef, undef, undef], defers := [] } w) :
  (hdC (codeOf Tryd.f10)).wp Tryd.prog Q { tmps := #[.string s] ++ Array.replicate (Tryd.f10.ntmps - #[Value.string s].size) undef, defers := [] } w := by
  have e1 : hdC (codeOf Tryd.f10) = Code.region 0 _ false := rfl
  rw [e1]
  clear e1
  simp only [Tryd.ntmps10, List.size_toArray, List.length_cons, List.length_nil, Nat.reduceAdd, Nat.reduceSub, Array.replicate_succ, Array.replicate_zero, List.push_toArray, List.append_toArray, List.nil_append, List.cons_append]
  go_wp2_with fail
  exact hQ
/-- A new scanner. -/
theorem new_scanner [Gnd] {s : ByteArray} {w : World} (hw : ∀ x o, Gnd.obj x = some o → x < w.heap.size ∧ w.heap[x]? = some o) : MemAt (w.alloc (Obj.cells #[Value.string s, Value.int IntKind.i64 0, Value.slice none 0 0] 43)) w.heap.size (Sc w.heap.size s 0 [] (.st (.slice none 0 0))) [] where
  blk := fun b hb => by
    rcases List.mem_singleton.1 hb with rfl
    exact ⟨Nat.le_refl _, _, _, alloc_new w _, fun j => by simp, rfl⟩
  row := fun r hr => by
    rcases List.mem_singleton.1 hr with rfl
    exact ⟨_, rfl, Row.nil _ _ _ _⟩
  one := fun u hu => by cases hu
  bb := List.pairwise_singleton _ _
  br := fun b hb r hr v hv => by
    rcases List.mem_singleton.1 hr with rfl
    cases hv; rintro ⟨⟩
  rr := List.pairwise_singleton _ _
  ex := sc_foot []
  gd := fun x o hx => by
    obtain ⟨h1, h2⟩ := hw x o hx
    exact ⟨h1, by rw [alloc_at w _ h1]; exact h2⟩
theorem memTo_below [Gnd] {w w1 : World} {o : Obj} {S S1 : MSt} (h : MemTo (w.alloc o) w.heap.size S [] S1 [] w1) (h0 : MemAt (w.alloc o) w.heap.size S []) : Below w.heap.size w w1 := by
  letI := Env.plain
  have h1 := h.below h0 (by rw [alloc_size]; omega)
  have h2 := h.size
  rw [alloc_size] at h2
  exact ⟨h1.os, h1.tape, h1.output, by omega, fun k hk => by rw [h1.block k hk, alloc_at w _ hk]⟩
/-- What a text comes to. -/
def AllP [Gnd] (B : Nat) (s : ByteArray) (L : Lexed) (e : Exit) (S1 : MSt) (o1 : List (Option Value)) : Prop :=
  e = .ret ∧ ∃ i ts v u, S1 = Sc B s i ts (.st v) ∧ resO Tryd.f10.results.toList o1 = some (.tuple #[u, .int .i64 ((L.at_ : Nat) : Int), .int .i64 L.e]) ∧ ((u = .slice none 0 0 ∧ L.ts = []) ∨ (u = v ∧ L.ts = ts))
def AllI [Gnd] (B : Nat) (s : ByteArray) (L : Lexed) (n : Nat) (S : MSt) (o : List (Option Value)) : Prop :=
  ∃ i ts v, n = s.size - i ∧ i ≤ s.size ∧ ts.length ≤ i ∧ lexTo s i ts = L ∧ S = Sc B s i ts (.st v) ∧ o = frO 46 [(0, .string s), (5, .pointer (some ⟨B, 0, none⟩)), (6, .int .i64 ((i : Nat) : Int))]
theorem all_round [Gnd] {B n i : Nat} {s : ByteArray} {ts : List T} {v : Value} {L : Lexed} (hgn : GndOk) (hs : s.size ≤ 65536) (hi : i ≤ s.size) (hts : ts.length ≤ i) (hl : lexTo s i ts = L) (hn : s.size - i ≤ n) :
    Goes Tryd.prog 46 B (tlC (tlC (tlC (tlC (scC (tlC (codeOf Tryd.f10))))))) (Sc B s i ts (.st v)) (frO 46 [(0, .string s), (5, .pointer (some ⟨B, 0, none⟩)), (6, .int .i64 ((i : Nat) : Int))]) fun e S1 o1 => match e with | .goto j => j = 0 ∧ ∃ n', n' < n ∧ AllI B s L n' S1 o1 | e => AllP B s L e S1 o1 := by
  refine Goes.know fun hw => ?_
  have hv := sc_raw hw
  have hk := skipTo_le hi
  by_cases h0 : (skipTo s i).2 = true
  · by_cases h1 : (skipTo s i).1 = s.size
    · refine ((((allr hgn hi (by omega) (by omega) hv).1 h0).1 (by omega))).mono ?_
      rintro e S1 o1 ⟨rfl, rfl, rfl⟩
      rw [lex_end h0 h1] at hl
      subst hl
      exact ⟨rfl, _, _, _, _, rfl, rfl, .inr ⟨rfl, rfl⟩⟩
    · by_cases h2 : (oneTo s (skipTo s i).1 i ts).isBad = true
      · have h3 : ¬ (oneTo s (skipTo s i).1 i ts).err = 0 := oneTo_err (Took.of_bad h2)
        refine ((((((allr hgn hi (by omega) (by omega) hv).1 h0).2 (by omega)).1 h2).2 h3)).mono ?_
        rintro e S1 o1 ⟨rfl, rfl, rfl⟩
        rw [lex_bad h0 h1 (Took.of_bad h2)] at hl
        subst hl
        exact ⟨rfl, _, _, _, _, rfl, rfl, .inl ⟨rfl, rfl⟩⟩
      · refine (((((allr hgn hi (by omega) (by omega) hv).1 h0).2 (by omega)).2 h2)).mono ?_
        rintro e S1 o1 ⟨rfl, v0, rfl, rfl⟩
        have h4 := Took.of_tok h2
        have h5 := oneTo_on (by omega) h4
        rw [lex_tok hi h0 h1 h4] at hl
        exact ⟨rfl, _, by omega, _, _, v0, rfl, h5.2, by rw [len_snoc]; omega, hl, rfl, rfl⟩
  · refine (((allr hgn hi (by omega) (by omega) hv).2 h0)).mono ?_
    rintro e S1 o1 ⟨rfl, rfl, rfl⟩
    rw [lex_gap (Bool.eq_false_iff.2 h0)] at hl
    subst hl
    exact ⟨rfl, _, _, _, _, rfl, rfl, .inl ⟨rfl, rfl⟩⟩
theorem all_calls [Gnd] {s : ByteArray} (hs : s.size ≤ 65536) (w : World) (hgn : GndOk) (hw : ∀ x o, Gnd.obj x = some o → x < w.heap.size ∧ w.heap[x]? = some o) :
    Calls Tryd.prog 10 #[.string s] w fun e w' => ∃ v, e = .returned (.tuple #[v, .int .i64 (((lexTo s 0 []).at_ : Nat) : Int), .int .i64 (lexTo s 0 []).e]) ∧ Row w' w.heap.size 33 6 v (lexTo s 0 []).ts.length (tokX (lexTo s 0 []).ts) ∧ Below w.heap.size w w' := by
  letI := Env.plain
  obtain ⟨L, hL⟩ : ∃ L, lexTo s 0 [] = L := ⟨_, rfl⟩
  rw [hL]
  have hm := new_scanner (s := s) hw
  obtain ⟨T0, hT0⟩ : ∃ T0, T0 = tlC (tlC (tlC (scC (tlC (codeOf Tryd.f10))))) := ⟨_, rfl⟩
  have hb : Tryd.f10.body = some (.seq (hdC (codeOf Tryd.f10)) (.scope (.seq (hdC (scC (tlC (codeOf Tryd.f10)))) (.seq (hdC (tlC (scC (tlC (codeOf Tryd.f10))))) (.seq (hdC (tlC (tlC (scC (tlC (codeOf Tryd.f10)))))) T0))))) := by
    rw [hT0]; kernel_rfl
  have hlab : findLabel (scC (tlC (codeOf Tryd.f10))) 0 = some (.seq .skip (tlC T0)) := by rw [hT0]; kernel_rfl
  have hbody : scC (tlC (codeOf Tryd.f10)) = .seq (hdC (scC (tlC (codeOf Tryd.f10)))) (.seq (hdC (tlC (scC (tlC (codeOf Tryd.f10))))) (.seq (hdC (tlC (tlC (scC (tlC (codeOf Tryd.f10)))))) T0)) := by rw [hT0]; kernel_rfl
  have hT1 : T0 = .seq (.label 0) (tlC T0) := by rw [hT0]; kernel_rfl
  have hT2 : tlC T0 = tlC (tlC (tlC (tlC (scC (tlC (codeOf Tryd.f10)))))) := by rw [hT0]
  refine (callsIn_wd (rd := none) (n := 0)).1 (callsIn_of_wp_marks Tryd.func10 hb trivial ?_)
  refine wpIn_seq (wpIn_wide.2 (all_pre0 ?_))
  show (Code.scope _).wpIn (Wd none) 0 Tryd.prog _ _ _
  refine wpIn_scope_ (s.size + 2) ?_
  rw [hbody] at hlab
  generalize hC : (Code.seq (hdC (scC (tlC (codeOf Tryd.f10)))) (.seq (hdC (tlC (scC (tlC (codeOf Tryd.f10))))) (.seq (hdC (tlC (tlC (scC (tlC (codeOf Tryd.f10)))))) T0))) = C at hlab ⊢
  refine (?_ : C.wpIn (Wd none) 0 Tryd.prog (fun e a w => match e with | .goto l => (match findLabel C l with | some r => jumpsIn (Wd none) 0 Tryd.prog C _ (s.size + 1) r a w | none => _) | e => _) _ w)
  rw [show C.wpIn (Wd none) 0 Tryd.prog _ _ w = C.wp Tryd.prog _ _ w from propext wpIn_wide]
  subst hC
  refine all_pre hs ?_
  intro v8 v9 v10 v11 v12 w1 hw1
  subst hw1
  refine wp_of_wd ?_
  refine Goes.late (post := AllP w.heap.size s L) hlab (AllI w.heap.size s L) (s.size + 1) (S := Sc w.heap.size s 0 [] (.st (.slice none 0 0))) (o := frO 46 [(0, .string s), (5, .pointer (some ⟨w.heap.size, 0, none⟩)), (6, .int .i64 ((0 : Nat) : Int))]) ?_ ?_ (B := w.heap.size) (lo := (w.alloc (Obj.cells #[Value.string s, Value.int IntKind.i64 0, Value.slice none 0 0] 43)).heap.size) (by rw [alloc_size]; omega) (MemTo.refl hm) ⟨?_, rfl, Nat.le_refl _, .nil⟩ ?_
  · rw [hT1]
    refine Goes.seqE rfl (Goes.label ?_)
    show Goes _ _ _ (tlC T0) _ _ _
    rw [hT2]
    exact all_round hgn hs (Nat.zero_le _) (Nat.le_refl _) hL (by omega)
  · rintro n S o ⟨i, ts, v, rfl, h1, h2, h3, rfl, rfl⟩
    refine Goes.seqE rfl (Goes.skip ?_)
    show Goes _ _ _ (tlC T0) _ _ _
    rw [hT2]
    exact all_round hgn hs h1 h2 h3 (Nat.le_refl _)
  · repeat (first | exact .nil | refine .is ?_ | refine .any ?_)
  · rintro e a1 w1 S1 o1 ⟨rfl, i, ts, v, u, rfl, h1, h2⟩ r1 r2
    refine leave_mem hm (by rw [alloc_size]; omega) r1 r2 h1 fun w' h3 => ?_
    refine ⟨u, rfl, ?_, memTo_below h3 hm⟩
    rcases h2 with ⟨rfl, e2⟩ | ⟨rfl, e2⟩
    · rw [e2]; exact Row.nil _ _ _ _
    · obtain ⟨v', q1, q2, _⟩ := sc_slice h3.at_
      cases q1
      rw [e2]; exact q2
end Go.Proofs.YtenpnejkgopghaaDoor.Tok

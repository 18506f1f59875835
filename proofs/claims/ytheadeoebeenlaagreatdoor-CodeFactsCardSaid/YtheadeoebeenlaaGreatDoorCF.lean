/- Proved: the law CodeFacts behind its first two regions: what its runs lean on (tables laid; functions that are told by their contracts). Conditions: none. -/
import Derived.Test.YtheadeoebeenlaaGreatDoorAiRun
import Derived.Test.YtheadeoebeenlaaGreatDoorAiU
import Derived.Test.YtheadeoebeenlaaGreatDoorGrw
import Derived.Test.YtheadeoebeenlaaGreatDoorLaidC
import Derived.WalkKit
import Derived.ProofKit
set_option linter.unusedVariables false
set_option linter.unusedSimpArgs false
namespace Go.Proofs.YtheadeoebeenlaaGreatDoor.CodeL
open Go Go.RowKit Go.Proofs Go.Proofs.YtheadeoebeenlaaGreatDoor.AI
noncomputable section
def tlC : Code → Code | .seq _ b => b | c => c
def hdC : Code → Code | .seq a _ => a | c => c
noncomputable def tabH : H := (layF (layF (layF (layF H.empty (LaidC.tabasciiSpace.map (AV.int .u8))) (LaidC.tabuint64pow10.map (AV.int .u64))) (LaidC.tabdeBruijn32tab.map (AV.int .u8))) (LaidC.tabdeBruijn64tab.map (AV.int .u8)))
noncomputable def tabG : Nat → AV := fun g => bif Nat.beq g 0 then .ptr 0 0 0 256 else bif Nat.beq g 3 then .ptr 1 0 0 20 else bif Nat.beq g 6 then .ptr 2 0 0 32 else bif Nat.beq g 7 then .ptr 3 0 0 64 else .raw (.pointer (some ⟨g, 0, none⟩))
noncomputable def prim : Nat → Option FnC := fun g => bif Nat.beq g 111 then some primSame else bif Nat.beq g 161 then some primIndexByte else bif Nat.beq g 112 then some (primGrow (2 * 5 + 2)) else none
theorem prim_ok {G : Nat → AV} {pb : FuncId → Bool} (g : FuncId) (p : FnC) (h : prim g = some p) : PrimOk Tryz.prog G pb g p := by
  unfold prim at h
  cases h1 : Nat.beq g 111 with
  | true =>
    rw [h1] at h
    cases h
    obtain rfl := Nat.eq_of_beq_eq_true h1
    exact primSame_ok Tryz.func111 (by kernel_rfl) (by kernel_rfl) (by kernel_rfl) (by kernel_rfl)
  | false =>
    rw [h1] at h
    cases h2 : Nat.beq g 161 with
    | true =>
      rw [h2] at h
      cases h
      obtain rfl := Nat.eq_of_beq_eq_true h2
      exact primIndexByte_ok Tryz.func161 (by kernel_rfl) (by kernel_rfl) (by kernel_rfl) (by kernel_rfl)
    | false =>
      rw [h2] at h
      cases h3 : Nat.beq g 112 with
      | true =>
        rw [h3] at h
        cases h
        obtain rfl := Nat.eq_of_beq_eq_true h3
        exact Grw.prim_ok
      | false => rw [h3] at h; cases h
set_option maxRecDepth 100000 in
theorem tabs (W : World) (L : LaidC.Laid W) : ∃ ι, Sim ι tabH W ∧ GlobOk tabG ι ∧ ∀ g, g < tabH.nx → ¬ (tabH.obj g).wr := by
  have t0 := (Tabs.nil W).more (by decide) (P := Tryz.prog) (g := 0) (by kernel_rfl) L.asciiSpace (fun _ _ _ h => by cases h)
  have t1 := t0.more (by decide) (P := Tryz.prog) (g := 3) (by kernel_rfl) L.uint64pow10 (fun g' s l h => by
    unfold Inj.add at h
    split at h
    · cases h; decide
    · cases h)
  have t2 := t1.more (by decide) (P := Tryz.prog) (g := 6) (by kernel_rfl) L.deBruijn32tab (fun g' s l h => by
    unfold Inj.add at h
    split at h
    · cases h; decide
    · split at h
      · cases h; decide
      · cases h)
  have t3 := t2.more (by decide) (P := Tryz.prog) (g := 7) (by kernel_rfl) L.deBruijn64tab (fun g' s l h => by
    unfold Inj.add at h
    split at h
    · cases h; decide
    · split at h
      · cases h; decide
      · split at h
        · cases h; decide
        · cases h)
  refine ⟨_, t3.sim, fun g => ?_, t3.ro⟩
  unfold tabG
  cases h0 : Nat.beq g 0 with
  | true => obtain rfl := Nat.eq_of_beq_eq_true h0; exact tab_ptr rfl
  | false =>
    cases h1 : Nat.beq g 3 with
    | true => obtain rfl := Nat.eq_of_beq_eq_true h1; exact tab_ptr rfl
    | false =>
      cases h2 : Nat.beq g 6 with
      | true => obtain rfl := Nat.eq_of_beq_eq_true h2; exact tab_ptr rfl
      | false =>
        cases h3 : Nat.beq g 7 with
        | true => obtain rfl := Nat.eq_of_beq_eq_true h3; exact tab_ptr rfl
        | false => exact .raw _
theorem modLem (n : Int) (q : Nat) (hq : 0 < q) (hq2 : q < 1000000) (wn : -9223372036854775808 ≤ n ∧ n ≤ 9223372036854775807) : ∃ K : Nat, wrap64 ((IntKind.u64.wrap n).tmod q) = (K : Int) ∧ K < q := by
  have h0 : 0 ≤ IntKind.u64.wrap n := by unfold IntKind.wrap; simp [IntKind.signed, IntKind.bits]; omega
  have h1 := Int.tmod_lt_of_pos (IntKind.u64.wrap n) (show (0 : Int) < q by omega)
  have h2 := Int.tmod_nonneg (q : Int) h0
  refine ⟨((IntKind.u64.wrap n).tmod q).toNat, ?_, ?_⟩
  · unfold wrap64; omega
  · omega
noncomputable def cfBody : Code := match Tryz.f3.body with | some c => c | none => .skip
noncomputable def cfRest : Code := tlC (tlC cfBody)
theorem cfBody_eq : Tryz.f3.body = some (.seq (hdC cfBody) (.seq (hdC (tlC cfBody)) cfRest)) := rfl
/-- The frame behind the first two regions; the last slots are filled up. -/
noncomputable def cfFrame (a : Int) (v0 v1 v2 v3 : Value) : List AV := [.int .i64 a, undefA, .bool false, undefA, undefA, undefA, undefA, undefA, undefA, undefA, .raw v0, .raw v1, .raw v2, .raw v3] ++ List.replicate 81 undefA
def cfTrue (a : Int) : Prop := ∀ v0 v1 v2 v3 : Value, isTrue (runRest ⟨Tryz.prog, tabG⟩ prim 1000 100 95 [.tmp 2] cfRest (cfFrame a v0 v1 v2 v3) tabH) = true
noncomputable def cfTmps (a : Int) (v0 v1 v2 v3 : Value) : Array Value := #[.int .i64 a, undef, .bool false, undef, undef, undef, undef, undef, undef, undef, v0, v1, v2, v3] ++ Array.replicate 81 undef
theorem repl_rv (ι : Inj) : ∀ n, RVL ι (List.replicate n undefA) (List.replicate n undef)
  | 0 => .nil
  | n + 1 => .cons (undef_rv ι) (repl_rv ι n)
theorem cfFrame_rv (ι : Inj) (a : Int) (v0 v1 v2 v3 : Value) : RVL ι (cfFrame a v0 v1 v2 v3) (cfTmps a v0 v1 v2 v3).toList := by
  have u := undef_rv ι
  have h : RVL ι [.int .i64 a, undefA, .bool false, undefA, undefA, undefA, undefA, undefA, undefA, undefA, .raw v0, .raw v1, .raw v2, .raw v3] [.int .i64 a, undef, .bool false, undef, undef, undef, undef, undef, undef, undef, v0, v1, v2, v3] :=
    .cons (.int _ _) (.cons u (.cons (.bool _) (.cons u (.cons u (.cons u (.cons u (.cons u (.cons u (.cons u (.cons (.raw _) (.cons (.raw _) (.cons (.raw _) (.cons (.raw _) .nil)))))))))))))
  simpa [cfFrame, cfTmps] using h.append (repl_rv ι 81)
set_option maxHeartbeats 4000000 in
set_option maxRecDepth 100000 in
theorem cf_pre (n : Int) (W : World) : ∃ v0 v1 v2 v3, (hdC cfBody).wp Tryz.prog (Exit.then (fun a w1 => (hdC (tlC cfBody)).wp Tryz.prog (Exit.then (fun a w2 => a = ⟨cfTmps (wrap64 ((IntKind.u64.wrap n).tmod 21)) v0 v1 v2 v3, []⟩ ∧ w2 = W) (fun _ _ _ => False)) a w1) (fun _ _ _ => False)) { tmps := #[.int .i64 n] ++ Array.replicate (Tryz.f3.ntmps - 1) undef, defers := [] } W := by
  refine ⟨.int .i64 n, .int .u64 (IntKind.u64.wrap n), .int .u64 ((IntKind.u64.wrap n).tmod 21), .int .i64 (wrap64 ((IntKind.u64.wrap n).tmod 21)), ?_⟩
  rw [Tryz.ntmps3]
  simp only [cfTmps, List.size_toArray, List.length_cons, List.length_nil, Nat.reduceAdd, Nat.reduceSub, Array.replicate_succ, Array.replicate_zero, List.push_toArray, List.append_toArray, List.nil_append, List.cons_append]
  change Code.wp _ (Code.region _ _ _) _ _ _
  go_wp2
  change Code.wp _ (Code.region _ _ _) _ _ _
  go_wp2
  first | exact ⟨rfl, rfl⟩ | exact trivial | simp
theorem cf_calls (n : Int) (W : World) (L : LaidC.Laid W) (wn : -9223372036854775808 ≤ n ∧ n ≤ 9223372036854775807) (h : ∀ a : Nat, a < 21 → cfTrue a) :
    Calls Tryz.prog 3 #[.int .i64 n] W fun e w' => e = .returned (.bool true) ∧ Below W.heap.size W w' := by
  obtain ⟨a, ha, ha9⟩ := modLem n 21 (by decide) (by decide) wn
  have ea : wrap64 ((IntKind.u64.wrap n).tmod 21) = (a : Int) := ha
  obtain ⟨v0, v1, v2, v3, hp⟩ := cf_pre n W
  rw [ea] at hp
  obtain ⟨ι, S, hG, hro⟩ := tabs W L
  obtain ⟨h1, hr⟩ := isTrue_ok (h a ha9 v0 v1 v2 v3)
  refine rest_true (prim := prim) (G := tabG) (fun g fn hf _ => noNum g fn hf) (fun g p hp => prim_ok g p hp) Tryz.func3 cfBody_eq hG S hro 1000 100 hp (cfFrame_rv _ _ v0 v1 v2 v3) ?_ ?_ (h1 := h1) ?_
  · rw [Tryz.ntmps3]; rfl
  · rw [Tryz.ntmps3]; decide
  · rw [Tryz.ntmps3]; exact hr
end
end Go.Proofs.YtheadeoebeenlaaGreatDoor.CodeL

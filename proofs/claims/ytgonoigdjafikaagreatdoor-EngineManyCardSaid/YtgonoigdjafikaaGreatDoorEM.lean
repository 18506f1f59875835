/- Proved: the law EngineMany up to its loop, by a walk; what its runs lean on. Conditions: none. -/
import Derived.Test.YtgonoigdjafikaaGreatDoorAiRun
import Derived.Test.YtgonoigdjafikaaGreatDoorAiW
import Derived.Test.YtgonoigdjafikaaGreatDoorAiX
import Derived.Test.YtgonoigdjafikaaGreatDoorIds
import Derived.WalkKit
import Derived.ProofKit
set_option linter.unusedVariables false
set_option linter.unusedSimpArgs false
set_option maxRecDepth 100000
namespace Go.Proofs.YtgonoigdjafikaaGreatDoor.ManyL
open Go Go.RowKit Go.Proofs Go.Proofs.YtgonoigdjafikaaGreatDoor.AI
noncomputable section
def tlC : Code → Code | .seq _ b => b | c => c
def hdC : Code → Code | .seq a _ => a | c => c
noncomputable def prim : Nat → Option FnC := fun g => bif Nat.beq g 9 then some primTrue else bif Nat.beq g 8 then some (primIds 8) else none
theorem awake_run : isTrue (callN ⟨Tryz.prog, rawG⟩ (fun _ => none) 1000 100 (.fn 9 [] []) [] H.empty) = true := by kernel_rfl
theorem awake_ok (w : World) : Calls Tryz.prog 9 #[] w fun e w' => e = .returned (.bool true) ∧ Below w.heap.size w w' := plain_true (args := #[]) .nil 1000 100 awake_run
theorem prim_ok {pb : FuncId → Bool} (g : FuncId) (p : FnC) (h : prim g = some p) : PrimOk Tryz.prog rawG pb g p := by
  unfold prim at h
  cases hb : Nat.beq g 9 with
  | true =>
    rw [hb] at h
    cases h
    obtain rfl := Nat.eq_of_beq_eq_true hb
    exact primTrue_ok (enters_of Tryz.func9 (by kernel_rfl) rfl) awake_ok
  | false =>
    rw [hb] at h
    cases hb2 : Nat.beq g 8 with
    | true =>
      rw [hb2] at h
      cases h
      obtain rfl := Nat.eq_of_beq_eq_true hb2
      exact primIds_ok (enters_of Tryz.func8 (by kernel_rfl) rfl) Ids.ids_calls
    | false => rw [hb2] at h; cases h
noncomputable def newRun : R2 := callN ⟨Tryz.prog, rawG⟩ (fun _ => none) 1000 100 (.fn 4 [] []) [] H.empty
theorem newRun_ok : okR newRun = true := by kernel_rfl
theorem new_calls (w : World) : Calls Tryz.prog 4 #[] w fun e w1 => ∃ u ι1, e = .returned u ∧ Sim ι1 (heapR newRun) w1 ∧ RV ι1 (valR newRun) u ∧ Grows (fun _ _ => none) H.empty w ι1 (heapR newRun) w1 :=
  runs_all (prim := fun _ => none) (fun g fn hf _ => noNum g fn hf) (fun g p hp => by cases hp) rfl (rawG_ok _) (args := #[]) .nil 1000 100 (okR_eq newRun_ok)
theorem modLem (n : Int) (q : Nat) (hq : 0 < q) (hq2 : q < 1000000) : ∃ K : Nat, wrap64 ((IntKind.u64.wrap n).tmod q) = (K : Int) ∧ K < q := by
  have h0 : 0 ≤ IntKind.u64.wrap n := by unfold IntKind.wrap; simp [IntKind.signed, IntKind.bits]; omega
  have h1 := Int.tmod_lt_of_pos (IntKind.u64.wrap n) (show (0 : Int) < q by omega)
  have h2 := Int.tmod_nonneg (q : Int) h0
  refine ⟨((IntKind.u64.wrap n).tmod q).toNat, ?_, ?_⟩
  · unfold wrap64; omega
  · omega
noncomputable def emBody : Code := match Tryz.f3.body with | some c => c | none => .skip
noncomputable def emRest : Code := tlC (tlC (tlC emBody))
theorem emBody_eq : Tryz.f3.body = some (.seq (hdC emBody) (.seq (hdC (tlC emBody)) (.seq (hdC (tlC (tlC emBody))) emRest))) := rfl
theorem repl_rv (ι : Inj) : ∀ n, RVL ι (List.replicate n undefA) (List.replicate n undef)
  | 0 => .nil
  | n + 1 => .cons (undef_rv ι) (repl_rv ι n)
noncomputable def emFrame (K : Nat) (v1 v2 v3 v4 v5 : Value) : List AV := [.int .i64 (14 + K : Nat), undefA, .bool false, valR newRun, undefA, undefA, undefA, undefA, undefA, valR newRun, .raw v1, .raw v2, .raw v3, .raw v4, .raw v5] ++ List.replicate 70 undefA
noncomputable def emTrue (K : Nat) : Prop := ∀ v1 v2 v3 v4 v5 : Value, isTrue (runRest ⟨Tryz.prog, rawG⟩ prim 1000 100 85 [.tmp 2] emRest (emFrame K v1 v2 v3 v4 v5) (heapR newRun)) = true
set_option maxHeartbeats 4000000 in
set_option maxRecDepth 100000 in
theorem em_pre (n : Int) (W : World) (K : Nat) (hK : wrap64 ((IntKind.u64.wrap n).tmod 6) = (K : Int)) (hK6 : K < 6) : ∃ v1 v2 v3 v4 v5, (hdC emBody).wp Tryz.prog (Exit.then (fun a w1 => (hdC (tlC emBody)).wp Tryz.prog (Exit.then (fun a w2 => (hdC (tlC (tlC emBody))).wp Tryz.prog (Exit.then (fun a w3 => ∃ tmps ι, a = ⟨tmps, []⟩ ∧ GlobOk rawG ι ∧ Sim ι (heapR newRun) w3 ∧ Below W.heap.size W w3 ∧ (∀ g s l, g < (heapR newRun).nx → ((heapR newRun).obj g).wr → ι g s = some l → W.heap.size ≤ l.b) ∧ RVL ι (emFrame K v1 v2 v3 v4 v5) tmps.toList) (fun _ _ _ => False)) a w2) (fun _ _ _ => False)) a w1) (fun _ _ _ => False)) { tmps := #[.int .i64 n] ++ Array.replicate (Tryz.f3.ntmps - 1) undef, defers := [] } W := by
  refine ⟨.int .i64 n, .int .u64 (IntKind.u64.wrap n), .int .u64 ((IntKind.u64.wrap n).tmod 6), .int .i64 (wrap64 ((IntKind.u64.wrap n).tmod 6)), .int .i64 (14 + (K : Int)), ?_⟩
  have e14 : wrap64 (14 + (K : Int)) = 14 + (K : Int) := by unfold wrap64; omega
  rw [Tryz.ntmps3]
  simp only [List.size_toArray, List.length_cons, List.length_nil, Nat.reduceAdd, Nat.reduceSub, Array.replicate_succ, Array.replicate_zero, List.push_toArray, List.append_toArray, List.nil_append, List.cons_append]
  change Code.wp _ (Code.region _ _ _) _ _ _
  go_wp2
  change Code.wp _ (Code.region _ _ _) _ _ _
  go_wp2_with fail
  (with_reducible refine (new_calls _).mono ?_)
  rintro e w1 ⟨u, ι1, rfl, S1, hu, g1⟩
  go_wp2_with fail
  change Code.wp _ (Code.region _ _ _) _ _ _
  go_wp2_with fail
  obtain ⟨hB, hro⟩ := grows_new g1
  refine ⟨_, ι1, rfl, rawG_ok _, S1, hB, hro, ?_⟩
  have ud := undef_rv ι1
  have h : RVL ι1 [.int .i64 (14 + K : Nat), undefA, .bool false, valR newRun, undefA, undefA, undefA, undefA, undefA, valR newRun, .raw (.int .i64 n), .raw (.int .u64 (IntKind.u64.wrap n)), .raw (.int .u64 ((IntKind.u64.wrap n).tmod 6)), .raw (.int .i64 (wrap64 ((IntKind.u64.wrap n).tmod 6))), .raw (.int .i64 (14 + (K : Int)))] [.int .i64 (14 + K : Nat), undef, .bool false, u, undef, undef, undef, undef, undef, u, .int .i64 n, .int .u64 (IntKind.u64.wrap n), .int .u64 ((IntKind.u64.wrap n).tmod 6), .int .i64 (wrap64 ((IntKind.u64.wrap n).tmod 6)), .int .i64 (14 + (K : Int))] :=
    .cons (.int _ _) (.cons ud (.cons (.bool _) (.cons hu (.cons ud (.cons ud (.cons ud (.cons ud (.cons ud (.cons hu (.cons (.raw _) (.cons (.raw _) (.cons (.raw _) (.cons (.raw _) (.cons (.raw _) .nil))))))))))))))
  have := h.append (repl_rv ι1 70)
  have e1 : ((14 + K : Nat) : Int) = 14 + (K : Int) := by push_cast; rfl
  rw [e1] at this
  simpa [emFrame, hK] using this
theorem em_calls (n : Int) (W : World) (h : ∀ K : Nat, K < 6 → emTrue K) :
    Calls Tryz.prog 3 #[.int .i64 n] W fun e w' => e = .returned (.bool true) ∧ Below W.heap.size W w' := by
  obtain ⟨K, hK, hK6⟩ := modLem n 6 (by decide) (by decide)
  have hK : wrap64 ((IntKind.u64.wrap n).tmod 6) = (K : Int) := hK
  obtain ⟨v1, v2, v3, v4, v5, hp⟩ := em_pre n W K hK hK6
  obtain ⟨h1, hr⟩ := isTrue_ok (h K hK6 v1 v2 v3 v4 v5)
  refine rest_gen (prim := prim) (G := rawG) (fun g fn hf _ => noNum g fn hf) (fun g p hp => prim_ok g p hp) Tryz.func3 emBody_eq 1000 100 hp ?_ ?_ (h1 := h1) ?_
  · rw [Tryz.ntmps3]; rfl
  · rw [Tryz.ntmps3]; decide
  · rw [Tryz.ntmps3]; exact hr
end
end Go.Proofs.YtgonoigdjafikaaGreatDoor.ManyL

/- Proved: the law ReadApart up to its loop, by a walk; the rest of its code as the runs take it. Conditions: none. -/
import Derived.Test.YtheadeoebeenlaaGreatDoorRL
import Derived.WalkKit
import Derived.ProofKit
set_option linter.unusedVariables false
set_option linter.unusedSimpArgs false
namespace Go.Proofs.YtheadeoebeenlaaGreatDoor.ReadL
open Go Go.RowKit Go.Proofs Go.Proofs.YtheadeoebeenlaaGreatDoor.AI
noncomputable section
noncomputable def apBody : Code := match Tryz.f4.body with | some c => c | none => .skip
noncomputable def apRest : Code := tlC (tlC apBody)
theorem apBody_eq : Tryz.f4.body = some (.seq (hdC apBody) (.seq (hdC (tlC apBody)) apRest)) := rfl
/-- The frame behind the first two regions; the last slots are filled up. -/
noncomputable def apFrame (a b : Int) (v0 v1 v2 v3 v4 v5 v6 v7 v8 v9 : Value) : List AV := [.int .i64 a, .int .i64 b, undefA, undefA, .bool false, undefA, undefA, undefA, undefA, undefA, undefA, .raw v0, .raw v1, .raw v2, .raw v3, .raw v4, .raw v5, .raw v6, .raw v7, .raw v8, .raw v9] ++ List.replicate 87 undefA
def apTrue (a b : Int) : Prop := ∀ v0 v1 v2 v3 v4 v5 v6 v7 v8 v9 : Value, isTrue (runRest ⟨Tryz.prog, rawG⟩ prim 1000 100 108 [.tmp 4] apRest (apFrame a b v0 v1 v2 v3 v4 v5 v6 v7 v8 v9) H.empty) = true
noncomputable def apTmps (a b : Int) (v0 v1 v2 v3 v4 v5 v6 v7 v8 v9 : Value) : Array Value := #[.int .i64 a, .int .i64 b, undef, undef, .bool false, undef, undef, undef, undef, undef, undef, v0, v1, v2, v3, v4, v5, v6, v7, v8, v9] ++ Array.replicate 87 undef
theorem repl_rv (ι : Inj) : ∀ n, RVL ι (List.replicate n undefA) (List.replicate n undef)
  | 0 => .nil
  | n + 1 => .cons (undef_rv ι) (repl_rv ι n)
theorem apFrame_rv (ι : Inj) (a b : Int) (v0 v1 v2 v3 v4 v5 v6 v7 v8 v9 : Value) : RVL ι (apFrame a b v0 v1 v2 v3 v4 v5 v6 v7 v8 v9) (apTmps a b v0 v1 v2 v3 v4 v5 v6 v7 v8 v9).toList := by
  have u := undef_rv ι
  have h : RVL ι [.int .i64 a, .int .i64 b, undefA, undefA, .bool false, undefA, undefA, undefA, undefA, undefA, undefA, .raw v0, .raw v1, .raw v2, .raw v3, .raw v4, .raw v5, .raw v6, .raw v7, .raw v8, .raw v9] [.int .i64 a, .int .i64 b, undef, undef, .bool false, undef, undef, undef, undef, undef, undef, v0, v1, v2, v3, v4, v5, v6, v7, v8, v9] :=
    .cons (.int _ _) (.cons (.int _ _) (.cons u (.cons u (.cons (.bool _) (.cons u (.cons u (.cons u (.cons u (.cons u (.cons u (.cons (.raw _) (.cons (.raw _) (.cons (.raw _) (.cons (.raw _) (.cons (.raw _) (.cons (.raw _) (.cons (.raw _) (.cons (.raw _) (.cons (.raw _) (.cons (.raw _) .nil))))))))))))))))))))
  simpa [apFrame, apTmps] using h.append (repl_rv ι 87)
set_option maxHeartbeats 4000000 in
set_option maxRecDepth 100000 in
theorem ap_pre (n m : Int) (W : World) : ∃ v0 v1 v2 v3 v4 v5 v6 v7 v8 v9, (hdC apBody).wp Tryz.prog (Exit.then (fun a w1 => (hdC (tlC apBody)).wp Tryz.prog (Exit.then (fun a w2 => a = ⟨apTmps (wrap64 (wrap64 ((IntKind.u64.wrap n).tmod 9) + 1)) (wrap64 (wrap64 ((IntKind.u64.wrap m).tmod 9) + 1)) v0 v1 v2 v3 v4 v5 v6 v7 v8 v9, []⟩ ∧ w2 = W) (fun _ _ _ => False)) a w1) (fun _ _ _ => False)) { tmps := #[.int .i64 n, .int .i64 m] ++ Array.replicate (Tryz.f4.ntmps - 2) undef, defers := [] } W := by
  refine ⟨.int .i64 n, .int .u64 (IntKind.u64.wrap n), .int .u64 ((IntKind.u64.wrap n).tmod 9), .int .i64 (wrap64 ((IntKind.u64.wrap n).tmod 9)), .int .i64 (wrap64 (wrap64 ((IntKind.u64.wrap n).tmod 9) + 1)), .int .i64 m, .int .u64 (IntKind.u64.wrap m), .int .u64 ((IntKind.u64.wrap m).tmod 9), .int .i64 (wrap64 ((IntKind.u64.wrap m).tmod 9)), .int .i64 (wrap64 (wrap64 ((IntKind.u64.wrap m).tmod 9) + 1)), ?_⟩
  rw [Tryz.ntmps4]
  simp only [apTmps, List.size_toArray, List.length_cons, List.length_nil, Nat.reduceAdd, Nat.reduceSub, Array.replicate_succ, Array.replicate_zero, List.push_toArray, List.append_toArray, List.nil_append, List.cons_append]
  change Code.wp _ (Code.region _ _ _) _ _ _
  go_wp2
  change Code.wp _ (Code.region _ _ _) _ _ _
  go_wp2
  first | exact ⟨rfl, rfl⟩ | exact trivial | simp
theorem ap_calls (n m : Int) (W : World) (wn : -9223372036854775808 ≤ n ∧ n ≤ 9223372036854775807) (wm : -9223372036854775808 ≤ m ∧ m ≤ 9223372036854775807) (h : ∀ a b : Nat, a < 9 → b < 9 → apTrue (a + 1 : Nat) (b + 1 : Nat)) :
    Calls Tryz.prog 4 #[.int .i64 n, .int .i64 m] W fun e w' => e = .returned (.bool true) ∧ Below W.heap.size W w' := by
  obtain ⟨a, ha, ha9⟩ := modLem n 9 (by decide) (by decide) wn
  obtain ⟨b, hb, hb9⟩ := modLem m 9 (by decide) (by decide) wm
  have ea : wrap64 (wrap64 ((IntKind.u64.wrap n).tmod 9) + 1) = ((a + 1 : Nat) : Int) := by
    have : wrap64 ((IntKind.u64.wrap n).tmod 9) = (a : Int) := ha
    rw [this]; unfold wrap64; omega
  have eb : wrap64 (wrap64 ((IntKind.u64.wrap m).tmod 9) + 1) = ((b + 1 : Nat) : Int) := by
    have : wrap64 ((IntKind.u64.wrap m).tmod 9) = (b : Int) := hb
    rw [this]; unfold wrap64; omega
  obtain ⟨v0, v1, v2, v3, v4, v5, v6, v7, v8, v9, hp⟩ := ap_pre n m W
  rw [ea, eb] at hp
  obtain ⟨h1, hr⟩ := isTrue_ok (h a b ha9 hb9 v0 v1 v2 v3 v4 v5 v6 v7 v8 v9)
  refine rest_true (prim := prim) (G := rawG) (fun g fn hf _ => noNum g fn hf) (fun g p hp => prim_ok g p hp) Tryz.func4 apBody_eq (rawG_ok _) (Sim.empty W) (fun g hg => absurd hg (Nat.not_lt_zero g)) 1000 100 hp (apFrame_rv _ _ _ v0 v1 v2 v3 v4 v5 v6 v7 v8 v9) ?_ ?_ (h1 := h1) ?_
  · rw [Tryz.ntmps4]; rfl
  · rw [Tryz.ntmps4]; decide
  · rw [Tryz.ntmps4]; exact hr
end
end Go.Proofs.YtheadeoebeenlaaGreatDoor.ReadL

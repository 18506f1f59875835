/- Proved: the law ReadOrder up to its first call, by a walk; the rest of its code as the runs take it, two of its numbers known by their order alone. Conditions: none. -/
import Derived.Test.YtheadeoebeenlaaGreatDoorJRL
import Derived.Test.YtheadeoebeenlaaGreatDoorAjW
import Derived.WalkKit
import Derived.ProofKit
set_option linter.unusedVariables false
set_option linter.unusedSimpArgs false
set_option linter.unusedSectionVars false
namespace Go.Proofs.YtheadeoebeenlaaGreatDoor.OrdL
open Go Go.RowKit Go.Proofs Go.Proofs.YtheadeoebeenlaaGreatDoor.AJ
noncomputable section
variable [Env]
noncomputable def roBody : Code := match Tryz.f5.body with | some c => c | none => .skip
noncomputable def roRest : Code := tlC (tlC (tlC roBody))
theorem roBody_eq : Tryz.f5.body = some (.seq (hdC roBody) (.seq (hdC (tlC roBody)) (.seq (hdC (tlC (tlC roBody))) roRest))) := rfl
/-- The frame behind the first three regions; the last slots are filled up. -/
noncomputable def roFrame (P Q : AV) (k : Int) (v0 v1 v2 v3 v4 v5 v6 v7 v8 v9 v10 v11 v12 v13 : Value) : List AV := [P, Q, .int .i64 k, undefA, undefA, undefA, .bool false, undefA, undefA, undefA, undefA, undefA, undefA, undefA, undefA, undefA, undefA, undefA, undefA, .raw v0, .raw v1, .raw v2, .raw v3, .raw v4, .raw v5, .raw v6, .raw v7, .raw v8, .raw v9, .raw v10, .raw v11, .raw v12, .raw v13] ++ List.replicate 66 undefA
def roTrue (P Q : AV) (k : Int) : Prop := ∀ v0 v1 v2 v3 v4 v5 v6 v7 v8 v9 v10 v11 v12 v13 : Value, isTrue (runRest ⟨Tryz.prog, rawG⟩ prim 1000 100 99 [.tmp 6] roRest (roFrame P Q k v0 v1 v2 v3 v4 v5 v6 v7 v8 v9 v10 v11 v12 v13) H.empty) = true
noncomputable def roTmps (x y : Value) (k : Int) (v0 v1 v2 v3 v4 v5 v6 v7 v8 v9 v10 v11 v12 v13 : Value) : Array Value := #[x, y, .int .i64 k, undef, undef, undef, .bool false, undef, undef, undef, undef, undef, undef, undef, undef, undef, undef, undef, undef, v0, v1, v2, v3, v4, v5, v6, v7, v8, v9, v10, v11, v12, v13] ++ Array.replicate 66 undef
theorem repl_rv (ι : Inj) : ∀ n, RVL ι (List.replicate n undefA) (List.replicate n undef)
  | 0 => .nil
  | n + 1 => .cons (undef_rv ι) (repl_rv ι n)
theorem roFrame_rv (ι : Inj) {P Q : AV} {x y : Value} (hP : RV ι P x) (hQ : RV ι Q y) (k : Int) (v0 v1 v2 v3 v4 v5 v6 v7 v8 v9 v10 v11 v12 v13 : Value) : RVL ι (roFrame P Q k v0 v1 v2 v3 v4 v5 v6 v7 v8 v9 v10 v11 v12 v13) (roTmps x y k v0 v1 v2 v3 v4 v5 v6 v7 v8 v9 v10 v11 v12 v13).toList := by
  have u := undef_rv ι
  have h : RVL ι [P, Q, .int .i64 k, undefA, undefA, undefA, .bool false, undefA, undefA, undefA, undefA, undefA, undefA, undefA, undefA, undefA, undefA, undefA, undefA, .raw v0, .raw v1, .raw v2, .raw v3, .raw v4, .raw v5, .raw v6, .raw v7, .raw v8, .raw v9, .raw v10, .raw v11, .raw v12, .raw v13] [x, y, .int .i64 k, undef, undef, undef, .bool false, undef, undef, undef, undef, undef, undef, undef, undef, undef, undef, undef, undef, v0, v1, v2, v3, v4, v5, v6, v7, v8, v9, v10, v11, v12, v13] := by
    repeat first | exact .nil | exact RVL.nil | refine RVL.cons (by first | exact hP | exact hQ | exact u | exact .int _ _ | exact .bool _ | exact .raw _) ?_
  simpa [roFrame, roTmps] using h.append (repl_rv ι 66)
set_option maxHeartbeats 4000000 in
set_option maxRecDepth 100000 in
theorem ro_pre (n m c : Int) (W : World) : ∃ v0 v1 v2 v3 v4 v5 v6 v7 v8 v9 v10 v11 v12 v13, (hdC roBody).wp Tryz.prog (Exit.then (fun a w1 => (hdC (tlC roBody)).wp Tryz.prog (Exit.then (fun a w2 => (hdC (tlC (tlC roBody))).wp Tryz.prog (Exit.then (fun a w3 => a = ⟨roTmps (.int .i64 (wrap64 (1 + wrap64 ((IntKind.u64.wrap n).tmod 999)))) (.int .i64 (wrap64 (1 + wrap64 ((IntKind.u64.wrap m).tmod 999)))) (wrap64 ((IntKind.u64.wrap c).tmod 2)) v0 v1 v2 v3 v4 v5 v6 v7 v8 v9 v10 v11 v12 v13, []⟩ ∧ w3 = W) (fun _ _ _ => False)) a w2) (fun _ _ _ => False)) a w1) (fun _ _ _ => False)) { tmps := #[.int .i64 n, .int .i64 m, .int .i64 c] ++ Array.replicate (Tryz.f5.ntmps - 3) undef, defers := [] } W := by
  refine ⟨.int .i64 n, .int .u64 (IntKind.u64.wrap n), .int .u64 ((IntKind.u64.wrap n).tmod 999), .int .i64 (wrap64 ((IntKind.u64.wrap n).tmod 999)), .int .i64 (wrap64 (1 + wrap64 ((IntKind.u64.wrap n).tmod 999))), .int .i64 m, .int .u64 (IntKind.u64.wrap m), .int .u64 ((IntKind.u64.wrap m).tmod 999), .int .i64 (wrap64 ((IntKind.u64.wrap m).tmod 999)), .int .i64 (wrap64 (1 + wrap64 ((IntKind.u64.wrap m).tmod 999))), .int .i64 c, .int .u64 (IntKind.u64.wrap c), .int .u64 ((IntKind.u64.wrap c).tmod 2), .int .i64 (wrap64 ((IntKind.u64.wrap c).tmod 2)), ?_⟩
  rw [Tryz.ntmps5]
  simp only [roTmps, List.size_toArray, List.length_cons, List.length_nil, Nat.reduceAdd, Nat.reduceSub, Array.replicate_succ, Array.replicate_zero, List.push_toArray, List.append_toArray, List.nil_append, List.cons_append]
  change Code.wp _ (Code.region _ _ _) _ _ _
  go_wp2
  change Code.wp _ (Code.region _ _ _) _ _ _
  go_wp2
  change Code.wp _ (Code.region _ _ _) _ _ _
  go_wp2
  first | exact ⟨rfl, rfl⟩ | exact trivial | simp
theorem ro_one (n m c : Int) (W : World) {P Q : AV} {x y k : Int} (ex : wrap64 (1 + wrap64 ((IntKind.u64.wrap n).tmod 999)) = x) (ey : wrap64 (1 + wrap64 ((IntKind.u64.wrap m).tmod 999)) = y) (ek : wrap64 ((IntKind.u64.wrap c).tmod 2) = k) (hP : RV (fun _ _ => none) P (.int .i64 x)) (hQ : RV (fun _ _ => none) Q (.int .i64 y)) (h : roTrue P Q k) :
    Calls Tryz.prog 5 #[.int .i64 n, .int .i64 m, .int .i64 c] W fun e w' => e = .returned (.bool true) ∧ Below W.heap.size W w' := by
  obtain ⟨v0, v1, v2, v3, v4, v5, v6, v7, v8, v9, v10, v11, v12, v13, hp⟩ := ro_pre n m c W
  rw [ex, ey, ek] at hp
  obtain ⟨h1, hr⟩ := isTrue_ok (h v0 v1 v2 v3 v4 v5 v6 v7 v8 v9 v10 v11 v12 v13)
  refine rest_true3 (prim := prim) (G := rawG) (fun g fn hf _ => noNum g fn hf) (fun g p hp => prim_ok g p hp) Tryz.func5 roBody_eq (rawG_ok _) (Sim.empty W) (Below.refl _ W) (fun g s l hg => absurd hg (Nat.not_lt_zero g)) 1000 100 hp (roFrame_rv _ hP hQ _ v0 v1 v2 v3 v4 v5 v6 v7 v8 v9 v10 v11 v12 v13) ?_ ?_ (h1 := h1) ?_
  · rw [Tryz.ntmps5]; rfl
  · rw [Tryz.ntmps5]; decide
  · rw [Tryz.ntmps5]; exact hr
theorem sym_rv (ι : Inj) (i : Nat) (v : Int) (hv : Env.val i = v) (h1 : 1 ≤ v) (h2 : v ≤ 999) : RV ι (.sym i 0 1 999) (.int .i64 v) := by
  have := RV.sym (ι := ι) i 0 1 999 (by omega) (by omega)
  rwa [Int.add_zero, hv] at this
end
/-- Two numbers and what lies beyond them. -/
@[reducible] noncomputable def env2 (x y : Int) (h : x < y) : Env where
  val i := match i with | 0 => x | i + 1 => y + i
  mono i j hij := by
    cases i with
    | zero => cases j with
      | zero => omega
      | succ j => show x + 1 ≤ y + (j : Int); omega
    | succ i => cases j with
      | zero => omega
      | succ j => show y + (i : Int) + 1 ≤ y + (j : Int); omega
theorem ro_calls (n m c : Int) (W : World) (wn : -9223372036854775808 ≤ n ∧ n ≤ 9223372036854775807) (wm : -9223372036854775808 ≤ m ∧ m ≤ 9223372036854775807) (wc : -9223372036854775808 ≤ c ∧ c ≤ 9223372036854775807)
    (h : ∀ k : Nat, k < 2 → roTrue (.sym 0 0 1 999) (.sym 1 0 1 999) k ∧ roTrue (.sym 1 0 1 999) (.sym 0 0 1 999) k ∧ roTrue (.sym 0 0 1 999) (.sym 0 0 1 999) k) :
    Calls Tryz.prog 5 #[.int .i64 n, .int .i64 m, .int .i64 c] W fun e w' => e = .returned (.bool true) ∧ Below W.heap.size W w' := by
  obtain ⟨a, ha, ha9⟩ := modLem n 999 (by decide) (by decide) wn
  obtain ⟨b, hb, hb9⟩ := modLem m 999 (by decide) (by decide) wm
  obtain ⟨k, hk, hk2⟩ := modLem c 2 (by decide) (by decide) wc
  have ea : wrap64 (1 + wrap64 ((IntKind.u64.wrap n).tmod 999)) = (1 + a : Int) := by
    have : wrap64 ((IntKind.u64.wrap n).tmod 999) = (a : Int) := ha
    rw [this]; unfold wrap64; omega
  have eb : wrap64 (1 + wrap64 ((IntKind.u64.wrap m).tmod 999)) = (1 + b : Int) := by
    have : wrap64 ((IntKind.u64.wrap m).tmod 999) = (b : Int) := hb
    rw [this]; unfold wrap64; omega
  have hk : wrap64 ((IntKind.u64.wrap c).tmod 2) = (k : Int) := hk
  obtain ⟨h1, h2, h3⟩ := h k hk2
  rcases Nat.lt_trichotomy a b with hab | hab | hab
  · letI : Env := env2 (1 + a) (1 + b) (by omega)
    exact ro_one n m c W ea eb hk (sym_rv _ 0 _ rfl (by omega) (by omega)) (sym_rv _ 1 _ (show (1 + b : Int) + ((0 : Nat) : Int) = 1 + b by omega) (by omega) (by omega)) h1
  · subst hab
    letI : Env := env2 (1 + a) (2 + a) (by omega)
    exact ro_one n m c W ea eb hk (sym_rv _ 0 _ rfl (by omega) (by omega)) (sym_rv _ 0 _ rfl (by omega) (by omega)) h3
  · letI : Env := env2 (1 + b) (1 + a) (by omega)
    exact ro_one n m c W ea eb hk (sym_rv _ 1 _ (show (1 + a : Int) + ((0 : Nat) : Int) = 1 + a by omega) (by omega) (by omega)) (sym_rv _ 0 _ rfl (by omega) (by omega)) h2
end Go.Proofs.YtheadeoebeenlaaGreatDoor.OrdL

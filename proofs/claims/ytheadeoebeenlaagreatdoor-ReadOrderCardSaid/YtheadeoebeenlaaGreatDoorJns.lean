/- Proved: what a call of slices.Insert, at operators, comes to, by walks through its body. Conditions: none. -/
import Derived.Test.YtheadeoebeenlaaGreatDoorAjT
import Derived.Test.YtheadeoebeenlaaGreatDoorProg
import Derived.WalkKit
import Derived.ProofKit
import Derived.Lib.Walk
import Derived.Lib.SliceRun
import Derived.Lib.JoinLaws
import Derived.Lib.AppendZeros
import Derived.Lib.Overlaps
import Derived.Laws.Externs
import Derived.Laws.IdiomCopy
import Derived.Shelf.RegionOpenPlain
set_option linter.unusedVariables false
set_option linter.unusedSimpArgs false
namespace Go.Proofs.YtheadeoebeenlaaGreatDoor.Jns
open Go Go.Shelf Go.RowKit Go.Lib Go.Proofs
theorem wp_copy_runI {P : Program} (w : World) {o : Oper} {a : Act} {K : Act → World → Prop} {Q : Exit → Act → World → Prop} (d s : Operand) (t t' : TypeId)
    (ho : o.op = .call { callee := .builtin .copy, args := #[d, s], argTypes := #[t, t'] }) (v u : Value) (hd : a.eval d = v) (hs : a.eval s = u) {v' : Value} {w' : World}
    (hr : (Builtin.copy_ #[t, t'] o.type #[v, u]).run P w = .ok v' w') (h : K (a.put o.dst v') w') : o.wp P a w K Q := by
  unfold Oper.wp execOp
  simp only [ho, resolve, invoke, builtin, Sem.run_bind, Sem.run_pure, Result.andThen_ok, List.map_toArray, List.map_cons, List.map_nil, hd, hs, hr]
  exact h
theorem wpList_copy_runI {P : Program} (w : World) {ops : Array Oper} {rest : List Oper} {o : Oper} {a : Act} {Q : Exit → Act → World → Prop} (hgd : o.guard = none) (d s : Operand) (t t' : TypeId)
    (ho : o.op = .call { callee := .builtin .copy, args := #[d, s], argTypes := #[t, t'] }) (v u : Value) (hd : a.eval d = v) (hs : a.eval s = u) {v' : Value} {w' : World}
    (hr : (Builtin.copy_ #[t, t'] o.type #[v, u]).run P w = .ok v' w') (h : wpList P ops Q rest (a.put o.dst v') w') : wpList P ops Q (o :: rest) a w :=
  wpList_plain hgd fun _ hK => wp_copy_runI w d s t t' ho v u hd hs hr (hK _ _ h)
theorem step_copy_runI {P : Program} {ops : Array Oper} {o : Oper} {a : Act} {w : World} {K : Act → World → Prop} {Q : Exit → Act → World → Prop} {E : Prop}
    (hg : o.guard = none) (d x : Operand) (dT sT : TypeId) (hop : o.op = Op.call { callee := Callee.builtin Builtin.copy, args := #[d, x], argTypes := #[dT, sT] })
    (v u : Value) (hd : a.eval d = v) (hx : a.eval x = u) {v' : Value} {w' : World} (hr : (Builtin.copy_ #[dT, sT] o.type #[v, u]).run P w = .ok v' w') (hK : K (a.put o.dst v') w') :
    if Region.wanted o (yielded ops a.tmps) = true then Oper.wp P o a w K Q else E := by
  have hw : Region.wanted o (yielded ops a.tmps) = true := by simp [Region.wanted, hg]
  rw [if_pos hw]
  unfold Oper.wp
  simp [execOp, hop, resolve, invoke, builtin, hd, hx, hr, Result.andThen]
  exact hK

set_option maxHeartbeats 4000000 in
set_option maxRecDepth 100000 in
theorem insert_end (base : Option Addr) (n c : Nat) (vb : Option Addr) (m vc : Nat) (hm : 0 < m) (w w1 : World) (u : Value)
    (hrun : (Builtin.append_ #[81, 81] 81 #[.slice base n c, .slice vb m vc]).run Tryz.prog w = .ok u w1) :
    Calls Tryz.prog 60 #[.slice base n c, .int .i64 n, .slice vb m vc] w fun e w' => e = .returned u ∧ w' = w1 := by
  have hz1 : ¬ ((m : Int) = 0) := by omega
  go_enter Tryz.func60, Tryz.ntmps60
  cases base with
  | none => 
    go_wp2_with (at_builtin; refine Lib.wpList_append_run _ rfl _ _ _ _ rfl _ _ rfl rfl _ _ hrun ?_)
    all_goals (go_ret; exact ⟨rfl, rfl⟩)
  | some a =>
    obtain ⟨ab, ao, asp⟩ := a
    go_wp2_with (at_builtin; refine Lib.wpList_append_run _ rfl _ _ _ _ rfl _ _ rfl rfl _ _ hrun ?_)
    all_goals (go_ret; exact ⟨rfl, rfl⟩)

set_option maxHeartbeats 4000000 in
set_option maxRecDepth 100000 in
theorem insert_fit (b off n c i m : Nat) (vb : Option Addr) (vc : Nat) (hi : i < n) (hm : 0 < m) (hroom : n + m ≤ c) (hbig : n + m ≤ 1000000) (w W1 W2 : World)
    (hov : ∀ lb cb, (callFunc 104 #[.slice vb m vc, .slice (some ⟨b, off + (i + m) * 3, none⟩) lb cb]).run Tryz.prog w = .ok (.value (.bool false)) w)
    (hcp1 : ∀ ty dc sc, (Builtin.copy_ #[81, 81] ty #[.slice (some ⟨b, off + (i + m) * 3, none⟩) (n + m - (i + m)) dc, .slice (some ⟨b, off + i * 3, none⟩) (n + m - i) sc]).run Tryz.prog w.drew = .ok (goInt (n - i : Nat)) W1)
    (hcp2 : ∀ ty dc, (Builtin.copy_ #[81, 81] ty #[.slice (some ⟨b, off + i * 3, none⟩) (n + m - i) dc, .slice vb m vc]).run Tryz.prog W1 = .ok (goInt m) W2) :
    Calls Tryz.prog 60 #[.slice (some ⟨b, off, none⟩) n c, .int .i64 i, .slice vb m vc] w fun e w' => e = .returned (.slice (some ⟨b, off, none⟩) (n + m) c) ∧ w' = W2 := by
  have hz1 : ¬ ((m : Int) = 0) := by omega
  have hz2 : ¬ ((i : Int) = (n : Int)) := by omega
  have hw1 : IntKind.i64.wrap ((i : Int) + (m : Int)) = (i : Int) + (m : Int) := by rw [IntKind.wrap_i64]; omega
  have hw2 : IntKind.i64.wrap ((n : Int) + (m : Int)) = (n : Int) + (m : Int) := by rw [IntKind.wrap_i64]; omega
  have hb1 : (0 : Int) ≤ (i : Int) + (m : Int) := by omega
  have hin : i ≤ n := by omega
  have htn : ((i : Int) + (m : Int)).toNat = i + m := by omega
  have hb3 : (i : Int) ≤ (n : Int) + (m : Int) := by omega
  have hb2 : ¬ (c = i + m) := by omega
  have hb4 : ¬ (c = i) := by omega
  have mixed : Tryz.prog.follows .mixedOrders = true := by kernel_rfl
  go_enter Tryz.func60, Tryz.ntmps60
  go_wp2_with (simp only [hov])
  go_region_law_o (refine step_copy_runI rfl _ _ 81 81 rfl _ _ (by simp [Act.eval, Act.put]) (by simp [Act.eval, Act.put]) (hcp1 _ _ _) ?_)
  go_wp2_with (at_builtin; refine wpList_copy_runI _ rfl _ _ 81 81 rfl _ _ rfl rfl (hcp2 _ _) ?_)
  go_ret
  exact ⟨rfl, rfl⟩

set_option maxHeartbeats 4000000 in
set_option maxRecDepth 100000 in
theorem insert_grow (b off n c i m N G : Nat) (vb : Option Addr) (vc : Nat) (hi : i < n) (hm : 0 < m) (hroom : c < n + m) (hnc : n ≤ c) (hbig : n + m ≤ 1000000) (hG : n + m ≤ G) (w W1 W2 W3 : World)
    (hrz : (Builtin.append_ #[81, 3] 81 #[.slice (some ⟨b, off, none⟩) i c, .int .i64 ((n : Int) + (m : Int) - (i : Int))]).run Tryz.prog w = .ok (.slice (some ⟨N, 0, none⟩) (n + m) G) W1)
    (hcp1 : ∀ ty dc, (Builtin.copy_ #[81, 81] ty #[.slice (some ⟨N, i * 3, none⟩) (n + m - i) dc, .slice vb m vc]).run Tryz.prog W1 = .ok (goInt m) W2)
    (hcp2 : ∀ ty dc sc, (Builtin.copy_ #[81, 81] ty #[.slice (some ⟨N, (i + m) * 3, none⟩) (n + m - (i + m)) dc, .slice (some ⟨b, off + i * 3, none⟩) (n - i) sc]).run Tryz.prog W2.drew = .ok (goInt (n - i : Nat)) W3) :
    Calls Tryz.prog 60 #[.slice (some ⟨b, off, none⟩) n c, .int .i64 i, .slice vb m vc] w fun e w' => e = .returned (.slice (some ⟨N, 0, none⟩) (n + m) G) ∧ w' = W3 := by
  have hz1 : ¬ ((m : Int) = 0) := by omega
  have hz2 : ¬ ((i : Int) = (n : Int)) := by omega
  have hz3 : (c : Int) < (n : Int) + (m : Int) := by omega
  have hw1 : IntKind.i64.wrap ((i : Int) + (m : Int)) = (i : Int) + (m : Int) := by rw [IntKind.wrap_i64]; omega
  have hw2 : IntKind.i64.wrap ((n : Int) + (m : Int)) = (n : Int) + (m : Int) := by rw [IntKind.wrap_i64]; omega
  have hw3 : IntKind.i64.wrap ((n : Int) + (m : Int) - (i : Int)) = (n : Int) + (m : Int) - (i : Int) := by rw [IntKind.wrap_i64]; omega
  have hb1 : (0 : Int) ≤ (i : Int) + (m : Int) := by omega
  have hin : i ≤ n := by omega
  have htn : ((i : Int) + (m : Int)).toNat = i + m := by omega
  have hb3 : (i : Int) ≤ (n : Int) := by omega
  have hGi : ¬ (G = i) := by omega
  have hGim : ¬ (G = i + m) := by omega
  have hci : ¬ (c = i) := by omega
  have mixed : Tryz.prog.follows .mixedOrders = true := by kernel_rfl
  go_enter Tryz.func60, Tryz.ntmps60
  go_wp2_with (first
    | (at_builtin; refine Lib.wpList_append_run _ rfl _ _ _ _ rfl _ _ rfl rfl _ _ hrz ?_)
    | (at_builtin; refine wpList_copy_runI _ rfl _ _ 81 81 rfl _ _ rfl rfl (hcp1 _ _) ?_))
  go_region_law_o (refine step_copy_runI rfl _ _ 81 81 rfl (.slice (some ⟨N, (i + m) * 3, none⟩) (n + m - (i + m)) (G - (i + m))) (.slice (some ⟨b, off + i * 3, none⟩) (n - i) (c - i)) (by simp [Act.eval, Act.put]) (by simp [Act.eval, Act.put]) (hcp2 3 (G - (i + m)) (c - i)) ?_)
  go_wp2
  go_ret
  exact ⟨rfl, rfl⟩

theorem opInfo : ∃ ti, Tryz.prog.info? 56 = some ti ∧ ti.zero = some (.agg #[.string ⟨#[]⟩, .int .i64 0, .int .i64 0]) ∧ ti.size = 3 ∧ ti.bytes = 32 := by
  have h : (Tryz.prog.info? 56).map (fun i => (i.zero, i.size, i.bytes)) = some (some (.agg #[.string ⟨#[]⟩, .int .i64 0, .int .i64 0]), 3, 32) := by kernel_rfl
  cases hi : Tryz.prog.info? 56 with
  | none => rw [hi] at h; cases h
  | some ti =>
    rw [hi] at h
    have h := Option.some.inj h
    exact ⟨ti, rfl, congrArg (fun x => x.1) h, congrArg (fun x => x.2.1) h, congrArg (fun x => x.2.2) h⟩
set_option linter.unusedSectionVars false
variable [AJ.Env]
theorem walks : AJ.InsertWalks Tryz.prog 60 104 81 56 3 where
  enters := enters_of Tryz.func60 (by kernel_rfl) rfl
  ends := fun base n c vb m vc hm w w1 u h => insert_end base n c vb m vc hm w w1 u h
  fit := fun b off n c i m vb vc h1 h2 h3 h4 w W1 W2 h5 h6 h7 => insert_fit b off n c i m vb vc h1 h2 h3 h4 w W1 W2 h5 h6 h7
  grow := fun b off n c i m N G vb vc h1 h2 h3 h4 h5 h6 w W1 W2 W3 h7 h8 h9 => insert_grow b off n c i m N G vb vc h1 h2 h3 h4 h5 h6 w W1 W2 W3 h7 h8 h9
  over := fun w a b la ca lb cb tA tB kA kB h1 h2 h3 h4 h5 h6 => by
    obtain ⟨ti, i1, _, i2, _⟩ := opInfo
    rw [run_callFunc_extern Tryz.func104 (by kernel_rfl) (by kernel_rfl) (by kernel_rfl) (e := Extern.SlicesOverlaps.overlaps #[81, 81] #[4]) (by kernel_rfl),
      Lib.run_overlaps_apart w 81 4 56 Tryz.underlying81 3 (fun w => by rw [← i2]; exact AJ.sizeOf_run i1) a b la ca lb cb h1 tA tB kA kB h2 h3 h4 h5 h6]
    rfl
theorem prim_ok {G : Nat → AJ.AV} {pb : FuncId → Bool} : AJ.PrimOk Tryz.prog G pb 60 (AJ.primInsert 3 (2 * 56 + 2)) := by
  obtain ⟨ti, i1, i2, i3, i4⟩ := opInfo
  exact AJ.primInsert_ok walks Tryz.underlying81 Tryz.underlying3 i1 i2 i3 (by omega) (by decide) (by rfl)
end Go.Proofs.YtheadeoebeenlaaGreatDoor.Jns

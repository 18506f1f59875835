/- Proved: Ids of a world whose map has such entries is a new slice of their keys, in order. Conditions: none. -/
import Derived.Test.YtgonoigdjafikaaGreatDoorIdsL
import Derived.Test.YtgonoigdjafikaaGreatDoorProg
import Derived.Shelf.SlIterI.Nil
import Derived.Shelf.SortM.Plain
import Derived.Shelf.SortM.SortNone
set_option linter.unusedVariables false
set_option maxRecDepth 100000
namespace Go.Proofs.YtgonoigdjafikaaGreatDoor.Ids
open Go Go.Proofs Go.RowKit Go.Maps Go.Sort Go.Shelf

/-- slices.Sort's two contracts here, at the fence that asks nothing. -/
theorem sortsA (m : Nat) : AnyZI.SortsIn Tryz.prog Tryz.sortedA_ren Fence.wide m :=
  ⟨fun blk off cap ss W hH hblk hsz => callsIn_wide.2 (AnyM.slices_Sort_int Tryz.sortA blk off cap ss W hH hblk hsz),
   fun p cap W => callsIn_wide.2 (AnyM.slices_Sort_int_none Tryz.sortA p cap W)⟩
noncomputable def R0 : Value → Option (DataW Unit × List MemPlace) := fun _ => some (.nil, [])
noncomputable def D0 (X : Array MapEntry) : DataW Unit := .map ((X.toList.map (Go.WideElems.rg Tryz.prog 3 R0)).foldr DataW.insert [])
theorem ids_own (mb : Nat) (X : Array MapEntry) (clock : Nat) (ks : List Int) (w : World) (hX : w.heap[mb]? = some (.map X clock)) (hk : X.toList.map (·.key) = ks.map (Value.int .i64)) (hr : ∀ n ∈ ks, -9223372036854775808 ≤ n ∧ n ≤ 9223372036854775807) (hp : ks.Pairwise (· < ·))
    (hb1 : (X.toList.map (·.born)).Pairwise (· < ·)) (hb2 : ∀ x ∈ X.toList, x.born < clock) (hs : X.size ≤ 1000000) : w.ownsMap Tryz.prog 3 R0 mb X.size (D0 X) ∧ (intKeys (D0 X)).Perm ks ∧ Maps.size (D0 X) = X.size := by
  have hkey : ∀ x ∈ X.toList, ∃ n ∈ ks, x.key = .int .i64 n := fun x hx => by
    have : x.key ∈ ks.map (Value.int .i64) := by rw [← hk]; exact List.mem_map_of_mem hx
    obtain ⟨n, hn, e⟩ := List.mem_map.1 this
    exact ⟨n, hn, e.symm⟩
  have hrd : ∀ x ∈ X.toList, ∃ n, x.key = .int .i64 n ∧ Go.WideElems.rd Tryz.prog 3 R0 x = some (.int .i64 n, .nil) := fun x hx => by
    obtain ⟨n, hn, e⟩ := hkey x hx
    refine ⟨n, e, ?_⟩
    have hw : (Lit.int .i64 n).wf = true := by
      have := hr n hn
      simp only [Lit.wf, Bool.and_eq_true, decide_eq_true_eq]
      exact this
    unfold Go.WideElems.rd
    rw [e, Go.Maps.keyOf_int_mk Tryz.underlying3 hw]
    rfl
  have hperm : ((X.toList.map (Go.WideElems.rg Tryz.prog 3 R0)).foldr DataW.insert []).Perm (X.toList.map (Go.WideElems.rg Tryz.prog 3 R0)) := Go.WideShapes.sorted_perm _
  have hint : ∀ l : List MapEntry, (∀ x ∈ l, ∃ n, x.key = .int .i64 n ∧ Go.WideElems.rd Tryz.prog 3 R0 x = some (.int .i64 n, .nil)) → ∀ ks : List Int, l.map (·.key) = ks.map (Value.int .i64) → (l.map (Go.WideElems.rg Tryz.prog 3 R0)).map (fun p => Go.intOf p.1) = ks := by
    intro l
    induction l with
    | nil => intro _ ks h; cases ks with | nil => rfl | cons _ _ => cases h
    | cons x l ih =>
      intro hl ks h
      cases ks with
      | nil => cases h
      | cons m ks =>
        injection h with h1 h2
        have h1 : x.key = Value.int .i64 m := h1
        obtain ⟨n, e1, e2⟩ := hl x (List.mem_cons_self ..)
        rw [e1] at h1
        injection h1 with _ h1
        subst h1
        rw [List.map_cons, List.map_cons, ih (fun y hy => hl y (List.mem_cons_of_mem _ hy)) ks h2, Go.WideElems.rg_of e2]
        rfl
  refine ⟨⟨X, clock, hX, ⟨by unfold maxLen; omega, ⟨hb2, hb1.imp (fun h => Nat.ne_of_lt h), ?_⟩, fun x hx => by obtain ⟨n, _, e⟩ := hrd x hx; exact ⟨_, e⟩⟩, Nat.le_refl _, rfl⟩, ?_, ?_⟩
  · rw [hk]
    refine List.Pairwise.map _ (fun a b h => ?_) hp
    intro e
    injection e with _ e
    omega
  · have h1 := hperm.map (fun p : Lit × DataW Unit => Go.intOf p.1)
    rw [hint X.toList hrd ks hk] at h1
    exact h1
  · show ((X.toList.map (Go.WideElems.rg Tryz.prog 3 R0)).foldr DataW.insert []).length = X.size
    rw [hperm.length_eq]; simp
set_option maxHeartbeats 1000000 in
/-- Ids, at a world whose map has such entries: a new slice of their keys, in order. -/
theorem ids_calls (b o mb : Nat) (X : Array MapEntry) (clock : Nat) (ks : List Int) (w : World) (hcell : w.cell? ⟨b, o + 1, none⟩ = some (.map (some mb))) (hX : w.heap[mb]? = some (.map X clock)) (hk : X.toList.map (·.key) = ks.map (Value.int .i64)) (hr : ∀ n ∈ ks, -9223372036854775808 ≤ n ∧ n ≤ 9223372036854775807) (hp : ks.Pairwise (· < ·))
    (hb1 : (X.toList.map (·.born)).Pairwise (· < ·)) (hb2 : ∀ x ∈ X.toList, x.born < clock) (hs : X.size ≤ 1000000) :
    Calls Tryz.prog 8 #[.pointer (some ⟨b, o, none⟩)] w fun e w' => ∃ v, e = .returned v ∧ w'.ownsRow w.heap.size 3 1 v ks.length (ks.map (Value.int .i64)) ∧ (v = .slice none 0 0 ↔ ks = []) ∧ Below w.heap.size w w' := by
  obtain ⟨hown, hperm, hsize⟩ := ids_own mb X clock ks w hX hk hr hp hb1 hb2 hs
  have hmax : Maps.size (D0 X) ≤ maxLen := by rw [hsize]; unfold maxLen; omega
  have hbytes : Maps.size (D0 X) * 8 ≤ 140737488355328 := by rw [hsize]; omega
  refine (callsIn_wide (n := 6)).1 ?_
  have hbl := hown.lt
  have hseq : SeqGives Fence.wide 2 Tryz.prog 42 #[.pointer (some ⟨w.heap.size, 0, none⟩)] encZ (fun ss => ss.Perm (intKeys (D0 X))) (Maps.size (D0 X)) (w.alloc (.cells #[.map (some mb)] 38)) :=
    AnyZI.keys_gives (ρ := Tryz.keysA_ren) { Tryz.keysA with } Fence.wide _ trivial rfl (by omega) w.heap.size mb X.size (D0 X) _ (by simp) (by simp) (by
      obtain ⟨es, clock, hb, Ft, hs, hD⟩ := hown
      exact ⟨es, clock, (Below.heap_alloc _ _ mb hbl).trans hb, Ft, hs, hD⟩)
  have cK : ∀ mb W, CallsIn Fence.wide 5 Tryz.prog 17 #[.map mb] W fun e w' => e = .returned (.func (.func 42) #[] #[.pointer (some ⟨W.heap.size, 0, none⟩)]) ∧ w' = W.alloc (.cells #[.map mb] 38) := fun mb W => AnyZI.keys_in Tryz.keysA Fence.wide 5 trivial rfl mb W
  have cS := AnyZI.sorted_in Tryz.sortedA Fence.wide 5 trivial trivial trivial trivial rfl (by omega) (sortsA _) (enters_of Tryz.func41 (by kernel_rfl) rfl) 42 #[.pointer (some ⟨w.heap.size, 0, none⟩)] trivial (enters_of Tryz.func42 (by kernel_rfl) rfl) _ _ hmax hbytes _ hseq
  change CallsIn _ _ Tryz.prog 16 _ _ _ at cS
  have hfK : Fence.wide.fn 17 := trivial
  have hfS : Fence.wide.fn 16 := trivial
  refine callsIn_of_wp Tryz.func8 rfl trivial ?_ rfl
  simp only [Tryz.ntmps8, List.size_toArray, List.length_cons, List.length_nil, Nat.reduceAdd, Nat.reduceSub, Array.replicate_succ, Array.replicate_zero, List.push_toArray, List.append_toArray, List.nil_append, List.cons_append]
  gi_wp2_with (first
    | (gi_at_call 17; refine (cK _ _).mono ?_; rintro e w' ⟨rfl, rfl⟩)
    | (gi_at_call 16; refine cS.mono ?_; rintro e w' ⟨v, ss, rfl, hS, hrow, hnil, hb⟩))
  go_ret
  have hsort : ss.mergeSort (fun x y => decide (x ≤ y)) = ks := by
    refine List.Perm.eq_of_pairwise (le := fun a b : Int => a ≤ b) (fun a b _ _ h1 h2 => Int.le_antisymm h1 h2) ?_ (hp.imp (fun h => Int.le_of_lt h)) ((List.mergeSort_perm _ _).trans (hS.trans hperm))
    have := List.pairwise_mergeSort (le := fun x y : Int => decide (x ≤ y)) (fun a b c h1 h2 => by simp at *; omega) (fun a b => by simp; omega) ss
    exact this.imp (fun h => by simpa using h)
  have hlen : ss.length = ks.length := (hS.trans hperm).length_eq
  refine ⟨v, rfl, ?_, ?_, ((Below.refl _ w).alloc (Nat.le_refl _) _).trans (hb.mono (by simp))⟩
  · have := ownsRow_base_a (base' := w.heap.size) hrow (by simp)
    rw [hsort, hlen] at this
    exact this
  · rw [hnil]
    exact ⟨fun h => by subst h; exact List.length_eq_zero_iff.1 hlen.symm, fun h => by subst h; exact List.length_eq_zero_iff.1 hlen⟩
end Go.Proofs.YtgonoigdjafikaaGreatDoor.Ids

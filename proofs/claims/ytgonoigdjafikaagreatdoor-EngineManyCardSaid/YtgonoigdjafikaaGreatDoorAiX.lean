/- Proved: The sorted keys of a map in a struct, told by a contract. Conditions: none. -/
import Derived.Test.YtgonoigdjafikaaGreatDoorAiT
set_option maxRecDepth 100000
set_option linter.unusedVariables false
set_option linter.unusedSimpArgs false
namespace Go.Proofs.YtgonoigdjafikaaGreatDoor.AI
open Go
noncomputable section
/-! ### The sorted keys of a map in a struct, told by a contract -/
def keysI {β : Type} (es : List ME) : (List Int → β) → β → β := List.rec (motive := fun _ => (List Int → β) → β → β) (fun k _ => k []) (fun e _ ih k s => e.k.onInt (fun t n => kindEq t .i64 (ih (fun l => k (n :: l)) s) s) s) es
def riseI (l : List Int) : Int → Bool := List.rec (motive := fun _ => Int → Bool) (fun _ => true) (fun n _ ih p => ifB (ltI p n) (ifB (fits64 n) (ih n) false) false) l
def bornI (clock : Nat) (es : List ME) : Nat → Bool := List.rec (motive := fun _ => Nat → Bool) (fun _ => true) (fun e _ ih p => ifB (Nat.ble p e.born) (ifB (Nat.ble (Nat.succ e.born) clock) (forceN (Nat.succ e.born) ih) false) false) es
def primIds (q : Nat) : FnC := ⟨fun _ _ args h => on1 args (fun p => p.onPtr (fun g e i ub => load1 (.ptr g e (Nat.succ i) ub) h (fun v => v.onMap (fun gm => (h.obj gm).onMap (fun es clock => le (lenL es) 1000000 (ifB (bornI clock es 0) (keysI es (fun ks => ifB (riseI ks (-9223372036854775809))
  (List.rec (motive := fun _ => R2) (.ok (.nul .s) h) (fun _ _ _ => newSlice h (ks.map (AV.int .i64)) 1 (lenL ks) none (fun v h => .ok v h) .bad q) ks) .bad) .bad) .bad) .bad) .bad) .bad) .bad) .bad) .bad⟩
section
variable {P : Program} {G : Nat → AV} {pb : FuncId → Bool}
theorem keysI_ok {β : Type} {ι : Inj} {r s : β} (n : s ≠ r) : ∀ {es : List ME} {X : List MapEntry} {k : List Int → β}, MEs ι es X → keysI es k s = r → ∃ ks, X.map (·.key) = ks.map (Value.int .i64) ∧ k ks = r
  | [], _, k, .nil, hr => ⟨[], rfl, hr⟩
  | e :: es, x :: X, k, .cons h1 h2 h3 h4, hr => by
    have hr : e.k.onInt (fun t n => kindEq t .i64 (keysI es (fun l => k (n :: l)) s) s) s = r := hr
    obtain ⟨t, m, ek, hr⟩ := AV.onInt_inv hr n
    obtain ⟨hk, hr⟩ := eqN_inv (show eqN (kindN t) (kindN .i64) _ s = r from hr) n
    have := kindN_inj hk
    subst this
    rw [ek] at h1
    obtain ⟨ks, e1, e2⟩ := keysI_ok n h4 hr
    exact ⟨m :: ks, by rw [List.map_cons, List.map_cons, rv_int h1, e1], e2⟩
theorem riseI_ok : ∀ (l : List Int) (p : Int), riseI l p = true → l.Pairwise (· < ·) ∧ (∀ n ∈ l, p < n ∧ -9223372036854775808 ≤ n ∧ n ≤ 9223372036854775807)
  | [], _, _ => ⟨.nil, fun _ h => by cases h⟩
  | n :: l, p, h => by
    have h : ifB (ltI p n) (ifB (fits64 n) (riseI l n) false) false = true := h
    rw [ifB_eq, ifB_eq] at h
    split at h
    · split at h
      · rename_i h1 h2
        rw [ltI_ok] at h1
        have h1 := of_decide_eq_true h1
        have h2 := fits64_ok h2
        obtain ⟨a, b⟩ := riseI_ok l n h
        refine ⟨.cons (fun m hm => (b m hm).1) a, fun m hm => ?_⟩
        rcases List.mem_cons.1 hm with e | e
        · subst e; exact ⟨h1, h2⟩
        · have := b m e; exact ⟨by omega, this.2⟩
      · cases h
    · cases h
theorem bornI_ok {ι : Inj} (clock : Nat) : ∀ {es : List ME} {X : List MapEntry} (p : Nat), MEs ι es X → bornI clock es p = true → (X.map (·.born)).Pairwise (· < ·) ∧ ∀ x ∈ X, p ≤ x.born ∧ x.born < clock
  | [], _, _, .nil, _ => ⟨.nil, fun _ h => by cases h⟩
  | e :: es, x :: X, p, .cons h1 h2 h3 h4, h => by
    have h : ifB (Nat.ble p e.born) (ifB (Nat.ble (Nat.succ e.born) clock) (forceN (Nat.succ e.born) (bornI clock es)) false) false = true := h
    rw [ifB_eq, ifB_eq, forceN_eq] at h
    split at h
    · split at h
      · rename_i a1 a2
        have a1 := Nat.le_of_ble_eq_true a1
        have a2 := Nat.le_of_ble_eq_true a2
        obtain ⟨a, b⟩ := bornI_ok clock (e.born + 1) h4 h
        refine ⟨.cons (fun m hm => ?_) a, fun y hy => ?_⟩
        · obtain ⟨z, hz, rfl⟩ := List.mem_map.1 hm
          have := (b z hz).1
          show x.born < z.born
          omega
        · rcases List.mem_cons.1 hy with e | e
          · subst e; omega
          · have := b y e; omega
      · cases h
    · cases h
theorem primIds_ok {g0 : FuncId} (henter : ∀ (A : Array Value) (w : World), (callFunc g0 A).run P w = .ok (.enter g0 A) w)
    (hc : ∀ (b o mb : Nat) (X : Array MapEntry) (clock : Nat) (ks : List Int) (w : World), w.cell? ⟨b, o + 1, none⟩ = some (.map (some mb)) → w.heap[mb]? = some (.map X clock) → X.toList.map (·.key) = ks.map (Value.int .i64) → (∀ n ∈ ks, -9223372036854775808 ≤ n ∧ n ≤ 9223372036854775807) → ks.Pairwise (· < ·) →
      (X.toList.map (·.born)).Pairwise (· < ·) → (∀ x ∈ X.toList, x.born < clock) → X.size ≤ 1000000 →
      Calls P g0 #[.pointer (some ⟨b, o, none⟩)] w fun e w' => ∃ v, e = .returned v ∧ w'.ownsRow w.heap.size 3 1 v ks.length (ks.map (Value.int .i64)) ∧ (v = .slice none 0 0 ↔ ks = []) ∧ RowKit.Below w.heap.size w w') :
    PrimOk P G pb g0 (primIds 8) := by
  intro call N _ ι h w args A v1 h1 hr _ S ha
  have nb : R2.bad ≠ R2.ok v1 h1 := fun hh => by cases hh
  obtain ⟨p, rfl, q1⟩ := on1_inv (show on1 (β := R2) args _ R2.bad = R2.ok v1 h1 from hr) nb
  clear hr
  obtain ⟨pv, rfl, rp⟩ := rvl_arr ha
  obtain ⟨g, e, i, ub, rfl, q2⟩ := AV.onPtr_inv q1 nb
  cases rp with
  | @ptr _ _ _ _ o l hl a1 a2 a3 a4 =>
  have rp2 : RV ι (.ptr g e (i + 1) ub) (.pointer (some ⟨l.b, o + 1, none⟩)) := .ptr hl (by omega) a2 (by push_cast; omega) a4
  obtain ⟨a, cell, cv, e1, e2, e3, q3⟩ := load1_sound (P := P) q2 nb S rp2
  injection e1 with e1
  injection e1 with e1
  subst e1
  obtain ⟨gm, ecv, q4⟩ := AV.onMap_inv q3 nb
  subst ecv
  cases e3 with
  | @map _ lm hlm =>
  obtain ⟨es, clock, ho, q5⟩ := onMap_inv q4 nb
  obtain ⟨_, X, hX, hM⟩ := S.map_ hlm ho
  obtain ⟨hlen, q6⟩ := le_inv q5 nb
  obtain ⟨hborn, q7⟩ := ifB_inv q6 nb
  obtain ⟨ks, hks, q8⟩ := keysI_ok nb hM q7
  obtain ⟨hrise, q9⟩ := ifB_inv q8 nb
  obtain ⟨r1, r2⟩ := riseI_ok ks _ hrise
  obtain ⟨b1, b2⟩ := bornI_ok clock 0 hM hborn
  have hXs : X.size ≤ 1000000 := by
    have h1 : (X.toList.map (·.key)).length = X.size := by simp
    have h2 : es.length = X.toList.length := by
      clear hks b1 b2 q7 hborn q6 hlen q5 ho hX
      generalize X.toList = Y at hM
      induction hM with
      | nil => rfl
      | cons _ _ _ _ ih => simp [ih]
    rw [lenL_eq, h2, Array.length_toList] at hlen
    exact hlen
  have hcell : w.cell? ⟨l.b, o + 1, none⟩ = some (.map (some lm.b)) := by
    obtain ⟨g', e', i', ub', hq, q2'⟩ := AV.onPtr_inv (show (AV.ptr g e (i + 1) ub).onPtr _ _ = _ from q2) nb
    cases hq
    obtain ⟨c, L, ep, fl, mk, hob, q3'⟩ := onCells_inv q2' nb
    obtain ⟨hfl, _⟩ := le_inv q3' nb
    obtain ⟨⟨C, el, fr, k1, k2, k3, k4, k5, k6⟩, _, _, _, _⟩ := S.cells hl hob hfl
    obtain ⟨hub, _⟩ := le_inv (le_inv q3' nb).2 nb
    have hub : i + 1 + 1 ≤ ub := hub
    obtain ⟨o1, u, f1, f2, _⟩ := k5 (i + 1) (by omega) (by omega)
    have ho1 : o1 = o + 1 := by omega
    subst ho1
    have := load_run (P := P) k1 f2
    rw [e2] at this
    injection this with this
    subst this
    rw [cell_of k1]; exact f2
  refine .inr ⟨henter _ _, Calls.mono (hc l.b o lm.b X clock ks w hcell hX hks (fun n hn => (r2 n hn).2) r1 b1 (fun x hx => (b2 x hx).2) hXs) fun ee w1 ⟨v, he, hrow, hnil, hB⟩ => ?_⟩
  obtain ⟨S1, g1⟩ := S.below hB
  refine ⟨v, he, ?_⟩
  cases ks with
  | nil =>
    have q9 : R2.ok (.nul .s) h = R2.ok v1 h1 := q9
    cases q9
    rw [hnil.2 rfl]
    exact ⟨ι, S1, .nuls, g1⟩
  | cons n ks =>
    have q9 : newSlice h ((n :: ks).map (AV.int .i64)) 1 (lenL (n :: ks)) none (fun v h => R2.ok v h) .bad 8 = R2.ok v1 h1 := q9
    unfold newSlice newCells at q9
    rw [layCells_eq, H.new_eq] at q9
    split at q9
    · rename_i hn
      rw [lenL_eq, Nat.zero_add] at q9
      cases q9
      obtain ⟨hxl, hrow⟩ := hrow
      rcases hrow with ⟨hv, _⟩ | ⟨gb, cap, cur, rfl, hgb, hcur, hcap, _, hcs, htake⟩
      · have := hnil.1 hv; cases this
      · have hlt : gb < w1.heap.size := (Array.getElem?_eq_some_iff.1 hcur).1
        have hvl : ((n :: ks).map (AV.int .i64)).length = (n :: ks).length := List.length_map _
        have hnone : ∀ s, ι h.nx s = none := fun s => S.beyond _ s (Nat.le_refl _)
        have hle := Inj.add_le ι h.nx 0 ⟨gb, 0, 0, (n :: ks).length, cur.size⟩ (hnone 0)
        obtain ⟨S2, g2⟩ := S.new hn (w' := w1) (o := .cells (layL ((n :: ks).map (AV.int .i64)) (CT.newT 8) 0) ((n :: ks).map (AV.int .i64)).length 0 0 0) (l := ⟨gb, 0, 0, (n :: ks).length, cur.size⟩) ⟨hgb, hlt⟩ hB.size (fun b hb => hB.block b hb) ⟨hB.os, hB.tape, hB.output⟩ (by
          refine ⟨layL_new.1, Nat.le_refl _, fun s hs => by rw [Inj.add_other _ _ _ _ (by omega)]; exact hnone s, fun s _ hs => ?_⟩
          have : s = 0 := by omega
          subst this
          refine ⟨_, Inj.add_same _ _ _ _, by rw [hvl]; exact Nat.le_refl _, fun _ => hvl.symm, cur, 3, (0, 0), hcur, rfl, fun _ j hh => absurd hh.2 (Nat.not_lt_zero _), fun _ j _ hh => absurd hh.2 (Nat.not_lt_zero _), fun j _ hj => ?_, .inr (.inr (layL_el _ _ _))⟩
          have hj : j < (n :: ks).length := hj
          have hu : cur[j]? = some (.int .i64 ((n :: ks)[j]'hj)) := by
            rw [← Array.getElem?_toList]
            have h1 : (cur.toList.take ((n :: ks).length * 1))[j]? = ((n :: ks).map (Value.int .i64))[j]? := by rw [htake]
            rw [List.getElem?_take, if_pos (by omega), List.getElem?_map, List.getElem?_eq_getElem hj] at h1
            exact h1
          refine ⟨j, _, by simp, hu, ?_⟩
          rw [layL_new.2 j (by rw [hvl]; exact hj)]
          have hnth : ∀ (l : List Int) (j : Nat) (hj : j < l.length), nth (l.map (AV.int .i64)) j = .int .i64 (l[j]'hj) := by
            intro l
            induction l with
            | nil => intro j hj; cases hj
            | cons x l ih =>
              intro j hj
              cases j with
              | zero => rfl
              | succ j => exact ih j (by simpa using hj)
          rw [hnth _ j hj]
          exact .int _ _)
        refine ⟨_, S2, ?_, g2⟩
        exact .sl (Inj.add_same _ _ _ _) (Nat.zero_le _) (by show 0 + (n :: ks).length * 1 ≤ (n :: ks).length; omega) (.inl rfl) hcap (fun _ => by show 0 + cap * 1 ≤ cur.size; omega) (fun q hq => by cases hq) (fun _ => by show (n :: ks).length ≤ 0 + cap * 1; omega)
    · cases q9
end
end
end Go.Proofs.YtgonoigdjafikaaGreatDoor.AI

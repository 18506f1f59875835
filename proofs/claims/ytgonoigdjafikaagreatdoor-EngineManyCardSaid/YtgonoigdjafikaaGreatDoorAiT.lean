/- Proved: Functions that are told by their contracts: slices.Insert, a builder that makes room, what returns true. Conditions: none. -/
import Derived.Test.YtgonoigdjafikaaGreatDoorAiS
set_option maxRecDepth 100000
set_option linter.unusedVariables false
set_option linter.unusedSimpArgs false
namespace Go.Proofs.YtgonoigdjafikaaGreatDoor.AI
open Go
noncomputable section
/-! ### slices.Insert, told by its contract -/
section
def on3 {β : Type} (l : List AV) (k : AV → AV → AV → β) (s : β) : β := List.rec (motive := fun _ => β) s (fun x l _ => on2 l (k x) s) l
/-- One behind the other: as if what is put in, and what stood behind, were appended to what stood ahead. -/
def primInsert (sz q2 : Nat) : FnC := ⟨fun _ _ args h => on3 args (fun x i v =>
  lenA x (fun n => (fun k : Nat → R2 => i.onInt (fun t a => kindEq t .i64 (onNat a k .bad) .bad) .bad) (fun i => v.onSl (fun _ _ _ _ _ _ => lenA v (fun m => le 1 m (forceN (Nat.add n m) fun nm => le nm 1000000 (
    eqN i n
      (firstOf sz m v h (fun vs => appendB sz x m vs h (fun v h => .ok v h) .bad q2) .bad)
      (le (Nat.succ i) n (x.onSl (fun g e i0 _ cap z => v.onSl (fun g' e' _ _ _ z' => eqN g g' .bad
        ((h.obj g).onCells (fun _ _ _ fl mk => eqN mk 0 (le fl e ((h.obj g').onCells (fun _ _ _ fl' mk' => eqN mk' 0 (le fl' e' (eqN z sz (eqN z' sz
          (firstOf sz n x h (fun cs => firstOf sz m v h (fun vs => forceN (Nat.mul i sz) fun d => forceN (Nat.add m (Nat.sub n i)) fun m2 => (fun nw : List AV => ifB (allOne nw)
            (appendB sz (.sl g e i0 i cap z) m2 nw h (fun v h => .ok v h) .bad q2) .bad) (appL vs (dropL cs d))) .bad) .bad) .bad) .bad) .bad) .bad) .bad) .bad) .bad) .bad)) .bad) .bad) .bad)) .bad) .bad) .bad) .bad)) .bad) .bad⟩
theorem on3_inv {β : Type} {r s : β} {l : List AV} {k : AV → AV → AV → β} (hr : on3 l k s = r) (n : s ≠ r) : ∃ x y z, l = [x, y, z] ∧ k x y z = r := by
  cases l with
  | nil => exact absurd hr n
  | cons x l =>
    obtain ⟨y, z, e, h⟩ := on2_inv (hr : on2 l (k x) s = r) n
    exact ⟨x, y, z, by rw [e], h⟩
theorem rvl_three {ι : Inj} {x y z : AV} {A : Array Value} (h : RVL ι [x, y, z] A.toList) : ∃ u v t, A = #[u, v, t] ∧ RV ι x u ∧ RV ι y v ∧ RV ι z t := by
  obtain ⟨l⟩ := A
  cases h with
  | cons h1 h2 =>
    cases h2 with
    | cons h3 h4 =>
      cases h4 with
      | cons h5 h6 =>
        cases h6
        exact ⟨_, _, _, rfl, h1, h3, h5⟩
end
/-- What the walks through slices.Insert show. -/
structure InsertWalks (P : Program) (g fO : FuncId) (tS e : TypeId) (sz : Nat) : Prop where
  enters : ∀ (A : Array Value) (w : World), (callFunc g A).run P w = .ok (.enter g A) w
  ends : ∀ (base : Option Addr) (n c : Nat) (vb : Option Addr) (m vc : Nat) (_ : 0 < m) (w w1 : World) (u : Value),
    (Builtin.append_ #[tS, tS] tS #[.slice base n c, .slice vb m vc]).run P w = .ok u w1 →
    Calls P g #[.slice base n c, .int .i64 n, .slice vb m vc] w fun e w' => e = .returned u ∧ w' = w1
  fit : ∀ (b off n c i m : Nat) (vb : Option Addr) (vc : Nat) (_ : i < n) (_ : 0 < m) (_ : n + m ≤ c) (_ : n + m ≤ 1000000) (w W1 W2 : World),
    (∀ lb cb, (callFunc fO #[.slice vb m vc, .slice (some ⟨b, off + (i + m) * sz, none⟩) lb cb]).run P w = .ok (.value (.bool false)) w) →
    (∀ ty dc sc, (Builtin.copy_ #[tS, tS] ty #[.slice (some ⟨b, off + (i + m) * sz, none⟩) (n + m - (i + m)) dc, .slice (some ⟨b, off + i * sz, none⟩) (n + m - i) sc]).run P w.drew = .ok (goInt (n - i : Nat)) W1) →
    (∀ ty dc, (Builtin.copy_ #[tS, tS] ty #[.slice (some ⟨b, off + i * sz, none⟩) (n + m - i) dc, .slice vb m vc]).run P W1 = .ok (goInt m) W2) →
    Calls P g #[.slice (some ⟨b, off, none⟩) n c, .int .i64 i, .slice vb m vc] w fun e w' => e = .returned (.slice (some ⟨b, off, none⟩) (n + m) c) ∧ w' = W2
  grow : ∀ (b off n c i m N G : Nat) (vb : Option Addr) (vc : Nat) (_ : i < n) (_ : 0 < m) (_ : c < n + m) (_ : n ≤ c) (_ : n + m ≤ 1000000) (_ : n + m ≤ G) (w W1 W2 W3 : World),
    (Builtin.append_ #[tS, 3] tS #[.slice (some ⟨b, off, none⟩) i c, .int .i64 ((n : Int) + (m : Int) - (i : Int))]).run P w = .ok (.slice (some ⟨N, 0, none⟩) (n + m) G) W1 →
    (∀ ty dc, (Builtin.copy_ #[tS, tS] ty #[.slice (some ⟨N, i * sz, none⟩) (n + m - i) dc, .slice vb m vc]).run P W1 = .ok (goInt m) W2) →
    (∀ ty dc sc, (Builtin.copy_ #[tS, tS] ty #[.slice (some ⟨N, (i + m) * sz, none⟩) (n + m - (i + m)) dc, .slice (some ⟨b, off + i * sz, none⟩) (n - i) sc]).run P W2.drew = .ok (goInt (n - i : Nat)) W3) →
    Calls P g #[.slice (some ⟨b, off, none⟩) n c, .int .i64 i, .slice vb m vc] w fun e w' => e = .returned (.slice (some ⟨N, 0, none⟩) (n + m) G) ∧ w' = W3
  over : ∀ (w : World) (a b : Addr) (la ca lb cb : Nat) (tA tB : TypeId) (kA kB : Nat), a.block ≠ b.block → w.shape? a.block = some (tA, kA) → w.shape? b.block = some (tB, kB) → kB ≠ 0 → w.frozen? a = false → w.frozen? ⟨a.block, kA, none⟩ = false →
    (callFunc fO #[.slice (some a) la ca, .slice (some b) lb cb]).run P w = .ok (.value (.bool false)) w
section
variable {P : Program} {w : World}
theorem copy_conc {t ty e : TypeId} {i : TypeInfo} (ht : P.underlying t = some (.slice e)) (hi : P.info? e = some i) {b o len cap m k : Nat} {xv : Value} {us : Array Value} {w' : World} (hk : Nat.min m len = k) (hlen : (Builtin.lenOf xv).run P w = .ok m w)
    (hus : (Builtin.firstCells i.size k xv).run P w = .ok us w) (hst : (storeCells ⟨b, o, none⟩ us.toList).run P w = .ok () w') :
    (Builtin.copy_ #[t, t] ty #[.slice (some ⟨b, o, none⟩) len cap, xv]).run P w = .ok (goInt (k : Nat)) w' := by
  subst hk
  simp only [Builtin.copy_, List.getElem?_toArray, List.getElem?_cons_zero, List.getElem?_cons_succ, Sem.run_bind, underlying_run ht, Result.andThen, hlen, sizeOf_run hi, hus, hst, Sem.run_pure]
theorem heap_at {w : World} {b : Nat} {X : Array Value} {el : TypeId} {fr : Nat × Nat} {o : Obj} (h : w.heap[b]? = some o) : ({ w with heap := w.heap.setIfInBounds b (.cells X el fr) } : World).heap[b]? = some (.cells X el fr) := by
  rw [heap_set (Array.getElem?_eq_some_iff.1 h).1, if_pos rfl]
theorem set_twice {w : World} {b : Nat} {x y : Obj} : (w.heap.setIfInBounds b x).setIfInBounds b y = w.heap.setIfInBounds b y := by
  apply Array.ext_getElem?
  intro k
  simp only [Array.getElem?_setIfInBounds, Array.size_setIfInBounds]
  split <;> rfl
theorem putL_two (vs us : List Value) (p q : Nat) (C : Array Value) (hq : q = p + vs.length) (h : q + us.length ≤ C.size) : putL vs p (putL us q C) = putL (vs ++ us) p C := by
  apply Array.ext_getElem?
  intro j
  rw [putL_get vs p _ j (by rw [putL_size]; omega), putL_get us q C j h, putL_get (vs ++ us) p C j (by rw [List.length_append]; omega)]
  rw [List.length_append]
  by_cases h1 : p ≤ j ∧ j < p + vs.length
  · rw [if_pos h1, if_pos (by omega), List.getElem?_append_left (by omega)]
  · rw [if_neg h1]
    by_cases h2 : q ≤ j ∧ j < q + us.length
    · rw [if_pos h2, if_pos (by omega), List.getElem?_append_right (by omega)]
      congr 1
      omega
    · rw [if_neg h2, if_neg (by omega)]
end

section
variable {P : Program} {G : Nat → AV} {pb : FuncId → Bool}
theorem grow_cells (old Z R us : Array Value) (vs us1 : List Value) (hus : us.toList = vs ++ us1) (hZ : Z.size = us.size) : putL us1 (old.size + vs.length) (putL vs old.size (old ++ Z ++ R)) = old ++ us ++ R := by
  have hl : us.size = vs.length + us1.length := by rw [← Array.length_toList, hus, List.length_append]
  have hs : (old ++ Z ++ R).size = old.size + Z.size + R.size := by simp only [Array.size_append]
  apply Array.ext_getElem?
  intro j
  rw [putL_get us1 _ _ j (by rw [putL_size]; omega), putL_get vs _ _ j (by omega), Array.getElem?_append, Array.getElem?_append, Array.getElem?_append, Array.getElem?_append, Array.size_append, Array.size_append]
  have hg : ∀ k, us[k]? = (vs ++ us1)[k]? := fun k => by rw [← hus, Array.getElem?_toList]
  by_cases h1 : old.size + vs.length ≤ j ∧ j < old.size + vs.length + us1.length
  · rw [if_pos h1, if_pos (by omega), if_neg (by omega), hg, List.getElem?_append_right (by omega)]
    congr 1
    omega
  · rw [if_neg h1]
    by_cases h2 : old.size ≤ j ∧ j < old.size + vs.length
    · rw [if_pos h2, if_pos (by omega), if_neg (by omega), hg, List.getElem?_append_left (by omega)]
    · rw [if_neg h2]
      by_cases h3 : j < old.size
      · rw [if_pos (by omega), if_pos h3, if_pos (by omega), if_pos h3]
      · rw [if_neg (by omega), if_neg (by omega)]
        congr 1
        omega
theorem push_set {a : Array Obj} {x y : Obj} {n : Nat} (h : n = a.size) : (a.push x).setIfInBounds n y = a.push y := by
  subst h
  apply Array.ext_getElem?
  intro k
  rw [Array.getElem?_setIfInBounds, Array.getElem?_push, Array.getElem?_push, Array.size_push]
  by_cases h : a.size = k
  · subst h; rw [if_pos rfl, if_pos (by omega), if_pos rfl]
  · rw [if_neg h, if_neg (by omega), if_neg (by omega)]
theorem newRow_conc {e : TypeId} {X : Array Value} {w : World} : (newRow e X).run P w = .ok ⟨w.heap.size, 0, none⟩ { w with heap := w.heap.push (.cells X e) } := by
  rfl
theorem lenOf_slice {b : Option Addr} {n c m : Nat} {w w' : World} (h : (Builtin.lenOf (.slice b n c)).run P w = .ok m w') : n = m := by
  simp only [Builtin.lenOf, Sem.run_pure] at h
  injection h
theorem primInsert_ok {g0 fO : FuncId} {tS e sz : Nat} {ti : TypeInfo} {z : Value} (W : InsertWalks P g0 fO tS e sz) (ht : P.underlying tS = some (.slice e)) (h3 : P.underlying 3 = some (.int .i64)) (hti : P.info? e = some ti) (hz : ti.zero = some z) (hsz : ti.size = sz) (hb : ti.bytes ≤ 1000000) (hsz0 : sz ≠ 0) (hzs : z.cells.size = sz) :
    PrimOk P G pb g0 (primInsert sz (2 * e + 2)) := by
  intro call N _ ι h w args A v1 h1 hr _ S ha
  subst hsz
  have nb : R2.bad ≠ R2.ok v1 h1 := fun hh => by cases hh
  obtain ⟨x, i, v, rfl, q1⟩ := on3_inv (show on3 (β := R2) args _ R2.bad = R2.ok v1 h1 from hr) nb
  clear hr
  obtain ⟨xv, iv, vv, rfl, rx, ri, rv⟩ := rvl_three ha
  obtain ⟨n, hln, q2⟩ := lenA_ok (P := P) (w := w) q1 nb rx
  obtain ⟨tk, i, rfl, q3⟩ := AV.onInt_inv q2 nb
  obtain ⟨hk, q3⟩ := eqN_inv (show eqN (β := R2) (kindN tk) (kindN .i64) _ R2.bad = R2.ok v1 h1 from q3) nb
  have := kindN_inj hk
  subst this
  obtain ⟨i, rfl, q3⟩ := onNat_inv q3 nb
  obtain ⟨g', e', i', m', cap', z', ev, q4⟩ := AV.onSl_inv q3 nb
  subst ev
  have q4 : (fun m : Nat => _) m' = R2.ok v1 h1 := q4
  obtain ⟨hm, q5⟩ := le_inv q4 nb
  simp only [forceN_eq, Nat.add_eq] at q5
  obtain ⟨hnm, q6⟩ := le_inv q5 nb
  have := rv_int ri
  subst this
  have fin : ∀ {u : Value} {w1 : World}, PostK ι h w (fun v h => R2.ok v h) (R2.ok v1 h1) u w1 → ∀ w2 : World, w2.heap = w1.heap → SameExt w1 w2 → RetPost ι h w v1 h1 (.returned u) w2 := by
    rintro u w1 ⟨v', h', ι', e1, e2, e3, e4⟩ w2 hh hx
    cases e1
    exact ⟨u, rfl, ι', e2.drawn hh, e3, Grows.trans S e4 (Grows.drawn hh hx)⟩
  refine .inr ⟨W.enters _ _, ?_⟩
  have rv0 := rv
  cases rv with
  | @sl _ _ _ _ o' c' _ _ l' hl' b1 b2 b3 b4 b5 b6 b7 =>
  rcases eqN_cases q6 with ⟨hin, q7⟩ | ⟨hin, q7⟩
  · subst hin
    obtain ⟨us, vs, hus, hvs, hvl, q8⟩ := firstOf_ok (P := P) q7 nb S rv0
    obtain ⟨u, w', hrun, hp⟩ := append_core (P := P) (ts := #[tS, tS]) (ty := tS) (args := #[xv, .slice (some ⟨l'.b, o', none⟩) m' c']) rfl ht rfl ht hti hz hb hsz0 hzs rfl rfl (.inl ⟨fun q => by simp, rfl, hus⟩) hvs hvl q8 nb S rx
    have hsl : ∃ base c, xv = .slice base i c := by
      rcases AV.onSlNul_inv (show x.onSlNul _ _ _ = _ from q8) nb with ⟨_, _, _, _, _, _, ex, _⟩ | ⟨t', ex, h9⟩
      · subst ex
        cases rx with
        | sl => exact ⟨_, _, by rw [lenOf_slice hln]⟩
      · subst ex
        obtain ⟨hk, _⟩ := ifB_inv h9 nb
        have := nkEq_inv hk
        subst this
        cases rx
        exact ⟨_, _, by rw [lenOf_slice hln]⟩
    obtain ⟨base, c, rfl⟩ := hsl
    exact Calls.mono (W.ends base i c _ m' c' hm w w' u hrun) fun e w2 ⟨he, hw⟩ => by
      subst he hw
      exact fin hp w2 rfl ⟨rfl, rfl, rfl⟩
  · obtain ⟨hin2, q8⟩ := le_inv q7 nb
    obtain ⟨g, ep, i0, len, cap, zz, ex, q9⟩ := AV.onSl_inv q8 nb
    subst ex
    obtain ⟨g2, e2, j2, m2, cap2, z2, ev2, q10⟩ := AV.onSl_inv q9 nb
    cases ev2
    rcases eqN_cases q10 with ⟨_, q11⟩ | ⟨hgg, q11⟩
    · exact absurd q11 nb
    obtain ⟨ct, L, epc, fl, mk, ho, q12⟩ := onCells_inv q11 nb
    obtain ⟨hmk, q13⟩ := eqN_inv q12 nb
    subst hmk
    obtain ⟨hfl, q14⟩ := le_inv q13 nb
    obtain ⟨ct', L', epc', fl', mk', ho', q15⟩ := onCells_inv q14 nb
    obtain ⟨hmk, q16⟩ := eqN_inv q15 nb
    subst hmk
    obtain ⟨hfl', q17⟩ := le_inv q16 nb
    obtain ⟨hzz, q18⟩ := eqN_inv q17 nb
    obtain ⟨hzz2, q18⟩ := eqN_inv q18 nb
    subst hzz hzz2
    obtain ⟨cs, csA, hcs, hcsr, hcsl, q19⟩ := firstOf_ok (P := P) q18 nb S rx
    obtain ⟨vs, vsA, hvs, hvsr, hvsl, q20⟩ := firstOf_ok (P := P) q19 nb S rv0
    simp only [appL_eq, dropL_eq, Nat.mul_eq] at q20
    obtain ⟨hone, q21⟩ := ifB_inv q20 nb
    have rx0 := rx
    cases rx with
    | @sl _ _ _ _ o c _ _ l hl a1 a2 a3 a4 a5 a6 a7 =>
    have hlen := lenOf_slice hln
    subst hlen
    have hil : i < len := hin2
    have hm0 : 0 < m' := hm
    have hnm0 : len + m' ≤ 1000000 := hnm
    have hsz : 0 < ti.size := Nat.pos_of_ne_zero hsz0
    -- the two blocks
    obtain ⟨⟨C, el, fr, k1, k2, k3, _, _, _⟩, _, _, _, _⟩ := S.cells hl ho hfl
    obtain ⟨⟨D, el', fr', d1, d2, d3, _, _, _⟩, _, _, _, _⟩ := S.cells hl' ho' hfl'
    have hne : l'.b ≠ l.b := fun hh => hgg (S.inj _ _ _ _ _ _ hl' hl hh).1.symm
    have hblt : l.b < w.heap.size := (Array.getElem?_eq_some_iff.1 k1).1
    have f1 : ∀ j, ¬ (fr.1 ≤ j ∧ j < fr.2) := k3 rfl
    have f2 : ∀ j, ¬ (fr'.1 ≤ j ∧ j < fr'.2) := d3 rfl
    have hcC : o + c * ti.size ≤ C.size := by rw [k2]; exact a5 (by omega)
    have hdD : o' + c' * ti.size ≤ D.size := by rw [d2]; exact b5 (by omega)
    have hnc : len * ti.size ≤ c * ti.size := Nat.mul_le_mul_right _ a4
    have hmc : m' * ti.size ≤ c' * ti.size := Nat.mul_le_mul_right _ b4
    have hsplit : len * ti.size = i * ti.size + (len - i) * ti.size := by rw [← Nat.add_mul]; congr 1; omega
    have him : (i + m') * ti.size = i * ti.size + m' * ti.size := Nat.add_mul _ _ _
    have hm2 : (m' + (len - i)) * ti.size = m' * ti.size + (len - i) * ti.size := Nat.add_mul _ _ _
    have hpos : 0 < (len - i) * ti.size := Nat.mul_pos (by omega) hsz
    have hcsE : cs = C.extract o (o + len * ti.size) := by
      have e1 := hcs w rfl
      rw [firstCells_run k1 (.inr (by omega)) _ _] at e1
      injection e1 with e1; exact e1.symm
    have hvsE : ∀ w' : World, w'.heap[l'.b]? = w.heap[l'.b]? → (Builtin.firstCells ti.size m' (.slice (some ⟨l'.b, o', none⟩) m' c')).run P w' = .ok vs w' := by
      intro w' hw'
      have e1 := hvs w rfl
      rw [firstCells_run d1 (.inr (by omega)) _ _] at e1
      injection e1 with e1
      rw [← e1]
      exact firstCells_run (hw'.trans d1) (.inr (by omega)) _ _
    have hus1 : (C.extract (o + i * ti.size) (o + i * ti.size + (len - i) * ti.size)).toList = cs.toList.drop (i * ti.size) := by
      rw [hcsE, Array.toList_extract, Array.toList_extract, List.extract_eq_take_drop, List.extract_eq_take_drop, List.drop_take, List.drop_drop]
      congr 1
      omega
    have hvl : vs.toList.length = m' * ti.size := by rw [← hvsr.length, hvsl]
    have hdl : (cs.toList.drop (i * ti.size)).length = (len - i) * ti.size := by rw [List.length_drop, ← hcsr.length, hcsl]; omega
    have hnewr : RVL ι (vsA ++ csA.drop (i * ti.size)) (vs.toList ++ cs.toList.drop (i * ti.size)) := hvsr.append (hcsr.drop _)
    have hone' := rvl_one hnewr hone
    have o1 : ∀ u ∈ vs.toList, oneV u := fun u hu => hone' u (List.mem_append_left _ hu)
    have o2 : ∀ u ∈ cs.toList.drop (i * ti.size), oneV u := fun u hu => hone' u (List.mem_append_right _ hu)
    obtain ⟨us, hus⟩ : ∃ us : Array Value, us.toList = vs.toList ++ cs.toList.drop (i * ti.size) := ⟨(vs.toList ++ cs.toList.drop (i * ti.size)).toArray, rfl⟩
    have hnewr2 : RVL ι (vsA ++ csA.drop (i * ti.size)) us.toList := by rw [hus]; exact hnewr
    have hnl : (vsA ++ csA.drop (i * ti.size)).length = (m' + (len - i)) * ti.size := by rw [hnewr.length, List.length_append, hvl, hdl, hm2]
    have rxi : RV ι (.sl g ep i0 i cap ti.size) (.slice (some ⟨l.b, o, none⟩) i c) := .sl hl a1 (by omega) a3 (by omega) a5 a6 a7
    have hfitR : ∀ {base : Option Addr} {sLen sCap : Nat} {w' : World}, Value.slice (some ⟨l.b, o, none⟩) i c = .slice base sLen sCap → sLen + (m' + (len - i)) ≤ sCap → (match base with | some a => storeCells (a.add (sLen * ti.size)) us.toList | none => pure ()).run P w = .ok () w' →
        Calls P g0 #[.slice (some ⟨l.b, o, none⟩) len c, .int .i64 i, .slice (some ⟨l'.b, o', none⟩) m' c'] w fun ee w2 => ee = .returned (.slice base (sLen + (m' + (len - i))) sCap) ∧ w2.heap = w'.heap ∧ SameExt w' w2 := by
      intro base sLen sCap w' e1 e2 e3
      injection e1 with e1 e4 e5
      subst e1 e4 e5
      have hroom : len + m' ≤ c := by omega
      have hrc : (len + m') * ti.size ≤ c * ti.size := Nat.mul_le_mul_right _ hroom
      have hlm : (len + m') * ti.size = len * ti.size + m' * ti.size := Nat.add_mul _ _ _
      have e3 : (storeCells ((⟨l.b, o, none⟩ : Addr).add (i * ti.size)) us.toList 0).run P w = .ok () w' := e3
      rw [add_addr, hus, storeCells_run _ 0 k1 (o + i * ti.size) (by rw [List.length_append, hvl, hdl]; omega) (fun j _ _ => f1 j) hone'] at e3
      injection e3 with _ e3
      have hW1 := storeCells_run (P := P) (w := w.drew) (C.extract (o + i * ti.size) (o + i * ti.size + (len - i) * ti.size)).toList 0 (b := l.b) (C := C) (el := el) (fr := fr) k1 (o + (i + m') * ti.size) (by rw [hus1, hdl]; omega) (fun j _ _ => f1 j) (by rw [hus1]; exact o2)
      obtain ⟨W1, hW⟩ : ∃ W1 : World, W1 = { w.drew with heap := w.drew.heap.setIfInBounds l.b (.cells (putL (C.extract (o + i * ti.size) (o + i * ti.size + (len - i) * ti.size)).toList (o + (i + m') * ti.size + 0) C) el fr) } := ⟨_, rfl⟩
      rw [← hW] at hW1
      have k1' : W1.heap[l.b]? = some (.cells (putL (C.extract (o + i * ti.size) (o + i * ti.size + (len - i) * ti.size)).toList (o + (i + m') * ti.size + 0) C) el fr) := by rw [hW]; exact heap_at (w := w.drew) k1
      have kd : W1.heap[l'.b]? = w.heap[l'.b]? := by rw [hW]; exact (heap_set (w := w.drew) hblt l'.b).trans (if_neg (Ne.symm hne))
      have hW2 := storeCells_run (P := P) (w := W1) vs.toList 0 k1' (o + i * ti.size) (by rw [hvl, putL_size]; omega) (fun j _ _ => f1 j) o1
      obtain ⟨W2, hWW⟩ : ∃ W2 : World, W2 = { W1 with heap := W1.heap.setIfInBounds l.b (.cells (putL vs.toList (o + i * ti.size + 0) (putL (C.extract (o + i * ti.size) (o + i * ti.size + (len - i) * ti.size)).toList (o + (i + m') * ti.size + 0) C)) el fr) } := ⟨_, rfl⟩
      rw [← hWW] at hW2
      have hsz1 : (C.extract (o + i * ti.size) (o + i * ti.size + (len - i) * ti.size)).toList.length = (len - i) * ti.size := by rw [hus1, hdl]
      refine Calls.mono (W.fit l.b o len c i m' (some ⟨l'.b, o', none⟩) c' hil hm0 hroom hnm0 w W1 W2 (fun lb cb => ?_) (fun ty dc sc => ?_) (fun ty dc => ?_)) fun ee w2 ⟨g1, g2⟩ => ⟨?_, ?_, ?_⟩
      · exact W.over w ⟨l'.b, o', none⟩ ⟨l.b, o + (i + m') * ti.size, none⟩ m' c' lb cb el' el D.size C.size hne (shape_of d1) (shape_of k1) (by omega) (by rw [frozen_of d1]; have := f2 o'; simp; omega) (by rw [frozen_of d1]; have := f2 D.size; simp; omega)
      · exact copy_conc ht hti (k := len - i) (m := len + m' - i) (us := C.extract (o + i * ti.size) (o + i * ti.size + (len - i) * ti.size)) (by simp only [Nat.min_def]; split <;> omega) rfl (firstCells_run (w := w.drew) k1 (.inr (by omega)) _ _) hW1
      · exact copy_conc ht hti (k := m') (m := m') (us := vs) (by simp only [Nat.min_def]; split <;> omega) rfl (hvsE _ kd) hW2
      · rw [g1]; congr 2; omega
      · rw [g2, ← e3]
        rw [hWW, hW]
        show ((w.heap.setIfInBounds _ _).setIfInBounds _ _) = w.heap.setIfInBounds _ _
        rw [set_twice, putL_two _ _ _ _ _ (by rw [hvl]; omega) (by rw [hsz1]; omega), hus1]
      · rw [g2, ← e3, hWW, hW]; exact ⟨rfl, rfl, rfl⟩
    have hgrwR : ∀ {base : Option Addr} {sLen sCap : Nat} {old : Array Value}, Value.slice (some ⟨l.b, o, none⟩) i c = .slice base sLen sCap → sLen + (m' + (len - i)) ≤ 1000000 → sCap < sLen + (m' + (len - i)) → (∀ w', w'.heap = w.heap → (Builtin.firstCells ti.size sLen (.slice base sLen sCap)).run P w' = .ok old w') →
        ∃ c2, sLen + (m' + (len - i)) ≤ c2 ∧ ∀ {u : Value} {w' : World}, (do let a ← newRow e (old ++ us ++ Builtin.zeroCells z.cells (c2 - (sLen + (m' + (len - i))))); pure (.slice (some a) (sLen + (m' + (len - i))) c2) : Sem Value).run P { w with drawn := w.drawn + 1 } = .ok u w' →
          Calls P g0 #[.slice (some ⟨l.b, o, none⟩) len c, .int .i64 i, .slice (some ⟨l'.b, o', none⟩) m' c'] w fun ee w2 => ee = .returned u ∧ w2.heap = w'.heap ∧ SameExt w' w2 := by
      intro base sLen sCap old e1 e2 e3 e4
      injection e1 with e1 e5 e6
      subst e1 e5 e6
      have hzc : ∀ q, (Builtin.zeroCells z.cells q).size = q * ti.size := fun q => by simp [Builtin.zeroCells, hzs]
      have holdE : old = C.extract o (o + i * ti.size) := by
        have q1 := e4 w rfl
        rw [firstCells_run k1 (.inr (by omega)) _ _] at q1
        injection q1 with q1; exact q1.symm
      have holdS : old.size = i * ti.size := by rw [holdE, Array.size_extract]; omega
      have husS : us.size = m' * ti.size + (len - i) * ti.size := by rw [← Array.length_toList, hus, List.length_append, hvl, hdl]
      obtain ⟨c2, hc2, hrz⟩ := append_grow (P := P) (w := w) (ts := #[tS, 3]) (ty := tS) (args := #[.slice (some ⟨l.b, o, none⟩) i c, .int .i64 ((m' + (len - i) : Nat) : Int)]) (new := Builtin.zeroCells z.cells (m' + (len - i))) rfl ht rfl h3 rfl rfl hti hz hb hsz0 (.inr ⟨_, _, rfl, rfl, by omega, rfl⟩) e2 e3 e4
      refine ⟨c2, hc2, fun {u w'} hrun => ?_⟩
      have hc2m : (len + m') * ti.size ≤ c2 * ti.size := Nat.mul_le_mul_right _ (by omega)
      have hlm : (len + m') * ti.size = len * ti.size + m' * ti.size := Nat.add_mul _ _ _
      obtain ⟨R, hR⟩ : ∃ R, R = Builtin.zeroCells z.cells (c2 - (i + (m' + (len - i)))) := ⟨_, rfl⟩
      rw [← hR] at hrz hrun
      obtain ⟨X1, hX1⟩ : ∃ X1, X1 = old ++ Builtin.zeroCells z.cells (m' + (len - i)) ++ R := ⟨_, rfl⟩
      rw [← hX1] at hrz
      have hXs : X1.size = i * ti.size + (m' + (len - i)) * ti.size + R.size := by rw [hX1, Array.size_append, Array.size_append, holdS, hzc]
      have hu : u = .slice (some ⟨w.heap.size, 0, none⟩) (i + (m' + (len - i))) c2 ∧ w' = { w with drawn := w.drawn + 1, heap := w.heap.push (.cells (old ++ us ++ R) e) } := by
        have q1 : Result.ok (Value.slice (some ⟨w.heap.size, 0, none⟩) (i + (m' + (len - i))) c2) { w with drawn := w.drawn + 1, heap := w.heap.push (.cells (old ++ us ++ R) e) } = Result.ok u w' := hrun
        injection q1 with q2 q3
        exact ⟨q2.symm, q3.symm⟩
      obtain ⟨rfl, rfl⟩ := hu
      clear hrun
      have hlm2 : i + (m' + (len - i)) = len + m' := by omega
      obtain ⟨W1, hW⟩ : ∃ W1 : World, W1 = { w with drawn := w.drawn + 1, heap := w.heap.push (.cells X1 e) } := ⟨_, rfl⟩
      have hrz : (Builtin.append_ #[tS, 3] tS #[.slice (some ⟨l.b, o, none⟩) i c, .int .i64 ((m' + (len - i) : Nat) : Int)]).run P w = .ok (.slice (some ⟨w.heap.size, 0, none⟩) (i + (m' + (len - i))) c2) W1 := by rw [hrz, hW]; rfl
      rw [hlm2, show ((m' + (len - i) : Nat) : Int) = (len : Int) + (m' : Int) - (i : Int) by omega] at hrz
      have j1 : W1.heap[w.heap.size]? = some (.cells X1 e (0, 0)) := by rw [hW]; simp
      have j0 : ∀ b, b < w.heap.size → W1.heap[b]? = w.heap[b]? := fun b hb => by rw [hW]; simp only []; rw [Array.getElem?_push_lt hb, Array.getElem?_eq_getElem hb]
      have hdlt : l'.b < w.heap.size := (Array.getElem?_eq_some_iff.1 d1).1
      have f0 : ∀ j, ¬ ((0, 0) : Nat × Nat).1 ≤ j ∨ ¬ j < ((0, 0) : Nat × Nat).2 := fun j => .inr (Nat.not_lt_zero j)
      have f00 : ∀ j, ¬ (((0, 0) : Nat × Nat).1 ≤ j ∧ j < ((0, 0) : Nat × Nat).2) := fun j hh => absurd hh.2 (Nat.not_lt_zero j)
      have hW2 := storeCells_run (P := P) (w := W1) vs.toList 0 j1 (i * ti.size) (by rw [hvl]; omega) (fun j _ _ => f00 j) o1
      obtain ⟨W2, hWW⟩ : ∃ W2 : World, W2 = { W1 with heap := W1.heap.setIfInBounds w.heap.size (.cells (putL vs.toList (i * ti.size + 0) X1) e (0, 0)) } := ⟨_, rfl⟩
      rw [← hWW] at hW2
      have j2 : W2.heap[w.heap.size]? = some (.cells (putL vs.toList (i * ti.size + 0) X1) e (0, 0)) := by rw [hWW]; exact heap_at j1
      have j3 : W2.heap[l.b]? = w.heap[l.b]? := by
        rw [hWW]
        exact ((heap_set (Array.getElem?_eq_some_iff.1 j1).1 l.b).trans (if_neg (by omega))).trans (j0 _ hblt)
      have hW3 := storeCells_run (P := P) (w := W2.drew) (C.extract (o + i * ti.size) (o + i * ti.size + (len - i) * ti.size)).toList 0 (b := w.heap.size) j2 ((i + m') * ti.size) (by rw [hus1, hdl, putL_size]; omega) (fun j _ _ => f00 j) (by rw [hus1]; exact o2)
      obtain ⟨W3, hWWW⟩ : ∃ W3 : World, W3 = { W2.drew with heap := W2.drew.heap.setIfInBounds w.heap.size (.cells (putL (C.extract (o + i * ti.size) (o + i * ti.size + (len - i) * ti.size)).toList ((i + m') * ti.size + 0) (putL vs.toList (i * ti.size + 0) X1)) e (0, 0)) } := ⟨_, rfl⟩
      rw [← hWWW] at hW3
      refine Calls.mono (W.grow l.b o len c i m' w.heap.size c2 (some ⟨l'.b, o', none⟩) c' hil hm0 (by omega) a4 hnm0 (by omega) w W1 W2 W3 hrz (fun ty dc => ?_) (fun ty dc sc => ?_)) fun ee w2 ⟨g1, g2⟩ => ⟨?_, ?_, ?_⟩
      · exact copy_conc ht hti (k := m') (m := m') (us := vs) (by simp only [Nat.min_def]; split <;> omega) rfl (hvsE _ (j0 _ hdlt)) hW2
      · exact copy_conc ht hti (k := len - i) (m := len - i) (us := C.extract (o + i * ti.size) (o + i * ti.size + (len - i) * ti.size)) (by simp only [Nat.min_def]; split <;> omega) rfl (firstCells_run (w := W2.drew) (j3.trans k1) (.inr (by omega)) _ _) hW3
      · rw [g1, hlm2]
      · rw [g2, hWWW, hWW, hW]
        show (((w.heap.push _).setIfInBounds _ _).setIfInBounds _ _) = w.heap.push _
        rw [push_set rfl, push_set rfl, hX1]
        have := grow_cells old (Builtin.zeroCells z.cells (m' + (len - i))) R us vs.toList (C.extract (o + i * ti.size) (o + i * ti.size + (len - i) * ti.size)).toList (by rw [hus, hus1]) (by rw [hzc, husS, hm2])
        rw [holdS, hvl] at this
        rw [Nat.add_zero, Nat.add_zero, him, this]
      · rw [g2, hWWW, hWW, hW]; exact ⟨rfl, rfl, rfl⟩
    obtain ⟨u, w', hR, hp⟩ := append_gen (P := P) (e := e) (z := z) (us := us) hsz0 hzs (R := fun u w' => Calls P g0 #[.slice (some ⟨l.b, o, none⟩) len c, .int .i64 i, .slice (some ⟨l'.b, o', none⟩) m' c'] w fun ee w2 => ee = .returned u ∧ w2.heap = w'.heap ∧ SameExt w' w2) hfitR hgrwR hnewr2 hnl q21 nb S rxi
    exact Calls.mono hR fun ee w2 ⟨he, hw, hx⟩ => by
      subst he
      exact fin hp w2 hw hx
end
/-! ### A builder that has no buffer yet makes room -/
def primGrow (q : Nat) : FnC := ⟨fun _ _ args h => on2 args (fun b n => n.onInt (fun t n => kindEq t .i64 (onNat n (fun n => le n 1000000 (b.onPtr (fun g e i ub => (h.obj g).onCells (fun c _ _ fl mk => le mk 1 (le fl e (le (Nat.add i 2) ub
  ((c.get (Nat.succ i)).onNul (fun t => ifB (nkEq t .s)
    (newSlice h [] 1 0 none (fun v h2 => storeN (.ptr g e (Nat.succ i) ub) [v] 1 h2 (fun h3 => .ok (.tup []) h3) .bad) .bad q) .bad) .bad) .bad) .bad) .bad) .bad) .bad) .bad) .bad) .bad) .bad) .bad⟩
section
variable {P : Program} {G : Nat → AV} {pb : FuncId → Bool}
theorem primGrow_ok {g0 : FuncId} {el0 : TypeId} (henter : ∀ (A : Array Value) (w : World), (callFunc g0 A).run P w = .ok (.enter g0 A) w)
    (hwalk : ∀ (b o n : Nat) (w : World), n ≤ 1000000 → w.cell? ⟨b, o + 1, none⟩ = some (.slice none 0 0) → w.frozen? ⟨b, o + 1, none⟩ = false → b < w.heap.size →
      Calls P g0 #[.pointer (some ⟨b, o, none⟩), .int .i64 n] w fun e w' => e = .returned (.tuple #[]) ∧ ∃ cs : Array Value, n ≤ cs.size ∧
        w'.heap = (w.setCell ⟨b, o + 1, none⟩ (.slice (some ⟨w.heap.size, 0, none⟩) 0 cs.size)).heap.push (.cells cs el0) ∧ w'.os = w.os ∧ w'.tape = w.tape ∧ w'.output = w.output) :
    PrimOk P G pb g0 (primGrow (2 * el0 + 2)) := by
  intro call N _ ι h w args A v1 h1 hr _ S ha
  have nb : R2.bad ≠ R2.ok v1 h1 := fun hh => by cases hh
  obtain ⟨x, y, rfl, q1⟩ := on2_inv (show on2 (β := R2) args _ R2.bad = R2.ok v1 h1 from hr) nb
  clear hr
  obtain ⟨xv, yv, rfl, rx, ry⟩ := rvl_two ha
  obtain ⟨tk, n, rfl, q2⟩ := AV.onInt_inv q1 nb
  obtain ⟨hk, q3⟩ := eqN_inv (show eqN (β := R2) (kindN tk) (kindN .i64) _ R2.bad = R2.ok v1 h1 from q2) nb
  have := kindN_inj hk
  subst this
  obtain ⟨n, rfl, q4⟩ := onNat_inv q3 nb
  obtain ⟨hn, q5⟩ := le_inv q4 nb
  obtain ⟨g, e, i, ub, rfl, q6⟩ := AV.onPtr_inv q5 nb
  obtain ⟨c, L, ep, fl, mk, ho, q7⟩ := onCells_inv q6 nb
  obtain ⟨hmk, q8⟩ := le_inv q7 nb
  obtain ⟨hfl, q9⟩ := le_inv q8 nb
  obtain ⟨hub, q10⟩ := le_inv q9 nb
  obtain ⟨t, ht, q11⟩ := AV.onNul_inv q10 nb
  obtain ⟨hts, q12⟩ := ifB_inv q11 nb
  have := nkEq_inv hts
  subst this
  have hub : i + 2 ≤ ub := hub
  have := rv_int ry
  subst this
  have rx0 := rx
  cases rx with
  | @ptr _ _ _ _ o l hl a1 a2 a3 a4 =>
  obtain ⟨⟨C, el, fr, k1, k2, k3, k4, k5, k6⟩, _, _, _, _⟩ := S.cells hl ho hfl
  obtain ⟨o1, u, e1, e2, e3⟩ := k5 (i + 1) (by omega) (by omega)
  have hte : c.get (i + 1) = .nul .s := ht
  rw [hte] at e3
  have ho1 : o1 = o + 1 := by omega
  subst ho1
  have hu : u = .slice none 0 0 := by cases e3; rfl
  subst hu
  have hlt : l.b < w.heap.size := (Array.getElem?_eq_some_iff.1 k1).1
  have hoC : o + 1 < C.size := (Array.getElem?_eq_some_iff.1 e2).1
  have hnf := k4 hmk (o + 1) (by omega)
  refine .inr ⟨henter _ _, Calls.mono (hwalk l.b o n w hn (by rw [cell_of k1]; exact e2) (by rw [frozen_of k1]; rw [Bool.and_eq_false_iff, decide_eq_false_iff_not, decide_eq_false_iff_not]; omega) hlt) fun ee w2 ⟨g1, cs, g2, g3, g4, g5, g6⟩ => ?_⟩
  subst g1
  obtain ⟨w1, r1, v, h2, ι2, q13, S2, hv, G2⟩ := newSlice_room (P := P) (w := w) (c := cs.size) (X := cs) (w1 := w) q12 nb S .nil (Nat.zero_le _) (by simp) ⟨cs.toList, by simp⟩ (by simp) el0 (.inr rfl) rfl rfl
  have r2 : Result.ok (⟨w.heap.size, 0, none⟩ : Addr) { w with heap := w.heap.push (.cells cs el0) } = Result.ok ⟨w.heap.size, 0, none⟩ w1 := r1
  injection r2 with _ r2
  have rp : RV ι2 (.ptr g e (i + 1) ub) (.pointer (some ⟨l.b, o + 1, none⟩)) := .ptr (G2.ext _ _ _ hl) (by omega) a2 (by push_cast; omega) a4
  obtain ⟨a, w3, h3, j1, j2, j3, S3, G3, j4⟩ := storeN_sound (P := P) q13 nb S2 rp (.cons hv .nil)
  injection j1 with j1
  injection j1 with j1
  subst j1
  injection j4 with j5 j6
  subst j5 j6
  have k1' : w1.heap[l.b]? = some (.cells C el fr) := by rw [← r2]; simp only []; rw [Array.getElem?_push_lt hlt, ← Array.getElem?_eq_getElem hlt]; exact k1
  have hst := storeCells_run (P := P) [.slice (some ⟨w.heap.size, 0, none⟩) 0 cs.size] 0 k1' (o + 1) (by simp; omega) (fun j b1 b2 => by
    have b3 : j < o + 1 + 0 + 1 := b2
    have : j = o + 1 := by omega
    subst this
    exact hnf) (by simp [oneV])
  rw [hst] at j3
  injection j3 with _ j3
  have hheap : w2.heap = w3.heap := by
    rw [g3, ← j3, ← r2]
    rw [setCell_heap k1]
    apply Array.ext_getElem?
    intro j
    simp only [Array.getElem?_push, Array.getElem?_setIfInBounds, Array.size_setIfInBounds, Array.size_push, putL, Nat.add_zero]
    by_cases hj : l.b = j
    · subst hj
      rw [if_neg (by omega), if_pos rfl, if_pos hlt, if_pos rfl, if_pos (by omega)]
    · rw [if_neg hj, if_neg hj]
  refine ⟨_, rfl, ι2, S3.drawn hheap, .tup .nil, Grows.trans S (Grows.trans S G2 G3) (Grows.drawn hheap ?_)⟩
  rw [← j3, ← r2]
  exact ⟨g4, g5, g6⟩
end
/-! ### A function without arguments that returns true, told by its contract -/
section
variable {P : Program} {G : Nat → AV} {pb : FuncId → Bool}
def primTrue : FnC := ⟨fun _ _ args h => List.rec (motive := fun _ => R2) (.ok (.bool true) h) (fun _ _ _ => .bad) args⟩
theorem Sim.below {ι : Inj} {h : H} {w w1 : World} (S : Sim ι h w) (b : RowKit.Below w.heap.size w w1) : Sim ι h w1 ∧ Grows ι h w ι h w1 := by
  have hk : ∀ k, k < w.heap.size → w1.heap[k]? = w.heap[k]? := fun k hk => b.block k hk
  have hs := b.size
  refine ⟨⟨S.nx, S.beyond, S.inj, fun g s l hl => Nat.lt_of_lt_of_le (S.inw g s l hl) hs, fun g hg => objOk_keep (S.obj g hg) (Inj.le_refl ι) (fun _ => rfl) (fun s l hl => hk _ (S.inw g s l hl))⟩,
    ⟨Inj.le_refl ι, Nat.le_refl _, hs, fun _ _ _ h1 h2 => (by rw [h1] at h2; cases h2), fun _ _ h => h, fun b hb _ => hk b hb, fun _ _ h => ⟨h, fun _ => rfl⟩, b.os, b.tape, b.output⟩⟩
theorem primTrue_ok {g0 : FuncId} (henter : ∀ (A : Array Value) (w : World), (callFunc g0 A).run P w = .ok (.enter g0 A) w)
    (hc : ∀ w, Calls P g0 #[] w fun e w' => e = .returned (.bool true) ∧ RowKit.Below w.heap.size w w') : PrimOk P G pb g0 primTrue := by
  intro call N _ ι h w args A v1 h1 hr _ S ha
  cases args with
  | cons x l => cases (show R2.bad = R2.ok v1 h1 from hr)
  | nil =>
    have hr : R2.ok (.bool true) h = R2.ok v1 h1 := hr
    cases hr
    have hA : A = #[] := by
      obtain ⟨l⟩ := A
      cases ha
      rfl
    subst hA
    refine .inr ⟨henter _ _, Calls.mono (hc w) fun e w1 ⟨he, b⟩ => ?_⟩
    obtain ⟨S1, g1⟩ := S.below b
    exact ⟨_, he, ι, S1, .bool _, g1⟩
end
/-! ### A piece of a walk that the interpreter runs -/
section
variable {P : Program} {G : Nat → AV} {nt : Nat} {prim : FuncId → Option FnC}
theorem frame_of {ι : Inj} {l : List AV} {tmps : Array Value} (h : RVL ι l tmps.toList) (h1 : l.length = nt) (h2 : nt ≤ 576) : FrameRel nt ι (frV l Fr.new 0) tmps := by
  have := frame_ok (nt := nt) (A := tmps) h (by omega) h2
  have hs : tmps.size = nt := by rw [← h1, h.length, Array.length_toList]
  rw [hs, Nat.sub_self] at this
  simpa using this
theorem wp_run (hnum : ∀ g fn, P.funcs[g]? = some fn → prim g = none → fn.name ≠ "runtime.NumGoroutine") (hprim : ∀ g p, prim g = some p → PrimOk P G (fun g => (prim g).isSome) g p) {N n : Nat} {c : Code} {ι : Inj} {f : Fr} {h : H} {a : Act} {w : World} {k : Fr → H → RS} {r : RS}
    (nb : RS.bad ≠ r) (hr : (codeC ⟨P, G⟩ (fun g => (prim g).isSome) nt false c).run (callN ⟨P, G⟩ prim N n) N f h k = r) (hG : GlobOk G ι) (F : FrameRel nt ι f a.tmps) (S : Sim ι h w) (hd : a.defers = [])
    {Q : Exit → Act → World → Prop} (hQ : ∀ e a1 w1 f1 h1 ι1, Sim ι1 h1 w1 → FrameRel nt ι1 f1 a1.tmps → Grows ι h w ι1 h1 w1 → DefOk 0 ι1 w1 a1.defers → (match e with | .normal => k f1 h1 = r | .exit i => RS.ok (.exit i) f1 h1 = r | .goto l => RS.ok (.goto l) f1 h1 = r | .ret => RS.ok .ret f1 h1 = r | _ => False) → Q e a1 w1) : c.wp P Q a w := by
  refine wpIn_wide.1 (wpIn_mono (code_ok (lo := 0) (fr := none) (callN_ok hnum hprim N n) (fun _ => rfl) c nb hr hG F S (by rw [hd]; exact ⟨Nat.zero_le _, .nil⟩)) fun e a1 w1 hp => ?_)
  obtain ⟨f1, h1, ι1, S1, F1, g1, D1, he⟩ := hp
  exact hQ e a1 w1 f1 h1 ι1 S1 F1 g1 D1 he
theorem grows_below {ι ι1 : Inj} {h h1 : H} {w w1 : World} (g : Grows ι h w ι1 h1 w1) (hro : ∀ g, g < h.nx → ¬ (h.obj g).wr) : RowKit.Below w.heap.size w w1 :=
  ⟨g.streams.1, g.streams.2.1, g.streams.2.2, g.size, fun k hk => g.keep k hk fun g' s l hg hw _ => absurd hw (hro g' hg)⟩
end
/-! ### A function whose first two regions are walked, the rest of which the interpreter runs -/
section
variable {P : Program} {G : Nat → AV} {prim : FuncId → Option FnC}
def runRest (T : Ty) (prim : FuncId → Option FnC) (N n nt : Nat) (rs : List ResultVar) (c : Code) (l : List AV) (h : H) : R2 :=
  frameOf l Fr.new 0 fun f => onRS ((codeC T (fun g => (prim g).isSome) nt false c).run (callN T prim N n) N f h fun f h => .ok .ret f h) (fun e f h => onE e .bad (fun _ => .bad) (fun _ => .bad) ((resC T nt rs).run f h fun v => .ok v h)) .bad
theorem rest_true (hnum : ∀ g fn, P.funcs[g]? = some fn → prim g = none → fn.name ≠ "runtime.NumGoroutine") (hprim : ∀ g p, prim g = some p → PrimOk P G (fun g => (prim g).isSome) g p) {g : FuncId} {fn : Func} {r0 r1 rest : Code}
    (hf : P.funcs[g]? = some fn) (hb : fn.body = some (.seq r0 (.seq r1 rest))) {ι : Inj} {h0 : H} {w : World} (hG : GlobOk G ι) (S : Sim ι h0 w) (hro : ∀ g, g < h0.nx → ¬ (h0.obj g).wr) {args tmps : Array Value} {l : List AV} (N n : Nat)
    (hpre : r0.wp P (Exit.then (fun a w1 => r1.wp P (Exit.then (fun a w2 => a = ⟨tmps, []⟩ ∧ w2 = w) (fun _ _ _ => False)) a w1) (fun _ _ _ => False)) { tmps := args ++ Array.replicate (fn.ntmps - args.size) undef, defers := [] } w)
    (hl : RVL ι l tmps.toList) (hlen : l.length = fn.ntmps) (hmost : fn.ntmps ≤ 576) {h1 : H} (hrun : runRest ⟨P, G⟩ prim N n fn.ntmps fn.results.toList rest l h0 = .ok (.bool true) h1) :
    Calls P g args w fun e w1 => e = .returned (.bool true) ∧ RowKit.Below w.heap.size w w1 := by
  have hcall := callN_ok (P := P) (G := G) hnum hprim N n
  have nb : R2.bad ≠ R2.ok (.bool true) h1 := fun hh => by cases hh
  unfold runRest at hrun
  rw [frameOf_eq] at hrun
  obtain ⟨e0, f0, h0', ec, hr⟩ := onRS_inv hrun nb
  rw [onE_def] at hr
  have he0 : e0 = .ret := by cases e0 <;> first | rfl | exact absurd hr nb
  subst he0
  have F := frame_of hl hlen hmost
  refine Calls.mono ((callsIn_wd (rd := none) (n := 0)).1 (callsIn_of_wp_marks hf hb trivial (wpIn_seq (wpIn_mono (wpIn_wide.2 hpre) fun e a1 w1 hp => ?_)))) (R := RetPost ι h0 w (.bool true) h1) fun e w1 he => ?_
  · have he : e = .normal := by cases e <;> first | rfl | exact hp.elim
    subst he
    refine wpIn_seq (wpIn_mono (wpIn_wide.2 (show r1.wp P _ a1 w1 from hp)) fun e a1 w1 hp => ?_)
    have he : e = .normal := by cases e <;> first | rfl | exact hp.elim
    subst he
    obtain ⟨rfl, e3⟩ := (show a1 = ⟨tmps, []⟩ ∧ w1 = w from hp)
    rw [e3]
    refine wpIn_mono (code_ok (lo := w.heap.size) (fr := none) hcall (fun _ => rfl) rest (fun hh => by cases hh) ec hG F S ⟨Nat.le_refl _, .nil⟩) fun e a1 w1 hp => ?_
    obtain ⟨f1, h1', ι1, S1, F1, g1, D1, he⟩ := hp
    have fin : RS.ok .ret f1 h1' = RS.ok .ret f0 h0' → LeavesInM (Wd none) 0 P fn a1.tmps (RetPost ι h0 w (.bool true) h1) a1.defers .returning w1 := by
      intro he
      injection he with q1 q2 q3
      subst q2 q3
      refine leave_ok a1.defers w1 S1 g1 D1.2 fun w2 S2 g2 => ?_
      obtain ⟨u, v, e1, e2, e3⟩ := results_ok (P := P) (w := w2) (fn := fn) (k := fun v => R2.ok v h1') nb F1 S2 hr
      injection e3 with q4 q5
      subst q4 q5
      exact ⟨u, e1, u, rfl, ι1, S2, e2, g2⟩
    cases e with
    | normal => exact fin he
    | ret => exact fin he
    | exit i => cases he
    | goto l => cases he
    | panic _ => exact he.elim
    | outgrown => exact he.elim
  · obtain ⟨u, rfl, ι1, S1, hv, g1⟩ := he
    exact ⟨by rw [rv_bool hv], grows_below g1 hro⟩
end
end
end Go.Proofs.YtgonoigdjafikaaGreatDoor.AI

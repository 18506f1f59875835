/- Proved: Every operation that is no call of a function value: the interpreter is sound. Conditions: none. -/
import Derived.Test.YtenpnejkgopghaaDoorAkO
set_option maxRecDepth 100000
set_option linter.unusedVariables false
set_option linter.unusedSimpArgs false
set_option linter.unusedSectionVars false
namespace Go.Proofs.YtenpnejkgopghaaDoor.AK
open Go
noncomputable section
variable [Env]
/-! ### The rest of the operations -/
section
variable {P : Program} {RT : List Rule} {ι : Inj} {h : H} {w : World} {β : Type} {s r : β} {G : Nat → AV}
theorem zeroL_inv {t : TypeId} {z : List AV} (hz : (Ty.mk P G RT).zeroL t = some z) : ∃ i zv, P.info? t = some i ∧ i.zero = some zv ∧ z = zv.cells.toList.map AV.ofV1 := by
  unfold Ty.zeroL at hz
  cases hi : P.info? t with
  | none => simp [hi] at hz
  | some i =>
    cases hv : i.zero with
    | none => simp [hi, hv] at hz
    | some zv =>
      simp [hi, hv] at hz
      exact ⟨i, zv, rfl, hv, hz.symm⟩
theorem zero_inv {t : TypeId} {z : AV} (hz : (Ty.mk P G RT).zero t = some z) : ∃ i zv, P.info? t = some i ∧ i.zero = some zv ∧ z = AV.ofV zv := by
  unfold Ty.zero at hz
  cases hi : P.info? t with
  | none => simp [hi] at hz
  | some i =>
    cases hv : i.zero with
    | none => simp [hi, hv] at hz
    | some zv =>
      simp [hi, hv] at hz
      exact ⟨i, zv, rfl, hv, hz.symm⟩
theorem known_inv {t : TypeId} (hk : (Ty.mk P G RT).known t = true) : ∃ i, P.info? t = some i := by
  unfold Ty.known at hk
  cases hi : P.info? t with
  | none => simp [hi] at hk
  | some i => exact ⟨i, rfl⟩
theorem size_eq_of {t : TypeId} {i : TypeInfo} (hi : P.info? t = some i) : (Ty.mk P G RT).size t = i.size := by simp [Ty.size, hi]
theorem bytes_eq_of {t : TypeId} {i : TypeInfo} (hi : P.info? t = some i) : (Ty.mk P G RT).bytes t = i.bytes := by simp [Ty.bytes, hi]
theorem loadAt_ok {t : TypeId} {b : Bool} (hb : (Ty.mk P G RT).aggB t = some b) {p : AV} {u : Value} {k : AV → β} (hr : ifB b (loadA ((Ty.mk P G RT).size t) p h k s) (load1 p h k s) = r) (n : s ≠ r) (S : Sim ι h w) (hp : RV ι p u) :
    ∃ v cv, (Instr.loadAt t u).run P w = .ok v w ∧ RV ι cv v ∧ k cv = r := by
  obtain ⟨h1, i, h2, h3⟩ := aggB_run (P := P) (w := w) hb
  cases b with
  | true =>
    obtain ⟨a, vs, l, rfl, e1, e2, e3, e4⟩ := loadA_sound (P := P) (hr : loadA _ p h k s = r) n S hp
    rw [h3] at e1
    exact ⟨.agg vs, .agg l, by simp only [Instr.loadAt, Instr.sureAddr, loadVar, Sem.run_bind, Sem.run_pure, Result.andThen, h1, if_true, sizeOf_run h2, e1], .agg e2, e4⟩
  | false =>
    obtain ⟨a, v, cv, rfl, e1, e2, e3⟩ := load1_sound (P := P) (hr : load1 p h k s = r) n S hp
    exact ⟨v, cv, by simp only [Instr.loadAt, Instr.sureAddr, loadVar, Sem.run_bind, Sem.run_pure, Result.andThen, h1, Bool.false_eq_true, if_false, e1], e2, e3⟩
theorem storeAt_ok {t : TypeId} (hk : (Ty.mk P G RT).known t = true) {p v : AV} {pu vu : Value} {k : H → β} (hr : v.cellsK (fun l => storeN p l ((Ty.mk P G RT).size t) h k s) s = r) (n : s ≠ r) (S : Sim ι h w) (hp : RV ι p pu) (hv : RV ι v vu) :
    ∃ w' h', (Instr.storeAt t pu vu).run P w = .ok () w' ∧ Sim ι h' w' ∧ Grows ι h w ι h' w' ∧ k h' = r := by
  obtain ⟨i, hi⟩ := known_inv hk
  obtain ⟨l, hl, hr⟩ := cellsK_ok hr n hv
  obtain ⟨a, w', h', rfl, e1, e2, e3, e4, e5⟩ := storeN_sound (P := P) hr n S hp hl
  rw [size_eq_of hi] at e1
  refine ⟨w', h', ?_, e3, e4, e5⟩
  have e1' : vu.cells.size = i.size := by rw [← e1, Array.length_toList]
  simp only [Instr.storeAt, Instr.sureAddr, storeVar, Sem.run_bind, Sem.run_pure, Result.andThen, sizeOf_run hi, e1', ne_eq, not_true, if_false, e2]
theorem mapM_run {α γ : Type} {f : α → Sem γ} {g : α → γ} : ∀ (l : List α), (∀ x ∈ l, (f x).run P w = .ok (g x) w) → (l.mapM f).run P w = .ok (l.map g) w
  | [], _ => by simp [Sem.run_pure]
  | x :: l, hx => by
    rw [List.mapM_cons]
    simp only [Sem.run_bind, hx x (List.mem_cons_self ..), Result.andThen, mapM_run l (fun y hy => hx y (List.mem_cons_of_mem _ hy)), Sem.run_pure, List.map_cons]
theorem mapMA_run {α γ : Type} {f : α → Sem γ} {g : α → γ} (A : Array α) (hx : ∀ x ∈ A.toList, (f x).run P w = .ok (g x) w) : (A.mapM f).run P w = .ok (A.map g) w := by
  rw [Array.mapM_eq_mapM_toList]
  show (List.toArray <$> List.mapM f A.toList).run P w = _
  rw [map_eq_pure_bind]
  simp only [Sem.run_bind, mapM_run A.toList hx, Result.andThen, Sem.run_pure]
  congr 1
  apply Array.ext'
  simp
theorem build_struct_ok {t : TypeId} {fs : Array Field} {i : TypeInfo} {zv : Value} (ht : P.underlying t = some (.struct fs)) (hi : P.info? t = some i) (hz : i.zero = some zv) (hk : (fs.toList.all fun d => (Ty.mk P G RT).known d.type) = true) {ps : List (Nat × AV)} {us : Array (Nat × Value)} {k : List AV → β}
    (hr : fillA (fun i => (fs[i]?).map fun d => (d.offset, (Ty.mk P G RT).size d.type)) ps (zv.cells.toList.map AV.ofV1) k s = r) (n : s ≠ r) (hps : RVP ι ps us.toList) : ∃ u l, (Instr.build t us).run P w = .ok (.agg u) w ∧ RVL ι l u.toList ∧ k l = r := by
  obtain ⟨l, C', e1, e2, e3⟩ := fillA_ok ps us.toList _ zv.cells k hr n hps (ofVL_rv ι _)
  refine ⟨C', l, ?_, e2, e3⟩
  have hm : (fs.mapM fun f => do pure (f.offset, ← Go.sizeOf f.type) : Sem (Array (Nat × Nat))).run P w = .ok (fs.map fun d => (d.offset, (Ty.mk P G RT).size d.type)) w := mapMA_run fs fun d hd => by
    obtain ⟨j, hj⟩ := known_inv (List.all_eq_true.1 hk d hd)
    simp only [Sem.run_bind, sizeOf_run hj, Result.andThen, Sem.run_pure, size_eq_of hj]
  have hpl : (fun i => (fs.map fun (d : Field) => (d.offset, (Ty.mk P G RT).size d.type))[i]?) = fun (i : Nat) => (fs[i]?).map fun (d : Field) => (d.offset, (Ty.mk P G RT).size d.type) := by
    funext i; rw [Array.getElem?_map]
  simp only [Instr.build, Sem.run_bind, zeroValue_run hi hz, Result.andThen, underlying_run ht, hm, hpl, e1, Sem.run_pure]
theorem build_array_ok {t e : TypeId} {len : Nat} {i : TypeInfo} {zv : Value} (ht : P.underlying t = some (.array len e)) (hi : P.info? t = some i) (hz : i.zero = some zv) (hk : (Ty.mk P G RT).known e = true) {ps : List (Nat × AV)} {us : Array (Nat × Value)} {k : List AV → β}
    (hr : fillA (fun i => some (Nat.mul i ((Ty.mk P G RT).size e), (Ty.mk P G RT).size e)) ps (zv.cells.toList.map AV.ofV1) k s = r) (n : s ≠ r) (hps : RVP ι ps us.toList) : ∃ u l, (Instr.build t us).run P w = .ok (.agg u) w ∧ RVL ι l u.toList ∧ k l = r := by
  obtain ⟨l, C', e1, e2, e3⟩ := fillA_ok ps us.toList _ zv.cells k hr n hps (ofVL_rv ι _)
  refine ⟨C', l, ?_, e2, e3⟩
  obtain ⟨j, hj⟩ := known_inv hk
  rw [size_eq_of hj] at e1
  have e1' : Instr.fill (fun i => some (i * j.size, j.size)) zv.cells us.toList = some C' := e1
  simp only [Instr.build, Sem.run_bind, zeroValue_run hi hz, Result.andThen, underlying_run ht, sizeOf_run hj, e1', Sem.run_pure]
theorem newVar_okT {vs : List AV} {u : Value} {q : Nat} {k : AV → H → β} (hr : newCells h vs (fun g n h => k (.ptr g 0 0 n) h) s q = r) (n : s ≠ r) (S : Sim ι h w) (hv : RVL ι vs u.cells.toList) (t : TypeId) (hq : q = 0 ∨ q = 2 * t + 1 ∨ q = 2 * t + 2) :
    ∃ a w', (newVar t u).run P w = .ok a w' ∧ PostK ι h w k r (.pointer (some a)) w' := by
  obtain ⟨g, h', ι', e1, e2, e3, e4⟩ := newCells_soundT (el := t) hr n S hv hq
  have hl1 := hv.length
  have hl2 : u.cells.toList.length = u.cells.size := Array.length_toList
  exact ⟨_, _, rfl, _, h', ι', e1, e2, .ptr e4 (Nat.zero_le _) (Nat.le_refl _) rfl (by show (vs.length : Int) + 0 ≤ (u.cells.size : Int); omega), e3⟩
theorem newVar_ok {vs : List AV} {u : Value} {k : AV → H → β} (hr : newCells h vs (fun g n h => k (.ptr g 0 0 n) h) s = r) (n : s ≠ r) (S : Sim ι h w) (hv : RVL ι vs u.cells.toList) (t : TypeId) :
    ∃ a w', (newVar t u).run P w = .ok a w' ∧ PostK ι h w k r (.pointer (some a)) w' := newVar_okT hr n S hv t (.inl rfl)
theorem buildSlice_ok {t e : TypeId} {len : Nat} {i : TypeInfo} {zv : Value} (ht : P.underlying t = some (.slice e)) (hi : P.info? e = some i) (hz : i.zero = some zv) (hzs : zv.cells.size = i.size) (hbig : len * i.size ≤ 1000000) {ps : List (Nat × AV)} {us : Array (Nat × Value)} {k : AV → H → β}
    (hr : fillA (fun j => some (Nat.mul j i.size, i.size)) ps (replA len (zv.cells.toList.map AV.ofV1)) (fun l => newSlice h l i.size len (some len) k s) s = r) (n : s ≠ r) (S : Sim ι h w) (hps : RVP ι ps us.toList) : ∃ u w', (Instr.buildSlice t len us).run P w = .ok u w' ∧ PostK ι h w k r u w' := by
  have hrep : RVL ι (replA len (zv.cells.toList.map AV.ofV1)) ((Array.range (len * zv.cells.size)).map (fun i => zv.cells[i % zv.cells.size]!)).toList := repl_ok (ofVL_rv ι _) len
  have hrow : (Array.range (len * i.size)).map (fun j => (if len * i.size = 0 then #[] else zv.cells)[j % (if len * i.size = 0 then #[] else zv.cells).size]!) = (Array.range (len * zv.cells.size)).map (fun i => zv.cells[i % zv.cells.size]!) := by
    by_cases h0 : len * i.size = 0
    · rw [hzs, h0]; simp
    · simp only [if_neg h0, hzs]
  obtain ⟨l, C', e1, e2, e3⟩ := fillA_ok ps us.toList _ _ _ hr n hps hrep
  have e1' : Instr.fill (fun j => some (j * i.size, i.size)) ((Array.range (len * i.size)).map (fun j => (if len * i.size = 0 then #[] else zv.cells)[j % (if len * i.size = 0 then #[] else zv.cells).size]!)) us.toList = some C' := by rw [hrow]; exact e1
  have hl : l.length = len * i.size := by
    have h1 := e2.length
    have h2 : ∀ (us : List (Nat × Value)) (C C' : Array Value) (pl), Instr.fill pl C us = some C' → C'.size = C.size := by
      intro us
      induction us with
      | nil => intro C C' pl hh; cases hh; rfl
      | cons p us ih =>
        intro C C' pl hh
        rw [Instr.fill] at hh
        split at hh
        · cases hh
        · split at hh
          · cases hh
          · rw [ih _ _ _ hh, foldl_zipA, putL_size]
    have h3 := h2 _ _ _ _ e1
    have h4 : C'.toList.length = C'.size := Array.length_toList
    rw [h1, h4, h3]; simp [hzs]
  obtain ⟨w', e4, e5⟩ := newSlice_ok (P := P) e3 n S e2 (Nat.le_refl _) hl e
  refine ⟨_, w', ?_, e5⟩
  have hno : ¬ (len * i.size > 2 ^ 24) := by omega
  by_cases h0 : len * i.size = 0
  · simp only [if_pos h0] at e1'
    simp only [Instr.buildSlice, Sem.run_bind, underlying_run ht, Result.andThen, sizeOf_run hi, if_neg hno, if_pos h0, Sem.run_pure, e1', e4]
  · simp only [if_neg h0] at e1'
    simp only [Instr.buildSlice, Sem.run_bind, underlying_run ht, Result.andThen, sizeOf_run hi, if_neg hno, if_neg h0, Sem.run_pure, zeroValue_run hi hz, e1', e4]
theorem makeSlice_ok {t e : TypeId} {i : TypeInfo} {zv : Value} (ht : P.underlying t = some (.slice e)) (hi : P.info? e = some i) (hz : i.zero = some zv) (hzs : zv.cells.size = i.size) (hb : i.bytes ≤ 1000000) {l c : Nat} (hl : l ≤ c) (hc : c ≤ 1000000) {q1 q2 : IntKind} {k : AV → H → β}
    (hr : newSlice h (replA c (zv.cells.toList.map AV.ofV1)) i.size l (some c) k s = r) (n : s ≠ r) (S : Sim ι h w) : ∃ u w', (Instr.makeSlice t (.int q1 (l : Int)) (.int q2 (c : Int))).run P w = .ok u w' ∧ PostK ι h w k r u w' := by
  have hrep : RVL ι (replA c (zv.cells.toList.map AV.ofV1)) ((Array.range (c * zv.cells.size)).map (fun i => zv.cells[i % zv.cells.size]!)).toList := repl_ok (ofVL_rv ι _) c
  have hrow : (Array.range (c * i.size)).map (fun j => (if c * i.size = 0 then #[] else zv.cells)[j % (if c * i.size = 0 then #[] else zv.cells).size]!) = (Array.range (c * zv.cells.size)).map (fun i => zv.cells[i % zv.cells.size]!) := by
    by_cases h0 : c * i.size = 0
    · rw [hzs, h0]; simp
    · simp only [if_neg h0, hzs]
  have hlen : (replA c (zv.cells.toList.map AV.ofV1)).length = c * i.size := by
    have := hrep.length
    rw [this]; simp [hzs]
  obtain ⟨w', e4, e5⟩ := newSlice_ok (P := P) hr n S hrep hl hlen e
  refine ⟨_, w', ?_, e5⟩
  have w1 : IntKind.wrap .i64 (l : Int) = (l : Int) := by rw [← wrap64_ok]; unfold wrap64A; rw [show fits64 (l : Int) = true from Nat.ble_eq_true_of_le (by omega)]
  have w2 : IntKind.wrap .i64 (c : Int) = (c : Int) := by rw [← wrap64_ok]; unfold wrap64A; rw [show fits64 (c : Int) = true from Nat.ble_eq_true_of_le (by omega)]
  have hbc : i.bytes * c ≤ 1000000 * 1000000 := Nat.mul_le_mul hb hc
  have t1 : ¬ ((i.bytes : Int) * (c : Int) > 2 ^ 48) := by
    have : ((i.bytes * c : Nat) : Int) ≤ ((1000000 * 1000000 : Nat) : Int) := Int.ofNat_le.2 hbc
    rw [Int.natCast_mul] at this
    omega
  simp only [Instr.makeSlice, Sem.run_bind, underlying_run ht, Result.andThen, asInt, asIntOf, Sem.run_pure, typeInfo_run hi, w1, w2]
  have t2 : (decide ((c : Int) < 0) || decide ((i.bytes : Int) * (c : Int) > 2 ^ 48) || decide ((l : Int) < 0) || decide ((l : Int) > (c : Int))) = false := by
    simp only [Bool.or_eq_false_iff, decide_eq_false_iff_not]
    refine ⟨⟨⟨by omega, t1⟩, by omega⟩, by omega⟩
  by_cases h0 : c * i.size = 0
  · simp only [if_pos h0] at hrow
    simp only [t2, Bool.false_eq_true, if_false, Sem.run_bind, run_askRoom, Result.andThen, sizeOf_run hi, Int.toNat_natCast, if_pos h0, Sem.run_pure, hrow, e4]
  · simp only [if_neg h0] at hrow
    simp only [t2, Bool.false_eq_true, if_false, Sem.run_bind, run_askRoom, Result.andThen, sizeOf_run hi, Int.toNat_natCast, if_neg h0, Sem.run_pure, zeroValue_run hi hz, hrow, e4]
end
/-! ### Copies, conversions, built-in functions -/
section
variable {P : Program} {RT : List Rule} {ι : Inj} {h : H} {w : World} {β : Type} {s r : β} {G : Nat → AV}
theorem copy_ok {ts : Array TypeId} {ty t e : TypeId} {i : TypeInfo} {args : Array Value} (h0 : ts[0]? = some t) (ht : P.underlying t = some (.slice e)) (hi : P.info? e = some i) {d x : AV} {dv xv : Value} {k : AV → H → β} (ha0 : args[0]? = some dv) (ha1 : args[1]? = some xv)
    (hr : copyA i.size d x h k s = r) (n : s ≠ r) (S : Sim ι h w) (hd : RV ι d dv) (hx : RV ι x xv) : ∃ u w', (Builtin.copy_ ts ty args).run P w = .ok u w' ∧ PostK ι h w k r u w' := by
  unfold copyA at hr
  obtain ⟨m, hlen, hr⟩ := lenA_ok (P := P) (w := w) hr n hx
  rcases AV.onSlNul_inv hr n with ⟨g, ep, j, len, cap, zz, ex, hr⟩ | ⟨t', ex, hr⟩
  · subst ex
    obtain ⟨ezz, h9⟩ := eqN_inv hr n
    clear hr
    subst ezz
    simp only [forceN_eq, Nat.add_eq, Nat.mul_eq] at h9
    obtain ⟨us, vs, hus, hvs, hvl, h8⟩ := firstOf_ok (P := P) h9 n S hx
    cases hd with
    | @sl _ _ _ _ o c _ _ l hl a1 a2 a3 a4 a5 a6 a7 =>
    have e1 := hvs.length
    rcases eqN_cases h8 with ⟨hm, h7⟩ | ⟨hm, h7⟩
    · have hnil : us.toList = [] := List.length_eq_zero_iff.1 (by rw [← e1, hvl, show Nat.min m len = 0 from hm, Nat.zero_mul])
      refine ⟨_, w, ?_, PostK.same S h7 (.int _ _)⟩
      have hus' : (Builtin.firstCells i.size 0 xv).run P w = .ok us w := by
        have := hus w rfl
        rw [show Nat.min m len = 0 from hm] at this; exact this
      simp only [Builtin.copy_, h0, ha0, ha1, Sem.run_bind, underlying_run ht, Result.andThen, hlen, sizeOf_run hi, hus', hnil, storeCells, Sem.run_pure, show Nat.min m len = 0 from hm]
      rfl
    · have hmin : Nat.min m len ≤ len := Nat.min_le_right _ _
      have hmul : Nat.min m len * i.size ≤ len * i.size := Nat.mul_le_mul_right _ hmin
      have hio : (j : Int) + l.d = (o : Int) := by rcases a3 with q | q <;> omega
      obtain ⟨a, w', h', b1, b2, b3, b4, b5, b6⟩ := storeN_sound (P := P) h7 n S (.ptr hl a1 (by omega) hio (by have := Nat.mul_le_mul_right i.size a4; have := a5 (by omega); push_cast; omega)) hvs
      cases b1
      refine ⟨_, w', ?_, _, _, _, b6, b4, .int _ _, b5⟩
      simp only [Builtin.copy_, h0, ha0, ha1, Sem.run_bind, underlying_run ht, Result.andThen, hlen, sizeOf_run hi, hus w rfl, b3, Sem.run_pure]
      rfl
  · subst ex
    obtain ⟨hk, hr⟩ := ifB_inv hr n
    have := nkEq_inv hk
    subst this
    cases hd
    have hf : (Builtin.firstCells i.size 0 xv).run P w = .ok #[] w := by
      clear hx
      revert hlen
      cases xv with
      | string S' =>
        intro _
        simp only [Builtin.firstCells, Sem.run_pure]
        congr 1
        apply Array.ext'
        rw [Array.toList_map, extract_toList]; simp
      | slice b _ _ =>
        intro _
        cases b with
        | none => rfl
        | some a => simp only [Builtin.firstCells, loadCells, Nat.zero_mul, loadCellsFrom, Sem.run_pure]
      | _ => intro hlen; cases hlen
    refine ⟨_, w, ?_, PostK.same S hr (.int _ _)⟩
    simp only [Builtin.copy_, h0, ha0, ha1, Sem.run_bind, underlying_run ht, Result.andThen, hlen, sizeOf_run hi, show Nat.min m 0 = 0 from Nat.min_zero m, hf, Sem.run_pure]
    rfl
theorem push_enc (S : ByteArray) (b : UInt8) : (S.push b).size = S.size + 1 ∧ encS (S.push b) = encS S * 256 + b.toNat := by
  refine ⟨by simp [ByteArray.size_push], ?_⟩
  have : (S.push b).data.toList = S.data.toList ++ [b] := by simp
  rw [encS_eq, encS_eq, this, enc_append]; simp [enc_cons, enc_nil]
theorem bytesOf_ok {B : Value → ByteArray → Sem (ForInStep ByteArray)} (hB : ∀ n S, (B (.int .u8 n) S).run P w = .ok (.yield (S.push (UInt8.ofNat n.toNat))) w) {k : Nat → Nat → β} (n : s ≠ r) : ∀ (l : List AV) (us : List Value) (S : ByteArray), RVL ι l us → bytesOf l S.size (encS S) k s = r → ∃ S', (forIn us S B).run P w = .ok S' w ∧ k S'.size (encS S') = r
  | [], _, S, .nil, hr => ⟨S, by simp [Sem.run_pure], hr⟩
  | v :: l, u :: us, S, .cons hv hl, hr => by
    obtain ⟨t, b, ex, h1⟩ := AV.onInt_inv (hr : v.onInt (fun t b => kindEq t .u8 (onNat b (fun b => le b 255 (forceN (Nat.add (Nat.mul (encS S) 256) b) fun acc => forceN (Nat.succ S.size) fun n => bytesOf l n acc k s) s) s) s) s = r) n
    obtain ⟨h2, h3⟩ := eqN_inv h1 n
    obtain ⟨m, em, h4⟩ := onNat_inv h3 n
    obtain ⟨h5, h6⟩ := le_inv h4 n
    rw [forceN_eq, forceN_eq] at h6
    have := kindN_inj h2
    subst this ex em
    have := rv_int hv
    subst this
    obtain ⟨p1, p2⟩ := push_enc S (UInt8.ofNat m)
    have hm : (UInt8.ofNat m).toNat = m := by simp; omega
    rw [hm] at p2
    have h6' : bytesOf l (S.push (UInt8.ofNat m)).size (encS (S.push (UInt8.ofNat m))) k s = r := by rw [p1, p2]; exact h6
    obtain ⟨S', e1, e2⟩ := bytesOf_ok hB n l us _ hl h6'
    refine ⟨S', ?_, e2⟩
    rw [List.forIn_cons]
    simp only [Sem.run_bind, hB, Result.andThen, Int.toNat_natCast]
    exact e1
theorem bytesToString_ok {x : AV} {xv : Value} {k : AV → β} (hr : x.onSlNul (fun g ep i len c z => firstOf 1 len (.sl g ep i len c z) h (fun l => bytesOf l 0 0 (fun n u => k (.str n u)) s) s) (fun t => ifB (nkEq t .s) (k (.str 0 0)) s) s = r) (n : s ≠ r) (S : Sim ι h w) (hx : RV ι x xv) :
    ∃ u v, (Conv.bytesToString xv).run P w = .ok u w ∧ RV ι v u ∧ k v = r := by
  rcases AV.onSlNul_inv hr n with ⟨g, ep, i, len, cap, zz, ex, h1⟩ | ⟨t', ex, h1⟩
  · subst ex
    obtain ⟨us, vs, hus, hvs, hvl, h2⟩ := firstOf_ok (P := P) h1 n S hx
    cases hx with
    | @sl _ _ _ _ o c _ _ l hl a1 a2 a3 a4 a5 a6 a7 =>
    have h3 : bytesOf vs ByteArray.empty.size (encS ByteArray.empty) (fun n u => k (.str n u)) s = r := h2
    have hld : (loadCells ⟨l.b, o, none⟩ len).run P w = .ok us w := by have := hus w rfl; simpa only [Builtin.firstCells, Nat.mul_one] using this
    obtain ⟨S', e1, e2⟩ := bytesOf_ok (P := P) (w := w) (B := fun c s' => (match c with
      | .int .u8 n => pure (.yield (s'.push (UInt8.ofNat n.toNat)))
      | _ => stuck "bytesToString: byte expected")) (fun n S => rfl) n vs us.toList _ hvs h3
    refine ⟨.string S', _, ?_, .str S', e2⟩
    simp only [Conv.bytesToString, Sem.run_bind, hld, Result.andThen]
    rw [← Array.forIn_toList]
    have e1' := e1
    have : ∀ {B1 B2 : Value → ByteArray → Sem (ForInStep ByteArray)}, (∀ c s', B1 c s' = B2 c s') → (forIn us.toList ByteArray.empty B1) = (forIn us.toList ByteArray.empty B2) := fun hh => by congr 1; funext c s'; exact hh c s'
    rw [this (B2 := fun c s' => (match c with
      | .int .u8 n => pure (.yield (s'.push (UInt8.ofNat n.toNat)))
      | _ => stuck "bytesToString: byte expected")) ?_, e1]
    · simp only [Sem.run_pure]
    · intro c s'
      cases c with
      | int k _ => cases k <;> rfl
      | _ => rfl
  · subst ex
    obtain ⟨hk, h2⟩ := ifB_inv h1 n
    have := nkEq_inv hk
    subst this
    cases hx
    exact ⟨.string .empty, _, rfl, .str ByteArray.empty, h2⟩
theorem stringToBytes_ok {x : AV} {xv : Value} {e : TypeId} {k : AV → H → β} (hr : x.onStr (fun n u => byteCells n u [] fun l => layCells l CT.new 0 fun c m => h.new (.cells c m 0 0 1) (fun g h => k (.sl g 0 0 n none 1) h) s) s = r) (n : s ≠ r) (S : Sim ι h w) (hx : RV ι x xv) :
    ∃ S', xv = .string S' ∧ ∃ u w', (Conv.stringToBytes e S').run P w = .ok u w' ∧ PostK ι h w k r u w' := by
  obtain ⟨nn, u, ex, h1⟩ := AV.onStr_inv hr n
  subst ex
  obtain ⟨S', rfl, rfl, rfl⟩ := rv_str hx
  refine ⟨S', rfl, ?_⟩
  have hl := size_eq S'
  have h2 : byteCells S'.data.toList.length (enc S'.data.toList) [] (fun l => layCells l CT.new 0 fun c m => h.new (.cells c m 0 0 1) (fun g h => k (.sl g 0 0 S'.size none 1) h) s) = r := by rw [hl, ← encS_eq]; exact h1
  rw [byteCells_eq, layCells_eq, H.new_eq] at h2
  split at h2
  · rename_i hn
    generalize hvs : List.map (fun b : UInt8 => AV.int IntKind.u8 ((b.toNat : Nat) : Int)) S'.data.toList ++ [] = vs at h2
    have hvl : vs.length = S'.size := by rw [← hvs]; simp
    have hcv : vs = List.map (fun b : UInt8 => AV.int IntKind.u8 ((b.toNat : Nat) : Int)) S'.data.toList := by rw [← hvs]; simp
    generalize hcap : (Question.appendCap S'.size 0 e).cut (w.tape w.drawn (Question.appendCap S'.size 0 e)) = cap
    have hcap1 : S'.size ≤ cap := by rw [← hcap]; exact Nat.le_add_right _ _
    have hq : (choose (Question.appendCap S'.size 0 e)).run P w = .ok cap { w with drawn := w.drawn + 1 } := by
      rw [run_choose, if_neg (by simp [Question.forced]), hcap]
    generalize hX : (S'.data.map fun b => Value.int .u8 b.toNat) ++ Array.replicate (cap - S'.size) (Value.int .u8 0) = X
    have hss : S'.data.size = S'.size := rfl
    have hXs : X.size = cap := by rw [← hX, Array.size_append, Array.size_map, Array.size_replicate]; omega
    have hrow : RVL ι vs (S'.data.toList.map fun b => Value.int .u8 (b.toNat : Nat)) := by rw [hcv]; exact bytes_rvl ι _
    have hw2 : ({ w with drawn := w.drawn + 1, heap := (w.heap.push (.cells X e)).setIfInBounds w.heap.size (.cells X e (cap, cap + 1)) } : World) = { w with heap := w.heap.push (.cells X e (cap, cap + 1)), drawn := w.drawn + 1 } := by
      congr 1
      apply Array.ext
      · simp
      · intro j h1 h2
        rw [Array.getElem_setIfInBounds (hj := by simpa using h2)]
        rw [Array.getElem_push, Array.getElem_push]
        have : j < w.heap.size + 1 := by simpa using h2
        by_cases hj : j < w.heap.size
        · rw [if_neg (by omega), dif_pos hj, dif_pos hj]
        · rw [if_pos (by omega), dif_neg hj]
    obtain ⟨a, b⟩ := S.newBlock (mk := 1) (w' := { w with heap := w.heap.push (.cells X e (cap, cap + 1)), drawn := w.drawn + 1 }) hn (c := layL vs CT.new 0) (len := vs.length) (X := X) (el := e) (fr := (cap, cap + 1)) layL_new.1 rfl (fun hh => by cases hh) (fun _ j hj => by rw [hXs] at hj; simp; omega)
      (fun j hj => by
        obtain ⟨x, hx, hr'⟩ := hrow.get j hj
        refine ⟨x, ?_, by rw [layL_new.2 j hj]; exact hr'⟩
        have e1 : (S'.data.toList.map fun b => Value.int .u8 (b.toNat : Nat))[j]? = some x := hx
        rw [← hX, Array.getElem?_append_left (by simp; omega), Array.getElem?_map]
        rw [List.getElem?_map, Array.getElem?_toList] at e1
        exact e1) (.inl (layL_el _ _ _))
    refine ⟨.slice (some ⟨w.heap.size, 0, none⟩) S'.size cap, { w with heap := w.heap.push (.cells X e (cap, cap + 1)), drawn := w.drawn + 1 }, ?_, _, _, _, (by simpa using h2 : k (.sl h.nx 0 0 S'.size none 1) (h.newv (.cells (layL vs CT.new 0) vs.length 0 0 1)) = r), a, ?_, b⟩
    · simp only [Conv.stringToBytes, Sem.run_bind, hq, Result.andThen, hX, newRow, newObj, Sem.run, markStringish, shape, Sem.run_pure]
      have hsh : ({ w with drawn := w.drawn + 1, heap := w.heap.push (.cells X e) } : World).shape? w.heap.size = some (e, cap) := by
        rw [← hXs]; exact shape_of (C := X) (el := e) (fr := (0, 0)) (by simp)
      simp only [hsh, freeze, Sem.run]
      congr 1
      rw [← hw2]
      simp only [World.freeze, if_neg (by decide : ¬ (1 = 0))]
      congr 1
      apply Array.ext
      · simp
      · intro j h1 h2
        rw [Array.getElem_modify, Array.getElem_setIfInBounds (hj := by simpa using h2)]
        split
        · rename_i e; subst e; simp
        · rfl
    · exact RV.sl (l := ⟨w.heap.size, 0, 0, vs.length, X.size, undef⟩) (Inj.add_same _ _ _ _) (Nat.zero_le _) (by show 0 + S'.size * 1 ≤ vs.length; omega) (.inl rfl) hcap1 (fun _ => by show 0 + cap * 1 ≤ X.size; omega) (fun q hq => by cases hq) (fun _ => by show vs.length ≤ 0 + cap * 1; omega)
  · exact absurd h2 n
theorem encode_ascii : ∀ (m : Nat), m ≤ 127 → Utf8.encode (m : Int) = ⟨#[UInt8.ofNat m]⟩ := by
  intro m hm
  have : ∀ m : Fin 128, Utf8.encode ((m.val : Nat) : Int) = ⟨#[UInt8.ofNat m.val]⟩ := by decide
  exact this ⟨m, by omega⟩
theorem seenAt_run {b o : Nat} {C : Array Value} {el : TypeId} {fr : Nat × Nat} (hb : w.heap[b]? = some (.cells C el fr)) : (Conv.seenAt ⟨b, o, none⟩).run P w = .ok ⟨b, o, none⟩ w := by
  simp only [Conv.seenAt, viewAt, Go.shape, Sem.run_bind, Sem.run, shape_of hb, Result.andThen, Option.isSome_some, if_true, Sem.run_pure]
theorem cellsIn_run {b : Nat} {C : Array Value} {el : TypeId} {fr : Nat × Nat} (hb : w.heap[b]? = some (.cells C el fr)) : (cellsIn b).run P w = .ok (some C.size) w := by
  simp only [cellsIn, Go.shape, Sem.run_bind, Sem.run, shape_of hb, Result.andThen, Sem.run_pure]
theorem variablesAt_run {b o : Nat} {C : Array Value} {el : TypeId} {fr : Nat × Nat} (hb : w.heap[b]? = some (.cells C el fr)) (u : TypeId) (m : Nat) : (variablesAt ⟨b, o, none⟩ u m).run P w = .ok (liesAt P P.depth el (C.size / P.cellsOf el) o u m) w := by
  simp only [variablesAt, program, Go.shape, Sem.run_bind, Sem.run, shape_of hb, Result.andThen, Sem.run_pure]
theorem convC_ok {src dst : TypeId} {x : EvC} {call : CallT} {f : Fr} {xv : Value} {k : AV → H → β} (hr : (convC ⟨P, G, RT⟩ src dst x).run β call f h k s = r) (n : s ≠ r) (S : Sim ι h w) (hx : RV ι (x.run f) xv) : ∃ u w', (convert src dst xv).run P w = .ok u w' ∧ PostK ι h w k r u w' ∧ ((∀ e, P.underlying dst ≠ some (.slice e)) → w' = w ∧ ∃ v, RV ι v u ∧ k v h = r) := by
  unfold convC at hr
  have run0 : ∀ {d1 d2 : TypeDesc}, P.underlying dst = some d1 → P.underlying src = some d2 → ∀ {m : Sem Value}, convert src dst xv = (do let a ← underlying src; let b ← underlying dst; m) → True := fun _ _ _ _ => trivial
  cases hd : P.underlying dst with
  | none => simp only [hd] at hr; exact absurd hr n
  | some d =>
    cases hs : P.underlying src with
    | none => cases d <;> simp only [hd, hs] at hr <;> exact absurd hr n
    | some sd =>
      have hpre : convert src dst xv = convert src dst xv := rfl
      cases d with
      | int t =>
        simp only [hd, hs] at hr
        obtain ⟨q, a, ex, h1⟩ := AV.onInt_inv hr n
        rw [forceI_eq, wrapC_ok] at h1
        rw [ex] at hx
        rw [rv_int hx]
        exact ⟨_, w, by simp only [convert, Sem.run_bind, underlying_run hd, underlying_run hs, Result.andThen, Conv.intToInt, Sem.run_pure], PostK.same S h1 (.int _ _), fun _ => ⟨rfl, _, .int _ _, h1⟩⟩
      | string =>
        have other : (⟨fun _ _ f h k s => (x.run f).onStrInt (fun n u => k (.str n u) h) (fun _ n => onNat n (fun n => le n 127 (k (.str 1 n) h) s) s) s⟩ : OpC).run β call f h k s = r → ∃ u w', (convert src dst xv).run P w = .ok u w' ∧ PostK ι h w k r u w' ∧ ((∀ e, some TypeDesc.string ≠ some (.slice e)) → w' = w ∧ ∃ v, RV ι v u ∧ k v h = r) := fun hr => by
          rcases AV.onStrInt_inv hr n with ⟨m, u, ex, h1⟩ | ⟨q, a, ex, h1⟩
          · rw [ex] at hx
            obtain ⟨S', rfl, rfl, rfl⟩ := rv_str hx
            refine ⟨.string S', w, ?_, PostK.same S h1 (.str S'), fun _ => ⟨rfl, _, .str S', h1⟩⟩
            simp only [convert, Sem.run_bind, underlying_run hd, underlying_run hs, Result.andThen, Sem.run_pure]
          · obtain ⟨m, em, h2⟩ := onNat_inv h1 n
            obtain ⟨h3, h4⟩ := le_inv h2 n
            rw [ex] at hx
            rw [rv_int hx]
            subst em
            have h3' : m ≤ 127 := h3
            have e2 : encS ⟨#[UInt8.ofNat m]⟩ = m := by
              rw [encS_eq]; show enc [UInt8.ofNat m] = m
              simp [enc_cons, enc_nil]; omega
            have hrv : RV ι (.str 1 m) (.string ⟨#[UInt8.ofNat m]⟩) := by have := RV.str (ι := ι) ⟨#[UInt8.ofNat m]⟩; rw [e2] at this; exact this
            refine ⟨.string ⟨#[UInt8.ofNat m]⟩, w, ?_, PostK.same S h4 hrv, fun _ => ⟨rfl, _, hrv, h4⟩⟩
            simp only [convert, Sem.run_bind, underlying_run hd, underlying_run hs, Result.andThen, Conv.intToString, Sem.run_pure, encode_ascii m h3']
        cases sd with
        | slice e =>
          simp only [hd, hs] at hr
          cases he : P.underlying e with
          | none => simp only [he] at hr; exact absurd hr n
          | some ed =>
            have hq : ed = .int .u8 := by
              cases ed with
              | int q => cases q <;> first | rfl | (simp only [he] at hr; exact absurd hr n)
              | _ => simp only [he] at hr; exact absurd hr n
            subst hq
            simp only [he] at hr
            obtain ⟨u, v, e1, e2, e3⟩ := bytesToString_ok (P := P) (k := fun v => k v h) hr n S hx
            refine ⟨u, w, ?_, PostK.same S e3 e2, fun _ => ⟨rfl, _, e2, e3⟩⟩
            have hns : ∀ (q : IntKind) (m : Int), xv ≠ .int q m := by
              rintro q m rfl
              simp only [Conv.bytesToString, run_stuck] at e1; cases e1
            have hns2 : ∀ (m : ByteArray), xv ≠ .string m := by
              rintro m rfl
              simp only [Conv.bytesToString, run_stuck] at e1; cases e1
            cases xv <;> first | exact absurd rfl (hns _ _) | exact absurd rfl (hns2 _) | skip
            all_goals first
              | (simp only [convert, Sem.run_bind, underlying_run hd, underlying_run hs, Result.andThen, underlying_run he]; exact e1)
        | _ => simp only [hd, hs] at hr; exact other hr
      | slice e =>
        cases sd with
        | string =>
          simp only [hd, hs] at hr
          cases he : P.underlying e with
          | none => simp only [he] at hr; exact absurd hr n
          | some ed =>
            have hq : ed = .int .u8 := by
              cases ed with
              | int q => cases q <;> first | rfl | (simp only [he] at hr; exact absurd hr n)
              | _ => simp only [he] at hr; exact absurd hr n
            subst hq
            simp only [he] at hr
            obtain ⟨S', rfl, u, w', e1, e2⟩ := stringToBytes_ok (P := P) (e := e) hr n S hx
            refine ⟨u, w', ?_, e2, fun hh => absurd rfl (hh e)⟩
            simp only [convert, Sem.run_bind, underlying_run hd, underlying_run hs, Result.andThen, underlying_run he]
            exact e1
        | _ => simp only [hd, hs] at hr; exact absurd hr n
      | unsafePointer =>
        cases sd with
        | pointer t =>
          simp only [hd, hs] at hr
          rw [eqN_eq] at hr
          split at hr
          · exact absurd hr n
          · rename_i hsz
            cases hi : P.info? t with
            | none => exact absurd (by simp [Ty.size, hi]) hsz
            | some ti =>
              rw [size_eq_of hi] at hsz
              rcases AV.onPtrNul_inv (hr : (x.run f).onPtrNul _ _ s = r) n with ⟨g, ep, i, ub, ex, h1⟩ | ⟨t', ex, h1⟩
              · obtain ⟨c, L, e0, fl, mk, ho, h2⟩ := onCells_inv h1 n
                obtain ⟨hfe, h3⟩ := le_inv h2 n
                obtain ⟨hiu, h4⟩ := le_inv h3 n
                rw [ex] at hx
                have hx' := hx
                cases hx with
                | @ptr _ _ _ _ o l hl hlo hhi hio htop =>
                  obtain ⟨⟨C, el, fr, b1, b2, _⟩, _⟩ := S.cells hl ho hfe
                  have hiu' : i + 1 ≤ ub := hiu
                  have hno : ¬ (C.size ≤ o) := by omega
                  refine ⟨_, w, ?_, PostK.same S h4 hx', fun _ => ⟨rfl, _, hx', h4⟩⟩
                  simp only [convert, Conv.unsafePointer, Sem.run_bind, underlying_run hd, underlying_run hs, Result.andThen, seenAt_run b1, cellsIn_run b1, sizeOf_run hi, hsz, decide_false, Bool.false_or, ge_iff_le, hno, Bool.false_and, Bool.false_eq_true, if_false, false_or, Sem.run_pure]
              · obtain ⟨hk, h2⟩ := ifB_inv h1 n
                have := nkEq_inv hk
                subst this
                rw [ex] at hx
                cases hx
                refine ⟨_, w, ?_, PostK.same S h2 .nulp, fun _ => ⟨rfl, _, .nulp, h2⟩⟩
                simp only [convert, Conv.unsafePointer, Sem.run_bind, underlying_run hd, underlying_run hs, Result.andThen, Sem.run_pure]
        | _ => simp only [hd, hs] at hr; exact absurd hr n
      | pointer u =>
        cases sd with
        | unsafePointer =>
          simp only [hd, hs] at hr
          cases hb : (Nat.beq ((Ty.mk P G RT).size u) 0 || !liesAt P P.depth u 1 0 u 1) with
          | true => rw [hb] at hr; exact absurd hr n
          | false =>
            rw [hb] at hr
            simp only [Bool.or_eq_false_iff, Bool.not_eq_false'] at hb
            obtain ⟨hsz, hlies⟩ := hb
            cases hi : P.info? u with
            | none => simp [Ty.size, hi] at hsz
            | some ti =>
              rw [size_eq_of hi] at hsz hr
              have hsz' : ti.size ≠ 0 := fun hh => by rw [hh] at hsz; cases hsz
              rcases AV.onPtrNul_inv (hr : (x.run f).onPtrNul _ _ s = r) n with ⟨g, ep, i, ub, ex, h1⟩ | ⟨t', ex, h1⟩
              · obtain ⟨c, L, e0, fl, mk, ho, h2⟩ := onCells_inv h1 n
                obtain ⟨hfe, h3⟩ := le_inv h2 n
                obtain ⟨hep, h4⟩ := eqN_inv h3 n
                obtain ⟨hL, h5⟩ := eqN_inv h4 n
                obtain ⟨hi0, h6⟩ := eqN_inv h5 n
                obtain ⟨hel, h7⟩ := eqN_inv h6 n
                rw [ex] at hx
                have hx' := hx
                cases hx with
                | @ptr _ _ _ _ o l hl hlo hhi hio htop =>
                  obtain ⟨⟨C, el, fr, b1, b2, _, _, _, b6⟩, _, _, c3, _⟩ := S.cells hl ho hfe
                  have hL' := c3 hep
                  have hL2 : L = ti.size := by first | exact hL | exact hL.trans (size_eq_of hi)
                  have hi2 : i = 0 := hi0
                  have hel' : c.el = 2 * u + 1 := hel
                  rcases b6 with q | ⟨q1, q2, q3, q4⟩ | q
                  · omega
                  · have hu : @Eq Nat el u := by
                      have q1' : (c.el : Nat) = 2 * (el : Nat) + 1 := q1
                      exact Nat.eq_of_mul_eq_mul_left (by decide : 0 < 2) (Nat.add_right_cancel (q1'.symm.trans hel'))
                    have hu : el = u := hu
                    subst hu
                    have ho0 : o = 0 := by omega
                    subst ho0
                    have hcs : P.cellsOf el = ti.size := by simp [Program.cellsOf, hi]
                    have hcnt : C.size / P.cellsOf el = 1 := by
                      rw [hcs, (b2.trans (q4.symm.trans (hL'.trans hL2)) : C.size = ti.size)]
                      exact Nat.div_self (Nat.pos_of_ne_zero hsz')
                    refine ⟨_, w, ?_, PostK.same S h7 hx', fun _ => ⟨rfl, _, hx', h7⟩⟩
                    simp only [convert, Conv.unsafePointer, Sem.run_bind, underlying_run hd, underlying_run hs, Result.andThen, seenAt_run b1, variablesAt_run b1, hcnt, hlies, sizeOf_run hi, decide_false, hsz', false_or, Bool.false_or, if_true, Sem.run_pure]
                  · omega
              · obtain ⟨hk, h2⟩ := ifB_inv h1 n
                have := nkEq_inv hk
                subst this
                rw [ex] at hx
                cases hx
                refine ⟨_, w, ?_, PostK.same S h2 .nulp, fun _ => ⟨rfl, _, .nulp, h2⟩⟩
                simp only [convert, Conv.unsafePointer, Sem.run_bind, underlying_run hd, underlying_run hs, Result.andThen, Sem.run_pure]
        | _ => simp only [hd, hs] at hr; exact absurd hr n
      | _ => simp only [hd] at hr; exact absurd hr n
end
/-! ### Operations -/
section
variable {P : Program} {RT : List Rule} {ι : Inj} {h : H} {w : World} {β : Type} {s r : β} {G : Nat → AV}
/-- An operation that is a value. -/
theorem Ends.val {o : Oper} {a : Act} {m : Sem Value} (he : execOp a.eval o = (do pure (.value (← m)))) {u : Value} {w' : World} (hm : m.run P w = .ok u w') {Post : Value → World → Prop} (hp : Post u w') : Ends P o a w Post :=
  .value (by rw [he]; simp only [Sem.run_bind, hm, Result.andThen, Sem.run_pure]) hp
theorem Ends.unit {o : Oper} {a : Act} {m : Sem Unit} (he : execOp a.eval o = (do m; pure .skip)) {w' : World} (hm : m.run P w = .ok () w') {Post : Value → World → Prop} (hp : Post undef w') : Ends P o a w Post :=
  .skip (by rw [he]; simp only [Sem.run_bind, hm, Result.andThen, Sem.run_pure]) hp
theorem on1_inv {l : List AV} {k : AV → β} (hr : on1 l k s = r) (n : s ≠ r) : ∃ x, l = [x] ∧ k x = r := by
  cases l with
  | nil => exact absurd hr n
  | cons x l => cases l with
    | nil => exact ⟨x, rfl, hr⟩
    | cons y l => exact absurd hr n
theorem on2_inv {l : List AV} {k : AV → AV → β} (hr : on2 l k s = r) (n : s ≠ r) : ∃ x y, l = [x, y] ∧ k x y = r := by
  cases l with
  | nil => exact absurd hr n
  | cons x l =>
    obtain ⟨y, e, h1⟩ := on1_inv (hr : on1 l (k x) s = r) n
    exact ⟨x, y, by rw [e], h1⟩
theorem onCons_inv {l : List AV} {k : AV → List AV → β} (hr : onCons l k s = r) (n : s ≠ r) : ∃ x m, l = x :: m ∧ k x m = r := by
  cases l with
  | nil => exact absurd hr n
  | cons x l => exact ⟨x, l, rfl, hr⟩
theorem rvl_one_ {x : AV} {A : Array Value} (h : RVL ι [x] A.toList) : ∃ u, A[0]? = some u ∧ RV ι x u := by
  obtain ⟨u, h1, h2⟩ := h.get 0 (by simp)
  exact ⟨u, by simpa using h1, h2⟩
theorem rvl_two_ {x y : AV} {A : Array Value} (h : RVL ι [x, y] A.toList) : ∃ u v, A[0]? = some u ∧ A[1]? = some v ∧ RV ι x u ∧ RV ι y v := by
  obtain ⟨u, h1, h2⟩ := h.get 0 (by simp)
  obtain ⟨v, h3, h4⟩ := h.get 1 (by simp)
  exact ⟨u, v, by simpa using h1, by simpa using h3, h2, h4⟩
theorem minA_ok {t : IntKind} {k : AV → β} (n : s ≠ r) : ∀ (l : List AV) (us : List Value) (m : Int), RVL ι l us → minA t k s l m = r → ∃ m', (us.foldlM Builtin.min2 (Value.int t m)).run P w = .ok (.int t m') w ∧ k (.int t m') = r
  | [], _, m, .nil, hr => ⟨m, by simp [Sem.run_pure], hr⟩
  | v :: l, u :: us, m, .cons hv hl, hr => by
    obtain ⟨q, b, ex, h1⟩ := AV.onInt_inv (hr : v.onInt (fun _ b => ifB (ltI b m) (minA t k s l b) (minA t k s l m)) s = r) n
    subst ex
    have := rv_int hv
    subst this
    rw [ifB_eq, ltI_ok] at h1
    rw [List.foldlM_cons]
    simp only [Sem.run_bind, Builtin.min2, Sem.run_pure, Result.andThen]
    by_cases hlt : b < m
    · rw [if_pos hlt]
      rw [if_pos (by simpa using hlt)] at h1
      exact minA_ok n l us b hl h1
    · rw [if_neg hlt]
      rw [if_neg (by simpa using hlt)] at h1
      exact minA_ok n l us m hl h1
theorem maxA_ok {t : IntKind} {k : AV → β} (n : s ≠ r) : ∀ (l : List AV) (us : List Value) (m : Int), RVL ι l us → maxA t k s l m = r → ∃ m', (us.foldlM Builtin.max2 (Value.int t m)).run P w = .ok (.int t m') w ∧ k (.int t m') = r
  | [], _, m, .nil, hr => ⟨m, by simp [Sem.run_pure], hr⟩
  | v :: l, u :: us, m, .cons hv hl, hr => by
    obtain ⟨q, b, ex, h1⟩ := AV.onInt_inv (hr : v.onInt (fun _ b => ifB (ltI m b) (maxA t k s l b) (maxA t k s l m)) s = r) n
    subst ex
    have := rv_int hv
    subst this
    rw [ifB_eq, ltI_ok] at h1
    rw [List.foldlM_cons]
    simp only [Sem.run_bind, Builtin.max2, Sem.run_pure, Result.andThen, gt_iff_lt]
    by_cases hlt : m < b
    · rw [if_pos hlt]
      rw [if_pos (by simpa using hlt)] at h1
      exact maxA_ok n l us b hl h1
    · rw [if_neg hlt]
      rw [if_neg (by simpa using hlt)] at h1
      exact maxA_ok n l us m hl h1
/-- Does it leave memory alone? -/
def idleB (b : Builtin) : Bool := match b with | .len | .cap | .min | .max | .unsafeSliceData => true | _ => false
theorem appendZ_ok {ts : Array TypeId} {ty t e : TypeId} {ti : TypeInfo} {z : Value} {args : Array Value} (h0 : ts[0]? = some t) (ht : P.underlying t = some (.slice e)) {t1 : TypeId} {q : IntKind} (h1 : ts[1]? = some t1) (ht1 : P.underlying t1 = some (.int q))
    (hti : P.info? e = some ti) (hz : ti.zero = some z) (hb : ti.bytes ≤ 1000000) (hsz0 : ti.size ≠ 0) (hzs : z.cells.size = ti.size) {x y : AV} {xv yv : Value} {k : AV → H → β} (ha0 : args[0]? = some xv) (ha1 : args[1]? = some yv)
    (hr : appendZ ti.size (z.cells.toList.map AV.ofV1) x y h k s (2 * e + 2) = r) (n : s ≠ r) (S : Sim ι h w) (hx : RV ι x xv) (hy : RV ι y yv) : ∃ u w', (Builtin.append_ ts ty args).run P w = .ok u w' ∧ PostK ι h w k r u w' := by
  unfold appendZ at hr
  obtain ⟨tk, m, ey, hr1⟩ := natOf_inv hr n
  obtain ⟨hm, hr2⟩ := le_inv hr1 n
  subst ey
  have := rv_int hy
  subst this
  have hrep : RVL ι (replA m (z.cells.toList.map AV.ofV1)) (Builtin.zeroCells z.cells m).toList := repl_ok (ofVL_rv ι _) m
  have hlen : (replA m (z.cells.toList.map AV.ofV1)).length = m * ti.size := by
    have := hrep.length
    rw [this]; simp [Builtin.zeroCells, hzs]
  exact append_core h0 ht h1 ht1 hti hz hb hsz0 hzs ha0 ha1 (.inr ⟨q, tk, rfl, rfl, hm, rfl⟩) hrep hlen hr2 n S hx
theorem loadBytes_ok {k : Nat → Nat → β} (n : s ≠ r) {b : Nat} {C : Array Value} {el : TypeId} {fr : Nat × Nat} (hb : w.heap[b]? = some (.cells C el fr)) : ∀ (l : List AV) (us : List Value) (S : ByteArray) (o : Nat), RVL ι l us → (∀ j x, us[j]? = some x → C[o + j]? = some x) → bytesOf l S.size (encS S) k s = r → ∃ S', (loadBytes ⟨b, o, none⟩ S l.length).run P w = .ok S' w ∧ k S'.size (encS S') = r
  | [], _, S, _, .nil, _, hr => ⟨S, by simp [loadBytes, Sem.run_pure], hr⟩
  | v :: l, u :: us, S, o, .cons hv hl, hc, hr => by
    obtain ⟨t, b', ex, h1⟩ := AV.onInt_inv (hr : v.onInt (fun t b => kindEq t .u8 (onNat b (fun b => le b 255 (forceN (Nat.add (Nat.mul (encS S) 256) b) fun acc => forceN (Nat.succ S.size) fun n => bytesOf l n acc k s) s) s) s) s = r) n
    obtain ⟨h2, h3⟩ := eqN_inv h1 n
    obtain ⟨m, em, h4⟩ := onNat_inv h3 n
    obtain ⟨h5, h6⟩ := le_inv h4 n
    rw [forceN_eq, forceN_eq] at h6
    have := kindN_inj h2
    subst this ex em
    have := rv_int hv
    subst this
    obtain ⟨p1, p2⟩ := push_enc S (UInt8.ofNat m)
    have hm : (UInt8.ofNat m).toNat = m := by simp; omega
    rw [hm] at p2
    have h6' : bytesOf l (S.push (UInt8.ofNat m)).size (encS (S.push (UInt8.ofNat m))) k s = r := by rw [p1, p2]; exact h6
    obtain ⟨S', e1, e2⟩ := loadBytes_ok n hb l us _ (o + 1) hl (fun j x hx => by have := hc (j + 1) x (by simpa using hx); rw [show o + 1 + j = o + (j + 1) by omega]; exact this) h6'
    refine ⟨S', ?_, e2⟩
    have hl1 : (load ⟨b, o, none⟩).run P w = .ok (.int .u8 (m : Int)) w := load_run (P := P) hb (hc 0 _ rfl)
    simp only [List.length_cons, loadBytes, Sem.run_bind, hl1, Result.andThen, add_addr, Int.toNat_natCast]
    exact e1
/-- A row that a string was made of: nothing is written there any more. -/
theorem Sim.freeze (S : Sim ι h w) {g ep L e0 fl mk : Nat} {l : Loc} {c : CT} (hl : ι g ep = some l) (ho : h.obj g = .cells c L e0 fl mk) (hmk : mk ≤ 1) (o m : Nat) (hm : m ≠ 0) :
    Sim ι (h.putv g (.cells c L e0 fl 2)) (w.freeze ⟨l.b, o, none⟩ m) ∧ Grows ι h w ι (h.putv g (.cells c L e0 fl 2)) (w.freeze ⟨l.b, o, none⟩ m) := by
  have hg := S.small hl
  have hobj := S.obj g hg
  rw [ho] at hobj
  obtain ⟨z1, z2, z3, z4⟩ := hobj
  have hw' : (w.freeze ⟨l.b, o, none⟩ m).heap = w.heap.modify l.b fun
      | .cells c elem (lo, hi) => .cells c elem (if lo == hi then (o, o + m) else (min lo o, max hi (o + m)))
      | o => o := by unfold World.freeze; rw [if_neg hm]; rfl
  refine S.put hg (fun _ _ _ => rfl) (Inj.le_refl _) (fun s' l1 e n => by rw [n] at e; cases e) (fun s1 s2 a b c' d' => absurd c' a) (by rw [hw']; simp) (fun b hb' hn => ?_) (by unfold World.freeze; rw [if_neg hm]; exact ⟨rfl, rfl, rfl⟩) (by rw [ho]; exact hmk) ?_
  · rw [hw', Array.getElem?_modify, if_neg (hn ep l hl)]
  · refine ⟨z1, z2, z3, fun s' h1 h2 => ?_⟩
    obtain ⟨l', a, b, c', C, el, fr, b1, b2, b3, b4, b5, b6⟩ := z4 s' h1 h2
    by_cases e : l.b = l'.b
    · obtain ⟨lo, hi⟩ := fr
      have hfr : (w.freeze ⟨l.b, o, none⟩ m).heap[l'.b]? = some (.cells C el (if lo == hi then (o, o + m) else (min lo o, max hi (o + m)))) := by
        rw [hw', Array.getElem?_modify, if_pos e, b1]
        rfl
      exact ⟨l', a, b, c', C, el, _, hfr, b2, fun hh => (by cases hh), fun hh => (by omega), b5, b6⟩
    · exact ⟨l', a, b, c', C, el, fr, by rw [hw', Array.getElem?_modify, if_neg e]; exact b1, b2, fun hh => (by cases hh), fun hh => (by omega), b5, b6⟩
theorem liesAt_row {e : TypeId} (h1 : P.cellsOf e = 1) (h2 : P.depth ≠ 0) (h3 : sameLayout P P.depth e e = true) {count o m : Nat} (h : o + m ≤ count) : liesAt P P.depth e count o e m = true := by
  have key : ∀ d, d ≠ 0 → rowAt P (sameLayout P P.depth · e) d e count o m = true := by
    intro d hd
    cases d with
    | zero => exact absurd rfl hd
    | succ d =>
      rw [rowAt]
      simp only [h1, Nat.one_ne_zero, if_false, Nat.div_one, Nat.mod_one, h3, h, decide_true, Bool.and_true, BEq.rfl, Bool.true_or]
  have h4 := key _ h2
  revert h4
  generalize hD : P.depth = D
  intro h4
  cases D with
  | zero => exact absurd hD h2
  | succ d =>
    rw [liesAt, hD, h4]
    rfl
theorem uStr_nil (ts : Array TypeId) (ty : TypeId) (q : IntKind) (m : Int) : Builtin.unsafeString_ ts ty #[.pointer none, .int q m] = (do
        let n ← asInt (.int q m)
        let some pt := ts[0]? | stuck "unsafe.String: no argument types"
        if n < 0 then runtimePanic (.error "unsafe.String: len out of range")
        if n > IntKind.i64.max then unsupported (.unsafePointer "String: a length above the largest int")
        if n = 0 then pure (.string .empty)
        else runtimePanic (.error "unsafe.String: ptr is nil and len is not zero") : Sem Value) := rfl
theorem uStr_ptr (ts : Array TypeId) (ty : TypeId) (q : IntKind) (m : Int) (a : Addr) : Builtin.unsafeString_ ts ty #[.pointer (some a), .int q m] = (do
        let n ← asInt (.int q m)
        let some pt := ts[0]? | stuck "unsafe.String: no argument types"
        if n < 0 then runtimePanic (.error "unsafe.String: len out of range")
        if n > IntKind.i64.max then unsupported (.unsafePointer "String: a length above the largest int")
        if n = 0 then pure (.string .empty)
        else if ← variablesAt a (← elemOf pt) n.toNat then do
          let s ← loadBytes a .empty n.toNat
          freeze a n.toNat
          pure (.string s)
        else unsupported (.unsafePointer "String: not so many bytes at ptr") : Sem Value) := rfl
theorem rvl_arr {x : AV} {A : Array Value} (h : RVL ι [x] A.toList) : ∃ u, A = #[u] ∧ RV ι x u := by
  obtain ⟨l⟩ := A
  cases h with
  | cons h1 h2 => cases h2; exact ⟨_, rfl, h1⟩
theorem rvl_arr2 {x y : AV} {A : Array Value} (h : RVL ι [x, y] A.toList) : ∃ u v, A = #[u, v] ∧ RV ι x u ∧ RV ι y v := by
  obtain ⟨l⟩ := A
  cases h with
  | cons h1 h2 => cases h2 with
    | cons h2 h3 => cases h3; exact ⟨_, _, rfl, h1, h2⟩
/-- A built-in function. -/
theorem builtinC_ok {b : Builtin} {ts : Array TypeId} {ty : TypeId} {cs : Array Bool} {args : EvsC} {call : CallT} {f : Fr} {us : Array Value} {k : AV → H → β} (hr : (builtinC ⟨P, G, RT⟩ b ts args).run β call f h k s = r) (n : s ≠ r) (S : Sim ι h w) (ha : RVL ι (args.run f) us.toList) :
    ∃ u w', (builtin b ts ty cs us).run P w = .ok (.value u) w' ∧ PostK ι h w k r u w' ∧ (idleB b = true → w' = w ∧ ∃ v, RV ι v u ∧ k v h = r) := by
  have val : ∀ {m : Sem Value}, idleB b = false → (∃ u w', m.run P w = .ok u w' ∧ PostK ι h w k r u w') → ∃ u w', (do pure (.value (← m)) : Sem Next).run P w = .ok (.value u) w' ∧ PostK ι h w k r u w' ∧ (idleB b = true → w' = w ∧ ∃ v, RV ι v u ∧ k v h = r) := fun hb ⟨u, w', h1, h2⟩ => ⟨u, w', by simp only [Sem.run_bind, h1, Result.andThen, Sem.run_pure], h2, fun hh => by rw [hb] at hh; cases hh⟩
  have valQ : ∀ {m : Sem Value}, (∃ u v, m.run P w = .ok u w ∧ RV ι v u ∧ k v h = r) → ∃ u w', (do pure (.value (← m)) : Sem Next).run P w = .ok (.value u) w' ∧ PostK ι h w k r u w' ∧ (idleB b = true → w' = w ∧ ∃ v, RV ι v u ∧ k v h = r) := fun ⟨u, v, h1, h2, h3⟩ => ⟨u, w, by simp only [Sem.run_bind, h1, Result.andThen, Sem.run_pure], PostK.same S h3 h2, fun _ => ⟨rfl, v, h2, h3⟩⟩
  cases b with
  | len =>
    refine valQ (m := Builtin.len_ ts ty us) ?_
    simp only [builtinC] at hr
    cases ht0 : ts[0]? with
    | none => simp only [ht0, Option.bind_none] at hr; exact absurd hr n
    | some t =>
      simp only [ht0, Option.bind_some] at hr
      cases ht : P.underlying t with
      | none => simp only [ht] at hr; exact absurd hr n
      | some d =>
        cases d with
        | string =>
          simp only [ht] at hr
          obtain ⟨x, el, h1⟩ := on1_inv hr n
          rw [el] at ha
          obtain ⟨u, hu, hx⟩ := rvl_one_ ha
          obtain ⟨m, c, ex, h2⟩ := AV.onStr_inv h1 n
          subst ex
          obtain ⟨S', rfl, rfl, rfl⟩ := rv_str hx
          exact ⟨_, _, by simp only [Builtin.len_, ht0, hu, Sem.run_bind, underlying_run ht, Result.andThen, Sem.run_pure]; rfl, (.int _ _), h2⟩
        | slice e =>
          simp only [ht] at hr
          obtain ⟨x, el, h1⟩ := on1_inv hr n
          rw [el] at ha
          obtain ⟨u, hu, hx⟩ := rvl_one_ ha
          rcases AV.onSlNul_inv h1 n with ⟨g, ep, i, len, c, z, ex, h2⟩ | ⟨t', ex, h2⟩
          · subst ex
            cases hx
            exact ⟨_, _, by simp only [Builtin.len_, ht0, hu, Sem.run_bind, underlying_run ht, Result.andThen, Sem.run_pure]; rfl, (.int _ _), h2⟩
          · subst ex
            obtain ⟨hk, h3⟩ := ifB_inv h2 n
            have := nkEq_inv hk
            subst this
            cases hx
            exact ⟨_, _, by simp only [Builtin.len_, ht0, hu, Sem.run_bind, underlying_run ht, Result.andThen, Sem.run_pure]; rfl, (.int _ _), h3⟩
        | pointer e =>
          simp only [ht] at hr
          cases he : P.underlying e with
          | none => simp only [he] at hr; exact absurd hr n
          | some ed =>
            cases ed with
            | array m q =>
              simp only [he] at hr
              obtain ⟨x, el, h1⟩ := on1_inv hr n
              rw [el] at ha
              obtain ⟨u, hu, hx⟩ := rvl_one_ ha
              exact ⟨_, _, by simp only [Builtin.len_, ht0, hu, Sem.run_bind, underlying_run ht, underlying_run he, Result.andThen, Sem.run_pure]; rfl, (.int _ _), h1⟩
            | _ => simp only [he] at hr; exact absurd hr n
        | map a b =>
          simp only [ht] at hr
          obtain ⟨x, el, h1⟩ := on1_inv hr n
          rw [el] at ha
          obtain ⟨u, hu, hx⟩ := rvl_one_ ha
          rcases AV.onMapNul_inv h1 n with ⟨g, ex, h2⟩ | ⟨t', ex, h2⟩
          · subst ex
            obtain ⟨es, cl, ho, h3⟩ := onMap_inv h2 n
            rw [forceN_eq, lenL_eq] at h3
            cases hx with
            | @map _ l hl =>
            obtain ⟨_, X, h4, h5⟩ := S.map_ hl ho
            have hsz : ∀ {es : List ME} {X : List MapEntry}, MEs ι es X → es.length = X.length := by
              intro es X hm
              induction hm with
              | nil => rfl
              | cons _ _ _ _ ih => simp [ih]
            have h6 := hsz h5
            have h7 : X.toList.length = X.size := Array.length_toList
            refine ⟨_, _, by simp only [Builtin.len_, ht0, hu, Sem.run_bind, underlying_run ht, Result.andThen, getObj_map h4, Sem.run_pure]; rfl, ?_, h3⟩
            rw [h6, h7]; exact .int _ _
          · subst ex
            obtain ⟨hk, h3⟩ := ifB_inv h2 n
            have := nkEq_inv hk
            subst this
            cases hx
            exact ⟨_, _, by simp only [Builtin.len_, ht0, hu, Sem.run_bind, underlying_run ht, Result.andThen, Sem.run_pure]; rfl, (.int _ _), h3⟩
        | array m q =>
          simp only [ht] at hr
          obtain ⟨x, el, h1⟩ := on1_inv hr n
          rw [el] at ha
          obtain ⟨u, hu, hx⟩ := rvl_one_ ha
          exact ⟨_, _, by simp only [Builtin.len_, ht0, hu, Sem.run_bind, underlying_run ht, Result.andThen, Sem.run_pure]; rfl, (.int _ _), h1⟩
        | _ => simp only [ht] at hr; exact absurd hr n
  | cap =>
    refine valQ (m := Builtin.cap_ ts ty us) ?_
    simp only [builtinC] at hr
    cases ht0 : ts[0]? with
    | none => simp only [ht0, Option.bind_none] at hr; exact absurd hr n
    | some t =>
      simp only [ht0, Option.bind_some] at hr
      cases ht : P.underlying t with
      | none => simp only [ht] at hr; exact absurd hr n
      | some d =>
        cases d with
        | slice e =>
          simp only [ht] at hr
          obtain ⟨x, el, h1⟩ := on1_inv hr n
          rw [el] at ha
          obtain ⟨u, hu, hx⟩ := rvl_one_ ha
          rcases AV.onSlNul_inv h1 n with ⟨g, ep, i, len, c, z, ex, h2⟩ | ⟨t', ex, h2⟩
          · subst ex
            obtain ⟨q, eq, h3⟩ := optRec_inv h2 n
            subst eq
            cases hx with
            | @sl _ _ _ _ o c _ _ l hl a1 a2 a3 a4 a5 a6 a7 =>
            have := (a6 q rfl).1
            subst this
            exact ⟨_, _, by simp only [Builtin.cap_, ht0, hu, Sem.run_bind, underlying_run ht, Result.andThen, Sem.run_pure]; rfl, (.int _ _), h3⟩
          · subst ex
            obtain ⟨hk, h3⟩ := ifB_inv h2 n
            have := nkEq_inv hk
            subst this
            cases hx
            exact ⟨_, _, by simp only [Builtin.cap_, ht0, hu, Sem.run_bind, underlying_run ht, Result.andThen, Sem.run_pure]; rfl, (.int _ _), h3⟩
        | _ => simp only [ht] at hr; exact absurd hr n
  | min =>
    refine valQ (m := Builtin.min_ ts ty us) ?_
    simp only [builtinC] at hr
    obtain ⟨x, l, el, h1⟩ := onCons_inv hr n
    rw [el] at ha
    obtain ⟨t, m, ex, h2⟩ := AV.onInt_inv h1 n
    subst ex
    generalize hus : us.toList = ul at ha
    cases ha with
    | cons hx hl =>
    have := rv_int hx
    subst this
    obtain ⟨m', e1, e2⟩ := minA_ok (P := P) (w := w) n l _ m hl h2
    exact ⟨_, _, by simp only [Builtin.min_, hus]; exact e1, (.int _ _), e2⟩
  | max =>
    refine valQ (m := Builtin.max_ ts ty us) ?_
    simp only [builtinC] at hr
    obtain ⟨x, l, el, h1⟩ := onCons_inv hr n
    rw [el] at ha
    obtain ⟨t, m, ex, h2⟩ := AV.onInt_inv h1 n
    subst ex
    generalize hus : us.toList = ul at ha
    cases ha with
    | cons hx hl =>
    have := rv_int hx
    subst this
    obtain ⟨m', e1, e2⟩ := maxA_ok (P := P) (w := w) n l _ m hl h2
    exact ⟨_, _, by simp only [Builtin.max_, hus]; exact e1, (.int _ _), e2⟩
  | append =>
    refine val (m := Builtin.append_ ts ty us) rfl ?_
    simp only [builtinC] at hr
    cases ht0 : ts[0]? with
    | none => simp only [ht0, Option.bind_none] at hr; exact absurd hr n
    | some t =>
      cases ht1 : ts[1]? with
      | none =>
        simp only [ht0, ht1, Option.bind_none, Option.bind_some] at hr
        split at hr <;> first | exact absurd hr n | (rename_i hh; cases hh)
      | some t1 =>
        simp only [ht0, ht1, Option.bind_some] at hr
        have go : ∀ {e : TypeId} {d1 : TypeDesc}, P.underlying t = some (.slice e) → P.underlying t1 = some d1 → (∀ q, d1 ≠ .int q) → ((match (Ty.mk P G RT).zeroL e with
            | some z => bif Nat.beq ((Ty.mk P G RT).size e) 0 || !Nat.beq (lenL z) ((Ty.mk P G RT).size e) || !Nat.ble ((Ty.mk P G RT).bytes e) 1000000 then badOp else ⟨fun _ _ f h k s => on2 (args.run f) (fun x y => appendA ((Ty.mk P G RT).size e) x y h k s (Nat.succ (Nat.succ (Nat.mul 2 e)))) s⟩
            | none => badOp) : OpC).run β call f h k s = r → ∃ u w', (Builtin.append_ ts ty us).run P w = .ok u w' ∧ PostK ι h w k r u w' := by
          intro e d1 hu hu1 hd1 hr
          cases hz : (Ty.mk P G RT).zeroL e with
          | none => simp only [hz] at hr; exact absurd hr n
          | some z =>
            simp only [hz] at hr
            obtain ⟨i, zv, hi, hzv, rfl⟩ := zeroL_inv hz
            rw [size_eq_of hi, bytes_eq_of hi, lenL_eq] at hr
            cases hb : (Nat.beq i.size 0 || !Nat.beq (zv.cells.toList.map AV.ofV1).length i.size || !Nat.ble i.bytes 1000000) with
            | true => rw [hb] at hr; exact absurd hr n
            | false =>
              rw [hb] at hr
              simp only [Bool.or_eq_false_iff, Bool.not_eq_false'] at hb
              obtain ⟨⟨hb1, hb2⟩, hb3⟩ := hb
              have hb1' : i.size ≠ 0 := fun hh => by rw [hh] at hb1; cases hb1
              have hb2' : zv.cells.size = i.size := by have := Nat.eq_of_beq_eq_true hb2; simpa using this
              have hb3' := Nat.le_of_ble_eq_true hb3
              obtain ⟨x, y, el, h1⟩ := on2_inv (hr : on2 (args.run f) _ s = r) n
              rw [el] at ha
              obtain ⟨u, v, hu0, hv0, hx, hy⟩ := rvl_two_ ha
              exact append_ok ht0 hu ht1 hu1 hd1 hi hzv hb3' hb1' hb2' hu0 hv0 h1 n S hx hy
        have go2 : ∀ {e : TypeId} {q : IntKind}, P.underlying t = some (.slice e) → P.underlying t1 = some (.int q) → ((match (Ty.mk P G RT).zeroL e with
            | some z => bif Nat.beq ((Ty.mk P G RT).size e) 0 || !Nat.beq (lenL z) ((Ty.mk P G RT).size e) || !Nat.ble ((Ty.mk P G RT).bytes e) 1000000 then badOp else ⟨fun _ _ f h k s => on2 (args.run f) (fun x y => appendZ ((Ty.mk P G RT).size e) z x y h k s (Nat.succ (Nat.succ (Nat.mul 2 e)))) s⟩
            | none => badOp) : OpC).run β call f h k s = r → ∃ u w', (Builtin.append_ ts ty us).run P w = .ok u w' ∧ PostK ι h w k r u w' := by
          intro e q0 hu hu1 hr
          cases hz : (Ty.mk P G RT).zeroL e with
          | none => simp only [hz] at hr; exact absurd hr n
          | some z =>
            simp only [hz] at hr
            obtain ⟨i, zv, hi, hzv, rfl⟩ := zeroL_inv hz
            rw [size_eq_of hi, bytes_eq_of hi, lenL_eq] at hr
            cases hb : (Nat.beq i.size 0 || !Nat.beq (zv.cells.toList.map AV.ofV1).length i.size || !Nat.ble i.bytes 1000000) with
            | true => rw [hb] at hr; exact absurd hr n
            | false =>
              rw [hb] at hr
              simp only [Bool.or_eq_false_iff, Bool.not_eq_false'] at hb
              obtain ⟨⟨hb1, hb2⟩, hb3⟩ := hb
              have hb1' : i.size ≠ 0 := fun hh => by rw [hh] at hb1; cases hb1
              have hb2' : zv.cells.size = i.size := by have := Nat.eq_of_beq_eq_true hb2; simpa using this
              have hb3' := Nat.le_of_ble_eq_true hb3
              obtain ⟨x, y, el, h1⟩ := on2_inv (hr : on2 (args.run f) _ s = r) n
              rw [el] at ha
              obtain ⟨u, v, hu0, hv0, hx, hy⟩ := rvl_two_ ha
              exact appendZ_ok ht0 hu ht1 hu1 hi hzv hb3' hb1' hb2' hu0 hv0 h1 n S hx hy
        cases hu : P.underlying t with
        | none => simp only [hu] at hr; exact absurd hr n
        | some d =>
          cases hu1 : P.underlying t1 with
          | none => simp only [hu, hu1] at hr; first | exact absurd hr n | (split at hr <;> first | exact absurd hr n | (rename_i hh; cases hh))
          | some d1 =>
            cases d with
            | slice e =>
              cases d1 with
              | slice e1 => simp only [hu, hu1] at hr; exact go hu hu1 (fun q hh => by cases hh) hr
              | string => simp only [hu, hu1] at hr; exact go hu hu1 (fun q hh => by cases hh) hr
              | int q => simp only [hu, hu1] at hr; exact go2 hu hu1 hr
              | _ => simp only [hu, hu1] at hr; exact absurd hr n
            | _ => simp only [hu, hu1] at hr; exact absurd hr n
  | copy =>
    refine val (m := Builtin.copy_ ts ty us) rfl ?_
    simp only [builtinC] at hr
    cases ht0 : ts[0]? with
    | none => simp only [ht0, Option.bind_none] at hr; exact absurd hr n
    | some t =>
      simp only [ht0, Option.bind_some] at hr
      cases ht : P.underlying t with
      | none => simp only [ht] at hr; exact absurd hr n
      | some d =>
        cases d with
        | slice e =>
          simp only [ht] at hr
          rw [eqN_eq] at hr
          split at hr
          · exact absurd hr n
          · rename_i hsz
            cases hi : P.info? e with
            | none => exact absurd (by simp [Ty.size, hi]) hsz
            | some i =>
              rw [size_eq_of hi] at hr
              obtain ⟨x, y, el, h1⟩ := on2_inv (hr : on2 (args.run f) _ s = r) n
              rw [el] at ha
              obtain ⟨u, v, hu0, hv0, hx, hy⟩ := rvl_two_ ha
              exact copy_ok ht0 ht hi hu0 hv0 h1 n S hx hy
        | _ => simp only [ht] at hr; exact absurd hr n
  | unsafeSliceData =>
    refine valQ (m := Builtin.unsafeSliceData_ ts ty us) ?_
    simp only [builtinC] at hr
    obtain ⟨x, el, h1⟩ := on1_inv hr n
    rw [el] at ha
    obtain ⟨u, hu0, hx⟩ := rvl_arr ha
    rcases AV.onSlNul_inv h1 n with ⟨g, ep, i, len, cap, zz, ex, h2⟩ | ⟨t', ex, h2⟩
    · subst ex
      rcases eqN_cases h2 with ⟨_, q⟩ | ⟨hlen, h3⟩
      · exact absurd q n
      · rw [forceN_eq] at h3
        cases hx with
        | @sl _ _ _ _ o c _ _ l hl a1 a2 a3 a4 a5 a6 a7 =>
        have hc : c ≠ 0 := by omega
        have h5 := a5 hc
        have hm : len * zz ≤ c * zz := Nat.mul_le_mul_right _ a4
        refine ⟨.pointer (some ⟨l.b, o, none⟩), _, ?_, .ptr hl a1 a2 (a3.resolve_right hc) (by rcases a3 with q | q <;> first | exact absurd q hc | (show ((i + len * zz : Nat) : Int) + l.d ≤ l.top; push_cast; omega)), h3⟩
        rw [hu0]
        obtain ⟨c', rfl⟩ : ∃ c', c = c' + 1 := ⟨c - 1, by omega⟩
        rfl
    · subst ex
      obtain ⟨hk, h3⟩ := ifB_inv h2 n
      have := nkEq_inv hk
      subst this
      cases hx
      refine ⟨.pointer none, _, ?_, .nulp, h3⟩
      rw [hu0]
      rfl
  | unsafeString =>
    refine val (m := Builtin.unsafeString_ ts ty us) rfl ?_
    simp only [builtinC] at hr
    cases ht0 : ts[0]? with
    | none => simp only [ht0, Option.bind_none] at hr; exact absurd hr n
    | some t =>
      simp only [ht0, Option.bind_some] at hr
      cases ht : P.underlying t with
      | none => simp only [ht] at hr; exact absurd hr n
      | some d =>
        cases d with
        | pointer e =>
          simp only [ht] at hr
          cases hb : (!Nat.beq ((Ty.mk P G RT).size e) 1 || Nat.beq P.depth 0 || !sameLayout P P.depth e e) with
          | true => rw [hb] at hr; exact absurd hr n
          | false =>
            rw [hb] at hr
            simp only [Bool.or_eq_false_iff, Bool.not_eq_false'] at hb
            obtain ⟨⟨hsz, hdep⟩, hlay⟩ := hb
            obtain ⟨x, y, eargs, h1⟩ := on2_inv (hr : on2 (args.run f) _ s = r) n
            rw [eargs] at ha
            obtain ⟨u, v, hus, hx, hy⟩ := rvl_arr2 ha
            obtain ⟨q, m, ey, h2⟩ := natOf_inv h1 n
            obtain ⟨hm, h3⟩ := le_inv h2 n
            rw [ey] at hy
            have := rv_int hy
            subst this
            have hm' : m ≤ 1000000 := hm
            have hneg : ¬ ((m : Int) < 0) := by omega
            have hbig : ¬ ((m : Int) > IntKind.max .i64) := by have : IntKind.max .i64 = 9223372036854775807 := by decide
                                                               rw [this]; omega
            have empty : ∀ p, RV ι x (.pointer p) → m = 0 → k (.str 0 0) h = r → ∃ u w', (Builtin.unsafeString_ ts ty #[.pointer p, .int q (m : Int)]).run P w = .ok u w' ∧ PostK ι h w k r u w' := by
              intro p _ hm0 hk
              refine ⟨.string .empty, w, ?_, PostK.same S hk (.str ByteArray.empty)⟩
              subst hm0
              have hmax : IntKind.max .i64 = 9223372036854775807 := by decide
              cases p <;> simp [uStr_nil, uStr_ptr, asInt, asIntOf, ht0, hmax]
            rcases AV.onPtrNul_inv h3 n with ⟨g, ep, i, ub, ex, h4⟩ | ⟨t', ex, h4⟩
            · subst ex
              have hx' := hx
              cases hx with
              | @ptr _ _ _ _ o l hl hlo hhi hio htop =>
              rcases eqN_cases h4 with ⟨hm0, h5⟩ | ⟨hm0, h5⟩
              · rw [hus]; exact empty _ hx' hm0 h5
              · obtain ⟨c, L, e0, fl, mk, ho, h6⟩ := onCells_inv h5 n
                obtain ⟨hmk, h7⟩ := le_inv h6 n
                obtain ⟨hfe, h8⟩ := le_inv h7 n
                obtain ⟨hub, h9⟩ := le_inv h8 n
                obtain ⟨hel, h10⟩ := eqN_inv h9 n
                rw [cellsFrom_eq] at h10
                have hub' : i + m ≤ ub := hub
                obtain ⟨hcc, _⟩ := S.cells hl ho hfe
                obtain ⟨C', el', fr', b1', b2', b3'⟩ := hcc.row hio hlo (show i + m ≤ l.hi by omega)
                obtain ⟨C, el, fr, b1, b2, _, _, _, b6⟩ := hcc
                have hCC := Option.some.inj (b1.symm.trans b1')
                injection hCC with i1 i2 i3
                subst i1 i2 i3
                have hel' : (c.el : Nat) = 2 * (e : Nat) + 2 := hel
                have hu : el = e := by
                  have : @Eq Nat el e := by
                    rcases b6 with q | ⟨q1, _⟩ | q
                    · omega
                    · have q1' : (c.el : Nat) = 2 * (el : Nat) + 1 := q1
                      omega
                    · have q1' : (c.el : Nat) = 2 * (el : Nat) + 2 := q
                      omega
                  exact this
                subst hu
                have hfit : o + m ≤ C.size := b2'.resolve_left hm0
                have hlen : (cellsL c m i).length = m := cellsL_length _ _ _
                have hcs : P.cellsOf el = 1 := by
                  have := Nat.eq_of_beq_eq_true hsz
                  simpa [Ty.size, Program.cellsOf] using this
                obtain ⟨S', g1, g2⟩ := loadBytes_ok (P := P) (w := w) n b1 _ _ ByteArray.empty o b3' (fun j x hx => by
                  rw [Array.getElem?_toList, Array.getElem?_extract] at hx
                  split at hx
                  · exact hx
                  · cases hx) h10
                rw [hlen] at g1
                rw [H.put_eq] at g2
                obtain ⟨s1, s2⟩ := S.freeze hl ho hmk o m hm0
                refine ⟨.string S', w.freeze ⟨l.b, o, none⟩ m, ?_, _, _, _, g2, s1, .str S', s2⟩
                rw [hus]
                have hm0' : ¬ ((m : Int) = 0) := by omega
                have hlies := liesAt_row (P := P) (o := o) (m := m) (count := C.size / P.cellsOf el) hcs (fun hh => by rw [hh] at hdep; cases hdep) hlay (by rw [hcs, Nat.div_one]; exact hfit)
                simp only [uStr_ptr, asInt, asIntOf, elemOf, Sem.run_bind, Sem.run_pure, Result.andThen, ht0, hneg, hbig, hm0', if_false, underlying_run ht, Int.toNat_natCast, variablesAt_run b1, hlies, if_true, g1, Go.freeze, Sem.run]
            · subst ex
              obtain ⟨hk, h5⟩ := ifB_inv h4 n
              have := nkEq_inv hk
              subst this
              obtain ⟨hm0, h6⟩ := eqN_inv h5 n
              have hx' := hx
              cases hx
              rw [hus]; exact empty _ hx' hm0 h6
        | _ => simp only [ht] at hr; exact absurd hr n
  | delete =>
    refine val (m := Builtin.delete_ ts ty us) rfl ?_
    simp only [builtinC] at hr
    cases ht0 : ts[0]? with
    | none => simp only [ht0, Option.bind_none] at hr; exact absurd hr n
    | some t =>
      simp only [ht0, Option.bind_some] at hr
      cases ht : P.underlying t with
      | none => simp only [ht] at hr; exact absurd hr n
      | some d =>
        cases d with
        | map kt e =>
          simp only [ht] at hr
          obtain ⟨x, y, el, h1⟩ := on2_inv hr n
          rw [el] at ha
          obtain ⟨u, v, hu0, hv0, hx, hy⟩ := rvl_two_ ha
          obtain ⟨w', h', e1, e2, e3, e4⟩ := mapDel_ok (P := P) ht ht0 ty h1 n S hx hy hu0 hv0
          exact ⟨_, w', e1, _, h', ι, e4, e2, .tup .nil, e3⟩
        | _ => simp only [ht] at hr; exact absurd hr n
  | _ => exact absurd hr n
end
/-! ### Equality as an operation -/
section
variable {P : Program} {RT : List Rule} {ι : Inj} {h : H} {w : World} {β : Type} {s r : β} {G : Nat → AV}
/-- What equality comes to. -/
def EqOp (P : Program) (w : World) (t : TypeId) (xo yo : Operand) (xv yv : Value) (b : Bool) : Prop :=
  (∀ op, (eqGuard op t xo yo xv yv).run P w = .ok () w) ∧ (binOp .eql t xv yv).run P w = .ok (.bool b) w ∧ (binOp .neq t xv yv).run P w = .ok (.bool !b) w
theorem guard_nil {t : TypeId} {ms : Array (String × TypeId)} (hu : P.underlying t = some (.interface ms)) {xo yo : Operand} (hk : eqKnown ⟨P, G, RT⟩ t xo yo = true) (op : BinOp) : (eqGuard op t xo yo .nilIface .nilIface).run P w = .ok () w := by
  unfold eqKnown at hk
  simp only [hu] at hk
  cases op <;> first | rfl | (cases xo <;> cases yo <;> first | rfl | cases hk)
theorem eqOp_ok {t : TypeId} {x y : AV} {xv yv : Value} {xo yo : Operand} {k : Bool → β} (hr : (eqT ⟨P, G, RT⟩ 20 t).run β x y h k s = r) (n : s ≠ r) (S : Sim ι h w) (hx : RV ι x xv) (hy : RV ι y yv) (hk : eqKnown ⟨P, G, RT⟩ t xo yo = true) : ∃ b, EqOp P w t xo yo xv yv b ∧ k b = r := by
  obtain ⟨b0, hb0, hkb0⟩ := eqT_ok 20 Op.maxDepth (by decide) t x y xv yv k hr n S hx hy
  have fin : (∀ op, (eqGuard op t xo yo xv yv).run P w = .ok () w) → binOp .eql t xv yv = (do pure (.bool (← Op.equal t xv yv))) → binOp .neq t xv yv = (do pure (.bool !(← Op.equal t xv yv))) → ∃ b, EqOp P w t xo yo xv yv b ∧ k b = r := fun h1 h2 h3 =>
    ⟨b0, ⟨h1, by rw [h2]; simp only [Sem.run_bind, Op.equal, hb0, Result.andThen, Sem.run_pure], by rw [h3]; simp only [Sem.run_bind, Op.equal, hb0, Result.andThen, Sem.run_pure]⟩, hkb0⟩
  have easy : ∀ {xv yv : Value}, (∀ op, eqGuard op t xo yo xv yv = (if !(op matches .eql | .neq) then pure () else pure ())) → ∀ op, (eqGuard op t xo yo xv yv).run P w = .ok () w := fun hh op => by rw [hh op]; split <;> rfl
  have hk0 := hk
  unfold eqKnown at hk
  rw [eqT_succ (d := 19)] at hr
  cases hu : P.underlying t with
  | none => simp only [hu] at hr; exact absurd hr n
  | some q =>
    simp only [hu] at hr hk
    cases q with
    | bool =>
      obtain ⟨a, ex, h1⟩ := AV.onBool_inv hr n
      obtain ⟨b, ey, h2⟩ := AV.onBool_inv h1 n
      subst ex ey
      cases hx; cases hy
      exact fin (easy fun op => by cases op <;> rfl) rfl rfl
    | int ki =>
      rcases symEither_inv (show symEither _ _ _ _ = r from hr) with e0 | e0
      · obtain ⟨a, b, ex, ey, h1⟩ := symEqA_ok (ι := ι) e0 n hx hy
        subst ex ey
        refine ⟨decide (a = b), ⟨easy fun op => by cases op <;> rfl, ?_, ?_⟩, h1⟩
        · simp only [binOp, ne_eq, not_true, if_false, Op.intCmp, Sem.run_pure]; rfl
        · simp only [binOp, ne_eq, not_true, if_false, Op.intCmp, Sem.run_pure]; rfl
      · obtain ⟨q, a, b, ex, ey, h1⟩ := onInts_inv e0 n
        subst ex ey
        cases hx; cases hy
        refine ⟨eqI a b, ⟨easy fun op => by cases op <;> rfl, ?_, ?_⟩, h1⟩
        · simp only [binOp, ne_eq, not_true, if_false, Op.intCmp, Sem.run_pure, eqI_ok]; rfl
        · simp only [binOp, ne_eq, not_true, if_false, Op.intCmp, Sem.run_pure, eqI_ok]; rfl
    | string =>
      obtain ⟨l, u, ex, h1⟩ := AV.onStr_inv hr n
      obtain ⟨m, v, ey, h2⟩ := AV.onStr_inv h1 n
      subst ex ey
      obtain ⟨s1, rfl, rfl, rfl⟩ := rv_str hx
      obtain ⟨s2, rfl, rfl, rfl⟩ := rv_str hy
      rw [beqS_ok] at h2
      have e : (s1.toList == s2.toList) = (s1 == s2) := by
        rw [toList_eq, toList_eq, ← eqS_ok, size_eq, size_eq, ← encS_eq, ← encS_eq, beqS_ok]
      refine ⟨s1 == s2, ⟨easy fun op => by cases op <;> rfl, ?_, ?_⟩, h2⟩
      · simp only [binOp, Op.stringOp, Sem.run_pure, e]
      · simp only [binOp, Op.stringOp, Sem.run_pure, e]
    | pointer e =>
      have hr : (eqN (β := EqC) ((Ty.mk P G RT).size e) 0 badEq ⟨fun _ x y h k s => eqPtr x y h k s⟩).run β x y h k s = r := hr
      rw [eqN_eq] at hr
      split at hr
      · exact absurd hr n
      · have hr : eqPtr x y h k s = r := hr
        unfold eqPtr at hr
        rcases AV.onPtrNul_inv (hr : x.onPtrNul _ _ s = r) n with ⟨_, _, _, _, ex, h1⟩ | ⟨_, ex, h1⟩
        · rcases AV.onPtrNul_inv h1 n with ⟨_, _, _, _, ey, h2⟩ | ⟨_, ey, h2⟩
          · subst ex ey; cases hx; cases hy
            exact fin (easy fun op => by cases op <;> rfl) rfl rfl
          · have := nkEq_inv (ifB_inv h2 n).1
            subst ex ey this; cases hx; cases hy
            exact fin (easy fun op => by cases op <;> rfl) rfl rfl
        · obtain ⟨h3, h1⟩ := ifB_inv h1 n
          have := nkEq_inv h3
          rcases AV.onPtrNul_inv h1 n with ⟨_, _, _, _, ey, h2⟩ | ⟨_, ey, h2⟩
          · subst ex ey this; cases hx; cases hy
            exact fin (easy fun op => by cases op <;> rfl) rfl rfl
          · have := nkEq_inv (ifB_inv h2 n).1
            subst ex ey; subst_vars; cases hx; cases hy
            exact fin (easy fun op => by cases op <;> rfl) rfl rfl
    | slice e =>
      rcases AV.onSlNul_inv hr n with ⟨_, _, _, _, _, _, ex, h1⟩ | ⟨_, ex, h1⟩
      · obtain ⟨_, ey, h2⟩ := AV.onNul_inv h1 n
        have := nkEq_inv (ifB_inv h2 n).1
        subst ex ey this; cases hx; cases hy
        exact fin (easy fun op => by cases op <;> rfl) rfl rfl
      · obtain ⟨h3, h1⟩ := ifB_inv h1 n
        have := nkEq_inv h3
        rcases AV.onSlNul_inv h1 n with ⟨_, _, _, _, _, _, ey, h2⟩ | ⟨_, ey, h2⟩
        · subst ex ey this; cases hx; cases hy
          exact fin (easy fun op => by cases op <;> rfl) rfl rfl
        · have := nkEq_inv (ifB_inv h2 n).1
          subst ex ey; subst_vars; cases hx; cases hy
          exact fin (easy fun op => by cases op <;> rfl) rfl rfl
    | map a b =>
      rcases AV.onMapNul_inv hr n with ⟨_, ex, h1⟩ | ⟨_, ex, h1⟩
      · obtain ⟨_, ey, h2⟩ := AV.onNul_inv h1 n
        have := nkEq_inv (ifB_inv h2 n).1
        subst ex ey this; cases hx; cases hy
        exact fin (easy fun op => by cases op <;> rfl) rfl rfl
      · obtain ⟨h3, h1⟩ := ifB_inv h1 n
        have := nkEq_inv h3
        rcases AV.onMapNul_inv h1 n with ⟨_, ey, h2⟩ | ⟨_, ey, h2⟩
        · subst ex ey this; cases hx; cases hy
          exact fin (easy fun op => by cases op <;> rfl) rfl rfl
        · have := nkEq_inv (ifB_inv h2 n).1
          subst ex ey; subst_vars; cases hx; cases hy
          exact fin (easy fun op => by cases op <;> rfl) rfl rfl
    | func a b c =>
      rcases AV.onFnNul_inv hr n with ⟨_, _, _, ex, h1⟩ | ⟨_, ex, h1⟩
      · obtain ⟨_, ey, h2⟩ := AV.onNul_inv h1 n
        have := nkEq_inv (ifB_inv h2 n).1
        subst ex ey this; cases hx; cases hy
        exact fin (easy fun op => by cases op <;> rfl) rfl rfl
      · obtain ⟨h3, h1⟩ := ifB_inv h1 n
        have := nkEq_inv h3
        rcases AV.onFnNul_inv h1 n with ⟨_, _, _, ey, h2⟩ | ⟨_, ey, h2⟩
        · subst ex ey this; cases hx; cases hy
          exact fin (easy fun op => by cases op <;> rfl) rfl rfl
        · have := nkEq_inv (ifB_inv h2 n).1
          subst ex ey; subst_vars; cases hx; cases hy
          exact fin (easy fun op => by cases op <;> rfl) rfl rfl
    | interface ms =>
      rcases AV.onIfaceNul_inv hr n with ⟨_, _, ex, h1⟩ | ⟨_, ex, h1⟩
      · rcases AV.onIfaceNul_inv h1 n with ⟨_, _, ey, h2⟩ | ⟨_, ey, h2⟩
        · subst ex ey; cases hx; cases hy
          exact fin (easy fun op => by cases op <;> rfl) rfl rfl
        · have := nkEq_inv (ifB_inv h2 n).1
          subst ex ey this; cases hx; cases hy
          exact fin (easy fun op => by cases op <;> rfl) rfl rfl
      · obtain ⟨h3, h1⟩ := ifB_inv h1 n
        have := nkEq_inv h3
        rcases AV.onIfaceNul_inv h1 n with ⟨_, _, ey, h2⟩ | ⟨_, ey, h2⟩
        · subst ex ey this; cases hx; cases hy
          exact fin (easy fun op => by cases op <;> rfl) rfl rfl
        · have := nkEq_inv (ifB_inv h2 n).1
          subst ex ey; subst_vars; cases hx; cases hy
          refine fin (fun op => ?_) rfl rfl
          exact guard_nil hu hk0 op
    | struct fs =>
      have hag : ∃ a b, x = .agg a ∧ y = .agg b := by
        cases hst : P.stoodInHeld t with
        | true => rw [hst] at hr; exact absurd hr n
        | false =>
          rw [hst] at hr
          obtain ⟨a, ex, h1⟩ := AV.onAgg_inv (hr : x.onAgg _ s = r) n
          obtain ⟨b, ey, h2⟩ := AV.onAgg_inv h1 n
          exact ⟨a, b, ex, ey⟩
      obtain ⟨a, b, ex, ey⟩ := hag
      subst ex ey; cases hx; cases hy
      refine fin (fun op => ?_) rfl rfl
      have hg : (!P.eqGuardType P.depth t) = true := hk
      cases op <;> first | rfl | (simp only [eqGuard, Bool.not_true, Bool.false_eq_true, if_false, Sem.run_bind, run_program, Result.andThen, hg, if_true, Sem.run_pure])
    | _ => exact absurd hr n
end
/-! ### Parts of rows as operations -/
section
variable {P : Program} {RT : List Rule} {ι : Inj} {h : H} {w : World} {β : Type} {s r : β} {G : Nat → AV} {nt : Nat} {f : Fr} {a : Act} {o : Oper} {call : CallT} {k : AV → H → β}
/-- The operands of an operation stand for what the machine reads. -/
def EvOk (G : Nat → AV) (nt : Nat) (ι : Inj) (f : Fr) (a : Act) (o : Op) : Prop := ∀ x, x ∈ o.operands.toList → RV ι ((evO G nt x).run f) (a.eval x)
theorem EvOk.of (hG : GlobOk G ι) (F : FrameRel nt ι f a.tmps) (o : Op) : EvOk G nt ι f a o := fun x _ => evO_rv hG F x
theorem rvo {x : Option Operand} (hx : ∀ y, x = some y → RV ι ((evO G nt y).run f) (a.eval y)) : RVO ι (x.map fun y => (evO G nt y).run f) (x.map a.eval) := by
  cases x with
  | none => exact .none
  | some y => exact .some (hx y rfl)
/-- A part of an array behind a pointer. -/
theorem sliceArr_ok {x : AV} {xv : Value} {m : Nat} {i : TypeInfo} {lo hi mx : Option AV} {lov hiv mxv : Option Value} {k : AV → β} (hr : x.onPtr (fun g ep j u => le (Nat.add j (Nat.mul m i.size)) u (sliceSl i.size g ep j m (some m) lo hi mx k s) s) s = r) (n : s ≠ r) (hx : RV ι x xv)
    (hlo : RVO ι lo lov) (hhi : RVO ι hi hiv) (hmx : RVO ι mx mxv) (hc : (mx.isSome && hi.isNone) = false) :
    ∃ A q1 q2 q3 v, xv = .pointer (some A) ∧ (∀ b, (Instr.sliceBounds b m m lov hiv mxv).run P w = .ok (q1, q2, q3) w) ∧ RV ι v (.slice (some (if q3 = q1 then A else A.add (q1 * i.size))) (q2 - q1) (q3 - q1)) ∧ k v = r := by
  obtain ⟨g, ep, j, u, ex, h1⟩ := AV.onPtr_inv hr n
  obtain ⟨h2, h1⟩ := le_inv h1 n
  subst ex
  cases hx with
  | @ptr _ _ _ _ o' l hl b1 b2 b3 b4 =>
  have h2' : j + m * i.size ≤ u := h2
  obtain ⟨q1, q2, q3, v, c1, c2, c3⟩ := sliceSl_ok (P := P) (w := w) (c := m) (o := o') h1 n hlo hhi hmx hc hl b1 (by omega) (.inl b3) (Nat.le_refl _) (fun _ => by omega) (fun q hq => by cases hq; exact ⟨rfl, by omega⟩) (fun hq => by cases hq)
  exact ⟨_, q1, q2, q3, v, rfl, c1, c2, c3⟩
theorem sliceBounds_eq {b : Bool} {len cap : Nat} {lo hi mx : Option Value} {x : Nat × Nat × Nat} (h : (Instr.sliceBounds b len cap lo hi mx).run P w = .ok x w) {F : Nat × Nat × Nat → Sem Value} : ((do let y ← Instr.sliceBounds b len cap lo hi mx; F y) : Sem Value).run P w = (F x).run P w := by
  simp only [Sem.run_bind, h, Result.andThen]
theorem slice_ok {t : TypeId} {x : Operand} {lo hi mx : Option Operand} (hr : (opB ⟨P, G, RT⟩ nt (.slice t x lo hi mx)).run β call f h k s = r) (n : s ≠ r) (ev : EvOk G nt ι f a (.slice t x lo hi mx)) (_S : Sim ι h w) :
    ∃ u v, (Instr.sliceAt t (a.eval x) (lo.map a.eval) (hi.map a.eval) (mx.map a.eval)).run P w = .ok u w ∧ RV ι v u ∧ k v h = r := by
  have hx := ev x (by simp [Op.operands])
  have hlo := rvo (x := lo) (G := G) (nt := nt) (ι := ι) (f := f) (a := a) fun y hy => ev y (by simp [Op.operands, hy])
  have hhi := rvo (x := hi) (G := G) (nt := nt) (ι := ι) (f := f) (a := a) fun y hy => ev y (by simp [Op.operands, hy])
  have hmx := rvo (x := mx) (G := G) (nt := nt) (ι := ι) (f := f) (a := a) fun y hy => ev y (by simp [Op.operands, hy])
  clear ev
  generalize a.eval x = xv at *
  generalize hlov : lo.map a.eval = lov at *
  generalize hhiv : hi.map a.eval = hiv at *
  generalize hmxv : mx.map a.eval = mxv at *
  simp only [opB] at hr
  cases hc : (mx.isSome && hi.isNone) with
  | true => rw [hc] at hr; exact absurd hr n
  | false =>
  rw [hc] at hr
  have hc' : ((mx.map fun y => (evO G nt y).run f).isSome && (hi.map fun y => (evO G nt y).run f).isNone) = false := by simpa using hc
  simp only [cond_false] at hr
  cases ht : P.underlying t with
  | none => simp only [ht] at hr; exact absurd hr n
  | some d =>
    simp only [ht] at hr
    cases d with
    | string =>
      cases mx with
      | some _ => exact absurd hr n
      | none =>
        obtain ⟨m, c, ex, h1⟩ := AV.onStr_inv hr n
        rw [ex] at hx
        obtain ⟨S', rfl, rfl, rfl⟩ := rv_str hx
        obtain ⟨l, u, e1, e2⟩ := sliceStr_ok (P := P) (w := w) (k := fun v => k v h) h1 n hlo hhi
        cases hmx
        refine ⟨.string (S'.extract l u), _, ?_, (.str _), e1⟩
        simp only [Instr.sliceAt, Instr.slice, Sem.run_bind, underlying_run ht, Result.andThen, Option.isSome_none, Bool.false_eq_true, if_false, e2, Sem.run_pure]
    | slice e =>
      have hr : (eqN (β := OpC) ((Ty.mk P G RT).size e) 0 badOp _).run β call f h k s = r := hr
      rw [eqN_eq] at hr
      split at hr
      · exact absurd hr n
      · rename_i hsz
        cases hi' : P.info? e with
        | none => exact absurd (by simp [Ty.size, hi']) hsz
        | some i =>
          simp only [size_eq_of hi'] at hr
          rcases AV.onSlNul_inv hr n with ⟨g, ep, j, len, cap, zz, ex, h1⟩ | ⟨t', ex, h1⟩
          · obtain ⟨ezz, h2⟩ := eqN_inv h1 n
            rw [ex] at hx
            cases hx with
            | @sl _ _ _ _ o' c _ _ l hl a1 a2 a3 a4 a5 a6 a7 =>
            rw [ezz] at a2 a5 a6 a7
            obtain ⟨q1, q2, q3, v, c1, c2, c3⟩ := sliceSl_ok (P := P) (w := w) (k := fun v => k v h) h2 n hlo hhi hmx hc' hl a1 a2 a3 a4 a5 a6 a7
            refine ⟨_, _, ?_, c2, c3⟩
            simp only [Instr.sliceAt, Instr.slice, Sem.run_bind, underlying_run ht, Result.andThen, c1, sizeOf_run hi', Sem.run_pure]
            split <;> simp_all
          · obtain ⟨hk, h2⟩ := ifB_inv h1 n
            have := nkEq_inv hk
            rw [ex, this] at hx
            cases hx
            obtain ⟨q1, q2, q3, d1, d2, d3, d4, d5, d6⟩ := bounds_ok (P := P) (w := w) h2 n hlo hhi hmx hc'
            have e0 := d6 true 0 (Nat.le_refl _)
            have z1 : q1 = 0 := by omega
            have z2 : q2 = 0 := by omega
            have z3 : q3 = 0 := by omega
            subst z1 z2 z3
            simp only [ite_self] at e0
            refine ⟨.slice none 0 0, _, ?_, .nuls, d1⟩
            simp only [Instr.sliceAt, Instr.slice, Sem.run_bind, underlying_run ht, Result.andThen, e0, sizeOf_run hi', Sem.run_pure]
            rfl
    | pointer b =>
      cases hb : P.underlying b with
      | none => simp only [hb] at hr; exact absurd hr n
      | some bd =>
        cases bd with
        | array m e =>
          simp only [hb] at hr
          have hr : (eqN (β := OpC) ((Ty.mk P G RT).size e) 0 badOp _).run β call f h k s = r := hr
          rw [eqN_eq] at hr
          split at hr
          · exact absurd hr n
          · rename_i hsz
            cases hi' : P.info? e with
            | none => exact absurd (by simp [Ty.size, hi']) hsz
            | some i =>
              simp only [size_eq_of hi'] at hr
              obtain ⟨A, q1, q2, q3, v, rfl, c1, c2, c3⟩ := sliceArr_ok (P := P) (w := w) (k := fun v => k v h) hr n hx hlo hhi hmx hc'
              refine ⟨_, _, ?_, c2, c3⟩
              simp only [Instr.sliceAt, Instr.slice, Sem.run_bind, underlying_run ht, underlying_run hb, asAddr, Result.andThen, c1, sizeOf_run hi', Sem.run_pure]
        | _ => simp only [hb] at hr; exact absurd hr n
    | array m e =>
      have hr : (eqN (β := OpC) ((Ty.mk P G RT).size e) 0 badOp _).run β call f h k s = r := hr
      rw [eqN_eq] at hr
      split at hr
      · exact absurd hr n
      · rename_i hsz
        cases hi' : P.info? e with
        | none => exact absurd (by simp [Ty.size, hi']) hsz
        | some i =>
          simp only [size_eq_of hi'] at hr
          obtain ⟨A, q1, q2, q3, v, rfl, c1, c2, c3⟩ := sliceArr_ok (P := P) (w := w) (k := fun v => k v h) hr n hx hlo hhi hmx hc'
          refine ⟨_, _, ?_, c2, c3⟩
          simp only [Instr.sliceAt, Instr.sureAddr, Sem.run_bind, underlying_run ht, Result.andThen, c1, sizeOf_run hi', Sem.run_pure]
    | _ => exact absurd hr n
theorem indexAt_ok {t : TypeId} {x ix : Operand} (hr : (opB ⟨P, G, RT⟩ nt (.indexAddr t x ix)).run β call f h k s = r) (n : s ≠ r) (ev : EvOk G nt ι f a (.indexAddr t x ix)) (_S : Sim ι h w) :
    ∃ u v, (Instr.indexAt t (a.eval x) (a.eval ix)).run P w = .ok u w ∧ RV ι v u ∧ k v h = r := by
  have hx := ev x (by simp [Op.operands])
  have hix := ev ix (by simp [Op.operands])
  clear ev
  generalize a.eval x = xv at *
  generalize a.eval ix = iv at *
  simp only [opB] at hr
  cases ht : P.underlying t with
  | none => simp only [ht] at hr; exact absurd hr n
  | some d =>
    simp only [ht] at hr
    cases d with
    | slice e =>
      have hr : (eqN (β := OpC) ((Ty.mk P G RT).size e) 0 badOp _).run β call f h k s = r := hr
      rw [eqN_eq] at hr
      split at hr
      · exact absurd hr n
      · rename_i hsz
        cases hi' : P.info? e with
        | none => exact absurd (by simp [Ty.size, hi']) hsz
        | some i =>
          simp only [size_eq_of hi'] at hr
          obtain ⟨g, ep, j, len, cap, zz, ex, h1⟩ := AV.onSl_inv hr n
          obtain ⟨ezz, h2⟩ := eqN_inv h1 n
          rw [ex] at hx
          cases hx with
          | @sl _ _ _ _ o' c _ _ l hl a1 a2 a3 a4 a5 a6 a7 =>
          rw [ezz] at a2 a5 a6 a7
          obtain ⟨q, m, v, rfl, c1, c2, c3⟩ := indexSl_ok (k := fun v => k v h) h2 n hix hl a1 a2 a3 a4 a5
          refine ⟨_, _, ?_, c2, c3⟩
          have hb : (0 : Int) ≤ (m : Int) ∧ (m : Int) < (len : Int) := ⟨by omega, by omega⟩
          simp only [Instr.indexAt, asIntOf, Sem.run_bind, Sem.run_pure, underlying_run ht, Result.andThen, if_pos hb, sizeOf_run hi', Int.toNat_natCast]
    | array m e =>
      have hr : (eqN (β := OpC) ((Ty.mk P G RT).size e) 0 badOp _).run β call f h k s = r := hr
      rw [eqN_eq] at hr
      split at hr
      · exact absurd hr n
      · rename_i hsz
        cases hi' : P.info? e with
        | none => exact absurd (by simp [Ty.size, hi']) hsz
        | some i =>
          simp only [size_eq_of hi'] at hr
          obtain ⟨g, ep, j, u, ex, h1⟩ := AV.onPtr_inv hr n
          obtain ⟨h2, h1⟩ := le_inv h1 n
          rw [ex] at hx
          cases hx with
          | @ptr _ _ _ _ o' l hl b1 b2 b3 b4 =>
          have h2' : j + m * i.size ≤ u := h2
          obtain ⟨q, p, v, rfl, c1, c2, c3⟩ := indexSl_ok (k := fun v => k v h) (c := m) (o := o') h1 n hix hl b1 (by omega) (.inl b3) (Nat.le_refl _) (fun _ => by omega)
          refine ⟨_, _, ?_, c2, c3⟩
          have hb : (0 : Int) ≤ (p : Int) ∧ (p : Int) < (m : Int) := ⟨by omega, by omega⟩
          simp only [Instr.indexAt, asIntOf, Instr.sureAddr, Sem.run_bind, Sem.run_pure, underlying_run ht, Result.andThen, if_pos hb, sizeOf_run hi', Int.toNat_natCast]
    | _ => exact absurd hr n
theorem index_ok {t : TypeId} {x ix : Operand} (hr : (opB ⟨P, G, RT⟩ nt (.index t x ix)).run β call f h k s = r) (n : s ≠ r) (ev : EvOk G nt ι f a (.index t x ix)) (_S : Sim ι h w) :
    ∃ u v, (Instr.index t (a.eval x) (a.eval ix)).run P w = .ok u w ∧ RV ι v u ∧ k v h = r := by
  have hx := ev x (by simp [Op.operands])
  have hix := ev ix (by simp [Op.operands])
  clear ev
  generalize a.eval x = xv at *
  generalize a.eval ix = iv at *
  simp only [opB] at hr
  cases ht : P.underlying t with
  | none => simp only [ht] at hr; exact absurd hr n
  | some d =>
    simp only [ht] at hr
    cases d with
    | string =>
      obtain ⟨m, c, ex, h1⟩ := AV.onStr_inv hr n
      rw [ex] at hx
      obtain ⟨S', rfl, rfl, rfl⟩ := rv_str hx
      obtain ⟨q, p, hp, rfl, e1⟩ := indexStr_ok (k := fun v => k v h) h1 n hix
      refine ⟨.int .u8 (S'[p].toNat : Nat), _, ?_, (.int _ _), e1⟩
      have h0 : (0 : Int) ≤ (p : Int) := by omega
      have h1 : S'[p]? = some S'[p] := getElem?_pos S' p hp
      simp only [Instr.index, asIntOf, Sem.run_bind, Sem.run_pure, underlying_run ht, Result.andThen, if_pos h0, Int.toNat_natCast, h1]
    | array m e =>
      have hr : (bif !(Ty.mk P G RT).known e then badOp else _ : OpC).run β call f h k s = r := hr
      cases hk : (Ty.mk P G RT).known e with
      | false => rw [hk] at hr; exact absurd hr n
      | true =>
        rw [hk] at hr
        obtain ⟨i, hi'⟩ := known_inv hk
        obtain ⟨l, ex, h1⟩ := AV.onAgg_inv (hr : ((evO G nt x).run f).onAgg _ s = r) n
        obtain ⟨q, p, ep, h2⟩ := natOf_inv h1 n
        obtain ⟨h3, h4⟩ := le_inv h2 n
        rw [ex] at hx
        cases hx with
        | @agg _ cs hl =>
        rw [ep] at hix
        have := rv_int hix
        subst this
        obtain ⟨y, yv, e1, e2, e3⟩ := partA_ok (P := P) (w := w) (k := fun v => k v h) h4 n hl
        refine ⟨yv, _, ?_, e2, e3⟩
        have h3' : p < m := h3
        have hb : (0 : Int) ≤ (p : Int) ∧ (p : Int) < (m : Int) := ⟨by omega, by omega⟩
        rw [size_eq_of hi'] at e1
        have e1' : (part e cs (p * i.size)).run P w = .ok yv w := e1
        simp only [Instr.index, asIntOf, Sem.run_bind, Sem.run_pure, underlying_run ht, Result.andThen, if_pos hb, Int.toNat_natCast, sizeOf_run hi', e1']
    | _ => exact absurd hr n
end
/-! ### Ranges over a map -/
section
variable {P : Program} {ι : Inj} {h : H} {w : World} {β : Type} {s r : β}
theorem memNL_ok (t : Nat) (l : List Nat) : memNL t l = l.contains t := by
  induction l with
  | nil => rfl
  | cons x l ih =>
    show ifB (Nat.beq x t) true (memNL t l) = _
    rw [ifB_eq, ih, List.contains_cons]
    by_cases e : x = t
    · subst e; simp
    · have h1 : ¬ Nat.beq x t = true := fun hh => e (Nat.eq_of_beq_eq_true hh)
      have h2 : (t == x) = false := by simpa using fun hh => e hh.symm
      rw [if_neg h1, h2, Bool.false_or]
theorem isNilL_ok {α : Type} (l : List α) : isNilL l = l.isEmpty := by cases l <;> rfl
theorem snocN_ok (l : List Nat) (t : Nat) : snocN l t = l ++ [t] := by
  induction l with
  | nil => rfl
  | cons x l ih => show x :: snocN l t = _; rw [ih]; rfl
theorem anyOld_ok {last : Nat} : ∀ {es : List ME} {X : List MapEntry}, MEs ι es X → anyOld last es = X.any (fun e => decide (e.born < last))
  | [], [], .nil => rfl
  | e :: es, x :: X, .cons h1 h2 h3 h4 => by
    show ifB (Nat.ble (Nat.succ e.born) last) true (anyOld last es) = _
    rw [ifB_eq, anyOld_ok h4, List.any_cons, ← h3]
    by_cases hb : e.born < last
    · rw [if_pos (Nat.ble_eq_true_of_le hb), decide_eq_true hb, Bool.true_or]
    · rw [if_neg (fun hh => hb (Nat.le_of_ble_eq_true hh)), decide_eq_false hb, Bool.false_or]
theorem leftME_ok {seen : List Nat} : ∀ {es : List ME} {X : List MapEntry}, MEs ι es X → MEs ι (leftME seen es) (X.filter fun e => !seen.contains e.born)
  | [], [], .nil => .nil
  | e :: es, x :: X, .cons h1 h2 h3 h4 => by
    show MEs ι (ifB (memNL e.born seen) (leftME seen es) (e :: leftME seen es)) _
    rw [ifB_eq, memNL_ok, List.filter_cons, ← h3]
    by_cases hb : seen.contains e.born = true
    · rw [if_pos hb, hb]; exact leftME_ok h4
    · rw [if_neg hb, Bool.eq_false_iff.2 hb]
      exact .cons h1 h2 h3 (leftME_ok h4)
theorem isEmpty_ok : ∀ {es : List ME} {X : List MapEntry}, MEs ι es X → es.isEmpty = X.isEmpty
  | _, _, .nil => rfl
  | _, _, .cons _ _ _ _ => rfl
theorem getObj_it {b : Nat} {m : Option Nat} {x : Nat} {y : Array Nat} {z : Nat} (hb : w.heap[b]? = some (.mapIter m x y z)) : (getObj b).run P w = .ok (.mapIter m x y z) w := by
  simp only [getObj, Sem.run, hb]
theorem rangeMap_ok {t kt e : TypeId} (ht : P.underlying t = some (.map kt e)) {x : AV} {xv : Value} {k : AV → H → β} (hr : rangeA x h k s = r) (n : s ≠ r) (S : Sim ι h w) (hx : RV ι x xv) : ∃ u w', (Instr.range t xv).run P w = .ok u w' ∧ PostK ι h w k r u w' := by
  have fin : ∀ {m : Option Nat} {mv : Option Nat} {a b : Nat} {sn : List Nat}, h.nx ≤ 32767 → k (.ptr h.nx 0 0 0) (h.newv (.miter m a sn b)) = r → (m = none ∧ mv = none ∨ ∃ gm lm, m = some gm ∧ mv = some lm.b ∧ ι gm 0 = some lm) →
      PostK ι h w k r (.pointer (some ⟨w.heap.size, 0, none⟩)) { w with heap := w.heap.push (.mapIter mv a sn.toArray b) } := by
    intro m mv a b sn hn hr hm
    have hnone : ∀ s, ι h.nx s = none := fun s => S.beyond _ s (Nat.le_refl _)
    have hle := Inj.add_le ι h.nx 0 ⟨w.heap.size, 0, 0, 0, 0, undef⟩ (hnone 0)
    obtain ⟨q1, q2⟩ := S.new (w' := { w with heap := w.heap.push (.mapIter mv a sn.toArray b) }) hn (o := .miter m a sn b) (l := ⟨w.heap.size, 0, 0, 0, 0, undef⟩) ⟨Nat.le_refl _, by simp⟩ (by simp) (fun b hb => by simp [Array.getElem?_push, Nat.ne_of_lt hb]) ⟨rfl, rfl, rfl⟩
      ⟨fun s' hs => by rw [Inj.add_other _ _ _ _ (by omega)]; exact hnone s', _, Inj.add_same _ _ _ _, rfl, by
        rcases hm with ⟨rfl, rfl⟩ | ⟨gm, lm, rfl, rfl, hg⟩
        · exact .inl ⟨rfl, a, sn.toArray, b, by simp⟩
        · exact .inr ⟨gm, lm, rfl, hle _ _ _ hg, by simp⟩⟩
    exact ⟨_, _, _, hr, q1, .ptr (Inj.add_same _ _ _ _) (Nat.le_refl _) (Nat.le_refl _) rfl (by simp), q2⟩
  unfold rangeA at hr
  rcases AV.onMapNul_inv hr n with ⟨g, ex, h1⟩ | ⟨t', ex, h1⟩
  · subst ex
    cases hx with
    | @map _ l hl =>
    obtain ⟨es, clock, ho, h2⟩ := onMap_inv h1 n
    rw [H.new_eq] at h2
    split at h2
    · rename_i hn
      obtain ⟨_, X, hX, _⟩ := S.map_ hl ho
      refine ⟨.pointer (some ⟨w.heap.size, 0, none⟩), _, ?_, fin (sn := []) (mv := some l.b) hn h2 (.inr ⟨g, l, rfl, rfl, hl⟩)⟩
      simp only [Instr.range, Sem.run_bind, underlying_run ht, Result.andThen, getObj_map hX, Sem.run_pure, newObj, Sem.run]
    · exact absurd h2 n
  · subst ex
    obtain ⟨hk, h2⟩ := ifB_inv h1 n
    have := nkEq_inv hk
    subst this
    cases hx
    rw [H.new_eq] at h2
    split at h2
    · rename_i hn
      refine ⟨.pointer (some ⟨w.heap.size, 0, none⟩), _, ?_, fin (sn := []) (mv := none) hn h2 (.inl ⟨rfl, rfl⟩)⟩
      simp only [Instr.range, Sem.run_bind, underlying_run ht, Result.andThen, Sem.run_pure, newObj, Sem.run]
    · exact absurd h2 n
theorem choose_one (w : World) : ∃ w1, (choose (.mapNext 1)).run P w = .ok 0 w1 ∧ w1.heap = w.heap ∧ SameExt w w1 := by
  rw [run_choose]
  split
  · exact ⟨w, rfl, rfl, rfl, rfl, rfl⟩
  · refine ⟨{ w with drawn := w.drawn + 1 }, ?_, rfl, rfl, rfl, rfl⟩
    have : (Question.mapNext 1).cut (w.tape w.drawn (Question.mapNext 1)) = 0 := by
      show _ % 1 = 0
      omega
    rw [this]
theorem nextMap_ok {x : AV} {xv : Value} {ty : TypeId} {k : AV → H → β} (hr : nextA x h k s = r) (n : s ≠ r) (S : Sim ι h w) (hx : RV ι x xv) : ∃ u w', (Instr.next xv false ty).run P w = .ok u w' ∧ PostK ι h w k r u w' := by
  unfold nextA at hr
  obtain ⟨g, e, i, ub, ex, h1⟩ := AV.onPtr_inv hr n
  subst ex
  obtain ⟨he, h2⟩ := eqN_inv h1 n
  obtain ⟨hi, h3⟩ := eqN_inv h2 n
  subst he; subst hi
  obtain ⟨m, since, seen, last, ho, h4⟩ := onMiter_inv h3 n
  cases hx with
  | @ptr _ _ _ _ o l hl a1 a2 a3 a4 =>
  have hobj := S.obj g (S.small hl)
  rw [ho] at hobj
  obtain ⟨hs0, l', hl', hd, hit⟩ := hobj
  rw [hl] at hl'; cases hl'
  have ho0 : o = 0 := by rw [hd] at a3; omega
  subst ho0
  have over : RV ι (.tup [.bool false]) (.tuple #[.bool false]) := .tup (.cons (.bool false) .nil)
  rcases hit with ⟨hm, a, b, c, hw⟩ | ⟨gm, lm, hm, hgm, hw⟩
  · subst hm
    exact ⟨_, w, by simp only [Instr.next, Sem.run_bind, getObj_it hw, Result.andThen, Sem.run_pure], PostK.same S h4 over⟩
  · subst hm
    obtain ⟨es, clock, hom, h5⟩ := onMap_inv (h4 : (h.obj gm).onMap _ s = r) n
    obtain ⟨hchk, h6⟩ := ifB_inv h5 n
    obtain ⟨_, X, hX, hE⟩ := S.map_ hgm hom
    have hleft := leftME_ok (seen := seen) hE
    have hold := anyOld_ok (last := last) hE
    have hemp := isEmpty_ok hE
    rw [ifB_eq, ifB_eq, isNilL_ok, isNilL_ok, hold, hemp] at hchk
    have hno : (!seen.toArray.isEmpty && !X.isEmpty && X.all (fun e => decide (e.born ≥ last))) = false := by
      have e1 : seen.toArray.isEmpty = seen.isEmpty := by simp
      have e2 : X.isEmpty = X.toList.isEmpty := by simp
      rw [e1, e2]
      cases hq1 : seen.isEmpty with
      | true => rfl
      | false =>
        cases hq2 : X.toList.isEmpty with
        | true => rfl
        | false =>
          rw [hq1, hq2] at hchk
          simp only [Bool.false_eq_true, if_false] at hchk
          simp only [Bool.not_false, Bool.true_and]
          rw [Bool.eq_false_iff]
          intro hall
          rw [List.any_eq_true] at hchk
          obtain ⟨y, hy, hlt⟩ := hchk
          rw [Array.all_eq_true_iff_forall_mem] at hall
          have := hall y (by simpa using hy)
          have h7 := of_decide_eq_true this
          have h8 := of_decide_eq_true hlt
          omega
    have hfil : (X.filter fun e => !seen.toArray.contains e.born).toList = X.toList.filter fun e => !seen.contains e.born := by simp
    generalize hL : leftME seen es = L at h6 hleft
    generalize hF : X.toList.filter (fun e => !seen.contains e.born) = F at hleft hfil
    cases hleft with
    | nil =>
      obtain ⟨w1, c1, c2, c3⟩ := choose_one (P := P) w
      have hz : X.filter (fun e => !seen.toArray.contains e.born) = #[] := by
        apply Array.toList_inj.1
        rw [hfil]
      refine ⟨.tuple #[.bool false], w1, ?_, ⟨_, h, ι, h6, S.drawn c2, over, Grows.drawn c2 c3⟩⟩
      simp only [Instr.next, Sem.run_bind, getObj_it hw, getObj_map hX, Result.andThen, hno, Bool.false_eq_true, if_false, hz, Sem.run_pure]
      simp [c1]
    | @cons e0 x0 l0 m0 k1 k2 k3 k4 =>
      cases k4 with
      | cons _ _ _ _ => exact absurd h6 n
      | nil =>
        obtain ⟨hborn, h7⟩ := le_inv (h6 : le (Nat.succ e0.born) since _ s = r) n
        rw [H.put_eq, snocN_ok] at h7
        obtain ⟨w1, c1, c2, c3⟩ := choose_one (P := P) w
        have hz : X.filter (fun e => !seen.toArray.contains e.born) = #[x0] := by
          apply Array.toList_inj.1
          rw [hfil]
        have hb : x0.born < since := by rw [← k3]; exact hborn
        have hlt := S.inw _ _ _ hl
        have hw1 : w1.heap[l.b]? = some (.mapIter (some lm.b) since seen.toArray last) := by rw [c2]; exact hw
        have hat : ∀ b, ({ w1 with heap := w1.heap.setIfInBounds l.b (.mapIter (some lm.b) since (seen ++ [x0.born]).toArray clock) } : World).heap[b]? = if l.b = b then some (.mapIter (some lm.b) since (seen ++ [x0.born]).toArray clock) else w.heap[b]? := fun b => by
          rw [heap_set (by rw [c2]; exact hlt), c2]
        obtain ⟨q1, q2⟩ := S.put (ι' := ι) (w' := { w1 with heap := w1.heap.setIfInBounds l.b (.mapIter (some lm.b) since (seen ++ [x0.born]).toArray clock) }) (o := .miter (some gm) since (seen ++ [e0.born]) clock) (S.small hl) (fun _ _ _ => rfl) (Inj.le_refl ι) (fun s l e n => by rw [e] at n; cases n) (fun s s' a b c d => absurd c a) (by simp [c2])
          (fun b hb' hn => by rw [hat, if_neg (hn 0 l hl)]) c3 (by rw [ho]; trivial) ⟨hs0, l, hl, hd, .inr ⟨gm, lm, rfl, hgm, by rw [hat, if_pos rfl, k3]⟩⟩
        refine ⟨.tuple #[.bool true, x0.key, x0.val], _, ?_, ⟨_, _, ι, h7, q1, .tup (.cons (.bool true) (.cons k1 (.cons k2 .nil))), q2⟩⟩
        have hso : (setObj l.b (.mapIter (some lm.b) since (seen ++ [x0.born]).toArray clock)).run P w1 = .ok () { w1 with heap := w1.heap.setIfInBounds l.b (.mapIter (some lm.b) since (seen ++ [x0.born]).toArray clock) } := by
          simp only [setObj, Sem.run, hw1]
        simp only [Instr.next, Sem.run_bind, getObj_it hw, getObj_map hX, Result.andThen, hno, Bool.false_eq_true, if_false, hz, Sem.run_pure]
        simp [hb, show ¬ since ≤ x0.born by omega, c1]
        rw [hso]
        rfl
theorem lastN_inv : ∀ {l : List Nat} {k : Nat → β}, lastN l k s = r → s ≠ r → ∃ t, l.getLast? = some t ∧ k t = r
  | [], _, hr, n => absurd hr n
  | [x], _, hr, _ => ⟨x, rfl, hr⟩
  | x :: y :: l, k, hr, n => by
    obtain ⟨t, h1, h2⟩ := lastN_inv (l := y :: l) (k := k) hr n
    exact ⟨t, by rw [List.getLast?_cons_cons]; exact h1, h2⟩
theorem findBorn_ok {t : Nat} {k : ME → β} (n : s ≠ r) : ∀ {es : List ME} {X : List MapEntry}, MEs ι es X → findBorn t es k s = r → ∃ e x, X.find? (fun y => y.born == t) = some x ∧ RV ι e.k x.key ∧ RV ι e.v x.val ∧ k e = r
  | [], [], .nil, hr => absurd hr n
  | e :: es, x :: X, .cons h1 h2 h3 h4, hr => by
    have hr : eqN e.born t (k e) (findBorn t es k s) = r := hr
    rw [eqN_eq] at hr
    rw [List.find?_cons]
    by_cases hb : e.born = t
    · rw [if_pos hb] at hr
      have : (x.born == t) = true := by rw [← h3]; simpa using hb
      rw [this]
      exact ⟨e, x, rfl, h1, h2, hr⟩
    · rw [if_neg hb] at hr
      have : (x.born == t) = false := by rw [← h3]; simpa using hb
      rw [this]
      exact findBorn_ok n h4 hr
theorem entryMap_ok {x : AV} {xv : Value} {k : AV → H → β} (hr : entryA x h k s = r) (n : s ≠ r) (S : Sim ι h w) (hx : RV ι x xv) : ∃ u w', (Instr.entry xv).run P w = .ok u w' ∧ PostK ι h w k r u w' := by
  unfold entryA at hr
  obtain ⟨g, e, i, ub, ex, h1⟩ := AV.onPtr_inv hr n
  subst ex
  obtain ⟨he, h2⟩ := eqN_inv h1 n
  obtain ⟨hi, h3⟩ := eqN_inv h2 n
  subst he; subst hi
  obtain ⟨m, since, seen, last, ho, h4⟩ := onMiter_inv h3 n
  cases hx with
  | @ptr _ _ _ _ o l hl a1 a2 a3 a4 =>
  have hobj := S.obj g (S.small hl)
  rw [ho] at hobj
  obtain ⟨hs0, l', hl', hd, hit⟩ := hobj
  rw [hl] at hl'; cases hl'
  have ho0 : o = 0 := by rw [hd] at a3; omega
  subst ho0
  rcases hit with ⟨hm, a, b, c, hw⟩ | ⟨gm, lm, hm, hgm, hw⟩
  · subst hm; exact absurd h4 n
  · subst hm
    obtain ⟨t, hlast, h5⟩ := lastN_inv (h4 : lastN seen _ s = r) n
    obtain ⟨es, clock, hom, h6⟩ := onMap_inv h5 n
    obtain ⟨hck, h7⟩ := eqN_inv h6 n
    subst hck
    obtain ⟨_, X, hX, hE⟩ := S.map_ hgm hom
    obtain ⟨e0, x0, f1, f2, f3, h8⟩ := findBorn_ok n hE h7
    have hb : seen.toArray.back? = some t := by rw [List.back?_toArray]; exact hlast
    have hf : X.find? (fun y => y.born == t) = some x0 := by rw [← Array.find?_toList]; exact f1
    refine ⟨.tuple #[x0.key, x0.val], w, ?_, PostK.same S h8 (.tup (.cons f2 (.cons f3 .nil)))⟩
    simp only [Instr.entry, Sem.run_bind, getObj_it hw, getObj_map hX, Result.andThen, hb, hf, bne_self_eq_false, Bool.false_eq_true, if_false, Sem.run_pure]
end
/-! ### Rules -/
section
/-- Names alone. -/
def names (σ : List Value) : Inj := fun g s => if g = 0 ∧ s % 2 = 0 then (σ[s / 2]?).map (fun v => (⟨0, 0, 0, 0, 0, v⟩ : Loc)) else none
theorem names_even (σ : List Value) (n : Nat) : names σ 0 (2 * n) = (σ[n]?).map (fun v => (⟨0, 0, 0, 0, 0, v⟩ : Loc)) := by
  unfold names
  rw [if_pos ⟨rfl, by omega⟩, show 2 * n / 2 = n by omega]
def det1 (x : AV) : Bool := match x with
  | .int _ _ | .bool _ | .str _ _ | .nul _ | .raw _ | .sx _ _ | .sym _ _ _ _ => true
  | .fn _ a b => nilB a && nilB b
  | _ => false
def detA (x : AV) : Bool := match x with | .agg l => l.all det1 | .tup l => l.all det1 | x => det1 x
def detL (l : List AV) : Bool := l.all detA
def stat1 (x : AV) : Bool := match x with | .sx k _ => !(k == 2) | _ => true
def statA (x : AV) : Bool := match x with | .agg l => l.all stat1 | .tup l => l.all stat1 | x => stat1 x
/-- The names of memory that is out of sight are σ. -/
def NamesOf (ι : Inj) (σ : List Value) : Prop := (∀ n v, σ[n]? = some v → ∃ l, ι 0 (2 * n) = some l ∧ l.v = v) ∧ ∀ n, σ.length ≤ n → ι 0 (2 * n) = none
theorem NamesOf.get {ι : Inj} {σ : List Value} (h : NamesOf ι σ) {n : Nat} {l : Loc} (hl : ι 0 (2 * n) = some l) : σ[n]? = some l.v := by
  by_cases hn : n < σ.length
  · obtain ⟨l', h1, h2⟩ := h.1 n σ[n] (by simp [hn])
    rw [hl] at h1
    cases h1
    simp [hn, h2]
  · rw [h.2 n (by omega)] at hl
    cases hl
theorem names_sx2 {σ : List Value} {n : Nat} {v : Value} (h : σ[n]? = some v) (ho : rawOne v = true) : RV (names σ) (.sx 2 n) v := by
  have h1 : names σ 0 (2 * n) = some ⟨0, 0, 0, 0, 0, v⟩ := by rw [names_even, h]; rfl
  exact RV.sx2 (l := ⟨0, 0, 0, 0, 0, v⟩) h1 ho
theorem rvl_nil_any {ι ι' : Inj} {m : List Value} (h : RVL ι [] m) : RVL ι' [] m := by cases h; exact .nil
theorem to_names1 {ι : Inj} {σ : List Value} (h : NamesOf ι σ) {x : AV} {u : Value} (hx : RV ι x u) (hd : det1 x = true) : RV (names σ) x u := by
  cases hx with
  | int k n => exact .int k n
  | bool b => exact .bool b
  | str s => exact .str s
  | nulp => exact .nulp
  | nuls => exact .nuls
  | nulm => exact .nulm
  | nulf => exact .nulf
  | nuli => exact .nuli
  | raw => exact .raw _
  | sym i d lo hi a b => exact .sym i d lo hi a b
  | any => exact .any _ _
  | sx1 n ho => exact .sx1 n ho
  | sx2 hl ho => exact names_sx2 (h.get hl) ho
  | fn ha hb =>
    simp only [det1, Bool.and_eq_true] at hd
    cases nilB_ok hd.1
    cases nilB_ok hd.2
    exact .fn (rvl_nil_any ha) (rvl_nil_any hb)
  | _ => cases hd
theorem of_names1 {ι : Inj} {σ : List Value} (h : NamesOf ι σ) {x : AV} {u : Value} (hx : RV (names σ) x u) (hd : det1 x = true) : RV ι x u := by
  cases hx with
  | int k n => exact .int k n
  | bool b => exact .bool b
  | str s => exact .str s
  | nulp => exact .nulp
  | nuls => exact .nuls
  | nulm => exact .nulm
  | nulf => exact .nulf
  | nuli => exact .nuli
  | raw => exact .raw _
  | sym i d lo hi a b => exact .sym i d lo hi a b
  | any => exact .any _ _
  | sx1 n ho => exact .sx1 n ho
  | @sx2 n l hl ho =>
    rw [names_even] at hl
    cases hs : σ[n]? with
    | none => rw [hs] at hl; cases hl
    | some v =>
      rw [hs] at hl
      cases hl
      obtain ⟨l', h1, h2⟩ := h.1 n v hs
      have h3 := RV.sx2 h1 (by rw [h2]; exact ho)
      rw [h2] at h3
      exact h3
  | fn ha hb =>
    simp only [det1, Bool.and_eq_true] at hd
    cases nilB_ok hd.1
    cases nilB_ok hd.2
    exact .fn (rvl_nil_any ha) (rvl_nil_any hb)
  | _ => cases hd
theorem to_namesL1 {ι : Inj} {σ : List Value} (h : NamesOf ι σ) : ∀ {l : List AV} {us : List Value}, RVL ι l us → l.all det1 = true → RVL (names σ) l us
  | _, _, .nil, _ => .nil
  | _, _, .cons h1 h2, hd => by
    simp only [List.all_cons, Bool.and_eq_true] at hd
    exact .cons (to_names1 h h1 hd.1) (to_namesL1 h h2 hd.2)
theorem of_namesL1 {ι : Inj} {σ : List Value} (h : NamesOf ι σ) : ∀ {l : List AV} {us : List Value}, RVL (names σ) l us → l.all det1 = true → RVL ι l us
  | _, _, .nil, _ => .nil
  | _, _, .cons h1 h2, hd => by
    simp only [List.all_cons, Bool.and_eq_true] at hd
    exact .cons (of_names1 h h1 hd.1) (of_namesL1 h h2 hd.2)
theorem to_names {ι : Inj} {σ : List Value} (h : NamesOf ι σ) {x : AV} {u : Value} (hx : RV ι x u) (hd : detA x = true) : RV (names σ) x u := by
  cases x with
  | agg l => cases hx with | agg hl => exact .agg (to_namesL1 h hl hd)
  | tup l => cases hx with | tup hl => exact .tup (to_namesL1 h hl hd)
  | _ => exact to_names1 h hx hd
theorem of_names {ι : Inj} {σ : List Value} (h : NamesOf ι σ) {x : AV} {u : Value} (hx : RV (names σ) x u) (hd : detA x = true) : RV ι x u := by
  cases x with
  | agg l => cases hx with | agg hl => exact .agg (of_namesL1 h hl hd)
  | tup l => cases hx with | tup hl => exact .tup (of_namesL1 h hl hd)
  | _ => exact of_names1 h hx hd
theorem to_namesL {ι : Inj} {σ : List Value} (h : NamesOf ι σ) : ∀ {l : List AV} {us : List Value}, RVL ι l us → detL l = true → RVL (names σ) l us
  | _, _, .nil, _ => .nil
  | _, _, .cons h1 h2, hd => by
    simp only [detL, List.all_cons, Bool.and_eq_true] at hd
    exact .cons (to_names h h1 hd.1) (to_namesL h h2 hd.2)
theorem of_namesL {ι : Inj} {σ : List Value} (h : NamesOf ι σ) : ∀ {l : List AV} {us : List Value}, RVL (names σ) l us → detL l = true → RVL ι l us
  | _, _, .nil, _ => .nil
  | _, _, .cons h1 h2, hd => by
    simp only [detL, List.all_cons, Bool.and_eq_true] at hd
    exact .cons (of_names h h1 hd.1) (of_namesL h h2 hd.2)
/-- What is static is told by no names. -/
theorem stat_names1 {ι ι' : Inj} {x : AV} {u : Value} (hx : RV ι x u) (hd : det1 x = true) (hs : stat1 x = true) : RV ι' x u := by
  cases hx with
  | int k n => exact .int k n
  | bool b => exact .bool b
  | str s => exact .str s
  | nulp => exact .nulp
  | nuls => exact .nuls
  | nulm => exact .nulm
  | nulf => exact .nulf
  | nuli => exact .nuli
  | raw => exact .raw _
  | sym i d lo hi a b => exact .sym i d lo hi a b
  | any => exact .any _ _
  | sx1 n ho => exact .sx1 n ho
  | sx2 hl ho => cases hs
  | fn ha hb =>
    simp only [det1, Bool.and_eq_true] at hd
    cases nilB_ok hd.1
    cases nilB_ok hd.2
    exact .fn (rvl_nil_any ha) (rvl_nil_any hb)
  | _ => cases hd
theorem stat_namesL1 {ι ι' : Inj} : ∀ {l : List AV} {us : List Value}, RVL ι l us → l.all det1 = true → l.all stat1 = true → RVL ι' l us
  | _, _, .nil, _, _ => .nil
  | _, _, .cons h1 h2, hd, hs => by
    simp only [List.all_cons, Bool.and_eq_true] at hd hs
    exact .cons (stat_names1 h1 hd.1 hs.1) (stat_namesL1 h2 hd.2 hs.2)
theorem stat_names {ι ι' : Inj} {x : AV} {u : Value} (hx : RV ι x u) (hd : detA x = true) (hs : statA x = true) : RV ι' x u := by
  cases x with
  | agg l => cases hx with | agg hl => exact .agg (stat_namesL1 hl hd hs)
  | tup l => cases hx with | tup hl => exact .tup (stat_namesL1 hl hd hs)
  | _ => exact stat_names1 hx hd hs
theorem stat_namesL {ι ι' : Inj} : ∀ {l : List AV} {us : List Value}, RVL ι l us → detL l = true → l.all statA = true → RVL ι' l us
  | _, _, .nil, _, _ => .nil
  | _, _, .cons h1 h2, hd, hs => by
    simp only [detL, List.all_cons, Bool.and_eq_true] at hd hs
    exact .cons (stat_names h1 hd.1 hs.1) (stat_namesL h2 hd.2 hs.2)

/-! ### What memory out of sight comes to -/
/-- From a state to another: what was there else is as it was. -/
structure Eff (k0 : Nat) (σ : List Value) (w : World) (k1 : Nat) (σ' : List Value) (w' : World) : Prop where
  ext : Env.ext k1 σ' w'
  size : w.heap.size ≤ w'.heap.size
  keep : ∀ b, b < w.heap.size → ¬ Env.foot k0 σ b → w'.heap[b]? = w.heap[b]?
  foot : ∀ b, Env.foot k1 σ' b → Env.foot k0 σ b ∨ w.heap.size ≤ b
  same : SameExt w w'
open Classical in
theorem Sim.ghost {ι : Inj} {h : H} {w w' : World} (S : Sim ι h w) {g k0 k1 : Nat} {σ vs : List Value} (hg : g < h.nx) (ho : h.obj g = .ghost k0)
    (h1 : ∀ n v, σ[n]? = some v → ∃ l, ι g (2 * n) = some l ∧ l.v = v) (h2 : ∀ n, σ.length ≤ n → ι g (2 * n) = none) (h3 : ∀ b, Env.foot k0 σ b → ∃ l, ι g (2 * b + 1) = some l ∧ l.b = b) (h4 : ∀ s l, ι g s = some l → l.d = 0) (h5 : ∀ b l, ι g (2 * b + 1) = some l → l.b = b)
    (E : Eff k0 σ w k1 (σ ++ vs) w') : ∃ ι', Sim ι' (h.putv g (.ghost k1)) w' ∧ Grows ι h w ι' (h.putv g (.ghost k1)) w' ∧ (∀ n v, (σ ++ vs)[n]? = some v → ∃ l, ι' g (2 * n) = some l ∧ l.v = v) ∧ (∀ n, (σ ++ vs).length ≤ n → ι' g (2 * n) = none) := by
  obtain ⟨b0, hb0⟩ := Env.pos _ _ _ E.ext
  have hlow := Env.low _ _ _ E.ext
  have hnx := S.nx
  let ι' : Inj := fun g' s => if g' = g then (match ι g s with
    | some l => some l
    | none => if s % 2 = 0 then ((σ ++ vs)[s / 2]?).map (fun v => (⟨b0, 0, 0, 0, 0, v⟩ : Loc)) else if Env.foot k1 (σ ++ vs) (s / 2) then some ⟨s / 2, 0, 0, 0, 0, undef⟩ else none) else ι g' s
  have ein : ∀ s, ι' g s = (match ι g s with
    | some l => some l
    | none => if s % 2 = 0 then ((σ ++ vs)[s / 2]?).map (fun v => (⟨b0, 0, 0, 0, 0, v⟩ : Loc)) else if Env.foot k1 (σ ++ vs) (s / 2) then some ⟨s / 2, 0, 0, 0, 0, undef⟩ else none) := fun s => if_pos rfl
  have eout : ∀ g' s, g' ≠ g → ι' g' s = ι g' s := fun g' s hne => if_neg hne
  have hle : Inj.le ι ι' := by
    intro g' s l hl
    by_cases e : g' = g
    · subst e; rw [ein, hl]
    · rw [eout _ _ e]; exact hl
  -- a place that is new
  have hnew : ∀ s l, ι' g s = some l → ι g s = some l ∨ (ι g s = none ∧ l.d = 0 ∧ l.b < w'.heap.size ∧ (w.heap.size ≤ l.b ∨ ∃ s0 l0, ι g s0 = some l0 ∧ l0.b = l.b)) := by
    intro s l hl
    rw [ein] at hl
    cases hs : ι g s with
    | some l0 => rw [hs] at hl; exact .inl hl
    | none =>
      rw [hs] at hl
      right
      have fb : ∀ b, Env.foot k1 (σ ++ vs) b → b < w'.heap.size ∧ (w.heap.size ≤ b ∨ ∃ s0 l0, ι g s0 = some l0 ∧ l0.b = b) := fun b hb => ⟨hlow b hb, by
        rcases E.foot b hb with q | q
        · obtain ⟨l0, q1, q2⟩ := h3 b q
          exact .inr ⟨_, l0, q1, q2⟩
        · exact .inl q⟩
      by_cases hev : s % 2 = 0
      · simp only [hev, if_true] at hl
        cases hv : (σ ++ vs)[s / 2]? with
        | none => rw [hv] at hl; cases hl
        | some v =>
          rw [hv] at hl
          cases hl
          exact ⟨rfl, rfl, (fb b0 hb0).1, (fb b0 hb0).2⟩
      · simp only [hev, if_false] at hl
        split at hl
        · rename_i hf
          cases hl
          exact ⟨rfl, rfl, (fb _ hf).1, (fb _ hf).2⟩
        · cases hl
  have hblk : ∀ b, b < w.heap.size → (∀ s l, ι g s = some l → l.b ≠ b) → w'.heap[b]? = w.heap[b]? := fun b hb hn => E.keep b hb fun hf => by
    obtain ⟨l, q1, q2⟩ := h3 b hf
    exact hn _ l q1 q2
  have hwr : (h.obj g).wr := by rw [ho]; trivial
  have hsym : ∀ n v, (σ ++ vs)[n]? = some v → ∃ l, ι' g (2 * n) = some l ∧ l.v = v := by
    intro n v hv
    by_cases hn : n < σ.length
    · have hv' : σ[n]? = some v := by rw [List.getElem?_append_left hn] at hv; exact hv
      obtain ⟨l, q1, q2⟩ := h1 n v hv'
      exact ⟨l, hle _ _ _ q1, q2⟩
    · refine ⟨⟨b0, 0, 0, 0, 0, v⟩, ?_, rfl⟩
      rw [ein, h2 n (by omega)]
      simp only [show 2 * n % 2 = 0 by omega, show 2 * n / 2 = n by omega, if_true, hv, Option.map_some]
  have hnone : ∀ n, (σ ++ vs).length ≤ n → ι' g (2 * n) = none := by
    intro n hn
    rw [ein, h2 n (by simp at hn; omega)]
    simp only [show 2 * n % 2 = 0 by omega, show 2 * n / 2 = n by omega, if_true, List.getElem?_eq_none hn, Option.map_none]
  have hd0 : ∀ s l, ι' g s = some l → l.d = 0 := fun s l hl => by
    rcases hnew s l hl with q | q
    · exact h4 s l q
    · exact q.2.1
  refine ⟨ι', ⟨hnx, ?_, ?_, ?_, ?_⟩, ⟨hle, Nat.le_refl _, E.size, ?_, ?_, ?_, ?_, E.same⟩, hsym, hnone⟩
  · intro g' s hg'
    have hne : g' ≠ g := by have : h.nx ≤ g' := hg'; omega
    rw [eout _ _ hne]
    exact S.beyond g' s hg'
  · intro g1 s1 l1 g2 s2 l2 e1 e2 hb
    by_cases q1 : g1 = g
    · subst q1
      by_cases q2 : g2 = g1
      · subst q2
        exact ⟨rfl, (hd0 _ _ e1).trans (hd0 _ _ e2).symm⟩
      · exfalso
        rw [eout _ _ q2] at e2
        rcases hnew _ _ e1 with k | ⟨_, _, _, k | ⟨s0, l0, k, k2⟩⟩
        · exact q2 (S.inj _ _ _ _ _ _ k e2 hb).1.symm
        · have := S.inw _ _ _ e2; omega
        · exact q2 (S.inj _ _ _ _ _ _ k e2 (k2.trans hb)).1.symm
    · rw [eout _ _ q1] at e1
      by_cases q2 : g2 = g
      · subst q2
        exfalso
        rcases hnew _ _ e2 with k | ⟨_, _, _, k | ⟨s0, l0, k, k2⟩⟩
        · exact q1 (S.inj _ _ _ _ _ _ e1 k hb).1
        · have := S.inw _ _ _ e1; omega
        · exact q1 (S.inj _ _ _ _ _ _ e1 k (hb.trans k2.symm)).1
      · rw [eout _ _ q2] at e2
        exact S.inj _ _ _ _ _ _ e1 e2 hb
  · intro g' s l e
    by_cases q : g' = g
    · subst q
      rcases hnew _ _ e with k | ⟨_, _, k, _⟩
      · exact Nat.lt_of_lt_of_le (S.inw _ _ _ k) E.size
      · exact k
    · rw [eout _ _ q] at e
      exact Nat.lt_of_lt_of_le (S.inw _ _ _ e) E.size
  · intro g' hg'
    have hg'' : g' < h.nx := hg'
    rw [H.obj_putv h g g' _ (by omega) (by omega)]
    by_cases e : g = g'
    · subst e
      rw [if_pos rfl]
      refine ⟨σ ++ vs, E.ext, hsym, hnone, fun b hf => ?_, hd0, fun b l hl => ?_⟩
      · cases hs : ι g (2 * b + 1) with
        | some l => exact ⟨l, hle _ _ _ hs, h5 b l hs⟩
        | none =>
          refine ⟨⟨b, 0, 0, 0, 0, undef⟩, ?_, rfl⟩
          rw [ein, hs]
          simp only [show ¬ (2 * b + 1) % 2 = 0 by omega, show (2 * b + 1) / 2 = b by omega, if_false, if_pos hf]
      · rw [ein] at hl
        cases hs : ι g (2 * b + 1) with
        | some l0 => rw [hs] at hl; cases hl; exact h5 b _ hs
        | none =>
          rw [hs] at hl
          simp only [show ¬ (2 * b + 1) % 2 = 0 by omega, show (2 * b + 1) / 2 = b by omega, if_false] at hl
          split at hl
          · cases hl; rfl
          · cases hl
    · rw [if_neg e]
      exact objOk_keep (S.obj g' hg'') hle (fun s => eout _ _ (Ne.symm e)) (fun s l hl => hblk _ (S.inw _ _ _ hl) fun s' l' hl' hb => e (S.inj _ _ _ _ _ _ hl' hl hb).1)
  · intro g' s l e n
    by_cases q : g' = g
    · subst q
      rcases hnew _ _ e with k | ⟨_, _, _, k | ⟨s0, l0, k, k2⟩⟩
      · rw [n] at k; cases k
      · exact .inl k
      · exact .inr ⟨s0, l0, k, k2, hwr⟩
    · rw [eout _ _ q, n] at e
      cases e
  · intro g' hg' hw
    rw [H.obj_putv h g g' _ (by omega) (by omega)] at hw
    by_cases e : g = g'
    · subst e; exact hwr
    · rw [if_neg e] at hw; exact hw
  · intro b hb hn
    exact hblk b hb fun s l hl => hn g s l hg hwr hl
  · intro g' hg' hno
    have hne : g' ≠ g := by intro e; subst e; rw [ho] at hno; cases hno
    rw [H.obj_putv h g g' _ (by omega) (by omega), if_neg (Ne.symm hne)]
    exact ⟨hno, fun s => eout _ _ hne⟩
theorem curG_ok {h : H} {k : Nat} (hc : curG h = some k) : 0 < h.nx ∧ h.obj 0 = .ghost k := by
  obtain ⟨t, nx⟩ := h
  have hc : le 1 nx ((H.obj ⟨t, nx⟩ 0).onGhost some none) none = some k := hc
  obtain ⟨h1, h2⟩ := le_inv hc (by simp)
  obtain ⟨m, h3, h4⟩ := onGhost_inv h2 (by simp)
  cases h4
  exact ⟨h1, h3⟩

/-! ### What a rule says -/
def SOp.sem (so : SOp) (us : List Value) : Sem Next :=
  match so, us with
  | .bin op t, [x, y] => do pure (.value (← binOp op t x y))
  | .un op _, [x] => do pure (.value (← Op.unary op x))
  | .conv s d, [x] => do pure (.value (← convert s d x))
  | .slc t 0, [x] => do pure (.value (← Instr.sliceAt t x none none none))
  | .slc t 1, [x, l] => do pure (.value (← Instr.sliceAt t x (some l) none none))
  | .slc t 2, [x, h] => do pure (.value (← Instr.sliceAt t x none (some h) none))
  | .slc t 3, [x, l, h] => do pure (.value (← Instr.sliceAt t x (some l) (some h) none))
  | .idx t, [x, i] => do pure (.value (← Instr.index t x i))
  | .idxA t, [x, i] => do pure (.value (← Instr.indexAt t x i))
  | .fldA t n, [x] => do pure (.value (← Instr.fieldAt t x n))
  | .load t, [a] => do pure (.value (← Instr.loadAt t a))
  | .store t, [a, v] => do Instr.storeAt t a v; pure .skip
  | .len t, [x] => do pure (.value (← Builtin.len_ #[t] 0 #[x]))
  | .cap t, [x] => do pure (.value (← Builtin.cap_ #[t] 0 #[x]))
  | .cap t, [x, y] => do pure (.value (← Builtin.min_ #[t] 0 #[x, y]))
  | .app t u, [x, y] => do pure (.value (← Builtin.append_ #[t, u] 0 #[x, y]))
  | .appS t u, [x, y] => do pure (.value (← Builtin.append_ #[t, u] 0 #[x, y]))
  | .nck, [x] => pure (.value x)
  | _, _ => stuck "a rule for no operation"
def guardB : Value → Value → Bool
  | .nilIface, .nilIface => false
  | .agg _, .agg _ => false
  | _, _ => true
def isAddr : Value → Bool
  | .pointer (some _) => true
  | _ => false
def guardL (so : SOp) (us : List Value) : Bool := match so, us with | .bin _ _, [x, y] => guardB x y | .nck, [x] => isAddr x | _, _ => true
theorem guardB_ok {P : Program} {w : World} {op : BinOp} {t : TypeId} {x y : Operand} {a b : Value} (h : guardB a b = true) : (eqGuard op t x y a b).run P w = .ok () w := by
  have key : ∀ op, (eqGuard op t x y a b).run P w = .ok () w := by
    intro op
    cases a <;> cases b <;> first | (cases h; done) | (cases op <;> rfl)
  exact key op
/-- How many cells an element of a slice has. -/
def elSz (P : Program) (t : TypeId) : Nat := match P.underlying t with | some (.slice e) => ((P.info? e).map (·.size)).getD 0 | _ => 0
/-- What is appended lies there, cell by cell. -/
def Lies (P : Program) (w : World) (t : TypeId) (y : Value) (elems : List Value) : Prop := ∃ n us, (Builtin.lenOf y).run P w = .ok n w ∧ us.toList = elems ∧ n * elSz P t = elems.length ∧ ∀ w2 : World, w2.heap = w.heap → (Builtin.firstCells (elSz P t) n y).run P w2 = .ok us w2
def ResOf (ι : Inj) (a : AV) (nx : Next) : Prop := (∃ u, nx = .value u ∧ RV ι a u) ∨ (nx = .skip ∧ a = undefA)
def RunsTo (P : Program) (r : Rule) (σ : List Value) (w : World) (m : Sem Next) : Prop :=
  match r.eff with
  | none => ∃ u, m.run P w = .ok (.value u) w ∧ RV (names σ) r.res u
  | some k1 => ∃ nx w' vs k0, m.run P w = .ok nx w' ∧ ResOf (names (σ ++ vs)) r.res nx ∧ r.st = some k0 ∧ Eff k0 σ w k1 (σ ++ vs) w'
def RuleOk (P : Program) (r : Rule) : Prop := detL r.args = true ∧ detA r.res = true ∧ (r.st.isSome || (r.args.all statA && statA r.res)) = true ∧
  ∀ (σ : List Value) (w : World) (us : List Value), (∀ k0, r.st = some k0 → Env.ext k0 σ w) → RVL (names σ) r.args us → guardL r.so us = true ∧
    match r.so with
    | .app t u => ∀ x y elems, us = x :: elems → Lies P w t y elems → RunsTo P r σ w ((SOp.app t u).sem [x, y])
    | so => RunsTo P r σ w (so.sem us)
class RulesOk (P : Program) (RT : List Rule) : Prop where
  ok : ∀ r ∈ RT, RuleOk P r
instance RulesOk.nil {P : Program} : RulesOk P [] := ⟨fun _ h => by cases h⟩
end
/-! ### Every operation -/
section
variable {P : Program} {RT : List Rule} {ι : Inj} {h : H} {w : World} {β : Type} {s r : β} {G : Nat → AV} {nt : Nat} {f : Fr} {a : Act} {o : Oper} {call : CallT} {k : AV → H → β}
theorem asBool_run {b : Bool} : (asBool (.bool b)).run P w = .ok b w := rfl
/-- Does it call a function's value? -/
def callsB (o : Op) : Bool := match o with | .call c => (match c.callee with | .value _ => true | _ => false) | _ => false
/-- Does it leave memory alone? -/
def quietB (P : Program) (o : Op) : Bool := match o with
  | .move _ | .pick .. | .build .. | .load .. | .nilCheck _ | .binOp .. | .unOp .. | .makeInterface .. | .makeFunc .. | .slice .. | .fieldAddr .. | .field .. | .indexAddr .. | .index .. | .lookup .. | .typeAssert .. | .extract .. => true
  | .convert _ dst _ => (match P.underlying dst with | some (.slice _) => false | _ => true)
  | .call c => (match c.callee with | .builtin b => idleB b | _ => false)
  | _ => false
/-- How an operation ends; and that it leaves memory alone. -/
def EndsQ {β : Type} (P : Program) (o : Oper) (a : Act) (w : World) (ι : Inj) (h : H) (k : AV → H → β) (r : β) : Prop := Ends P o a w (PostK ι h w k r) ∧ (quietB P o.op = true → ∃ u v, (execOp a.eval o).run P w = .ok (.value u) w ∧ RV ι v u ∧ k v h = r)
theorem evs_ok {ι : Inj} {f : Fr} {a : Act} : ∀ l : List Operand, (∀ x ∈ l, RV ι ((evO G nt x).run f) (a.eval x)) → RVL ι ((evs G nt l).run f) (l.map a.eval)
  | [], _ => .nil
  | x :: l, h => .cons (h x (List.mem_cons_self ..)) (evs_ok l fun y hy => h y (List.mem_cons_of_mem _ hy))
theorem evParts_ok {ι : Inj} {f : Fr} {a : Act} : ∀ l : List (Nat × Operand), (∀ x ∈ l.map (·.2), RV ι ((evO G nt x).run f) (a.eval x)) → RVP ι ((evParts G nt l).run f) (l.map fun (i, x) => (i, a.eval x))
  | [], _ => .nil
  | (_, x) :: l, h => .cons (h x (List.mem_cons_self ..)) (evParts_ok l fun y hy => h y (List.mem_cons_of_mem _ hy))
theorem opB_ok (hr : (opB ⟨P, G, RT⟩ nt o.op).run β call f h k s = r) (n : s ≠ r) (ev : EvOk G nt ι f a o.op) (S : Sim ι h w) (hc : callsB o.op = false) : EndsQ P o a w ι h k r := by
  generalize hop : o.op = op at hr ev hc
  unfold EndsQ
  have V : ∀ {m : Sem Value}, quietB P o.op = false → execOp a.eval o = (do pure (.value (← m))) → (∃ u w', m.run P w = .ok u w' ∧ PostK ι h w k r u w') → Ends P o a w (PostK ι h w k r) ∧ (quietB P o.op = true → ∃ u v, (execOp a.eval o).run P w = .ok (.value u) w ∧ RV ι v u ∧ k v h = r) := fun hq he ⟨u, w', h1, h2⟩ => ⟨Ends.val he h1 h2, fun hh => by rw [hq] at hh; cases hh⟩
  have VQ : ∀ {m : Sem Value}, execOp a.eval o = (do pure (.value (← m))) → (∃ u v, m.run P w = .ok u w ∧ RV ι v u ∧ k v h = r) → Ends P o a w (PostK ι h w k r) ∧ (quietB P o.op = true → ∃ u v, (execOp a.eval o).run P w = .ok (.value u) w ∧ RV ι v u ∧ k v h = r) := fun he ⟨u, v, h1, h2, h3⟩ => ⟨Ends.val he h1 (PostK.same S h3 h2), fun _ => ⟨u, v, by rw [he]; simp only [Sem.run_bind, h1, Result.andThen, Sem.run_pure], h2, h3⟩⟩
  have VV : ∀ {u : Value} {v : AV}, (execOp a.eval o).run P w = .ok (.value u) w → RV ι v u → k v h = r → Ends P o a w (PostK ι h w k r) ∧ (quietB P o.op = true → ∃ u v, (execOp a.eval o).run P w = .ok (.value u) w ∧ RV ι v u ∧ k v h = r) := fun h1 h2 h3 => ⟨.value h1 (PostK.same S h3 h2), fun _ => ⟨_, _, h1, h2, h3⟩⟩
  have U : ∀ {m : Sem Unit}, quietB P o.op = false → execOp a.eval o = (do m; pure .skip) → (∃ w' h', m.run P w = .ok () w' ∧ Sim ι h' w' ∧ Grows ι h w ι h' w' ∧ k undefA h' = r) → Ends P o a w (PostK ι h w k r) ∧ (quietB P o.op = true → ∃ u v, (execOp a.eval o).run P w = .ok (.value u) w ∧ RV ι v u ∧ k v h = r) := fun hq he ⟨w', h', h1, h2, h3, h4⟩ => ⟨Ends.unit he h1 ⟨undefA, h', ι, h4, h2, undef_rv ι, h3⟩, fun hh => by rw [hq] at hh; cases hh⟩
  cases op with
  | move x => exact VV (by unfold execOp; rw [hop]; rfl) (ev x (by simp [Op.operands])) hr
  | assign x => exact VV (by unfold execOp; rw [hop]; rfl) (ev x (by simp [Op.operands])) hr
  | pick c x y =>
    obtain ⟨b, ec, h1⟩ := AV.onBool_inv (hr : ((evO G nt c).run f).onBool _ s = r) n
    have hcv := ev c (by simp [Op.operands])
    rw [ec] at hcv
    have hb := rv_bool hcv
    rw [ifB_eq] at h1
    refine VV (u := if b then a.eval x else a.eval y) (v := if b then (evO G nt x).run f else (evO G nt y).run f) ?_ ?_ ?_
    · unfold execOp; rw [hop]
      simp only [hb, asBool_run, Sem.run_bind, Result.andThen, Sem.run_pure]
    · cases b
      · exact ev y (by simp [Op.operands])
      · exact ev x (by simp [Op.operands])
    · cases b <;> exact h1
  | alloc t =>
    refine V (m := Instr.alloc t true (.tuple #[])) (by rw [hop]; rfl) (by unfold execOp; rw [hop]) ?_
    simp only [opB] at hr
    cases hz : (Ty.mk P G RT).zeroL t with
    | none => simp only [hz] at hr; exact absurd hr n
    | some z =>
      simp only [hz] at hr
      obtain ⟨i, zv, hi, hzv, rfl⟩ := zeroL_inv hz
      obtain ⟨A, w', e1, e2⟩ := newVar_okT (P := P) (u := zv) hr n S (ofVL_rv ι _) t (.inr (.inl rfl))
      exact ⟨_, w', by simp only [Instr.alloc, Sem.run_bind, zeroValue_run hi hzv, Result.andThen, e1, Sem.run_pure], e2⟩
  | box t x =>
    refine V (m := Instr.box t (a.eval x)) (by rw [hop]; rfl) (by unfold execOp; rw [hop]) ?_
    have h0 : ((evO G nt x).run f).cellsK (fun l => newCells h l (fun g n h => k (.ptr g 0 0 n) h) s) s = r := hr
    obtain ⟨l, hl, h1⟩ := cellsK_ok h0 n (ev x (by simp [Op.operands]))
    obtain ⟨A, w', e1, e2⟩ := newVar_ok (P := P) h1 n S hl t
    exact ⟨_, w', by simp only [Instr.box, Sem.run_bind, Result.andThen, e1, Sem.run_pure], e2⟩
  | build t ps =>
    refine VQ (m := Instr.build t (ps.map fun (i, x) => (i, a.eval x))) (by unfold execOp; rw [hop]) ?_
    have hps : RVP ι ((evParts G nt ps.toList).run f) (ps.map fun (i, x) => (i, a.eval x)).toList := by rw [Array.toList_map]; exact evParts_ok ps.toList fun y hy => ev y (by simpa [Op.operands] using hy)
    simp only [opB] at hr
    cases hz : (Ty.mk P G RT).zeroL t with
    | none => simp only [hz] at hr; exact absurd hr n
    | some z =>
      simp only [hz] at hr
      obtain ⟨i, zv, hi, hzv, rfl⟩ := zeroL_inv hz
      cases ht : P.underlying t with
      | none => simp only [ht] at hr; exact absurd hr n
      | some d =>
        simp only [ht] at hr
        cases d with
        | struct fs =>
          have hr : (bif !(fs.toList.all fun d => (Ty.mk P G RT).known d.type) then badOp else _ : OpC).run β call f h k s = r := hr
          cases hk : (fs.toList.all fun d => (Ty.mk P G RT).known d.type) with
          | false => rw [hk] at hr; exact absurd hr n
          | true =>
            rw [hk] at hr
            obtain ⟨u, l, e1, e2, e3⟩ := build_struct_ok (P := P) (w := w) ht hi hzv hk (k := fun l => k (.agg l) h) hr n hps
            exact ⟨_, _, e1, .agg e2, e3⟩
        | array m e =>
          have hr : (bif !(Ty.mk P G RT).known e then badOp else _ : OpC).run β call f h k s = r := hr
          cases hk : (Ty.mk P G RT).known e with
          | false => rw [hk] at hr; exact absurd hr n
          | true =>
            rw [hk] at hr
            obtain ⟨u, l, e1, e2, e3⟩ := build_array_ok (P := P) (w := w) ht hi hzv hk (k := fun l => k (.agg l) h) hr n hps
            exact ⟨_, _, e1, .agg e2, e3⟩
        | _ => exact absurd hr n
  | buildSlice t len ps =>
    refine V (m := Instr.buildSlice t len (ps.map fun (i, x) => (i, a.eval x))) (by rw [hop]; rfl) (by unfold execOp; rw [hop]) ?_
    have hps : RVP ι ((evParts G nt ps.toList).run f) (ps.map fun (i, x) => (i, a.eval x)).toList := by rw [Array.toList_map]; exact evParts_ok ps.toList fun y hy => ev y (by simpa [Op.operands] using hy)
    simp only [opB] at hr
    cases ht : P.underlying t with
    | none => simp only [ht] at hr; exact absurd hr n
    | some d =>
      simp only [ht] at hr
      cases d with
      | slice e =>
        simp only at hr
        cases hz : (Ty.mk P G RT).zeroL e with
        | none => simp only [hz] at hr; exact absurd hr n
        | some z =>
          simp only [hz] at hr
          obtain ⟨i, zv, hi, hzv, rfl⟩ := zeroL_inv hz
          simp only [size_eq_of hi, lenL_eq] at hr
          rw [eqN_eq] at hr
          split at hr
          · exact absurd hr n
          · cases hb : (!Nat.beq (zv.cells.toList.map AV.ofV1).length i.size || !Nat.ble (Nat.mul len i.size) 1000000) with
            | true => rw [hb] at hr; exact absurd hr n
            | false =>
              rw [hb] at hr
              simp only [Bool.or_eq_false_iff, Bool.not_eq_false'] at hb
              have hb2 : zv.cells.size = i.size := by have := Nat.eq_of_beq_eq_true hb.1; simpa using this
              exact buildSlice_ok (P := P) ht hi hzv hb2 (Nat.le_of_ble_eq_true hb.2) hr n S hps
      | _ => exact absurd hr n
  | load t p =>
    refine VQ (m := Instr.loadAt t (a.eval p)) (by unfold execOp; rw [hop]) ?_
    simp only [opB] at hr
    cases hb : (Ty.mk P G RT).aggB t with
    | none => simp only [hb] at hr; exact absurd hr n
    | some b =>
      simp only [hb] at hr
      obtain ⟨v, cv, e1, e2, e3⟩ := loadAt_ok (P := P) hb (k := fun v => k v h) (by cases b <;> exact hr) n S (ev p (by simp [Op.operands]))
      exact ⟨v, cv, e1, e2, e3⟩
  | store t p x =>
    refine U (m := Instr.storeAt t (a.eval p) (a.eval x)) (by rw [hop]; rfl) (by unfold execOp; rw [hop]) ?_
    have hr : (bif !(Ty.mk P G RT).known t then badOp else _ : OpC).run β call f h k s = r := hr
    cases hk : (Ty.mk P G RT).known t with
    | false => rw [hk] at hr; exact absurd hr n
    | true =>
      rw [hk] at hr
      exact storeAt_ok (P := P) hk (k := fun h => k undefA h) hr n S (ev p (by simp [Op.operands])) (ev x (by simp [Op.operands]))
  | nilCheck x =>
    have hx := ev x (by simp [Op.operands])
    rcases AV.onPtrMapFn_inv (hr : ((evO G nt x).run f).onPtrMapFn _ _ _ s = r) n with ⟨g, e, i, u, ex, h1⟩ | ⟨g, ex, h1⟩ | ⟨g, l, m, ex, h1⟩
    all_goals
      have hx0 := hx
      rw [ex] at hx
      generalize hav : a.eval x = av at hx hx0
      cases hx
      exact VV (by unfold execOp; rw [hop]; simp only [hav]; rfl) hx0 h1
  | binOp op t x y ty =>
    refine VQ (m := do eqGuard op t x y (a.eval x) (a.eval y); binOp op t (a.eval x) (a.eval y)) (by unfold execOp; rw [hop]) ?_
    have other : op ≠ .eql → op ≠ .neq → (binC op).run β ((evO G nt x).run f) ((evO G nt y).run f) (fun v => k v h) s = r → ∃ u v, (do eqGuard op t x y (a.eval x) (a.eval y); binOp op t (a.eval x) (a.eval y) : Sem Value).run P w = .ok u w ∧ RV ι v u ∧ k v h = r := by
      intro n1 n2 hr
      obtain ⟨u, v, e1, e2, e3⟩ := binC_ok (P := P) (w := w) hr n (ev x (by simp [Op.operands])) (ev y (by simp [Op.operands])) t
      refine ⟨u, v, ?_, e2, e3⟩
      have : (eqGuard op t x y (a.eval x) (a.eval y)).run P w = .ok () w := by cases op <;> first | rfl | exact absurd rfl n1 | exact absurd rfl n2
      simp only [Sem.run_bind, this, Result.andThen, e1]
    cases op with
    | eql =>
      have hr : (bif eqKnown ⟨P, G, RT⟩ t x y then _ else badOp : OpC).run β call f h k s = r := hr
      cases hk : eqKnown ⟨P, G, RT⟩ t x y with
      | false => rw [hk] at hr; exact absurd hr n
      | true =>
        rw [hk] at hr
        obtain ⟨b, ⟨e1, e2, e3⟩, e4⟩ := eqOp_ok (P := P) (w := w) (hr : (eqT ⟨P, G, RT⟩ 20 t).run β _ _ h (fun b => okB b fun v => k v h) s = r) n S (ev x (by simp [Op.operands])) (ev y (by simp [Op.operands])) hk
        rw [okB_eq] at e4
        exact ⟨_, _, by simp only [Sem.run_bind, e1, Result.andThen, e2], .bool b, e4⟩
    | neq =>
      have hr : (bif eqKnown ⟨P, G, RT⟩ t x y then _ else badOp : OpC).run β call f h k s = r := hr
      cases hk : eqKnown ⟨P, G, RT⟩ t x y with
      | false => rw [hk] at hr; exact absurd hr n
      | true =>
        rw [hk] at hr
        obtain ⟨b, ⟨e1, e2, e3⟩, e4⟩ := eqOp_ok (P := P) (w := w) (hr : (eqT ⟨P, G, RT⟩ 20 t).run β _ _ h (fun b => okB (!b) fun v => k v h) s = r) n S (ev x (by simp [Op.operands])) (ev y (by simp [Op.operands])) hk
        rw [okB_eq] at e4
        exact ⟨_, _, by simp only [Sem.run_bind, e1, Result.andThen, e3], .bool (!b), e4⟩
    | _ => exact other (fun hh => by cases hh) (fun hh => by cases hh) hr
  | unOp op t x =>
    refine VQ (m := Op.unary op (a.eval x)) (by unfold execOp; rw [hop]) ?_
    exact unC_ok (P := P) (w := w) (k := fun v => k v h) hr n (ev x (by simp [Op.operands]))
  | convert src dst x =>
    obtain ⟨u, w', e1, e2, e3⟩ := convC_ok (P := P) hr n S (ev x (by simp [Op.operands]))
    have hex : (execOp a.eval o).run P w = .ok (.value u) w' := by unfold execOp; rw [hop]; simp only [Sem.run_bind, e1, Result.andThen, Sem.run_pure]
    refine ⟨.value hex e2, fun hq => ?_⟩
    rw [hop] at hq
    obtain ⟨rfl, v, q1, q2⟩ := e3 (fun e he => by simp [quietB, he] at hq)
    exact ⟨u, v, hex, q1, q2⟩
  | makeInterface t x =>
    refine VQ (m := Instr.makeInterface t (a.eval x)) (by unfold execOp; rw [hop]) ?_
    simp only [opB] at hr
    cases ht : P.underlying t with
    | none => simp only [ht] at hr; exact absurd hr n
    | some d =>
      simp only [ht] at hr
      cases d with
      | interface ms => exact absurd hr n
      | _ => exact ⟨_, _, by simp only [Instr.makeInterface, Sem.run_bind, underlying_run ht, Result.andThen, Sem.run_pure], .iface (ev x (by simp [Op.operands])), hr⟩
  | makeFunc fn first captured =>
    cases fn with
    | func g =>
      refine VQ (m := Instr.makeFunc (.func g) (first.map a.eval) (captured.map a.eval)) (by unfold execOp; rw [hop]) (⟨_, _, rfl, .fn ?_ ?_, hr⟩)
      · rw [Array.toList_map]; exact evs_ok _ fun y hy => ev y (by simp only [Op.operands, Array.toList_append, List.mem_append]; exact .inl hy)
      · rw [Array.toList_map]; exact evs_ok _ fun y hy => ev y (by simp only [Op.operands, Array.toList_append, List.mem_append]; exact .inr hy)
    | _ => exact absurd hr n
  | range t x =>
    refine V (m := Instr.range t (a.eval x)) (by rw [hop]; rfl) (by unfold execOp; rw [hop]) ?_
    simp only [opB] at hr
    cases ht : P.underlying t with
    | none => simp only [ht] at hr; exact absurd hr n
    | some d =>
      cases d with
      | map kt e => simp only [ht] at hr; exact rangeMap_ok ht hr n S (ev x (by simp [Op.operands]))
      | _ => simp only [ht] at hr; exact absurd hr n
  | next it isS =>
    refine V (m := Instr.next (a.eval it) isS o.type) (by rw [hop]; rfl) (by unfold execOp; rw [hop]) ?_
    simp only [opB] at hr
    cases isS with
    | true => exact absurd hr n
    | false => exact nextMap_ok hr n S (ev it (by simp [Op.operands]))
  | entry it =>
    refine V (m := Instr.entry (a.eval it)) (by rw [hop]; rfl) (by unfold execOp; rw [hop]) ?_
    simp only [opB] at hr
    exact entryMap_ok hr n S (ev it (by simp [Op.operands]))
  | makeMap t c =>
    have go : ∀ {X : Option Value}, (X = none ∨ ∃ q m, X = some (.int q m)) → (∃ kt e, P.underlying t = some (.map kt e)) → h.new (.map [] 0) (fun g h => k (.map g) h) s = r → ∃ u w', (Instr.makeMap t X).run P w = .ok u w' ∧ PostK ι h w k r u w' := by
      intro X hX ⟨kt, e, ht⟩ hr
      rw [H.new_eq] at hr
      split at hr
      · rename_i hn
        obtain ⟨q1, q2⟩ := S.new (w' := { w with heap := w.heap.push (.map #[] 0) }) hn (o := .map [] 0) (l := ⟨w.heap.size, 0, 0, 0, 0, undef⟩) ⟨Nat.le_refl _, by simp⟩ (by simp) (fun b hb => by simp [Array.getElem?_push, Nat.ne_of_lt hb]) ⟨rfl, rfl, rfl⟩
          ⟨fun s' hs => by rw [Inj.add_other _ _ _ _ (by omega)]; exact S.beyond _ s' (Nat.le_refl _), _, Inj.add_same _ _ _ _, #[], by simp, .nil⟩
        refine ⟨.map (some w.heap.size), { w with heap := w.heap.push (.map #[] 0) }, ?_, _, _, _, hr, q1, .map (Inj.add_same _ _ _ _), q2⟩
        rcases hX with rfl | ⟨q, m, rfl⟩
        · rfl
        · simp only [Instr.makeMap, Sem.run_bind, underlying_run ht, Result.andThen, asInt, asIntOf, Sem.run_pure]; rfl
      · exact absurd hr n
    refine V (m := Instr.makeMap t (c.map a.eval)) (by rw [hop]; rfl) (by unfold execOp; rw [hop]) ?_
    simp only [opB] at hr
    cases ht : P.underlying t with
    | none => simp only [ht] at hr; exact absurd hr n
    | some d =>
      simp only [ht] at hr
      cases d with
      | map kt e =>
        cases c with
        | none => exact go (.inl rfl) ⟨kt, e, ht⟩ hr
        | some x =>
          obtain ⟨q, m, ex, h1⟩ := AV.onInt_inv (hr : ((evO G nt x).run f).onInt _ s = r) n
          have hx := ev x (by simp [Op.operands])
          rw [ex] at hx
          exact go (.inr ⟨q, m, by rw [Option.map_some, rv_int hx]⟩) ⟨kt, e, ht⟩ h1
      | _ => exact absurd hr n
  | makeSlice t l c =>
    refine V (m := Instr.makeSlice t (a.eval l) (a.eval c)) (by rw [hop]; rfl) (by unfold execOp; rw [hop]) ?_
    simp only [opB] at hr
    cases ht : P.underlying t with
    | none => simp only [ht] at hr; exact absurd hr n
    | some d =>
      simp only [ht] at hr
      cases d with
      | slice e =>
        simp only at hr
        cases hz : (Ty.mk P G RT).zeroL e with
        | none => simp only [hz] at hr; exact absurd hr n
        | some z =>
          simp only [hz] at hr
          obtain ⟨i, zv, hi, hzv, rfl⟩ := zeroL_inv hz
          simp only [size_eq_of hi, bytes_eq_of hi, lenL_eq] at hr
          cases hb : (Nat.beq i.size 0 || !Nat.beq (zv.cells.toList.map AV.ofV1).length i.size || !Nat.ble i.bytes 1000000) with
          | true => rw [hb] at hr; exact absurd hr n
          | false =>
            rw [hb] at hr
            simp only [Bool.or_eq_false_iff, Bool.not_eq_false'] at hb
            have hb2 : zv.cells.size = i.size := by have := Nat.eq_of_beq_eq_true hb.1.2; simpa using this
            obtain ⟨q1, m1, e1, h1⟩ := natOf_inv (hr : natOf ((evO G nt l).run f) _ s = r) n
            obtain ⟨q2, m2, e2, h2⟩ := natOf_inv h1 n
            obtain ⟨h3, h4⟩ := le_inv h2 n
            obtain ⟨h5, h6⟩ := le_inv h4 n
            have hl := ev l (by simp [Op.operands])
            have hc := ev c (by simp [Op.operands])
            rw [e1] at hl
            rw [e2] at hc
            rw [rv_int hl, rv_int hc]
            exact makeSlice_ok (P := P) ht hi hzv hb2 (Nat.le_of_ble_eq_true hb.2) h3 h5 h6 n S
      | _ => exact absurd hr n
  | slice t x lo hi mx => exact VQ (m := Instr.sliceAt t (a.eval x) (lo.map a.eval) (hi.map a.eval) (mx.map a.eval)) (by unfold execOp; rw [hop]) (slice_ok hr n ev S)
  | fieldAddr st x m =>
    refine VQ (m := Instr.fieldAt st (a.eval x) m) (by unfold execOp; rw [hop]) ?_
    simp only [opB] at hr
    cases ht : P.underlying st with
    | none => simp only [ht] at hr; exact absurd hr n
    | some d =>
      simp only [ht] at hr
      cases d with
      | struct fs =>
        simp only at hr
        cases hf : fs[m]? with
        | none => simp only [hf] at hr; exact absurd hr n
        | some d =>
          simp only [hf] at hr
          rw [eqN_eq] at hr
          split at hr
          · exact absurd hr n
          · rename_i hsz
            cases hi : P.info? d.type with
            | none => exact absurd (by simp [Ty.size, hi]) hsz
            | some i =>
              rw [size_eq_of hi] at hsz
              obtain ⟨g, e, j, u, ex, h1⟩ := AV.onPtr_inv (hr : ((evO G nt x).run f).onPtr _ s = r) n
              rw [forceN_eq] at h1
              have hx := ev x (by simp [Op.operands])
              rw [ex] at hx
              generalize hav : a.eval x = av at hx
              cases hx with
              | @ptr _ _ _ _ o' l hl b1 b2 b3 b4 =>
              refine ⟨.pointer (some ⟨l.b, o' + d.offset, none⟩), _, ?_, .ptr hl (Nat.le_trans b1 (Nat.le_add_right _ _)) b2 ?_ b4, h1⟩
              · simp only [Instr.fieldAt, Sem.run_bind, underlying_run ht, hf, Instr.sureAddr, Sem.run_pure, Result.andThen, fieldPlace, sizeOf_run hi, if_neg hsz, add_addr]
              · show ((j + d.offset : Nat) : Int) + l.d = ((o' + d.offset : Nat) : Int); omega
      | _ => exact absurd hr n
  | field t x m =>
    refine VQ (m := Instr.field t (a.eval x) m) (by unfold execOp; rw [hop]) ?_
    simp only [opB] at hr
    cases ht : P.underlying t with
    | none => simp only [ht] at hr; exact absurd hr n
    | some d =>
      simp only [ht] at hr
      cases d with
      | struct fs =>
        simp only at hr
        cases hf : fs[m]? with
        | none => simp only [hf] at hr; exact absurd hr n
        | some d =>
          simp only [hf] at hr
          obtain ⟨l, ex, h1⟩ := AV.onAgg_inv (hr : ((evO G nt x).run f).onAgg _ s = r) n
          have hx := ev x (by simp [Op.operands])
          rw [ex] at hx
          generalize hav : a.eval x = av at hx
          cases hx with
          | @agg _ cs hl =>
          obtain ⟨y, yv, e1, e2, e3⟩ := partA_ok (P := P) (w := w) (k := fun v => k v h) h1 n hl
          exact ⟨yv, y, by simp only [Instr.field, Sem.run_bind, underlying_run ht, hf, asAgg, Sem.run_pure, Result.andThen, e1], e2, e3⟩
      | _ => exact absurd hr n
  | indexAddr t x ix => exact VQ (m := Instr.indexAt t (a.eval x) (a.eval ix)) (by unfold execOp; rw [hop]) (indexAt_ok hr n ev S)
  | index t x ix => exact VQ (m := Instr.index t (a.eval x) (a.eval ix)) (by unfold execOp; rw [hop]) (index_ok hr n ev S)
  | lookup t x key ok =>
    refine VQ (m := Instr.lookup t (a.eval x) (a.eval key) ok) (by unfold execOp; rw [hop]) ?_
    simp only [opB] at hr
    cases ht : P.underlying t with
    | none => simp only [ht] at hr; exact absurd hr n
    | some d =>
      simp only [ht] at hr
      cases d with
      | map kt e =>
        simp only at hr
        cases hz : (Ty.mk P G RT).zero e with
        | none => simp only [hz] at hr; exact absurd hr n
        | some z =>
          simp only [hz] at hr
          obtain ⟨i, zv, hi, hzv, rfl⟩ := zero_inv hz
          exact lookup_ok (P := P) ht hi hzv (k := fun v => k v h) hr n S (ev x (by simp [Op.operands])) (ev key (by simp [Op.operands]))
      | _ => exact absurd hr n
  | mapUpdate t m key x =>
    refine U (m := Instr.mapUpdate t (a.eval m) (a.eval key) (a.eval x)) (by rw [hop]; rfl) (by unfold execOp; rw [hop]) ?_
    simp only [opB] at hr
    cases ht : P.underlying t with
    | none => simp only [ht] at hr; exact absurd hr n
    | some d =>
      simp only [ht] at hr
      cases d with
      | map kt e => exact mapSet_ok (P := P) ht (k := fun h => k undefA h) hr n S (ev m (by simp [Op.operands])) (ev key (by simp [Op.operands])) (ev x (by simp [Op.operands]))
      | _ => exact absurd hr n
  | insert t m key x =>
    refine U (m := Instr.mapUpdate t (a.eval m) (a.eval key) (a.eval x)) (by rw [hop]; rfl) (by unfold execOp; rw [hop]) ?_
    simp only [opB] at hr
    cases ht : P.underlying t with
    | none => simp only [ht] at hr; exact absurd hr n
    | some d =>
      simp only [ht] at hr
      cases d with
      | map kt e => exact mapSet_ok (P := P) ht (k := fun h => k undefA h) hr n S (ev m (by simp [Op.operands])) (ev key (by simp [Op.operands])) (ev x (by simp [Op.operands]))
      | _ => exact absurd hr n
  | typeAssert x xt asserted ok =>
    refine VQ (m := Instr.typeAssert (a.eval x) xt asserted ok) (by unfold execOp; rw [hop]) ?_
    simp only [opB] at hr
    cases ht : P.underlying asserted with
    | none => simp only [ht] at hr; exact absurd hr n
    | some d =>
      simp only [ht] at hr
      have go : (∀ ms, d ≠ .interface ms) → ((evO G nt x).run f).onIface (fun t v => eqN t asserted (ifB ok (k (.tup [v, .bool true]) h) (k v h)) s) s = r → ∃ u v, (Instr.typeAssert (a.eval x) xt asserted ok).run P w = .ok u w ∧ RV ι v u ∧ k v h = r := by
        intro hd hr
        obtain ⟨t', v, ex, h1⟩ := AV.onIface_inv hr n
        obtain ⟨et, h2⟩ := eqN_inv h1 n
        have hx := ev x (by simp [Op.operands])
        rw [ex] at hx
        generalize hav : a.eval x = av at hx
        cases hx with
        | @iface _ _ u hv =>
        rw [ifB_eq] at h2
        have hrun : (Instr.typeAssert (.iface t' u) xt asserted ok).run P w = .ok (if ok then .tuple #[u, .bool true] else u) w := by
          cases d with
          | interface ms => exact absurd rfl (hd ms)
          | _ => simp only [Instr.typeAssert, Sem.run_bind, underlying_run ht, Result.andThen, et, if_true, Sem.run_pure]
        refine ⟨_, if ok then .tup [v, .bool true] else v, hrun, ?_, ?_⟩
        · cases ok
          · exact hv
          · exact .tup (.cons hv (.cons (.bool true) .nil))
        · cases ok <;> exact h2
      cases d with
      | interface ms => exact absurd hr n
      | _ => exact go (fun ms hh => by cases hh) hr
  | extract t i =>
    refine VQ (m := Instr.extract (a.eval t) i) (by unfold execOp; rw [hop]) ?_
    obtain ⟨l, ex, h1⟩ := AV.onTup_inv (hr : ((evO G nt t).run f).onTup _ s = r) n
    obtain ⟨h2, h3⟩ := le_inv h1 n
    rw [lenL_eq] at h2
    have hx := ev t (by simp [Op.operands])
    rw [ex] at hx
    generalize hav : a.eval t = av at hx
    cases hx with
    | @tup _ cs hl =>
    obtain ⟨x, e1, e2⟩ := hl.get i h2
    have e1' : cs[i]? = some x := by simpa using e1
    exact ⟨x, _, by simp only [Instr.extract, e1', Sem.run_pure], e2, h3⟩
  | call c =>
    simp only [opB] at hr
    cases hcc : c.callee with
    | value g => simp [callsB, hcc] at hc
    | invoke _ _ => simp only [hcc] at hr; exact absurd hr n
    | builtin b =>
      simp only [hcc] at hr
      have hargs : RVL ι ((evs G nt c.args.toList).run f) (c.args.map a.eval).toList := by rw [Array.toList_map]; exact evs_ok _ fun y hy => ev y (by simp only [Op.operands, Call.operands, hcc, Array.toList_append, List.mem_append]; exact .inr hy)
      obtain ⟨u, w', e1, e2, e3⟩ := builtinC_ok (P := P) (ty := o.type) (cs := c.args.map fun | .const _ => true | _ => false) hr n S hargs
      have hex : (execOp a.eval o).run P w = .ok (.value u) w' := by
        unfold execOp
        rw [hop]
        simp only [resolve, hcc, Sem.run_bind, Sem.run_pure, Result.andThen, invoke]
        exact e1
      refine ⟨.value hex e2, fun hq => ?_⟩
      rw [hop] at hq
      obtain ⟨rfl, v, q1, q2⟩ := e3 (by simpa [quietB, hcc] using hq)
      exact ⟨u, v, hex, q1, q2⟩
  | _ => exact absurd hr n
end
/-! ### Operations of which rules tell: the interpreter is sound -/
section
variable {P : Program} {RT : List Rule} [RulesOk P RT] {ι : Inj} {h : H} {w : World} {β : Type} {s r : β} {G : Nat → AV} {nt : Nat} {f : Fr} {a : Act} {o : Oper} {call : CallT} {k : AV → H → β}
theorem sopOf_ops {op : Op} {q : SOp × List Operand} (h : sopOf P op = some q) : ∀ x ∈ q.2, x ∈ op.operands.toList := by
  cases op with
  | binOp op t x y _ => cases h; intro z hz; simpa [Op.operands] using hz
  | unOp op t x => cases h; intro z hz; simpa [Op.operands] using hz
  | convert s d x =>
    simp only [sopOf] at h
    split at h
    · cases h
    · cases h; intro z hz; simpa [Op.operands] using hz
  | slice t x lo hi mx =>
    cases mx with
    | some _ => cases h
    | none => cases lo <;> cases hi <;> (cases h; intro z hz; simpa [Op.operands, or_assoc] using hz)
  | index t x i => cases h; intro z hz; simpa [Op.operands] using hz
  | indexAddr t x i => cases h; intro z hz; simpa [Op.operands] using hz
  | fieldAddr t x n => cases h; intro z hz; simpa [Op.operands] using hz
  | load t x => cases h; intro z hz; simpa [Op.operands] using hz
  | store t x v => cases h; intro z hz; simpa [Op.operands] using hz
  | nilCheck x => cases h; intro z hz; simpa [Op.operands] using hz
  | call c =>
    have key : ∀ x, x ∈ c.args.toList → x ∈ (Op.call c).operands.toList := fun x hx => by
      simp only [Op.operands, Call.operands, Array.toList_append, List.mem_append]; exact .inr hx
    simp only [sopOf] at h
    cases hc : c.callee with
    | value g => rw [hc] at h; cases h
    | invoke _ _ => rw [hc] at h; cases h
    | builtin b =>
      rw [hc] at h
      cases ht : c.argTypes.toList with
      | nil => rw [ht] at h; cases b <;> cases h
      | cons t ts =>
        rw [ht] at h
        cases ha : c.args.toList with
        | nil => rw [ha] at h; cases b <;> first | cases h | (cases ts <;> cases h)
        | cons x xs =>
          rw [ha] at h
          intro z hz
          refine key z ?_
          rw [ha]
          cases b <;> first | (cases h; done) | skip
          · cases ts with
            | nil => cases h
            | cons u ts =>
              cases xs with
              | nil => cases h
              | cons y xs => cases h; simp at hz ⊢; rcases hz with hz | hz <;> simp [hz]
          · cases h; simp at hz ⊢; simp [hz]
          · cases h; simp at hz ⊢; simp [hz]
          · cases xs with
            | nil => cases h
            | cons y ys =>
              cases ys with
              | cons _ _ => cases h
              | nil => cases h; simpa using hz
  | _ => cases h
/-- What an operation is, by its kind. -/
theorem sopOf_exec {so : SOp} {xs : List Operand} (hs : sopOf P o.op = some (so, xs)) (hg : guardL so (xs.map a.eval) = true) : (execOp a.eval o).run P w = (so.sem (xs.map a.eval)).run P w := by
  generalize hop : o.op = op at hs
  cases op with
  | binOp op t x y _ =>
    cases hs
    have h1 := guardB_ok (P := P) (w := w) (op := op) (t := t) (x := x) (y := y) hg
    unfold execOp
    rw [hop]
    simp only [SOp.sem, List.map_cons, List.map_nil, Sem.run_bind, h1, Result.andThen]
  | unOp op t x => cases hs; unfold execOp; rw [hop]; rfl
  | convert s d x =>
    simp only [sopOf] at hs
    split at hs
    · cases hs
    · cases hs; unfold execOp; rw [hop]; rfl
  | slice t x lo hi mx =>
    cases mx with
    | some _ => cases hs
    | none => cases lo <;> cases hi <;> (cases hs; unfold execOp; rw [hop]; rfl)
  | index t x i => cases hs; unfold execOp; rw [hop]; rfl
  | indexAddr t x i => cases hs; unfold execOp; rw [hop]; rfl
  | fieldAddr t x n => cases hs; unfold execOp; rw [hop]; rfl
  | load t x => cases hs; unfold execOp; rw [hop]; rfl
  | store t x v => cases hs; unfold execOp; rw [hop]; rfl
  | nilCheck x =>
    cases hs
    unfold execOp
    rw [hop]
    have hg : isAddr (a.eval x) = true := hg
    show (match a.eval x with | _ => _ : Sem Next).run P w = (pure (.value (a.eval x)) : Sem Next).run P w
    generalize a.eval x = v at hg
    cases v with
    | pointer p => cases p with | none => cases hg | some _ => rfl
    | _ => cases hg
  | call c =>
    simp only [sopOf] at hs
    cases hc : c.callee with
    | value g => rw [hc] at hs; cases hs
    | invoke _ _ => rw [hc] at hs; cases hs
    | builtin b =>
      rw [hc] at hs
      cases ht : c.argTypes.toList with
      | nil => rw [ht] at hs; cases b <;> cases hs
      | cons t ts =>
        have t0 : c.argTypes[0]? = some t := by rw [← Array.getElem?_toList, ht]; rfl
        rw [ht] at hs
        cases ha : c.args.toList with
        | nil => rw [ha] at hs; cases b <;> first | cases hs | (cases ts <;> cases hs)
        | cons x xs =>
          have a0 : (c.args.map a.eval)[0]? = some (a.eval x) := by rw [Array.getElem?_map, ← Array.getElem?_toList, ha]; rfl
          rw [ha] at hs
          unfold execOp
          rw [hop]
          cases b <;> first | (cases hs; done) | skip
          · cases ts with
            | nil => cases hs
            | cons u ts =>
              cases xs with
              | nil => cases hs
              | cons y xs =>
                cases hs
                have t1 : c.argTypes[1]? = some u := by rw [← Array.getElem?_toList, ht]; rfl
                have a1 : (c.args.map a.eval)[1]? = some (a.eval y) := by rw [Array.getElem?_map, ← Array.getElem?_toList, ha]; rfl
                simp only [resolve, hc, Sem.run_bind, Sem.run_pure, Result.andThen, invoke, builtin, SOp.sem, List.map_cons, List.map_nil]
                have e : Builtin.append_ c.argTypes o.type (c.args.map a.eval) = Builtin.append_ #[t, u] 0 #[a.eval x, a.eval y] := by
                  unfold Builtin.append_
                  simp only [t0, t1, a0, a1, List.getElem?_toArray, List.getElem?_cons_zero, List.getElem?_cons_succ]
                rw [e]
          · cases hs
            simp only [resolve, hc, Sem.run_bind, Sem.run_pure, Result.andThen, invoke, builtin, SOp.sem, List.map_cons, List.map_nil]
            have e : Builtin.cap_ c.argTypes o.type (c.args.map a.eval) = Builtin.cap_ #[t] 0 #[a.eval x] := by
              unfold Builtin.cap_
              simp only [t0, a0, List.getElem?_toArray, List.getElem?_cons_zero]
            rw [e]
          · cases hs
            simp only [resolve, hc, Sem.run_bind, Sem.run_pure, Result.andThen, invoke, builtin, SOp.sem, List.map_cons, List.map_nil]
            have e : Builtin.len_ c.argTypes o.type (c.args.map a.eval) = Builtin.len_ #[t] 0 #[a.eval x] := by
              unfold Builtin.len_
              simp only [t0, a0, List.getElem?_toArray, List.getElem?_cons_zero]
            rw [e]
          · cases xs with
            | nil => cases hs
            | cons y ys =>
              cases ys with
              | cons _ _ => cases hs
              | nil =>
                cases hs
                have hargs : c.args.map a.eval = #[a.eval x, a.eval y] := by
                  apply Array.toList_inj.1
                  rw [Array.toList_map, ha]; rfl
                simp only [resolve, hc, Sem.run_bind, Sem.run_pure, Result.andThen, invoke, builtin, SOp.sem, List.map_cons, List.map_nil]
                rw [hargs]
                rfl
  | _ => cases hs
/-- A rule that was found. -/
theorem findR_ok {so : SOp} {args : List AV} {cur : Option Nat} {k : AV → H → β} {other : β} : ∀ {R : List Rule}, findR so args cur h k other s R = r → other ≠ r → ∃ q ∈ R, stOk q.st cur = true ∧ q.so = so ∧ q.args = args ∧ applyR q h k s = r
  | [], hr, n => absurd hr n
  | q :: R, hr, n => by
    have hr : ifB (stOk q.st cur) (ifB (eqSOp q.so so) (ifB (eqAVL q.args args) (applyR q h k s) (findR so args cur h k other s R)) (findR so args cur h k other s R)) (findR so args cur h k other s R) = r := hr
    have next : findR so args cur h k other s R = r → ∃ q' ∈ q :: R, stOk q'.st cur = true ∧ q'.so = so ∧ q'.args = args ∧ applyR q' h k s = r := fun h1 => by
      obtain ⟨q', h2, h3⟩ := findR_ok h1 n
      exact ⟨q', List.mem_cons_of_mem _ h2, h3⟩
    cases h1 : stOk q.st cur with
    | false => rw [h1] at hr; exact next hr
    | true =>
      rw [h1] at hr
      cases h2 : eqSOp q.so so with
      | false => rw [h2] at hr; exact next hr
      | true =>
        rw [h2] at hr
        cases h3 : eqAVL q.args args with
        | false => rw [h3] at hr; exact next hr
        | true =>
          rw [h3] at hr
          exact ⟨q, List.mem_cons_self .., h1, eqSOp_ok h2, eqAVL_ok h3, hr⟩
theorem names_nil : NamesOf (fun _ _ => none) [] := ⟨fun n v hv => by simp at hv, fun _ _ => rfl⟩
/-- What a rule tells is what the machine does. -/
theorem rule_ok {q : Rule} (hq : q ∈ RT) (hst : stOk q.st (curG h) = true) (hr : applyR q h k s = r) (n : s ≠ r) (S : Sim ι h w) {us : List Value} (hu : RVL ι q.args us) {m : Sem Next}
    (hm : ∀ σ, (∀ k0, q.st = some k0 → Env.ext k0 σ w) → RVL (names σ) q.args us → RunsTo P q σ w m) :
    (q.eff = none ∧ ∃ u, m.run P w = .ok (.value u) w ∧ RV ι q.res u ∧ k q.res h = r) ∨
    (q.so.still = false ∧ ∃ nx w' ι' h', m.run P w = .ok nx w' ∧ ResOf ι' q.res nx ∧ k q.res h' = r ∧ Sim ι' h' w' ∧ Grows ι h w ι' h' w') := by
  obtain ⟨hd, hdr, hsx, _⟩ := RulesOk.ok (P := P) q hq
  obtain ⟨so, args, st, eff, res⟩ := q
  cases st with
  | none =>
    have hsx2 : args.all statA = true ∧ statA res = true := by
      have hsx : (args.all statA && statA res) = true := hsx
      rwa [Bool.and_eq_true] at hsx
    have h1 := hm [] (fun _ hh => by cases hh) (stat_namesL hu hd hsx2.1)
    cases eff with
    | none =>
      obtain ⟨u, e1, e2⟩ := h1
      exact .inl ⟨rfl, u, e1, stat_names e2 hdr hsx2.2, hr⟩
    | some k1 =>
      obtain ⟨_, _, _, _, _, _, hh, _⟩ := h1
      cases hh
  | some k0 =>
    have hc : curG h = some k0 := by
      have hst : stOk (some k0) (curG h) = true := hst
      cases hcc : curG h with
      | none => rw [hcc] at hst; cases hst
      | some b => rw [hcc] at hst; rw [Nat.eq_of_beq_eq_true hst]
    obtain ⟨c1, c2⟩ := curG_ok hc
    have hobj := S.obj 0 c1
    rw [c2] at hobj
    obtain ⟨σ, g1, g2, g3, g4, g5, g6⟩ := hobj
    have hN : NamesOf ι σ := ⟨g2, g3⟩
    have h1 := hm σ (fun k' hk => by cases hk; exact g1) (to_namesL hN hu hd)
    cases eff with
    | none =>
      obtain ⟨u, e1, e2⟩ := h1
      exact .inl ⟨rfl, u, e1, of_names hN e2 hdr, hr⟩
    | some k1 =>
      obtain ⟨nx, w', vs, k0', e1, e2, e3, e4⟩ := h1
      cases e3
      have hr : ifB so.still s (h.put 0 (.ghost k1) fun h => k res h) = r := hr
      cases hstill : so.still with
      | true => rw [hstill] at hr; exact absurd hr n
      | false =>
        rw [hstill] at hr
        have hr : (h.put 0 (.ghost k1) fun h => k res h) = r := hr
        rw [H.put_eq] at hr
        obtain ⟨ι', s1, s2, s3, s4⟩ := S.ghost (k1 := k1) c1 c2 g2 g3 g4 g5 g6 e4
        refine .inr ⟨by first | rfl | exact hstill, nx, w', ι', _, e1, ?_, hr, s1, s2⟩
        rcases e2 with ⟨u, e2, e5⟩ | e2
        · exact .inl ⟨u, e2, of_names ⟨s3, s4⟩ e5 hdr⟩
        · exact .inr e2
theorem sopOf_quiet {so : SOp} {xs : List Operand} {op : Op} (hs : sopOf P op = some (so, xs)) (hq : quietB P op = true) : so.still = true := by
  cases op with
  | call c =>
    simp only [sopOf] at hs
    cases hc : c.callee with
    | value g => rw [hc] at hs; cases hs
    | invoke _ _ => rw [hc] at hs; cases hs
    | builtin b =>
      rw [hc] at hs
      have hq : idleB b = true := by simpa [quietB, hc] using hq
      cases b <;> first | (cases hq; done) | skip
      all_goals (cases ht : c.argTypes.toList <;> rw [ht] at hs <;> first | (cases hs; done) | (rcases ha : c.args.toList with _ | ⟨x, _ | ⟨y, _ | ⟨z, zs⟩⟩⟩ <;> rw [ha] at hs <;> first | (cases hs; done) | (cases hs; rfl)))
  | slice t x lo hi mx =>
    cases mx with
    | some _ => cases hs
    | none => cases lo <;> cases hi <;> (cases hs; rfl)
  | convert s d x =>
    simp only [sopOf] at hs
    split at hs
    · cases hs
    · cases hs; rfl
  | store t x v => cases hq
  | _ => first | (cases hs; done) | (cases hs; rfl)
theorem opC_ok (hr : (opC ⟨P, G, RT⟩ nt o.op).run β call f h k s = r) (n : s ≠ r) (ev : EvOk G nt ι f a o.op) (S : Sim ι h w) (hc : callsB o.op = false) : EndsQ P o a w ι h k r := by
  unfold opC at hr
  cases hs : sopOf P o.op with
  | none => rw [show sopOf (Ty.mk P G RT).P o.op = none from hs] at hr; exact opB_ok hr n ev S hc
  | some q =>
    rw [show sopOf (Ty.mk P G RT).P o.op = some q from hs] at hr
    obtain ⟨so, xs⟩ := q
    have hops := sopOf_ops hs
    have hargs : RVL ι ((evs G nt xs).run f) (xs.map a.eval) := evs_ok xs fun x hx => ev x (hops x hx)
    have hr : ifB (anySx ((evs G nt xs).run f)) (keyR (appSz ⟨P, G, RT⟩ so) so ((evs G nt xs).run f) h (fun so args => findR so args (curG h) h k ((opB ⟨P, G, RT⟩ nt o.op).run β call f h k s) s RT) ((opB ⟨P, G, RT⟩ nt o.op).run β call f h k s)) ((opB ⟨P, G, RT⟩ nt o.op).run β call f h k s) = r := hr
    by_cases no : (opB ⟨P, G, RT⟩ nt o.op).run β call f h k s = r
    · exact opB_ok no n ev S hc
    generalize (opB ⟨P, G, RT⟩ nt o.op).run β call f h k s = other at hr no
    generalize hae : (evs G nt xs).run f = args at hr hargs
    obtain ⟨_, hr⟩ := ifB_inv hr no
    -- a rule that was found ends the run
    have fin : ∀ {q : Rule} {m : Sem Next} {us : List Value}, q ∈ RT → stOk q.st (curG h) = true → applyR q h k s = r → RVL ι q.args us → (q.so.still = false → quietB P o.op = false) → (execOp a.eval o).run P w = m.run P w →
        (∀ σ, (∀ k0, q.st = some k0 → Env.ext k0 σ w) → RVL (names σ) q.args us → RunsTo P q σ w m) → EndsQ P o a w ι h k r := by
      intro q m us hq hst happ hu hstill hex hm
      rcases rule_ok hq hst happ n S hu hm with ⟨_, u, e1, e2, e3⟩ | ⟨hs', nx, w', ι', h', e1, e2, e3, S', g'⟩
      · rw [← hex] at e1
        exact ⟨.value e1 (PostK.same S e3 e2), fun _ => ⟨u, _, e1, e2, e3⟩⟩
      · rw [← hex] at e1
        refine ⟨?_, fun hh => by rw [hstill hs'] at hh; cases hh⟩
        rcases e2 with ⟨u, rfl, e2⟩ | ⟨rfl, e2⟩
        · exact .value e1 ⟨_, h', ι', e3, S', e2, g'⟩
        · rw [e2] at e3
          exact .skip e1 ⟨undefA, h', ι', e3, S', undef_rv ι', g'⟩
    have hq2 : so.still = false → quietB P o.op = false := fun hh => by
      cases hqq : quietB P o.op with
      | false => rfl
      | true => rw [sopOf_quiet hs hqq] at hh; cases hh
    -- by the operands alone
    have plain : (∀ t u, so ≠ .app t u) → findR so args (curG h) h k other s RT = r → EndsQ P o a w ι h k r := by
      intro hne hf
      obtain ⟨q, hq, hst, hso, hqa, happ⟩ := findR_ok hf no
      obtain ⟨hd, hdr, hsx, hall⟩ := RulesOk.ok (P := P) q hq
      have hu : RVL ι q.args (xs.map a.eval) := by rw [hqa]; exact hargs
      have hguard : guardL so (xs.map a.eval) = true := by
        have hu' := hu
        cases hst' : q.st with
        | none =>
          have hsx' : (q.args.all statA && statA q.res) = true := by simpa [hst'] using hsx
          rw [Bool.and_eq_true] at hsx'
          have := (hall [] w (xs.map a.eval) (fun _ hh => by rw [hst'] at hh; cases hh) (stat_namesL hu hd hsx'.1)).1
          rwa [hso] at this
        | some k0 =>
          have hc' : curG h = some k0 := by
            rw [hst'] at hst
            cases hcc : curG h with
            | none => rw [hcc] at hst; cases hst
            | some b => rw [hcc] at hst; rw [Nat.eq_of_beq_eq_true hst]
          obtain ⟨c1, c2⟩ := curG_ok hc'
          have hobj := S.obj 0 c1
          rw [c2] at hobj
          obtain ⟨σ, g1, g2, g3, g4, g5, g6⟩ := hobj
          have := (hall σ w (xs.map a.eval) (fun k' hk => by rw [hst'] at hk; cases hk; exact g1) (to_namesL ⟨g2, g3⟩ hu hd)).1
          rwa [hso] at this
      refine fin hq hst happ hu (by rw [hso]; exact hq2) (sopOf_exec hs hguard) fun σ he hn => ?_
      have h2 := (hall σ w (xs.map a.eval) he hn).2
      rw [hso] at h2
      cases so with
      | app t u => exact absurd rfl (hne t u)
      | _ => exact h2
    cases so with
    | app t u =>
      -- the operands are two
      obtain ⟨x, y, rfl⟩ : ∃ x y, xs = [x, y] := by
        generalize o.op = op at hs
        cases op with
        | call c =>
          simp only [sopOf] at hs
          split at hs <;> first | (cases hs; done) | skip
          all_goals (split at hs <;> first | (cases hs; done) | skip)
          all_goals (split at hs <;> first | (cases hs; done) | (cases hs; exact ⟨_, _, rfl⟩) | skip)
          all_goals (try (split at hs <;> first | (cases hs; done) | (cases hs; exact ⟨_, _, rfl⟩) | skip))
          all_goals (try (split at hs <;> first | (cases hs; done) | (cases hs; exact ⟨_, _, rfl⟩) | skip))
        | slice t x lo hi mx => cases mx <;> first | (cases hs; done) | (cases lo <;> cases hi <;> cases hs)
        | convert s d x => simp only [sopOf] at hs; split at hs <;> cases hs
        | _ => cases hs
      cases hargs with
      | @cons x1 xv _ _ hx hl =>
      cases hl with
      | @cons y1 yv _ _ hy hl =>
      cases hl
      have hr : x1.onSx (fun _ _ => y1.onSx (fun _ _ => findR (.appS t u) [x1, y1] (curG h) h k other s RT) (lenA y1 (fun n => firstOf (appSz ⟨P, G, RT⟩ (.app t u)) n y1 h (fun vs => findR (.app t u) (x1 :: vs) (curG h) h k other s RT) other) other)) other = r := hr
      obtain ⟨xk, xn, ex, hr⟩ := AV.onSx_inv hr no
      by_cases hys : ∃ b c, y1 = .sx b c
      · obtain ⟨b, c, rfl⟩ := hys
        have hr : findR (.appS t u) [x1, .sx b c] (curG h) h k other s RT = r := hr
        obtain ⟨q, hq, hst, hso, hqa, happ⟩ := findR_ok hr no
        obtain ⟨hd, hdr, hsx, hall⟩ := RulesOk.ok (P := P) q hq
        refine fin (m := (SOp.appS t u).sem [a.eval x, a.eval y]) (us := [a.eval x, a.eval y]) hq hst happ (by rw [hqa]; exact .cons hx (.cons hy .nil)) (fun _ => hq2 rfl) (sopOf_exec hs rfl) fun σ he hn => ?_
        have h2 := (hall σ w [a.eval x, a.eval y] he hn).2
        rw [hso] at h2
        exact h2
      · have hr : lenA y1 (fun n => firstOf (appSz ⟨P, G, RT⟩ (.app t u)) n y1 h (fun vs => findR (.app t u) (x1 :: vs) (curG h) h k other s RT) other) other = r := by
          cases y1 with
          | sx b c => exact absurd ⟨b, c, rfl⟩ hys
          | _ => exact hr
        obtain ⟨m, hm, hr⟩ := lenA_ok (P := P) (w := w) hr no hy
        obtain ⟨us, l, hus, hl, hll, hr⟩ := firstOf_ok (P := P) hr no S hy
        obtain ⟨q, hq, hst, hso, hqa, happ⟩ := findR_ok hr no
        obtain ⟨hd, hdr, hsx, hall⟩ := RulesOk.ok (P := P) q hq
        refine fin (m := (SOp.app t u).sem [a.eval x, a.eval y]) (us := a.eval x :: us.toList) hq hst happ (by rw [hqa]; exact .cons hx hl) (fun _ => hq2 rfl) (sopOf_exec hs rfl) fun σ he hn => ?_
        have h2 := (hall σ w (a.eval x :: us.toList) he hn).2
        rw [hso] at h2
        have e0 : appSz ⟨P, G, RT⟩ (.app t u) = elSz P t := rfl
        rw [e0] at hus hll
        exact h2 _ _ _ rfl ⟨m, us, hm, rfl, by rw [← hll, hl.length], hus⟩
    | appS t u => exact absurd hr no
    | _ => exact plain (fun _ _ hh => by cases hh) hr
end
end
end Go.Proofs.YtenpnejkgopghaaDoor.AK

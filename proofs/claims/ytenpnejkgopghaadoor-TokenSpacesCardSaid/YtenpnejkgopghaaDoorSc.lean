/- Proved: a scanner's memory, as it is told to the interpreter; functions of a scanner as rules; rows of tokens. Conditions: each stands at its theorem. -/
import Derived.Test.YtenpnejkgopghaaDoorAkT
import Derived.Test.YtenpnejkgopghaaDoorLexP
import Derived.Laws.BytesArg
set_option linter.unusedSectionVars false
set_option linter.unusedVariables false
namespace Go.Proofs.YtenpnejkgopghaaDoor.Tok
open Go Go.RowKit Go.Proofs.YtenpnejkgopghaaDoor.AK
noncomputable section

theorem _root_.Go.Proofs.YtenpnejkgopghaaDoor.AK.Is.cast [Env] {a : AV} {u u' : Value} (h : u = u') (hx : Is a u) : Is a u' := h ▸ hx
/-! ### Rows of tokens, of bytes -/
def T.cells (t : T) : List Value := [.int .i64 t.kind, .string t.text, .int .i64 t.int, .int .u64 t.re, .int .u64 t.im, .int .i64 t.at_]
def tokX (l : List T) : List Value := l.flatMap T.cells
theorem tokX_snoc (a : List T) (t : T) : tokX (a ++ [t]) = tokX a ++ t.cells := by simp [tokX]
theorem tokX_cons (t : T) (l : List T) : tokX (t :: l) = t.cells ++ tokX l := rfl
theorem tokX_length (l : List T) : (tokX l).length = l.length * 6 := by
  induction l with
  | nil => rfl
  | cons t l ih =>
    rw [tokX_cons, List.length_append, ih, List.length_cons]
    show 6 + _ = _
    omega
def tokAt (l : List T) (j : Nat) : T := l.getD j ⟨0, ⟨#[]⟩, 0, 0, 0, 0⟩
theorem tok_at (f : Nat) (hf : f < 6) : ∀ {l : List T} {j : Nat}, j < l.length → (tokX l)[j * 6 + f]? = (tokAt l j).cells[f]?
  | [], _, h => by simp at h
  | t :: l, 0, h => by
    rw [tokX_cons, List.getElem?_append_left (by show 0 * 6 + f < 6; omega)]
    simp [tokAt]
  | t :: l, j + 1, h => by
    rw [tokX_cons, List.getElem?_append_right (by show 6 ≤ _; omega)]
    have e : (j + 1) * 6 + f - t.cells.length = j * 6 + f := by show (j + 1) * 6 + f - 6 = _; omega
    rw [e, tok_at f hf (by simpa using h)]
    simp [tokAt]
theorem tok_at0 {l : List T} {j : Nat} (h : j < l.length) : (tokX l)[j * 6]? = some (.int .i64 (tokAt l j).kind) := tok_at 0 (by decide) h
theorem tok_at1 {l : List T} {j : Nat} (h : j < l.length) : (tokX l)[j * 6 + 1]? = some (.string (tokAt l j).text) := tok_at 1 (by decide) h
theorem tok_at2 {l : List T} {j : Nat} (h : j < l.length) : (tokX l)[j * 6 + 2]? = some (.int .i64 (tokAt l j).int) := tok_at 2 (by decide) h
theorem tok_at3 {l : List T} {j : Nat} (h : j < l.length) : (tokX l)[j * 6 + 3]? = some (.int .u64 (tokAt l j).re) := tok_at 3 (by decide) h
theorem tok_at4 {l : List T} {j : Nat} (h : j < l.length) : (tokX l)[j * 6 + 4]? = some (.int .u64 (tokAt l j).im) := tok_at 4 (by decide) h
theorem tok_at5 {l : List T} {j : Nat} (h : j < l.length) : (tokX l)[j * 6 + 5]? = some (.int .i64 (tokAt l j).at_) := tok_at 5 (by decide) h
theorem len_snoc (l : List T) (t : T) : (l ++ [t]).length = l.length + 1 := by simp
theorem tokAt_last (l : List T) (t : T) : tokAt (l ++ [t]) l.length = t := by simp [tokAt]
def bytesV (b : ByteArray) : List Value := b.data.toList.map fun c => .int .u8 (c.toNat : Int)
theorem bytesV_push (b : ByteArray) (c : UInt8) : bytesV (b.push c) = bytesV b ++ [.int .u8 (c.toNat : Int)] := by
  simp [bytesV, ByteArray.push]
theorem len_0 {vs : List Value} (h : vs.length = 0) : vs = [] := List.length_eq_zero_iff.1 h
theorem len_1 {vs : List Value} (h : vs.length = 1) : ∃ a, vs = [a] := List.length_eq_one_iff.1 h
theorem len_2 {vs : List Value} (h : vs.length = 2) : ∃ a b, vs = [a, b] := by
  match vs, h with
  | [a, b], _ => exact ⟨a, b, rfl⟩
theorem len_3 {vs : List Value} (h : vs.length = 3) : ∃ a b c, vs = [a, b, c] := by
  match vs, h with
  | [a, b, c], _ => exact ⟨a, b, c, rfl⟩

/-! ### A scanner -/
section
variable [Gnd]
/-- The scanner of block g: its text, its place, its tokens (c: the slice). -/
def Sc (g : Nat) (s : ByteArray) (i : Nat) (ts : List T) (c : CellV) : MSt := ⟨[⟨g, 43, [.st (.string s), .st (.int .i64 ((i : Nat) : Int)), c]⟩], [⟨c, 33, 6, ts.length, tokX ts⟩]⟩
theorem sc_inst {g : Nat} {s : ByteArray} {i : Nat} {ts : List T} {c : CellV} {σ : List Value} : (Sc g s i ts c).inst σ = Sc g s i ts (c.inst σ) := rfl
theorem sc_foot {g : Nat} {s : ByteArray} {i : Nat} {ts : List T} {c : CellV} (σ : List Value) : ∃ x, Foot (Sc g s i ts c) σ x := ⟨g, .inl ⟨_, List.mem_cons_self .., rfl⟩⟩
theorem sc_slice {w : World} {B g : Nat} {s : ByteArray} {i : Nat} {ts : List T} {c : CellV} {σ : List Value} (h : MemAt w B (Sc g s i ts c) σ) : ∃ v, c.at_ σ = some v ∧ Row w B 33 6 v ts.length (tokX ts) ∧ rawOne v = true := by
  obtain ⟨v, h1, h2⟩ := h.row ⟨c, 33, 6, ts.length, tokX ts⟩ (List.mem_cons_self ..)
  obtain ⟨_, _, _, ho⟩ := h2.slice
  exact ⟨v, h1, h2, ho⟩
theorem sc_raw {B g : Nat} {s : ByteArray} {i : Nat} {ts : List T} {v : Value} (h : ∃ w, MemAt w B (Sc g s i ts (.st v)) []) : rawOne v = true := by
  obtain ⟨w, h⟩ := h
  obtain ⟨v', e, _, h3⟩ := sc_slice h
  cases e; exact h3
/-- Of a row that is not empty: where it lies. -/
theorem sc_some {B g : Nat} {s : ByteArray} {i : Nat} {ts : List T} {v : Value} (h : ∃ w, MemAt w B (Sc g s i ts (.st v)) []) (hn : ts ≠ []) : ∃ b c, v = .slice (some ⟨b, 0, none⟩) ts.length c := by
  obtain ⟨w, h⟩ := h
  obtain ⟨v', e, h2, h3⟩ := sc_slice h
  cases e
  rcases h2.2 with ⟨_, h0⟩ | ⟨b, cap, _, _, e, _⟩
  · exact absurd (List.length_eq_zero_iff.1 h0) hn
  · exact ⟨b, cap, e⟩
theorem inst_st {c : CellV} {σ : List Value} {v : Value} (h : c.at_ σ = some v) : c.inst σ = .st v := by unfold CellV.inst; rw [h]
section
variable {vals : List Value} {B : Nat} {L : List (MSt × Nat)}
/-- A function of the scanner that may lay its tokens elsewhere, as a rule. -/
theorem sc_rule {R : MSt} {f : FuncId} {args : List AV} {us : List Value} {k k1 n g i i1 : Nat} {s : ByteArray} {ts ts1 : List T} {c : CellV} {res : AV} {rv : Value} (hS : L[k]? = some ((Sc g s i ts c).and R, n)) (hS1 : L[k1]? = some ((Sc g s i1 ts1 (.nm n)).and R, n + 1)) (hR : ∀ σ τ : List Value, σ.length = n → R.inst (σ ++ τ) = R.inst σ)
    (hen : ∀ (A : Array Value) (w : World), (callFunc f A).run Tryd.prog w = .ok (.enter f A) w) (ha : @IsL (memEnv vals B L) args us) (hr : @Is (memEnv vals B L) res rv) (hc : ∀ v, rawOne v = true → Does Tryd.prog f us B (Sc g s i ts (.st v)) fun u S1 => u = rv ∧ ∃ v0, S1 = Sc g s i1 ts1 (.st v0)) : @CRuleOk (memEnv vals B L) Tryd.prog ⟨f, args, some k, some k1, res⟩ := by
  refine Does.ruleF hS hS1 (Nat.le_succ n) hR hen ha hr (fun σ _ => sc_foot σ) fun w σ hl hw => ?_
  obtain ⟨v, h1, h2, h3⟩ := sc_slice hw
  rw [sc_inst, inst_st h1]
  intro w1 hw1
  refine (hc v h3 w1 hw1).mono ?_
  rintro e w2 ⟨u, S1, rfl, ⟨rfl, v0, rfl⟩, hT⟩
  refine ⟨u, _, rfl, ⟨rfl, [v0], rfl, ?_, ?_⟩, hT⟩
  · obtain ⟨v', e, _, h6⟩ := sc_slice hT.at_
    cases e
    intro q hq
    rw [List.mem_singleton.1 hq]; exact h6
  · rw [sc_inst, inst_st (c := .nm n) (σ := σ ++ [v0]) (v := v0) (by show (σ ++ [v0])[n]? = some v0; rw [← hl]; simp)]
/-- One that leaves them where they are. -/
theorem sc_quiet {R : MSt} {f : FuncId} {args : List AV} {us : List Value} {k k1 n g i i1 : Nat} {s : ByteArray} {ts : List T} {c : CellV} {res : AV} {rv : Value} (hS : L[k]? = some ((Sc g s i ts c).and R, n)) (hS1 : L[k1]? = some ((Sc g s i1 ts c).and R, n)) (hR : ∀ σ τ : List Value, σ.length = n → R.inst (σ ++ τ) = R.inst σ)
    (hen : ∀ (A : Array Value) (w : World), (callFunc f A).run Tryd.prog w = .ok (.enter f A) w) (ha : @IsL (memEnv vals B L) args us) (hr : @Is (memEnv vals B L) res rv) (hc : ∀ v, rawOne v = true → Does Tryd.prog f us B (Sc g s i ts (.st v)) fun u S1 => u = rv ∧ S1 = Sc g s i1 ts (.st v)) : @CRuleOk (memEnv vals B L) Tryd.prog ⟨f, args, some k, some k1, res⟩ := by
  refine Does.ruleF hS hS1 (Nat.le_refl n) hR hen ha hr (fun σ _ => sc_foot σ) fun w σ hl hw => ?_
  obtain ⟨v, h1, h2, h3⟩ := sc_slice hw
  rw [sc_inst, inst_st h1]
  intro w1 hw1
  refine (hc v h3 w1 hw1).mono ?_
  rintro e w2 ⟨u, S1, rfl, ⟨rfl, rfl⟩, hT⟩
  refine ⟨u, _, rfl, ⟨rfl, [], rfl, (fun _ h => by cases h), ?_⟩, hT⟩
  rw [List.append_nil, sc_inst, inst_st h1]
end
theorem bytesV_nums (b : ByteArray) : bytesV b = (b.data.toList.map fun c => (c.toNat : Int)).map (Value.int .u8) := by simp [bytesV]
theorem nums_back (b : ByteArray) : strOfNums (b.data.toList.map fun c => (c.toNat : Int)) = b := by
  apply ByteArray.ext
  apply Array.toList_inj.1
  rw [strOfNums_data, List.map_map]
  conv => rhs; rw [← List.map_id b.data.toList]
  exact List.map_congr_left fun c _ => by simp
/-- A row of bytes as a text. -/
theorem mconv {P : Program} {vals : List Value} {B : Nat} {L : List (MSt × Nat)} {src dst e : TypeId} (hs : P.underlying src = some (.slice e)) (he : P.underlying e = some (.int .u8)) (hd : P.underlying dst = some .string) {k n j cnt : Nat} {S : MSt} {b : ByteArray} {x0 r : AV} {c0 : CellV} (hS : L[k]? = some (S, n)) (hr : S.rows[j]? = some ⟨c0, e, 1, cnt, bytesV b⟩) (hd0 : detA x0 = true)
    (hx0 : ∀ σ : List Value, (∀ u ∈ σ, rawOne u = true) → ∀ z, @RV (memEnv vals B L) (names σ) x0 z → c0.at_ σ = some z ∧ rawOne z = true) (hres : @Is (memEnv vals B L) r (.string b)) : @RuleOk (memEnv vals B L) P ⟨.conv src dst, [x0], some k, none, r⟩ := by
  letI := memEnv vals B L
  refine ⟨by simp only [detL, List.all_cons, Bool.and_eq_true]; exact ⟨hd0, rfl⟩, hres.det, rfl, fun σ w vs hext hu => ⟨rfl, ?_⟩⟩
  obtain ⟨S', n', q1, q2, q3⟩ := hext k rfl
  rw [hS] at q1; cases q1
  cases hu with
  | cons hx hu =>
  cases hu
  rename_i v
  obtain ⟨v', r1, r2⟩ := q3.row _ (List.mem_of_getElem? hr)
  have hxa := (hx0 σ q3.one v hx).1
  have r1 : c0.at_ σ = some v' := r1
  have r2 : Row w B e 1 v' cnt (bytesV b) := r2
  rw [hxa] at r1
  obtain rfl := Option.some.inj r1
  have run : (convert src dst v).run P w = .ok (.string b) w := by
    obtain ⟨hl, hrow⟩ := r2
    have hl : (bytesV b).length = cnt * 1 := hl
    have hlen : (b.data.toList.map fun c => (c.toNat : Int)).length = cnt := by
      have : (bytesV b).length = b.data.toList.length := by simp [bytesV]
      simp only [List.length_map]; omega
    rcases hrow with ⟨rfl, h0⟩ | ⟨g, cap, cur, fr, rfl, h3, h4, h5, h6, h7, h8⟩
    · have h0 : cnt = 0 := h0
      have e0 : b = ByteArray.empty := by
        rw [← nums_back b, List.length_eq_zero_iff.1 (hlen.trans h0)]; rfl
      rw [e0]
      exact run_convert_bytes_nil w src e hs he 0 0 dst hd
    · have h8 : cur.toList.take (cnt * 1) = bytesV b := h8
      rw [run_convert_bytes_arg w src e hs he g 0 cnt cap _ hlen (fun i hi => ?_) dst hd, nums_back]
      unfold World.cell?
      rw [h4]
      show cur[0 + i]? = _
      have hi2 : (bytesV b)[i]? = some (.int .u8 ((b.data.toList.map fun c => (c.toNat : Int)).getD i 0)) := by
        rw [bytesV_nums, List.getElem?_map, List.getD_eq_getElem?_getD]
        rw [List.getElem?_eq_getElem (by omega)]; rfl
      rw [← h8, Nat.mul_one, List.getElem?_take_of_lt hi, Array.getElem?_toList] at hi2
      rw [Nat.zero_add, hi2]
  exact ⟨_, by simp only [SOp.sem, Sem.run_bind, run, Result.andThen, Sem.run_pure], hres.to _⟩
end
/-- A function of a byte, byte by byte. -/
theorem byte_calls [Env] {f : FuncId} {p : UInt8 → Bool} {rest : List AV} {us : List Value} (hrest : IsL rest us) (h : (List.range 256).all (fun n => isSame (callN ⟨Tryd.prog, rawG, []⟩ (fun g => bif Nat.beq g 87 then some primIndexByte else none) 1000 100 (.fn f [] []) (.int .u8 n :: rest) H.empty) (.bool (p n.toUInt8))) = true) (hf : Nat.beq f 87 = false) (c : UInt8) (w : World) :
    Calls Tryd.prog f (Value.int .u8 (c.toNat : Int) :: us).toArray w fun e w' => e = .returned (.bool (p c)) ∧ Below w.heap.size w w' := by
  letI : Gnd := ⟨fun _ => none⟩
  rw [List.all_eq_true] at h
  have h1 := h c.toNat (List.mem_range.2 c.toNat_lt)
  obtain ⟨h2, e2⟩ := isSame_ok h1
  have hp : ∀ g q, (fun g => bif Nat.beq g 87 then some primIndexByte else none : FuncId → Option FnC) g = some q → PrimOk Tryd.prog rawG (fun g => ((fun g => bif Nat.beq g 87 then some primIndexByte else none : FuncId → Option FnC) g).isSome) g q := by
    intro g q hq
    cases hb : Nat.beq g 87 with
    | false => simp only [hb, cond_false] at hq; cases hq
    | true =>
      simp only [hb, cond_true] at hq
      cases hq
      obtain rfl := Nat.eq_of_beq_eq_true hb
      exact primIndexByte_ok Tryd.func87 (by kernel_rfl) (by kernel_rfl) (by kernel_rfl) (by kernel_rfl)
  refine (plain_calls (RT := []) (prim := fun g => bif Nat.beq g 87 then some primIndexByte else none) (fun g fn hf _ => noNum g fn hf) hp (by show (bif Nat.beq f _ then _ else _) = _; rw [hf]; rfl) (A := (Value.int .u8 (c.toNat : Int) :: us).toArray) (.cons (.int _ _) (hrest.to _)) (by simp only [detL, List.all_cons, Bool.and_eq_true]; exact ⟨rfl, hrest.det⟩) 1000 100 e2 rfl rfl).mono ?_
  rintro e w1 ⟨u, rfl, hu, hB⟩
  refine ⟨?_, hB⟩
  cases hu with
  | bool _ => simp
end
end Go.Proofs.YtenpnejkgopghaaDoor.Tok

/- Proved: What the interpreter's values and memory stand for; loads, stores, new blocks; strings as numbers. Conditions: none. -/
import Derived.Test.YtenpnejkgopghaaDoorAkD
import Derived.Laws.Strings
set_option maxRecDepth 100000
set_option linter.unusedVariables false
set_option linter.unusedSimpArgs false
set_option linter.unusedSectionVars false
namespace Go.Proofs.YtenpnejkgopghaaDoor.AK
open Go
noncomputable section
/-! ### What abstract values and memory stand for -/
structure Loc where
  b : Nat
  d : Int
  lo : Nat
  hi : Nat
  top : Nat
  v : Value
abbrev Inj := Nat → Nat → Option Loc
/-- What the numbers stand for of which only bounds are known, and their order; what names stand for; the states of memory that is out of sight, and the blocks that these lean on. -/
class Env where
  val : Nat → Int
  mono : ∀ i j, i < j → val i + 1 ≤ val j
  v : Nat → Value
  ext : Nat → List Value → World → Prop
  foot : Nat → List Value → Nat → Prop
  keep : ∀ k σ w w', ext k σ w → (∀ b, foot k σ b → w'.heap[b]? = w.heap[b]?) → ext k σ w'
  low : ∀ k σ w, ext k σ w → ∀ b, foot k σ b → b < w.heap.size
  pos : ∀ k σ w, ext k σ w → ∃ b, foot k σ b
abbrev Env.plain : Env := ⟨fun i => (i : Int), fun i j h => by omega, fun _ => undef, fun _ _ _ => False, fun _ _ _ => False, fun _ _ _ _ h _ => h.elim, fun _ _ _ h => h.elim, fun _ _ _ h => h.elim⟩
section
/-! ### Memory that is told by blocks and rows -/
inductive CellV where
  | st (v : Value)
  | nm (n : Nat)
def CellV.at_ (σ : List Value) (c : CellV) : Option Value := match c with | .st v => some v | .nm n => σ[n]?
/-- A block of so many cells. -/
structure Blk where
  g : Nat
  el : TypeId
  cs : List CellV
/-- A row that may grow: which slice it is; what it holds. -/
structure Rw where
  v : CellV
  e : TypeId
  sz : Nat
  n : Nat
  xs : List Value
structure MSt where
  blks : List Blk
  rows : List Rw
def BlkAt (w : World) (B : Nat) (σ : List Value) (b : Blk) : Prop := B ≤ b.g ∧ ∃ C fr, w.heap[b.g]? = some (.cells C b.el fr) ∧ Open2 fr ∧ b.cs.map (CellV.at_ σ) = C.toList.map some
def RowAt (w : World) (B : Nat) (σ : List Value) (r : Rw) : Prop := ∃ v, r.v.at_ σ = some v ∧ Row w B r.e r.sz v r.n r.xs
def Foot (S : MSt) (σ : List Value) (x : Nat) : Prop := (∃ b ∈ S.blks, b.g = x) ∨ ∃ r ∈ S.rows, ∃ v, r.v.at_ σ = some v ∧ ownB v = some x
/-- Blocks below that stay as they are. -/
class Gnd where obj : Nat → Option Obj
variable [Gnd]
/-- Memory is in such a state. -/
structure MemAt (w : World) (B : Nat) (S : MSt) (σ : List Value) : Prop where
  blk : ∀ b ∈ S.blks, BlkAt w B σ b
  row : ∀ r ∈ S.rows, RowAt w B σ r
  one : ∀ u ∈ σ, rawOne u = true
  bb : S.blks.Pairwise fun b b' => b.g ≠ b'.g
  br : ∀ b ∈ S.blks, ∀ r ∈ S.rows, ∀ v, r.v.at_ σ = some v → ownB v ≠ some b.g
  rr : S.rows.Pairwise fun r r' => ∀ v v' x, r.v.at_ σ = some v → r'.v.at_ σ = some v' → ownB v = some x → ownB v' ≠ some x
  ex : ∃ x, Foot S σ x
  gd : ∀ x o, Gnd.obj x = some o → x < B ∧ w.heap[x]? = some o
theorem BlkAt.keep {w w' : World} {B : Nat} {σ : List Value} {b : Blk} (h : BlkAt w B σ b) (hk : w'.heap[b.g]? = w.heap[b.g]?) : BlkAt w' B σ b := by
  obtain ⟨h1, C, fr, h2, h3⟩ := h
  exact ⟨h1, C, fr, hk.trans h2, h3⟩
theorem MemAt.keep {w w' : World} {B : Nat} {S : MSt} {σ : List Value} (h : MemAt w B S σ) (hk : ∀ x, Foot S σ x → w'.heap[x]? = w.heap[x]?) (hg : ∀ x o, Gnd.obj x = some o → w'.heap[x]? = w.heap[x]?) : MemAt w' B S σ where
  blk := fun b hb => (h.blk b hb).keep (hk _ (.inl ⟨b, hb, rfl⟩))
  row := fun r hr => by
    obtain ⟨v, h1, h2⟩ := h.row r hr
    exact ⟨v, h1, h2.keep fun k hkk => hk k (.inr ⟨r, hr, v, h1, hkk⟩)⟩
  one := h.one
  bb := h.bb
  br := h.br
  rr := h.rr
  ex := h.ex
  gd := fun x o hx => ⟨(h.gd x o hx).1, (hg x o hx).trans (h.gd x o hx).2⟩
theorem MemAt.lt {w : World} {B : Nat} {S : MSt} {σ : List Value} (h : MemAt w B S σ) {x : Nat} (hx : Foot S σ x) : B ≤ x ∧ x < w.heap.size := by
  rcases hx with ⟨b, hb, rfl⟩ | ⟨r, hr, v, h1, h2⟩
  · obtain ⟨h1, C, fr, h2, _⟩ := h.blk b hb
    exact ⟨h1, (Array.getElem?_eq_some_iff.1 h2).1⟩
  · obtain ⟨v', h3, h4⟩ := h.row r hr
    rw [h1] at h3; cases h3
    exact h4.lt x h2
/-- From a state to another. -/
structure MemTo (w : World) (B : Nat) (S : MSt) (σ : List Value) (S' : MSt) (σ' : List Value) (w' : World) : Prop where
  at_ : MemAt w' B S' σ'
  size : w.heap.size ≤ w'.heap.size
  keep : ∀ x, x < w.heap.size → ¬ Foot S σ x → w'.heap[x]? = w.heap[x]?
  foot : ∀ x, Foot S' σ' x → Foot S σ x ∨ w.heap.size ≤ x
  same : w'.os = w.os ∧ w'.tape = w.tape ∧ w'.output = w.output
theorem MemTo.refl {w : World} {B : Nat} {S : MSt} {σ : List Value} (h : MemAt w B S σ) : MemTo w B S σ S σ w := ⟨h, Nat.le_refl _, fun _ _ _ => rfl, fun _ h => .inl h, rfl, rfl, rfl⟩
theorem MemTo.trans {w0 w1 w2 : World} {B : Nat} {S0 S1 S2 : MSt} {σ0 σ1 σ2 : List Value} (a : MemTo w0 B S0 σ0 S1 σ1 w1) (b : MemTo w1 B S1 σ1 S2 σ2 w2) : MemTo w0 B S0 σ0 S2 σ2 w2 where
  at_ := b.at_
  size := Nat.le_trans a.size b.size
  keep := fun x hx hn => by
    rw [b.keep x (Nat.lt_of_lt_of_le hx a.size) ?_, a.keep x hx hn]
    intro hf
    rcases a.foot x hf with q | q
    · exact hn q
    · omega
  foot := fun x hx => by
    rcases b.foot x hx with q | q
    · exact a.foot x q
    · exact .inr (Nat.le_trans a.size q)
  same := ⟨b.same.1.trans a.same.1, b.same.2.1.trans a.same.2.1, b.same.2.2.trans a.same.2.2⟩
/-- What names stand for, and states of memory (each with how many names there are). -/
abbrev memEnv (vals : List Value) (B : Nat) (L : List (MSt × Nat)) : Env where
  val := fun i => (i : Int)
  mono := fun i j h => by omega
  v := fun n => vals.getD n (.bool false)
  ext := fun k σ w => ∃ S n, L[k]? = some (S, n) ∧ σ.length = n ∧ MemAt w B S σ
  foot := fun k σ x => (∃ S n, L[k]? = some (S, n) ∧ Foot S σ x) ∨ (Gnd.obj x).isSome = true
  keep := by
    rintro k σ w w' ⟨S, n, h1, h2, h3⟩ hk
    exact ⟨S, n, h1, h2, h3.keep (fun x hx => hk x (.inl ⟨S, n, h1, hx⟩)) fun x o hx => hk x (.inr (by rw [hx]; rfl))⟩
  low := by
    rintro k σ w ⟨S, n, h1, h2, h3⟩ x (⟨S', n', q1, q2⟩ | q)
    · rw [h1] at q1; cases q1
      exact (h3.lt q2).2
    · obtain ⟨o, ho⟩ := Option.isSome_iff_exists.1 q
      exact (Array.getElem?_eq_some_iff.1 (h3.gd x o ho).2).1
  pos := by
    rintro k σ w ⟨S, n, h1, h2, h3⟩
    obtain ⟨x, hx⟩ := h3.ex
    exact ⟨x, .inl ⟨S, n, h1, hx⟩⟩
/-- Two parts of memory. -/
def MSt.and (S R : MSt) : MSt := ⟨S.blks ++ R.blks, S.rows ++ R.rows⟩
/-- Marks of loops around calls, apart from a state's blocks. -/
inductive DefF (lo : Nat) (F : Nat → Prop) (w : World) : List Deferred → Prop
  | nil : DefF lo F w []
  | cons {d : Deferred} {ds : List Deferred} {r : Nat} : d.target = .collected r → lo ≤ r → r < w.heap.size → w.heap[r]? = some (.deferred (some [])) → ¬ F r → (∀ d' ∈ ds, d'.target ≠ .collected r) → DefF lo F w ds → DefF lo F w (d :: ds)
/-- Between two pieces of code: the frame; what stands deferred. -/
structure Fra (nt lo : Nat) (F : Nat → Prop) (l : List (Option Value)) (a : Act) (w : World) : Prop where
  slots : Slots l a.tmps.toList
  size : a.tmps.size = nt
  low : lo ≤ w.heap.size
  defs : DefF lo F w a.defers
theorem DefF.mono {lo : Nat} {F G : Nat → Prop} {w : World} (hFG : ∀ x, G x → F x) : ∀ {ds : List Deferred}, DefF lo F w ds → DefF lo G w ds
  | _, .nil => .nil
  | _, .cons h1 h2 h3 h4 h5 h6 h7 => .cons h1 h2 h3 h4 (fun h => h5 (hFG _ h)) h6 (DefF.mono hFG h7)
theorem DefF.more {lo : Nat} {F G : Nat → Prop} {w : World} (hFG : ∀ x, G x → F x ∨ x < lo) : ∀ {ds : List Deferred}, DefF lo F w ds → DefF lo G w ds
  | _, .nil => .nil
  | _, .cons h1 h2 h3 h4 h5 h6 h7 => .cons h1 h2 h3 h4 (fun h => (hFG _ h).elim h5 fun q => by omega) h6 (DefF.more hFG h7)
/-- What is below stays as it is. -/
theorem MemTo.gnd {w w' : World} {B : Nat} {S S' : MSt} {σ σ' : List Value} (h : MemTo w B S σ S' σ' w') (h0 : MemAt w B S σ) (x : Nat) (o : Obj) (hx : Gnd.obj x = some o) : w'.heap[x]? = w.heap[x]? :=
  ((h.at_.gd x o hx).2).trans ((h0.gd x o hx).2).symm
end
variable [Env]
def encS (s : ByteArray) : Nat := encB s.data.toList 0

mutual
inductive RV (ι : Inj) : AV → Value → Prop
  | int (k : IntKind) (n : Int) : RV ι (.int k n) (.int k n)
  | bool (b : Bool) : RV ι (.bool b) (.bool b)
  | str (s : ByteArray) : RV ι (.str s.size (encS s)) (.string s)
  | ptr {g e i ub o : Nat} {l : Loc} : ι g e = some l → l.lo ≤ i → ub ≤ l.hi → (i : Int) + l.d = (o : Int) → (ub : Int) + l.d ≤ (l.top : Int) → RV ι (.ptr g e i ub) (.pointer (some ⟨l.b, o, none⟩))
  | sl {g e i len o c sz : Nat} {cap : Option Nat} {l : Loc} : ι g e = some l → l.lo ≤ i → i + len * sz ≤ l.hi → ((i : Int) + l.d = (o : Int) ∨ c = 0) → len ≤ c → (c ≠ 0 → o + c * sz ≤ l.top) →
      (∀ q, cap = some q → c = q ∧ i + q * sz ≤ l.hi) → (cap = none → l.hi ≤ i + c * sz) → RV ι (.sl g e i len cap sz) (.slice (some ⟨l.b, o, none⟩) len c)
  | nulp : RV ι (.nul .p) (.pointer none)
  | nuls : RV ι (.nul .s) (.slice none 0 0)
  | nulm : RV ι (.nul .m) (.map none)
  | nulf : RV ι (.nul .f) .nilFunc
  | nuli : RV ι (.nul .i) .nilIface
  | map {g : Nat} {l : Loc} : ι g 0 = some l → RV ι (.map g) (.map (some l.b))
  | fn {f : FuncId} {a b : List AV} {x y : Array Value} : RVL ι a x.toList → RVL ι b y.toList → RV ι (.fn f a b) (.func (.func f) x y)
  | yield {g : Nat} {l : Loc} : ι g 0 = some l → RV ι (.yield g) (.func (.yield l.b) #[] #[])
  | iface {t : TypeId} {v : AV} {u : Value} : RV ι v u → RV ι (.iface t v) (.iface t u)
  | agg {l : List AV} {x : Array Value} : RVL ι l x.toList → RV ι (.agg l) (.agg x)
  | tup {l : List AV} {x : Array Value} : RVL ι l x.toList → RV ι (.tup l) (.tuple x)
  | raw (v : Value) : RV ι (.raw v) v
  | sym (i : Nat) (d lo hi : Int) : lo ≤ Env.val i + d → Env.val i + d ≤ hi → RV ι (.sym i d lo hi) (.int .i64 (Env.val i + d))
  | any (a : Nat) (v : Value) : RV ι (.sx 0 a) v
  | sx1 (n : Nat) : rawOne (Env.v n) = true → RV ι (.sx 1 n) (Env.v n)
  | sx2 {n : Nat} {l : Loc} : ι 0 (2 * n) = some l → rawOne l.v = true → RV ι (.sx 2 n) l.v
inductive RVL (ι : Inj) : List AV → List Value → Prop
  | nil : RVL ι [] []
  | cons {a : AV} {v : Value} {l : List AV} {m : List Value} : RV ι a v → RVL ι l m → RVL ι (a :: l) (v :: m)
end

def Inj.le (ι ι' : Inj) : Prop := ∀ g s l, ι g s = some l → ι' g s = some l
theorem Inj.le_refl (ι : Inj) : Inj.le ι ι := fun _ _ _ h => h
theorem Inj.le_trans {a b c : Inj} (h : Inj.le a b) (h' : Inj.le b c) : Inj.le a c := fun g s l e => h' g s l (h g s l e)
mutual
theorem RV.mono {ι ι' : Inj} (h : Inj.le ι ι') : ∀ {a : AV} {v : Value}, RV ι a v → RV ι' a v
  | _, _, .int k n => .int k n
  | _, _, .bool b => .bool b
  | _, _, .str s => .str s
  | _, _, .ptr h1 h2 h3 h4 h5 => .ptr (h _ _ _ h1) h2 h3 h4 h5
  | _, _, .sl h1 h2 h3 h4 h5 h6 h7 h8 => .sl (h _ _ _ h1) h2 h3 h4 h5 h6 h7 h8
  | _, _, .nulp => .nulp
  | _, _, .nuls => .nuls
  | _, _, .nulm => .nulm
  | _, _, .nulf => .nulf
  | _, _, .nuli => .nuli
  | _, _, .map h1 => .map (h _ _ _ h1)
  | _, _, .fn h1 h2 => .fn (RVL.mono h h1) (RVL.mono h h2)
  | _, _, .yield h1 => .yield (h _ _ _ h1)
  | _, _, .iface h1 => .iface (RV.mono h h1)
  | _, _, .agg h1 => .agg (RVL.mono h h1)
  | _, _, .tup h1 => .tup (RVL.mono h h1)
  | _, _, .raw v => .raw v
  | _, _, .sym _ _ _ _ h1 h2 => .sym _ _ _ _ h1 h2
  | _, _, .any _ _ => .any _ _
  | _, _, .sx1 _ h1 => .sx1 _ h1
  | _, _, .sx2 h1 h2 => .sx2 (h _ _ _ h1) h2
theorem RVL.mono {ι ι' : Inj} (h : Inj.le ι ι') : ∀ {a : List AV} {v : List Value}, RVL ι a v → RVL ι' a v
  | _, _, .nil => .nil
  | _, _, .cons h1 h2 => .cons (RV.mono h h1) (RVL.mono h h2)
end
theorem RVL.length {ι : Inj} : ∀ {a : List AV} {v : List Value}, RVL ι a v → a.length = v.length
  | _, _, .nil => rfl
  | _, _, .cons _ h => by simp [RVL.length h]
theorem RVL.append {ι : Inj} : ∀ {a : List AV} {v : List Value} {b : List AV} {u : List Value}, RVL ι a v → RVL ι b u → RVL ι (a ++ b) (v ++ u)
  | _, _, _, _, .nil, h => h
  | _, _, _, _, .cons h1 h2, h => .cons h1 (RVL.append h2 h)
theorem RVL.get {ι : Inj} : ∀ {a : List AV} {v : List Value}, RVL ι a v → ∀ i, i < a.length → ∃ x, v[i]? = some x ∧ RV ι (nth a i) x
  | _, _, .nil, i, h => by simp at h
  | _, _, .cons h1 _, 0, _ => ⟨_, rfl, h1⟩
  | _, _, .cons _ h2, i + 1, h => by
    obtain ⟨x, hx, hr⟩ := RVL.get h2 i (by simpa using h)
    exact ⟨x, by simpa using hx, hr⟩
theorem undef_rv (ι : Inj) : RV ι undefA undef := .tup .nil

/-! ### Memory -/
def codeOfE : E → Option Code
  | .normal => none
  | .exit i => some (.exit i)
  | .goto l => some (.goto l)
  | .ret => some .ret
structure FrameRel (nt : Nat) (ι : Inj) (f : Fr) (tmps : Array Value) : Prop where
  size : tmps.size = nt
  most : nt ≤ 576
  get : ∀ t, t < nt → RV ι ((getC t).run f) (tmps.getD t undef)
inductive MEs (ι : Inj) : List ME → List MapEntry → Prop
  | nil : MEs ι [] []
  | cons {e : ME} {x : MapEntry} {l : List ME} {m : List MapEntry} : RV ι e.k x.key → RV ι e.v x.val → e.born = x.born → MEs ι l m → MEs ι (e :: l) (x :: m)
/-- What the block is of: one variable of a type, or a row. -/
def ElOk (k : Nat) (e : TypeId) (l : Loc) : Prop := k = 0 ∨ (k = 2 * e + 1 ∧ l.d = 0 ∧ l.lo = 0 ∧ l.hi = l.top) ∨ k = 2 * e + 2
/-- The cells of a block, from lo to hi, are what the tree holds. -/
def CellsOk (ι : Inj) (w : World) (c : CT) (l : Loc) (mk : Nat) : Prop :=
  ∃ C el fr, w.heap[l.b]? = some (.cells C el fr) ∧ C.size = l.top ∧ (mk = 0 → ∀ j, ¬ (fr.1 ≤ j ∧ j < fr.2)) ∧ (mk ≤ 1 → ∀ j, j < l.top → ¬ (fr.1 ≤ j ∧ j < fr.2)) ∧
    (∀ i, l.lo ≤ i → i < l.hi → ∃ o : Nat, ∃ u, (i : Int) + l.d = (o : Int) ∧ C[o]? = some u ∧ RV ι (c.get i) u) ∧ ElOk c.el el l
def ObjOk (ι : Inj) (w : World) (g : Nat) : AO → Prop
  | .no => True
  | .cells c len ep fl mk => len ≤ 8 ^ c.d ∧ fl ≤ ep ∧ (∀ s, ep < s → ι g s = none) ∧ ∀ s, fl ≤ s → s ≤ ep → ∃ l, ι g s = some l ∧ l.hi ≤ len ∧ (s = ep → l.hi = len) ∧ CellsOk ι w c l mk
  | .map es clock => (∀ s, 0 < s → ι g s = none) ∧ ∃ l, ι g 0 = some l ∧ ∃ X, w.heap[l.b]? = some (.map X clock) ∧ MEs ι es X.toList
  | .siter n u pos => (∀ s, 0 < s → ι g s = none) ∧ ∃ l, ι g 0 = some l ∧ ∃ s, w.heap[l.b]? = some (.stringIter s pos) ∧ s.size = n ∧ encS s = u
  | .loop st p nt fr ps a b => (∀ s, 0 < s → ι g s = none) ∧ ∃ l, ι g 0 = some l ∧ ∃ L : Loop, w.heap[l.b]? = some (.loop L) ∧ L.state = st ∧ L.pending = p.bind codeOfE ∧ FrameRel nt ι fr L.tmps ∧ L.params.toList = ps ∧ L.assign = a ∧ L.body = b
  | .miter m since seen last => (∀ s, 0 < s → ι g s = none) ∧ ∃ l, ι g 0 = some l ∧ l.d = 0 ∧ ((m = none ∧ ∃ a b c, w.heap[l.b]? = some (.mapIter none a b c)) ∨ ∃ gm lm, m = some gm ∧ ι gm 0 = some lm ∧ w.heap[l.b]? = some (.mapIter (some lm.b) since seen.toArray last))
  | .ghost k => ∃ σ : List Value, Env.ext k σ w ∧ (∀ n v, σ[n]? = some v → ∃ l, ι g (2 * n) = some l ∧ l.v = v) ∧ (∀ n, σ.length ≤ n → ι g (2 * n) = none) ∧ (∀ b, Env.foot k σ b → ∃ l, ι g (2 * b + 1) = some l ∧ l.b = b) ∧ (∀ s l, ι g s = some l → l.d = 0) ∧ (∀ b l, ι g (2 * b + 1) = some l → l.b = b)
structure Sim (ι : Inj) (h : H) (w : World) : Prop where
  nx : h.nx ≤ 32768
  beyond : ∀ g s, h.nx ≤ g → ι g s = none
  inj : ∀ g s l g' s' l', ι g s = some l → ι g' s' = some l' → l.b = l'.b → g = g' ∧ l.d = l'.d
  inw : ∀ g s l, ι g s = some l → l.b < w.heap.size
  obj : ∀ g, g < h.nx → ObjOk ι w g (h.obj g)
/-- Is it written to? -/
def AO.wr : AO → Prop
  | .no => False
  | .cells _ _ _ _ mk => mk ≤ 1
  | _ => True
/-- Streams are as they were. -/
def SameExt (w w' : World) : Prop := w'.os = w.os ∧ w'.tape = w.tape ∧ w'.output = w.output
/-- What a step does to memory. -/
structure Grows (ι : Inj) (h : H) (w : World) (ι' : Inj) (h' : H) (w' : World) : Prop where
  ext : Inj.le ι ι'
  nx : h.nx ≤ h'.nx
  size : w.heap.size ≤ w'.heap.size
  fresh : ∀ g s l, ι' g s = some l → ι g s = none → w.heap.size ≤ l.b ∨ (∃ s0 l0, ι g s0 = some l0 ∧ l0.b = l.b ∧ (h.obj g).wr)
  old : ∀ g, g < h.nx → (h'.obj g).wr → (h.obj g).wr
  keep : ∀ b, b < w.heap.size → (∀ g s l, g < h.nx → (h.obj g).wr → ι g s = some l → l.b ≠ b) → w'.heap[b]? = w.heap[b]?
  kept : ∀ g, g < h.nx → h.obj g = .no → h'.obj g = .no ∧ ∀ s, ι' g s = ι g s
  streams : SameExt w w'
theorem Grows.refl (ι : Inj) (h : H) (w : World) : Grows ι h w ι h w :=
  ⟨Inj.le_refl ι, Nat.le_refl _, Nat.le_refl _, fun _ _ _ h1 h2 => (by rw [h1] at h2; cases h2), fun _ _ h => h, fun _ _ _ => rfl, fun _ _ h => ⟨h, fun _ => rfl⟩, rfl, rfl, rfl⟩
theorem Grows.trans {ι ι1 ι2 : Inj} {h h1 h2 : H} {w w1 w2 : World} (s0 : Sim ι h w) (a : Grows ι h w ι1 h1 w1) (b : Grows ι1 h1 w1 ι2 h2 w2) : Grows ι h w ι2 h2 w2 where
  ext := Inj.le_trans a.ext b.ext
  nx := Nat.le_trans a.nx b.nx
  size := Nat.le_trans a.size b.size
  fresh := fun g s l e n => by
    cases e1 : ι1 g s with
    | some l1 =>
      have := b.ext _ _ _ e1
      rw [e] at this; cases this
      exact a.fresh g s l e1 n
    | none =>
      rcases b.fresh g s l e e1 with h3 | ⟨s1, l1, h3, h4, h5⟩
      · exact .inl (Nat.le_trans a.size h3)
      · cases e2 : ι g s1 with
        | some l2 =>
          have := a.ext _ _ _ e2
          rw [h3] at this; cases this
          have hg : g < h.nx := Nat.lt_of_not_le fun hh => by rw [s0.beyond g s1 hh] at e2; cases e2
          exact .inr ⟨s1, l1, e2, h4, a.old g hg h5⟩
        | none =>
          rcases a.fresh g s1 l1 h3 e2 with h6 | ⟨s2, l2, h6, h7, h8⟩
          · exact .inl (h4 ▸ h6)
          · exact .inr ⟨s2, l2, h6, h7.trans h4, h8⟩
  streams := ⟨b.streams.1.trans a.streams.1, b.streams.2.1.trans a.streams.2.1, b.streams.2.2.trans a.streams.2.2⟩
  old := fun g hg hw => a.old g hg (b.old g (Nat.lt_of_lt_of_le hg a.nx) hw)
  kept := fun g hg ho => by
    obtain ⟨h1, e1⟩ := a.kept g hg ho
    obtain ⟨h2, e2⟩ := b.kept g (Nat.lt_of_lt_of_le hg a.nx) h1
    exact ⟨h2, fun s => (e2 s).trans (e1 s)⟩
  keep := fun k hk hn => by
    rw [b.keep k (Nat.lt_of_lt_of_le hk a.size) ?_, a.keep k hk hn]
    intro g s l hg hw e
    cases e1 : ι g s with
    | some l1 =>
      have := a.ext _ _ _ e1
      rw [e] at this; cases this
      have hg' : g < h.nx := Nat.lt_of_not_le fun hh => by rw [s0.beyond g s hh] at e1; cases e1
      exact hn g s l hg' (a.old g hg' hw) e1
    | none =>
      rcases a.fresh g s l e e1 with h6 | ⟨s2, l2, h6, h7, h8⟩
      · omega
      · have hg' : g < h.nx := Nat.lt_of_not_le fun hh => by rw [s0.beyond g s2 hh] at h6; cases h6
        exact h7 ▸ hn g s2 l2 hg' h8 h6

/-! ### Frames -/
theorem getC_lo {t : Nat} (h : t ≤ 63) (f : Fr) : (getC t).run f = TT.get f.lo (pth 2 t) := by
  unfold getC; rw [le_eq, if_pos h]; rfl
theorem getC_hi {t : Nat} (h : ¬ t ≤ 63) (f : Fr) : (getC t).run f = TT.get f.hi (pth 3 (t - 64)) := by
  unfold getC; rw [le_eq, if_neg h]; rfl
def Fr.put (f : Fr) (t : Nat) (v : AV) : Fr := if t ≤ 63 then ⟨TT.put f.lo (pth 2 t) v, f.hi⟩ else ⟨f.lo, TT.put f.hi (pth 3 (t - 64)) v⟩
theorem putC_eq {β : Type} (t : Nat) (f : Fr) (v : AV) (k : Fr → β) : (putC t).run β f v k = k (f.put t v) := by
  unfold putC Fr.put
  rw [le_eq]
  by_cases h : t ≤ 63
  · rw [if_pos h, if_pos h]; exact setTC_eq 2 (pth 2 t) f.lo v fun lo => k ⟨lo, f.hi⟩
  · rw [if_neg h, if_neg h]; exact setTC_eq 3 (pth 3 (t - 64)) f.hi v fun hi => k ⟨f.lo, hi⟩
theorem getC_put {t s : Nat} (ht : t < 576) (hs : s < 576) (f : Fr) (v : AV) : (getC s).run (f.put t v) = if t = s then v else (getC s).run f := by
  unfold Fr.put
  by_cases h1 : t ≤ 63
  · rw [if_pos h1]
    by_cases h2 : s ≤ 63
    · rw [getC_lo h2, getC_lo h2]
      exact TT.get_put_pth 2 f.lo t s v (by omega) (by omega)
    · rw [getC_hi h2, getC_hi h2, if_neg (by omega)]
  · rw [if_neg h1]
    by_cases h2 : s ≤ 63
    · rw [getC_lo h2, getC_lo h2, if_neg (by omega)]
    · rw [getC_hi h2, getC_hi h2]
      have := TT.get_put_pth 3 f.hi (t - 64) (s - 64) v (by omega) (by omega)
      refine this.trans ?_
      by_cases h3 : t = s
      · subst h3; simp
      · rw [if_neg h3, if_neg (by omega)]
def Fr.putD (nt : Nat) (dst : Option Nat) (f : Fr) (v : AV) : Fr := match dst with | some t => if t < nt then f.put t v else f | none => f
theorem putD_eq {β : Type} (nt : Nat) (dst : Option Nat) (f : Fr) (v : AV) (k : Fr → β) : (putD nt dst).run β f v k = k (f.putD nt dst v) := by
  unfold AK.putD Fr.putD
  cases dst with
  | none => rfl
  | some t =>
    simp only [le_eq]
    by_cases h : t < nt
    · rw [if_pos (Nat.succ_le_of_lt h), if_pos h]; exact putC_eq t f v k
    · rw [if_neg (by omega), if_neg h]
theorem FrameRel.mono {nt : Nat} {ι ι' : Inj} {f : Fr} {tmps : Array Value} (h : FrameRel nt ι f tmps) (hi : Inj.le ι ι') : FrameRel nt ι' f tmps :=
  ⟨h.size, h.most, fun t ht => (h.get t ht).mono hi⟩
theorem getD_set (tmps : Array Value) (d t : Nat) (u : Value) (hd : d < tmps.size) : (tmps.setIfInBounds d u).getD t undef = if d = t then u else tmps.getD t undef := by
  simp only [Array.getD_eq_getD_getElem?, Array.getElem?_setIfInBounds]
  by_cases h : d = t
  · subst h; simp [hd]
  · simp [h]
theorem FrameRel.put {nt : Nat} {ι : Inj} {f : Fr} {a : Act} {v : AV} {u : Value} (h : FrameRel nt ι f a.tmps) (dst : Option Nat) (hv : RV ι v u) : FrameRel nt ι (f.putD nt dst v) (a.put dst u).tmps := by
  cases dst with
  | none => exact h
  | some d =>
    show FrameRel nt ι (if d < nt then f.put d v else f) (a.tmps.setIfInBounds d u)
    by_cases hd : d < nt
    · rw [if_pos hd]
      refine ⟨by rw [Array.size_setIfInBounds]; exact h.size, h.most, fun t ht => ?_⟩
      have hm := h.most
      rw [getC_put (by omega) (by omega), getD_set _ _ _ _ (by rw [h.size]; exact hd)]
      by_cases e : d = t
      · rw [if_pos e, if_pos e]; exact hv
      · rw [if_neg e, if_neg e]; exact h.get t ht
    · rw [if_neg hd]
      have e : a.tmps.setIfInBounds d u = a.tmps := by
        rw [Array.setIfInBounds_eq_of_size_le]; rw [h.size]; omega
      rw [e]; exact h
/-- What an operand is. -/
theorem ofV1_rv (ι : Inj) (v : Value) : RV ι (AV.ofV1 v) v := by
  cases v with
  | int k n => exact .int _ _
  | bool b => exact .bool _
  | string s =>
    show RV ι (forceN s.size fun n => forceN (encB s.data.toList 0) fun u => .str n u) _
    rw [forceN_eq, forceN_eq]; exact .str _
  | pointer a => cases a with | none => exact .nulp | some _ => exact .raw _
  | slice a l c =>
    cases a with
    | none =>
      show RV ι (eqN l 0 (eqN c 0 (.nul .s) (.raw (.slice none l c))) (.raw (.slice none l c))) _
      rw [eqN_eq, eqN_eq]
      split
      · rename_i h1; subst h1
        split
        · rename_i h2; subst h2; exact .nuls
        · exact .raw _
      · exact .raw _
    | some _ => exact .raw _
  | map a => cases a with | none => exact .nulm | some _ => exact .raw _
  | nilFunc => exact .nulf
  | nilIface => exact .nuli
  | func fn a b =>
    cases fn with
    | func f =>
      show RV ι (eqN a.size 0 (eqN b.size 0 (.fn f [] []) (.raw (.func (.func f) a b))) (.raw (.func (.func f) a b))) _
      rw [eqN_eq, eqN_eq]
      split
      · rename_i h1
        split
        · rename_i h2
          have e1 : a = #[] := Array.eq_empty_of_size_eq_zero h1
          have e2 : b = #[] := Array.eq_empty_of_size_eq_zero h2
          subst e1 e2; exact .fn .nil .nil
        · exact .raw _
      · exact .raw _
    | _ => exact .raw _
  | _ => exact .raw _
theorem ofVL_rv (ι : Inj) : ∀ l : List Value, RVL ι (l.map AV.ofV1) l
  | [] => .nil
  | v :: l => .cons (ofV1_rv ι v) (ofVL_rv ι l)
theorem ofV_rv (ι : Inj) (v : Value) : RV ι (AV.ofV v) v := by
  unfold AV.ofV
  split
  · exact .agg (ofVL_rv ι _)
  · exact .tup (ofVL_rv ι _)
  · exact ofV1_rv ι v
/-- The package-level variables are what G says. -/
def GlobOk (G : Nat → AV) (ι : Inj) : Prop := ∀ g, RV ι (G g) (.pointer (some ⟨g, 0, none⟩))
theorem evO_rv {G : Nat → AV} {nt : Nat} {ι : Inj} {f : Fr} {a : Act} (hG : GlobOk G ι) (h : FrameRel nt ι f a.tmps) (x : Operand) : RV ι ((evO G nt x).run f) (a.eval x) := by
  cases x with
  | tmp t =>
    show RV ι ((le (β := EvC) (Nat.succ t) nt (getC t) ⟨fun _ => undefA⟩).run f) (a.tmps.getD t undef)
    rw [le_eq]
    by_cases ht : t < nt
    · rw [if_pos (Nat.succ_le_of_lt ht)]; exact h.get t ht
    · have h1 : ¬ Nat.succ t ≤ nt := fun h => ht h
      have h2 : a.tmps.size ≤ t := by have := h.size; omega
      rw [if_neg h1, Array.getD_eq_getD_getElem?, Array.getElem?_eq_none h2]; exact undef_rv ι
  | const v => exact ofV_rv ι v
  | global g => exact hG g
  | func f => exact .fn .nil .nil
theorem evs_rv {G : Nat → AV} {nt : Nat} {ι : Inj} {f : Fr} {a : Act} (hG : GlobOk G ι) (h : FrameRel nt ι f a.tmps) : ∀ l : List Operand, RVL ι ((evs G nt l).run f) (l.map a.eval)
  | [] => .nil
  | x :: l => .cons (evO_rv hG h x) (evs_rv hG h l)
/-- Two rows of parts. -/
inductive RVP (ι : Inj) : List (Nat × AV) → List (Nat × Value) → Prop
  | nil : RVP ι [] []
  | cons {i : Nat} {a : AV} {v : Value} {l : List (Nat × AV)} {m : List (Nat × Value)} : RV ι a v → RVP ι l m → RVP ι ((i, a) :: l) ((i, v) :: m)
theorem evParts_rv {G : Nat → AV} {nt : Nat} {ι : Inj} {f : Fr} {a : Act} (hG : GlobOk G ι) (h : FrameRel nt ι f a.tmps) : ∀ l : List (Nat × Operand), RVP ι ((evParts G nt l).run f) (l.map fun (i, x) => (i, a.eval x))
  | [] => .nil
  | (_, x) :: l => .cons (evO_rv hG h x) (evParts_rv hG h l)

/-! ### Groups -/
def H.putv (h : H) (g : Nat) (o : AO) : H := ⟨TT.put h.t (pth 5 g) o, h.nx⟩
theorem H.put_eq {β : Type} (h : H) (g : Nat) (o : AO) (k : H → β) : h.put g o k = k (h.putv g o) := setTC_eq 5 (pth 5 g) h.t o fun t => k ⟨t, h.nx⟩
theorem H.obj_putv (h : H) (g g' : Nat) (o : AO) (hg : g < 32768) (hg' : g' < 32768) : (h.putv g o).obj g' = if g = g' then o else h.obj g' := TT.get_put_pth 5 h.t g g' o hg hg'
def H.newv (h : H) (o : AO) : H := ⟨TT.put h.t (pth 5 h.nx) o, h.nx + 1⟩
theorem H.new_eq {β : Type} (h : H) (o : AO) (k : Nat → H → β) (s : β) : h.new o k s = if h.nx ≤ 32767 then k h.nx (h.newv o) else s := by
  show le h.nx 32767 ((setTC 5 (pth 5 h.nx)).run β h.t o fun t => forceN (Nat.succ h.nx) fun n => k h.nx ⟨t, n⟩) s = _
  rw [le_eq]
  split
  · exact (setTC_eq 5 (pth 5 h.nx) h.t o fun t => forceN (Nat.succ h.nx) fun n => k h.nx ⟨t, n⟩).trans (forceN_eq _ _)
  · rfl
theorem H.obj_newv (h : H) (g' : Nat) (o : AO) (hg : h.nx < 32768) (hg' : g' < 32768) : (h.newv o).obj g' = if h.nx = g' then o else h.obj g' := TT.get_put_pth 5 h.t h.nx g' o hg hg'

/-! ### Cells -/
theorem CT.get_mk (d : Nat) (t : TT AV d) (e i : Nat) : CT.get ⟨d, t, e⟩ i = TT.get t (pth d i) := rfl
def CT.setv (c : CT) (i : Nat) (v : AV) : CT := c.set i v id
theorem CT.grow_spec {β : Type} (i : Nat) (k : CT → β) : ∀ (n : Nat) (c : CT), i < 8 ^ (c.d + n) → ∃ c', CT.grow n i k c = k c' ∧ i < 8 ^ c'.d ∧ c.d ≤ c'.d ∧ (∀ j, j < 8 ^ c.d → c'.get j = c.get j) ∧ c'.el = c.el := by
  intro n
  induction n with
  | zero => intro c h; exact ⟨c, rfl, h, Nat.le_refl _, fun _ _ => rfl, rfl⟩
  | succ n ih =>
    intro c h
    obtain ⟨d, t, e0⟩ := c
    show ∃ c', le (Nat.succ i) (Nat.pow 8 d) (k ⟨d, t, e0⟩) (CT.grow n i k ⟨Nat.succ d, (⟨t, TT.full junk d, TT.full junk d, TT.full junk d, TT.full junk d, TT.full junk d, TT.full junk d, TT.full junk d⟩ : O8 (TT AV d)), e0⟩) = k c' ∧ _
    rw [le_eq]
    by_cases hi : Nat.succ i ≤ Nat.pow 8 d
    · rw [if_pos hi]; exact ⟨⟨d, t, e0⟩, rfl, hi, Nat.le_refl _, fun _ _ => rfl, rfl⟩
    · rw [if_neg hi]
      obtain ⟨c', h1, h2, h3, h4, h5⟩ := ih ⟨Nat.succ d, (⟨t, TT.full junk d, TT.full junk d, TT.full junk d, TT.full junk d, TT.full junk d, TT.full junk d, TT.full junk d⟩ : O8 (TT AV d)), e0⟩ (by
        show i < 8 ^ (Nat.succ d + n)
        rw [show Nat.succ d + n = d + (n + 1) by omega]; exact h)
      refine ⟨c', h1, h2, ?_, fun j hj => ?_, h5⟩
      · have h3' : Nat.succ d ≤ c'.d := h3
        show d ≤ c'.d
        omega
      · have hj' : j < 8 ^ d := hj
        rw [h4 j (by show j < 8 ^ (Nat.succ d); rw [Nat.pow_succ]; omega)]
        show TT.get (n := d) ((prj (toD (Nat.mod (Nat.div j (Nat.pow 8 d)) 8))).run _) (pth d j) = TT.get t (pth d j)
        have e : Nat.div j (Nat.pow 8 d) = 0 := Nat.div_eq_of_lt hj'
        rw [e]; rfl
theorem lt_pow (i : Nat) : i < 8 ^ i := Nat.lt_pow_self (by decide)
theorem CT.set_spec (c : CT) (i : Nat) (v : AV) : ∃ c' : CT, (∀ {β : Type} (k : CT → β), c.set i v k = k c') ∧ i < 8 ^ c'.d ∧ c.d ≤ c'.d ∧ c'.get i = v ∧ (∀ j, j < 8 ^ c.d → j ≠ i → c'.get j = c.get j) ∧ c'.el = c.el := by
  obtain ⟨d, t, e0⟩ := c
  by_cases hi : Nat.succ i ≤ Nat.pow 8 d
  · have hi' : i < 8 ^ d := hi
    refine ⟨⟨d, TT.put t (pth d i) v, e0⟩, fun {β} k => ?_, hi', Nat.le_refl _, ?_, fun j hj hne => ?_, rfl⟩
    · show le (Nat.succ i) (Nat.pow 8 d) _ _ = _
      rw [le_eq, if_pos hi]
      exact setTC_eq d (pth d i) t v fun t => k ⟨d, t, e0⟩
    · exact (TT.get_put_pth d t i i v hi' hi').trans (if_pos rfl)
    · exact (TT.get_put_pth d t i j v hi' hj).trans (if_neg (Ne.symm hne))
  · obtain ⟨c1, h1, h2, h3, h4, h5⟩ := CT.grow_spec (β := CT) i id i ⟨d, t, e0⟩ (Nat.lt_of_lt_of_le (lt_pow i) (Nat.pow_le_pow_right (by decide) (by show i ≤ d + i; omega)))
    have hg : ∀ {β : Type} (k : CT → β), CT.grow i i k ⟨d, t, e0⟩ = k c1 := by
      intro β k
      have key : ∀ (n : Nat) (c : CT), CT.grow n i k c = k (CT.grow n i id c) := by
        intro n
        induction n with
        | zero => intro c; rfl
        | succ n ih =>
          intro c
          obtain ⟨d, t, e1⟩ := c
          show le (Nat.succ i) (Nat.pow 8 d) (k ⟨d, t, e1⟩) (CT.grow n i k _) = k (le (Nat.succ i) (Nat.pow 8 d) (id ⟨d, t, e1⟩) (CT.grow n i id _))
          rw [le_eq, le_eq]
          split
          · rfl
          · exact ih _
      rw [key, h1]; rfl
    obtain ⟨d1, t1, e1⟩ := c1
    refine ⟨⟨d1, TT.put t1 (pth d1 i) v, e1⟩, fun {β} k => ?_, h2, h3, ?_, fun j hj hne => ?_, h5⟩
    · show le (Nat.succ i) (Nat.pow 8 d) _ (CT.grow i i _ ⟨d, t, e0⟩) = _
      rw [le_eq, if_neg hi, hg]
      exact setTC_eq d1 (pth d1 i) t1 v fun t => k ⟨d1, t, e1⟩
    · exact (TT.get_put_pth d1 t1 i i v h2 h2).trans (if_pos rfl)
    · refine (TT.get_put_pth d1 t1 i j v h2 (Nat.lt_of_lt_of_le hj (Nat.pow_le_pow_right (by decide) h3))).trans ((if_neg (Ne.symm hne)).trans ?_)
      exact h4 j hj
theorem CT.set_eq {β : Type} (c : CT) (i : Nat) (v : AV) (k : CT → β) : c.set i v k = k (c.setv i v) := by
  obtain ⟨c', h, _⟩ := CT.set_spec c i v
  rw [h, CT.setv, h]; rfl
theorem CT.setv_spec (c : CT) (i : Nat) (v : AV) : i < 8 ^ (c.setv i v).d ∧ c.d ≤ (c.setv i v).d ∧ (c.setv i v).get i = v ∧ ∀ j, j < 8 ^ c.d → j ≠ i → (c.setv i v).get j = c.get j := by
  obtain ⟨c', h, h1, h2, h3, h4, _⟩ := CT.set_spec c i v
  have e : c.setv i v = c' := h id
  rw [e]; exact ⟨h1, h2, h3, h4⟩
theorem CT.setv_el (c : CT) (i : Nat) (v : AV) : (c.setv i v).el = c.el := by
  obtain ⟨c', h, _, _, _, _, h5⟩ := CT.set_spec c i v
  have e : c.setv i v = c' := h id
  rw [e]; exact h5
theorem CT.setEl_get (c : CT) (e i : Nat) : (c.setEl e).get i = c.get i := rfl
theorem CT.setEl_d (c : CT) (e : Nat) : (c.setEl e).d = c.d := rfl
theorem CT.setEl_el (c : CT) (e : Nat) : (c.setEl e).el = e := rfl
theorem CT.fix_spec (c : CT) (q : Nat) : c.fix q = c ∨ (c.fix q = c.setEl 0 ∧ c.el ≠ q) := by
  obtain ⟨d, t, e⟩ := c
  show eqN e q _ _ = _ ∨ (eqN e q _ _ = _ ∧ _)
  rw [eqN_eq]
  by_cases h : e = q
  · rw [if_pos h]; exact .inl rfl
  · rw [if_neg h]; exact .inr ⟨rfl, h⟩
theorem CT.fix_get (c : CT) (q i : Nat) : (c.fix q).get i = c.get i := by
  rcases CT.fix_spec c q with h | ⟨h, _⟩ <;> rw [h]; rfl
theorem CT.fix_d (c : CT) (q : Nat) : (c.fix q).d = c.d := by
  rcases CT.fix_spec c q with h | ⟨h, _⟩ <;> rw [h]; rfl
theorem CT.fix_el (c : CT) (q : Nat) : (c.fix q).el = 0 ∨ (c.fix q).el = c.el ∧ c.el = q := by
  obtain ⟨d, t, e⟩ := c
  show (eqN e q _ _ : CT).el = 0 ∨ (eqN e q _ _ : CT).el = e ∧ e = q
  rw [eqN_eq]
  by_cases h : e = q
  · rw [if_pos h]; exact .inr ⟨rfl, h⟩
  · rw [if_neg h]; exact .inl rfl

/-! ### What was asked for, if the end is another than 's' -/
section
variable {β : Type}
theorem le_inv {a b : Nat} {t e r : β} (h : le a b t e = r) (n : e ≠ r) : a ≤ b ∧ t = r := by
  rw [le_eq] at h
  split at h
  · exact ⟨by assumption, h⟩
  · exact absurd h n
theorem eqN_inv {a b : Nat} {t e r : β} (h : eqN a b t e = r) (n : e ≠ r) : a = b ∧ t = r := by
  rw [eqN_eq] at h
  split at h
  · exact ⟨by assumption, h⟩
  · exact absurd h n
theorem ifB_inv {b : Bool} {t e r : β} (h : ifB b t e = r) (n : e ≠ r) : b = true ∧ t = r := by
  cases b
  · exact absurd h n
  · exact ⟨rfl, h⟩
theorem onNat_inv {i : Int} {k : Nat → β} {s r : β} (h : onNat i k s = r) (n : s ≠ r) : ∃ m : Nat, i = (m : Int) ∧ k m = r := by
  cases i with
  | ofNat m => exact ⟨m, rfl, h⟩
  | negSucc m => exact absurd h n
theorem onCells_inv {o : AO} {k : CT → Nat → Nat → Nat → Nat → β} {s r : β} (h : o.onCells k s = r) (n : s ≠ r) : ∃ c len ep fl mk, o = .cells c len ep fl mk ∧ k c len ep fl mk = r := by
  cases o with
  | cells => exact ⟨_, _, _, _, _, rfl, h⟩
  | _ => exact absurd h n
theorem onMap_inv {o : AO} {k : List ME → Nat → β} {s r : β} (h : o.onMap k s = r) (n : s ≠ r) : ∃ es cl, o = .map es cl ∧ k es cl = r := by
  cases o with
  | map => exact ⟨_, _, rfl, h⟩
  | _ => exact absurd h n
theorem onMiter_inv {o : AO} {k : Option Nat → Nat → List Nat → Nat → β} {s r : β} (h : o.onMiter k s = r) (n : s ≠ r) : ∃ m a b c, o = .miter m a b c ∧ k m a b c = r := by
  cases o with
  | miter m a b c => exact ⟨_, _, _, _, rfl, h⟩
  | _ => exact absurd h n
theorem onGhost_inv {o : AO} {k : Nat → β} {s r : β} (h : o.onGhost k s = r) (n : s ≠ r) : ∃ m, o = .ghost m ∧ k m = r := by
  cases o with
  | ghost m => exact ⟨_, rfl, h⟩
  | _ => exact absurd h n
theorem onLoop_inv {o : AO} {k : LoopState → Option E → Nat → Fr → List Nat → Code → Code → β} {s r : β} (h : o.onLoop k s = r) (n : s ≠ r) : ∃ st p nt fr ps a b, o = .loop st p nt fr ps a b ∧ k st p nt fr ps a b = r := by
  cases o with
  | loop => exact ⟨_, _, _, _, _, _, _, rfl, h⟩
  | _ => exact absurd h n
theorem optRec_inv {α : Type} {o : Option α} {k : α → β} {s r : β} (h : Option.rec (motive := fun _ => β) s k o = r) (n : s ≠ r) : ∃ x, o = some x ∧ k x = r := by
  cases o with
  | none => exact absurd h n
  | some x => exact ⟨x, rfl, h⟩
theorem onR2_inv {q : R2} {k : AV → H → β} {s r : β} (h : onR2 q k s = r) (n : s ≠ r) : ∃ v h', q = .ok v h' ∧ k v h' = r := by
  cases q with
  | ok v h' => exact ⟨v, h', rfl, h⟩
  | bad => exact absurd h n
end
theorem onRS_inv {β : Type} {q : RS} {k : E → Fr → H → β} {s r : β} (h : onRS q k s = r) (n : s ≠ r) : ∃ e f h', q = .ok e f h' ∧ k e f h' = r := by
  cases q with
  | ok e f h' => exact ⟨e, f, h', rfl, h⟩
  | bad => exact absurd h n
theorem nkEq_inv {a b : NK} (h : nkEq a b = true) : a = b := by cases a <;> cases b <;> first | rfl | cases h
theorem lenL_eq {α : Type} (l : List α) : lenL l = l.length := by
  induction l with
  | nil => rfl
  | cons x l ih => exact congrArg Nat.succ ih
theorem appL_eq (a b : List AV) : appL a b = a ++ b := by
  induction a with
  | nil => rfl
  | cons x a ih => exact congrArg (x :: ·) ih

/-! ### Rows of cells -/
def cellsL (c : CT) : Nat → Nat → List AV
  | 0, _ => []
  | n + 1, i => c.get i :: cellsL c n (i + 1)
theorem cellsFrom_eq {β : Type} (c : CT) : ∀ (n i : Nat) (k : List AV → β), cellsFrom c n i k = k (cellsL c n i)
  | 0, _, _ => rfl
  | n + 1, i, k => by
    show forceN (Nat.succ i) (fun j => cellsFrom c n j fun l => k (c.get i :: l)) = _
    rw [forceN_eq, cellsFrom_eq c n]; rfl
theorem cellsL_length (c : CT) : ∀ n i, (cellsL c n i).length = n
  | 0, _ => rfl
  | n + 1, i => by simp [cellsL, cellsL_length c n]
def layL : List AV → CT → Nat → CT
  | [], c, _ => c
  | v :: l, c, i => layL l (c.setv i v) (i + 1)
theorem layCells_eq {β : Type} : ∀ (vs : List AV) (c : CT) (i : Nat) (k : CT → Nat → β), layCells vs c i k = k (layL vs c i) (i + vs.length)
  | [], _, _, _ => rfl
  | v :: l, c, i, k => by
    show c.set i v (fun c => forceN (Nat.succ i) fun i => layCells l c i k) = _
    rw [CT.set_eq, forceN_eq, layCells_eq l]
    simp only [layL, List.length_cons]
    congr 1; omega
theorem layL_spec : ∀ (vs : List AV) (c : CT) (i : Nat), c.d ≤ (layL vs c i).d ∧ (vs ≠ [] → i + vs.length ≤ 8 ^ (layL vs c i).d) ∧
    (∀ j, i ≤ j → j < i + vs.length → (layL vs c i).get j = nth vs (j - i)) ∧ (∀ j, j < 8 ^ c.d → (j < i ∨ i + vs.length ≤ j) → (layL vs c i).get j = c.get j)
  | [], c, i => ⟨Nat.le_refl _, fun h => absurd rfl h, fun j h1 h2 => by simp at h2; omega, fun _ _ _ => rfl⟩
  | v :: l, c, i => by
    obtain ⟨h1, h2, h3, h4⟩ := CT.setv_spec c i v
    obtain ⟨g1, g2, g3, g4⟩ := layL_spec l (c.setv i v) (i + 1)
    have hpow : 8 ^ (c.setv i v).d ≤ 8 ^ (layL l (c.setv i v) (i + 1)).d := Nat.pow_le_pow_right (by decide) g1
    have hpow2 : 8 ^ c.d ≤ 8 ^ (c.setv i v).d := Nat.pow_le_pow_right (by decide) h2
    refine ⟨Nat.le_trans h2 g1, fun _ => ?_, fun j hj1 hj2 => ?_, fun j hj1 hj2 => ?_⟩
    · show i + (l.length + 1) ≤ 8 ^ (layL l (c.setv i v) (i + 1)).d
      cases l with
      | nil => simp only [layL, List.length_nil] at *; omega
      | cons x l => have := g2 (by simp); simp only [List.length_cons] at *; omega
    · show (layL l (c.setv i v) (i + 1)).get j = nth (v :: l) (j - i)
      by_cases e : j = i
      · subst e
        rw [g4 j h1 (.inl (by omega)), h3, Nat.sub_self]; rfl
      · have e2 : j - i = (j - (i + 1)) + 1 := by omega
        rw [g3 j (by omega) (by simp only [List.length_cons] at hj2; omega), e2]; rfl
    · show (layL l (c.setv i v) (i + 1)).get j = c.get j
      simp only [List.length_cons] at hj2
      rw [g4 j (by omega) (by omega), h4 j hj1 (by omega)]
theorem layL_el : ∀ (vs : List AV) (c : CT) (i : Nat), (layL vs c i).el = c.el
  | [], _, _ => rfl
  | v :: l, c, i => (layL_el l (c.setv i v) (i + 1)).trans (CT.setv_el c i v)
theorem nth_ge : ∀ (l : List AV) (i : Nat), l.length ≤ i → nth l i = junk
  | [], _, _ => rfl
  | _ :: _, 0, h => by simp at h
  | _ :: l, i + 1, h => nth_ge l i (by simpa using h)

/-! ### The machine's loads and stores -/
section
variable {P : Program} {w : World} {b : Nat} {C : Array Value} {el : TypeId} {fr : Nat × Nat}
theorem cell_of (h : w.heap[b]? = some (.cells C el fr)) (o : Nat) : w.cell? ⟨b, o, none⟩ = C[o]? := by
  simp [World.cell?, h]
theorem frozen_of (h : w.heap[b]? = some (.cells C el fr)) (o : Nat) : w.frozen? ⟨b, o, none⟩ = (decide (fr.1 ≤ o) && decide (o < fr.2)) := by
  simp [World.frozen?, h]
theorem shape_of (h : w.heap[b]? = some (.cells C el fr)) : w.shape? b = some (el, C.size) := by
  simp [World.shape?, h]
theorem load_run (h : w.heap[b]? = some (.cells C el fr)) {o : Nat} {u : Value} (hu : C[o]? = some u) : (load ⟨b, o, none⟩).run P w = .ok u w := by
  simp [load, Sem.run, cell_of h, hu]
theorem add_addr (b o n : Nat) : (⟨b, o, none⟩ : Addr).add n = ⟨b, o + n, none⟩ := by
  unfold Addr.add
  split
  · rename_i h; subst h; rfl
  · rfl
theorem loadCells_run (h : w.heap[b]? = some (.cells C el fr)) (o : Nat) : ∀ (n i : Nat) (acc : Array Value), o + i + n ≤ C.size →
    (loadCellsFrom ⟨b, o, none⟩ i n acc).run P w = .ok (acc ++ C.extract (o + i) (o + i + n)) w
  | 0, i, acc, _ => by simp [loadCellsFrom, Sem.run_pure]; omega
  | n + 1, i, acc, hn => by
    have hlt : o + i < C.size := by omega
    simp only [loadCellsFrom, Sem.run_bind, add_addr]
    rw [load_run h (Array.getElem?_eq_getElem hlt)]
    simp only [Result.andThen]
    rw [loadCells_run h o n (i + 1) _ (by omega)]
    congr 1
    apply Array.ext'
    simp only [Array.toList_append, Array.toList_push, Array.toList_extract, List.append_assoc]
    congr 1
    rw [show o + (i + 1) = o + i + 1 by omega, show o + i + 1 + n = o + i + (n + 1) by omega]
    have e : C.toList.drop (o + i) = C[o + i] :: C.toList.drop (o + i + 1) := List.drop_eq_getElem_cons (by simpa using hlt)
    rw [List.extract_eq_take_drop, List.extract_eq_take_drop, e, show o + i + (n + 1) - (o + i) = n + 1 by omega, show o + i + (n + 1) - (o + i + 1) = n by omega, List.take_succ_cons]
    rfl
/-- A block with cells written from o on. -/
def putL : List Value → Nat → Array Value → Array Value
  | [], _, C => C
  | v :: l, o, C => putL l (o + 1) (C.setIfInBounds o v)
theorem putL_size : ∀ (l : List Value) (o : Nat) (C : Array Value), (putL l o C).size = C.size
  | [], _, _ => rfl
  | v :: l, o, C => by rw [putL, putL_size l, Array.size_setIfInBounds]
theorem putL_get : ∀ (l : List Value) (o : Nat) (C : Array Value) (j : Nat), o + l.length ≤ C.size → (putL l o C)[j]? = if o ≤ j ∧ j < o + l.length then l[j - o]? else C[j]?
  | [], o, C, j, _ => by simp [putL]; omega
  | v :: l, o, C, j, h => by
    simp only [List.length_cons] at h
    rw [putL, putL_get l (o + 1) _ j (by rw [Array.size_setIfInBounds]; omega)]
    by_cases e : j = o
    · subst e
      rw [if_neg (by omega), if_pos (by simp), Array.getElem?_setIfInBounds, if_pos rfl, if_pos (by omega), Nat.sub_self]; rfl
    · by_cases h1 : o + 1 ≤ j ∧ j < o + 1 + l.length
      · rw [if_pos h1, if_pos (by simp only [List.length_cons]; omega), show j - o = (j - (o + 1)) + 1 by omega]; rfl
      · rw [if_neg h1, if_neg (by simp only [List.length_cons]; omega), Array.getElem?_setIfInBounds, if_neg (by omega)]
def oneV : Value → Prop
  | .agg _ => False
  | .tuple _ => False
  | _ => True
theorem setCell_heap (h : w.heap[b]? = some (.cells C el fr)) (o : Nat) (v : Value) : w.setCell ⟨b, o, none⟩ v = { w with heap := w.heap.setIfInBounds b (.cells (C.setIfInBounds o v) el fr) } := by
  have hb : b < w.heap.size := by
    rcases Nat.lt_or_ge b w.heap.size with hlt | hge
    · exact hlt
    · rw [Array.getElem?_eq_none hge] at h; cases h
  have hv : w.heap[b] = .cells C el fr := by rw [Array.getElem?_eq_getElem hb] at h; exact Option.some.inj h
  unfold World.setCell
  congr 1
  apply Array.ext
  · simp
  · intro i h1 h2
    have h3 : i < w.heap.size := by simpa using h1
    rw [Array.getElem_modify, Array.getElem_setIfInBounds (hj := h3)]
    by_cases e : b = i
    · subst e
      rw [if_pos rfl, if_pos rfl, hv]; rfl
    · rw [if_neg e, if_neg e]
theorem store_run (h : w.heap[b]? = some (.cells C el fr)) {o : Nat} (ho : o < C.size) (hf : ¬ (fr.1 ≤ o ∧ o < fr.2)) {v : Value} (hv : oneV v) :
    (store ⟨b, o, none⟩ v).run P w = .ok () { w with heap := w.heap.setIfInBounds b (.cells (C.setIfInBounds o v) el fr) } := by
  have h1 : w.frozen? ⟨b, o, none⟩ = false := by
    rw [frozen_of h]
    by_cases a : fr.1 ≤ o
    · by_cases c : o < fr.2
      · exact absurd ⟨a, c⟩ hf
      · simp [c]
    · simp [a]
  have h2 : w.cell? ⟨b, o, none⟩ = some C[o] := by rw [cell_of h, Array.getElem?_eq_getElem ho]
  unfold store
  cases v with
  | agg _ => exact hv.elim
  | tuple _ => exact hv.elim
  | _ => simp only [Sem.run, h2, h1]; rw [setCell_heap h]; rfl
theorem storeCells_run : ∀ (l : List Value) (i : Nat) {w : World} {C : Array Value} (_ : w.heap[b]? = some (.cells C el fr)) (o : Nat), o + i + l.length ≤ C.size → (∀ j, o + i ≤ j → j < o + i + l.length → ¬ (fr.1 ≤ j ∧ j < fr.2)) → (∀ v ∈ l, oneV v) →
    (storeCells ⟨b, o, none⟩ l i).run P w = .ok () { w with heap := w.heap.setIfInBounds b (.cells (putL l (o + i) C) el fr) }
  | [], i, w, C, h, o, _, _, _ => by
    simp only [storeCells, Sem.run_pure, putL]
    congr 1
    have : w.heap.setIfInBounds b (.cells C el fr) = w.heap := by
      apply Array.ext
      · simp
      · intro k h1 h2
        rw [Array.getElem_setIfInBounds (hj := h2)]
        split
        · rename_i e; subst e
          rw [Array.getElem?_eq_getElem h2] at h; exact (Option.some.inj h).symm
        · rfl
    rw [this]
  | v :: l, i, w, C, h, o, hs, hf, hv => by
    simp only [List.length_cons] at hs hf
    have hb : b < w.heap.size := by
      rcases Nat.lt_or_ge b w.heap.size with hlt | hge
      · exact hlt
      · rw [Array.getElem?_eq_none hge] at h; cases h
    simp only [storeCells, Sem.run_bind, add_addr]
    rw [store_run h (by omega) (hf _ (by omega) (by omega)) (hv v (by simp))]
    simp only [Result.andThen]
    have h' : ({ w with heap := w.heap.setIfInBounds b (.cells (C.setIfInBounds (o + i) v) el fr) } : World).heap[b]? = some (.cells (C.setIfInBounds (o + i) v) el fr) := by
      simp [hb]
    rw [storeCells_run l (i + 1) h' o (by rw [Array.size_setIfInBounds]; omega) (fun j h1 h2 => hf j (by omega) (by omega)) (fun u hu => hv u (by simp [hu]))]
    congr 1
    simp only [Array.setIfInBounds_setIfInBounds, putL]
    rfl
end

/-! ### Steps of memory -/
theorem MEs.mono {ι ι' : Inj} (h : Inj.le ι ι') : ∀ {l : List ME} {m : List MapEntry}, MEs ι l m → MEs ι' l m
  | _, _, .nil => .nil
  | _, _, .cons h1 h2 h3 h4 => .cons (h1.mono h) (h2.mono h) h3 (h4.mono h)
theorem CellsOk.keep {ι ι' : Inj} {w w' : World} {c : CT} {l : Loc} {mk : Nat} (h : CellsOk ι w c l mk) (hle : Inj.le ι ι') (hb : w'.heap[l.b]? = w.heap[l.b]?) : CellsOk ι' w' c l mk := by
  obtain ⟨C, el, fr, h1, h2, h3, h4, h5, h6⟩ := h
  refine ⟨C, el, fr, hb.trans h1, h2, h3, h4, fun i hi1 hi2 => ?_, h6⟩
  obtain ⟨o, u, h6, h7, h8⟩ := h5 i hi1 hi2
  exact ⟨o, u, h6, h7, h8.mono hle⟩
theorem objOk_keep {ι ι' : Inj} {w w' : World} {g : Nat} {o : AO} (h : ObjOk ι w g o) (hle : Inj.le ι ι') (hsame : ∀ s, ι' g s = ι g s) (hb : ∀ s l, ι g s = some l → w'.heap[l.b]? = w.heap[l.b]?) : ObjOk ι' w' g o := by
  cases o with
  | no => trivial
  | cells c len ep fl mk =>
    obtain ⟨h1, h2, h3, h4⟩ := h
    refine ⟨h1, h2, fun s hs => (hsame s).trans (h3 s hs), fun s a b => ?_⟩
    obtain ⟨l, h5, h6, h7, h8⟩ := h4 s a b
    exact ⟨l, (hsame s).trans h5, h6, h7, h8.keep hle (hb _ _ h5)⟩
  | map es cl =>
    obtain ⟨h1, l, h2, X, h3, h4⟩ := h
    exact ⟨fun s hs => (hsame s).trans (h1 s hs), l, (hsame 0).trans h2, X, (hb _ _ h2).trans h3, h4.mono hle⟩
  | siter n u pos =>
    obtain ⟨h1, l, h2, X, h3, h4⟩ := h
    exact ⟨fun s hs => (hsame s).trans (h1 s hs), l, (hsame 0).trans h2, X, (hb _ _ h2).trans h3, h4⟩
  | loop st p nt fr ps a b =>
    obtain ⟨h1, l, h2, L, h3, h4, h5, h6, h7, h8, h9⟩ := h
    exact ⟨fun s hs => (hsame s).trans (h1 s hs), l, (hsame 0).trans h2, L, (hb _ _ h2).trans h3, h4, h5, h6.mono hle, h7, h8, h9⟩
  | miter m since seen last =>
    obtain ⟨h1, l, h2, hd, h3⟩ := h
    refine ⟨fun s hs => (hsame s).trans (h1 s hs), l, (hsame 0).trans h2, hd, ?_⟩
    rcases h3 with ⟨h3, a, b, c, h4⟩ | ⟨gm, lm, h3, h4, h5⟩
    · exact .inl ⟨h3, a, b, c, (hb _ _ h2).trans h4⟩
    · exact .inr ⟨gm, lm, h3, hle _ _ _ h4, (hb _ _ h2).trans h5⟩
  | ghost k =>
    obtain ⟨σ, h1, h2, h3, h4, h5, h6⟩ := h
    refine ⟨σ, Env.keep k σ w w' h1 fun b hf => ?_, fun n v hv => ?_, fun n hn => (hsame _).trans (h3 n hn), fun b hf => ?_, fun s l hl => h5 s l ((hsame s).symm.trans hl), fun b l hl => h6 b l ((hsame _).symm.trans hl)⟩
    · obtain ⟨l, hl, e⟩ := h4 b hf
      rw [← e]; exact hb _ _ hl
    · obtain ⟨l, hl, e⟩ := h2 n v hv
      exact ⟨l, (hsame _).trans hl, e⟩
    · obtain ⟨l, hl, e⟩ := h4 b hf
      exact ⟨l, (hsame _).trans hl, e⟩
theorem Sim.put {ι ι' : Inj} {h : H} {w w' : World} (S : Sim ι h w) {g : Nat} {o : AO} (hg : g < h.nx)
    (hι : ∀ g' s, g' ≠ g → ι' g' s = ι g' s) (hle : Inj.le ι ι')
    (hadd : ∀ s l, ι' g s = some l → ι g s = none → (w.heap.size ≤ l.b ∧ l.b < w'.heap.size) ∨ ∃ s0 l0, ι g s0 = some l0 ∧ l0.b = l.b ∧ l0.d = l.d)
    (hadd1 : ∀ s s', ι' g s ≠ none → ι' g s' ≠ none → ι g s = none → ι g s' = none → s = s')
    (hsize : w.heap.size ≤ w'.heap.size)
    (hkeep : ∀ b, b < w.heap.size → (∀ s l, ι g s = some l → l.b ≠ b) → w'.heap[b]? = w.heap[b]?)
    (hx : SameExt w w')
    (hwr : (h.obj g).wr) (hobj : ObjOk ι' w' g o) : Sim ι' (h.putv g o) w' ∧ Grows ι h w ι' (h.putv g o) w' := by
  have hnx := S.nx
  have key : ∀ g' s l, ι' g' s = some l → ι g' s = some l ∨ (g' = g ∧ ι g s = none) := by
    intro g' s l e
    by_cases hgg : g' = g
    · subst hgg
      cases e1 : ι g' s with
      | none => exact .inr ⟨rfl, rfl⟩
      | some l1 => have := hle _ _ _ e1; rw [e] at this; exact .inl this.symm
    · exact .inl ((hι g' s hgg).symm.trans e)
  refine ⟨⟨hnx, ?_, ?_, ?_, ?_⟩, ⟨hle, Nat.le_refl _, hsize, ?_, ?_, ?_, ?_, hx⟩⟩
  · intro g' s hg'
    have hne : g' ≠ g := by have : h.nx ≤ g' := hg'; omega
    exact (hι g' s hne).trans (S.beyond g' s hg')
  · intro g1 s1 l1 g2 s2 l2 e1 e2 hb
    rcases key _ _ _ e1 with k1 | ⟨rfl, k1⟩
    · rcases key _ _ _ e2 with k2 | ⟨rfl, k2⟩
      · exact S.inj _ _ _ _ _ _ k1 k2 hb
      · rcases hadd s2 l2 e2 k2 with ⟨q1, q2⟩ | ⟨s0, l0, q1, q2, q3⟩
        · have := S.inw _ _ _ k1; omega
        · obtain ⟨a, b⟩ := S.inj _ _ _ _ _ _ k1 q1 (hb.trans q2.symm)
          exact ⟨a, b.trans q3⟩
    · rcases key _ _ _ e2 with k2 | ⟨rfl, k2⟩
      · rcases hadd s1 l1 e1 k1 with ⟨q1, q2⟩ | ⟨s0, l0, q1, q2, q3⟩
        · have := S.inw _ _ _ k2; omega
        · obtain ⟨a, b⟩ := S.inj _ _ _ _ _ _ q1 k2 (q2.trans hb)
          exact ⟨a, q3.symm.trans b⟩
      · have : s1 = s2 := hadd1 s1 s2 (by rw [e1]; simp) (by rw [e2]; simp) k1 k2
        subst this
        rw [e1] at e2; cases e2
        exact ⟨rfl, rfl⟩
  · intro g' s l e
    rcases key _ _ _ e with k | ⟨rfl, k⟩
    · exact Nat.lt_of_lt_of_le (S.inw _ _ _ k) hsize
    · rcases hadd s l e k with ⟨_, q2⟩ | ⟨s0, l0, q1, q2, _⟩
      · exact q2
      · exact q2 ▸ Nat.lt_of_lt_of_le (S.inw _ _ _ q1) hsize
  · intro g' hg'
    have hg'' : g' < h.nx := hg'
    rw [H.obj_putv h g g' o (by omega) (by omega)]
    by_cases e : g = g'
    · subst e; rw [if_pos rfl]; exact hobj
    · rw [if_neg e]
      refine objOk_keep (S.obj g' hg'') hle (fun s => hι g' s (Ne.symm e)) (fun s l hl => ?_)
      refine hkeep _ (S.inw _ _ _ hl) fun s' l' hl' hb => e (S.inj _ _ _ _ _ _ hl' hl hb).1
  · intro g' s l e n
    rcases key _ _ _ e with k | ⟨rfl, k⟩
    · rw [n] at k; cases k
    · rcases hadd s l e k with ⟨q1, _⟩ | ⟨s0, l0, q1, q2, _⟩
      · exact .inl q1
      · exact .inr ⟨s0, l0, q1, q2, hwr⟩
  · intro g' hg' hw
    rw [H.obj_putv h g g' o (by omega) (by omega)] at hw
    by_cases e : g = g'
    · subst e; exact hwr
    · rw [if_neg e] at hw; exact hw
  · intro b hb hn
    exact hkeep b hb fun s l hl => hn g s l hg hwr hl
  · intro g' hg' ho
    have hne : g' ≠ g := by intro e; subst e; rw [ho] at hwr; exact hwr
    rw [H.obj_putv h g g' o (by omega) (by omega), if_neg (Ne.symm hne)]
    exact ⟨ho, fun s => hι g' s hne⟩
def Inj.add (ι : Inj) (g s : Nat) (l : Loc) : Inj := fun g' s' => if g' = g ∧ s' = s then some l else ι g' s'
theorem Inj.add_same (ι : Inj) (g s : Nat) (l : Loc) : ι.add g s l g s = some l := by simp [Inj.add]
theorem Inj.add_other (ι : Inj) (g s : Nat) (l : Loc) {g' s' : Nat} (h : ¬ (g' = g ∧ s' = s)) : ι.add g s l g' s' = ι g' s' := if_neg h
theorem Inj.add_le (ι : Inj) (g s : Nat) (l : Loc) (h : ι g s = none) : Inj.le ι (ι.add g s l) := fun g' s' l' e => by
  by_cases hh : g' = g ∧ s' = s
  · obtain ⟨rfl, rfl⟩ := hh; rw [h] at e; cases e
  · rw [Inj.add_other _ _ _ _ hh]; exact e
theorem Sim.new {ι : Inj} {h : H} {w w' : World} (S : Sim ι h w) (hn : h.nx ≤ 32767) {o : AO} {l : Loc} (hb : w.heap.size ≤ l.b ∧ l.b < w'.heap.size)
    (hsize : w.heap.size ≤ w'.heap.size) (hkeep : ∀ b, b < w.heap.size → w'.heap[b]? = w.heap[b]?) (hx : SameExt w w') (hobj : ObjOk (ι.add h.nx 0 l) w' h.nx o) :
    Sim (ι.add h.nx 0 l) (h.newv o) w' ∧ Grows ι h w (ι.add h.nx 0 l) (h.newv o) w' := by
  have hnone : ∀ s, ι h.nx s = none := fun s => S.beyond _ s (Nat.le_refl _)
  have hle := Inj.add_le ι h.nx 0 l (hnone 0)
  have key : ∀ g' s l', ι.add h.nx 0 l g' s = some l' → ι g' s = some l' ∨ (g' = h.nx ∧ s = 0 ∧ l' = l) := by
    intro g' s l' e
    by_cases hh : g' = h.nx ∧ s = 0
    · obtain ⟨rfl, rfl⟩ := hh; rw [Inj.add_same] at e; cases e; exact .inr ⟨rfl, rfl, rfl⟩
    · rw [Inj.add_other _ _ _ _ hh] at e; exact .inl e
  have hold : ∀ g', g' < h.nx → ∀ s, ι.add h.nx 0 l g' s = ι g' s := fun g' hg' s => Inj.add_other _ _ _ _ (by omega)
  refine ⟨⟨by show h.nx + 1 ≤ 32768; omega, ?_, ?_, ?_, ?_⟩, ⟨hle, Nat.le_succ _, hsize, ?_, ?_, fun b hb' _ => hkeep b hb', ?_, hx⟩⟩
  · intro g' s hg'
    have hg'' : h.nx + 1 ≤ g' := hg'
    rw [Inj.add_other _ _ _ _ (by omega)]
    exact S.beyond g' s (by omega)
  · intro g1 s1 l1 g2 s2 l2 e1 e2 hbb
    rcases key _ _ _ e1 with k1 | ⟨rfl, rfl, rfl⟩
    · rcases key _ _ _ e2 with k2 | ⟨rfl, rfl, rfl⟩
      · exact S.inj _ _ _ _ _ _ k1 k2 hbb
      · have := S.inw _ _ _ k1; omega
    · rcases key _ _ _ e2 with k2 | ⟨rfl, rfl, rfl⟩
      · have := S.inw _ _ _ k2; omega
      · exact ⟨rfl, rfl⟩
  · intro g' s l' e
    rcases key _ _ _ e with k | ⟨rfl, rfl, rfl⟩
    · exact Nat.lt_of_lt_of_le (S.inw _ _ _ k) hsize
    · exact hb.2
  · intro g' hg'
    have hg'' : g' < h.nx + 1 := hg'
    rw [H.obj_newv h g' o (by omega) (by omega)]
    by_cases e : h.nx = g'
    · subst e; rw [if_pos rfl]; exact hobj
    · rw [if_neg e]
      refine objOk_keep (S.obj g' (by omega)) hle (hold g' (by omega)) (fun s l' hl => hkeep _ (S.inw _ _ _ hl))
  · intro g' s l' e n
    rcases key _ _ _ e with k | ⟨rfl, rfl, rfl⟩
    · rw [n] at k; cases k
    · exact .inl hb.1
  · intro g' hg' hw
    rw [H.obj_newv h g' o (by omega) (by have := S.nx; omega)] at hw
    rw [if_neg (by omega)] at hw; exact hw
  · intro g' hg' ho
    rw [H.obj_newv h g' o (by omega) (by have := S.nx; omega), if_neg (by omega)]
    exact ⟨ho, hold g' hg'⟩

/-! ### Loads, stores, new blocks -/
section
variable {P : Program} {ι : Inj} {h : H} {w : World} {β : Type}
theorem Sim.small (S : Sim ι h w) {g s : Nat} {l : Loc} (e : ι g s = some l) : g < h.nx := Nat.lt_of_not_le fun hh => by rw [S.beyond g s hh] at e; cases e
/-- A pointer, or a slice, that may be read. -/
theorem Sim.cells (S : Sim ι h w) {g e : Nat} {l : Loc} {c : CT} {len ep fl mk : Nat} (hl : ι g e = some l) (ho : h.obj g = .cells c len ep fl mk) (hf : fl ≤ e) :
    CellsOk ι w c l mk ∧ l.hi ≤ len ∧ len ≤ 8 ^ c.d ∧ (e = ep → l.hi = len) ∧ e ≤ ep := by
  have hg := S.small hl
  have := S.obj g hg
  rw [ho] at this
  obtain ⟨h1, h2, h3, h4⟩ := this
  have he : e ≤ ep := Nat.le_of_not_lt fun hh => by rw [h3 e hh] at hl; cases hl
  obtain ⟨l', h5, h6, h7, h8⟩ := h4 e hf he
  rw [hl] at h5; cases h5
  exact ⟨h8, h6, h1, h7, he⟩
/-- The cells of a row as the machine holds them. -/
theorem CellsOk.row {c : CT} {l : Loc} {mk : Nat} (hc : CellsOk ι w c l mk) {i o n : Nat} (hio : (i : Int) + l.d = (o : Int)) (hlo : l.lo ≤ i) (hhi : i + n ≤ l.hi) :
    ∃ C el fr, w.heap[l.b]? = some (.cells C el fr) ∧ (n = 0 ∨ o + n ≤ C.size) ∧ RVL ι (cellsL c n i) (C.extract o (o + n)).toList := by
  obtain ⟨C, el, fr, h1, h2, h3, h3', h4, _⟩ := hc
  have key : ∀ (n i o : Nat), (i : Int) + l.d = (o : Int) → l.lo ≤ i → i + n ≤ l.hi → (n = 0 ∨ o + n ≤ C.size) ∧ RVL ι (cellsL c n i) ((C.toList.drop o).take n) := by
    intro n
    induction n with
    | zero => intro i o _ _ _; exact ⟨.inl rfl, by simpa [cellsL] using RVL.nil⟩
    | succ n ih =>
      intro i o hio hlo hhi
      obtain ⟨o', u, a1, a2, a3⟩ := h4 i hlo (by omega)
      have : o' = o := by omega
      subst this
      have hlt : o' < C.size := by
        rcases Nat.lt_or_ge o' C.size with h | h
        · exact h
        · rw [Array.getElem?_eq_none h] at a2; cases a2
      obtain ⟨b1, b2⟩ := ih (i + 1) (o' + 1) (by omega) (by omega) (by omega)
      refine ⟨.inr (by omega), ?_⟩
      have e : C.toList.drop o' = C[o'] :: C.toList.drop (o' + 1) := List.drop_eq_getElem_cons (by simpa using hlt)
      rw [e, List.take_succ_cons]
      have e2 : C[o'] = u := by rw [Array.getElem?_eq_getElem hlt] at a2; exact Option.some.inj a2
      rw [e2]
      exact .cons a3 b2
  obtain ⟨b1, b2⟩ := key n i o hio hlo hhi
  refine ⟨C, el, fr, h1, b1, ?_⟩
  rw [Array.toList_extract, List.extract_eq_take_drop, show o + n - o = n by omega]
  exact b2
end

section
variable {P : Program} {ι : Inj} {h : H} {w : World} {β : Type} {s r : β}
theorem load1_sound {p : AV} {u : Value} {k : AV → β} (hr : load1 p h k s = r) (n : s ≠ r) (S : Sim ι h w) (hp : RV ι p u) :
    ∃ a v cv, u = .pointer (some a) ∧ (load a).run P w = .ok v w ∧ RV ι cv v ∧ k cv = r := by
  unfold load1 at hr
  obtain ⟨g, e, i, ub, rfl, hr⟩ := AV.onPtr_inv hr n
  obtain ⟨c, len, ep, fl, mk, ho, hr⟩ := onCells_inv hr n
  obtain ⟨h1, hr⟩ := le_inv hr n
  obtain ⟨h2, hr⟩ := le_inv hr n
  cases hp with
  | @ptr _ _ _ _ o l hl hlo hhi hio =>
    obtain ⟨hc, h3, h4, h5, h6⟩ := S.cells hl ho h1
    obtain ⟨C, el, fr, b1, b2, b3, b4, b5, b6⟩ := hc
    obtain ⟨o', v, c1, c2, c3⟩ := b5 i hlo (by omega)
    have : o' = o := by omega
    subst this
    exact ⟨_, v, _, rfl, load_run b1 c2, c3, hr⟩
theorem loadA_sound {nn : Nat} {p : AV} {u : Value} {k : AV → β} (hr : loadA nn p h k s = r) (n : s ≠ r) (S : Sim ι h w) (hp : RV ι p u) :
    ∃ a vs l, u = .pointer (some a) ∧ (loadCells a nn).run P w = .ok vs w ∧ RVL ι l vs.toList ∧ l.length = nn ∧ k (.agg l) = r := by
  unfold loadA at hr
  obtain ⟨g, e, i, ub, rfl, hr⟩ := AV.onPtr_inv hr n
  obtain ⟨c, len, ep, fl, mk, ho, hr⟩ := onCells_inv hr n
  obtain ⟨h1, hr⟩ := le_inv hr n
  obtain ⟨h2, hr⟩ := le_inv hr n
  rw [cellsFrom_eq] at hr
  cases hp with
  | @ptr _ _ _ _ o l hl hlo hhi hio =>
    obtain ⟨hc, h3, h4, h5, h6⟩ := S.cells hl ho h1
    have h2' : i + nn ≤ ub := h2
    obtain ⟨C, el, fr, b1, b2, b3⟩ := hc.row (n := nn) hio hlo (by omega)
    refine ⟨_, C.extract o (o + nn), _, rfl, ?_, b3, cellsL_length c nn i, hr⟩
    unfold loadCells
    rcases b2 with rfl | b2
    · simp only [loadCellsFrom, Sem.run_pure]
      congr 1
      apply Array.ext'
      simp
    · have := loadCells_run (P := P) b1 o nn 0 #[] (by omega)
      simpa using this
theorem one_raw {u : Value} (h : rawOne u = true) : oneV u := by cases u <;> first | trivial | cases h
theorem rv_one {v : AV} {u : Value} (h : RV ι v u) (ho : oneA v = true) : oneV u := by
  cases h with
  | agg _ => cases ho
  | tup _ => cases ho
  | raw u => cases u <;> first | trivial | cases ho
  | any _ _ => cases ho
  | sx1 _ h1 => exact one_raw h1
  | sx2 _ h1 => exact one_raw h1
  | _ => trivial
theorem rvl_one : ∀ {l : List AV} {us : List Value}, RVL ι l us → allOne l = true → ∀ u ∈ us, oneV u
  | _, _, .nil, _, _, hu => by cases hu
  | v :: l, _, .cons h1 h2, ho, u, hu => by
    have h3 : oneA v = true ∧ allOne l = true := by
      have ho' : Bool.rec (motive := fun _ => Bool) false (allOne l) (oneA v) = true := ho
      cases e : oneA v
      · rw [e] at ho'; cases ho'
      · rw [e] at ho'; exact ⟨rfl, ho'⟩
    cases hu with
    | head => exact rv_one h1 h3.1
    | tail _ hm => exact rvl_one h2 h3.2 u hm
/-- The tree and the block after a row was laid over both. -/
theorem lay_cells {c : CT} {l : Loc} {len : Nat} {C : Array Value} {vs : List AV} {us : List Value} {i o : Nat} (hio : (i : Int) + l.d = (o : Int)) (hlen : len ≤ 8 ^ c.d) (hhi : l.hi ≤ len) (hv : RVL ι vs us) (hfit : o + us.length ≤ C.size)
    (hold : ∀ j, l.lo ≤ j → j < l.hi → ∃ q : Nat, ∃ u, (j : Int) + l.d = (q : Int) ∧ C[q]? = some u ∧ RV ι (c.get j) u)
    (lo hi : Nat) (hlo : l.lo ≤ lo) (hhi2 : hi ≤ max l.hi (i + vs.length)) (hgap : i ≤ l.hi) :
    ∀ j, lo ≤ j → j < hi → ∃ q : Nat, ∃ u, (j : Int) + l.d = (q : Int) ∧ (putL us o C)[q]? = some u ∧ RV ι ((layL vs c i).get j) u := by
  intro j hj1 hj2
  obtain ⟨g1, g2, g3, g4⟩ := layL_spec vs c i
  have hlv := hv.length
  by_cases hin : i ≤ j ∧ j < i + vs.length
  · obtain ⟨x, hx, hr⟩ := hv.get (j - i) (by omega)
    refine ⟨o + (j - i), x, by omega, ?_, ?_⟩
    · rw [putL_get us o C _ hfit, if_pos (by omega), show o + (j - i) - o = j - i by omega, hx]
    · rw [g3 j hin.1 hin.2]; exact hr
  · have hj3 : j < l.hi := by
      rcases Nat.lt_or_ge j l.hi with q | q
      · exact q
      · exfalso
        have : hi ≤ l.hi ∨ hi ≤ i + vs.length := by omega
        omega
    obtain ⟨q, u, a1, a2, a3⟩ := hold j (by omega) hj3
    refine ⟨q, u, a1, ?_, ?_⟩
    · rw [putL_get us o C _ hfit, if_neg (by omega)]; exact a2
    · rw [g4 j (by omega) (by omega)]; exact a3
theorem heap_set {w : World} {b : Nat} {x : Obj} (hb : b < w.heap.size) (b' : Nat) : ({ w with heap := w.heap.setIfInBounds b x } : World).heap[b']? = if b = b' then some x else w.heap[b']? := by
  show (w.heap.setIfInBounds b x)[b']? = _
  rw [Array.getElem?_setIfInBounds]
  by_cases e : b = b'
  · subst e; simp [hb]
  · simp [e]
/-- A row laid over a group's newest block, in place. -/
theorem Sim.lay (S : Sim ι h w) {g ep len fl mk : Nat} {l : Loc} {c : CT} (hl : ι g ep = some l) (ho : h.obj g = .cells c len ep fl mk) (hmk : mk ≤ 1) {vs : List AV} {us : List Value} {i o : Nat} (hio : (i : Int) + l.d = (o : Int))
    (hlo : l.lo ≤ i) (hhi : i + vs.length ≤ len) (hv : RVL ι vs us) (hone : ∀ u ∈ us, oneV u) :
    ∃ w', (storeCells ⟨l.b, o, none⟩ us).run P w = .ok () w' ∧ Sim ι (h.putv g (.cells (layL vs c i) len ep ep mk)) w' ∧ Grows ι h w ι (h.putv g (.cells (layL vs c i) len ep ep mk)) w' := by
  have hg := S.small hl
  have hobj := S.obj g hg
  rw [ho] at hobj
  obtain ⟨z1, z2, z3, z4⟩ := hobj
  obtain ⟨l', y1, y2, y3, hc⟩ := z4 ep z2 (Nat.le_refl _)
  rw [hl] at y1; cases y1
  replace y3 := y3 rfl
  obtain ⟨C, el, fr, b1, b2, b3, b4, b5, b6⟩ := hc
  have hlv := hv.length
  have hfit : us = [] ∨ o + us.length ≤ C.size := by
    cases us with
    | nil => exact .inl rfl
    | cons u us =>
      right
      obtain ⟨q, u', a1, a2, a3⟩ := b5 (i + vs.length - 1) (by simp only [List.length_cons] at hlv; omega) (by simp only [List.length_cons] at hlv; omega)
      have : q < C.size := by
        rcases Nat.lt_or_ge q C.size with x | x
        · exact x
        · rw [Array.getElem?_eq_none x] at a2; cases a2
      simp only [List.length_cons] at *; omega
  have hb := S.inw _ _ _ hl
  have hrun : (storeCells ⟨l.b, o, none⟩ us).run P w = .ok () { w with heap := w.heap.setIfInBounds l.b (.cells (putL us o C) el fr) } := by
    rcases hfit with rfl | hfit
    · have e : w.heap.setIfInBounds l.b (.cells C el fr) = w.heap := by
        apply Array.ext
        · simp
        · intro k h1 h2
          rw [Array.getElem_setIfInBounds (hj := h2)]
          split
          · rename_i e; subst e
            rw [Array.getElem?_eq_getElem h2] at b1; exact (Option.some.inj b1).symm
          · rfl
      simp only [storeCells, Sem.run_pure, putL, e]
    · have := storeCells_run (P := P) us 0 b1 o (by omega) (fun j h1 h2 => b4 hmk j (by omega)) hone
      simpa using this
  refine ⟨_, hrun, ?_⟩
  have hsz : (putL us o C).size = C.size := putL_size us o C
  have hcells : ∀ j, l.lo ≤ j → j < l.hi → ∃ q : Nat, ∃ u, (j : Int) + l.d = (q : Int) ∧ (putL us o C)[q]? = some u ∧ RV ι ((layL vs c i).get j) u := by
    rcases hfit with rfl | hfit
    · have : vs = [] := by cases vs with | nil => rfl | cons _ _ => simp at hlv
      subst this
      intro j hj1 hj2; exact b5 j hj1 hj2
    · intro j hj1 hj2
      by_cases hlt : i ≤ l.hi
      · by_cases hji : i ≤ j
        · exact lay_cells hio z1 y2 hv hfit b5 i l.hi hlo (by omega) hlt j hji hj2
        · obtain ⟨q, u, a1, a2, a3⟩ := b5 j hj1 hj2
          refine ⟨q, u, a1, ?_, ?_⟩
          · rw [putL_get us o C _ hfit, if_neg (by omega)]; exact a2
          · rw [(layL_spec vs c i).2.2.2 j (by omega) (.inl (by omega))]; exact a3
      · omega
  refine S.put (ι' := ι) hg (fun _ _ _ => rfl) (Inj.le_refl ι) (fun s l e n => by rw [e] at n; cases n) (fun s s' a b c d => by exact absurd c a) (by simp) (fun b hb' hn => ?_) ⟨rfl, rfl, rfl⟩ (by rw [ho]; exact hmk) ?_
  · rw [heap_set hb, if_neg (hn ep l hl)]
  · refine ⟨Nat.le_trans z1 (Nat.pow_le_pow_right (by decide) (layL_spec vs c i).1), Nat.le_refl _, z3, fun s hs1 hs2 => ?_⟩
    have : s = ep := Nat.le_antisymm hs2 hs1
    subst this
    exact ⟨l, hl, y2, fun _ => y3, putL us o C, el, fr, by rw [heap_set hb, if_pos rfl], hsz.trans b2, b3, b4, hcells, by rw [layL_el]; exact b6⟩
theorem storeN_sound {p : AV} {vs : List AV} {nn : Nat} {u : Value} {us : List Value} {k : H → β} (hr : storeN p vs nn h k s = r) (n : s ≠ r) (S : Sim ι h w) (hp : RV ι p u) (hv : RVL ι vs us) :
    ∃ a w' h', u = .pointer (some a) ∧ us.length = nn ∧ (storeCells a us).run P w = .ok () w' ∧ Sim ι h' w' ∧ Grows ι h w ι h' w' ∧ k h' = r := by
  unfold storeN at hr
  obtain ⟨g, e, i, ub, rfl, hr⟩ := AV.onPtr_inv hr n
  obtain ⟨c, len, ep, fl, mk, ho, hr⟩ := onCells_inv hr n
  obtain ⟨h1, hr⟩ := le_inv hr n
  obtain ⟨rfl, hr⟩ := eqN_inv hr n
  obtain ⟨h2, hr⟩ := le_inv hr n
  obtain ⟨h3, hr⟩ := eqN_inv hr n
  obtain ⟨h4, hr⟩ := ifB_inv hr n
  rw [layCells_eq, H.put_eq] at hr
  rw [lenL_eq] at h3
  cases hp with
  | @ptr _ _ _ _ o l hl hlo hhi hio =>
    have hobj := S.obj g (S.small hl)
    rw [ho] at hobj
    obtain ⟨z1, z2, z3, z4⟩ := hobj
    obtain ⟨l', y1, y2, y3, hc⟩ := z4 e z2 (Nat.le_refl _)
    rw [hl] at y1; cases y1
    have h2' : i + nn ≤ ub := h2
    obtain ⟨w', q1, q2, q3⟩ := S.lay (P := P) hl ho h1 hio hlo (by omega) hv (rvl_one hv h4)
    exact ⟨_, w', _, rfl, by rw [← hv.length]; exact h3, q1, q2, q3, hr⟩
theorem layL_new {vs : List AV} {q : Nat} : vs.length ≤ 8 ^ (layL vs (CT.newT q) 0).d ∧ ∀ j, j < vs.length → (layL vs (CT.newT q) 0).get j = nth vs j := by
  obtain ⟨g1, g2, g3, g4⟩ := layL_spec vs (CT.newT q) 0
  refine ⟨?_, fun j hj => by have := g3 j (Nat.zero_le _) (by omega); simpa using this⟩
  cases vs with
  | nil => exact Nat.zero_le _
  | cons v l => have := g2 (by simp); simpa using this
/-- A new block, whose cells are known. -/
theorem Sim.newBlock (S : Sim ι h w) (hn : h.nx ≤ 32767) {c : CT} {len mk : Nat} {X : Array Value} {el : TypeId} {fr : Nat × Nat} {w' : World} (hlen : len ≤ 8 ^ c.d) (hw : w' = { w with heap := w.heap.push (.cells X el fr), drawn := w'.drawn })
    (h0 : mk = 0 → ∀ j, ¬ (fr.1 ≤ j ∧ j < fr.2)) (h1 : mk ≤ 1 → ∀ j, j < X.size → ¬ (fr.1 ≤ j ∧ j < fr.2)) (hc : ∀ j, j < len → ∃ u, X[j]? = some u ∧ RV ι (c.get j) u) (hel : ElOk c.el el ⟨w.heap.size, 0, 0, len, X.size, undef⟩) :
    Sim (ι.add h.nx 0 ⟨w.heap.size, 0, 0, len, X.size, undef⟩) (h.newv (.cells c len 0 0 mk)) w' ∧ Grows ι h w (ι.add h.nx 0 ⟨w.heap.size, 0, 0, len, X.size, undef⟩) (h.newv (.cells c len 0 0 mk)) w' := by
  have hh : w'.heap = w.heap.push (.cells X el fr) := by rw [hw]
  have hnone : ∀ s, ι h.nx s = none := fun s => S.beyond _ s (Nat.le_refl _)
  have hle := Inj.add_le ι h.nx 0 ⟨w.heap.size, 0, 0, len, X.size, undef⟩ (hnone 0)
  refine S.new hn ⟨Nat.le_refl _, by rw [hh]; simp⟩ (by rw [hh]; simp) (fun b hb => by rw [hh, Array.getElem?_push_lt hb, Array.getElem?_eq_getElem hb]) (by rw [hw]; exact ⟨rfl, rfl, rfl⟩) ?_
  refine ⟨hlen, Nat.le_refl _, fun s hs => ?_, fun s _ hs => ?_⟩
  · rw [Inj.add_other _ _ _ _ (by omega)]; exact hnone s
  · have : s = 0 := by omega
    subst this
    refine ⟨_, Inj.add_same _ _ _ _, Nat.le_refl _, fun _ => rfl, X, el, fr, by rw [hh]; simp, rfl, h0, h1, fun j _ hj => ?_, hel⟩
    obtain ⟨u, a, b⟩ := hc j hj
    exact ⟨j, u, by simp, a, b.mono hle⟩
theorem newCells_soundT {vs : List AV} {us : Array Value} {el : TypeId} {q : Nat} {k : Nat → Nat → H → β} (hr : newCells h vs k s q = r) (n : s ≠ r) (S : Sim ι h w) (hv : RVL ι vs us.toList) (hq : q = 0 ∨ q = 2 * el + 1 ∨ q = 2 * el + 2) :
    ∃ g h' ι', k g vs.length h' = r ∧ Sim ι' h' { w with heap := w.heap.push (.cells us el) } ∧ Grows ι h w ι' h' { w with heap := w.heap.push (.cells us el) } ∧ ι' g 0 = some ⟨w.heap.size, 0, 0, vs.length, us.size, undef⟩ := by
  unfold newCells at hr
  rw [layCells_eq, H.new_eq] at hr
  split at hr
  · rename_i hn
    obtain ⟨a, b⟩ := S.newBlock (w' := { w with heap := w.heap.push (.cells us el) }) hn (c := layL vs (CT.newT q) 0) (len := vs.length) (mk := 0) (X := us) (el := el) (fr := (0, 0)) layL_new.1 rfl (fun _ j => by simp) (fun _ j _ => by simp)
      (fun j hj => by
        obtain ⟨x, hx, hr'⟩ := hv.get j hj
        exact ⟨x, by simpa using hx, by rw [layL_new.2 j hj]; exact hr'⟩) (by
        rw [layL_el]
        have hl1 := hv.length
        have hl2 : us.toList.length = us.size := Array.length_toList
        exact hq.imp id (Or.imp (fun hh => ⟨hh, rfl, rfl, by show vs.length = us.size; omega⟩) id))
    exact ⟨_, _, _, by simpa using hr, by simpa using a, by simpa using b, Inj.add_same _ _ _ _⟩
  · exact absurd hr n
theorem newCells_sound {vs : List AV} {us : Array Value} {el : TypeId} {k : Nat → Nat → H → β} (hr : newCells h vs k s = r) (n : s ≠ r) (S : Sim ι h w) (hv : RVL ι vs us.toList) :
    ∃ g h' ι', k g vs.length h' = r ∧ Sim ι' h' { w with heap := w.heap.push (.cells us el) } ∧ Grows ι h w ι' h' { w with heap := w.heap.push (.cells us el) } ∧ ι' g 0 = some ⟨w.heap.size, 0, 0, vs.length, us.size, undef⟩ := newCells_soundT hr n S hv (.inl rfl)
end

/-! ### Strings as numbers -/
def enc (l : List UInt8) : Nat := encB l 0
theorem encB_cons (c : UInt8) (l : List UInt8) (acc : Nat) : encB (c :: l) acc = encB l (acc * 256 + c.toNat) := by
  show forceN (Nat.add (Nat.mul acc 256) c.toNat) (fun a => encB l a) = _
  rw [forceN_eq]; rfl
theorem encB_acc : ∀ (l : List UInt8) (acc : Nat), encB l acc = acc * 256 ^ l.length + enc l
  | [], acc => by show acc = acc * 256 ^ 0 + 0; omega
  | c :: l, acc => by
    have e1 := encB_acc l (acc * 256 + c.toNat)
    have e2 := encB_acc l (0 * 256 + c.toNat)
    rw [encB_cons, e1, show enc (c :: l) = encB l (0 * 256 + c.toNat) from encB_cons c l 0, e2, List.length_cons, Nat.pow_succ, Nat.add_mul]
    simp only [Nat.zero_mul, Nat.zero_add]
    rw [Nat.mul_assoc, Nat.mul_comm 256]; omega
theorem enc_nil : enc [] = 0 := rfl
theorem enc_cons (c : UInt8) (l : List UInt8) : enc (c :: l) = c.toNat * 256 ^ l.length + enc l := by
  show encB (c :: l) 0 = _
  rw [encB_cons, encB_acc]; simp
theorem enc_append (a b : List UInt8) : enc (a ++ b) = enc a * 256 ^ b.length + enc b := by
  induction a with
  | nil => simp [enc_nil]
  | cons c a ih =>
    rw [List.cons_append, enc_cons, enc_cons, ih, List.length_append, Nat.pow_add, Nat.add_mul, ← Nat.mul_assoc]; omega
theorem enc_lt (l : List UInt8) : enc l < 256 ^ l.length := by
  induction l with
  | nil => simp [enc_nil]
  | cons c l ih =>
    rw [enc_cons, List.length_cons, Nat.pow_succ]
    have h1 := c.toNat_lt
    have h2 : c.toNat * 256 ^ l.length + 256 ^ l.length ≤ 256 * 256 ^ l.length := by
      rw [← Nat.succ_mul]; exact Nat.mul_le_mul_right _ (by omega)
    rw [Nat.mul_comm (256 ^ l.length)]; omega
theorem enc_mid (a b c : List UInt8) : enc (a ++ b ++ c) / 256 ^ c.length % 256 ^ b.length = enc b := by
  rw [enc_append, enc_append]
  have h1 := enc_lt c
  have h2 := enc_lt b
  have hp : 0 < 256 ^ c.length := Nat.pow_pos (by decide)
  rw [Nat.mul_comm, Nat.mul_add_div hp, Nat.div_eq_of_lt h1, Nat.add_zero, Nat.mul_comm, Nat.mul_add_mod, Nat.mod_eq_of_lt h2]
theorem enc_inj : ∀ {a b : List UInt8}, a.length = b.length → enc a = enc b → a = b
  | [], [], _, _ => rfl
  | [], _ :: _, h, _ => by simp at h
  | _ :: _, [], h, _ => by simp at h
  | c :: a, d :: b, h, e => by
    have hl : a.length = b.length := by simpa using h
    rw [enc_cons, enc_cons, hl] at e
    have h1 := enc_lt a
    have h2 := enc_lt b
    rw [hl] at h1
    have hp : 0 < 256 ^ b.length := Nat.pow_pos (by decide)
    have e1 : c.toNat = d.toNat := by
      have := congrArg (· / 256 ^ b.length) e
      simp only [Nat.mul_comm _ (256 ^ b.length), Nat.mul_add_div hp, Nat.div_eq_of_lt h1, Nat.div_eq_of_lt h2, Nat.add_zero] at this
      exact this
    have e2 : enc a = enc b := by rw [e1] at e; omega
    rw [UInt8.toNat_inj.1 e1, enc_inj hl e2]
theorem bytesLess_enc : ∀ (a b : List UInt8), a.length = b.length → Op.bytesLess a b = decide (enc a < enc b)
  | [], [], _ => by simp [Op.bytesLess, enc_nil]
  | [], _ :: _, h => by simp at h
  | _ :: _, [], h => by simp at h
  | c :: a, d :: b, h => by
    have hl : a.length = b.length := by simpa using h
    rw [Op.bytesLess, bytesLess_enc a b hl, enc_cons, enc_cons, hl]
    have h1 := enc_lt a
    have h2 := enc_lt b
    rw [hl] at h1
    rcases Nat.lt_trichotomy c.toNat d.toNat with q | q | q
    · have e : c.toNat * 256 ^ b.length + 256 ^ b.length ≤ d.toNat * 256 ^ b.length := by rw [← Nat.succ_mul]; exact Nat.mul_le_mul_right _ q
      have : c < d := UInt8.lt_iff_toNat_lt.2 q
      rw [decide_eq_true this, Bool.true_or, decide_eq_true (by omega)]
    · have e : c = d := UInt8.toNat_inj.1 q
      subst e
      have : ¬ c < c := by simp
      rw [decide_eq_false this]
      simp
    · have e : d.toNat * 256 ^ b.length + 256 ^ b.length ≤ c.toNat * 256 ^ b.length := by rw [← Nat.succ_mul]; exact Nat.mul_le_mul_right _ q
      have h3 : ¬ c < d := fun x => by have := UInt8.lt_iff_toNat_lt.1 x; omega
      have h4 : ¬ c = d := fun x => by subst x; omega
      have h5 : ¬ c.toNat * 256 ^ b.length + enc a < d.toNat * 256 ^ b.length + enc b := by omega
      have h6 : (c == d) = false := by simpa using h4
      rw [decide_eq_false h3, decide_eq_false h5, h6]; rfl
theorem bytesLess_append : ∀ (a b c : List UInt8), a.length = b.length → Op.bytesLess a (b ++ c) = (Op.bytesLess a b || (decide (a = b) && !c.isEmpty))
  | [], [], c, _ => by cases c <;> simp [Op.bytesLess]
  | [], _ :: _, _, h => by simp at h
  | _ :: _, [], _, h => by simp at h
  | x :: a, y :: b, c, h => by
    have hl : a.length = b.length := by simpa using h
    rw [List.cons_append, Op.bytesLess, Op.bytesLess, bytesLess_append a b c hl]
    by_cases h1 : x < y
    · simp [h1]
    · by_cases h2 : x = y
      · subst h2; simp
      · have h3 : (x == y) = false := by simpa using h2
        simp [h1, h2, h3]
theorem bytesLess_append_left : ∀ (a b c : List UInt8), a.length = b.length → Op.bytesLess (a ++ c) b = Op.bytesLess a b
  | [], [], c, _ => by cases c <;> simp [Op.bytesLess]
  | [], _ :: _, _, h => by simp at h
  | _ :: _, [], _, h => by simp at h
  | x :: a, y :: b, c, h => by
    have hl : a.length = b.length := by simpa using h
    rw [List.cons_append, Op.bytesLess, Op.bytesLess, bytesLess_append_left a b c hl]
theorem encS_eq (s : ByteArray) : encS s = enc s.data.toList := rfl
theorem size_eq (s : ByteArray) : s.data.toList.length = s.size := Array.length_toList
theorem ltS_ok (a b : List UInt8) : ltS a.length (enc a) b.length (enc b) = Op.bytesLess a b := by
  have decB : ∀ m n : Nat, Nat.ble (Nat.succ m) n = decide (m < n) := fun m n => by
    by_cases h : m < n
    · rw [decide_eq_true h]; exact Nat.ble_eq_true_of_le h
    · rw [decide_eq_false h, Bool.eq_false_iff]; intro e; exact h (Nat.le_of_ble_eq_true e)
  unfold ltS
  rw [ifB_eq]
  by_cases hlen : a.length ≤ b.length
  · rw [if_pos (Nat.ble_eq_true_of_le hlen), decB, ifB_eq, ifB_eq, decB]
    have e : b = b.take a.length ++ b.drop a.length := (List.take_append_drop _ _).symm
    have el : (b.take a.length).length = a.length := by rw [List.length_take]; omega
    have ed : (b.drop a.length).length = b.length - a.length := List.length_drop
    have hb : enc b = enc (b.take a.length) * 256 ^ (b.length - a.length) + enc (b.drop a.length) := by
      have := enc_append (b.take a.length) (b.drop a.length)
      rw [← e, ed] at this; exact this
    have hd := enc_lt (b.drop a.length)
    rw [ed] at hd
    have hr : Op.bytesLess a b = (Op.bytesLess a (b.take a.length) || (decide (a = b.take a.length) && !(b.drop a.length).isEmpty)) := by
      have := bytesLess_append a (b.take a.length) (b.drop a.length) el.symm
      rw [← e] at this; exact this
    rw [hr, bytesLess_enc _ _ el.symm]
    have hm : Nat.mul (enc a) (Nat.pow 256 (Nat.sub b.length a.length)) = enc a * 256 ^ (b.length - a.length) := rfl
    rw [hm]
    generalize 256 ^ (b.length - a.length) = q at *
    have hbe : Nat.beq (enc a * q) (enc b) = decide (enc a * q = enc b) := by
      by_cases x : enc a * q = enc b
      · rw [decide_eq_true x, x]; exact Nat.beq_refl _
      · rw [decide_eq_false x, Bool.eq_false_iff]; intro y; exact x (Nat.eq_of_beq_eq_true y)
    rw [hbe]
    rcases Nat.lt_trichotomy (enc a) (enc (b.take a.length)) with x | x | x
    · have : enc a * q + q ≤ enc (b.take a.length) * q := by rw [← Nat.succ_mul]; exact Nat.mul_le_mul_right _ x
      rw [decide_eq_true (by omega : enc a * q < enc b), decide_eq_true x]; rfl
    · have ea : a = b.take a.length := enc_inj el.symm x
      rw [decide_eq_false (by omega : ¬ enc a < enc (b.take a.length)), decide_eq_true ea, Bool.false_or, Bool.true_and]
      by_cases y : (b.drop a.length) = []
      · rw [y]
        have h0 : enc (b.drop a.length) = 0 := by rw [y]; rfl
        have h1 : b.length - a.length = 0 := by rw [← ed, y]; rfl
        rw [decide_eq_false (by rw [hb, x, h0]; omega : ¬ enc a * q < enc b), decide_eq_true (by rw [hb, x, h0]; rfl : enc a * q = enc b), decide_eq_false (by omega : ¬ a.length < b.length)]
        rfl
      · have h1 : 0 < b.length - a.length := by rw [← ed]; exact List.length_pos_iff.2 y
        have h2 : (b.drop a.length).isEmpty = false := by cases hh : b.drop a.length with | nil => exact absurd hh y | cons _ _ => rfl
        rw [h2]
        by_cases z : enc (b.drop a.length) = 0
        · rw [decide_eq_false (by rw [hb, x, z]; omega : ¬ enc a * q < enc b), decide_eq_true (by rw [hb, x, z]; rfl : enc a * q = enc b), decide_eq_true (by omega : a.length < b.length)]; rfl
        · rw [decide_eq_true (by rw [hb, x]; omega : enc a * q < enc b)]; rfl
    · have : enc (b.take a.length) * q + q ≤ enc a * q := by rw [← Nat.succ_mul]; exact Nat.mul_le_mul_right _ x
      have hne : ¬ a = b.take a.length := fun y => by rw [← y] at x; omega
      rw [decide_eq_false (by omega : ¬ enc a * q < enc b), decide_eq_false (by omega : ¬ enc a * q = enc b), decide_eq_false (by omega : ¬ enc a < enc (b.take a.length)), decide_eq_false hne]; rfl
  · have h1 : Nat.ble a.length b.length = false := by rw [Bool.eq_false_iff]; intro e; exact hlen (Nat.le_of_ble_eq_true e)
    rw [h1, if_neg (by decide), decB]
    have e : a = a.take b.length ++ a.drop b.length := (List.take_append_drop _ _).symm
    have el : (a.take b.length).length = b.length := by rw [List.length_take]; omega
    have ed : (a.drop b.length).length = a.length - b.length := List.length_drop
    have ha : enc a = enc (a.take b.length) * 256 ^ (a.length - b.length) + enc (a.drop b.length) := by
      have := enc_append (a.take b.length) (a.drop b.length)
      rw [← e, ed] at this; exact this
    have hd := enc_lt (a.drop b.length)
    rw [ed] at hd
    have hr : Op.bytesLess a b = Op.bytesLess (a.take b.length) b := by
      have := bytesLess_append_left (a.take b.length) b (a.drop b.length) el
      rw [← e] at this; exact this
    rw [hr, bytesLess_enc _ _ el]
    have hm : Nat.mul (enc b) (Nat.pow 256 (Nat.sub a.length b.length)) = enc b * 256 ^ (a.length - b.length) := rfl
    rw [hm]
    have hp : 0 < 256 ^ (a.length - b.length) := Nat.pow_pos (by decide)
    generalize 256 ^ (a.length - b.length) = q at *
    rcases Nat.lt_or_ge (enc (a.take b.length)) (enc b) with x | x
    · have : enc (a.take b.length) * q + q ≤ enc b * q := by rw [← Nat.succ_mul]; exact Nat.mul_le_mul_right _ x
      rw [decide_eq_true (by omega : enc a < enc b * q), decide_eq_true x]
    · have : enc b * q ≤ enc (a.take b.length) * q := Nat.mul_le_mul_right _ x
      rw [decide_eq_false (by omega : ¬ enc a < enc b * q), decide_eq_false (by omega)]
theorem eqS_ok (a b : List UInt8) : eqS a.length (enc a) b.length (enc b) = (a == b) := by
  have hbe : ∀ m n : Nat, Nat.beq m n = decide (m = n) := fun m n => by
    by_cases x : m = n
    · rw [decide_eq_true x, x]; exact Nat.beq_refl _
    · rw [decide_eq_false x, Bool.eq_false_iff]; intro y; exact x (Nat.eq_of_beq_eq_true y)
  unfold eqS
  rw [ifB_eq, hbe, hbe]
  by_cases h : a = b
  · subst h; simp
  · by_cases hl : a.length = b.length
    · have : ¬ enc a = enc b := fun e => h (enc_inj hl e)
      simp [hl, this, h]
    · simp [hl, h]
theorem extract_toList (s : ByteArray) (a b : Nat) : (s.extract a b).data.toList = (s.data.toList.drop a).take (b - a) := by
  simp [ByteArray.data_extract]
theorem sub_ok (s : ByteArray) (l h : Nat) (hl : l ≤ h) (hh : h ≤ s.size) : encS s / 256 ^ (s.size - h) % 256 ^ (h - l) = encS (s.extract l h) ∧ (s.extract l h).size = h - l := by
  have hs := size_eq s
  have e0 : s.data.toList = s.data.toList.take l ++ (s.data.toList.drop l).take (h - l) ++ s.data.toList.drop h := by
    have e1 : s.data.toList.drop l = (s.data.toList.drop l).take (h - l) ++ (s.data.toList.drop l).drop (h - l) := (List.take_append_drop _ _).symm
    rw [List.drop_drop, show l + (h - l) = h by omega] at e1
    rw [List.append_assoc, ← e1, List.take_append_drop]
  have l1 : ((s.data.toList.drop l).take (h - l)).length = h - l := by rw [List.length_take, List.length_drop]; omega
  have l2 : (s.data.toList.drop h).length = s.size - h := by rw [List.length_drop]; omega
  have := enc_mid (s.data.toList.take l) ((s.data.toList.drop l).take (h - l)) (s.data.toList.drop h)
  rw [← e0, l1, l2] at this
  refine ⟨this.trans ?_, ?_⟩
  · rw [encS_eq, extract_toList]
  · rw [← size_eq, extract_toList, l1]
theorem byte_ok (s : ByteArray) (i : Nat) (hi : i < s.size) : byteAt s.size (encS s) i = (s[i]).toNat := by
  have h := (sub_ok s i (i + 1) (by omega) (by omega)).1
  have e : s.size - (i + 1) = s.size - 1 - i := by omega
  rw [e, show i + 1 - i = 1 by omega, Nat.pow_one] at h
  refine h.trans ?_
  rw [encS_eq, extract_toList, show i + 1 - i = 1 by omega, List.drop_eq_getElem_cons (by rw [size_eq]; exact hi)]
  show enc [s.data.toList[i]] = _
  rw [enc_cons, enc_nil]; simp; rfl
end
end Go.Proofs.YtenpnejkgopghaaDoor.AK

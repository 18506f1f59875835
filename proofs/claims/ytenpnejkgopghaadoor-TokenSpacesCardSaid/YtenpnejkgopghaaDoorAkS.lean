/- Proved: Regions that draw their order, code, functions, calls, a whole run: the interpreter is sound. Conditions: none. -/
import Derived.Test.YtenpnejkgopghaaDoorAkQ
import Derived.OrdersIn
import Derived.LoopNIn
import Derived.RangeFuncLeaves
import Derived.Below
import Derived.Laws.Externs
set_option maxRecDepth 100000
set_option linter.unusedVariables false
set_option linter.unusedSimpArgs false
set_option linter.unusedSectionVars false
namespace Go.Proofs.YtenpnejkgopghaaDoor.AK
open Go
noncomputable section
variable [Env]
/-! ### Regions that draw their order: any order -/
section
variable {P : Program} {ops : Array Oper}
theorem splits {α : Type} : ∀ {a b : List α} {x y : α} {c d : List α}, a ++ x :: c = b ++ y :: d → (a = b ∧ x = y ∧ c = d) ∨ (∃ m, b = a ++ x :: m) ∨ (∃ m, a = b ++ y :: m)
  | [], [], x, y, c, d, h => .inl ⟨rfl, by injection h, by injection h⟩
  | [], z :: b, x, y, c, d, h => by
    injection h with h1 h2
    exact .inr (.inl ⟨b, by rw [h1]; rfl⟩)
  | z :: a, [], x, y, c, d, h => by
    injection h with h1 h2
    exact .inr (.inr ⟨a, by rw [h1]; rfl⟩)
  | z :: a, z' :: b, x, y, c, d, h => by
    injection h with h1 h2
    subst h1
    rcases splits h2 with ⟨e1, e2, e3⟩ | ⟨m, e⟩ | ⟨m, e⟩
    · exact .inl ⟨by rw [e1], e2, e3⟩
    · exact .inr (.inl ⟨m, by rw [e]; rfl⟩)
    · exact .inr (.inr ⟨m, by rw [e]; rfl⟩)
theorem PlanOk.drop : ∀ {m r done : List PI}, PlanOk P ops (m ++ r) done → PlanOk P ops r (m.reverse ++ done)
  | [], _, _, h => h
  | y :: m, r, done, h => by
    cases h with
    | cons a b => simpa using PlanOk.drop (m := m) b
theorem PlanOk.item {m : List PI} {x : PI} {l2 done : List PI} (h : PlanOk P ops (m ++ x :: l2) done) : ItemOk P ops x (m.reverse ++ done) := by
  have := PlanOk.drop h
  cases this with
  | cons a _ => exact a
theorem PlanOk.uniq {L m m' : List PI} {x x' : PI} {l l' : List PI} (pl : PlanOk P ops L []) (h : L = m ++ x :: l) (h' : L = m' ++ x' :: l') (e : x.i = x'.i) : m = m' ∧ x = x' ∧ l = l' := by
  rcases splits (h.symm.trans h') with q | ⟨k, q⟩ | ⟨k, q⟩
  · exact q
  · have hi := PlanOk.item (h' ▸ pl)
    exact absurd e (hi.new x (by rw [q]; simp))
  · have hi := PlanOk.item (h ▸ pl)
    exact absurd e.symm (hi.new x' (by rw [q]; simp))
theorem cntA_cons (y : PI) (l : List PI) : cntA (y :: l) = (match y.kd with | .a => 1 | _ => 0) + cntA l := by
  show KD.rec (motive := fun _ => Nat) (cntA l) (Nat.succ (cntA l)) (cntA l) y.kd = _
  cases y.kd with
  | q => show cntA l = 0 + cntA l; omega
  | a => show cntA l + 1 = 1 + cntA l; omega
  | e => show cntA l = 0 + cntA l; omega
theorem cntA_append : ∀ (l d : List PI), cntA (l ++ d) = cntA l + cntA d
  | [], d => by show _ = 0 + cntA d; simp
  | y :: l, d => by rw [List.cons_append, cntA_cons, cntA_cons, cntA_append l d]; omega
theorem cntA_reverse : ∀ (l : List PI), cntA l.reverse = cntA l
  | [] => rfl
  | y :: l => by rw [List.reverse_cons, cntA_append, cntA_reverse l, cntA_cons, cntA_cons]; show _ + (_ + 0) = _; omega
theorem PlanOk.gOf {L m : List PI} {x : PI} {l : List PI} (pl : PlanOk P ops L []) (h : L = m ++ x :: l) : x.g = cntA m := by
  have := (PlanOk.item (h ▸ pl)).grp
  rw [List.append_nil, cntA_reverse] at this
  exact this
theorem PlanOk.gLt {L m : List PI} {x : PI} {l : List PI} (pl : PlanOk P ops L []) (h : L = m ++ x :: l) (hk : x.kd = .a) : x.g < cntA L := by
  rw [pl.gOf h, h, cntA_append, cntA_cons, hk]
  show _ < _ + (1 + _)
  omega
theorem PlanOk.gNe {L m m' : List PI} {x x' : PI} {l l' : List PI} (pl : PlanOk P ops L []) (h : L = m ++ x :: l) (h' : L = m' ++ x' :: l') (hk : x.kd = .a) (hk' : x'.kd = .a) (hne : x.i ≠ x'.i) : x.g ≠ x'.g := by
  rw [pl.gOf h, pl.gOf h']
  rcases splits (h.symm.trans h') with ⟨_, q, _⟩ | ⟨k, q⟩ | ⟨k, q⟩
  · exact absurd (by rw [q]) hne
  · rw [q, cntA_append, cntA_cons, hk]; show _ ≠ _ + (1 + _); omega
  · rw [q, cntA_append, cntA_cons, hk']; show _ + (1 + _) ≠ _; omega
theorem PlanOk.cover : ∀ {l done : List PI}, PlanOk P ops l done → ∀ j, j < ops.size → (∃ y ∈ l, y.i = j) ∨ ∃ y ∈ done, y.i = j := by
  intro l done h
  induction h with
  | nil h => intro j hj; exact .inr (h j hj)
  | cons _ _ ih =>
    intro j hj
    rcases ih j hj with ⟨y, h1, h2⟩ | ⟨y, h1, h2⟩
    · exact .inl ⟨y, List.mem_cons_of_mem _ h1, h2⟩
    · rcases List.mem_cons.1 h1 with rfl | h1
      · exact .inl ⟨y, List.mem_cons_self .., h2⟩
      · exact .inr ⟨y, h1, h2⟩
theorem PlanOk.lt {l done : List PI} (h : PlanOk P ops l done) : ∀ y ∈ l, y.i < ops.size := by
  induction h with
  | nil _ => intro y hy; cases hy
  | cons hi _ ih =>
    intro y hy
    rcases List.mem_cons.1 hy with rfl | hy
    · have := hi.at_
      rcases Nat.lt_or_ge y.i ops.size with q | q
      · exact q
      · rw [Array.getElem?_eq_none q] at this; cases this
    · exact ih y hy
end
section
variable {T : Ty} {nt : Nat} {ops : Array Oper} {call : CallT} {b : Nat} {f0 fe : Fr} {he : H} {P : Program} {L : List PI}
/-- The frame at a place of the plan. -/
def AtP (nt : Nat) (f0 fe : Fr) (m : List PI) (f : Fr) : Prop := ∀ t, t < nt → ((∃ y ∈ m, y.o.dst = some t) → (getC t).run f = (getC t).run fe) ∧ ((∀ y ∈ m, y.o.dst ≠ some t) → (getC t).run f = (getC t).run f0)
theorem AtP.same {m : List PI} {f f' : Fr} (h : AtP nt f0 fe m f) (h' : AtP nt f0 fe m f') (t : Nat) (ht : t < nt) : (getC t).run f = (getC t).run f' := by
  by_cases hh : ∃ y ∈ m, y.o.dst = some t
  · rw [(h t ht).1 hh, (h' t ht).1 hh]
  · have hn : ∀ y ∈ m, y.o.dst ≠ some t := fun y hy e => hh ⟨y, hy, e⟩
    rw [(h t ht).2 hn, (h' t ht).2 hn]
theorem AtP.on {m seg r : List PI} {f f' : Fr} {h : H} {sn : List H} (hm : nt ≤ 576) (pl : PlanOk P ops (m ++ (seg ++ r)) []) (a : AtP nt f0 fe m f) (tr : Tr T nt ops call b fe he r f' h sn) (hf : ∀ t, t < nt → (∀ y ∈ seg, y.o.dst ≠ some t) → (getC t).run f' = (getC t).run f) : AtP nt f0 fe (m ++ seg) f' := by
  intro t ht
  refine ⟨fun ⟨y, hy, e⟩ => ?_, fun hn => ?_⟩
  · refine (Tr.keep tr ht hm fun z hz e2 => ?_).symm
    have pl' := PlanOk.drop (m := m ++ seg) (r := r) (by simpa using pl)
    exact pl'.dsts z hz y (by simp only [List.mem_append, List.append_nil, List.mem_reverse] at hy ⊢; exact hy) t e2 e
  · rw [hf t ht fun y hy => hn y (List.mem_append_right _ hy)]
    exact (a t ht).2 fun y hy => hn y (List.mem_append_left _ hy)
end
section
variable {P : Program} {RT : List Rule} [RulesOk P RT] {G : Nat → AV} {nt : Nat} {ops : Array Oper} {call : CallT} {b : Nat} {f0 fe : Fr} {he : H} {L : List PI} {ι ι' ι0 : Inj} {h0 : H} {w w' w0 : World}
def Lst (listed : Array Bool) (i : Nat) : Prop := listed.getD i false = true
/-- A block that was laid ahead of its turn. -/
def Early (P : Program) (G : Nat → AV) (nt b : Nat) (f0 fe : Fr) (ι : Inj) (w : World) (m : List PI) (x : PI) : Prop := ∃ (a1 : Act) (B : Nat) (X : Obj) (uu : Nat → Value), (∀ w0 : World, (execOp a1.eval x.o).run P w0 = .ok (.value (uu w0.heap.size)) { w0 with heap := w0.heap.push X }) ∧
  ι (b + x.g) 0 = some ⟨B, 0, 0, lenX X, lenX X, undef⟩ ∧ (∀ s, 0 < s → ι (b + x.g) s = none) ∧ w.heap[B]? = some X ∧ ∀ f', AtP nt f0 fe m f' → EvOk G nt ι f' a1 x.o.op
theorem Early.mono {m : List PI} {x : PI} (h : Early P G nt b f0 fe ι w m x) (hle : Inj.le ι ι') (hs : ∀ s, ι' (b + x.g) s = ι (b + x.g) s) (hw : ∀ B l, ι (b + x.g) 0 = some l → l.b = B → w'.heap[B]? = w.heap[B]?) : Early P G nt b f0 fe ι' w' m x := by
  obtain ⟨a1, B, X, uu, q1, q2, q3, q4, q5⟩ := h
  exact ⟨a1, B, X, uu, q1, (hs 0).trans q2, fun s h => (hs s).trans (q3 s h), (hw B _ q2 rfl).trans q4, fun f' h y hy => (q5 f' h y hy).mono hle⟩
/-- Blocks of allocations whose turn is still to come. -/
structure Ahead (P : Program) (G : Nat → AV) (nt : Nat) (ops : Array Oper) (b : Nat) (f0 fe : Fr) (L : List PI) (E : Nat → Prop) (Ls : Nat → Prop) (ι : Inj) (w : World) (n : Nat) : Prop where
  el : ∀ i, E i → Ls i
  e1 : ∀ m x l2, L = m ++ x :: l2 → n ≤ m.length → x.kd = .a → E x.i → Early P G nt b f0 fe ι w m x
  e2 : ∀ m x l2, L = m ++ x :: l2 → n ≤ m.length → x.kd = .a → ¬ E x.i → ∀ s, ι (b + x.g) s = none
  e3 : ∀ m x l2, L = m ++ x :: l2 → n ≤ m.length → x.kd = .a → Ls x.i → ∀ f', AtP nt f0 fe m f' → wantV nt ops x.o f' = some true → E x.i
theorem Ahead.less {E Ls : Nat → Prop} {n n' : Nat} (A : Ahead P G nt ops b f0 fe L E Ls ι w n) (h : n ≤ n') : Ahead P G nt ops b f0 fe L E Ls ι w n' :=
  ⟨A.el, fun m x l2 e hn => A.e1 m x l2 e (Nat.le_trans h hn), fun m x l2 e hn => A.e2 m x l2 e (Nat.le_trans h hn), fun m x l2 e hn => A.e3 m x l2 e (Nat.le_trans h hn)⟩
theorem Ahead.grows {E Ls : Nat → Prop} {n : Nat} {h h' : H} (S : Sim ι h w) (g : Grows ι h w ι' h' w') (hno : ∀ m x l2, L = m ++ x :: l2 → n ≤ m.length → x.kd = .a → b + x.g < h.nx ∧ h.obj (b + x.g) = .no) (A : Ahead P G nt ops b f0 fe L E Ls ι w n) : Ahead P G nt ops b f0 fe L E Ls ι' w' n := by
  refine ⟨A.el, fun m x l2 e hn hk hE => ?_, fun m x l2 e hn hk hE s => ?_, A.e3⟩
  · obtain ⟨k1, k2⟩ := hno m x l2 e hn hk
    refine (A.e1 m x l2 e hn hk hE).mono g.ext (g.kept _ k1 k2).2 fun B l hl hB => ?_
    subst hB
    refine g.keep _ (S.inw _ _ _ hl) fun g' s l' _ hw hl' hb => ?_
    have := (S.inj _ _ _ _ _ _ hl' hl hb).1
    subst this
    rw [k2] at hw
    exact hw
  · obtain ⟨k1, k2⟩ := hno m x l2 e hn hk
    rw [(g.kept _ k1 k2).2 s]
    exact A.e2 m x l2 e hn hk hE s
/-- Their turn comes. -/
theorem adopt_seg (hm : nt ≤ 576) (hb : h0.nx ≤ b) {E Ls : Nat → Prop} (pl : PlanOk P ops L []) {rest : List PI} {sn : List H} : ∀ (seg pre : List PI) (f : Fr) (h : H), L = pre ++ (seg ++ rest) → (∀ y ∈ seg, y.kd ≠ .e) → (∀ y ∈ seg, Ls y.i) → Tr ⟨P, G, RT⟩ nt ops call b fe he (seg ++ rest) f h sn → AtP nt f0 fe pre f →
    Sim ι h w → Grows ι0 h0 w0 ι h w → b + cntA L ≤ h.nx → (∀ m x l2, L = m ++ x :: l2 → pre.length ≤ m.length → x.kd = .a → h.obj (b + x.g) = .no) → Ahead P G nt ops b f0 fe L E Ls ι w pre.length →
    ∃ f2 h2, Tr ⟨P, G, RT⟩ nt ops call b fe he rest f2 h2 sn ∧ AtP nt f0 fe (pre ++ seg) f2 ∧ Sim ι h2 w ∧ Grows ι0 h0 w0 ι h2 w ∧ h2.nx = h.nx ∧ (∀ m x l2, L = m ++ x :: l2 → (pre ++ seg).length ≤ m.length → x.kd = .a → h2.obj (b + x.g) = .no)
  | [], pre, f, h, hL, _, _, tr, at0, S, g, hnx, hno, _ => ⟨f, h, tr, by simpa using at0, S, g, rfl, fun m x l2 e hn hk => hno m x l2 e (by simpa using hn) hk⟩
  | y :: seg, pre, f, h, hL, hk, hl, tr, at0, S, g, hnx, hno, A => by
    have hL' : L = (pre ++ [y]) ++ (seg ++ rest) := by rw [hL]; simp
    have hLy : L = pre ++ y :: (seg ++ rest) := hL
    have hk' : ∀ z ∈ seg, z.kd ≠ .e := fun z hz => hk z (List.mem_cons_of_mem _ hz)
    have hl' : ∀ z ∈ seg, Ls z.i := fun z hz => hl z (List.mem_cons_of_mem _ hz)
    have hlen : pre.length ≤ (pre ++ [y]).length := by simp
    have hon : ∀ {v : AV} {h' : H}, Tr ⟨P, G, RT⟩ nt ops call b fe he (seg ++ rest) (f.putD nt y.o.dst v) h' sn → AtP nt f0 fe (pre ++ [y]) (f.putD nt y.o.dst v) := fun tr' =>
      AtP.on (P := P) (r := seg ++ rest) hm (by rw [hL] at pl; exact pl) at0 tr' fun t ht hd => by rw [putD_get ht hm, if_neg (hd y (List.mem_cons_self ..))]
    have fin : ∀ {f2 : Fr} {h1 : H}, h1.nx = h.nx → (∃ f2 h2, Tr ⟨P, G, RT⟩ nt ops call b fe he rest f2 h2 sn ∧ AtP nt f0 fe ((pre ++ [y]) ++ seg) f2 ∧ Sim ι h2 w ∧ Grows ι0 h0 w0 ι h2 w ∧ h2.nx = h1.nx ∧ (∀ m x l2, L = m ++ x :: l2 → ((pre ++ [y]) ++ seg).length ≤ m.length → x.kd = .a → h2.obj (b + x.g) = .no)) →
        ∃ f2 h2, Tr ⟨P, G, RT⟩ nt ops call b fe he rest f2 h2 sn ∧ AtP nt f0 fe (pre ++ y :: seg) f2 ∧ Sim ι h2 w ∧ Grows ι0 h0 w0 ι h2 w ∧ h2.nx = h.nx ∧ (∀ m x l2, L = m ++ x :: l2 → (pre ++ y :: seg).length ≤ m.length → x.kd = .a → h2.obj (b + x.g) = .no) := by
      rintro _ h1 e ⟨f2, h2, q1, q2, q3, q4, q5, q6⟩
      exact ⟨f2, h2, q1, by simpa using q2, q3, q4, q5.trans e, fun m x l2 e hn hk => q6 m x l2 e (by simpa using hn) hk⟩
    cases tr with
    | skip k1 k2 k3 => exact fin (f2 := f) rfl (adopt_seg hm hb pl seg (pre ++ [y]) _ h hL' hk' hl' k3 (hon k3) S g hnx (fun m x l2 e hn => hno m x l2 e (Nat.le_trans hlen hn)) (A.less hlen))
    | skipE k1 k2 k3 => exact absurd k1 (hk y (List.mem_cons_self ..))
    | q k1 k2 k3 k4 => exact fin (f2 := f) rfl (adopt_seg hm hb pl seg (pre ++ [y]) _ h hL' hk' hl' k4 (hon k4) S g hnx (fun m x l2 e hn => hno m x l2 e (Nat.le_trans hlen hn)) (A.less hlen))
    | e k1 k2 k3 k4 => exact absurd k1 (hk y (List.mem_cons_self ..))
    | @a _ _ _ _ h' _ v k1 k2 k3 k4 =>
      have hE := A.e3 pre y _ hLy (Nat.le_refl _) k1 (hl y (List.mem_cons_self ..)) f at0 k2
      obtain ⟨a1, B, X, uu, q1, q2, q3, q4, q5⟩ := A.e1 pre y _ hLy (Nat.le_refl _) k1 hE
      have hit := PlanOk.item (hLy ▸ pl)
      have ha : allocB y.o.op = true := by
        have e := hit.kind
        rw [k1] at e
        unfold kdOf at e
        cases hq : quietA P y.o.op with
        | true => rw [hq] at e; cases e
        | false =>
          rw [hq] at e
          cases ha : allocB y.o.op with
          | true => rfl
          | false => rw [ha] at e; cases e
      obtain ⟨ob, Fv, hlay⟩ := allocB_lays ha k3
      have emem := hlay.mem
      have eh : backG h h' = h.putv (b + y.g) ob := by rw [emem]; exact backG_eq h (b + y.g) ob
      obtain ⟨X', uu', r1, r2⟩ := hlay.runs ι a1 (q5 f at0)
      have eX : X' = X := by
        have e1 := q1 w
        rw [r1 w] at e1
        injection e1 with _ e2
        have e3 : w.heap.push X' = w.heap.push X := congrArg World.heap e2
        have e4 := congrArg Array.back? e3
        simpa using e4
      subst eX
      have hgl : b + y.g < h.nx := by have := pl.gLt hLy k1; omega
      obtain ⟨r3, _⟩ := r2 ι (b + y.g) B w (Inj.le_refl ι) q2 q3 q4
      rw [eh] at k4
      refine fin (f2 := f) (h1 := h.putv (b + y.g) ob) rfl (adopt_seg hm hb pl seg (pre ++ [y]) _ _ hL' hk' hl' k4 (hon k4) (S.adopt hgl r3) (Grows.adopt S g hgl (by omega) ob) hnx (fun m x l2 e hn hkx => ?_) (A.less hlen))
      have hnx' := S.nx
      have hgx : b + x.g < h.nx := by have := pl.gLt e hkx; omega
      rw [H.obj_putv h _ _ ob (by omega) (by omega)]
      have hne : y.g ≠ x.g := pl.gNe hLy e k1 hkx fun ei => by
        have := (pl.uniq hLy e ei).1
        rw [← this] at hn
        simp at hn
        omega
      rw [if_neg (by omega)]
      exact hno m x l2 e (Nat.le_trans hlen hn) hkx
end
section
variable {P : Program} {RT : List Rule} [RulesOk P RT] {G : Nat → AV} {nt : Nat} {rd : Option Nat} {ops : Array Oper} {call : CallT} {pb : FuncId → Bool} {lo : Nat} {b : Nat} {f0 fe : Fr} {he : H} {L : List PI} {ι ι' ι0 : Inj} {h0 : H} {w w' w0 : World} {ds : List Deferred}
theorem evO_rv' {f : Fr} {a : Act} (hG : GlobOk G ι) (hs : a.tmps.size = nt) (x : Operand) (h : ∀ t, x = .tmp t → t < nt → RV ι ((getC t).run f) (a.tmps.getD t undef)) : RV ι ((evO G nt x).run f) (a.eval x) := by
  cases x with
  | tmp t =>
    show RV ι ((le (β := EvC) (Nat.succ t) nt (getC t) ⟨fun _ => undefA⟩).run f) (a.tmps.getD t undef)
    rw [le_eq]
    by_cases ht : t < nt
    · rw [if_pos (Nat.succ_le_of_lt ht)]; exact h t rfl ht
    · have h1 : ¬ Nat.succ t ≤ nt := fun h => ht h
      have h2 : a.tmps.size ≤ t := by omega
      rw [if_neg h1, Array.getD_eq_getD_getElem?, Array.getElem?_eq_none h2]; exact undef_rv ι
  | const v => exact ofV_rv ι v
  | global g => exact hG g
  | func f => exact .fn .nil .nil
theorem mem_tmpsOf {t : Nat} : ∀ {l : List Operand}, Operand.tmp t ∈ l → t ∈ tmpsOf l
  | [], h => by cases h
  | x :: l, h => by
    rcases List.mem_cons.1 h with rfl | h
    · exact List.mem_cons_self ..
    · have := mem_tmpsOf h
      show t ∈ (match x with | .tmp t => t :: tmpsOf l | _ => tmpsOf l)
      cases x <;> first | exact this | exact List.mem_cons_of_mem _ this
theorem mem_readsT {t : Nat} {o : Oper} (h : t ∈ guardT ops o ∨ t ∈ tmpsOf o.op.operands.toList) : t ∈ readsT ops o := by
  have key : ∀ (a b : List Nat), (t ∈ a ∨ t ∈ b) → t ∈ readsT.appN a b := by
    intro a b hh
    induction a with
    | nil =>
      rcases hh with hh | hh
      · cases hh
      · exact hh
    | cons x a ih =>
      rcases hh with hh | hh
      · rcases List.mem_cons.1 hh with rfl | hh
        · exact List.mem_cons_self ..
        · exact List.mem_cons_of_mem _ (ih (.inl hh))
      · exact List.mem_cons_of_mem _ (ih (.inr hh))
  exact key _ _ h
theorem wantV_ok {o : Oper} {f : Fr} {tmps : Array Value} {v : Bool} (hs : tmps.size = nt) (hg : ∀ t, t ∈ guardT ops o → t < nt → RV ι ((getC t).run f) (tmps.getD t undef)) (h : wantV nt ops o f = some v) : Region.wanted o (yielded ops tmps) = v := by
  unfold wantV guardC at h
  unfold Region.wanted
  cases hgd : o.guard with
  | none => simp only [hgd] at h; injection h
  | some jw =>
    obtain ⟨j, want⟩ := jw
    simp only [hgd] at h
    rcases wanted_ok' h (fun hh => by cases hh) hs (fun t ht hlt => hg t (by unfold guardT; simp only [hgd, ht]; exact List.mem_singleton.2 rfl) hlt) with ⟨h1, h2⟩ | ⟨h1, h2⟩
    · injection h2 with h2; rw [← h2]; exact h1
    · injection h2 with h2; rw [← h2]; exact h1
theorem wantV_same {o : Oper} {f f' : Fr} (h : ∀ t, t ∈ guardT ops o → t < nt → (getC t).run f = (getC t).run f') : wantV nt ops o f = wantV nt ops o f' := by
  unfold wantV guardC
  cases hgd : o.guard with
  | none => rfl
  | some jw =>
    obtain ⟨j, want⟩ := jw
    show wantedA (guardOf nt ops j) want f (some true) (some false) none = wantedA (guardOf nt ops j) want f' (some true) (some false) none
    unfold guardOf
    cases hd : (ops[j]?).bind (·.dst) with
    | none => rfl
    | some t =>
      simp only []
      rw [le_eq]
      by_cases ht : t < nt
      · rw [if_pos (Nat.succ_le_of_lt ht)]
        have := h t (by unfold guardT; simp only [hgd, hd]; exact List.mem_singleton.2 rfl) ht
        show ((getC t).run f).onBoolTup _ _ _ = ((getC t).run f').onBoolTup _ _ _
        rw [this]
      · rw [if_neg (show ¬ Nat.succ t ≤ nt from ht)]; rfl
/-- Where a run of a region stands: what is listed, and the plan's own place. -/
structure Inv (P : Program) (RT : List Rule) (G : Nat → AV) (nt : Nat) (ops : Array Oper) (call : CallT) (b : Nat) (f0 fe : Fr) (he : H) (L : List PI) (ι0 : Inj) (h0 : H) (w0 : World) (ds : List Deferred) (listed : Array Bool) (a : Act) (w : World) (pre rest : List PI) (ι : Inj) (f : Fr) (h : H) (sn : List H) (E : Nat → Prop) : Prop where
  plan : L = pre ++ rest
  prel : ∀ y ∈ pre, Lst listed y.i
  eff : ∀ y ∈ rest, y.kd = .e → ¬ Lst listed y.i
  tr : Tr ⟨P, G, RT⟩ nt ops call b fe he rest f h (h :: sn)
  at_ : AtP nt f0 fe pre f
  sim : Sim ι h w
  grows : Grows ι0 h0 w0 ι h w
  closed : ClosedL ops (Lst listed)
  size : a.tmps.size = nt
  lsize : listed.size = ops.size
  defers : a.defers = ds
  t1 : ∀ y ∈ L, Lst listed y.i → ∀ t, y.o.dst = some t → t < nt → RV ι ((getC t).run fe) (a.tmps.getD t undef)
  t2 : ∀ t, t < nt → (∀ y ∈ L, Lst listed y.i → y.o.dst ≠ some t) → RV ι ((getC t).run f0) (a.tmps.getD t undef)
  nx : b + cntA L ≤ h.nx
  no : ∀ m x l2, L = m ++ x :: l2 → pre.length ≤ m.length → x.kd = .a → h.obj (b + x.g) = .no
  ahead : Ahead P G nt ops b f0 fe L E (Lst listed) ι w pre.length
theorem lst_set {listed : Array Bool} {i j : Nat} (hi : i < listed.size) : Lst (listed.setIfInBounds i true) j ↔ Lst listed j ∨ j = i := by
  unfold Lst
  by_cases h : i = j
  · subst h; simp [hi]
  · rw [getD_set_ne false h]
    constructor
    · exact .inl
    · rintro (h1 | h1)
      · exact h1
      · exact absurd h1.symm h
theorem put_get {a : Act} {dst : Option Nat} {u : Value} {t : Nat} (ht : t < nt) (hs : a.tmps.size = nt) : (a.put dst u).tmps.getD t undef = if dst = some t then u else a.tmps.getD t undef := by
  cases dst with
  | none => rfl
  | some d =>
    show (a.tmps.setIfInBounds d u).getD t undef = _
    by_cases hd : d < a.tmps.size
    · rw [getD_set _ _ _ _ hd]
      by_cases e : d = t
      · subst e; simp
      · rw [if_neg e, if_neg (by simpa using e)]
    · rw [if_neg (by simp; omega)]
      simp [Array.getElem?_setIfInBounds_ne (show d ≠ t by omega)]
theorem put_size (a : Act) (dst : Option Nat) (u : Value) : (a.put dst u).tmps.size = a.tmps.size := by
  cases dst with
  | none => rfl
  | some d => show (a.tmps.setIfInBounds d u).size = _; simp
section
variable {listed : Array Bool} {a : Act} {pre rest : List PI} {f : Fr} {h : H} {sn : List H} {E : Nat → Prop}
theorem Inv.anc (I : Inv P RT G nt ops call b f0 fe he L ι0 h0 w0 ds listed a w pre rest ι f h sn E) (pl : PlanOk P ops L []) {m : List PI} {x : PI} {l2 : List PI} (hx : L = m ++ x :: l2) (hdep : ∀ j, Dep x.o j → Lst listed j) : ∀ j, x.A.testBit j = true → Lst listed j :=
  anc_closed I.closed pl (fun y hy => by cases hy) x (by rw [hx]; simp) hdep
theorem mem_split {y : PI} {l : List PI} (h : y ∈ l) : ∃ m l2, l = m ++ y :: l2 := by
  obtain ⟨m, l2, e⟩ := List.append_of_mem h
  exact ⟨m, l2, e⟩
/-- What an operation that may be taken now reads is what its place in the plan says. -/
theorem Inv.reads (I : Inv P RT G nt ops call b f0 fe he L ι0 h0 w0 ds listed a w pre rest ι f h sn E) (pl : PlanOk P ops L []) {m : List PI} {x : PI} {l2 : List PI} (hx : L = m ++ x :: l2) (hun : ¬ Lst listed x.i) (hdep : ∀ j, Dep x.o j → Lst listed j)
    {fx : Fr} (hat : AtP nt f0 fe m fx) {t : Nat} (hr : t ∈ readsT ops x.o) (ht : t < nt) : RV ι ((getC t).run fx) (a.tmps.getD t undef) := by
  have hanc := I.anc pl hx hdep
  by_cases hh : ∃ y ∈ L, Lst listed y.i ∧ y.o.dst = some t
  · obtain ⟨y, hy, hl, hd⟩ := hh
    have h1 := I.t1 y hy hl t hd ht
    rw [hx] at hy
    rcases List.mem_append.1 hy with hy | hy
    · rw [(hat t ht).1 ⟨y, hy, hd⟩]; exact h1
    · rcases List.mem_cons.1 hy with rfl | hy
      · exact absurd hl hun
      · obtain ⟨m2, l3, e⟩ := mem_split hy
        have hy' : L = (m ++ x :: m2) ++ y :: l3 := by rw [hx, e]; simp
        have hit := PlanOk.item (hy' ▸ pl)
        rcases (hit.apart x (by simp)).2 with q | ⟨_, q⟩
        · exact absurd (I.anc pl hy' (fun j hj => I.closed _ _ hit.at_ hl j hj) _ q) hun
        · exact absurd hr (q t hd)
  · have hn : ∀ y ∈ L, Lst listed y.i → y.o.dst ≠ some t := fun y hy hl e => hh ⟨y, hy, hl, e⟩
    rw [(hat t ht).2 fun y hy e => ?_]
    · exact I.t2 t ht hn
    · have hit := PlanOk.item (hx ▸ pl)
      rcases (hit.apart y (by simpa using hy)).2 with q | ⟨q, _⟩
      · exact hn y (by rw [hx]; exact List.mem_append_left _ hy) (hanc _ q) e
      · exact q t e hr
theorem Inv.ev (I : Inv P RT G nt ops call b f0 fe he L ι0 h0 w0 ds listed a w pre rest ι f h sn E) (pl : PlanOk P ops L []) (hG : GlobOk G ι) {m : List PI} {x : PI} {l2 : List PI} (hx : L = m ++ x :: l2) (hun : ¬ Lst listed x.i) (hdep : ∀ j, Dep x.o j → Lst listed j)
    {fx : Fr} (hat : AtP nt f0 fe m fx) : EvOk G nt ι fx a x.o.op := fun y hy => evO_rv' hG I.size y fun t e ht => I.reads pl hx hun hdep hat (mem_readsT (.inr (mem_tmpsOf (e ▸ hy)))) ht
theorem Inv.want (I : Inv P RT G nt ops call b f0 fe he L ι0 h0 w0 ds listed a w pre rest ι f h sn E) (pl : PlanOk P ops L []) {m : List PI} {x : PI} {l2 : List PI} (hx : L = m ++ x :: l2) (hun : ¬ Lst listed x.i) (hdep : ∀ j, Dep x.o j → Lst listed j)
    {fx : Fr} (hat : AtP nt f0 fe m fx) {v : Bool} (hv : wantV nt ops x.o fx = some v) : Region.wanted x.o (yielded ops a.tmps) = v := wantV_ok I.size (fun t ht hlt => I.reads pl hx hun hdep hat (mem_readsT (.inl ht)) hlt) hv
end
end
section
variable {P : Program} {RT : List Rule} [RulesOk P RT] {G : Nat → AV} {nt : Nat} {rd : Option Nat} {ops : Array Oper} {call : CallT} {pb : FuncId → Bool} {lo : Nat} {b : Nat} {f0 fe : Fr} {he : H} {L : List PI} {ι ι' ι0 : Inj} {h0 : H} {w w' w0 : World} {ds : List Deferred}
variable {listed : Array Bool} {a : Act} {pre rest : List PI} {f : Fr} {h : H} {sn : List H} {E : Nat → Prop}
theorem kd_q {x : PI} (hk : x.kd = kdOf P x.o.op) (h : x.kd = .q) : quietA P x.o.op = true := by
  rw [h] at hk
  unfold kdOf at hk
  cases hq : quietA P x.o.op with
  | true => rfl
  | false =>
    rw [hq] at hk
    cases ha : allocB x.o.op with
    | true => rw [ha] at hk; cases hk
    | false => rw [ha] at hk; cases hk
theorem kd_a {x : PI} (hk : x.kd = kdOf P x.o.op) (h : x.kd = .a) : allocB x.o.op = true := by
  rw [h] at hk
  unfold kdOf at hk
  cases hq : quietA P x.o.op with
  | true => rw [hq] at hk; cases hk
  | false =>
    rw [hq] at hk
    cases ha : allocB x.o.op with
    | true => rfl
    | false => rw [ha] at hk; cases hk
theorem fe_dst {T : Ty} (hm : nt ≤ 576) (pl : PlanOk P ops L []) {m l2 : List PI} {x : PI} (hx : L = m ++ x :: l2) {fx : Fr} {v : AV} {h' : H} {sn' : List H} (tr : Tr T nt ops call b fe he l2 (fx.putD nt x.o.dst v) h' sn') {t : Nat} (hd : x.o.dst = some t) (ht : t < nt) : (getC t).run fe = v := by
  have pl' := PlanOk.drop (m := m ++ [x]) (r := l2) (by simpa [hx] using pl)
  rw [Tr.keep tr ht hm fun y hy e => pl'.dsts y hy x (by simp) t e hd, putD_get ht hm, if_pos hd]
theorem Ahead.list {Ls Ls' : Nat → Prop} {n i0 : Nat} (A : Ahead P G nt ops b f0 fe L E Ls ι w n) (hl : ∀ j, Ls' j ↔ Ls j ∨ j = i0) (hn : ∀ m x l2, L = m ++ x :: l2 → n ≤ m.length → x.kd = .a → x.i = i0 → ∀ f', AtP nt f0 fe m f' → wantV nt ops x.o f' ≠ some true) : Ahead P G nt ops b f0 fe L E Ls' ι w n := by
  refine ⟨fun i h => (hl i).2 (.inl (A.el i h)), A.e1, A.e2, fun m x l2 e hle hk hx f' hf hw => ?_⟩
  rcases (hl _).1 hx with h1 | h1
  · exact A.e3 m x l2 e hle hk h1 f' hf hw
  · exact absurd hw (hn m x l2 e hle hk h1 f' hf)
/-- One more is listed. -/
theorem Inv.core (I : Inv P RT G nt ops call b f0 fe he L ι0 h0 w0 ds listed a w pre rest ι f h sn E) (pl : PlanOk P ops L []) {m : List PI} {x : PI} {l2 : List PI} (hx : L = m ++ x :: l2) (hdep : ∀ j, Dep x.o j → Lst listed j) (hle : Inj.le ι ι') {u : Value} (hu : ∀ t, x.o.dst = some t → t < nt → RV ι' ((getC t).run fe) u) :
    (∀ j, Lst (listed.setIfInBounds x.i true) j ↔ Lst listed j ∨ j = x.i) ∧ ClosedL ops (Lst (listed.setIfInBounds x.i true)) ∧ (a.put x.o.dst u).tmps.size = nt ∧ (listed.setIfInBounds x.i true).size = ops.size ∧ (a.put x.o.dst u).defers = ds ∧
    (∀ y ∈ L, Lst (listed.setIfInBounds x.i true) y.i → ∀ t, y.o.dst = some t → t < nt → RV ι' ((getC t).run fe) ((a.put x.o.dst u).tmps.getD t undef)) ∧
    (∀ t, t < nt → (∀ y ∈ L, Lst (listed.setIfInBounds x.i true) y.i → y.o.dst ≠ some t) → RV ι' ((getC t).run f0) ((a.put x.o.dst u).tmps.getD t undef)) := by
  have hxm : x ∈ L := by rw [hx]; simp
  have hls : ∀ j, Lst (listed.setIfInBounds x.i true) j ↔ Lst listed j ∨ j = x.i := fun j => lst_set (by rw [I.lsize]; exact pl.lt x hxm)
  have hit := PlanOk.item (hx ▸ pl)
  refine ⟨hls, fun i o ho hi j hj => (hls j).2 (.inl ?_), by rw [put_size]; exact I.size, by simpa using I.lsize, by rw [put_defers]; exact I.defers, fun y hy hl t hd ht => ?_, fun t ht hn => ?_⟩
  · rcases (hls i).1 hi with h1 | h1
    · exact I.closed i o ho h1 j hj
    · subst h1
      rw [hit.at_] at ho; cases ho
      exact hdep j hj
  · rw [put_get ht I.size]
    by_cases e : x.o.dst = some t
    · rw [if_pos e]; exact hu t e ht
    · rw [if_neg e]
      rcases (hls _).1 hl with h1 | h1
      · exact (I.t1 y hy h1 t hd ht).mono hle
      · obtain ⟨m', l', e'⟩ := mem_split hy
        have := (pl.uniq e' hx h1).2.1
        subst this
        exact absurd hd e
  · rw [put_get ht I.size, if_neg (hn x hxm ((hls _).2 (.inr rfl)))]
    exact (I.t2 t ht fun y hy hl => hn y hy ((hls _).2 (.inl hl))).mono hle
theorem Inv.listQ (I : Inv P RT G nt ops call b f0 fe he L ι0 h0 w0 ds listed a w pre rest ι f h sn E) (pl : PlanOk P ops L []) {m : List PI} {x : PI} {l2 : List PI} (hx : L = m ++ x :: l2) (hdep : ∀ j, Dep x.o j → Lst listed j) (hk : x.kd ≠ .e) (hle : Inj.le ι ι') {u : Value} (hu : ∀ t, x.o.dst = some t → t < nt → RV ι' ((getC t).run fe) u)
    (S : Sim ι' h w') (g : Grows ι0 h0 w0 ι' h w') {E' : Nat → Prop} (A : Ahead P G nt ops b f0 fe L E' (Lst (listed.setIfInBounds x.i true)) ι' w' pre.length) :
    Inv P RT G nt ops call b f0 fe he L ι0 h0 w0 ds (listed.setIfInBounds x.i true) (a.put x.o.dst u) w' pre rest ι' f h sn E' := by
  obtain ⟨c1, c2, c3, c4, c5, c6, c7⟩ := I.core pl hx hdep hle hu
  refine ⟨I.plan, fun y hy => (c1 _).2 (.inl (I.prel y hy)), fun y hy he hl => ?_, I.tr, I.at_, S, g, c2, c3, c4, c5, c6, c7, I.nx, I.no, A⟩
  rcases (c1 _).1 hl with h1 | h1
  · exact I.eff y hy he h1
  · obtain ⟨m', l', e'⟩ := mem_split (show y ∈ L by rw [I.plan]; exact List.mem_append_right _ hy)
    have := (pl.uniq e' hx h1).2.1
    subst this
    exact hk he
theorem Inv.listE (I : Inv P RT G nt ops call b f0 fe he L ι0 h0 w0 ds listed a w pre rest ι f h sn E) (pl : PlanOk P ops L []) {seg : List PI} {x : PI} {l2 : List PI} (hx : L = (pre ++ seg) ++ x :: l2) (hdep : ∀ j, Dep x.o j → Lst listed j) (hseg : ∀ y ∈ seg, Lst listed y.i) (hrest : rest = seg ++ x :: l2) (hle : Inj.le ι ι') {u : Value} (hu : ∀ t, x.o.dst = some t → t < nt → RV ι' ((getC t).run fe) u)
    {f' : Fr} {h' : H} {sn' : List H} (tr : Tr ⟨P, G, RT⟩ nt ops call b fe he l2 f' h' (h' :: sn')) (at0 : AtP nt f0 fe (pre ++ seg ++ [x]) f') (S : Sim ι' h' w') (g : Grows ι0 h0 w0 ι' h' w') (hnx : b + cntA L ≤ h'.nx)
    (hno : ∀ m x' l2, L = m ++ x' :: l2 → (pre ++ seg ++ [x]).length ≤ m.length → x'.kd = .a → h'.obj (b + x'.g) = .no) (A : Ahead P G nt ops b f0 fe L E (Lst listed) ι' w' (pre ++ seg ++ [x]).length) :
    Inv P RT G nt ops call b f0 fe he L ι0 h0 w0 ds (listed.setIfInBounds x.i true) (a.put x.o.dst u) w' (pre ++ seg ++ [x]) l2 ι' f' h' sn' E := by
  obtain ⟨c1, c2, c3, c4, c5, c6, c7⟩ := I.core pl hx hdep hle hu
  refine ⟨by rw [hx]; simp, fun y hy => (c1 _).2 ?_, fun y hy he hl => ?_, tr, at0, S, g, c2, c3, c4, c5, c6, c7, hnx, hno, A.list c1 fun m y l' e hn _ hi => ?_⟩
  · rcases List.mem_append.1 hy with hy | hy
    · rcases List.mem_append.1 hy with hy | hy
      · exact .inl (I.prel y hy)
      · exact .inl (hseg y hy)
    · rw [List.mem_singleton.1 hy]; exact .inr rfl
  · rcases (c1 _).1 hl with h1 | h1
    · exact I.eff y (by rw [hrest]; simp [hy]) he h1
    · obtain ⟨m2, l3, e⟩ := mem_split hy
      have hy' : L = (pre ++ seg ++ x :: m2) ++ y :: l3 := by rw [hx, e]; simp
      exact (PlanOk.item (hy' ▸ pl)).new x (by simp) h1.symm
  · have := (pl.uniq e hx hi).1
    rw [this] at hn
    simp at hn
    omega
theorem Inv.take (I : Inv P RT G nt ops call b f0 fe he L ι0 h0 w0 ds listed a w pre rest ι f h sn E) (hcall : CallOk P G pb call) (pl : PlanOk P ops L []) (hG0 : GlobOk G ι0) (hm : nt ≤ 576) (hb : h0.nx ≤ b) (S0 : Sim ι0 h0 w0) {i : Nat} (hready : i ∈ Region.ready .any ops listed) {K : Act → World → Prop} {Q : Exit → Act → World → Prop}
    (hK : ∀ a' w' pre' rest' ι' f' h' sn' E', Inv P RT G nt ops call b f0 fe he L ι0 h0 w0 ds (listed.setIfInBounds i true) a' w' pre' rest' ι' f' h' sn' E' → K a' w') : wpOpIn (Wd rd) 0 P ops Q i K a w := by
  obtain ⟨hun, o, ho, hall⟩ := mem_ready.1 hready
  have hG : GlobOk G ι := hG0.mono I.grows.ext
  have hlt : i < ops.size := (Array.getElem?_eq_some_iff.1 ho).1
  have hun' : ¬ Lst listed i := by
    unfold Lst
    have : i < listed.size := by rw [I.lsize]; exact hlt
    simp only [Array.getD, this, dif_pos] at hun ⊢
    rw [hun]; decide
  obtain ⟨x, hxL, hxi⟩ : ∃ y ∈ L, y.i = i := by
    rcases pl.cover i hlt with q | ⟨y, q, _⟩
    · exact q
    · cases q
  subst hxi
  obtain ⟨m0, l0, hx0⟩ := mem_split hxL
  have hit0 := PlanOk.item (hx0 ▸ pl)
  have eo : x.o = o := by have := hit0.at_; rw [ho] at this; cases this; rfl
  subst eo
  have hdep : ∀ j, Dep x.o j → Lst listed j := by
    rintro j ⟨e, he, hbd, rfl⟩
    exact hall e (by simpa using he) hbd
  have hxr : x ∈ rest := by
    rw [I.plan] at hxL
    rcases List.mem_append.1 hxL with q | q
    · exact absurd (I.prel x q) hun'
    · exact q
  have plr : PlanOk P ops rest (pre.reverse ++ []) := PlanOk.drop (m := pre) (I.plan ▸ pl)
  obtain ⟨l1, l2, fx, hx, snx, pr, q1, q2, q3, q4, q5, q6⟩ := I.tr.at_ hm plr x hxr
  have hsp : L = (pre ++ l1) ++ x :: l2 := by rw [I.plan, q1]; simp
  have hat : AtP nt f0 fe (pre ++ l1) fx := AtP.on (r := x :: l2) hm (by rw [hsp] at pl; simpa using pl) I.at_ q3 q6
  have hev := I.ev pl hG hsp hun' hdep hat
  have hlen : pre.length ≤ (pre ++ l1).length := by simp
  have unw : ∀ {a' : Act} {w' : World}, (∀ f, x.o.about P w' a'.eval = some f → (Wd rd).fn f) := fun _ _ => trivial
  have hcore := fun {u : Value} (hu : ∀ t, x.o.dst = some t → t < nt → RV ι ((getC t).run fe) u) => I.core pl hsp hdep (Inj.le_refl ι) hu
  unfold wpOpIn
  simp only [ho]
  -- an operation that is not wanted
  have skip : ∀ {h2 : H} {sn2 : List H}, x.kd ≠ .e → wantV nt ops x.o fx = some false → Tr ⟨P, G, RT⟩ nt ops call b fe he l2 (fx.putD nt x.o.dst undefA) h2 sn2 → (if Region.wanted x.o (yielded ops a.tmps) then x.o.wpIn (Wd rd) 0 P a w K Q else (∀ f, x.o.about P w a.eval = some f → (Wd rd).fn f) ∧ K (a.put x.o.dst undef) w) := by
    intro h2 sn2 hk hv tr'
    rw [if_neg (by rw [I.want pl hsp hun' hdep hat hv]; decide)]
    have hu : ∀ t, x.o.dst = some t → t < nt → RV ι ((getC t).run fe) undef := fun t hd ht => by rw [fe_dst hm pl hsp tr' hd ht]; exact undef_rv ι
    refine ⟨unw, hK _ _ _ _ _ _ _ _ _ (I.listQ pl hsp hdep hk (Inj.le_refl ι) hu I.sim I.grows (I.ahead.list (hcore hu).1 fun m y l' e _ _ hi f' hf => ?_))⟩
    obtain ⟨e1, e2, _⟩ := pl.uniq e hsp hi
    subst e2; subst e1
    rw [wantV_same fun t _ ht => hf.same hat t ht, hv]
    decide
  cases hk : x.kd with
  | q =>
    cases q3 with
    | skip k1 k2 k3 => exact skip k1 k2 k3
    | skipE k1 _ _ => rw [hk] at k1; cases k1
    | a k1 _ _ _ => rw [hk] at k1; cases k1
    | e k1 _ _ _ => rw [hk] at k1; cases k1
    | @q _ _ _ _ _ v k1 k2 k3 k4 =>
      rw [if_pos (I.want pl hsp hun' hdep hat k2)]
      have hmem : h ∈ takeH x.c snx := by
        rw [q4]
        refine told_now q2 (fun y hy he => ?_) q5 h sn
        cases hA : x.A.testBit y.i with
        | false => rfl
        | true => exact absurd (I.anc pl hsp hdep _ hA) (I.eff y (by rw [q1]; exact List.mem_append_left _ hy) he)
      refine quiet_ok (kd_q q2.kind hk) (k3 h hmem) hev I.sim fun u hu => ?_
      have hu' : ∀ t, x.o.dst = some t → t < nt → RV ι ((getC t).run fe) u := fun t hd ht => by rw [fe_dst hm pl hsp k4 hd ht]; exact hu
      refine hK _ _ _ _ _ _ _ _ _ (I.listQ pl hsp hdep (by rw [hk]; intro hh; cases hh) (Inj.le_refl ι) hu' I.sim I.grows (I.ahead.list (hcore hu').1 fun m y l' e _ hka hi f' hf => ?_))
      obtain ⟨_, e2, _⟩ := pl.uniq e hsp hi
      subst e2
      rw [hk] at hka; cases hka
  | a =>
    cases q3 with
    | skip k1 k2 k3 => exact skip k1 k2 k3
    | skipE k1 _ _ => rw [hk] at k1; cases k1
    | q k1 _ _ _ => rw [hk] at k1; cases k1
    | e k1 _ _ _ => rw [hk] at k1; cases k1
    | @a _ _ _ _ h' _ v k1 k2 k3 k4 =>
      rw [if_pos (I.want pl hsp hun' hdep hat k2)]
      obtain ⟨ob, Fv, hlay⟩ := allocB_lays (kd_a q2.kind hk) k3
      have hnE : ¬ E x.i := fun hE => hun' (I.ahead.el _ hE)
      have hnone := I.ahead.e2 _ x l2 hsp hlen hk hnE
      have hgl : b + x.g < h.nx := by have := pl.gLt hsp hk; have := I.nx; omega
      have hno := I.no _ x l2 hsp hlen hk
      refine alloc_now (g := b + x.g) (kd_a q2.kind hk) hlay hlay.val hev hnone fun u X hX hu => ?_
      obtain ⟨uu, hX⟩ := hX
      have hle := Inj.add_le ι (b + x.g) 0 ⟨w.heap.size, 0, 0, lenX X, lenX X, undef⟩ (hnone 0)
      have hu' : ∀ t, x.o.dst = some t → t < nt → RV (ι.add (b + x.g) 0 ⟨w.heap.size, 0, 0, lenX X, lenX X, undef⟩) ((getC t).run fe) u := fun t hd ht => by rw [fe_dst hm pl hsp k4 hd ht]; exact hu
      have hls := (I.core pl hsp hdep hle hu').1
      refine hK _ _ _ _ _ _ _ _ (fun j => E j ∨ j = x.i) (I.listQ pl hsp hdep (by rw [hk]; intro hh; cases hh) hle hu' (I.sim.early hgl hno hnone X (lenX X)) (I.grows.early (by omega) hnone X (lenX X)) ⟨?_, ?_, ?_, ?_⟩)
      · rintro j (hj | hj)
        · exact (hls j).2 (.inl (I.ahead.el j hj))
        · exact (hls j).2 (.inr hj)
      · intro m y l' e hn hka hE
        by_cases hi : y.i = x.i
        · obtain ⟨e1, e2, _⟩ := pl.uniq e hsp hi
          subst e2; subst e1
          exact ⟨a, w.heap.size, X, uu, hX, Inj.add_same _ _ _ _, fun s hs => by rw [Inj.add_other _ _ _ _ (by omega)]; exact hnone s, by simp, fun f' hf z hz => (I.ev pl hG e hun' hdep hf z hz).mono hle⟩
        · have hg := pl.gNe e hsp hka hk hi
          refine (I.ahead.e1 m y l' e hn hka (hE.resolve_right hi)).mono hle (fun s => Inj.add_other _ _ _ _ (by omega)) fun B l hl hB => ?_
          have := I.sim.inw _ _ _ hl
          subst hB
          show (w.heap.push X)[l.b]? = _
          rw [Array.getElem?_push_lt this, Array.getElem?_eq_getElem this]
      · intro m y l' e hn hka hE s
        have hi : y.i ≠ x.i := fun hi => hE (.inr hi)
        have hg := pl.gNe e hsp hka hk hi
        rw [Inj.add_other _ _ _ _ (by omega)]
        exact I.ahead.e2 m y l' e hn hka (fun hE' => hE (.inl hE')) s
      · intro m y l' e hn hka hl f' hf hw
        rcases (hls _).1 hl with h1 | h1
        · exact .inl (I.ahead.e3 m y l' e hn hka h1 f' hf hw)
        · exact .inr h1
  | e =>
    have hlaz : ∀ y ∈ pre ++ l1, Lst listed y.i := fun y hy => I.anc pl hsp hdep _ (q2.lazy hk y (by simp only [List.mem_append, List.mem_reverse, List.append_nil] at hy ⊢; exact hy.symm))
    have hl1 : ∀ y ∈ l1, Lst listed y.i := fun y hy => hlaz y (List.mem_append_right _ hy)
    obtain ⟨f2, h2, tr2, at2, S2, g2, nx2, no2⟩ := adopt_seg (E := E) (Ls := Lst listed) hm hb pl l1 pre f h (by rw [I.plan, q1]) (fun y hy he => I.eff y (by rw [q1]; exact List.mem_append_left _ hy) he (hl1 y hy)) hl1 (q1 ▸ I.tr) I.at_ I.sim I.grows I.nx I.no I.ahead
    have hlen2 : pre.length ≤ (pre ++ l1 ++ [x]).length := by simp
    have hlen3 : (pre ++ l1).length ≤ (pre ++ l1 ++ [x]).length := by simp
    have hev2 := I.ev pl hG hsp hun' hdep at2
    have hnx2 : b + cntA L ≤ h2.nx := by rw [nx2]; exact I.nx
    have at3 : ∀ {v : AV} {h' : H} {sn' : List H}, Tr ⟨P, G, RT⟩ nt ops call b fe he l2 (f2.putD nt x.o.dst v) h' sn' → AtP nt f0 fe (pre ++ l1 ++ [x]) (f2.putD nt x.o.dst v) := fun tr' =>
      AtP.on (P := P) (ops := ops) (r := l2) hm (by rw [hsp] at pl; simpa using pl) at2 tr' fun t ht hd => by rw [putD_get ht hm, if_neg (hd x (List.mem_cons_self ..))]
    cases tr2 with
    | skip k1 _ _ => exact absurd hk k1
    | q k1 _ _ _ => rw [hk] at k1; cases k1
    | a k1 _ _ _ => rw [hk] at k1; cases k1
    | skipE k1 k2 k3 =>
      rw [if_neg (by rw [I.want pl hsp hun' hdep at2 k2]; decide)]
      have hu : ∀ t, x.o.dst = some t → t < nt → RV ι ((getC t).run fe) undef := fun t hd ht => by rw [fe_dst hm pl hsp k3 hd ht]; exact undef_rv ι
      exact ⟨unw, hK _ _ _ _ _ _ _ _ _ (I.listE pl hsp hdep hl1 q1 (Inj.le_refl ι) hu k3 (at3 k3) S2 g2 hnx2 (fun m y l' e hn => no2 m y l' e (Nat.le_trans hlen3 hn)) (I.ahead.less hlen2))⟩
    | @e _ _ _ _ h' _ v k1 k2 k3 k4 =>
      rw [if_pos (I.want pl hsp hun' hdep at2 k2)]
      refine eff_ok hcall k3 hG hev2 S2 fun u ι1 w1 S1 hu g1 => ?_
      have hu' : ∀ t, x.o.dst = some t → t < nt → RV ι1 ((getC t).run fe) u := fun t hd ht => by rw [fe_dst hm pl hsp k4 hd ht]; exact hu
      have hno2 : ∀ m y l', L = m ++ y :: l' → (pre ++ l1 ++ [x]).length ≤ m.length → y.kd = .a → b + y.g < h2.nx ∧ h2.obj (b + y.g) = .no := fun m y l' e hn hka => ⟨by have := pl.gLt e hka; omega, no2 m y l' e (Nat.le_trans hlen3 hn) hka⟩
      exact hK _ _ _ _ _ _ _ _ _ (I.listE pl hsp hdep hl1 q1 g1.ext hu' k4 (at3 k4) S1 (Grows.trans S0 g2 g1) (Nat.le_trans hnx2 g1.nx) (fun m y l' e hn hka => (g1.kept _ (hno2 m y l' e hn hka).1 (hno2 m y l' e hn hka).2).1) ((I.ahead.less hlen2).grows S2 g1 hno2))
end
section
variable {P : Program} {RT : List Rule} [RulesOk P RT] {G : Nat → AV} {nt : Nat} {rd : Option Nat} {ops : Array Oper} {call : CallT} {pb : FuncId → Bool} {lo : Nat} {b : Nat} {f0 fe : Fr} {he : H} {L : List PI} {ι ι' ι0 : Inj} {h0 : H} {w w' w0 : World} {ds : List Deferred}
theorem first_not {α : Type} (p : α → Prop) : ∀ l : List α, (∀ y ∈ l, p y) ∨ ∃ m y l2, l = m ++ y :: l2 ∧ (∀ z ∈ m, p z) ∧ ¬ p y
  | [] => .inl fun _ h => by cases h
  | x :: l => by
    by_cases hx : p x
    · rcases first_not p l with h | ⟨m, y, l2, h1, h2, h3⟩
      · left
        intro y hy
        rcases List.mem_cons.1 hy with rfl | hy
        · exact hx
        · exact h y hy
      · right
        refine ⟨x :: m, y, l2, by rw [h1]; rfl, fun z hz => ?_, h3⟩
        rcases List.mem_cons.1 hz with rfl | hz
        · exact hx
        · exact h2 z hz
    · exact .inr ⟨[], x, l, rfl, fun _ h => (by cases h), hx⟩
theorem filter_less {α : Type} {p q : α → Bool} {x : α} : ∀ {l : List α}, (∀ y, q y = true → p y = true) → x ∈ l → p x = true → q x = false → (l.filter q).length + 1 ≤ (l.filter p).length
  | [], _, h, _, _ => by cases h
  | y :: l, hq, h, hp, hn => by
    have hle : (l.filter q).length ≤ (l.filter p).length := by
      clear h
      induction l with
      | nil => exact Nat.le_refl _
      | cons z l ih =>
        rw [List.filter_cons, List.filter_cons]
        cases h1 : q z with
        | true => rw [hq z h1]; simpa using ih
        | false => cases h2 : p z <;> simp <;> omega
    rw [List.filter_cons, List.filter_cons]
    rcases List.mem_cons.1 h with rfl | h
    · rw [hp, hn]; simpa using hle
    · have ih := filter_less hq h hp hn
      cases h1 : q y with
      | true => rw [hq y h1]; simpa using ih
      | false => cases h2 : p y <;> simp <;> omega
def leftN (ops : Array Oper) (listed : Array Bool) : Nat := ((List.range ops.size).filter fun j => !listed.getD j true).length
variable {listed : Array Bool} {a : Act} {pre rest : List PI} {f : Fr} {h : H} {sn : List H} {E : Nat → Prop} {k : Fr → H → RS} {r : RS}
theorem Inv.done (I : Inv P RT G nt ops call b f0 fe he L ι0 h0 w0 ds listed a w pre rest ι f h sn E) (pl : PlanOk P ops L []) (hm : nt ≤ 576) (hb : h0.nx ≤ b) (D : DefOk lo ι0 w0 ds) (hk : k fe he = r) (hready : Region.ready .any ops listed = []) : CodeP lo nt ι0 h0 w0 k r .normal a w := by
  have hall : ∀ y ∈ L, Lst listed y.i := by
    rcases first_not (fun y : PI => Lst listed y.i) L with q | ⟨m, y, l2, h1, h2, h3⟩
    · exact q
    · have hit := PlanOk.item (h1 ▸ pl)
      have hlt := pl.lt y (by rw [h1]; simp)
      have : y.i ∈ Region.ready .any ops listed := by
        refine mem_ready.2 ⟨?_, y.o, hit.at_, fun e he hbd => ?_⟩
        · have hs : y.i < listed.size := by rw [I.lsize]; exact hlt
          unfold Lst at h3
          simp only [Array.getD, hs, dif_pos] at h3 ⊢
          simpa using h3
        · obtain ⟨z, hz, ez⟩ := hit.deps e.on ⟨e, by simpa using he, hbd, rfl⟩
          have := h2 z (by simpa using hz)
          rw [ez] at this
          exact this
      rw [hready] at this; cases this
  have hr : ∀ y ∈ rest, Lst listed y.i := fun y hy => hall y (by rw [I.plan]; exact List.mem_append_right _ hy)
  obtain ⟨f2, h2, tr2, at2, S2, g2, _, _⟩ := adopt_seg (E := E) (Ls := Lst listed) (rest := []) hm hb pl rest pre f h (by rw [I.plan]; simp) (fun y hy hk => I.eff y hy hk (hr y hy)) hr (by simpa using I.tr) I.at_ I.sim I.grows I.nx I.no I.ahead
  cases tr2
  refine ⟨fe, he, ι, S2, ⟨I.size, hm, fun t ht => ?_⟩, g2, by rw [I.defers]; exact D.grows g2, hk⟩
  by_cases hh : ∃ y ∈ L, y.o.dst = some t
  · obtain ⟨y, hy, e⟩ := hh
    exact I.t1 y hy (hall y hy) t e ht
  · have hn : ∀ y ∈ L, y.o.dst ≠ some t := fun y hy e => hh ⟨y, hy, e⟩
    rw [(at2 t ht).2 fun y hy => hn y (by rw [I.plan]; exact hy)]
    exact I.t2 t ht fun y hy _ => hn y hy
theorem Inv.any (hcall : CallOk P G pb call) (pl : PlanOk P ops L []) (hG0 : GlobOk G ι0) (hm : nt ≤ 576) (hb : h0.nx ≤ b) (S0 : Sim ι0 h0 w0) (D : DefOk lo ι0 w0 ds) (hk : k fe he = r) : ∀ (fuel : Nat) {listed : Array Bool} {a : Act} {w : World} {pre rest : List PI} {ι : Inj} {f : Fr} {h : H} {sn : List H} {E : Nat → Prop},
    Inv P RT G nt ops call b f0 fe he L ι0 h0 w0 ds listed a w pre rest ι f h sn E → leftN ops listed ≤ fuel → wpAnyIn (Wd rd) 0 P .any ops (CodeP lo nt ι0 h0 w0 k r) fuel listed a w
  | 0, listed, a, w, pre, rest, ι, f, h, sn, E, I, hn => by
    have hr : Region.ready .any ops listed = [] := by
      rw [List.eq_nil_iff_forall_not_mem]
      intro j hj
      obtain ⟨h1, o, h2, _⟩ := mem_ready.1 hj
      have hlt : j < ops.size := (Array.getElem?_eq_some_iff.1 h2).1
      have : j ∈ (List.range ops.size).filter fun j => !listed.getD j true := List.mem_filter.2 ⟨List.mem_range.2 hlt, by rw [h1]; rfl⟩
      have := List.length_pos_of_mem this
      unfold leftN at hn
      omega
    exact ⟨hr, I.done pl hm hb D hk hr⟩
  | fuel + 1, listed, a, w, pre, rest, ι, f, h, sn, E, I, hn => by
    refine ⟨fun hr => I.done pl hm hb D hk hr, fun i hi => I.take hcall pl hG0 hm hb S0 hi fun a' w' pre' rest' ι' f' h' sn' E' I' => Inv.any hcall pl hG0 hm hb S0 D hk fuel I' ?_⟩
    obtain ⟨h1, o, h2, _⟩ := mem_ready.1 hi
    have hlt : i < ops.size := (Array.getElem?_eq_some_iff.1 h2).1
    have := filter_less (p := fun j => !listed.getD j true) (q := fun j => !(listed.setIfInBounds i true).getD j true) (x := i) (l := List.range ops.size) (fun y hy => ?_) (List.mem_range.2 hlt) (by rw [h1]; rfl) (by simp [I.lsize, hlt])
    · unfold leftN at hn ⊢; omega
    · by_cases e : i = y
      · subst e; simp [I.lsize, hlt] at hy
      · rw [getD_set_ne true e] at hy; exact hy
/-- A region that draws its order. -/
theorem draw_ok (hcall : CallOk P G pb call) {N id : Nat} (n : RS.bad ≠ r) (hr : (regionD ⟨P, G, RT⟩ nt ops).run call N f h k = r) (hG : GlobOk G ι) (F : FrameRel nt ι f a.tmps) (S : Sim ι h w) (D : DefOk lo ι w a.defers) :
    (Code.region id ops true).wpIn (Wd rd) 0 P (CodeP lo nt ι h w k r) a w := by
  unfold regionD at hr
  cases hf : P.follows .mixedOrders with
  | false => simp only [hf, cond_false] at hr; exact absurd hr n
  | true =>
    simp only [hf, cond_true] at hr
    cases hp : planned P ops (planOf P ops) [] with
    | none => simp only [hp] at hr; exact absurd hr n
    | some L =>
      simp only [hp] at hr
      have hr : reserve (cntA L) (fun h' => (drawC ⟨P, G, RT⟩ nt ops L).run call h.nx f h' [h'] k) h = r := hr
      have pl := planned_ok _ _ _ hp
      obtain ⟨h', e1, e2, e3, e4, e5, _⟩ := reserve_ok n (cntA L) h hr (S.drawn (w' := { w with drawn := w.drawn + 1 }) rfl) (Grows.drawn (ι := ι) (h := h) (w := w) rfl ⟨rfl, rfl, rfl⟩)
      obtain ⟨fe, he, tr, hk⟩ := drawC_tr n L f h' [h'] e1
      refine wpIn_region_any hf (Inv.any (RT := RT) (b := h.nx) (f0 := f) (fe := fe) (he := he) (L := L) (ds := a.defers) (sn := []) (pre := []) (rest := L) (ι := ι) (f := f) (h := h') (E := fun _ => False) hcall pl hG F.most (Nat.le_refl _) S D hk ops.size ?_ ?_)
      · have hun : ∀ j, ¬ Lst (Array.replicate ops.size false) j := by
          intro j hj
          unfold Lst at hj
          by_cases hlt : j < ops.size
          · simp [Array.getD, hlt] at hj
          · simp [Array.getD, hlt] at hj
        refine ⟨rfl, fun y hy => (by cases hy), fun y _ _ => hun y.i, tr, fun t _ => ⟨fun ⟨y, hy, _⟩ => (by cases hy), fun _ => rfl⟩, e2, e3, fun i o _ hi => absurd hi (hun i), F.size, by simp, rfl, fun y _ hl => absurd hl (hun y.i), fun t ht _ => F.get t ht, by omega, fun m x l2 e _ hka => e5 _ (by omega) (by have := pl.gLt e hka; omega), ⟨fun _ h => h.elim, fun _ _ _ _ _ _ h => h.elim, fun m x l2 e _ hka _ s => S.beyond _ s (by omega), fun m x l2 _ _ _ hl => absurd hl (hun x.i)⟩⟩
      · unfold leftN
        exact Nat.le_trans (List.length_filter_le _ _) (by simp)
end
section
variable {F : Fence} {n : Nat} {P : Program} {Q : Exit → Act → World → Prop} {a : Act} {w : World}
theorem stepR_scope_ {b : Frame} {k : List Item} {cs : List Frame} {c : Code} : step P (lone (b.atR a (.code (.scope c) :: k)) cs w) = .next (lone (b.atR a (.code c :: .inScope c :: k)) cs w) :=
  step_lone_go (by simp [stepG, stepG.exec, Frame.atR])
theorem stepR_inScope_ {b : Frame} {k : List Item} {cs : List Frame} {c : Code} : step P (lone (b.atR a (.inScope c :: k)) cs w) = .next (lone (b.atR a k) cs w) :=
  step_lone_go (by simp [stepG, stepG.exec, Frame.atR])
/-- Runs within a scope, by its jumps. -/
def jumpsIn (F : Fence) (n : Nat) (P : Program) (c : Code) (Q : Exit → Act → World → Prop) : Nat → Code → Act → World → Prop
  | 0, _, _, _ => False
  | m + 1, x, a, w => x.wpIn F n P (fun e a w => match e with | .goto l => (match findLabel c l with | some r => jumpsIn F n P c Q m r a w | none => Q (.goto l) a w) | e => Q e a w) a w
theorem scope_arr {c : Code} : ∀ (m : Nat) (x : Code) (a : Act) (w : World), jumpsIn F n P c Q m x a w → ∀ (b : Frame) (k : List Item) (cs : List Frame), b.roundOf = F.round → F.fn b.fn → F.room (cs.length + 1 + n) →
    ∃ e a' w', Q e a' w' ∧ ArrivesIn (Machine.fenced P F) P (lone (b.atR a (.code x :: .inScope c :: k)) cs w) b k cs e a' w'
  | 0, _, _, _, h => h.elim
  | m + 1, x, a, w, h => by
    intro b k cs hro hb hr
    have h : x.wpIn F n P (fun e a w => match e with | .goto l => (match findLabel c l with | some r => jumpsIn F n P c Q m r a w | none => Q (.goto l) a w) | e => Q e a w) a w := h
    obtain ⟨e, a₁, w₁, hq, harr⟩ := h b (.inScope c :: k) cs hro hb hr
    cases e with
    | normal => exact ⟨.normal, a₁, w₁, hq, StepsIn.trans harr (.one (fenced_calm hb hr rfl) stepR_inScope_)⟩
    | exit id =>
      have hx : ∀ {k'}, exitTo id k = some k' → exitTo id (.inScope c :: k) = some k' := fun hk => by simpa [exitTo] using hk
      have hx' : exitTo id k = none → exitTo id (.inScope c :: k) = none := fun hk => by simpa [exitTo] using hk
      exact ⟨.exit id, a₁, w₁, hq, fun k' hk => harr.1 k' (hx hk), fun hr' hk => harr.2 hr' (hx' hk)⟩
    | goto l =>
      have hq : (match findLabel c l with | some r => jumpsIn F n P c Q m r a₁ w₁ | none => Q (.goto l) a₁ w₁) := hq
      cases hf : findLabel c l with
      | some r =>
        rw [hf] at hq
        have hg : gotoIn l (.inScope c :: k) = some (.code r :: .inScope c :: k) := by simp [gotoIn, hf]
        obtain ⟨e2, a2, w2, hq2, harr2⟩ := scope_arr m r a₁ w₁ hq b k cs hro hb hr
        exact ⟨e2, a2, w2, hq2, .of_steps (harr.1 _ hg) harr2⟩
      | none =>
        rw [hf] at hq
        have hg : gotoIn l (.inScope c :: k) = gotoIn l k := by simp [gotoIn, hf]
        exact ⟨.goto l, a₁, w₁, hq, fun k' hk => harr.1 k' (hg.trans hk), fun hr' hk => harr.2 hr' (hg.trans hk)⟩
    | ret => exact ⟨_, a₁, w₁, hq, harr⟩
    | panic ch => exact ⟨_, a₁, w₁, hq, harr⟩
    | outgrown => exact ⟨_, a₁, w₁, hq, harr⟩
theorem wpIn_scope_ {c : Code} (m : Nat) (h : jumpsIn F n P c Q m c a w) : (Code.scope c).wpIn F n P Q a w := by
  intro b k cs hro hb hr
  obtain ⟨e, a₁, w₁, hq, harr⟩ := scope_arr m c a w h b k cs hro hb hr
  exact ⟨e, a₁, w₁, hq, .of_steps (.one (fenced_calm hb hr rfl) stepR_scope_) harr⟩
end
section
variable {P : Program} {RT : List Rule} [RulesOk P RT] {G : Nat → AV} {nt : Nat} {call : CallT} {pb : FuncId → Bool} {lo : Nat}
/-- The interpreter is sound on this code. -/
def SoundC (P : Program) (RT : List Rule) (G : Nat → AV) (pb : FuncId → Bool) (nt lo N : Nat) (rd : Bool) (fr : Option Nat) (call : CallT) (c : Code) : Prop := ∀ {ι : Inj} {f : Fr} {h : H} {a : Act} {w : World} {k : Fr → H → RS} {r : RS}, RS.bad ≠ r → (codeC ⟨P, G, RT⟩ pb nt rd c).run call N f h k = r → GlobOk G ι → FrameRel nt ι f a.tmps → Sim ι h w → DefOk lo ι w a.defers →
    c.wpIn (Wd fr) 0 P (CodeP lo nt ι h w k r) a w
theorem lookO_map (b : CodeC) (bs : List (Nat × CodeC)) (l : Nat) : ∀ ls : List (Nat × CodeC), lookO (mapLS b bs ls) l = (match lookO ls l with | some r => some (seqCC r b) | none => lookO bs l)
  | [] => rfl
  | p :: ls => by
    show eqN p.1 l (some (seqCC p.2 b)) (lookO (mapLS b bs ls) l) = (match eqN p.1 l (some p.2) (lookO ls l) with | some r => some (seqCC r b) | none => lookO bs l)
    rw [eqN_eq, eqN_eq, lookO_map b bs l ls]
    by_cases h : p.1 = l
    · rw [if_pos h, if_pos h]
    · rw [if_neg h, if_neg h]
theorem look_ok (T : Ty) (rd : Bool) (l : Nat) : ∀ c : Code, lookO (codeL T pb nt rd c).ls l = (findLabel c l).map (codeC T pb nt rd) := by
  intro c
  induction c with
  | seq x y ihx ihy =>
    show lookO (mapLS (codeL T pb nt rd y).c (codeL T pb nt rd y).ls (codeL T pb nt rd x).ls) l = _
    rw [lookO_map, ihx, ihy]
    cases hx : findLabel x l with
    | some r => simp only [findLabel, hx, Option.map_some]; rfl
    | none => simp only [findLabel, hx, Option.map_none]
  | label l' =>
    show eqN l' l (some skipC) none = _
    rw [eqN_eq]
    by_cases h : l' = l
    · subst h; simp [findLabel]; rfl
    · simp [findLabel, h]
  | _ => rfl
theorem seq_sound {N : Nat} {rd : Bool} {fr : Option Nat} {x y : Code} (hx : SoundC P RT G pb nt lo N rd fr call x) (hy : SoundC P RT G pb nt lo N rd fr call y) : SoundC P RT G pb nt lo N rd fr call (.seq x y) := by
  intro ι f h a w k r n hr hG F S D
  refine wpIn_seq (wpIn_mono (hx n hr hG F S D) fun e a1 w1 hp => ?_)
  obtain ⟨f1, h1, ι1, S1, F1, g1, D1, he⟩ := hp
  cases e with
  | normal => exact wpIn_mono (hy n he (hG.mono g1.ext) F1 S1 D1) fun e a2 w2 hp => hp.after S g1
  | exit i => exact ⟨f1, h1, ι1, S1, F1, g1, D1, he⟩
  | goto l => exact ⟨f1, h1, ι1, S1, F1, g1, D1, he⟩
  | ret => exact ⟨f1, h1, ι1, S1, F1, g1, D1, he⟩
  | panic _ => exact he.elim
  | outgrown => exact he.elim
theorem skip_sound {N : Nat} {rd : Bool} {fr : Option Nat} : SoundC P RT G pb nt lo N rd fr call .skip := by
  intro ι f h a w k r n hr hG F S D
  exact wpIn_skip ⟨f, h, ι, S, F, Grows.refl ι h w, D, hr⟩
/-- Jumps within a scope. -/
theorem jumps_ok {N : Nat} {rd : Bool} {fr : Option Nat} {b : Code} (hl : ∀ l x, findLabel b l = some x → SoundC P RT G pb nt lo N rd fr call x) {ι0 : Inj} {h0 : H} {w0 : World} (S0 : Sim ι0 h0 w0) {k : Fr → H → RS} {r : RS} (n : RS.bad ≠ r) (hG : GlobOk G ι0) : ∀ (m : Nat) (x : Code) {ι : Inj} {f : Fr} {h : H} {a : Act} {w : World},
    SoundC P RT G pb nt lo N rd fr call x → jumpC (codeL ⟨P, G, RT⟩ pb nt rd b).ls call N k m (codeC ⟨P, G, RT⟩ pb nt rd x) f h = r → FrameRel nt ι f a.tmps → Sim ι h w → Grows ι0 h0 w0 ι h w → DefOk lo ι w a.defers → jumpsIn (Wd fr) 0 P b (CodeP lo nt ι0 h0 w0 k r) m x a w
  | 0, x, ι, f, h, a, w, hx, hr, F, S, g, D => absurd hr n
  | m + 1, x, ι, f, h, a, w, hx, hr, F, S, g, D => by
    have hr : onRS ((codeC ⟨P, G, RT⟩ pb nt rd x).run call N f h fun f h => .ok .normal f h) (fun e f h => onE e (k f h) (fun i => .ok (.exit i) f h) (fun l => Option.rec (motive := fun _ => RS) (.ok (.goto l) f h) (fun r => jumpC (codeL ⟨P, G, RT⟩ pb nt rd b).ls call N k m r f h) (lookO (codeL ⟨P, G, RT⟩ pb nt rd b).ls l)) (.ok .ret f h)) .bad = r := hr
    obtain ⟨e0, f0, h0', eb, hr⟩ := onRS_inv hr n
    rw [onE_def] at hr
    show x.wpIn (Wd fr) 0 P _ a w
    refine wpIn_mono (hx (fun hh => by cases hh) eb (hG.mono g.ext) F S D) fun e a1 w1 hp => ?_
    obtain ⟨f1, h1, ι1, S1, F1, g1, D1, he⟩ := hp
    have gg := Grows.trans S0 g g1
    cases e with
    | normal =>
      injection he with q1 q2 q3
      subst q1 q2 q3
      exact ⟨f1, h1, ι1, S1, F1, gg, D1, hr⟩
    | exit i =>
      injection he with q1 q2 q3
      subst q1 q2 q3
      exact ⟨f1, h1, ι1, S1, F1, gg, D1, hr⟩
    | goto l =>
      injection he with q1 q2 q3
      subst q1 q2 q3
      have hr : Option.rec (motive := fun _ => RS) (.ok (.goto l) f1 h1) (fun r => jumpC (codeL ⟨P, G, RT⟩ pb nt rd b).ls call N k m r f1 h1) (lookO (codeL ⟨P, G, RT⟩ pb nt rd b).ls l) = r := hr
      rw [look_ok] at hr
      show (match findLabel b l with | some r' => jumpsIn (Wd fr) 0 P b (CodeP lo nt ι0 h0 w0 k r) m r' a1 w1 | none => CodeP lo nt ι0 h0 w0 k r (.goto l) a1 w1)
      cases hf : findLabel b l with
      | some x' =>
        rw [hf] at hr
        exact jumps_ok hl S0 n hG m x' (hl l x' hf) hr F1 S1 gg D1
      | none =>
        rw [hf] at hr
        exact ⟨f1, h1, ι1, S1, F1, gg, D1, hr⟩
    | ret =>
      injection he with q1 q2 q3
      subst q1 q2 q3
      exact ⟨f1, h1, ι1, S1, F1, gg, D1, hr⟩
    | panic _ => exact he.elim
    | outgrown => exact he.elim
theorem code_sound (hcall : CallOk P G pb call) {N : Nat} {rd : Bool} {fr : Option Nat} (hfr : rd = false → fr = none) : ∀ (c : Code), SoundC P RT G pb nt lo N rd fr call c ∧ ∀ l x, findLabel c l = some x → SoundC P RT G pb nt lo N rd fr call x := by
  intro c
  induction c with
  | skip =>
    refine ⟨?_, fun l z hz => (by cases hz)⟩
    intro ι f h a w k r n hr hG F S D
    exact wpIn_skip ⟨f, h, ι, S, F, Grows.refl ι h w, D, hr⟩
  | region id ops draw =>
    refine ⟨?_, fun l z hz => (by cases hz)⟩
    intro ι f h a w k r n hr hG F S D
    cases draw with
    | true => exact draw_ok hcall n hr hG F S D
    | false => exact wpIn_region_list (seq_ok hcall n S ops.toList hr hG F S D (Grows.refl ι h w))
  | seq x y ihx ihy =>
    refine ⟨seq_sound ihx.1 ihy.1, fun l z hz => ?_⟩
    cases hx : findLabel x l with
    | some q =>
      simp only [findLabel, hx] at hz
      cases hz
      exact seq_sound (ihx.2 l q hx) ihy.1
    | none =>
      simp only [findLabel, hx] at hz
      exact ihy.2 l z hz
  | cond c x y ihx ihy =>
    refine ⟨?_, fun l z hz => (by cases hz)⟩
    intro ι f h a w k r n hr hG F S D
    obtain ⟨b, ec, hr⟩ := AV.onBool_inv (hr : ((evO G nt c).run f).onBool _ .bad = r) n
    have hcv := evO_rv hG F c
    rw [ec] at hcv
    rw [ifB_eq] at hr
    refine wpIn_cond_split (rv_bool hcv) (fun hb => ?_) (fun hb => ?_)
    · subst hb; exact ihx.1 n hr hG F S D
    · subst hb; exact ihy.1 n hr hG F S D
  | block id b ih =>
    refine ⟨?_, fun l z hz => (by cases hz)⟩
    intro ι f h a w k r n hr hG F S D
    obtain ⟨e0, f0, h0, eb, hr⟩ := onRS_inv (hr : onRS ((codeC ⟨P, G, RT⟩ pb nt rd b).run call N f h fun f h => .ok .normal f h) _ .bad = r) n
    rw [onE_def] at hr
    refine wpIn_block (wpIn_mono (ih.1 (fun hh => by cases hh) eb hG F S D) fun e a1 w1 hp => ?_)
    obtain ⟨f1, h1, ι1, S1, F1, g1, D1, he⟩ := hp
    cases e with
    | normal =>
      injection he with q1 q2 q3
      subst q1 q2 q3
      exact ⟨f1, h1, ι1, S1, F1, g1, D1, hr⟩
    | exit i =>
      injection he with q1 q2 q3
      subst q1 q2 q3
      have hr : eqN i id (k f1 h1) (RS.ok (.exit i) f1 h1) = r := hr
      rw [eqN_eq] at hr
      by_cases hi : i = id
      · rw [if_pos hi] at hr
        simp only [Exit.inBlock, hi, if_true]
        exact ⟨f1, h1, ι1, S1, F1, g1, D1, hr⟩
      · rw [if_neg hi] at hr
        simp only [Exit.inBlock, hi, if_false]
        exact ⟨f1, h1, ι1, S1, F1, g1, D1, hr⟩
    | goto l =>
      injection he with q1 q2 q3
      subst q1 q2 q3
      exact ⟨f1, h1, ι1, S1, F1, g1, D1, hr⟩
    | ret =>
      injection he with q1 q2 q3
      subst q1 q2 q3
      exact ⟨f1, h1, ι1, S1, F1, g1, D1, hr⟩
    | panic _ => exact he.elim
    | outgrown => exact he.elim
  | loop b ih =>
    refine ⟨?_, fun l z hz => (by cases hz)⟩
    intro ι f h a w k r n hr hG F S D
    have hr : iterC (codeC ⟨P, G, RT⟩ pb nt rd b) call N N f h = r := hr
    have key : ∀ (m : Nat) (f' : Fr) (h' : H) (ι' : Inj) (a' : Act) (w' : World), iterC (codeC ⟨P, G, RT⟩ pb nt rd b) call N m f' h' = r → Sim ι' h' w' → FrameRel nt ι' f' a'.tmps → Grows ι h w ι' h' w' → DefOk lo ι' w' a'.defers → Code.roundsIn (Wd fr) 0 P b (CodeP lo nt ι h w k r) m a' w' := by
      intro m
      induction m with
      | zero => intro f' h' ι' a' w' hr' _ _ _ _; exact absurd hr' n
      | succ m ihm =>
        intro f' h' ι' a' w' hr' S' F' g' D'
        have hr' : (codeC ⟨P, G, RT⟩ pb nt rd b).run call N f' h' (iterC (codeC ⟨P, G, RT⟩ pb nt rd b) call N m) = r := hr'
        rw [roundsIn_succ]
        refine wpIn_mono (ih.1 n hr' (hG.mono g'.ext) F' S' D') fun e a1 w1 hp => ?_
        obtain ⟨f1, h1, ι1, S1, F1, g1, D1, he⟩ := hp
        have gg := Grows.trans S g' g1
        cases e with
        | normal => exact ihm f1 h1 ι1 a1 w1 he S1 F1 gg D1
        | exit i => exact ⟨f1, h1, ι1, S1, F1, gg, D1, he⟩
        | goto l => exact ⟨f1, h1, ι1, S1, F1, gg, D1, he⟩
        | ret => exact ⟨f1, h1, ι1, S1, F1, gg, D1, he⟩
        | panic _ => exact he.elim
        | outgrown => exact he.elim
    exact wpIn_loop_rounds N (key N f h ι a w hr S F (Grows.refl ι h w) D)
  | rangeFunc g ps assign body _ _ =>
    refine ⟨?_, fun l z hz => (by cases hz)⟩
    intro ι f h a w k r n hr hG F S D
    cases rd with
    | true => exact absurd hr n
    | false => rw [hfr rfl]; exact range_ok hcall n hr hG F S D
  | exit i =>
    refine ⟨?_, fun l z hz => (by cases hz)⟩
    intro ι f h a w k r n hr hG F S D
    exact wpIn_exit ⟨f, h, ι, S, F, Grows.refl ι h w, D, hr⟩
  | scope b ih =>
    refine ⟨?_, fun l z hz => (by cases hz)⟩
    intro ι f h a w k r n hr hG F S D
    exact wpIn_scope_ (N + 1) (jumps_ok ih.2 S n hG (N + 1) b ih.1 hr F S (Grows.refl ι h w) D)
  | label l =>
    refine ⟨?_, fun l' z hz => ?_⟩
    · intro ι f h a w k r n hr hG F S D
      exact wpIn_label ⟨f, h, ι, S, F, Grows.refl ι h w, D, hr⟩
    · simp only [findLabel] at hz
      split at hz
      · cases hz; exact skip_sound
      · cases hz
  | goto l =>
    refine ⟨?_, fun l z hz => (by cases hz)⟩
    intro ι f h a w k r n hr hG F S D
    exact wpIn_goto ⟨f, h, ι, S, F, Grows.refl ι h w, D, hr⟩
  | ret =>
    refine ⟨?_, fun l z hz => (by cases hz)⟩
    intro ι f h a w k r n hr hG F S D
    exact wpIn_ret ⟨f, h, ι, S, F, Grows.refl ι h w, D, hr⟩
  | refuse why =>
    refine ⟨?_, fun l z hz => (by cases hz)⟩
    intro ι f h a w k r n hr hG F S D
    exact absurd hr n
theorem code_ok (hcall : CallOk P G pb call) {N : Nat} {rd : Bool} {fr : Option Nat} (hfr : rd = false → fr = none) (c : Code) {ι : Inj} {f : Fr} {h : H} {a : Act} {w : World} {k : Fr → H → RS} {r : RS} (n : RS.bad ≠ r) (hr : (codeC ⟨P, G, RT⟩ pb nt rd c).run call N f h k = r) (hG : GlobOk G ι) (F : FrameRel nt ι f a.tmps) (S : Sim ι h w) (D : DefOk lo ι w a.defers) :
    c.wpIn (Wd fr) 0 P (CodeP lo nt ι h w k r) a w := (code_sound hcall hfr c).1 n hr hG F S D
end
/-! ### Calls -/
section
variable {P : Program} {RT : List Rule} [RulesOk P RT] {G : Nat → AV} {nt : Nat} {call : CallT} {pb : FuncId → Bool} {lo : Nat}
/-- A block that stands for nothing may change. -/
theorem Sim.other {ι : Inj} {h : H} {w : World} (S : Sim ι h w) {b : Nat} {o : Obj} (hb : ∀ g s l, ι g s = some l → l.b ≠ b) {w' : World} (hw : w'.heap = w.heap.setIfInBounds b o) : Sim ι h w' := by
  have hat : ∀ b', b ≠ b' → w'.heap[b']? = w.heap[b']? := fun b' hne => by rw [hw, Array.getElem?_setIfInBounds, if_neg hne]
  exact ⟨S.nx, S.beyond, S.inj, fun g s l hl => by rw [hw]; simpa using S.inw g s l hl, fun g hg => objOk_keep (S.obj g hg) (Inj.le_refl ι) (fun _ => rfl) (fun s l hl => hat _ (Ne.symm (hb g s l hl)))⟩
theorem takeDeferred_run {w : World} {r : Nat} (h : w.heap[r]? = some (.deferred (some []))) : (Instr.takeDeferred r).run P w = .ok [] { w with heap := w.heap.setIfInBounds r (.deferred none) } := by
  simp only [Instr.takeDeferred, getObj, setObj, Sem.run_bind, Sem.run, h, Result.andThen, Sem.run_pure]
theorem leave_ok {ι0 ι1 : Inj} {h0 h1 : H} {w0 : World} {fn : Func} {tmps : Array Value} {R : Ending → World → Prop} : ∀ (ds : List Deferred) (w1 : World), Sim ι1 h1 w1 → Grows ι0 h0 w0 ι1 h1 w1 → DefL w0.heap.size ι1 w1 ds →
    (∀ w2, Sim ι1 h1 w2 → Grows ι0 h0 w0 ι1 h1 w2 → ∃ v, (results fn tmps).run P w2 = .ok v w2 ∧ R (.returned v) w2) → LeavesInM (Wd none) 0 P fn tmps R ds .returning w1
  | [], w1, S, g, _, K => K w1 S g
  | d :: ds, w1, S, g, D, K => by
    cases D with
    | @cons _ _ r e1 e2 e3 e4 e5 e6 D =>
    refine ⟨by simp, .inl ⟨r, { w1 with heap := w1.heap.setIfInBounds r (.deferred none) }, e1, takeDeferred_run e4, ?_⟩⟩
    have hat : ∀ b', r ≠ b' → (w1.heap.setIfInBounds r (Obj.deferred none))[b']? = w1.heap[b']? := fun b' hne => by rw [Array.getElem?_setIfInBounds, if_neg hne]
    refine leave_ok ds _ (S.other e5 (o := .deferred none) rfl) ⟨g.ext, g.nx, by simpa using g.size, g.fresh, g.old, fun b hb hn => ?_, g.kept, g.streams⟩ ?_ K
    · rw [hat b (by omega)]; exact g.keep b hb hn
    · have : ∀ {ds : List Deferred}, DefL w0.heap.size ι1 w1 ds → (∀ d' ∈ ds, d'.target ≠ .collected r) → DefL w0.heap.size ι1 { w1 with heap := w1.heap.setIfInBounds r (.deferred none) } ds := by
        intro ds hds
        induction hds with
        | nil => intro _; exact .nil
        | cons f1 f2 f3 f4 f5 f6 _ ih =>
          rename_i d' ds' r' _
          intro hh
          have hne : r ≠ r' := by
            rintro rfl
            exact hh d' (List.mem_cons_self ..) f1
          exact .cons f1 f2 (by simpa using f3) ((hat _ hne).trans f4) f5 f6 (ih fun d'' hd'' => hh d'' (List.mem_cons_of_mem _ hd''))
      exact this D e6
/-- What results come to. -/
theorem resL_ok {ι : Inj} {f : Fr} {h : H} {w : World} {tmps : Array Value} {r : R2} (n : R2.bad ≠ r) (F : FrameRel nt ι f tmps) (S : Sim ι h w) : ∀ (rs : List ResultVar) (k : List AV → R2), (resL ⟨P, G, RT⟩ nt rs).run f h k = r →
    ∃ us vs, (rs.mapM fun
      | .tmp t => pure (tmps.getD t undef)
      | .cell a t => do loadVar t (← asAddr (tmps.getD a undef)) : Sem (List Value)).run P w = .ok us w ∧ RVL ι vs us ∧ k vs = r
  | [], k, hr => ⟨[], [], by simp [Sem.run_pure], .nil, hr⟩
  | x :: rs, k, hr => by
    have hr : (resA ⟨P, G, RT⟩ nt x).run f h (fun v => (resL ⟨P, G, RT⟩ nt rs).run f h fun l => k (v :: l)) = r := hr
    have tmp : ∀ t, RV ι ((evO G nt (.tmp t)).run f) (tmps.getD t undef) := fun t => by
      unfold evO
      simp only [le_eq]
      by_cases ht : t < nt
      · rw [if_pos (Nat.succ_le_of_lt ht)]; exact F.get t ht
      · rw [if_neg (show ¬ Nat.succ t ≤ nt from fun hh => ht hh)]
        have : tmps.getD t undef = undef := by simp [Array.getD, F.size, ht]
        rw [this]; exact undef_rv ι
    have go : ∃ u v, (match x with
      | .tmp t => pure (tmps.getD t undef)
      | .cell a t => do loadVar t (← asAddr (tmps.getD a undef)) : Sem Value).run P w = .ok u w ∧ RV ι v u ∧ ((resL ⟨P, G, RT⟩ nt rs).run f h fun l => k (v :: l)) = r := by
      cases x with
      | tmp t => exact ⟨_, _, Sem.run_pure .., tmp t, hr⟩
      | cell a t =>
        unfold resA at hr
        cases hb : (Ty.mk P G RT).aggB t with
        | none => simp only [hb] at hr; exact absurd hr n
        | some b =>
          simp only [hb] at hr
          obtain ⟨v, cv, e1, e2, e3⟩ := loadAt_ok (P := P) (w := w) hb (k := fun v => (resL ⟨P, G, RT⟩ nt rs).run f h fun l => k (v :: l)) (p := (evO G nt (.tmp a)).run f) (by cases b <;> exact hr) n S (tmp a)
          refine ⟨v, cv, ?_, e2, e3⟩
          have hpt : ∃ A, tmps.getD a undef = .pointer (some A) := by
            have ht := tmp a
            have hsh : ∃ g e i u, (evO G nt (.tmp a)).run f = .ptr g e i u := by
              cases b with
              | true =>
                obtain ⟨g, e, i, u, ex, _⟩ := AV.onPtr_inv (show AV.onPtr _ _ R2.bad = r from hr) n
                exact ⟨g, e, i, u, ex⟩
              | false =>
                obtain ⟨g, e, i, u, ex, _⟩ := AV.onPtr_inv (show AV.onPtr _ _ R2.bad = r from hr) n
                exact ⟨g, e, i, u, ex⟩
            obtain ⟨g, e, i, u, ex⟩ := hsh
            rw [ex] at ht
            generalize tmps.getD a undef = y at ht
            cases ht
            exact ⟨_, rfl⟩
          obtain ⟨A, hA⟩ := hpt
          rw [hA] at e1
          simp only [hA]
          exact e1
    obtain ⟨u, v, e1, e2, e3⟩ := go
    obtain ⟨us, vs, e4, e5, e6⟩ := resL_ok n F S rs _ e3
    refine ⟨u :: us, v :: vs, ?_, .cons e2 e5, e6⟩
    rw [List.mapM_cons]
    simp only [Sem.run_bind, e1, e4, Result.andThen, Sem.run_pure]
theorem mapMA_list {α γ : Type} {f : α → Sem γ} (A : Array α) {us : List γ} {w : World} (h : (A.toList.mapM f).run P w = .ok us w) : (A.mapM f).run P w = .ok us.toArray w := by
  rw [Array.mapM_eq_mapM_toList]
  show (List.toArray <$> List.mapM f A.toList).run P w = _
  rw [map_eq_pure_bind]
  simp only [Sem.run_bind, h, Result.andThen, Sem.run_pure]
theorem results_ok {fn : Func} {ι : Inj} {f : Fr} {h : H} {w : World} {tmps : Array Value} {r : R2} {k : AV → R2} (n : R2.bad ≠ r) (F : FrameRel nt ι f tmps) (S : Sim ι h w) (hr : (resC ⟨P, G, RT⟩ nt fn.results.toList).run f h k = r) :
    ∃ u v, (results fn tmps).run P w = .ok u w ∧ RV ι v u ∧ k v = r := by
  obtain ⟨us, vs, e1, e2, e3⟩ := resL_ok n F S fn.results.toList (fun l => onCons l (fun x m => onCons m (fun _ _ => k (.tup l)) (k x)) (k (.tup l))) hr
  have hm : (fn.results.mapM fun
      | .tmp t => pure (tmps.getD t undef)
      | .cell a t => do loadVar t (← asAddr (tmps.getD a undef)) : Sem (Array Value)).run P w = .ok us.toArray w := mapMA_list fn.results e1
  have hl := e2.length
  have hrun : (results fn tmps).run P w = .ok (if h : us.toArray.size = 1 then us.toArray[0] else .tuple us.toArray) w := by
    rw [show results fn tmps = (do
      let vs ← fn.results.mapM fun
        | .tmp t => pure (tmps.getD t undef)
        | .cell a t => do loadVar t (← asAddr (tmps.getD a undef))
      pure (if h : vs.size = 1 then vs[0] else .tuple vs)) from rfl, Sem.run_bind, hm]
    rfl
  match us, vs, e2, e3, hrun with
  | [], [], e2, e3, hrun => exact ⟨_, _, hrun, .tup e2, e3⟩
  | [u], [v], .cons hv _, e3, hrun => exact ⟨_, _, hrun, hv, e3⟩
  | u :: u' :: us, v :: v' :: vs, e2, e3, hrun => exact ⟨_, _, hrun, by simpa using RV.tup (x := (u :: u' :: us).toArray) e2, e3⟩
/-- The frame of a call. -/
def frV : List AV → Fr → Nat → Fr
  | [], f, _ => f
  | v :: l, f, i => frV l (f.put i v) (i + 1)
theorem frameOf_eq {β : Type} : ∀ (l : List AV) (f : Fr) (i : Nat) (k : Fr → β), frameOf l f i k = k (frV l f i)
  | [], _, _, _ => rfl
  | v :: l, f, i, k => by
    show (putC i).run β f v (fun f => forceN (Nat.succ i) fun i => frameOf l f i k) = _
    rw [putC_eq, forceN_eq, frameOf_eq l]; rfl
theorem frV_get : ∀ (l : List AV) (f : Fr) (i t : Nat), i + l.length ≤ 576 → t < 576 → (getC t).run (frV l f i) = if i ≤ t ∧ t < i + l.length then nth l (t - i) else (getC t).run f
  | [], f, i, t, _, _ => by rw [if_neg (by simp)]; rfl
  | v :: l, f, i, t, h1, h2 => by
    simp only [List.length_cons] at h1
    show (getC t).run (frV l (f.put i v) (i + 1)) = _
    rw [frV_get l _ (i + 1) t (by omega) h2, getC_put (by omega) h2]
    by_cases hi : i = t
    · subst hi
      rw [if_neg (by omega), if_pos rfl, if_pos (by simp only [List.length_cons]; omega), Nat.sub_self]; rfl
    · by_cases hr : i + 1 ≤ t ∧ t < i + 1 + l.length
      · rw [if_pos hr, if_pos (by simp only [List.length_cons]; omega)]
        obtain ⟨m, rfl⟩ : ∃ m, t = i + 1 + m := ⟨t - (i + 1), by omega⟩
        rw [show i + 1 + m - (i + 1) = m by omega, show i + 1 + m - i = m + 1 by omega]; rfl
      · rw [if_neg hr, if_neg hi, if_neg (by simp only [List.length_cons]; omega)]
theorem frNew_get (t : Nat) : (getC t).run Fr.new = undefA := by
  by_cases h : t ≤ 63
  · rw [getC_lo h]; exact TT.get_full undefA 2 _
  · rw [getC_hi h]; exact TT.get_full undefA 3 _
theorem frame_ok {ι : Inj} {args : List AV} {A : Array Value} (ha : RVL ι args A.toList) (h1 : args.length ≤ nt) (h2 : nt ≤ 576) : FrameRel nt ι (frV args Fr.new 0) (A ++ Array.replicate (nt - A.size) undef) := by
  have hl := ha.length
  have hl2 : A.toList.length = A.size := Array.length_toList
  refine ⟨by simp; omega, h2, fun t ht => ?_⟩
  rw [frV_get args _ 0 t (by omega) (by omega)]
  by_cases h : t < args.length
  · rw [if_pos (by omega), Nat.sub_zero]
    obtain ⟨x, e1, e2⟩ := ha.get t h
    have : (A ++ Array.replicate (nt - A.size) undef).getD t undef = x := by
      rw [Array.getD_eq_getD_getElem?, Array.getElem?_append_left (by omega), ← Array.getElem?_toList, e1]; rfl
    rw [this]; exact e2
  · rw [if_neg (by omega), frNew_get]
    have : (A ++ Array.replicate (nt - A.size) undef).getD t undef = undef := by
      rw [Array.getD_eq_getD_getElem?, Array.getElem?_append_right (by omega), Array.getElem?_replicate]
      split <;> rfl
    rw [this]; exact undef_rv ι
/-- A function with a body. -/
theorem func_ok (hcall : CallOk P G pb call) {N : Nat} {g : FuncId} {fn : Func} {c : Code} (hf : P.funcs[g]? = some fn) (hb : fn.body = some c) {ι : Inj} {h : H} {w : World} {args : List AV} {A : Array Value} {v1 : AV} {h1 : H}
    (hr : le (lenL args) fn.ntmps (frameOf args Fr.new 0 fun f => onRS ((codeC ⟨P, G, RT⟩ pb fn.ntmps false c).run call N f h fun f h => .ok .ret f h) (fun e f h => onE e .bad (fun _ => .bad) (fun _ => .bad) ((resC ⟨P, G, RT⟩ fn.ntmps fn.results.toList).run f h fun v => .ok v h)) .bad) .bad = R2.ok v1 h1)
    (hmost : fn.ntmps ≤ 576) (hG : GlobOk G ι) (S : Sim ι h w) (ha : RVL ι args A.toList) : Calls P g A w (RetPost ι h w v1 h1) := by
  have n : R2.bad ≠ R2.ok v1 h1 := fun hh => by cases hh
  obtain ⟨h2, hr⟩ := le_inv hr n
  rw [frameOf_eq] at hr
  rw [lenL_eq] at h2
  obtain ⟨e0, f0, h0, ec, hr⟩ := onRS_inv hr n
  rw [onE_def] at hr
  have he0 : e0 = .ret := by cases e0 <;> first | rfl | exact absurd hr n
  subst he0
  have F := frame_ok (nt := fn.ntmps) ha h2 hmost
  refine (callsIn_wd (rd := none) (n := 0)).1 (callsIn_of_wp_marks hf hb trivial (wpIn_mono (code_ok (lo := w.heap.size) (fr := none) hcall (fun _ => rfl) c (fun hh => by cases hh) ec hG F S ⟨Nat.le_refl _, .nil⟩) fun e a1 w1 hp => ?_))
  obtain ⟨f1, h1', ι1, S1, F1, g1, D1, he⟩ := hp
  have fin : RS.ok .ret f1 h1' = RS.ok .ret f0 h0 → LeavesInM (Wd none) 0 P fn a1.tmps (RetPost ι h w v1 h1) a1.defers .returning w1 := by
    intro he
    injection he with q1 q2 q3
    subst q2 q3
    refine leave_ok a1.defers w1 S1 g1 D1.2 fun w2 S2 g2 => ?_
    obtain ⟨u, v, e1, e2, e3⟩ := results_ok (P := P) (w := w2) (fn := fn) (k := fun v => R2.ok v h1') n F1 S2 hr
    injection e3 with q4 q5
    subst q4 q5
    exact ⟨u, e1, u, rfl, ι1, S2, e2, g2⟩
  cases e with
  | normal => exact fin he
  | ret => exact fin he
  | exit i => cases he
  | goto l => cases he
  | panic _ => exact he.elim
  | outgrown => exact he.elim
end
section
variable {P : Program} {RT : List Rule} [RulesOk P RT] {G : Nat → AV} {nt : Nat} {call : CallT} {pb : FuncId → Bool}
theorem setArgs_ok {β : Type} {ι : Inj} {k : Fr → β} {s r : β} (n : s ≠ r) : ∀ (ps : List Nat) (args : List AV) (us : List Value) (f : Fr) (tmps : Array Value), setArgs nt ps args f k s = r → RVL ι args us → FrameRel nt ι f tmps →
    ps.length = us.length ∧ ∃ f', FrameRel nt ι f' ((ps.zip us).foldl (fun tmps (x : Nat × Value) => tmps.setIfInBounds x.1 x.2) tmps) ∧ k f' = r
  | [], [], _, f, tmps, hr, .nil, F => ⟨rfl, f, F, hr⟩
  | [], _ :: _, _, f, tmps, hr, .cons _ _, F => absurd hr n
  | p :: ps, [], _, f, tmps, hr, .nil, F => absurd hr n
  | p :: ps, v :: args, u :: us, f, tmps, hr, .cons hv hl, F => by
    have hr : (putD nt (some p)).run β f v (fun f => setArgs nt ps args f k s) = r := hr
    rw [putD_eq] at hr
    obtain ⟨h1, f', h2, h3⟩ := setArgs_ok n ps args us _ (tmps.setIfInBounds p u) hr hl (FrameRel.put (a := { tmps := tmps, defers := [] }) F (some p) hv)
    exact ⟨by simp [h1], f', by simpa using h2, h3⟩
theorem yield_ok (hcall : CallOk P G pb call) {N : Nat} {ι : Inj} {h : H} {w : World} {g : Nat} {l : Loc} {args : List AV} {A : Array Value} {v1 : AV} {h1 : H} (hr : yieldA ⟨P, G, RT⟩ pb call N g args h = .ok v1 h1) (hG : GlobOk G ι) (S : Sim ι h w) (hl : ι g 0 = some l) (ha : RVL ι args A.toList) :
    ∃ f tmps assign body, (Instr.yield l.b A).run P w = .ok (.round l.b f tmps assign body) w ∧ ∀ rd, RoundIn (Wd rd) 0 P l.b f tmps assign body w (RetPost ι h w v1 h1) := by
  have n : R2.bad ≠ R2.ok v1 h1 := fun hh => by cases hh
  unfold yieldA at hr
  obtain ⟨st, p, m, fr, ps, as, bd, ho, hr⟩ := onLoop_inv hr n
  have hst : st = .ready := by cases st <;> first | rfl | exact absurd hr n
  subst hst
  obtain ⟨_, L, k1, k2, k3, k4, k5, k6, k7⟩ := S.loop_ hl ho
  obtain ⟨hlen, f0, F0, hr⟩ := setArgs_ok n ps args A.toList fr L.tmps hr ha k4
  obtain ⟨e1, f1, h1', ec1, hr⟩ := onRS_inv hr n
  rw [onE_def] at hr
  have he1 : e1 = .normal := by cases e1 <;> first | rfl | exact absurd hr n
  subst he1
  obtain ⟨st2, p2, m2, fr2, ps2, as2, bd2, ho2, hr⟩ := onLoop_inv hr n
  have hst2 : st2 = .ready := by cases st2 <;> first | rfl | exact absurd hr n
  subst hst2
  have hr : (h1'.put g (.loop .busy p2 m2 fr2 ps2 as2 bd2) fun h => onRS ((codeC ⟨P, G, RT⟩ pb m true bd).run call N f1 h fun f h => .ok .normal f h)
      (fun e _ h => (h.obj g).onLoop (fun _ _ nt3 fr3 ps3 as3 bd3 => onE e (h.put g (.loop .ready none nt3 fr3 ps3 as3 bd3) fun h => R2.ok (.bool true) h)
        (fun i => h.put g (.loop .done (some (.exit i)) nt3 fr3 ps3 as3 bd3) fun h => R2.ok (.bool false) h)
        (fun i => h.put g (.loop .done (some (.goto i)) nt3 fr3 ps3 as3 bd3) fun h => R2.ok (.bool false) h)
        (h.put g (.loop .done (some .ret) nt3 fr3 ps3 as3 bd3) fun h => R2.ok (.bool false) h)) .bad) .bad) = R2.ok v1 h1 := hr
  rw [H.put_eq] at hr
  obtain ⟨e3, f3, h3, ec3, hr⟩ := onRS_inv hr n
  obtain ⟨st4, p4, m4, fr4, ps4, as4, bd4, ho4, hr⟩ := onLoop_inv hr n
  rw [onE_def] at hr
  refine ⟨L.fn, (L.params.zip A).foldl (fun tmps (t, a) => tmps.setIfInBounds t a) L.tmps, as, bd, ?_, fun rd => ?_⟩
  · have hsz : A.size = L.params.size := by
      have h1 : A.toList.length = A.size := Array.length_toList
      have h2 : L.params.toList.length = L.params.size := Array.length_toList
      rw [← h1, ← h2, k5]; exact hlen.symm
    simp only [Instr.yield, Sem.run_bind, getLoop_run k1, Result.andThen, hsz, ne_eq, not_true, if_false, Sem.run_pure, k6, k7]
  refine roundIn_of_wpIn trivial ?_
  have F0' : FrameRel m ι f0 ((L.params.zip A).foldl (fun tmps (t, a) => tmps.setIfInBounds t a) L.tmps) := by
    have : (L.params.zip A).foldl (fun tmps (t, a) => tmps.setIfInBounds t a) L.tmps = (ps.zip A.toList).foldl (fun tmps (x : Nat × Value) => tmps.setIfInBounds x.1 x.2) L.tmps := by
      rw [← Array.foldl_toList, Array.toList_zip, k5]; try rfl
    rw [this]; exact F0
  refine wpIn_mono (code_ok (lo := 0) (fr := some l.b) (rd := true) hcall (fun hh => by cases hh) as (fun hh => by cases hh) ec1 hG F0' S ⟨Nat.zero_le _, .nil⟩) fun e a1 w1 hp => ?_
  obtain ⟨f1x, h1x, ι1, S1, F1, g1, D1, he⟩ := hp
  cases e with
  | exit i => cases he
  | goto i => cases he
  | ret => cases he
  | panic _ => exact he.elim
  | outgrown => exact he.elim
  | normal =>
    injection he with _ q2 q3
    subst q2 q3
    have hl1 := g1.ext _ _ _ hl
    obtain ⟨_, L2, j1, j2, j3, j4, j5, j6, j7⟩ := S1.loop_ hl1 ho2
    obtain ⟨S2, g2⟩ := S1.setLoop hl1 ho2 j1 (st' := .busy) (p' := p2) (L' := { L2 with state := .busy }) rfl j3 ⟨rfl, rfl, rfl, rfl, rfl⟩ (w' := { w1 with heap := w1.heap.setIfInBounds l.b (.loop { L2 with state := .busy }) }) rfl ⟨rfl, rfl, rfl⟩
    refine ⟨{ w1 with heap := w1.heap.setIfInBounds l.b (.loop { L2 with state := .busy }) }, ?_, ?_⟩
    · simp only [Instr.beginRound, Sem.run_bind, getLoop_run j1, Result.andThen, setLoop_run j1, j2, Sem.run_pure]
    · refine wpIn_mono (code_ok (lo := 0) (fr := some l.b) (rd := true) hcall (fun hh => by cases hh) bd (fun hh => by cases hh) ec3 (hG.mono (Grows.trans S g1 g2).ext) (F1.mono g2.ext) S2 (D1.grows g2)) fun e a3 w3 hp => ?_
      obtain ⟨f3x, h3x, ι3, S3, F3, g3, D3, he⟩ := hp
      have gall := Grows.trans S (Grows.trans S g1 g2) g3
      have hl3 := gall.ext _ _ _ hl
      have fin : ∀ {jump : Option Code} {st' : LoopState} {p' : Option E} {b : Bool}, h3x = h3 → st' = (if jump.isNone then .ready else .done) → jump = p'.bind codeOfE → b = jump.isNone → (h3x.put g (.loop st' p' m4 fr4 ps4 as4 bd4) fun h => R2.ok (.bool b) h) = R2.ok v1 h1 →
          ∃ v w', (Instr.endRound l.b jump).run P w3 = .ok v w' ∧ RetPost ι h w v1 h1 (.returned v) w' := by
        intro jump st' p' b eh e1 e2 e3 hr9
        subst eh
        obtain ⟨_, L3, i1, i2, i3, i4, i5, i6, i7⟩ := S3.loop_ hl3 ho4
        rw [H.put_eq] at hr9
        have hr : R2.ok (.bool b) (h3x.putv g (.loop st' p' m4 fr4 ps4 as4 bd4)) = R2.ok v1 h1 := hr9
        injection hr with r1 r2
        subst r1 r2
        obtain ⟨S4, g4⟩ := S3.setLoop hl3 ho4 i1 (st' := st') (p' := p') (L' := { L3 with state := st', pending := jump }) rfl e2 ⟨rfl, rfl, rfl, rfl, rfl⟩ (w' := { w3 with heap := w3.heap.setIfInBounds l.b (.loop { L3 with state := st', pending := jump }) }) rfl ⟨rfl, rfl, rfl⟩
        refine ⟨.bool jump.isNone, { w3 with heap := w3.heap.setIfInBounds l.b (.loop { L3 with state := st', pending := jump }) }, ?_, _, rfl, ι3, S4, ?_, Grows.trans S gall g4⟩
        · simp only [Instr.endRound, Sem.run_bind, getLoop_run i1, Result.andThen, setLoop_run i1, Sem.run_pure, e1]
        · rw [e3]; exact .bool _
      cases e with
      | normal =>
        injection he with q1 q2 q3
        subst q1
        exact fin (p' := none) q3 rfl rfl rfl (by rw [q3]; exact hr)
      | exit i =>
        injection he with q1 q2 q3
        subst q1
        exact fin (p' := some (.exit i)) q3 rfl rfl rfl (by rw [q3]; exact hr)
      | goto i =>
        injection he with q1 q2 q3
        subst q1
        exact fin (p' := some (.goto i)) q3 rfl rfl rfl (by rw [q3]; exact hr)
      | ret =>
        injection he with q1 q2 q3
        subst q1
        exact fin (p' := some .ret) q3 rfl rfl rfl (by rw [q3]; exact hr)
      | panic _ => exact he.elim
      | outgrown => exact he.elim
/-- A function without a body, or one that is told by its contract. -/
def PrimOk (P : Program) (G : Nat → AV) (pb : FuncId → Bool) (g : FuncId) (p : FnC) : Prop := ∀ (call : CallT) (N : Nat), CallOk P G pb call → ∀ (ι : Inj) (h : H) (w : World) (args : List AV) (A : Array Value) (v1 : AV) (h1 : H), p.run call N args h = .ok v1 h1 → GlobOk G ι → Sim ι h w → RVL ι args A.toList →
  ((∃ u w1, (callFunc g A).run P w = .ok (.value u) w1 ∧ CallPost ι h w v1 h1 u w1) ∨ ((callFunc g A).run P w = .ok (.enter g A) w ∧ Calls P g A w (RetPost ι h w v1 h1)))
theorem callN_ok {prim : FuncId → Option FnC} (hnum : ∀ g fn, P.funcs[g]? = some fn → prim g = none → fn.name ≠ "runtime.NumGoroutine") (hprim : ∀ g p, prim g = some p → PrimOk P G (fun g => (prim g).isSome) g p) (N : Nat) : ∀ n, CallOk P G (fun g => (prim g).isSome) (callN ⟨P, G, RT⟩ prim N n)
  | 0 => fun ι h w v fv args argv v1 h1 hr _ _ _ _ => by cases hr
  | n + 1 => by
    have ih := callN_ok hnum hprim N n
    intro ι h w v fv args argv v1 h1 hr hG S hv ha
    have nb : R2.bad ≠ R2.ok v1 h1 := fun hh => by cases hh
    have hr : v.onFnYield (fun g first caps => (fnC ⟨P, G, RT⟩ prim g).run (callN ⟨P, G, RT⟩ prim N n) N (appL first (appL args caps)) h) (fun l => yieldA ⟨P, G, RT⟩ (fun g => (prim g).isSome) (callN ⟨P, G, RT⟩ prim N n) N l args h) .bad = .ok v1 h1 := hr
    rcases AV.onFnYield_inv hr nb with ⟨g, first, caps, ev, h7⟩ | ⟨l, ev, h7⟩
    · subst ev
      have hr := h7
      cases hv with
      | @fn _ _ _ x y hx hy =>
      left
      refine ⟨g, x, y, rfl, ?_⟩
      rw [appL_eq, appL_eq] at hr
      have hA : RVL ι (first ++ (args ++ caps)) (x ++ argv ++ y).toList := by
        rw [Array.toList_append, Array.toList_append, List.append_assoc]
        exact hx.append (ha.append hy)
      unfold fnC at hr
      cases hp : prim g with
      | some p =>
        simp only [hp] at hr
        rcases hprim g p hp _ N ih ι h w _ _ v1 h1 hr hG S hA with ⟨u, w1, e1, e2⟩ | e
        · exact .inl ⟨u, w1, by simp [hp], e1, e2⟩
        · exact .inr e
      | none =>
        simp only [hp] at hr
        right
        cases hf : P.funcs[g]? with
        | none => simp only [hf] at hr; exact absurd hr nb
        | some fn =>
          simp only [hf] at hr
          cases hb : fn.body with
          | none => simp only [hb] at hr; exact absurd hr nb
          | some c =>
            simp only [hb] at hr
            rw [le_eq] at hr
            split at hr
            · rename_i hmost
              refine ⟨?_, func_ok ih hf hb hr hmost hG S hA⟩
              have hname := hnum g fn hf hp
              simp only [callFunc, Sem.run_bind, run_program, Result.andThen, hf, hb, Option.isNone_some, Bool.false_eq_true, if_false, beq_iff_eq, hname, Sem.run_pure]
            · exact absurd hr nb
    · subst ev
      have hr := h7
      cases hv with
      | @yield _ lc hl =>
      right
      obtain ⟨f, tmps, as, bd, e1, e2⟩ := yield_ok ih hr hG S hl ha
      exact ⟨lc.b, f, tmps, as, bd, rfl, e1, e2⟩
end
/-! ### A whole run -/
section
variable {P : Program} {RT : List Rule} [RulesOk P RT] {G : Nat → AV}
theorem rawG_ok (ι : Inj) : GlobOk rawG ι := fun g => .raw (.pointer (some ⟨g, 0, none⟩))
theorem Sim.empty (w : World) : Sim (fun _ _ => none) H.empty w :=
  ⟨Nat.zero_le _, fun _ _ _ => rfl, fun _ _ _ _ _ _ h => (by cases h), fun _ _ _ h => (by cases h), fun g hg => absurd hg (Nat.not_lt_zero g)⟩
/-- A run that the interpreter tells is the machine's. -/
theorem runs_ok {prim : FuncId → Option FnC} (hnum : ∀ g fn, P.funcs[g]? = some fn → prim g = none → fn.name ≠ "runtime.NumGoroutine") (hprim : ∀ g p, prim g = some p → PrimOk P G (fun g => (prim g).isSome) g p) {g : FuncId} (hp : prim g = none)
    {ι : Inj} {h0 : H} {w : World} (hG : GlobOk G ι) (S : Sim ι h0 w) (hro : ∀ g, g < h0.nx → ¬ (h0.obj g).wr) {avs : List AV} {args : Array Value} (ha : RVL ι avs args.toList) (N n : Nat) {v : AV} {h1 : H} (hrun : callN ⟨P, G, RT⟩ prim N n (.fn g [] []) avs h0 = .ok v h1) :
    Calls P g args w fun e w1 => ∃ u ι1, e = .returned u ∧ Sim ι1 h1 w1 ∧ RV ι1 v u ∧ RowKit.Below w.heap.size w w1 := by
  rcases callN_ok hnum hprim N n ι h0 w _ _ avs args v h1 hrun hG S (.fn (x := #[]) (y := #[]) .nil .nil) ha with ⟨f, first, caps, e, hres⟩ | ⟨l, f, tmps, as, bd, e, _⟩
  · injection e with e1 e2 e3
    injection e1 with e1
    subst e1 e2 e3
    rcases hres with ⟨_, _, hpb, _⟩ | ⟨_, hc⟩
    · simp [hp] at hpb
    · simp only [Array.append_empty, Array.empty_append] at hc
      refine Calls.mono hc fun e w1 he => ?_
      obtain ⟨u, rfl, ι1, S1, hv, g1⟩ := he
      exact ⟨u, ι1, rfl, S1, hv, g1.streams.1, g1.streams.2.1, g1.streams.2.2, g1.size, fun k hk => g1.keep k hk fun g' s l hg hw _ => absurd hw (hro g' hg)⟩
  · injection e with e1
    cases e1
/-- .. that comes to true. -/
theorem true_ok {prim : FuncId → Option FnC} (hnum : ∀ g fn, P.funcs[g]? = some fn → prim g = none → fn.name ≠ "runtime.NumGoroutine") (hprim : ∀ g p, prim g = some p → PrimOk P G (fun g => (prim g).isSome) g p) {g : FuncId} (hp : prim g = none)
    {ι : Inj} {h0 : H} {w : World} (hG : GlobOk G ι) (S : Sim ι h0 w) (hro : ∀ g, g < h0.nx → ¬ (h0.obj g).wr) {avs : List AV} {args : Array Value} (ha : RVL ι avs args.toList) (N n : Nat) {h1 : H} (hrun : callN ⟨P, G, RT⟩ prim N n (.fn g [] []) avs h0 = .ok (.bool true) h1) :
    Calls P g args w fun e w1 => e = .returned (.bool true) ∧ RowKit.Below w.heap.size w w1 :=
  Calls.mono (runs_ok hnum hprim hp hG S hro ha N n hrun) fun e w1 ⟨u, ι1, he, _, hv, hb⟩ => ⟨by rw [he, rv_bool hv], hb⟩
end
/-! ### Functions without a body -/
section
variable {P : Program} {RT : List Rule} [RulesOk P RT] {G : Nat → AV} {pb : FuncId → Bool}
theorem rvl_two {ι : Inj} {x y : AV} {A : Array Value} (h : RVL ι [x, y] A.toList) : ∃ u v, A = #[u, v] ∧ RV ι x u ∧ RV ι y v := by
  obtain ⟨l⟩ := A
  cases h with
  | cons h1 h2 =>
    cases h2 with
    | cons h3 h4 =>
      cases h4
      exact ⟨_, _, rfl, h1, h3⟩
theorem idxByte_ok (s : ByteArray) (c : Nat) (hc : c ≤ 255) : ∀ (k i : Nat), i + k = s.size → idxByte s.size (encS s) c k i = match (List.range' i k).find? fun j => s[j]! == c.toUInt8 with | some j => (j : Int) | none => -1
  | 0, i, _ => rfl
  | k + 1, i, h => by
    have hi : i < s.size := by omega
    show eqN (byteAt s.size (encS s) i) c (Int.ofNat i) (forceN (Nat.succ i) (idxByte s.size (encS s) c k)) = _
    rw [eqN_eq, forceN_eq, byte_ok s i hi, List.range'_succ, List.find?_cons]
    have hget : s[i]! = s[i] := by simp [hi]
    have hcc : c.toUInt8.toNat = c := by simp; omega
    by_cases e : (s[i]).toNat = c
    · have : (s[i]! == c.toUInt8) = true := by
        rw [hget, beq_iff_eq]
        exact UInt8.toNat_inj.1 (by rw [hcc]; exact e)
      rw [if_pos e, this]
      rfl
    · have : (s[i]! == c.toUInt8) = false := by
        rw [hget, Bool.eq_false_iff]
        intro hh
        rw [beq_iff_eq] at hh
        exact e (by rw [hh]; exact hcc)
      rw [if_neg e, this]
      exact idxByte_ok s c hc k (i + 1) (by omega)
theorem primIndexByte_ok {g : FuncId} {fn : Func} (hf : P.funcs[g]? = some fn) (hname : (fn.name == "runtime.NumGoroutine") = false) (hb : fn.body.isNone = true) (hn : Extern.findNext fn = none) (he : Extern.find fn = some Extern.BytealgIndexByte.indexByte) : PrimOk P G pb g primIndexByte := by
  intro call N _ ι h w args A v1 h1 hr _ S ha
  have nb : R2.bad ≠ R2.ok v1 h1 := fun hh => by cases hh
  obtain ⟨x, y, rfl, h2⟩ := on2_inv (show on2 (β := R2) args _ R2.bad = R2.ok v1 h1 from hr) nb
  obtain ⟨n, u, rfl, h3⟩ := AV.onStr_inv h2 nb
  obtain ⟨t, c, rfl, h4⟩ := AV.onInt_inv h3 nb
  obtain ⟨h5, h6⟩ := eqN_inv (show eqN (β := R2) (kindN t) (kindN .u8) _ R2.bad = R2.ok v1 h1 from h4) nb
  have := kindN_inj h5
  subst this
  obtain ⟨m, rfl, h7⟩ := onNat_inv h6 nb
  obtain ⟨h8, h9⟩ := le_inv h7 nb
  obtain ⟨a, b, rfl, r1, r2⟩ := rvl_two ha
  obtain ⟨s, rfl, rfl, rfl⟩ := rv_str r1
  have := rv_int r2
  subst this
  rw [forceI_eq] at h9
  cases h9
  refine .inl ⟨_, w, ?_, ι, S, .int _ _, Grows.refl ι h w⟩
  have hfi : firstIdx s m.toUInt8 = idxByte s.size (encS s) m s.size 0 := by
    rw [idxByte_ok s m h8 s.size 0 (by omega)]
    unfold firstIdx
    rw [List.range_eq_range']
    cases (List.range' 0 s.size).find? fun i => s[i]! == m.toUInt8 <;> rfl
  rw [run_callFunc_extern hf hname hb hn he, run_indexByte_string]
  show Result.ok (Next.value (.int .i64 (firstIdx s m.toUInt8))) w = _
  rw [hfi]
end
/-! ### Tables that are laid -/
section
variable {P : Program} {ι : Inj} {h : H} {w : World}
/-- Memory, with a table more. -/
def layT (h : H) (vs : List AV) : H := h.newv (.cells (layL vs CT.new 0) vs.length 0 0 2)
theorem rvl_ints (ι : Inj) (k : IntKind) : ∀ zs : List Int, RVL ι (zs.map (AV.int k)) (zs.map fun z => Value.int k z)
  | [] => .nil
  | z :: zs => .cons (.int k z) (rvl_ints ι k zs)
theorem Sim.table (S : Sim ι h w) (hn : h.nx ≤ 32767) {g : Nat} {C : Array Value} {el : TypeId} {fr : Nat × Nat} (hw : w.heap[g]? = some (.cells C el fr)) (hfresh : ∀ g' s l, ι g' s = some l → l.b ≠ g) {vs : List AV} (hv : RVL ι vs C.toList) :
    Sim (ι.add h.nx 0 ⟨g, 0, 0, vs.length, vs.length, undef⟩) (layT h vs) w := by
  have hnone : ∀ s, ι h.nx s = none := fun s => S.beyond _ s (Nat.le_refl _)
  have hle := Inj.add_le ι h.nx 0 ⟨g, 0, 0, vs.length, vs.length, undef⟩ (hnone 0)
  have hg : g < w.heap.size := (Array.getElem?_eq_some_iff.1 hw).1
  have hlen := hv.length
  have hl2 : C.toList.length = C.size := Array.length_toList
  have key : ∀ g' s l', ι.add h.nx 0 ⟨g, 0, 0, vs.length, vs.length, undef⟩ g' s = some l' → ι g' s = some l' ∨ (g' = h.nx ∧ s = 0 ∧ l' = ⟨g, 0, 0, vs.length, vs.length, undef⟩) := by
    intro g' s l' e
    by_cases hh : g' = h.nx ∧ s = 0
    · obtain ⟨rfl, rfl⟩ := hh; rw [Inj.add_same] at e; cases e; exact .inr ⟨rfl, rfl, rfl⟩
    · rw [Inj.add_other _ _ _ _ hh] at e; exact .inl e
  refine ⟨by show h.nx + 1 ≤ 32768; omega, ?_, ?_, ?_, ?_⟩
  · intro g' s hg'
    have hg'' : h.nx + 1 ≤ g' := hg'
    rw [Inj.add_other _ _ _ _ (by omega)]
    exact S.beyond g' s (by omega)
  · intro g1 s1 l1 g2 s2 l2 e1 e2 hbb
    rcases key _ _ _ e1 with k1 | ⟨rfl, rfl, rfl⟩
    · rcases key _ _ _ e2 with k2 | ⟨rfl, rfl, rfl⟩
      · exact S.inj _ _ _ _ _ _ k1 k2 hbb
      · exact absurd hbb (hfresh _ _ _ k1)
    · rcases key _ _ _ e2 with k2 | ⟨rfl, rfl, rfl⟩
      · exact absurd hbb.symm (hfresh _ _ _ k2)
      · exact ⟨rfl, rfl⟩
  · intro g' s l' e
    rcases key _ _ _ e with k | ⟨rfl, rfl, rfl⟩
    · exact S.inw _ _ _ k
    · exact hg
  · intro g' hg'
    have hg'' : g' < h.nx + 1 := hg'
    show ObjOk _ w g' ((h.newv _).obj g')
    rw [H.obj_newv h g' _ (by omega) (by omega)]
    by_cases e : h.nx = g'
    · subst e
      rw [if_pos rfl]
      refine ⟨layL_new.1, Nat.le_refl _, fun s hs => by rw [Inj.add_other _ _ _ _ (by omega)]; exact hnone s, fun s _ hs => ?_⟩
      have : s = 0 := by omega
      subst this
      refine ⟨_, Inj.add_same _ _ _ _, Nat.le_refl _, fun _ => rfl, C, el, fr, hw, by show C.size = vs.length; omega, fun hh => (by cases hh), fun hh => (by omega), fun j _ hj => ?_, .inl (layL_el _ _ _)⟩
      obtain ⟨x, hx, hr⟩ := hv.get j hj
      exact ⟨j, x, by simp, by simpa using hx, by rw [layL_new.2 j hj]; exact hr.mono hle⟩
    · rw [if_neg e]
      exact objOk_keep (S.obj g' (by omega)) hle (fun s => Inj.add_other _ _ _ _ (by omega)) (fun _ _ _ => rfl)
theorem heap_of_var {name : String} {g : Nat} {cs : Array Value} (hg : P.globalNamed name = some g) (h : w.var? P name = some cs) : ∃ el fr, w.heap[g]? = some (.cells cs el fr) := by
  unfold World.var? at h
  rw [hg, Option.bind_some] at h
  split at h
  · rename_i cs' el fr hw
    cases h
    exact ⟨el, fr, hw⟩
  · cases h
end
/-! ### A function without a body that yields what it is given -/
section
variable {P : Program} {RT : List Rule} [RulesOk P RT] {G : Nat → AV} {pb : FuncId → Bool}
def primSame : FnC := ⟨fun _ _ args h => on1 args (fun x => .ok x h) .bad⟩
theorem primSame_ok {g : FuncId} {fn : Func} (hf : P.funcs[g]? = some fn) (hname : (fn.name == "runtime.NumGoroutine") = false) (hb : fn.body.isNone = true) (hn : Extern.findNext fn = none) (he : Extern.find fn = some Extern.AbiNoEscape.same) : PrimOk P G pb g primSame := by
  intro call N _ ι h w args A v1 h1 hr _ S ha
  have nb : R2.bad ≠ R2.ok v1 h1 := fun hh => by cases hh
  obtain ⟨x, rfl, h2⟩ := on1_inv (show on1 (β := R2) args _ R2.bad = R2.ok v1 h1 from hr) nb
  obtain ⟨a, rfl, r1⟩ := rvl_arr ha
  cases h2
  refine .inl ⟨a, w, ?_, ι, S, r1, Grows.refl ι h w⟩
  rw [run_callFunc_extern hf hname hb hn he]
  rfl
end
end
end Go.Proofs.YtenpnejkgopghaaDoor.AK

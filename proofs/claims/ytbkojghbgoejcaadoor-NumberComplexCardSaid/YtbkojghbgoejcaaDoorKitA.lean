/- The words that this seat's hand-written contracts use: a slice that may be appended to. Nothing of the program is claimed here. -/
import Derived.Test.YtbkojghbgoejcaaDoorWMore
import Derived.Test.YtbkojghbgoejcaaDoorWLast
import Derived.Test.YtbkojghbgoejcaaDoorWWords
import Derived.Lib.SlBytesConst
import Derived.ArgAppend
import Derived.OwnWalk
namespace Go.Proofs.YtbkojghbgoejcaaDoor.Kit
open Go Go.RowKit Go.Proofs.YtbkojghbgoejcaaDoorW.PrintWords

/-- A slice that may be appended to: a row of the call's own (from block base on), or a full one whose cells read. -/
def Apd (w : World) (base : Nat) (e : TypeId) (size : Nat) (v : Value) (n : Nat) (xs : List Value) : Prop :=
  w.ownsRow base e size v n xs ∨ (xs.length = n * size ∧ ∃ A, v = .slice (some A) n n ∧ ∀ j u, xs[j]? = some u → w.cell? (A.add j) = some u)

theorem Apd.full {w : World} {base : Nat} {e : TypeId} {size n : Nat} {xs : List Value} (A : Addr) (hl : xs.length = n * size) (hc : ∀ j u, xs[j]? = some u → w.cell? (A.add j) = some u) :
    Apd w base e size (.slice (some A) n n) n xs := Or.inr ⟨hl, A, rfl, hc⟩
theorem Apd.own {w : World} {base : Nat} {e : TypeId} {size : Nat} {v : Value} {n : Nat} {xs : List Value} (h : w.ownsRow base e size v n xs) : Apd w base e size v n xs := Or.inl h

theorem Apd.len {w : World} {base : Nat} {e : TypeId} {size : Nat} {v : Value} {n : Nat} {xs : List Value} (h : Apd w base e size v n xs) : xs.length = n * size := by
  rcases h with h | h
  · exact h.1
  · exact h.1

theorem Apd.shape {w : World} {base : Nat} {e : TypeId} {size : Nat} {v : Value} {n : Nat} {xs : List Value} (h : Apd w base e size v n xs) : ∃ A c, v = .slice A n c := by
  rcases h with h | ⟨_, A, rfl, _⟩
  · rcases h.2 with ⟨rfl, rfl⟩ | ⟨g, cap, cur, rfl, _⟩
    · exact ⟨_, _, rfl⟩
    · exact ⟨_, _, rfl⟩
  · exact ⟨_, _, rfl⟩

theorem Apd.below {w w' : World} {base : Nat} {e : TypeId} {size : Nat} {v : Value} {n : Nat} {xs : List Value} (h : Apd w base e size v n xs) (hb : Below w.heap.size w w') : Apd w' base e size v n xs := by
  rcases h with h | ⟨hl, A, rfl, hc⟩
  · exact .inl (pw_own_below h hb)
  · refine .inr ⟨hl, A, rfl, fun j u hu => ?_⟩
    have hj := hc j u hu
    have hlt : (A.add j).block < w.heap.size := by
      rcases Nat.lt_or_ge (A.add j).block w.heap.size with h | h
      · exact h
      · exfalso
        unfold World.cell? at hj
        rw [Array.getElem?_eq_none h] at hj
        simp at hj
    rw [World.cell?_of_block (hb.block _ hlt)]
    exact hj

/-- append to such a slice: what comes of it is the call's own. -/
theorem wpList_append_apd {P : Program} (w : World) {ops : Array Oper} {rest : List Oper} {o : Oper} {a : Act} {Q : Exit → Act → World → Prop} (hgd : o.guard = none) (s x : Operand) (t : TypeId)
    (ho : o.op = .call { callee := .builtin .append, args := #[s, x], argTypes := #[t, t] })
    (base : Nat) (e : TypeId) (z : Value) (size bytes : Nat) (ht : P.underlying t = some (.slice e)) (hinfo : (P.info? e).map (fun i => (i.zero, i.size, i.bytes)) = some (some z, size, bytes))
    (hzs : z.cells.size = size) (hsz : 0 < size)
    (v : Value) (n : Nat) (xs : List Value) (hs : a.eval s = v) (happ : Apd w base e size v n xs)
    (ad : Addr) (m c : Nat) (news : List Value) (hx : a.eval x = .slice (some ad) m c) (hl : news.length = m * size) (hnews : ∀ j u, news[j]? = some u → w.cell? (ad.add j) = some u) (h1 : ∀ u ∈ news, u.oneCell' = true)
    (hm : 0 < m) (h63 : n + m ≤ maxLen) (hbytes : (n + m) * bytes ≤ 140737488355328) (hbase : base ≤ w.heap.size)
    (h : ∀ v' w', w'.ownsRow base e size v' (n + m) (xs ++ news) → Below base w w' → wpList P ops Q rest (a.put o.dst v') w') : wpList P ops Q (o :: rest) a w := by
  obtain ⟨i, hi, hz, hsize, hby⟩ := info_parts hinfo
  rcases happ with hown | ⟨hlx, A, rfl, hc⟩
  · refine wpList_append_own w hgd s x t ho base e i z size bytes ht hi hz hsize hby hzs hsz v n xs hs hown ad m c news hx hl hnews h1 h63 hbytes hbase fun v' w' h2 h3 _ => ?_
    refine h v' w' h2 ⟨h3.os, h3.tape, h3.output, h3.size, fun k hk => h3.block k (by omega) (fun e => ?_)⟩
    have := own_base hown k e.symm
    omega
  · refine wpList_append_grows w hgd s x t ho e i z size bytes ht hi hz hsize hby hzs hsz (some A) n n xs hs (fun h => by cases h) hlx (fun b hb => by cases hb; exact hc) ad m c news hx hl hnews h1 (by omega) h63 hbytes fun v' w' h2 h3 => ?_
    exact h v' w' (own_weaken h2 hbase) ⟨h3.os, h3.tape, h3.output, h3.size, fun k hk => h3.block k (by omega) (by simp)⟩

end Go.Proofs.YtbkojghbgoejcaaDoor.Kit

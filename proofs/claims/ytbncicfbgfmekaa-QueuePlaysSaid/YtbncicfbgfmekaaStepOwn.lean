/-
  An append inside a region that draws its order, over what a law owns.
  Conditions: none beyond each theorem's own.
-/
import Derived.Test.YtbncicfbgfmekaaOwnOps
import Derived.Test.YtbncicfbgfmekaaStepCall
namespace Go.Proofs.Ytbncicfbgfmekaa
set_option linter.unusedVariables false
set_option linter.unusedSimpArgs false
open Go.RowKit

theorem row_empty_at {W : World} {q : Nat} {e : TypeId} {size : Nat} (hb : W.heap[q]? = some (.cells #[] e (0, 0))) : (SP.row e size (.slice (some ⟨q, 0, none⟩) 0 0) []).At W (fun k => k = q) :=
  .inr ⟨q, 0, 0, 0, #[], rfl, rfl, hb, Nat.le_refl _, by unfold maxLen; omega, by simp, by simp, by simp⟩

section
variable {P : Program} {w : World} {ops : Array Oper} {o : Oper} {a : Act} {K : Act → World → Prop} {Q : Exit → Act → World → Prop} {E : Prop}

/-- Onto a row that lies in memory new since the world W0. -/
theorem step_append_gain (hgd : o.guard = none) (s x : Operand) (t : TypeId) (ho : o.op = .call { callee := .builtin .append, args := #[s, x], argTypes := #[t, t] })
    (e : TypeId) (z : Value) (size bytes : Nat) (ht : P.underlying t = some (.slice e)) (hinfo : (P.info? e).map (fun i => (i.zero, i.size, i.bytes)) = some (some z, size, bytes)) (hzs : z.cells.size = size) (hsz : 0 < size)
    {Av : Option Addr} {cv : Nat} {xs : List Value} {n : Nat} (hs : a.eval s = .slice Av n cv) (hn : xs.length = n * size)
    {Sx Sr : Nat → Prop} {w0 W0 : World} {L : List SP} (h0 : Own Sx w0 W0 L) (hB : Below W0.heap.size W0 w) (ha : (SP.row e size (.slice Av n cv) xs).At w Sr) (hSr : ∀ k, Sr k → W0.heap.size ≤ k ∧ k < w.heap.size)
    (A : Option Addr) (m c : Nat) (news : List Value) (hx : a.eval x = .slice A m c) (hl : news.length = m * size) (hnews : Rd w A news) (h1 : ∀ u ∈ news, u.oneCell' = true)
    (h63 : n + m ≤ maxLen) (hbytes : (n + m) * bytes ≤ 140737488355328)
    (h : ∀ A' c' w', Keeps Sr w w' → Own Sx w0 w' (SP.row e size (.slice A' (n + m) c') (xs ++ news) :: L) → K (a.put o.dst (.slice A' (n + m) c')) w') :
    if Region.wanted o (yielded ops a.tmps) = true then Oper.wp P o a w K Q else E := by
  refine step_append_row hgd s x t ho e z size bytes ht hinfo hzs hsz hs hn ha A m c news hx hl hnews h1 h63 hbytes ?_
  intro A' c' w' _ hk hr
  refine h A' c' w' hk ?_
  have hb := hB.size
  have hs' := hk.size
  have hb2 : Below W0.heap.size W0 w' := hB.trans (hk.to_below hb (fun k hk => (hSr k hk).1))
  refine h0.gain hb2 ((SP.row e size _ _).mono hr ?_)
  rintro k (h | ⟨h, h'⟩)
  · have := hSr k h; omega
  · omega

/-- Onto a row that is owned since the world W1. -/
theorem step_append_move (hgd : o.guard = none) (s x : Operand) (t : TypeId) (ho : o.op = .call { callee := .builtin .append, args := #[s, x], argTypes := #[t, t] })
    (e : TypeId) (z : Value) (size bytes : Nat) (ht : P.underlying t = some (.slice e)) (hinfo : (P.info? e).map (fun i => (i.zero, i.size, i.bytes)) = some (some z, size, bytes)) (hzs : z.cells.size = size) (hsz : 0 < size)
    {Av : Option Addr} {cv : Nat} {xs : List Value} {n : Nat} (hs : a.eval s = .slice Av n cv) (hn : xs.length = n * size)
    {Sx : Nat → Prop} {w0 W1 : World} {L : List SP} (h0 : Own Sx w0 W1 (SP.row e size (.slice Av n cv) xs :: L)) (hB : Below W1.heap.size W1 w)
    (A : Option Addr) (m c : Nat) (news : List Value) (hx : a.eval x = .slice A m c) (hl : news.length = m * size) (hnews : Rd w A news) (h1 : ∀ u ∈ news, u.oneCell' = true)
    (h63 : n + m ≤ maxLen) (hbytes : (n + m) * bytes ≤ 140737488355328)
    (h : ∀ A' c' w', Own Sx w0 w' (SP.row e size (.slice A' (n + m) c') (xs ++ news) :: L) → K (a.put o.dst (.slice A' (n + m) c')) w') :
    if Region.wanted o (yielded ops a.tmps) = true then Oper.wp P o a w K Q else E := by
  obtain ⟨T, hr, hlt, hback⟩ := (h0.move hB).open
  refine step_append_row hgd s x t ho e z size bytes ht hinfo hzs hsz hs hn hr A m c news hx hl hnews h1 h63 hbytes ?_
  intro A' c' w' _ hk hr'
  exact h A' c' w' (hback _ _ hk hr')
end

theorem Own.blk_cell {S : Nat → Prop} {w0 w : World} {R : List SP} {g : Nat} {t : TypeId} {cs : Array Value} (h : Own S w0 w (SP.blk g t cs :: R)) (i : Nat) : w.cell? ⟨g, i, none⟩ = cs[i]? := cell_of_row w g i cs t (0, 0) h.head.2
theorem Own.blk_lt {S : Nat → Prop} {w0 w : World} {R : List SP} {g : Nat} {t : TypeId} {cs : Array Value} (h : Own S w0 w (SP.blk g t cs :: R)) : g < w.heap.size := (Array.getElem?_eq_some_iff.1 h.head.2).1
theorem Own.row_lt {S : Nat → Prop} {w0 w : World} {R : List SP} {e : TypeId} {size g off n c : Nat} {xs : List Value} (h : Own S w0 w (SP.row e size (.slice (some ⟨g, off, none⟩) n c) xs :: R)) : g < w.heap.size := by
  rcases h.head with ⟨h1, _⟩ | ⟨g', off', n', cap, cur, h1, h2, h3, _⟩
  · cases h1
  · injection h1 with h1
    injection h1 with h1
    injection h1 with h1 h4
    subst h1
    exact (Array.getElem?_eq_some_iff.1 h3).1

theorem heap2a (w : World) (a b : Array Value) (t u : TypeId) : ((w.alloc (.cells a t)).alloc (.cells b u)).heap[w.heap.size]? = some (.cells a t (0, 0)) := by
  rw [heap_alloc_old _ _ (by simp)]
  exact heap_alloc_new w _
theorem heap2b (w : World) (a b : Array Value) (t u : TypeId) : ((w.alloc (.cells a t)).alloc (.cells b u)).heap[w.heap.size + 1]? = some (.cells b u (0, 0)) := by
  have := heap_alloc_new (w.alloc (.cells a t)) (.cells b u)
  simpa using this
theorem cell_blk {W : World} {q : Nat} {x : Value} {t : TypeId} (hb : W.heap[q]? = some (.cells #[x] t (0, 0))) : W.cell? ⟨q, 0, none⟩ = some x := cell_of_row W q 0 #[x] t (0, 0) hb
end Go.Proofs.Ytbncicfbgfmekaa

/-
  An append in a walk, over what a law owns; a cut of a row of any size.
  Conditions: none beyond each theorem's own.
-/
import Derived.Test.YtbncicfbgfmekaaStepOwn
namespace Go.Proofs.Ytbncicfbgfmekaa
set_option linter.unusedVariables false
set_option linter.unusedSimpArgs false
open Go.RowKit

theorem wpList_append_own {P : Program} {w : World} {ops : Array Oper} {rest : List Oper} {o : Oper} {a : Act} {Q : Exit → Act → World → Prop} (hgd : o.guard = none) (s x : Operand) (t : TypeId) (ho : o.op = .call { callee := .builtin .append, args := #[s, x], argTypes := #[t, t] })
    (e : TypeId) (z : Value) (size bytes : Nat) (ht : P.underlying t = some (.slice e)) (hinfo : (P.info? e).map (fun i => (i.zero, i.size, i.bytes)) = some (some z, size, bytes)) (hzs : z.cells.size = size) (hsz : 0 < size)
    {Av : Option Addr} {cv : Nat} {xs : List Value} {n : Nat} (hs : a.eval s = .slice Av n cv) (hn : xs.length = n * size)
    {Sx : Nat → Prop} {w0 W1 : World} {L : List SP} (h0 : Own Sx w0 W1 (SP.row e size (.slice Av n cv) xs :: L)) (hB : Below W1.heap.size W1 w)
    (A : Option Addr) (m c : Nat) (news : List Value) (hx : a.eval x = .slice A m c) (hl : news.length = m * size) (hnews : Rd w A news) (h1 : ∀ u ∈ news, u.oneCell' = true)
    (h63 : n + m ≤ maxLen) (hbytes : (n + m) * bytes ≤ 140737488355328)
    (h : ∀ A' c' w', Own Sx w0 w' (SP.row e size (.slice A' (n + m) c') (xs ++ news) :: L) → wpList P ops Q rest (a.put o.dst (.slice A' (n + m) c')) w') :
    wpList P ops Q (o :: rest) a w := by
  obtain ⟨T, hr, hlt, hback⟩ := (h0.move hB).open
  refine wpList_append_row hgd s x t ho e z size bytes ht hinfo hzs hsz hs hn hr A m c news hx hl hnews h1 h63 hbytes ?_
  intro A' c' w' _ hk hr'
  exact h A' c' w' (hback _ _ hk hr')

theorem Own.cutRow {S : Nat → Prop} {w0 w : World} {L : List SP} {e : TypeId} {size n c g off k : Nat} {xs : List Value} (h : Own S w0 w (SP.row e size (.slice (some ⟨g, off, none⟩) n c) xs :: L)) (hk : k ≤ n) (hn : n ≤ c) (hx : xs.length = n * size) :
    Own S w0 w (SP.row e size (.slice (if c = k then some ⟨g, off, none⟩ else some ⟨g, off + k * size, none⟩) (n - k) (c - k)) (xs.drop (k * size)) :: L) :=
  h.imp fun T hr => by
    have := SP.row_cut hr (l := k) (h' := n) (m := c) hk (Nat.le_refl _) hn (Nat.le_refl _)
    rw [List.take_of_length_le (by rw [List.length_drop, hx, Nat.sub_mul]; omega)] at this
    simp only [sliced, Option.map_some, Addr.add_lit] at this
    exact this
end Go.Proofs.Ytbncicfbgfmekaa

/-
  append and clear on slices that the call owns, as steps of a walk.
  No program stands here but as a variable. Conditions: none beyond each theorem's own.
-/
import Derived.Test.YtbncicfbgfmekaaRow
namespace Go.Proofs.Ytbncicfbgfmekaa
set_option linter.unusedVariables false
set_option linter.unusedSimpArgs false
open Go.RowKit

section
variable {P : Program} {w : World} {S : Nat → Prop} {ops : Array Oper} {rest : List Oper} {o : Oper} {a : Act} {K : Act → World → Prop} {Q : Exit → Act → World → Prop}

theorem wp_append_row (s x : Operand) (t : TypeId) (ho : o.op = .call { callee := .builtin .append, args := #[s, x], argTypes := #[t, t] })
    (e : TypeId) (z : Value) (size bytes : Nat) (ht : P.underlying t = some (.slice e)) (hinfo : (P.info? e).map (fun i => (i.zero, i.size, i.bytes)) = some (some z, size, bytes)) (hzs : z.cells.size = size) (hsz : 0 < size)
    {Av : Option Addr} {cv : Nat} {xs : List Value} {n : Nat} (hs : a.eval s = .slice Av n cv) (hn : xs.length = n * size) (hr : (SP.row e size (.slice Av n cv) xs).At w S)
    (A : Option Addr) (m c : Nat) (news : List Value) (hx : a.eval x = .slice A m c) (hl : news.length = m * size) (hnews : Rd w A news) (h1 : ∀ u ∈ news, u.oneCell' = true)
    (h63 : n + m ≤ maxLen) (hbytes : (n + m) * bytes ≤ 140737488355328)
    (h : ∀ A' c' w', (n + m ≤ cv → A' = Av ∧ c' = cv) → Keeps S w w' → (SP.row e size (.slice A' (n + m) c') (xs ++ news)).At w' (grow S w w') → K (a.put o.dst (.slice A' (n + m) c')) w') : o.wp P a w K Q := by
  obtain ⟨i, hi, hz0, hz1, hz2⟩ := info_parts hinfo
  obtain ⟨A', c', w', hrun, h2, h3, h4⟩ := run_append_row (P := P) (S := S) t o.type e i z size bytes ht hi hz0 hz1 hz2 hzs hsz hn hr A m c news hl hnews h1 h63 hbytes
  unfold Oper.wp execOp
  simp only [ho, resolve, invoke, builtin, Sem.run_bind, Sem.run_pure, Result.andThen_ok, List.map_toArray, List.map_cons, List.map_nil, hs, hx, hrun]
  exact h A' c' w' h2 h3 h4

theorem wpList_append_row (hgd : o.guard = none) (s x : Operand) (t : TypeId) (ho : o.op = .call { callee := .builtin .append, args := #[s, x], argTypes := #[t, t] })
    (e : TypeId) (z : Value) (size bytes : Nat) (ht : P.underlying t = some (.slice e)) (hinfo : (P.info? e).map (fun i => (i.zero, i.size, i.bytes)) = some (some z, size, bytes)) (hzs : z.cells.size = size) (hsz : 0 < size)
    {Av : Option Addr} {cv : Nat} {xs : List Value} {n : Nat} (hs : a.eval s = .slice Av n cv) (hn : xs.length = n * size) (hr : (SP.row e size (.slice Av n cv) xs).At w S)
    (A : Option Addr) (m c : Nat) (news : List Value) (hx : a.eval x = .slice A m c) (hl : news.length = m * size) (hnews : Rd w A news) (h1 : ∀ u ∈ news, u.oneCell' = true)
    (h63 : n + m ≤ maxLen) (hbytes : (n + m) * bytes ≤ 140737488355328)
    (h : ∀ A' c' w', (n + m ≤ cv → A' = Av ∧ c' = cv) → Keeps S w w' → (SP.row e size (.slice A' (n + m) c') (xs ++ news)).At w' (grow S w w') → wpList P ops Q rest (a.put o.dst (.slice A' (n + m) c')) w') : wpList P ops Q (o :: rest) a w :=
  wpList_plain hgd fun _ hK => wp_append_row s x t ho e z size bytes ht hinfo hzs hsz hs hn hr A m c news hx hl hnews h1 h63 hbytes fun A' c' w' h2 h3 h4 => hK _ _ (h A' c' w' h2 h3 h4)

/-- The same in a region that draws its order. -/
theorem step_append_row {E : Prop} (hgd : o.guard = none) (s x : Operand) (t : TypeId) (ho : o.op = .call { callee := .builtin .append, args := #[s, x], argTypes := #[t, t] })
    (e : TypeId) (z : Value) (size bytes : Nat) (ht : P.underlying t = some (.slice e)) (hinfo : (P.info? e).map (fun i => (i.zero, i.size, i.bytes)) = some (some z, size, bytes)) (hzs : z.cells.size = size) (hsz : 0 < size)
    {Av : Option Addr} {cv : Nat} {xs : List Value} {n : Nat} (hs : a.eval s = .slice Av n cv) (hn : xs.length = n * size) (hr : (SP.row e size (.slice Av n cv) xs).At w S)
    (A : Option Addr) (m c : Nat) (news : List Value) (hx : a.eval x = .slice A m c) (hl : news.length = m * size) (hnews : Rd w A news) (h1 : ∀ u ∈ news, u.oneCell' = true)
    (h63 : n + m ≤ maxLen) (hbytes : (n + m) * bytes ≤ 140737488355328)
    (h : ∀ A' c' w', (n + m ≤ cv → A' = Av ∧ c' = cv) → Keeps S w w' → (SP.row e size (.slice A' (n + m) c') (xs ++ news)).At w' (grow S w w') → K (a.put o.dst (.slice A' (n + m) c')) w') :
    if Region.wanted o (yielded ops a.tmps) = true then Oper.wp P o a w K Q else E := by
  have hw : Region.wanted o (yielded ops a.tmps) = true := by simp [Region.wanted, hgd]
  rw [if_pos hw]
  exact wp_append_row s x t ho e z size bytes ht hinfo hzs hsz hs hn hr A m c news hx hl hnews h1 h63 hbytes h

/-- One new element in a block of its own: what 'append(xs, x)' appends. -/
theorem rd_one (w : World) (x : Value) (t : TypeId) : Rd (w.alloc (.cells #[x] t)) (some ⟨w.heap.size, 0, none⟩) [x] := fun j u hu => by
  cases j with
  | zero => exact ⟨w.heap.size, 0, rfl, by simpa using hu⟩
  | succ j => simp at hu
theorem rd_at (w : World) (b : Nat) (x : Value) (h : w.cell? ⟨b, 0, none⟩ = some x) : Rd w (some ⟨b, 0, none⟩) [x] := fun j u hu => by
  cases j with
  | zero => exact ⟨b, 0, rfl, by rw [Nat.zero_add, h]; simpa using hu⟩
  | succ j => simp at hu
theorem rd_list (w : World) (cs : Array Value) (t : TypeId) : Rd (w.alloc (.cells cs t)) (some ⟨w.heap.size, 0, none⟩) cs.toList := fun j u hu =>
  ⟨w.heap.size, 0, rfl, by simpa using hu⟩

theorem run_clear_at (t ty e : TypeId) (i : TypeInfo) (z : Value) (size : Nat) (ht : P.underlying t = some (.slice e)) (hi : P.info? e = some i) (hz : i.zero = some z) (hzs : z.cells.size = size) (hz1 : ∀ u ∈ Builtin.zeroCells z.cells 1, u.oneCell' = true)
    (g off k c : Nat) (cur : Array Value) (hb : w.heap[g]? = some (.cells cur e (0, 0))) (hk : 0 < k) (hfit : off + k * size ≤ cur.size) :
    ∃ cs : List Value, cs.length = k * size ∧ (Builtin.clear_ #[t] ty #[.slice (some ⟨g, off, none⟩) k c]).run P w = .ok (.tuple #[]) (w.setRow g (cur.toList.take off ++ cs ++ cur.toList.drop (off + cs.length)).toArray) := by
  have hl : (Builtin.zeroCells z.cells k).toList.length = k * size := by rw [Array.length_toList, size_zeroCells, hzs]
  have h1 : ∀ u ∈ (Builtin.zeroCells z.cells k).toList, u.oneCell' = true := by
    intro u hu
    rcases Nat.eq_zero_or_pos z.cells.size with h0 | h0
    · have : (Builtin.zeroCells z.cells k).toList = [] := List.eq_nil_of_length_eq_zero (by rw [hl, ← hzs, h0, Nat.mul_zero])
      rw [this] at hu; simp at hu
    · apply hz1
      simp only [Builtin.zeroCells, Array.toList_map, List.mem_map, Array.mem_map, Array.mem_range, Array.mem_toList_iff] at hu ⊢
      obtain ⟨j, hj, rfl⟩ := hu
      exact ⟨j % z.cells.size, by rw [Nat.one_mul]; exact Nat.mod_lt _ h0, by rw [Nat.mod_mod]⟩
  refine ⟨(Builtin.zeroCells z.cells k).toList, hl, ?_⟩
  have hst := run_storeCells_at P g off e (Builtin.zeroCells z.cells k).toList 0 cur w hb (by rw [hl]; simpa using hfit) h1
  simp only [Nat.add_zero] at hst
  cases k with
  | zero => omega
  | succ k => simp [Builtin.clear_, run_underlying ht, zeroValue, typeInfo, hi, hz, hst]

theorem wpList_clear (hgd : o.guard = none) (x : Operand) (t : TypeId) (ho : o.op = .call { callee := .builtin .clear, args := #[x], argTypes := #[t] })
    (e : TypeId) (z : Value) (size bytes : Nat) (ht : P.underlying t = some (.slice e)) (hinfo : (P.info? e).map (fun i => (i.zero, i.size, i.bytes)) = some (some z, size, bytes)) (hzs : z.cells.size = size) (hz1 : ∀ u ∈ Builtin.zeroCells z.cells 1, u.oneCell' = true)
    (g off k c : Nat) (cur : Array Value) (hx : a.eval x = .slice (some ⟨g, off, none⟩) k c) (hb : w.heap[g]? = some (.cells cur e (0, 0))) (hk : 0 < k) (hfit : off + k * size ≤ cur.size)
    (h : ∀ cs : List Value, cs.length = k * size → wpList P ops Q rest (a.put o.dst (.tuple #[])) (w.setRow g (cur.toList.take off ++ cs ++ cur.toList.drop (off + cs.length)).toArray)) : wpList P ops Q (o :: rest) a w := by
  obtain ⟨i, hi, hz0, _, _⟩ := info_parts hinfo
  obtain ⟨cs, hl, hrun⟩ := run_clear_at (P := P) t o.type e i z size ht hi hz0 hzs hz1 g off k c cur hb hk hfit
  refine wpList_plain hgd fun K hK => ?_
  unfold Oper.wp execOp
  simp only [ho, resolve, invoke, builtin, Sem.run_bind, Sem.run_pure, Result.andThen_ok, List.map_toArray, List.map_cons, List.map_nil, hx, hrun]
  exact hK _ _ (h cs hl)

/-- Behind a store over cells that lie beyond a row's elements. -/
theorem row_beyond {e : TypeId} {size n c g off o' : Nat} {xs cs : List Value} {cur : Array Value} (hr : (SP.row e size (.slice (some ⟨g, off, none⟩) n c) xs).At w S) (hb : w.heap[g]? = some (.cells cur e (0, 0))) (ho' : off + n * size ≤ o') (hfit : o' + cs.length ≤ cur.size) :
    Keeps S w (w.setRow g (cur.toList.take o' ++ cs ++ cur.toList.drop (o' + cs.length)).toArray) ∧ (SP.row e size (.slice (some ⟨g, off, none⟩) n c) xs).At (w.setRow g (cur.toList.take o' ++ cs ++ cur.toList.drop (o' + cs.length)).toArray) S := by
  rcases hr with ⟨h, _⟩ | ⟨g', off', n', cap, cur', h, hg, hb', h1, h2, h3, h4, hx⟩
  · cases h
  · injection h with ha hn hc
    injection ha with ha
    injection ha with hgg hoo
    subst hgg hoo hn hc
    rw [hb] at hb'
    injection hb' with hb'
    injection hb' with hb'
    subst hb'
    refine ⟨(Keeps.refl S w).setRow hg _, .inr ⟨g, off, n, c, _, rfl, hg, heap_setRow w g cur _ e hb, h1, h2, ?_, h4, ?_⟩⟩
    · simp only [List.size_toArray, List.length_append, List.length_take, List.length_drop, Array.length_toList]
      omega
    · rw [← hx]
      apply List.ext_getElem?
      intro j
      simp only [List.getElem?_take, List.getElem?_drop]
      by_cases hj : j < n * size
      · simp only [hj, if_true]
        rw [List.append_assoc, List.getElem?_append_left (by rw [List.length_take, Array.length_toList]; omega), List.getElem?_take, if_pos (by omega)]
      · simp [hj]
/-- 'clear' over a row's spare: the row stays. -/
theorem run_clear_row (t ty e : TypeId) (z : Value) (size bytes : Nat) (ht : P.underlying t = some (.slice e)) (hinfo : (P.info? e).map (fun i => (i.zero, i.size, i.bytes)) = some (some z, size, bytes)) (hzs : z.cells.size = size) (hz1 : ∀ u ∈ Builtin.zeroCells z.cells 1, u.oneCell' = true)
    {n c g off : Nat} {xs : List Value} (hr : (SP.row e size (.slice (some ⟨g, off, none⟩) n c) xs).At w S) (p k c2 o' : Nat) (hp : n ≤ p) (hk : 0 < k) (hpk : p + k ≤ c) (ho : o' = off + p * size) :
    ∃ w', (Builtin.clear_ #[t] ty #[.slice (some ⟨g, o', none⟩) k c2]).run P w = .ok (.tuple #[]) w' ∧ Keeps S w w' ∧ (SP.row e size (.slice (some ⟨g, off, none⟩) n c) xs).At w' S := by
  subst ho
  obtain ⟨i, hi, hz0, _, _⟩ := info_parts hinfo
  have hr0 := hr
  rcases hr with ⟨h, _⟩ | ⟨g', off', n', cap, cur, h, hg, hb, h1, h2, h3, h4, hx⟩
  · cases h
  · injection h with ha hn hc
    injection ha with ha
    injection ha with hgg hoo
    subst hgg hoo hn hc
    have hle : (p + k) * size ≤ c * size := Nat.mul_le_mul_right _ hpk
    have hle2 : n * size ≤ p * size := Nat.mul_le_mul_right _ hp
    rw [Nat.add_mul] at hle
    obtain ⟨cs, hcs, hrun⟩ := run_clear_at (P := P) t ty e i z size ht hi hz0 hzs hz1 g (off + p * size) k c2 cur hb hk (by omega)
    obtain ⟨h5, h6⟩ := row_beyond (cs := cs) hr0 hb (o' := off + p * size) (by omega) (by omega)
    exact ⟨_, hrun, h5, h6⟩
end
end Go.Proofs.Ytbncicfbgfmekaa

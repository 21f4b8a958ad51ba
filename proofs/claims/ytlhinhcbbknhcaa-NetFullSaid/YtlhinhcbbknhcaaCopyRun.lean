/-
  The builtin copy in a walk, where its run is known; two blocks that are owned lie apart.
  Conditions: none beyond each theorem's own.
-/
import Derived.Test.YtlhinhcbbknhcaaCopyOwn
namespace Go.Proofs.Ytlhinhcbbknhcaa
set_option linter.unusedVariables false
set_option linter.unusedSimpArgs false
open Go.RowKit

section
variable {P : Program}
theorem wp_copy_run (w : World) {o : Oper} {a : Act} {K : Act → World → Prop} {Q : Exit → Act → World → Prop} (d s : Operand) (t t' : TypeId)
    (ho : o.op = .call { callee := .builtin .copy, args := #[d, s], argTypes := #[t, t'] }) (v u : Value) (hd : a.eval d = v) (hs : a.eval s = u) {v' : Value} {w' : World}
    (hr : (Builtin.copy_ #[t, t'] o.type #[v, u]).run P w = .ok v' w') (h : K (a.put o.dst v') w') : o.wp P a w K Q := by
  unfold Oper.wp execOp
  simp only [ho, resolve, invoke, builtin, Sem.run_bind, Sem.run_pure, Result.andThen_ok, List.map_toArray, List.map_cons, List.map_nil, hd, hs, hr]
  exact h
theorem wpList_copy_run (w : World) {ops : Array Oper} {rest : List Oper} {o : Oper} {a : Act} {Q : Exit → Act → World → Prop} (hgd : o.guard = none) (d s : Operand) (t t' : TypeId)
    (ho : o.op = .call { callee := .builtin .copy, args := #[d, s], argTypes := #[t, t'] }) (v u : Value) (hd : a.eval d = v) (hs : a.eval s = u) {v' : Value} {w' : World}
    (hr : (Builtin.copy_ #[t, t'] o.type #[v, u]).run P w = .ok v' w') (h : wpList P ops Q rest (a.put o.dst v') w') : wpList P ops Q (o :: rest) a w :=
  wpList_plain hgd fun _ hK => wp_copy_run w d s t t' ho v u hd hs hr (hK _ _ h)
theorem step_copy_run {ops : Array Oper} {o : Oper} {a : Act} {w : World} {K : Act → World → Prop} {Q : Exit → Act → World → Prop} {E : Prop}
    (hg : o.guard = none) (d x : Operand) (dT sT : TypeId) (hop : o.op = Op.call { callee := Callee.builtin Builtin.copy, args := #[d, x], argTypes := #[dT, sT] })
    (v u : Value) (hd : a.eval d = v) (hx : a.eval x = u) {v' : Value} {w' : World} (hr : (Builtin.copy_ #[dT, sT] o.type #[v, u]).run P w = .ok v' w') (hK : K (a.put o.dst v') w') :
    if Region.wanted o (yielded ops a.tmps) = true then Oper.wp P o a w K Q else E := by
  have hw : Region.wanted o (yielded ops a.tmps) = true := by simp [Region.wanted, hg]
  rw [if_pos hw]
  unfold Oper.wp
  simp [execOp, hop, resolve, invoke, builtin, hd, hx, hr, Result.andThen]
  exact hK
end

section
variable {S : Nat → Prop} {w0 w : World} {R : List SP}
theorem Own.row_apart {e t : TypeId} {size n c b off g : Nat} {xs : List Value} {cs : Array Value} (h : Own S w0 w (SP.row e size (.slice (some ⟨b, off, none⟩) n c) xs :: SP.blk g t cs :: R)) : g ≠ b := by
  obtain ⟨-, -, S1, S2, h1, h2, hd, ha, hr⟩ := h
  rcases ha with ⟨h, _⟩ | ⟨g', off', n', cap, cur, h, hg, _⟩
  · cases h
  · cases h
    rintro rfl
    exact hd _ hg (SP.sep_left hr).1
theorem Own.blk_shape {t : TypeId} {g : Nat} {cs : Array Value} (h : Own S w0 w (SP.blk g t cs :: R)) : w.shape? g = some (t, cs.size) := by
  unfold World.shape?
  rw [h.head.2]
theorem Own.row_block {e : TypeId} {size n c b off : Nat} {xs : List Value} (h : Own S w0 w (SP.row e size (.slice (some ⟨b, off, none⟩) n c) xs :: R)) : ∃ k, w.shape? b = some (e, k) ∧ off + c * size ≤ k ∧ ∀ j, w.frozen? ⟨b, j, none⟩ = false := by
  rcases h.head with ⟨h1, _⟩ | ⟨g', off', n', cap, cur, h1, hg, hb, b1, b2, b3, b4, hx⟩
  · cases h1
  · cases h1
    refine ⟨cur.size, ?_, b3, fun j => frozen_of_row w b j cur e hb⟩
    unfold World.shape?
    rw [hb]
end
theorem drew_setCells (b : Nat) : ∀ (vs : List Value) (o : Nat) (w : World), (w.setCells b o vs).drew = w.drew.setCells b o vs
  | [], _, _ => rfl
  | v :: r, o, w => by rw [World.setCells, World.setCells, drew_setCells b r]; rfl
theorem isSome_setCells (b : Nat) (vs : List Value) (o : Nat) (w : World) (h : ∀ j, j < vs.length → (w.cell? ⟨b, o + j, none⟩).isSome = true) (k : Nat) (hk : (w.cell? ⟨b, k, none⟩).isSome = true) : ((w.setCells b o vs).cell? ⟨b, k, none⟩).isSome = true := by
  by_cases hin : o ≤ k ∧ k < o + vs.length
  · have := World.cell?_setCells_in b vs o w h (k - o) (by omega)
    rw [show o + (k - o) = k by omega] at this
    rw [this]; rfl
  · rw [World.cell?_setCells_out b vs o w ⟨b, k, none⟩ (fun _ _ => by show k < o ∨ o + vs.length ≤ k; omega)]
    exact hk
theorem shift_list (xs ys news : List Value) (i n k : Nat) (hn : xs.length = n * k) (hy : ys.length = k) (hw : news.length = k) (hi : i < n) :
    ((((xs ++ ys).take ((i + 1) * k) ++ xs.drop (i * k) ++ (xs ++ ys).drop ((i + 1) * k + (xs.drop (i * k)).length)).take (i * k)) ++ news ++
      ((xs ++ ys).take ((i + 1) * k) ++ xs.drop (i * k) ++ (xs ++ ys).drop ((i + 1) * k + (xs.drop (i * k)).length)).drop (i * k + news.length)) = xs.take (i * k) ++ news ++ xs.drop (i * k) := by
  have hle : (i + 1) * k ≤ n * k := Nat.mul_le_mul_right _ hi
  rw [Nat.add_mul, Nat.one_mul] at hle
  have e1 : (xs ++ ys).drop ((i + 1) * k + (xs.drop (i * k)).length) = [] := by
    apply List.drop_eq_nil_of_le
    rw [List.length_append, List.length_drop, hn, hy, Nat.add_mul, Nat.one_mul]
    omega
  rw [e1, List.append_nil]
  have hl : ((xs ++ ys).take ((i + 1) * k)).length = i * k + k := by
    rw [List.length_take, List.length_append, hn, hy, Nat.add_mul, Nat.one_mul]; omega
  rw [List.take_append_of_le_length (by rw [hl]; omega), List.take_take, Nat.min_eq_left (by rw [Nat.add_mul]; omega), List.take_append_of_le_length (by omega)]
  rw [hw, ← hl, List.drop_left]
end Go.Proofs.Ytlhinhcbbknhcaa

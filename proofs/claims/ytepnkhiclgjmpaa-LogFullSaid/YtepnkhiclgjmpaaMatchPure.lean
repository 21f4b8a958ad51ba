/-
  Several logs, each term's entries appended by one of them: where two have an index with one term, they have the same entries up to it. No program stands here.
  Conditions: none beyond each theorem's own.
-/
import Derived.Test.YtepnkhiclgjmpaaHandsPure
namespace Go.Proofs.Ytepnkhiclgjmpaa
set_option linter.unusedVariables false
set_option linter.unusedSimpArgs false
open Go.RowKit

structure GoodL (x : Lg) (T : Int) : Prop where
  ok : x.Ok
  i0 : x.index = 0
  t0 : x.term = 0
  c0 : x.c = 0
  le : ∀ e, e ∈ x.L → 1 ≤ e.term ∧ e.term ≤ T
def Agree (a b : Lg) : Prop := ∀ (j : Nat) (e f : E), a.L[j]? = some e → b.L[j]? = some f → e.term = f.term → a.L.take (j + 1) = b.L.take (j + 1)
theorem Agree.refl (a : Lg) : Agree a a := fun _ _ _ _ _ _ => rfl
theorem Agree.symm {a b : Lg} (h : Agree a b) : Agree b a := fun j e f he hf ht => (h j f e hf he ht.symm).symm
theorem Agree.of_L {a b c : Lg} (h : Agree a b) (hc : c.L = a.L) : Agree c b := fun j e f he hf ht => by rw [hc] at he ⊢; exact h j e f he hf ht
theorem Agree.of_take {a b c : Lg} (h : Agree a b) (q : Nat) (hc : c.L = a.L.take q) : Agree c b := fun j e f he hf ht => by
  rw [hc, List.getElem?_take] at he
  split at he
  · rename_i hj
    rw [hc, List.take_take, Nat.min_eq_left (by omega)]
    exact h j e f he hf ht
  · cases he

/-- Five logs, the term now, the one who leads; unless the leader was given anything, the entries of the term lie in its log. -/
structure MInv (xs : List Lg) (T : Int) (ld : Nat) (gv : Bool) : Prop where
  good : ∀ (k : Nat) (x : Lg), xs[k]? = some x → GoodL x T
  agree : ∀ (k m : Nat) (x y : Lg), xs[k]? = some x → xs[m]? = some y → Agree x y
  own : gv = false → ∀ z, xs[ld]? = some z → ∀ (k : Nat) (x : Lg) (j : Nat) (e : E), xs[k]? = some x → x.L[j]? = some e → e.term = T → j < z.L.length

theorem MInv.set {xs : List Lg} {T : Int} {ld : Nat} {gv : Bool} (H : MInv xs T ld gv) {k : Nat} {x' : Lg} (gv' : Bool) (hg : GoodL x' T) (ha : ∀ (m : Nat) (y : Lg), xs[m]? = some y → m ≠ k → Agree x' y)
    (ho : gv' = false → ∀ z, (xs.set k x')[ld]? = some z → ∀ (m : Nat) (x : Lg) (j : Nat) (e : E), (xs.set k x')[m]? = some x → x.L[j]? = some e → e.term = T → j < z.L.length) : MInv (xs.set k x') T ld gv' := by
  have hs : ∀ (m : Nat) (y : Lg), (xs.set k x')[m]? = some y → (m = k ∧ y = x') ∨ (m ≠ k ∧ xs[m]? = some y) := fun m y h => by
    rw [List.getElem?_set] at h
    by_cases hm : k = m
    · rw [if_pos hm] at h
      split at h
      · injection h with h; exact .inl ⟨hm.symm, h.symm⟩
      · cases h
    · rw [if_neg hm] at h; exact .inr ⟨fun h' => hm h'.symm, h⟩
  refine ⟨fun m y hy => ?_, fun m n y z hy hz => ?_, ho⟩
  · rcases hs m y hy with ⟨-, rfl⟩ | ⟨-, h⟩
    · exact hg
    · exact H.good m y h
  · rcases hs m y hy with ⟨-, rfl⟩ | ⟨hm, h⟩
    · rcases hs n z hz with ⟨-, rfl⟩ | ⟨hn, h'⟩
      · exact Agree.refl _
      · exact ha n z h' hn
    · rcases hs n z hz with ⟨-, rfl⟩ | ⟨hn, h'⟩
      · exact (ha m y h hm).symm
      · exact H.agree m n y z h h'

theorem append_ways2 (x : Lg) (t k : Int) (d : List UInt8) : (x.append t k d).2 = x ∨ ((x.append t k d).2 = { x with L := x.L ++ [⟨t, x.lastI + 1, k, d⟩] } ∧ 1 ≤ t) := by
  unfold Lg.append
  split
  · exact .inl rfl
  · split
    · exact .inl rfl
    · split
      · exact .inl rfl
      · split
        · exact .inl rfl
        · rename_i h1 h2 h3 h4
          exact .inr ⟨rfl, (Classical.byContradiction fun h => h3 (.inr (fun h' => h h'.1)))⟩
theorem MInv.append {xs : List Lg} {T : Int} {ld : Nat} (H : MInv xs T ld false) {x : Lg} (hx : xs[ld]? = some x) (k : Int) (d : List UInt8) : MInv (xs.set ld (x.append T k d).2) T ld false := by
  have hld := (List.getElem?_eq_some_iff.1 hx).1
  rcases append_ways2 x T k d with h | ⟨h, hT⟩
  · rw [h]
    have : xs.set ld x = xs := by
      apply List.ext_getElem?
      intro m
      rw [List.getElem?_set]
      by_cases hm : ld = m
      · subst hm; rw [if_pos rfl, if_pos hld, hx]
      · rw [if_neg hm]
    rw [this]; exact H
  · have hok := append_isOk (H.good ld x hx).ok T k d
    have hg := H.good ld x hx
    rw [h] at hok ⊢
    refine H.set false ⟨hok, hg.i0, hg.t0, hg.c0, fun e he => ?_⟩ (fun m y hy hm j e f he hf ht => ?_) (fun _ z hz m y j e hy he ht => ?_)
    · rcases List.mem_append.1 he with he | he
      · exact hg.le e he
      · simp only [List.mem_singleton] at he
        subst he
        exact ⟨hT, Int.le_refl _⟩
    · by_cases hj : j < x.L.length
      · have he' : x.L[j]? = some e := by
          have := he
          simp only [List.getElem?_append_left hj] at this
          exact this
        show (x.L ++ [_]).take (j + 1) = _
        rw [List.take_append_of_le_length (by omega)]
        exact H.agree ld m x y hx hy j e f he' hf ht
      · have hj2 : j = x.L.length := by
          have := (List.getElem?_eq_some_iff.1 he).1
          simp at this; omega
        subst hj2
        simp only [List.getElem?_append_right (Nat.le_refl _), Nat.sub_self, List.getElem?_cons_zero, Option.some.injEq] at he
        subst he
        have := H.own rfl x hx m y _ f hy hf ht.symm
        omega
    · have hz' : z = { x with L := x.L ++ [⟨T, x.lastI + 1, k, d⟩] } := by
        rw [List.getElem?_set, if_pos rfl, if_pos hld] at hz
        injection hz with hz; exact hz.symm
      subst hz'
      show j < (x.L ++ [_]).length
      rw [List.length_append]
      rw [List.getElem?_set] at hy
      by_cases hm : ld = m
      · rw [if_pos hm, if_pos hld] at hy
        injection hy with hy
        subst hy
        have := (List.getElem?_eq_some_iff.1 he).1
        simp at this ⊢; omega
      · rw [if_neg hm] at hy
        have := H.own rfl x hx m y j e hy he ht
        omega
theorem MInv.next {xs : List Lg} {T : Int} {ld : Nat} {gv : Bool} (H : MInv xs T ld gv) (ld' : Nat) (gv' : Bool) : MInv xs (T + 1) ld' gv' := by
  refine ⟨fun k x hx => ?_, H.agree, fun _ z hz k x j e hx he ht => ?_⟩
  · have h := H.good k x hx
    exact ⟨h.ok, h.i0, h.t0, h.c0, fun e he => by have := h.le e he; omega⟩
  · have := (H.good k x hx).le e (List.mem_of_getElem? he)
    omega

/-! ### What one log gives another -/
def gave (x : Lg) (n m : Nat) : List E := (x.L.drop n).take m
theorem gave_tried {x : Lg} {T : Int} (h : GoodL x T) (n m : Nat) : Tried (n : Int) (gave x n m) := by
  refine ⟨fun j e he => ?_, fun e he => h.ok.dat e (List.mem_of_mem_drop (List.mem_of_mem_take he))⟩
  have he' := he
  unfold gave at he'
  rw [List.getElem?_take] at he'
  split at he'
  · rw [List.getElem?_drop] at he'
    have := h.ok.idx _ e he'
    rw [h.i0] at this
    omega
  · cases he'
theorem has_at {y : Lg} {k : Nat} {e : E} (hi : y.index = 0) {i t : Int} (h : y.has i t = true) (hk : i = (k : Int) + 1) : ∃ f, y.L[k]? = some f ∧ f.term = t := by
  subst hk
  simp only [Lg.has, Lg.at, Lg.entry?, hi, decide_eq_true_eq] at h
  rw [if_neg (by omega), if_neg (by omega), if_pos (by omega), show ((k : Int) + 1 - 0 - 1).toNat = k by omega] at h
  cases hf : y.L[k]? with
  | none => rw [hf] at h; simp at h
  | some f => rw [hf] at h; exact ⟨f, rfl, h.2⟩
theorem at_of {x : Lg} (hi : x.index = 0) (ht : x.term = 0) (n : Nat) (hn : n ≤ x.L.length) : (n = 0 ∧ (x.at (n : Int)).1 = 0) ∨ ∃ k e, n = k + 1 ∧ x.L[k]? = some e ∧ (x.at (n : Int)).1 = e.term := by
  cases n with
  | zero => left; refine ⟨rfl, ?_⟩; simp [Lg.at, hi, ht]
  | succ k =>
    right
    obtain ⟨e, he⟩ : ∃ e, x.L[k]? = some e := ⟨_, List.getElem?_eq_getElem (by omega)⟩
    exact ⟨k, e, rfl, he, by rw [at_row he (by rw [hi]; omega)]⟩
theorem commit_zero {y : Lg} (h : y.c = 0) (n : Int) (hn : 0 ≤ n) : (y.commit (min 0 n)).2 = y := by
  unfold Lg.commit
  rw [if_pos (by rw [h]; omega)]
theorem gives_L {x y : Lg} {T : Int} (hx : GoodL x T) (hy : GoodL y T) (ha : Agree x y) (n m : Nat) (hn : n ≤ x.L.length) :
    GoodL (y.try_ n (x.at n).1 0 (gave x n m)).2 T ∧ ((y.try_ n (x.at n).1 0 (gave x n m)).2.L = y.L ∨ ∃ q, (y.try_ n (x.at n).1 0 (gave x n m)).2.L = x.L.take q) := by
  have ht := gave_tried hx n m
  rcases try_ways y n (x.at n).1 0 (gave x n m) with h | ⟨-, -, h⟩ | ⟨j, p, h1, h2, h3, h4, h⟩
  · rw [h]; exact ⟨hy, .inl rfl⟩
  · rw [h, show ((((n : Int) + ((gave x n m).length : Int), true), (y.commit (min 0 ((n : Int) + ((gave x n m).length : Int)))).2) : (Int × Bool) × Lg).2 = y from commit_zero hy.c0 _ (by omega)]
    exact ⟨hy, .inl rfl⟩
  · have hok := lay_isOk hy.ok ht h1 h2 h3 h4
    have hfr := tried_front ht h1 h2 h3
    have hpi := (ht.idx j p h3).1
    have hwi := has_within h1
    have hyi := hy.i0
    have hf : p.index - 1 = y.index + ((n + j : Nat) : Int) := by omega
    have hfl : n + j ≤ y.L.length := by unfold Lg.lastI at hfr; omega
    obtain ⟨hL, -⟩ := lay_idx hy.ok ht h3 hf hfl
    -- the two have the same entries ahead
    have htk : x.L.take (n + j) = y.L.take (n + j) := by
      cases j with
      | zero =>
        rcases at_of hx.i0 hx.t0 n hn with ⟨rfl, -⟩ | ⟨k, e, rfl, he, hte⟩
        · simp
        · rw [hte] at h1
          obtain ⟨f, hf1, hf2⟩ := has_at (e := e) hyi h1 (k := k) (by omega)
          exact ha k e f he hf1 hf2.symm
      | succ j =>
        obtain ⟨q, hq⟩ : ∃ q, (gave x n m)[j]? = some q := ⟨_, List.getElem?_eq_getElem (by have := (List.getElem?_eq_some_iff.1 h3).1; omega)⟩
        have hh := skip_had (x := y) (gave x n m) j q (by omega) hq
        have hqi := (ht.idx j q hq).1
        have hqx : x.L[n + j]? = some q := by
          have := hq
          unfold gave at this
          rw [List.getElem?_take] at this
          split at this
          · rw [List.getElem?_drop] at this; exact this
          · cases this
        obtain ⟨f, hf1, hf2⟩ := has_at (e := q) hyi hh (k := n + j) (by omega)
        exact ha (n + j) q f hqx hf1 hf2.symm
    have hLx : (y.lay p.index ((gave x n m).drop j)).L = x.L.take (n + m) := by
      rw [hL, ← htk]
      unfold gave
      rw [List.drop_take, List.drop_drop]
      have hjm : j < m := by
        have := (List.getElem?_eq_some_iff.1 h3).1
        unfold gave at this
        rw [List.length_take] at this; omega
      rw [show n + m = (n + j) + (m - j) by omega]
      exact List.take_add.symm
    have hc : (y.lay p.index ((gave x n m).drop j)).c = 0 := hy.c0
    rw [h, show ((((n : Int) + ((gave x n m).length : Int), true), ((y.lay p.index ((gave x n m).drop j)).commit (min 0 ((n : Int) + ((gave x n m).length : Int)))).2) : (Int × Bool) × Lg).2 = y.lay p.index ((gave x n m).drop j) from commit_zero hc _ (by omega)]
    refine ⟨⟨hok, hy.i0, hy.t0, hy.c0, fun e he => ?_⟩, .inr ⟨n + m, hLx⟩⟩
    rw [hLx] at he
    exact hx.le e (List.mem_of_mem_take he)
theorem MInv.gives {xs : List Lg} {T : Int} {ld : Nat} {gv : Bool} (H : MInv xs T ld gv) {f t : Nat} {x y : Lg} (hx : xs[f]? = some x) (hy : xs[t]? = some y) (n m : Nat) (hn : n ≤ x.L.length) :
    MInv (xs.set t (y.try_ n (x.at n).1 0 (gave x n m)).2) T ld (gv || decide (t = ld)) := by
  obtain ⟨hg, hw⟩ := gives_L (H.good f x hx) (H.good t y hy) (H.agree f t x y hx hy) n m hn
  have htl := (List.getElem?_eq_some_iff.1 hy).1
  refine H.set _ hg (fun k z hz hk => ?_) (fun hgv z hz k u j e hu he ht => ?_)
  · rcases hw with h | ⟨q, h⟩
    · exact (H.agree t k y z hy hz).of_L h
    · exact (H.agree f k x z hx hz).of_take q h
  · simp only [Bool.or_eq_false_iff, decide_eq_false_iff_not] at hgv
    rw [List.getElem?_set, if_neg hgv.2] at hz
    rw [List.getElem?_set] at hu
    by_cases hk : t = k
    · rw [if_pos hk, if_pos htl] at hu
      injection hu with hu
      subst hu
      rcases hw with h | ⟨q, h⟩
      · rw [h] at he
        exact H.own hgv.1 z hz t y j e hy he ht
      · rw [h, List.getElem?_take] at he
        split at he
        · exact H.own hgv.1 z hz f x j e hx he ht
        · cases he
    · rw [if_neg hk] at hu
      exact H.own hgv.1 z hz k u j e hu he ht

/-! ### Where two logs have an index with one term -/
theorem agree_has {a b : Lg} {T : Int} (ha : GoodL a T) (hb : GoodL b T) (h : Agree a b) {k : Nat} (hk : k ≤ a.L.length) (hh : b.has k (a.at k).1 = true) : a.L.take k = b.L.take k := by
  rcases at_of ha.i0 ha.t0 k hk with ⟨rfl, -⟩ | ⟨j, e, rfl, he, hte⟩
  · simp
  · rw [hte] at hh
    obtain ⟨f, hf1, hf2⟩ := has_at (e := e) hb.i0 hh (k := j) (by omega)
    exact h j e f he hf1 hf2.symm
theorem MInv.start : MInv (List.replicate 5 (bLog [])) 0 0 true := by
  have hs : ∀ (k : Nat) (x : Lg), (List.replicate 5 (bLog []))[k]? = some x → x = bLog [] := fun k x h => by
    rw [List.getElem?_replicate] at h
    split at h
    · injection h with h; exact h.symm
    · cases h
  refine ⟨fun k x h => ?_, fun k m x y hx hy => ?_, fun h => by cases h⟩
  · rw [hs k x h]
    exact ⟨bLog_nil_ok, rfl, rfl, rfl, fun e he => by simp [bLog, bEnts] at he⟩
  · rw [hs k x hx, hs m y hy]; exact Agree.refl _
end Go.Proofs.Ytepnkhiclgjmpaa

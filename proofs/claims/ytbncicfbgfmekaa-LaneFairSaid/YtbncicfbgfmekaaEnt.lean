/-
  A square of numbers, entry by entry; and lanes in turn, in plain numbers.
  Conditions: none beyond each theorem's own.
-/
import Derived.Test.YtbncicfbgfmekaaLaoMore
namespace Go.Proofs.Ytbncicfbgfmekaa
set_option linter.unusedVariables false
set_option linter.unusedSimpArgs false

def Ent (K : Nat) (P : Nat → Nat → Int → Prop) (W : List (List Int)) : Prop := W.length = K ∧ ∀ x r, W[x]? = some r → r.length = K ∧ ∀ y v, r[y]? = some v → P x y v
theorem lt_of_some {α : Type} {l : List α} {i : Nat} {x : α} (h : l[i]? = some x) : i < l.length := (List.getElem?_eq_some_iff.1 h).1
theorem Ent.mono {K : Nat} {P P' : Nat → Nat → Int → Prop} {W : List (List Int)} (h : Ent K P W) (hp : ∀ x y v, x < K → y < K → P x y v → P' x y v) : Ent K P' W := by
  refine ⟨h.1, fun x r hx => ?_⟩
  obtain ⟨h1, h2⟩ := h.2 x r hx
  refine ⟨h1, fun y v hy => hp x y v ?_ ?_ (h2 y v hy)⟩
  · have := lt_of_some hx; have := h.1; omega
  · have := lt_of_some hy; omega
theorem Ent.set {K : Nat} {P P' : Nat → Nat → Int → Prop} {W : List (List Int)} {x y : Nat} {r : List Int} {u : Int} (h : Ent K P W) (hr : W[x]? = some r)
    (hp : ∀ x' y' v, x' < K → y' < K → ¬ (x' = x ∧ y' = y) → P x' y' v → P' x' y' v) (hu : P' x y u) : Ent K P' (W.set x (r.set y u)) := by
  refine ⟨by rw [List.length_set]; exact h.1, fun x' r' hx' => ?_⟩
  have hW := h.1
  have hxK := lt_of_some hr
  rw [List.getElem?_set] at hx'
  by_cases hxx : x = x'
  · subst hxx
    simp only [hxK, if_true] at hx'
    injection hx' with hx'
    subst hx'
    obtain ⟨h1, h2⟩ := h.2 x r hr
    refine ⟨by rw [List.length_set]; exact h1, fun y' v hy' => ?_⟩
    rw [List.getElem?_set] at hy'
    by_cases hyy : y = y'
    · subst hyy
      simp only [if_true] at hy'
      split at hy'
      · injection hy' with hy'
        subst hy'
        exact hu
      · cases hy'
    · rw [if_neg hyy] at hy'
      exact hp x y' v (by omega) (by have := lt_of_some hy'; omega) (fun hh => hyy hh.2.symm) (h2 y' v hy')
  · rw [if_neg hxx] at hx'
    obtain ⟨h1, h2⟩ := h.2 x' r' hx'
    exact ⟨h1, fun y' v hy' => hp x' y' v (by have := lt_of_some hx'; omega) (by have := lt_of_some hy'; omega) (fun hh => hxx hh.1.symm) (h2 y' v hy')⟩
theorem Ent.get {K : Nat} {P : Nat → Nat → Int → Prop} {W : List (List Int)} {x y : Nat} (h : Ent K P W) (hx : x < K) (hy : y < K) : ∃ r v, W[x]? = some r ∧ r[y]? = some v ∧ r.length = K ∧ P x y v := by
  obtain ⟨r, hr⟩ : ∃ r, W[x]? = some r := ⟨_, List.getElem?_eq_getElem (by rw [h.1]; exact hx)⟩
  obtain ⟨h1, h2⟩ := h.2 x r hr
  obtain ⟨v, hv⟩ : ∃ v, r[y]? = some v := ⟨_, List.getElem?_eq_getElem (by rw [h1]; exact hy)⟩
  exact ⟨r, v, hr, hv, h1, h2 y v hv⟩
theorem Ent.zero (K : Nat) (P : Nat → Nat → Int → Prop) (hp : ∀ x y, P x y 0) : Ent K P (List.replicate K (List.replicate K 0)) := by
  refine ⟨by simp, fun x r hx => ?_⟩
  rw [List.getElem?_replicate] at hx
  split at hx
  · injection hx with hx
    subst hx
    refine ⟨by simp, fun y v hy => ?_⟩
    rw [List.getElem?_replicate] at hy
    split at hy
    · injection hy with hy
      subst hy
      exact hp x y
    · cases hy
  · cases hx

/-- How far a lane is from the one that is next. -/
def rank (K next x : Nat) : Nat := if x < next then x + K - next else x - next
theorem mod_if {n K : Nat} (h : n < 2 * K) : n % K = if n < K then n else n - K := by
  split
  · rename_i h1; exact Nat.mod_eq_of_lt h1
  · rename_i h1
    rw [Nat.mod_eq_sub_mod (by omega), Nat.mod_eq_of_lt (by omega)]
theorem rank_of {K next j : Nat} (hn : next ≤ K) (hj : j < K) : rank K next ((next + j) % K) = j := by
  rw [mod_if (by omega)]
  unfold rank
  split <;> split <;> omega
theorem rank_back {K next b : Nat} (hn : next ≤ K) (hb : b < K) : (next + rank K next b) % K = b ∧ rank K next b < K := by
  have hr : rank K next b < K := by unfold rank; split <;> omega
  refine ⟨?_, hr⟩
  rw [mod_if (by omega)]
  unfold rank
  split <;> split <;> omega

/-- An entry between two takings; within the first walk over the square; behind it. -/
def entO (rx ry : Nat) (v : Int) : Prop := v = 0 ∨ (v = 1 ∧ ry < rx)
def entA (a b x y hy rx ry : Nat) (v : Int) : Prop := (y = a ∧ x < b ∧ v = 0) ∨ (x = a ∧ y < b ∧ y ≠ a ∧ (v = 1 ∨ (hy = 0 ∧ 0 ≤ v ∧ v ≤ 1))) ∨ (¬ (y = a ∧ x < b) ∧ ¬ (x = a ∧ y < b ∧ y ≠ a) ∧ entO rx ry v)
def entB (a b x y hy rx ry : Nat) (v : Int) : Prop := (y = a ∧ x < b + 1 ∧ v = 0) ∨ (x = a ∧ y < b ∧ y ≠ a ∧ (v = 1 ∨ (hy = 0 ∧ 0 ≤ v ∧ v ≤ 1))) ∨ (¬ (y = a ∧ x < b + 1) ∧ ¬ (x = a ∧ y < b ∧ y ≠ a) ∧ entO rx ry v)
def entF (hy rx ry : Nat) (v : Int) : Prop := (v = 0 ∨ (v = 1 ∧ ry < rx)) ∨ hy = 0
def entG (x0 y0 x y hy rx ry : Nat) (v : Int) : Prop := (x < x0 ∨ (x = x0 ∧ y < y0) → entO rx ry v) ∧ entF hy rx ry v

theorem entA_start {a x y hy rx ry : Nat} {v : Int} (h : entO rx ry v) : entA a 0 x y hy rx ry v := .inr (.inr ⟨by omega, by omega, h⟩)
theorem entA_B {a b x y hy rx ry : Nat} {v : Int} (h : entA a b x y hy rx ry v) (hn : ¬ (x = b ∧ y = a)) : entB a b x y hy rx ry v := by
  unfold entA entO at h; unfold entB entO; omega
theorem entB_zero {a b hy rx ry : Nat} : entB a b b a hy rx ry 0 := .inl ⟨rfl, by omega, rfl⟩
theorem entB_A {a b x y hy rx ry : Nat} {v : Int} (h : entB a b x y hy rx ry v) (hn : ¬ (x = a ∧ y = b) ∨ a = b ∨ hy = 0) : entA a (b + 1) x y hy rx ry v := by
  unfold entB entO at h; unfold entA entO; omega
theorem entB_row {a b hy rx ry : Nat} {v : Int} (h : entB a b a b hy rx ry v) (hab : b ≠ a) (hry : hy ≠ 0 → ¬ ry < rx) (hne : hy ≠ 0) : v = 0 := by
  unfold entB entO at h; have := hry hne; omega
theorem entB_le {a b hy rx ry : Nat} {v : Int} (h : entB a b a b hy rx ry v) : 0 ≤ v ∧ v ≤ 1 := by
  unfold entB entO at h; omega
theorem entA_one {a b hy rx ry : Nat} (hab : b ≠ a) : entA a (b + 1) a b hy rx ry 1 := .inr (.inl ⟨rfl, by omega, hab, .inl rfl⟩)

theorem rank_lt {K next b : Nat} (hn : next ≤ K) (hb : b < K) : rank K next b < K := (rank_back hn hb).2
/-- Behind the first walk, in the new order. -/
theorem entA_F {K next a x y hy : Nat} {v : Int} (hn : next ≤ K) (ha : a < K) (hx : x < K) (hyK : y < K) (h : entA a K x y hy (rank K next x) (rank K next y) v) (hlow : rank K next y < rank K next a → hy = 0) :
    entF hy (rank K (a + 1) x) (rank K (a + 1) y) v := by
  unfold entA entO at h
  unfold entF
  by_cases hh : hy = 0
  · exact .inr hh
  · left
    by_cases hya : y = a
    · left; omega
    · by_cases hxa : x = a
      · have : v = 1 := by omega
        right
        refine ⟨this, ?_⟩
        unfold rank
        split <;> split <;> omega
      · have h1 : v = 0 ∨ (v = 1 ∧ rank K next y < rank K next x) := by omega
        rcases h1 with h1 | ⟨h1, h2⟩
        · exact .inl h1
        · right
          refine ⟨h1, ?_⟩
          have h3 : ¬ rank K next y < rank K next a := fun h => hh (hlow h)
          unfold rank at h2 h3 ⊢
          repeat' split at h2
          all_goals repeat' split at h3
          all_goals repeat' split
          all_goals omega
theorem entG_start {x y hy rx ry : Nat} {v : Int} (h : entF hy rx ry v) : entG 0 0 x y hy rx ry v := ⟨fun h => by omega, h⟩
theorem entG_row {K x0 x y hy rx ry : Nat} {v : Int} (hyK : y < K) (h : entG x0 K x y hy rx ry v) : entG (x0 + 1) 0 x y hy rx ry v := ⟨fun h' => h.1 (by omega), h.2⟩
theorem entG_next {x0 y0 x y hy rx ry : Nat} {v : Int} (h : entG x0 y0 x y hy rx ry v) (hn : ¬ (x = x0 ∧ y = y0) ∨ hy ≠ 0) : entG x0 (y0 + 1) x y hy rx ry v := by
  refine ⟨fun h' => ?_, h.2⟩
  have h1 := h.1
  have h2 := h.2
  unfold entF at h2
  unfold entO at h1 ⊢
  omega
theorem entG_zero {x0 y0 x y hy rx ry : Nat} : entG x0 y0 x y hy rx ry 0 := ⟨fun _ => .inl rfl, .inl (.inl rfl)⟩
theorem entG_end {K x y hy rx ry : Nat} {v : Int} (hx : x < K) (h : entG K 0 x y hy rx ry v) : entO rx ry v := h.1 (.inl hx)
end Go.Proofs.Ytbncicfbgfmekaa

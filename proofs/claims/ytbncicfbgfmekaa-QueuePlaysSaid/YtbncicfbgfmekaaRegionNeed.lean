/-
  A region that draws its order, with a condition on the world that need not hold behind its last operations: what is loaded stays what it is up to the store that ends the region.
  No program stands here but as a variable. Conditions: none beyond each theorem's own.
-/
import Derived.OrdersHeld
import Derived.StillTail
import Derived.NoCompiler
namespace Go.Proofs.Ytbncicfbgfmekaa
set_option linter.unusedVariables false
set_option linter.unusedSimpArgs false

section
variable {P : Program} {ops : Array Oper} {Q : Exit → Act → World → Prop} {md : Region.Mode} {S : World → Prop} {need : Nat → Bool}

/-- Does j wait for i, at last? -/
def depB (md : Region.Mode) (ops : Array Oper) (i : Nat) : Nat → Nat → Bool
  | 0, _ => false
  | f + 1, j => match ops[j]? with
    | some oj => oj.after.any fun e => Region.binds md e && (e.on == i || depB md ops i f e.on)
    | none => false

def Closed (md : Region.Mode) (ops : Array Oper) (listed : Array Bool) : Prop := ∀ j oj, ops[j]? = some oj → listed.getD j false = true → ∀ e ∈ oj.after, Region.binds md e = true → listed.getD e.on false = true

theorem Closed.set {i : Nat} {listed : Array Bool} (inv : Closed md ops listed) (hi : i ∈ Region.ready md ops listed) : Closed md ops (listed.setIfInBounds i true) := by
  obtain ⟨_, oi, hoi, hall⟩ := mem_ready.1 hi
  intro j oj hj hl e he hb
  by_cases hij : i = j
  · subst hij
    have : oj = oi := Option.some.inj (hj.symm.trans hoi)
    subst this
    exact getD_set_true (hall e he hb)
  · rw [getD_set_ne false hij] at hl
    exact getD_set_true (inv j oj hj hl e he hb)

theorem dep_listed {i : Nat} {listed : Array Bool} (inv : Closed md ops listed) : ∀ (f j : Nat), depB md ops i f j = true → (∃ oj, ops[j]? = some oj ∧ ∀ e ∈ oj.after, Region.binds md e = true → listed.getD e.on false = true) → listed.getD i false = true
  | 0, j, h, _ => by cases h
  | f + 1, j, h, ⟨oj, hoj, hall⟩ => by
    simp only [depB, hoj] at h
    obtain ⟨e, he, hb⟩ := Array.any_eq_true'.1 h
    simp only [Bool.and_eq_true, Bool.or_eq_true, beq_iff_eq] at hb
    have h1 := hall e he hb.1
    rcases hb.2 with h2 | h2
    · rw [h2] at h1; exact h1
    · cases f with
      | zero => cases h2
      | succ f =>
        have h3 := h2
        simp only [depB] at h3
        cases hk : ops[e.on]? with
        | none => rw [hk] at h3; cases h3
        | some ok => exact dep_listed inv (f + 1) e.on h2 ⟨ok, hk, inv e.on ok hk h1⟩

/-- May i be taken first, though S is not to hold behind those that wait for it? -/
def needB (md : Region.Mode) (ops : Array Oper) (need : Nat → Bool) (listed : Array Bool) (i : Nat) : Bool :=
  (List.range ops.size).all fun j => j == i || listed.getD j true || need j || depB md ops i ops.size j

/-- Whatever order is picked from here on, and S holds behind each operation j that needs it. -/
def wpAnyN (P : Program) (md : Region.Mode) (ops : Array Oper) (Q : Exit → Act → World → Prop) (S : World → Prop) (need : Nat → Bool) : Nat → Array Bool → Act → World → Prop
  | 0, listed, a, w => Region.ready md ops listed = [] ∧ Q .normal a w
  | fuel + 1, listed, a, w =>
    (Region.ready md ops listed = [] → Q .normal a w) ∧
    ∀ i ∈ Region.ready md ops listed, wpOp P ops Q i (fun a' w' => (need i = true → S w') ∧ wpAnyN P md ops Q S need fuel (listed.setIfInBounds i true) a' w') a w

theorem wpAny_of_need : ∀ (fuel : Nat) (listed : Array Bool) (a : Act) (w : World), wpAnyN P md ops Q S need fuel listed a w → wpAny P md ops Q fuel listed a w
  | 0, _, _, _, h => h
  | fuel + 1, _, _, _, h => ⟨h.1, fun i hi => wpOp_mono (fun a' w' h' => wpAny_of_need fuel _ a' w' h'.2) (h.2 i hi)⟩

theorem wpAnyN_first {i : Nat} {oi : Oper} {v : Value} (hi : ops[i]? = some oi) (hsel : ∀ (j : Nat) (o : Oper) cs b, ops[j]? = some o → o.op ≠ .select cs b)
    (hQ : ∀ c a w, Q (.panic c) (a.put oi.dst v) w → Q (.panic c) a w) :
    ∀ (fuel : Nat) (listed : Array Bool) (a : Act) (w : World),
      (∀ j oj, ops[j]? = some oj → j ≠ i → listed.getD j true = false → (∀ e ∈ oj.after, Region.binds md e = true → e.on ≠ i) → oi.apart ops oj = true) →
      Closed md ops listed → (∀ j oj, ops[j]? = some oj → j ≠ i → listed.getD j true = false → need j = true ∨ depB md ops i ops.size j = true) →
      i ∈ Region.ready md ops listed → YieldsIf P ops S oi v a → S w →
      wpAnyN P md ops Q S need fuel (listed.setIfInBounds i true) (a.put oi.dst v) w → wpAnyN P md ops Q S need (fuel + 1) listed a w := by
  intro fuel
  induction fuel with
  | zero =>
    intro listed a w _ _ _ hr hy hS H
    refine ⟨fun h => (by rw [h] at hr; cases hr), fun j hj => ?_⟩
    by_cases hji : j = i
    · subst hji; exact hy.wpOp hi hS ⟨fun _ => hS, H⟩
    · have := ready_mono hj hji
      rw [H.1] at this
      cases this
  | succ fuel ih =>
    intro listed a w hfree hcl hnd hr hy hS H
    refine ⟨fun h => (by rw [h] at hr; cases hr), fun j hj => ?_⟩
    by_cases hji : j = i
    · subst hji; exact hy.wpOp hi hS ⟨fun _ => hS, H⟩
    · have h1 := H.2 j (ready_mono hj hji)
      obtain ⟨hjun, oj, hoj, hall⟩ := mem_ready.1 hj
      have hiun : listed.getD i false = false := getD_both (mem_ready.1 hr).1
      have hnot : ∀ e ∈ oj.after, Region.binds md e = true → e.on ≠ i := fun e he hb heq => by
        have h1 := hall e he hb
        rw [heq, hiun] at h1
        cases h1
      have hneed : need j = true := by
        rcases hnd j oj hoj hji hjun with h | h
        · exact h
        · have := dep_listed hcl _ j h ⟨oj, hoj, hall⟩
          rw [hiun] at this
          cases this
      have h2 := wpOp_putIf hoj (hfree j oj hoj hji hjun hnot) (fun cs b => hsel i oi cs b hi) (fun cs b => hsel j oj cs b hoj) hQ hy h1
      have hun' : ∀ k, (listed.setIfInBounds j true).getD k true = false → listed.getD k true = false := fun k hun => by
        by_cases hjk : j = k
        · subst hjk; exact hjun
        · rw [getD_set_ne true hjk] at hun; exact hun
      refine wpOp_mono (fun a' w' h3 => ⟨h3.2.1, ih (listed.setIfInBounds j true) a' w' (fun k ok hk hki hun hno => hfree k ok hk hki (hun' k hun) hno) (hcl.set hj) (fun k ok hk hki hun => hnd k ok hk hki (hun' k hun)) (ready_mono hr (Ne.symm hji)) h3.1 (h3.2.1 hneed) ?_⟩) h2
      rw [Array.setIfInBounds_comm _ _ hji]
      exact h3.2.2

def closedB (md : Region.Mode) (ops : Array Oper) (listed : Array Bool) : Bool :=
  (List.range ops.size).all fun j => !listed.getD j false || match ops[j]? with
    | some oj => oj.after.all fun e => !Region.binds md e || listed.getD e.on false
    | none => true
theorem closed_of {listed : Array Bool} (h : closedB md ops listed = true) : Closed md ops listed := by
  intro j oj hj hl e he hb
  have hjs : j < ops.size := (Array.getElem?_eq_some_iff.1 hj).1
  have h1 := List.all_eq_true.1 h j (List.mem_range.2 hjs)
  simp only [hj, hl, Bool.not_true, Bool.false_or] at h1
  have h2 := Array.all_eq_true'.1 h1 e he
  simpa [hb] using h2

/-- Take number i first. -/
theorem wpAnyN_take {i : Nat} {oi : Oper} {v : Value} {fuel : Nat} {listed : Array Bool} {a : Act} {w : World} (hi : ops[i]? = some oi)
    (hk : (Region.noSelect ops && Region.free md ops listed i && (Region.ready md ops listed).contains i && closedB md ops listed && needB md ops need listed i) = true)
    (hQ : ∀ c a w, Q (.panic c) (a.put oi.dst v) w → Q (.panic c) a w) (hy : YieldsIf P ops S oi v a) (hS : S w)
    (h : wpAnyN P md ops Q S need fuel (listed.setIfInBounds i true) (a.put oi.dst v) w) : wpAnyN P md ops Q S need (fuel + 1) listed a w := by
  simp only [Bool.and_eq_true] at hk
  obtain ⟨⟨⟨⟨hs, hf⟩, hr⟩, hc⟩, hn⟩ := hk
  refine wpAnyN_first hi (Region.noSelect_spec hs) hQ fuel listed a w (Region.free_spec hi hf) (closed_of hc) (fun j oj hj hji hun => ?_) (by simpa using hr) hy hS h
  have h1 := List.all_eq_true.1 hn j (List.mem_range.2 (Array.getElem?_eq_some_iff.1 hj).1)
  simp only [Bool.or_eq_true, beq_iff_eq, hun, Bool.false_eq_true, or_false] at h1
  rcases h1 with (h1 | h1) | h1
  · exact absurd h1 hji
  · exact .inl h1
  · exact .inr h1

/-- Whichever comes up. -/
theorem wpAnyN_all {rs : List Nat} {fuel : Nat} {listed : Array Bool} {a : Act} {w : World} (hr : Region.ready md ops listed = rs) (hne : rs ≠ [])
    (h : ∀ i ∈ rs, wpOp P ops Q i (fun a' w' => (need i = true → S w') ∧ wpAnyN P md ops Q S need fuel (listed.setIfInBounds i true) a' w') a w) : wpAnyN P md ops Q S need (fuel + 1) listed a w :=
  ⟨fun h0 => absurd (hr ▸ h0) hne, hr ▸ h⟩
/-- One alone may come up. -/
theorem wpAnyN_one {i : Nat} {o : Oper} {fuel : Nat} {listed : Array Bool} {a : Act} {w : World} (hr : Region.ready md ops listed = [i]) (hi : ops[i]? = some o)
    (h : ∀ K : Act → World → Prop, (∀ a' w', (need i = true → S w') ∧ wpAnyN P md ops Q S need fuel (listed.setIfInBounds i true) a' w' → K a' w') → if Region.wanted o (yielded ops a.tmps) = true then Oper.wp P o a w K Q else K (a.put o.dst undef) w) :
    wpAnyN P md ops Q S need (fuel + 1) listed a w := by
  refine wpAnyN_all hr (by simp) fun j hj => ?_
  have hji : j = i := by simpa using hj
  subst hji
  have h1 := h _ (fun _ _ x => x)
  unfold wpOp
  simp only [hi]
  by_cases hw : Region.wanted o (yielded ops a.tmps) = true
  · rw [if_pos hw] at h1 ⊢
    exact .inl h1
  · rw [if_neg hw] at h1 ⊢
    exact h1
theorem wpAnyN_done {listed : Array Bool} {a : Act} {w : World} (hr : Region.ready md ops listed = []) (h : Q .normal a w) :
    ∀ fuel, wpAnyN P md ops Q S need fuel listed a w
  | 0 => ⟨hr, h⟩
  | _ + 1 => ⟨fun _ => h, by rw [hr]; simp⟩
theorem wp_region_need {id : Nat} {a : Act} {w : World} (S : World → Prop) (need : Nat → Bool) (hm : P.follows .mixedOrders = true)
    (h : wpAnyN P .any ops Q S need ops.size (Array.replicate ops.size false) a w.drew) : (Code.region id ops true).wp P Q a w :=
  wp_region_any hm (wpAny_of_need _ _ _ _ h)
end
end Go.Proofs.Ytbncicfbgfmekaa

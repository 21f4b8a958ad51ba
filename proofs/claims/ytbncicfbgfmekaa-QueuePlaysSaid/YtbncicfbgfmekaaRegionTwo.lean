/-
  A region that draws its order (RegionNeed): where two operations may come up.
  No program stands here but as a variable. Conditions: none beyond each theorem's own.
-/
import Derived.Test.YtbncicfbgfmekaaRegionNeed
namespace Go.Proofs.Ytbncicfbgfmekaa
set_option linter.unusedVariables false
set_option linter.unusedSimpArgs false
section
variable {P : Program} {ops : Array Oper} {Q : Exit → Act → World → Prop} {md : Region.Mode} {S : World → Prop} {need : Nat → Bool}
theorem wpOp_of_step {i : Nat} {o : Oper} {K : Act → World → Prop} {a : Act} {w : World} (hi : ops[i]? = some o)
    (h : if Region.wanted o (yielded ops a.tmps) = true then Oper.wp P o a w K Q else K (a.put o.dst undef) w) : wpOp P ops Q i K a w := by
  unfold wpOp
  simp only [hi]
  by_cases hw : Region.wanted o (yielded ops a.tmps) = true
  · rw [if_pos hw] at h ⊢
    exact .inl h
  · rw [if_neg hw] at h ⊢
    exact h
theorem wpAnyN_two {i j : Nat} {o p : Oper} {fuel : Nat} {listed : Array Bool} {a : Act} {w : World} (hr : Region.ready md ops listed = [i, j]) (hi : ops[i]? = some o) (hj : ops[j]? = some p)
    (h1 : ∀ K : Act → World → Prop, (∀ a' w', (need i = true → S w') ∧ wpAnyN P md ops Q S need fuel (listed.setIfInBounds i true) a' w' → K a' w') → if Region.wanted o (yielded ops a.tmps) = true then Oper.wp P o a w K Q else K (a.put o.dst undef) w)
    (h2 : ∀ K : Act → World → Prop, (∀ a' w', (need j = true → S w') ∧ wpAnyN P md ops Q S need fuel (listed.setIfInBounds j true) a' w' → K a' w') → if Region.wanted p (yielded ops a.tmps) = true then Oper.wp P p a w K Q else K (a.put p.dst undef) w) :
    wpAnyN P md ops Q S need (fuel + 1) listed a w := by
  refine wpAnyN_all hr (by simp) fun k hk => ?_
  simp only [List.mem_cons, List.not_mem_nil, or_false] at hk
  rcases hk with rfl | rfl
  · exact wpOp_of_step hi (h1 _ (fun _ _ x => x))
  · exact wpOp_of_step hj (h2 _ (fun _ _ x => x))
end
end Go.Proofs.Ytbncicfbgfmekaa

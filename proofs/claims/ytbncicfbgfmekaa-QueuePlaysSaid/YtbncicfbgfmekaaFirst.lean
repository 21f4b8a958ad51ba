/-
  'first': the fixed example of the chapter comes to true.
  No conditions.
-/
import Derived.Test.YtbncicfbgfmekaaLaoMore
import Derived.Test.YtbncicfbgfmekaaLaoS
import Derived.Test.YtbncicfbgfmekaaMove
namespace Go.Proofs.Ytbncicfbgfmekaa
set_option linter.unusedVariables false
set_option linter.unusedSimpArgs false
open Go.RowKit

set_option maxRecDepth 100000 in
set_option maxHeartbeats 3200000 in
theorem first_calls (w : World) : Calls Try.prog 11 #[] w fun e w' => e = .returned (.bool true) ∧ Below w.heap.size w w' := by
  have p0 : ∀ W, SpecAt Try.prog 16 #[.int .i64 2] W SP.emp fun e A' => ∃ g, e = .returned (.pointer (some ⟨g, 0, none⟩)) ∧ A' = SP.quei g 2 [] := fun W => qnewi_yes W 2 (by decide)
  have p1 : ∀ W g, SpecAt Try.prog 18 #[.pointer (some ⟨g, 0, none⟩), .int .i64 5] W (SP.quei g 2 []) fun e A' => e = .returned (.bool true) ∧ A' = SP.quei g 2 [5] := fun W g => qputi_spec W g 2 [] 5 (by decide) (by decide) (by decide)
  have p2 : ∀ W g, SpecAt Try.prog 18 #[.pointer (some ⟨g, 0, none⟩), .int .i64 6] W (SP.quei g 2 [5]) fun e A' => e = .returned (.bool true) ∧ A' = SP.quei g 2 [5, 6] := fun W g => qputi_spec W g 2 [5] 6 (by decide) (by decide) (by decide)
  have p3 : ∀ W g, SpecAt Try.prog 18 #[.pointer (some ⟨g, 0, none⟩), .int .i64 7] W (SP.quei g 2 [5, 6]) fun e A' => e = .returned (.bool false) ∧ A' = SP.quei g 2 [5, 6] := fun W g => qputi_spec W g 2 [5, 6] 7 (by decide) (by decide) (by decide)
  have p4 : ∀ W g, SpecAt Try.prog 19 #[.pointer (some ⟨g, 0, none⟩)] W (SP.quei g 2 [5, 6]) fun e A' => e = .returned (.tuple #[.int .i64 5, .bool true]) ∧ A' = SP.quei g 2 [6] := fun W g => qtakei_spec W g 2 [5, 6] (by decide)
  have w0 : ∀ W, SpecAt Try.prog 23 #[.int .i64 2] W SP.emp fun e A' => ∃ g, e = .returned (.pointer (some ⟨g, 0, none⟩)) ∧ A' = SP.win g 2 [] := fun W => newwin_yes W 2 (by decide)
  have w1 : ∀ W g, SpecAt Try.prog 25 #[.pointer (some ⟨g, 0, none⟩), .int .i64 3] W (SP.win g 2 []) fun e A' => e = .returned (.bool true) ∧ A' = SP.win g 2 [3] := fun W g => winadd_spec W g 2 [] 3 (by decide)
  have w2 : ∀ W g, SpecAt Try.prog 25 #[.pointer (some ⟨g, 0, none⟩), .int .i64 3] W (SP.win g 2 [3]) fun e A' => e = .returned (.bool false) ∧ A' = SP.win g 2 [3] := fun W g => winadd_spec W g 2 [3] 3 (by decide)
  have l0 : ∀ W, SpecAt Try.prog 35 #[.int .i64 3, .int .i64 2] W SP.emp fun e A' => ∃ g, e = .returned (.pointer (some ⟨g, 0, none⟩)) ∧ A' = SP.laness g 0 2 [[], [], []] := fun W => lnews_yes W 3 2 (by decide) (by decide)
  have l1 : ∀ W g, SpecAt Try.prog 36 #[.pointer (some ⟨g, 0, none⟩), .int .i64 2, .string ⟨#[99]⟩] W (SP.laness g 0 2 [[], [], []]) fun e A' => e = .returned (.bool true) ∧ A' = SP.laness g 0 2 [[], [], [⟨#[99]⟩]] := fun W g => lputs_in W g 0 2 [[], [], []] 2 [] ⟨#[99]⟩ rfl (by decide) (by decide) (by decide)
  have l2 : ∀ W g, SpecAt Try.prog 37 #[.pointer (some ⟨g, 0, none⟩)] W (SP.laness g 0 2 [[], [], [⟨#[99]⟩]]) fun e A' => e = .returned (.tuple #[.int .i64 2, .string ⟨#[99]⟩, .bool true]) := fun W g S hA hlt => by
    refine (ltakes_spec W g 0 2 [[], [], [⟨#[99]⟩]] (by decide) (by decide) (by decide) (by simp) S hA hlt).mono ?_
    rintro e w' ⟨A', h, hk⟩
    refine ⟨A', ?_, hk⟩
    rcases h with ⟨j, x, r, hj, h1, h2, rfl, _⟩ | ⟨h1, _⟩
    · simp only [List.length_cons, List.length_nil] at hj h1 h2 ⊢
      have : j = 0 ∨ j = 1 ∨ j = 2 := by omega
      rcases this with rfl | rfl | rfl
      · simp at h2
      · simp at h2
      · simp at h2
        obtain ⟨rfl, rfl⟩ := h2
        rfl
    · have := h1 2 (by decide)
      simp at this
  have n0 := fun W => qnewi_no W 0 (by decide)
  have H := Lib.hid (And.intro p0 (And.intro p1 (And.intro p2 (And.intro p3 p4))))
  have H2 := Lib.hid (And.intro w0 (And.intro w1 (And.intro w2 (And.intro l0 (And.intro l1 (And.intro l2 n0))))))
  clear p0 p1 p2 p3 p4 w0 w1 w2 l0 l1 l2 n0
  have o0 := Own.start w
  go_enter Try.func11, Try.ntmps11
  go_wp2_with fail
  refine (SpecAt.use (H.out.1 _) o0.emp).mono ?_
  rintro e x1 ⟨A', ⟨g1, rfl, rfl⟩, o1, -⟩
  clear o0
  go_wp2_with fail
  refine (SpecAt.use (H2.out.1 _) o1.emp).mono ?_
  rintro e x2 ⟨A', ⟨g2, rfl, rfl⟩, o2, -⟩
  clear o1
  go_wp2_with fail
  refine (SpecAt.use (H2.out.2.2.2.1 _) o2.emp).mono ?_
  rintro e x3 ⟨A', ⟨g3, rfl, rfl⟩, o3, -⟩
  clear o2
  go_wp2_with fail
  refine (H2.out.2.2.2.2.2.2 _).mono ?_
  rintro e x4 ⟨rfl, rfl⟩
  have o4 := o3.front 2 rfl
  clear o3
  go_wp2_with fail
  refine (SpecAt.use (H.out.2.1 _ _) o4).mono ?_
  rintro e x4 ⟨A', ⟨rfl, rfl⟩, o5, -⟩
  clear o4
  go_wp2_with fail
  refine (SpecAt.use (H.out.2.2.1 _ _) o5).mono ?_
  rintro e x5 ⟨A', ⟨rfl, rfl⟩, o6, -⟩
  clear o5
  go_wp2_with fail
  refine (SpecAt.use (H.out.2.2.2.1 _ _) o6).mono ?_
  rintro e x6 ⟨A', ⟨rfl, rfl⟩, o7, -⟩
  clear o6
  go_wp2_with fail
  refine (SpecAt.use (H.out.2.2.2.2 _ _) o7).mono ?_
  rintro e x7 ⟨A', ⟨rfl, rfl⟩, o8, -⟩
  have o9 := o8.front 2 rfl
  clear o7 o8
  go_wp2_with fail
  refine (SpecAt.use (H2.out.2.1 _ _) o9).mono ?_
  rintro e x8 ⟨A', ⟨rfl, rfl⟩, o10, -⟩
  clear o9
  go_wp2_with fail
  refine (SpecAt.use (H2.out.2.2.1 _ _) o10).mono ?_
  rintro e x9 ⟨A', ⟨rfl, rfl⟩, o11, -⟩
  have o12 := o11.front 2 rfl
  clear o10 o11
  go_wp2_with fail
  refine (SpecAt.use (H2.out.2.2.2.2.1 _ _) o12).mono ?_
  rintro e x10 ⟨A', ⟨rfl, rfl⟩, o13, -⟩
  clear o12
  go_wp2_with fail
  refine (SpecAt.use (H2.out.2.2.2.2.2.1 _ _) o13).mono ?_
  rintro e x11 ⟨A', rfl, o14, -⟩
  clear o13
  have hb := Lib.hid o14.below
  clear o14
  go_wp2
  go_ret
  exact ⟨rfl, hb.out⟩
end Go.Proofs.Ytbncicfbgfmekaa

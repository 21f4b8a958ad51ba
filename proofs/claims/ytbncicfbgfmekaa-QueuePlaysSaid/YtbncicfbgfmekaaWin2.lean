/-
  The window's maker, its Items, Full and Clear.
  Conditions: at most a million elements.
-/
import Derived.Test.YtbncicfbgfmekaaWin
import Derived.Test.YtbncicfbgfmekaaClone
namespace Go.Proofs.Ytbncicfbgfmekaa
set_option linter.unusedVariables false
set_option linter.unusedSimpArgs false
open Go.RowKit

set_option maxHeartbeats 400000 in
theorem holds_calls (room : Int) (w : World) : Calls Try.prog 38 #[.int .i64 room] w fun e w' => e = .returned (.bool (decide (1 ≤ room ∧ room ≤ 64))) ∧ w = w' := by
  by_cases h1 : 1 ≤ room
  · by_cases h2 : room ≤ 64
    all_goals
      go_enter Try.func38, Try.ntmps38
      go_wp2
      go_ret
      exact ⟨by simp [h1, h2], rfl⟩
  · go_enter Try.func38, Try.ntmps38
    go_wp2
    go_ret
    exact ⟨by simp; omega, rfl⟩

set_option maxHeartbeats 400000 in
theorem newwin_yes (w : World) (room : Int) (h : 1 ≤ room ∧ room ≤ 64) :
    SpecAt Try.prog 23 #[.int .i64 room] w SP.emp fun e A' => ∃ g, e = .returned (.pointer (some ⟨g, 0, none⟩)) ∧ A' = SP.win g room [] := by
  intro S _ hlt
  have hd : decide (1 ≤ room ∧ room ≤ 64) = true := by simpa using h
  have hc := holds_calls room w
  rw [hd] at hc
  have H := Lib.hid hc
  clear hc hd
  go_enter Try.func23, Try.ntmps23
  go_wp2_with (go_at_call 38; refine (H.out).mono ?_; rintro e w' ⟨rfl, rfl⟩)
  go_ret
  refine ⟨_, ⟨_, rfl, rfl⟩, (Keeps.refl S w).alloc _, ?_⟩
  exact box1_mk (S2 := fun _ => False) (.inr ⟨Nat.le_refl _, by simp⟩) (heap_alloc_new w _) (fun _ h => h.elim) (fun h => h) (SP.row_nil _ _ _ _)

set_option maxHeartbeats 400000 in
theorem newwin_no (w : World) (room : Int) (h : ¬ (1 ≤ room ∧ room ≤ 64)) : Calls Try.prog 23 #[.int .i64 room] w fun e w' => e = .returned (.pointer none) ∧ w = w' := by
  have hd : decide (1 ≤ room ∧ room ≤ 64) = false := by simpa using h
  have hc := holds_calls room w
  rw [hd] at hc
  have H := Lib.hid hc
  clear hc hd
  go_enter Try.func23, Try.ntmps23
  go_wp2_with (go_at_call 38; refine (H.out).mono ?_; rintro e w' ⟨rfl, rfl⟩)
  go_ret
  exact ⟨rfl, rfl⟩

set_option maxHeartbeats 400000 in
theorem winfull_spec (w : World) (g : Nat) (room : Int) (xs : List Int) :
    SpecAt Try.prog 27 #[.pointer (some ⟨g, 0, none⟩)] w (SP.win g room xs) fun e A' => e = .returned (.bool (decide (room ≤ (xs.length : Int)))) ∧ A' = SP.win g room xs := by
  intro S hA hlt
  obtain ⟨A, c, S2, hSg, hb, h2, hn2, hr, hlc, hcm⟩ := box1_open hA
  rw [ints_length] at hb
  refine (full_calls w g xs.length c A room (cells_of hb 0) (cells_of hb 1)).mono ?_
  rintro e w' ⟨rfl, d, rfl⟩
  exact ⟨_, ⟨rfl, rfl⟩, box1_same hA d⟩

set_option maxHeartbeats 400000 in
theorem winclear_spec (w : World) (g : Nat) (room : Int) (xs : List Int) :
    SpecAt Try.prog 28 #[.pointer (some ⟨g, 0, none⟩)] w (SP.win g room xs) fun e A' => e = .returned (.tuple #[]) ∧ A' = SP.win g room [] := by
  intro S hA hlt
  obtain ⟨A, c, S2, hSg, hb, h2, hn2, hr, hlc, hcm⟩ := box1_open hA
  have c1 := cells_of hb 1
  have f1 := free_of hb 1
  simp only [List.getElem?_toArray, List.getElem?_cons_zero, List.getElem?_cons_succ] at c1
  have hfin := Lib.hid (box1_set (w1 := w) (w2 := w) (e := 3) (ys := []) hSg hb h2 hn2 (Below.refl _ _) (Keeps.refl _ _) (SP.row_nil _ _ _ _))
  clear hb hr hA
  go_enter Try.func28, Try.ntmps28
  go_wp2
  go_end0
  exact ⟨_, ⟨rfl, rfl⟩, hfin.out⟩

set_option maxHeartbeats 400000 in
theorem winitems_spec (w : World) (g : Nat) (room : Int) (xs : List Int) (hl : xs.length ≤ 1000000) :
    SpecAt Try.prog 24 #[.pointer (some ⟨g, 0, none⟩)] w (SP.win g room xs) fun e A' => ∃ A c, e = .returned (.slice A xs.length c) ∧ A' = SP.stars [SP.row 3 1 (.slice A xs.length c) (ints xs), SP.win g room xs] := by
  intro S hA hlt
  obtain ⟨A, c, S2, hSg, hb, h2, hn2, hr, hlc, hcm⟩ := box1_open hA
  have c1 := cells_of hb 1
  have f1 := free_of hb 1
  simp only [List.getElem?_toArray, List.getElem?_cons_zero, List.getElem?_cons_succ] at c1
  have hcl := clone_calls w (c := c) (Rd.of_row hr) ints_one (by rw [ints_length]; exact hl)
  rw [ints_length] at *
  have H := Lib.hid hcl
  have hA' := Lib.hid hA
  clear hcl hr hb hA
  go_enter Try.func24, Try.ntmps24
  go_wp2_with (go_at_call 42; refine (H.out).mono ?_; rintro e w' ⟨A', c', rfl, hb1, hr1⟩)
  go_ret
  have hs := hb1.size
  refine ⟨_, ⟨_, _, rfl, rfl⟩, Keeps.of_below hb1, fun k => w.heap.size ≤ k ∧ k < w'.heap.size, S, fun k hk => .inr hk, fun k hk => .inl hk, fun k hk hk2 => ?_, hr1, S, fun _ => False, fun k hk => hk, fun k hk => hk.elim, fun _ _ hk => hk, (SP.win g room xs).loc hA'.out (fun k hk => hb1.block k (hlt k hk)), trivial⟩
  have := hlt k hk2; omega
end Go.Proofs.Ytbncicfbgfmekaa

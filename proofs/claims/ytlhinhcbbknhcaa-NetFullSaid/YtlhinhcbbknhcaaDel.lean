/-
  slices.Delete on a row of mails: the code as it lies in the library, on a row that the call owns.
  Conditions: none beyond each theorem's own.
-/
import Derived.Test.YtlhinhcbbknhcaaByt
import Derived.StillTailTactics
namespace Go.Proofs.Ytlhinhcbbknhcaa
set_option linter.unusedVariables false
set_option linter.unusedSimpArgs false
open Go.RowKit

def mailZero : Value := .agg #[.int .i64 0, .int .i64 0, .int .i64 0, .slice none 0 0, .bool false]
theorem Try.info34 : (Try.prog.info? 34).map (fun i => (i.zero, i.size, i.bytes)) = some (some mailZero, 5, 56) := by kernel_rfl
theorem mailZero_size : mailZero.cells.size = 5 := rfl
theorem Try.zc34 : ∀ u ∈ Builtin.zeroCells mailZero.cells 1, u.oneCell' = true := by
  intro u hu
  simp only [Builtin.zeroCells, mailZero, Value.cells, List.size_toArray, List.length_cons, List.length_nil, Array.mem_map, Array.mem_range] at hu
  obtain ⟨j, hj, rfl⟩ := hu
  have : j = 0 ∨ j = 1 ∨ j = 2 ∨ j = 3 ∨ j = 4 := by omega
  rcases this with rfl | rfl | rfl | rfl | rfl <;> rfl

set_option maxHeartbeats 400000 in
theorem delete_eq (w : World) {A : Option Addr} {n c : Nat} (hc : n ≤ c) (hc2 : c ≤ maxLen) (i : Nat) (hi : i ≤ n) :
    Calls Try.prog 31 #[.slice A n c, .int .i64 i, .int .i64 i] w fun e w' => e = .returned (.slice A n c) ∧ w = w' := by
  unfold maxLen at hc2
  have hij' : ((i : Int) == (i : Int)) = true := by simp
  have hin : ¬ n = i → ¬ c = i := by omega
  go_enter Try.func31, Try.ntmps31
  go_wp2
  all_goals (go_ret; exact ⟨rfl, rfl⟩)

set_option maxHeartbeats 800000 in
theorem delete_lt (w : World) {S : Nat → Prop} {A : Option Addr} {n c : Nat} {xs : List Value} (hr : (SP.row 34 5 (.slice A n c) xs).At w S) (hn : xs.length = n * 5) (h1x : ∀ u ∈ xs, u.oneCell' = true) (hm : n ≤ 1000000) (i j : Nat) (hij : i < j) (hj : j ≤ n) :
    Calls Try.prog 31 #[.slice A n c, .int .i64 i, .int .i64 j] w fun e w' => ∃ A' c', n ≤ c' ∧ e = .returned (.slice A' (i + (n - j)) c') ∧ Keeps S w w' ∧ (SP.row 34 5 (.slice A' (i + (n - j)) c') (xs.take (i * 5) ++ xs.drop (j * 5))).At w' (grow S w w') := by
  obtain ⟨g, off, cur, rfl, hSg, hb, b1, b2, b3, b4, hx⟩ := SP.row_open (by decide) hr (by omega)
  unfold maxLen at b2
  have hij' : ((i : Int) == (j : Int)) = false := by simp; omega
  have hic : i ≤ c := by omega
  have hcj : ¬ n = j → ¬ c = j := by omega
  go_enter Try.func31, Try.ntmps31
  go_wp2
  go_still_tail 6, (by kernel_rfl)
  change wpList _ _ _ _ _ w.drew
  have hr' : (SP.row 34 5 (.slice (some ⟨g, off, none⟩) i c) (xs.take (i * 5))).At w.drew S :=
    (SP.row 34 5 _ _).loc (SP.row_take hr (k := i) (by omega)) (fun _ _ => rfl)
  have hnews : Rd w.drew (if c = j then some ⟨g, off, none⟩ else some ⟨g, off + j * 5, none⟩) (xs.drop (j * 5)) := by
    by_cases hcj2 : c = j
    · have : xs.drop (j * 5) = [] := List.drop_eq_nil_of_le (by rw [hn]; omega)
      rw [this]
      exact Rd.nil _ _
    · rw [if_neg hcj2]
      have h1 := (Rd.of_row hr).cut j ((n - j) * 5) c 5 (fun _ => hcj2)
      rw [if_neg hcj2, List.take_of_length_le (by rw [List.length_drop, hn]; omega)] at h1
      simp only [Option.map_some, Addr.add_lit] at h1
      exact h1.drew
  generalize (if c = j then some (⟨g, off, none⟩ : Addr) else some ⟨g, off + j * 5, none⟩) = AA at *
  refine wpList_append_row rfl _ _ 43 rfl 34 mailZero 5 56 Try.underlying43 Try.info34 mailZero_size (by decide) rfl (by rw [List.length_take, hn]; omega) hr' _ (n - j) (c - j) (xs.drop (j * 5)) rfl (by rw [List.length_drop, hn]; omega) hnews (fun u hu => h1x u (List.mem_of_mem_drop hu)) (by unfold maxLen; omega) (by omega) ?_
  rintro A' c' w1 hroom hk1 hr1
  obtain ⟨rfl, rfl⟩ := hroom (by omega)
  obtain ⟨w2, hclr, hk2, hr2⟩ := run_clear_row (P := Try.prog) 43 0 34 mailZero 5 56 Try.underlying43 Try.info34 mailZero_size Try.zc34 hr1 (i + (n - j)) (n - (i + (n - j))) (c' - (i + (n - j))) (off + (i + (n - j)) * 5) (Nat.le_refl _) (by omega) (by omega) rfl
  have hnc : ¬ c' = i + (n - j) := by omega
  have hk : Keeps S w w2 := ((Keeps.refl S w).drew.trans hk1 (fun _ h => .inl h)).trans hk2 (fun k hk => by rcases hk with hk | hk; exact .inl hk; exact .inr hk.1)
  have hr3 : (SP.row 34 5 (.slice (some ⟨g, off, none⟩) (i + (n - j)) c') (xs.take (i * 5) ++ xs.drop (j * 5))).At w2 (grow S w w2) := (SP.row 34 5 _ _).mono hr2 (fun k h => by have := hk2.size; rcases h with h | ⟨h1, h2⟩; exact .inl h; exact .inr ⟨h1, by omega⟩)
  have hfin := Lib.hid (And.intro hk hr3)
  clear hr hr' hnews hroom hb b3 hx b4 hn hk1 hr1 hk2 hr2 hk hr3
  go_wp2
  go_ret
  exact ⟨_, _, by omega, rfl, hfin.out⟩
theorem delete_calls (w : World) {S : Nat → Prop} {A : Option Addr} {n c : Nat} {xs : List Value} (hr : (SP.row 34 5 (.slice A n c) xs).At w S) (hn : xs.length = n * 5) (hc : n ≤ c) (hc2 : c ≤ maxLen) (h1x : ∀ u ∈ xs, u.oneCell' = true) (hm : n ≤ 1000000) (i j : Nat) (hij : i ≤ j) (hj : j ≤ n) :
    Calls Try.prog 31 #[.slice A n c, .int .i64 i, .int .i64 j] w fun e w' => ∃ A' c', n ≤ c' ∧ e = .returned (.slice A' (i + (n - j)) c') ∧ Keeps S w w' ∧ (SP.row 34 5 (.slice A' (i + (n - j)) c') (xs.take (i * 5) ++ xs.drop (j * 5))).At w' (grow S w w') := by
  rcases Nat.lt_or_ge i j with h | h
  · exact delete_lt w hr hn h1x hm i j h hj
  · obtain rfl : i = j := by omega
    refine (delete_eq w hc hc2 i hj).mono ?_
    rintro e w' ⟨rfl, rfl⟩
    have hi : i + (n - i) = n := by omega
    exact ⟨A, c, hc, by rw [hi], Keeps.refl _ _, by rw [List.take_append_drop, hi]; exact (SP.row 34 5 _ _).mono hr (fun k hk => .inl hk)⟩
theorem delete_own {S : Nat → Prop} {w0 w : World} {R : List SP} {A : Option Addr} {n c : Nat} {xs : List Value} (h : Own S w0 w (SP.row 34 5 (.slice A n c) xs :: R)) (hn : xs.length = n * 5) (h1x : ∀ u ∈ xs, u.oneCell' = true) (hm : n ≤ 1000000) (i j : Nat) (hij : i ≤ j) (hj : j ≤ n) :
    Calls Try.prog 31 #[.slice A n c, .int .i64 i, .int .i64 j] w fun e w' => ∃ A' c', n ≤ c' ∧ e = .returned (.slice A' (i + (n - j)) c') ∧ Own S w0 w' (SP.row 34 5 (.slice A' (i + (n - j)) c') (xs.take (i * 5) ++ xs.drop (j * 5)) :: R) := by
  have hle := h.row_le (by decide) hn
  obtain ⟨T, hr, -, hback⟩ := h.open
  refine (delete_calls w hr hn hle.1 hle.2 h1x hm i j hij hj).mono ?_
  rintro e w' ⟨A', c', hn', he, hk, hr'⟩
  exact ⟨A', c', hn', he, hback _ _ hk hr'⟩
end Go.Proofs.Ytlhinhcbbknhcaa

import Derived.Test.YtbncicfbgfmekaaBox
import Derived.Test.YtbncicfbgfmekaaProg
import Derived.WalkKit
import Derived.WalkSpells
import Derived.WalkLawsBesides
import Derived.Deep.QuietTactic
import Derived.BigQuiet
import Derived.StillTailTactics
namespace Go.Proofs.Ytbncicfbgfmekaa
set_option linter.unusedVariables false
set_option linter.unusedSimpArgs false
open Go.RowKit

theorem Try.info3 : (Try.prog.info? 3).map (fun i => (i.zero, i.size, i.bytes)) = some (some (Value.int .i64 0), 1, 8) := by kernel_rfl
theorem Try.zc3 : ∀ u ∈ Builtin.zeroCells (Value.int .i64 0).cells 1, u.oneCell' = true := by
  intro u hu
  simp only [Builtin.zeroCells, Value.cells, List.size_toArray, List.length_cons, List.length_nil, Array.mem_map, Array.mem_range] at hu
  obtain ⟨j, hj, rfl⟩ := hu
  have : j = 0 := by omega
  subst this
  rfl

set_option maxHeartbeats 400000 in
theorem deletei_eq (w : World) {A : Option Addr} {n c : Nat} (hc : n ≤ c) (hc2 : c ≤ maxLen) (i : Nat) (hi : i ≤ n) :
    Calls Try.prog 41 #[.slice A n c, .int .i64 i, .int .i64 i] w fun e w' => e = .returned (.slice A n c) ∧ w = w' := by
  unfold maxLen at hc2
  have hij' : ((i : Int) == (i : Int)) = true := by simp
  have hin : ¬ n = i → ¬ c = i := by omega
  go_enter Try.func41, Try.ntmps41
  go_wp2
  all_goals (go_ret; exact ⟨rfl, rfl⟩)

set_option maxHeartbeats 400000 in
theorem deletei_lt (w : World) {S : Nat → Prop} {A : Option Addr} {n c : Nat} {xs : List Value} (hr : (SP.row 3 1 (.slice A n c) xs).At w S) (hn : xs.length = n) (h1x : ∀ u ∈ xs, u.oneCell' = true) (hm : n ≤ 1000000) (i j : Nat) (hij : i < j) (hj : j ≤ n) :
    Calls Try.prog 41 #[.slice A n c, .int .i64 i, .int .i64 j] w fun e w' => ∃ A' c', e = .returned (.slice A' (i + (n - j)) c') ∧ Keeps S w w' ∧ (SP.row 3 1 (.slice A' (i + (n - j)) c') (xs.take i ++ xs.drop j)).At w' (grow S w w') := by
  obtain ⟨g, off, cur, rfl, hSg, hb, b1, b2, b3, b4, hx⟩ := SP.row_open (by decide) hr (by omega)
  unfold maxLen at b2
  have hij' : ((i : Int) == (j : Int)) = false := by simp; omega
  have hic : i ≤ c := by omega
  have hcj : ¬ n = j → ¬ c = j := by omega
  go_enter Try.func41, Try.ntmps41
  go_wp2
  go_still_tail 6, (by kernel_rfl)
  change wpList _ _ _ _ _ w.drew
  have hr' : (SP.row 3 1 (.slice (some ⟨g, off, none⟩) i c) (xs.take i)).At w.drew S := by
    have := SP.row_take hr (k := i) (by omega)
    rw [Nat.mul_one] at this
    exact (SP.row 3 1 _ _).loc this (fun _ _ => rfl)
  have hnews : Rd w.drew (if c = j then some ⟨g, off, none⟩ else some ⟨g, off + j, none⟩) (xs.drop j) := (Rd.drop (Rd.of_row hr) j c (by omega)).drew
  generalize (if c = j then some (⟨g, off, none⟩ : Addr) else some ⟨g, off + j, none⟩) = AA at *
  refine wpList_append_row rfl _ _ 30 rfl 3 (Value.int .i64 0) 1 8 Try.underlying30 Try.info3 rfl (by decide) rfl (by simp; omega) hr' _ (n - j) (c - j) (xs.drop j) rfl (by simp; omega) hnews (fun u hu => h1x u (List.mem_of_mem_drop hu)) (by unfold maxLen; omega) (by omega) ?_
  rintro A' c' w1 hroom hk1 hr1
  obtain ⟨rfl, rfl⟩ := hroom (by omega)
  obtain ⟨w2, hclr, hk2, hr2⟩ := run_clear_row (P := Try.prog) 30 0 3 (Value.int .i64 0) 1 8 Try.underlying30 Try.info3 rfl Try.zc3 hr1 (i + (n - j)) (n - (i + (n - j))) (c' - (i + (n - j))) (off + (i + (n - j))) (Nat.le_refl _) (by omega) (by omega) (by omega)
  have hnc : ¬ c' = i + (n - j) := by omega
  have hk : Keeps S w w2 := ((Keeps.refl S w).drew.trans hk1 (fun _ h => .inl h)).trans hk2 (fun k hk => by rcases hk with hk | hk; exact .inl hk; exact .inr hk.1)
  have hr3 : (SP.row 3 1 (.slice (some ⟨g, off, none⟩) (i + (n - j)) c') (xs.take i ++ xs.drop j)).At w2 (grow S w w2) := (SP.row 3 1 _ _).mono hr2 (fun k h => by have := hk2.size; rcases h with h | ⟨h1, h2⟩; exact .inl h; exact .inr ⟨h1, by omega⟩)
  have hfin := Lib.hid (And.intro hk hr3)
  clear hr hr' hnews hroom hb b3 hx b4 hn hk1 hr1 hk2 hr2 hk hr3
  go_wp2
  go_ret
  exact ⟨_, _, rfl, hfin.out⟩
theorem deletei_calls (w : World) {S : Nat → Prop} {A : Option Addr} {n c : Nat} {xs : List Value} (hr : (SP.row 3 1 (.slice A n c) xs).At w S) (hn : xs.length = n) (hc : n ≤ c) (hc2 : c ≤ maxLen) (h1x : ∀ u ∈ xs, u.oneCell' = true) (hm : n ≤ 1000000) (i j : Nat) (hij : i ≤ j) (hj : j ≤ n) :
    Calls Try.prog 41 #[.slice A n c, .int .i64 i, .int .i64 j] w fun e w' => ∃ A' c', e = .returned (.slice A' (i + (n - j)) c') ∧ Keeps S w w' ∧ (SP.row 3 1 (.slice A' (i + (n - j)) c') (xs.take i ++ xs.drop j)).At w' (grow S w w') := by
  rcases Nat.lt_or_ge i j with h | h
  · exact deletei_lt w hr hn h1x hm i j h hj
  · obtain rfl : i = j := by omega
    refine (deletei_eq w hc hc2 i hj).mono ?_
    rintro e w' ⟨rfl, rfl⟩
    have hi : i + (n - i) = n := by omega
    exact ⟨A, c, by rw [hi], Keeps.refl _ _, by rw [List.take_append_drop, hi]; exact (SP.row 3 1 _ _).mono hr (fun k hk => .inl hk)⟩

end Go.Proofs.Ytbncicfbgfmekaa

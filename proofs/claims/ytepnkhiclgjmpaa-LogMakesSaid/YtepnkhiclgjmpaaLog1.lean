/-
  Last, Term, Has, Newer, Commit, Marks, Base, Len of a log; what is checked of an entry.
  Conditions: the log is in order.
-/
import Derived.Test.YtepnkhiclgjmpaaEnt
import Derived.BigQuiet
import Derived.Deep.QuietTactic
import Derived.Deep.Cut
import Derived.WalkSpells
namespace Go.Proofs.Ytepnkhiclgjmpaa
set_option linter.unusedVariables false
set_option linter.unusedSimpArgs false
open Go.RowKit

def In64 (x : Int) : Prop := -9223372036854775808 ≤ x ∧ x ≤ 9223372036854775807
def withinB (n least : Int) : Bool := decide (least ≤ n ∧ n ≤ maxI)
theorem maxI_eq : maxI = 4611686018427387904 := rfl

set_option maxHeartbeats 400000 in
theorem within_calls (w : World) (n least : Int) : Calls Try.prog 47 #[.int .i64 n, .int .i64 least] w fun e w' => e = .returned (.bool (withinB n least)) ∧ w = w' := by
  have key : ∃ r, withinB n least = r ∧ Calls Try.prog 47 #[.int .i64 n, .int .i64 least] w fun e w' => e = .returned (.bool r) ∧ w = w' := by
    by_cases h1 : least ≤ n
    · by_cases h2 : n ≤ 4611686018427387904
      · refine ⟨true, decide_eq_true ⟨h1, h2⟩, ?_⟩
        go_enter Try.func47, Try.ntmps47
        go_wp2
        go_ret
        exact ⟨rfl, rfl⟩
      · refine ⟨false, decide_eq_false (fun h => h2 h.2), ?_⟩
        go_enter Try.func47, Try.ntmps47
        go_wp2
        go_ret
        exact ⟨rfl, rfl⟩
    · refine ⟨false, decide_eq_false (fun h => h1 h.1), ?_⟩
      go_enter Try.func47, Try.ntmps47
      go_wp2
      go_ret
      exact ⟨rfl, rfl⟩
  obtain ⟨r, hr, h⟩ := key
  rw [hr]
  exact h
set_option maxHeartbeats 400000 in
theorem cwithin_calls (w : World) (n least : Int) : Calls Try.prog 78 #[.int .i64 n, .int .i64 least] w fun e w' => e = .returned (.bool (withinB n least)) ∧ w = w' := by
  have key : ∃ r, withinB n least = r ∧ Calls Try.prog 78 #[.int .i64 n, .int .i64 least] w fun e w' => e = .returned (.bool r) ∧ w = w' := by
    by_cases h1 : least ≤ n
    · by_cases h2 : n ≤ 4611686018427387904
      · refine ⟨true, decide_eq_true ⟨h1, h2⟩, ?_⟩
        go_enter Try.func78, Try.ntmps78
        go_wp2
        go_ret
        exact ⟨rfl, rfl⟩
      · refine ⟨false, decide_eq_false (fun h => h2 h.2), ?_⟩
        go_enter Try.func78, Try.ntmps78
        go_wp2
        go_ret
        exact ⟨rfl, rfl⟩
    · refine ⟨false, decide_eq_false (fun h => h1 h.1), ?_⟩
      go_enter Try.func78, Try.ntmps78
      go_wp2
      go_ret
      exact ⟨rfl, rfl⟩
  obtain ⟨r, hr, h⟩ := key
  rw [hr]
  exact h
set_option maxHeartbeats 400000 in
theorem num_calls (w : World) (n : Int) (h : In64 n) : Calls Try.prog 15 #[.int .i64 n] w fun e w' => e = .returned (.int .i64 n) ∧ w = w' := by
  obtain ⟨h1, h2⟩ := h
  go_enter Try.func15, Try.ntmps15
  go_wp2
  go_ret
  exact ⟨rfl, rfl⟩

/-- What Check answers, told by its tests. -/
theorem checkE_cases (e : E) : (withinB e.term 1 = false ∧ checkE e = 1) ∨ (withinB e.term 1 = true ∧ withinB e.index 1 = false ∧ checkE e = 1) ∨
    (withinB e.term 1 = true ∧ withinB e.index 1 = true ∧ ((e.kind ≠ 0 ∧ e.kind ≠ 1 ∧ checkE e = 6) ∨ ((e.kind = 0 ∨ e.kind = 1) ∧ ((4096 < e.dat.length ∧ checkE e = 3) ∨ (e.dat.length ≤ 4096 ∧ ((e.kind = 0 ∧ 0 < e.dat.length ∧ checkE e = 4) ∨ ((e.kind = 1 ∨ e.dat.length = 0) ∧ checkE e = 0))))))) := by
  by_cases h1 : 1 ≤ e.term ∧ e.term ≤ maxI
  · by_cases h2 : 1 ≤ e.index ∧ e.index ≤ maxI
    · right; right
      refine ⟨decide_eq_true h1, decide_eq_true h2, ?_⟩
      unfold checkE
      rw [if_neg (by intro h; rcases h with h | h; exact h h1; exact h h2)]
      by_cases h3 : e.kind ≠ 0 ∧ e.kind ≠ 1
      · left; rw [if_pos h3]; exact ⟨h3.1, h3.2, rfl⟩
      · right; rw [if_neg h3]
        refine ⟨by omega, ?_⟩
        by_cases h4 : 4096 < e.dat.length
        · left; rw [if_pos h4]; exact ⟨h4, rfl⟩
        · right; rw [if_neg h4]
          refine ⟨by omega, ?_⟩
          by_cases h5 : e.kind = 0 ∧ 0 < e.dat.length
          · left; rw [if_pos h5]; exact ⟨h5.1, h5.2, rfl⟩
          · right; rw [if_neg h5]; exact ⟨by omega, rfl⟩
    · right; left
      refine ⟨decide_eq_true h1, decide_eq_false h2, ?_⟩
      unfold checkE
      rw [if_pos (.inr h2)]
  · left
    refine ⟨decide_eq_false h1, ?_⟩
    unfold checkE
    rw [if_pos (.inl h1)]

section
variable {S : Nat → Prop} {w0 w : World} {R : List SP}
set_option maxHeartbeats 3200000 in
theorem check_own (h : Own S w0 w R) (e : E) (Ad : Option Addr) (cd : Nat) (hdl : e.dat.length ≤ 140737488351232) :
    Calls Try.prog 48 #[.agg #[], .agg #[.int .i64 e.term, .int .i64 e.index, .int .i64 e.kind, .slice Ad e.dat.length cd]] w fun en w' => en = .returned (.int .i64 (checkE e)) ∧ Own S w0 w' R := by
  have O := Lib.hid (((h.alloc #[] 82).pop.alloc #[.int .i64 e.term, .int .i64 e.index, .int .i64 e.kind, .slice Ad e.dat.length cd] 26).pop)
  have hw1 := Lib.hid (fun W => cwithin_calls W e.term 1)
  have hw2 := Lib.hid (fun W => cwithin_calls W e.index 1)
  obtain ⟨c, hc⟩ : ∃ c, checkE e = c := ⟨_, rfl⟩
  obtain ⟨n, hn⟩ : ∃ n, e.dat.length = n := ⟨_, rfl⟩
  have hcs := checkE_cases e
  rw [hc, hn] at hcs
  rw [hn] at O hdl
  rw [hc, hn]
  clear h hc hn
  rcases hcs with ⟨h1, rfl⟩ | ⟨h1, h2, rfl⟩ | ⟨h1, h2, hk⟩
  · rw [h1] at hw1
    clear h1
    go_enter Try.func48, Try.ntmps48
    go_wp2_with fail
    refine (hw1.out _).mono ?_
    rintro e1 w1 ⟨rfl, rfl⟩
    go_wp2
    go_ret
    exact ⟨rfl, O.out⟩
  · rw [h1] at hw1
    rw [h2] at hw2
    clear h1 h2
    go_enter Try.func48, Try.ntmps48
    go_wp2_with fail
    refine (hw1.out _).mono ?_
    rintro e1 w1 ⟨rfl, rfl⟩
    go_wp2_with fail
    refine (hw2.out _).mono ?_
    rintro e1 w1 ⟨rfl, rfl⟩
    go_wp2
    go_ret
    exact ⟨rfl, O.out⟩
  · rw [h1] at hw1
    rw [h2] at hw2
    clear h1 h2
    have hk' : (e.kind != 0) = true ∧ (e.kind != 1) = true ∧ c = 6 ∨ (e.kind != 0) = false ∧ (e.kind == 0) = true ∧ ((4096 < n ∧ c = 3) ∨ (n ≤ 4096 ∧ 0 < n ∧ c = 4) ∨ (n = 0 ∧ c = 0)) ∨ (e.kind != 0) = true ∧ (e.kind != 1) = false ∧ (e.kind == 0) = false ∧ ((4096 < n ∧ c = 3) ∨ (n ≤ 4096 ∧ c = 0)) := by
      simp only [bne_iff_ne, bne_eq_false_iff_eq, beq_iff_eq, beq_eq_false_iff_ne, ne_eq]
      omega
    clear hk
    rcases hk' with ⟨k1, k2, rfl⟩ | ⟨k1, k2, ⟨k3, rfl⟩ | ⟨k3, k4, rfl⟩ | ⟨rfl, rfl⟩⟩ | ⟨k1, k2, k4, ⟨k3, rfl⟩ | ⟨k3, rfl⟩⟩
    all_goals
      go_enter Try.func48, Try.ntmps48
      go_wp2_with fail
      refine (hw1.out _).mono ?_
      rintro e1 w1 ⟨rfl, rfl⟩
      go_wp2_with fail
      refine (hw2.out _).mono ?_
      rintro e1 w1 ⟨rfl, rfl⟩
      go_wp2
      go_ret
      exact ⟨rfl, O.out⟩
end
end Go.Proofs.Ytepnkhiclgjmpaa

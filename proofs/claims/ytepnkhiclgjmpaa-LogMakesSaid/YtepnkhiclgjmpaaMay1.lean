/-
  The reference's within, Number, CheckEntry; used.
  Conditions: none beyond each theorem's own.
-/
import Derived.Test.YtepnkhiclgjmpaaCopies
namespace Go.Proofs.Ytepnkhiclgjmpaa
set_option linter.unusedVariables false
set_option linter.unusedSimpArgs false
open Go.RowKit

set_option maxHeartbeats 400000 in
theorem rwithin_calls (w : World) (n a b : Int) : Calls Try.prog 79 #[.int .i64 n, .int .i64 a, .int .i64 b] w fun e w' => e = .returned (.bool (decide (a ≤ n ∧ n ≤ b))) ∧ w = w' := by
  have key : ∃ r, decide (a ≤ n ∧ n ≤ b) = r ∧ Calls Try.prog 79 #[.int .i64 n, .int .i64 a, .int .i64 b] w fun e w' => e = .returned (.bool r) ∧ w = w' := by
    by_cases h1 : a ≤ n
    · by_cases h2 : n ≤ b
      · refine ⟨true, decide_eq_true ⟨h1, h2⟩, ?_⟩
        go_enter Try.func79, Try.ntmps79
        go_wp2
        go_ret
        exact ⟨rfl, rfl⟩
      · refine ⟨false, decide_eq_false (fun h => h2 h.2), ?_⟩
        go_enter Try.func79, Try.ntmps79
        go_wp2
        go_ret
        exact ⟨rfl, rfl⟩
    · refine ⟨false, decide_eq_false (fun h => h1 h.1), ?_⟩
      go_enter Try.func79, Try.ntmps79
      go_wp2
      go_ret
      exact ⟨rfl, rfl⟩
  obtain ⟨r, hr, h⟩ := key
  rw [hr]
  exact h
theorem rwithin_max (w : World) (n a : Int) : Calls Try.prog 79 #[.int .i64 n, .int .i64 a, .int .i64 4611686018427387904] w fun e w' => e = .returned (.bool (withinB n a)) ∧ w = w' := rwithin_calls w n a 4611686018427387904
set_option maxHeartbeats 400000 in
theorem number_calls (w : World) (n : Int) : Calls Try.prog 50 #[.int .i64 n] w fun e w' => e = .returned (.bool (withinB n 0)) ∧ w = w' := by
  have key : ∃ r, withinB n 0 = r ∧ Calls Try.prog 50 #[.int .i64 n] w fun e w' => e = .returned (.bool r) ∧ w = w' := by
    by_cases h1 : 0 ≤ n
    · by_cases h2 : n ≤ 4611686018427387904
      · refine ⟨true, decide_eq_true ⟨h1, h2⟩, ?_⟩
        go_enter Try.func50, Try.ntmps50
        go_wp2
        go_ret
        exact ⟨rfl, rfl⟩
      · refine ⟨false, decide_eq_false (fun h => h2 h.2), ?_⟩
        go_enter Try.func50, Try.ntmps50
        go_wp2
        go_ret
        exact ⟨rfl, rfl⟩
    · refine ⟨false, decide_eq_false (fun h => h1 h.1), ?_⟩
      go_enter Try.func50, Try.ntmps50
      go_wp2
      go_ret
      exact ⟨rfl, rfl⟩
  obtain ⟨r, hr, h⟩ := key
  rw [hr]
  exact h

section
variable {S : Nat → Prop} {w0 w : World} {R : List SP}
set_option maxHeartbeats 3200000 in
theorem rcheck_own (h : Own S w0 w R) (e : E) (Ad : Option Addr) (cd : Nat) (hdl : e.dat.length ≤ 140737488351232) :
    Calls Try.prog 51 #[.agg #[.int .i64 e.term, .int .i64 e.index, .int .i64 e.kind, .slice Ad e.dat.length cd]] w fun en w' => en = .returned (.int .i64 (checkE e)) ∧ Own S w0 w' R := by
  have O := Lib.hid ((h.alloc #[.int .i64 e.term, .int .i64 e.index, .int .i64 e.kind, .slice Ad e.dat.length cd] 26).pop)
  have hw1 := Lib.hid (fun W => rwithin_max W e.term 1)
  have hw2 := Lib.hid (fun W => rwithin_max W e.index 1)
  obtain ⟨c, hc⟩ : ∃ c, checkE e = c := ⟨_, rfl⟩
  obtain ⟨n, hn⟩ : ∃ n, e.dat.length = n := ⟨_, rfl⟩
  have hcs := checkE_cases e
  rw [hc, hn] at hcs
  rw [hn] at O hdl
  rw [hc, hn]
  clear h hc hn
  rcases hcs with ⟨h1, rfl⟩ | ⟨h1, h2, rfl⟩ | ⟨h1, h2, hk⟩
  · rw [h1] at hw1
    clear h1
    go_enter Try.func51, Try.ntmps51
    go_wp2_with fail
    refine (hw1.out _).mono ?_
    rintro e1 w1 ⟨rfl, rfl⟩
    go_wp2
    go_ret
    exact ⟨rfl, O.out⟩
  · rw [h1] at hw1
    rw [h2] at hw2
    clear h1 h2
    go_enter Try.func51, Try.ntmps51
    go_wp2_with fail
    refine (hw1.out _).mono ?_
    rintro e1 w1 ⟨rfl, rfl⟩
    go_wp2_with fail
    refine (hw2.out _).mono ?_
    rintro e1 w1 ⟨rfl, rfl⟩
    go_wp2
    go_ret
    exact ⟨rfl, O.out⟩
  · rw [h1] at hw1
    rw [h2] at hw2
    clear h1 h2
    have hk' : (e.kind != 0) = true ∧ (e.kind != 1) = true ∧ c = 6 ∨ (e.kind != 0) = false ∧ (e.kind == 0) = true ∧ ((4096 < n ∧ c = 3) ∨ (n ≤ 4096 ∧ 0 < n ∧ c = 4) ∨ (n = 0 ∧ c = 0)) ∨ (e.kind != 0) = true ∧ (e.kind != 1) = false ∧ (e.kind == 0) = false ∧ ((4096 < n ∧ c = 3) ∨ (n ≤ 4096 ∧ c = 0)) := by
      simp only [bne_iff_ne, bne_eq_false_iff_eq, beq_iff_eq, beq_eq_false_iff_ne, ne_eq]
      omega
    clear hk
    rcases hk' with ⟨k1, k2, rfl⟩ | ⟨k1, k2, ⟨k3, rfl⟩ | ⟨k3, k4, rfl⟩ | ⟨rfl, rfl⟩⟩ | ⟨k1, k2, k4, ⟨k3, rfl⟩ | ⟨k3, rfl⟩⟩
    all_goals
      go_enter Try.func51, Try.ntmps51
      go_wp2_with fail
      refine (hw1.out _).mono ?_
      rintro e1 w1 ⟨rfl, rfl⟩
      go_wp2_with fail
      refine (hw2.out _).mono ?_
      rintro e1 w1 ⟨rfl, rfl⟩
      go_wp2
      go_ret
      exact ⟨rfl, O.out⟩

/-- A message that gives entries. -/
def msgA (i t : Int) (A : Option Addr) (n c : Nat) : Array Value := #[.int .i64 3, .int .i64 1, .int .i64 2, .int .i64 4611686018427387904, .int .i64 i, .int .i64 t, .int .i64 0, .int .i64 0, .int .i64 0, .bool false, .slice A n c, .int .i64 0, .int .i64 0, .slice none 0 0]
def msgV (i t : Int) (A : Option Addr) (n c : Nat) : Value := .agg (msgA i t A n c)
set_option maxRecDepth 100000 in
set_option maxHeartbeats 3200000 in
theorem used_own (h : Own S w0 w R) (i t : Int) (A : Option Addr) (n c : Nat) :
    Calls Try.prog 81 #[msgV i t A n c] w fun e w' => e = .returned (msgV i t A n c) ∧ Own S w0 w' R := by
  have O := Lib.hid (((((h.alloc (msgA i t A n c) 94).pop).alloc (msgA i t A n c) 94).pop.alloc (msgA i t A n c) 94).pop)
  unfold msgV
  unfold msgA at O ⊢
  clear h
  go_enter Try.func81, Try.ntmps81
  go_wp2
  refine bodyPost_ret (v := .agg #[.int .i64 3, .int .i64 1, .int .i64 2, .int .i64 4611686018427387904, .int .i64 i, .int .i64 t, .int .i64 0, .int .i64 0, .int .i64 0, .bool false, .slice A n c, .int .i64 0, .int .i64 0, .slice none 0 0]) ?_ rfl ⟨rfl, O.out⟩
  simp [results, go_sem, Try.results81]
end
end Go.Proofs.Ytepnkhiclgjmpaa

/-
  Move: what goes from one queue to another.
  Conditions: the rooms are at most 64, no queue holds more than its room.
-/
import Derived.Test.YtbncicfbgfmekaaQueI
namespace Go.Proofs.Ytbncicfbgfmekaa
set_option linter.unusedVariables false
set_option linter.unusedSimpArgs false
open Go.RowKit

def moveN (n : Nat) (free most : Int) : Nat := min n (min free.toNat most.toNat)

set_option maxHeartbeats 1600000 in
theorem move_spec (w : World) (g1 g2 : Nat) (room other most : Int) (xs ys : List Int) (a0 : 0 ≤ room) (a1 : room ≤ 64) (b0 : 0 ≤ other) (b1 : other ≤ 64) (hx : (xs.length : Int) ≤ room) (hy : (ys.length : Int) ≤ other) :
    SpecAt Try.prog 21 #[.pointer (some ⟨g1, 0, none⟩), .pointer (some ⟨g2, 0, none⟩), .int .i64 most] w (SP.stars [SP.quei g1 room xs, SP.quei g2 other ys]) fun e A' =>
      e = .returned (.int .i64 (moveN xs.length (other - ys.length) most)) ∧ A' = SP.stars [SP.quei g1 room (xs.drop (moveN xs.length (other - ys.length) most)), SP.quei g2 other (ys ++ xs.take (moveN xs.length (other - ys.length) most))] := by
  intro S hA hlt
  have hown0 : Own S w w [SP.quei g1 room (xs.drop 0), SP.quei g2 other (ys ++ xs.take 0)] := by
    have := (Own.enter hA hlt).flat
    simpa using this
  clear hA
  generalize hN : moveN xs.length (other - ys.length) most = N
  have HN := Lib.hid hN
  clear hN
  go_enter Try.func21, Try.ntmps21
  go_wp2
  go_loopw [7] (fun t wr => ∃ k : Nat, k ≤ N ∧ t = .int .i64 k ∧ Own S w wr [SP.quei g1 room (xs.drop k), SP.quei g2 other (ys ++ xs.take k)]) (fun t _ => xs.length - (intOf t).toNat)
  case atStart => exact ⟨0, Nat.zero_le _, rfl, hown0⟩
  case round =>
    obtain ⟨k, hk, rfl, hown⟩ := hrel
    have hkx : k ≤ xs.length := by have := HN.out; unfold moveN at this; omega
    by_cases hall : k < N
    · have q : (k : Int) < most ∧ k < xs.length ∧ ((ys ++ xs.take k).length : Int) < other := by
        have := HN.out; unfold moveN at this; simp [List.length_append, List.length_take]; omega
      obtain ⟨q1, q2, q3⟩ := q
      have hl0 : 0 < xs.length - k := by omega
      have hm : (ys ++ xs.take k).length = ys.length + k := by rw [List.length_append, List.length_take]; omega
      have hy1 : (((ys.length + k : Nat) : Int)) < other := by rw [← hm]; exact q3
      have sl : ∀ W, SpecAt Try.prog 20 #[.pointer (some ⟨g1, 0, none⟩)] W (SP.quei g1 room (xs.drop k)) fun e A' => e = .returned (.int .i64 ((xs.length - k : Nat) : Int)) ∧ A' = SP.quei g1 room (xs.drop k) := fun W => by
        have := qleni_spec W g1 room (xs.drop k)
        rwa [List.length_drop] at this
      have sr : ∀ W, SpecAt Try.prog 17 #[.pointer (some ⟨g2, 0, none⟩)] W (SP.quei g2 other (ys ++ xs.take k)) fun e A' => e = .returned (.int .i64 (other - (ys.length + k : Nat))) ∧ A' = SP.quei g2 other (ys ++ xs.take k) := fun W => by
        have := qroomi_spec W g2 other (ys ++ xs.take k) b0 b1 (by omega)
        rwa [hm] at this
      obtain ⟨x, hxk⟩ : ∃ x, xs[k]? = some x := ⟨_, List.getElem?_eq_getElem q2⟩
      have hd : xs.drop k = x :: xs.drop (k + 1) := by
        rw [List.drop_eq_getElem_cons q2]
        rw [List.getElem?_eq_getElem q2] at hxk
        injection hxk with hxk
        rw [hxk]
      have st : ∀ W, SpecAt Try.prog 19 #[.pointer (some ⟨g1, 0, none⟩)] W (SP.quei g1 room (xs.drop k)) fun e A' => e = .returned (.tuple #[.int .i64 x, .bool true]) ∧ A' = SP.quei g1 room (xs.drop (k + 1)) := fun W => by
        have := qtakei_spec W g1 room (xs.drop k) (by rw [List.length_drop]; omega)
        rw [hd] at this ⊢
        exact this
      have htk : xs.take (k + 1) = xs.take k ++ [x] := by rw [List.take_add_one, hxk]; rfl
      have sp : ∀ W, SpecAt Try.prog 18 #[.pointer (some ⟨g2, 0, none⟩), .int .i64 x] W (SP.quei g2 other (ys ++ xs.take k)) fun e A' => e = .returned (.bool true) ∧ A' = SP.quei g2 other (ys ++ xs.take (k + 1)) := fun W => by
        have := qputi_spec W g2 other (ys ++ xs.take k) x b0 b1 (by omega)
        rw [if_pos q3, List.append_assoc, ← htk] at this
        have hdec : decide (((ys ++ xs.take k).length : Int) < other) = true := by simpa using q3
        rwa [hdec] at this
      have sl' := Lib.hid sl
      have sr' := Lib.hid sr
      have st' := Lib.hid st
      have sp' := Lib.hid sp
      clear sl sr st sp hd htk hxk hm
      go_wp2_with fail
      refine (SpecAt.use (sl'.out _) hown).mono ?_
      rintro e w1 ⟨A', ⟨rfl, rfl⟩, hown1, -⟩
      have hgt : decide (other - ((ys.length + k : Nat) : Int) > 0) = true := by simp; omega
      go_wp2_with fail
      refine (SpecAt.use (sr'.out _) hown1.swap).mono ?_
      rintro e w2 ⟨A', ⟨rfl, rfl⟩, hown2, -⟩
      clear hown1
      go_wp2_with fail
      refine (SpecAt.use (st'.out _) hown2.swap).mono ?_
      rintro e w3 ⟨A', ⟨rfl, rfl⟩, hown3, -⟩
      clear hown2
      go_wp2_with fail
      refine (SpecAt.use (sp'.out _) hown3.swap).mono ?_
      rintro e w4 ⟨A', ⟨rfl, rfl⟩, hown4, -⟩
      clear hown3 hown
      go_wp2
      go_roundw
      case rel => exact ⟨k + 1, by omega, by go_num, hown4.swap⟩
      case measure => simp [intOf]; omega
    · obtain rfl : N = k := by omega
      have sl : ∀ W, SpecAt Try.prog 20 #[.pointer (some ⟨g1, 0, none⟩)] W (SP.quei g1 room (xs.drop N)) fun e A' => e = .returned (.int .i64 ((xs.length - N : Nat) : Int)) ∧ A' = SP.quei g1 room (xs.drop N) := fun W => by
        have := qleni_spec W g1 room (xs.drop N)
        rwa [List.length_drop] at this
      have sl' := Lib.hid sl
      by_cases q1 : (N : Int) < most
      · by_cases q2 : N < xs.length
        · have hm : (ys ++ xs.take N).length = ys.length + N := by rw [List.length_append, List.length_take]; omega
          have q3 : other - ((ys.length + N : Nat) : Int) = 0 := by have := HN.out; unfold moveN at this; omega
          have sr : ∀ W, SpecAt Try.prog 17 #[.pointer (some ⟨g2, 0, none⟩)] W (SP.quei g2 other (ys ++ xs.take N)) fun e A' => e = .returned (.int .i64 0) ∧ A' = SP.quei g2 other (ys ++ xs.take N) := fun W => by
            have := qroomi_spec W g2 other (ys ++ xs.take N) b0 b1 (by omega)
            rwa [hm, q3] at this
          have sr' := Lib.hid sr
          have hl0 : 0 < xs.length - N := by omega
          clear sl sr q3 hm hk
          go_wp2_with fail
          refine (SpecAt.use (sl'.out _) hown).mono ?_
          rintro e w1 ⟨A', ⟨rfl, rfl⟩, hown1, -⟩
          go_wp2_with fail
          refine (SpecAt.use (sr'.out _) hown1.swap).mono ?_
          rintro e w2 ⟨A', ⟨rfl, rfl⟩, hown2, -⟩
          clear hown1
          go_wp2
          go_ret
          exact ⟨_, ⟨rfl, rfl⟩, hown2.swap.leave⟩
        · have q3 : xs.length - N = 0 := by omega
          rw [q3] at sl'
          clear sl q3 hk
          go_wp2_with fail
          refine (SpecAt.use (sl'.out _) hown).mono ?_
          rintro e w1 ⟨A', ⟨rfl, rfl⟩, hown1, -⟩
          go_wp2
          go_ret
          exact ⟨_, ⟨rfl, rfl⟩, hown1.leave⟩
      · clear sl hk
        go_wp2
        go_ret
        exact ⟨_, ⟨rfl, rfl⟩, hown.leave⟩
end Go.Proofs.Ytbncicfbgfmekaa

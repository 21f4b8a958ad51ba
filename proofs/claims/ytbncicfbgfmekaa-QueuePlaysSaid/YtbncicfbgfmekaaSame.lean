/-
  SameInts: are two lists of numbers the same?
  Conditions: the lengths are small.
-/
import Derived.Test.YtbncicfbgfmekaaBox
import Derived.Test.YtbncicfbgfmekaaProg
import Derived.WalkKit
import Derived.WalkSpells
import Derived.WalkLawsBesides
import Derived.Deep.QuietTactic
import Derived.BigQuiet
namespace Go.Proofs.Ytbncicfbgfmekaa
set_option linter.unusedVariables false
set_option linter.unusedSimpArgs false
open Go.RowKit

def AgreeTo (xs ys : List Int) (i : Nat) : Prop := ∀ j, j < i → xs[j]? = ys[j]?
theorem agree_all {xs ys : List Int} (h : AgreeTo xs ys xs.length) (hl : xs.length = ys.length) : xs = ys := by
  apply List.ext_getElem?
  intro j
  rcases Nat.lt_or_ge j xs.length with h1 | h1
  · exact h j h1
  · rw [List.getElem?_eq_none h1, List.getElem?_eq_none (by omega)]

set_option maxHeartbeats 800000 in
theorem sameints_calls (w : World) (A B : Option Addr) (ca cb : Nat) (xs ys : List Int) (hx : Rd w A (ints xs)) (hy : Rd w B (ints ys)) (hl : xs.length ≤ 1000000) :
    Calls Try.prog 29 #[.slice A xs.length ca, .slice B ys.length cb] w fun e w' => e = .returned (.bool (decide (xs = ys))) ∧ ∃ d, w' = w.drewN d := by
  by_cases hlen : xs.length = ys.length
  · have hn : ((xs.length : Int) != (ys.length : Int)) = false := by simp; omega
    have H := Lib.hid (And.intro hx (And.intro hy hlen))
    have hly : ys.length ≤ 1000000 := by omega
    clear hx hy hlen
    go_enter Try.func29, Try.ntmps29
    go_wp2
    go_loopw [5] (fun t wr => ∃ i d : Nat, i ≤ xs.length ∧ t = .int .i64 i ∧ wr = w.drewN d ∧ AgreeTo xs ys i) (fun t _ => xs.length - (intOf t).toNat)
    case atStart => exact ⟨0, 0, Nat.zero_le _, rfl, rfl, fun j h => by omega⟩
    case round =>
      obtain ⟨i, d, hi, rfl, rfl, hag⟩ := hrel
      by_cases hin : i < xs.length
      · have hin2 : i < ys.length := by have := H.out.2.2; omega
        obtain ⟨x, hxi⟩ : ∃ x, xs[i]? = some x := ⟨_, List.getElem?_eq_getElem hin⟩
        obtain ⟨y, hyi⟩ : ∃ y, ys[i]? = some y := ⟨_, List.getElem?_eq_getElem hin2⟩
        obtain ⟨b1, o1, rfl, hc1⟩ := H.out.1 i _ (ints_get hxi)
        obtain ⟨b2, o2, rfl, hc2⟩ := H.out.2.1 i _ (ints_get hyi)
        have i0 : (0 : Int) ≤ (i : Int) := by omega
        have i1 : (i : Int) < (xs.length : Int) := by omega
        have i2 : (i : Int) < (ys.length : Int) := by omega
        by_cases hxy : x = y
        · have hne : (x != y) = false := by simp [hxy]
          have HX := Lib.hid (And.intro hxi (And.intro hyi hxy))
          clear hxi hyi hxy
          go_wp2
          go_quiet (fail)
          go_wp2
          go_roundw
          case rel =>
            refine ⟨i + 1, _, by omega, by go_num, rfl, fun j hj => ?_⟩
            rcases Nat.lt_or_ge j i with h | h
            · exact hag j h
            · obtain rfl : j = i := by omega
              rw [HX.out.1, HX.out.2.1, HX.out.2.2]
          case measure => simp [intOf]; omega
        · have hne : (x != y) = true := by simpa using hxy
          have HD : decide (xs = ys) = false := by
            simp only [decide_eq_false_iff_not]
            rintro rfl
            rw [hxi] at hyi
            injection hyi with hyi
            exact hxy hyi
          clear hxi hyi hxy hag
          have HD' := Lib.hid HD
          clear HD
          go_wp2
          go_quiet (fail)
          go_wp2
          go_ret
          exact ⟨by rw [HD'.out]; rfl, _, by rw [World.drewN_drewN]⟩
      · obtain rfl : i = xs.length := by omega
        have HD : decide (xs = ys) = true := by simpa using agree_all hag H.out.2.2
        clear hag
        have HD' := Lib.hid HD
        clear HD
        go_wp2
        go_ret
        exact ⟨by rw [HD'.out]; rfl, _, rfl⟩
  · have hn : ((xs.length : Int) != (ys.length : Int)) = true := by simp; omega
    have HD : decide (xs = ys) = false := by
      simp only [decide_eq_false_iff_not]
      rintro rfl
      exact hlen rfl
    rw [HD]
    clear HD hlen hx hy
    go_enter Try.func29, Try.ntmps29
    go_wp2
    go_ret
    exact ⟨rfl, 0, rfl⟩
end Go.Proofs.Ytbncicfbgfmekaa

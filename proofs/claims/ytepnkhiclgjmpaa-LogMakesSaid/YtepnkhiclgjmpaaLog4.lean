/-
  Hint, Append of a log.
  Conditions: the log is in order.
-/
import Derived.Test.YtepnkhiclgjmpaaLog3
import Derived.Test.YtepnkhiclgjmpaaRegionNeed
namespace Go.Proofs.Ytepnkhiclgjmpaa
set_option linter.unusedVariables false
set_option linter.unusedSimpArgs false
open Go.RowKit

section
variable {S : Nat → Prop} {w0 w : World} {R : List SP} {g : Nat} {x : Lg}

/-- Where the search for a hint stands. -/
def HintAt (x : Lg) (t H j : Int) : Prop := ∃ n : Nat, x.down t n = H ∧ ((j = x.index + (n : Int)) ∨ (n = 0 ∧ j ≤ x.index)) ∧ j ≤ x.lastI
set_option maxRecDepth 100000 in
set_option maxHeartbeats 3200000 in
theorem hint_own (hx : x.Ok) (h : Own S w0 w (SP.log 85 g x :: R)) (i t : Int) (hi : In64 i) :
    Calls Try.prog 24 #[.pointer (some ⟨g, 0, none⟩), .int .i64 i, .int .i64 t] w fun e w' => e = .returned (.int .i64 (x.hint i t)) ∧ Own S w0 w' (SP.log 85 g x :: R) := by
  have HT := Lib.hid (last_own (by have := hx.len; omega) h (fun j e he => (hx.idx j e he).1))
  obtain ⟨p, hp⟩ : ∃ p, x.lastI = p := ⟨_, rfl⟩
  obtain ⟨q, hq⟩ : ∃ q, x.lastT = q := ⟨_, rfl⟩
  have HP := Lib.hid hp
  rw [hp, hq] at HT
  have hpm := hx.last
  rw [hp, maxI_eq] at hpm
  have hx0 := hx.i0
  have HX := Lib.hid hx
  obtain ⟨hi1, hi2⟩ := hi
  have hip : x.index ≤ p := by rw [← hp]; unfold Lg.lastI; omega
  obtain ⟨H, hH⟩ : ∃ H, x.hint i t = H := ⟨_, rfl⟩
  have h0 : HintAt x t H (min i p) := ⟨_, hH, by rw [HP.out]; omega, by rw [HP.out]; omega⟩
  rw [hH]
  have HTm := Lib.hid (fun (W : World) (hW : Own S w0 W (SP.log 85 g x :: R)) (j : Int) (hj : In64 j) => term_own HX.out.i0 (by have := HX.out.len; omega) hW j hj)
  have H0 := Lib.hid h0
  clear hp hq hH h hx h0
  have key : ∀ n : Int, (n = i ∧ i < p) ∨ (n = p ∧ p < i) ∨ (n = i ∧ i = p) → Calls Try.prog 24 #[.pointer (some ⟨g, 0, none⟩), .int .i64 i, .int .i64 t] w fun e w' => e = .returned (.int .i64 H) ∧ Own S w0 w' (SP.log 85 g x :: R) := by
    intro n hn
    have hmin : min i p = n := by omega
    have H1 := H0.out
    rw [hmin] at H1
    have H1 := Lib.hid H1
    have hnp : n ≤ p ∧ n ≤ i := by omega
    have hnl : -9223372036854775808 ≤ n := by omega
    clear hmin H0
    rcases hn with ⟨hn, h2⟩ | ⟨hn, h2⟩ | ⟨hn, h2⟩
    rotate_left 2
    · subst i
      subst n
      go_enter Try.func24, Try.ntmps24
      go_wp2_with fail
      refine (HT.out).mono ?_
      rintro e w1 ⟨rfl, o⟩
      have O := Lib.hid o
      clear o HT
      go_wp2
      go_loopw [9] (fun ti wr => ∃ j : Int, ti = .int .i64 j ∧ j ≤ p ∧ -9223372036854775808 ≤ j ∧ Hid (HintAt x t H j) ∧ Own S w0 wr (SP.log 85 g x :: R)) (fun ti _ => (intOf ti - x.index).toNat)
      case atStart => exact ⟨_, rfl, by omega, by omega, H1, O.out⟩
      case round =>
        obtain ⟨j, rfl, hjp, hj0, hj, hown⟩ := hrel
        clear O H1
        obtain ⟨A, c, -, -, -, -, c0, -⟩ := hown.log_cells
        by_cases hlt : x.index < j
        · have HTj := HTm.out _ hown j ⟨by omega, by omega⟩
          obtain ⟨tt, htt⟩ : ∃ tt, (x.at j).1 = tt := ⟨_, rfl⟩
          obtain ⟨te, hte⟩ : ∃ te, (x.at j).2 = te := ⟨_, rfl⟩
          rw [htt, hte] at HTj
          have HTT := Lib.hid htt
          have HTj := Lib.hid HTj
          clear htt hte hown
          go_wp2_with fail
          refine (HTj.out).mono ?_
          rintro e w2 ⟨rfl, o2⟩
          have O2 := Lib.hid o2
          clear o2 c0 HTj
          by_cases hle : tt ≤ t
          · have hres : H = j := by
              obtain ⟨m, hm, hjm, -⟩ := hj.out
              rcases hjm with hjm | ⟨-, hjm⟩
              · cases m with
                | zero => omega
                | succ m =>
                  rw [Lg.down, ← hjm, HTT.out, if_pos hle] at hm
                  exact hm.symm
              · omega
            have HR := Lib.hid hres
            clear hres
            go_wp2
            go_ret
            exact ⟨by rw [HR.out]; rfl, O2.out⟩
          · have hj2 : HintAt x t H (j - 1) := by
              obtain ⟨m, hm, hjm, hjl⟩ := hj.out
              rcases hjm with hjm | ⟨-, hjm⟩
              · cases m with
                | zero => omega
                | succ m =>
                  rw [Lg.down, ← hjm, HTT.out, if_neg hle] at hm
                  exact ⟨m, hm, .inl (by omega), by omega⟩
              · omega
            have HJ := Lib.hid hj2
            clear hj2
            go_wp2
            go_roundw
            case rel => exact ⟨j - 1, rfl, by omega, by omega, HJ, O2.out⟩
            case measure => simp [intOf]; omega
        · have hres : H = x.index := by
            obtain ⟨m, hm, hjm, -⟩ := hj.out
            have : m = 0 := by omega
            subst this
            exact hm.symm
          have HR := Lib.hid hres
          have HO := Lib.hid hown
          clear hres hown
          go_wp2
          go_ret
          exact ⟨by rw [HR.out]; rfl, HO.out⟩
    all_goals
      subst n
      go_enter Try.func24, Try.ntmps24
      go_wp2_with fail
      refine (HT.out).mono ?_
      rintro e w1 ⟨rfl, o⟩
      have O := Lib.hid o
      clear o HT
      go_wp2
      go_loopw [9] (fun ti wr => ∃ j : Int, ti = .int .i64 j ∧ j ≤ p ∧ -9223372036854775808 ≤ j ∧ Hid (HintAt x t H j) ∧ Own S w0 wr (SP.log 85 g x :: R)) (fun ti _ => (intOf ti - x.index).toNat)
      case atStart => exact ⟨_, rfl, by omega, by omega, H1, O.out⟩
      case round =>
        obtain ⟨j, rfl, hjp, hj0, hj, hown⟩ := hrel
        clear O H1
        obtain ⟨A, c, -, -, -, -, c0, -⟩ := hown.log_cells
        by_cases hlt : x.index < j
        · have HTj := HTm.out _ hown j ⟨by omega, by omega⟩
          obtain ⟨tt, htt⟩ : ∃ tt, (x.at j).1 = tt := ⟨_, rfl⟩
          obtain ⟨te, hte⟩ : ∃ te, (x.at j).2 = te := ⟨_, rfl⟩
          rw [htt, hte] at HTj
          have HTT := Lib.hid htt
          have HTj := Lib.hid HTj
          clear htt hte hown
          go_wp2_with fail
          refine (HTj.out).mono ?_
          rintro e w2 ⟨rfl, o2⟩
          have O2 := Lib.hid o2
          clear o2 c0 HTj
          by_cases hle : tt ≤ t
          · have hres : H = j := by
              obtain ⟨m, hm, hjm, -⟩ := hj.out
              rcases hjm with hjm | ⟨-, hjm⟩
              · cases m with
                | zero => omega
                | succ m =>
                  rw [Lg.down, ← hjm, HTT.out, if_pos hle] at hm
                  exact hm.symm
              · omega
            have HR := Lib.hid hres
            clear hres
            go_wp2
            go_ret
            exact ⟨by rw [HR.out]; rfl, O2.out⟩
          · have hj2 : HintAt x t H (j - 1) := by
              obtain ⟨m, hm, hjm, hjl⟩ := hj.out
              rcases hjm with hjm | ⟨-, hjm⟩
              · cases m with
                | zero => omega
                | succ m =>
                  rw [Lg.down, ← hjm, HTT.out, if_neg hle] at hm
                  exact ⟨m, hm, .inl (by omega), by omega⟩
              · omega
            have HJ := Lib.hid hj2
            clear hj2
            go_wp2
            go_roundw
            case rel => exact ⟨j - 1, rfl, by omega, by omega, HJ, O2.out⟩
            case measure => simp [intOf]; omega
        · have hres : H = x.index := by
            obtain ⟨m, hm, hjm, -⟩ := hj.out
            have : m = 0 := by omega
            subst this
            exact hm.symm
          have HR := Lib.hid hres
          have HO := Lib.hid hown
          clear hres hown
          go_wp2
          go_ret
          exact ⟨by rw [HR.out]; rfl, HO.out⟩
  rcases Int.lt_trichotomy i p with h1 | h1 | h1
  · exact key i (.inl ⟨rfl, h1⟩)
  · exact key i (.inr (.inr ⟨rfl, h1⟩))
  · exact key p (.inr (.inl ⟨rfl, h1⟩))
end
end Go.Proofs.Ytepnkhiclgjmpaa

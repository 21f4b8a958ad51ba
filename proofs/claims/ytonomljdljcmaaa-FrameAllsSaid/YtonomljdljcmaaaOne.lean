/-
  SameBytes, Num, One.
  Conditions: none beyond each theorem's own.
-/
import Derived.Test.YtonomljdljcmaaaGet
namespace Go.Proofs.Ytonomljdljcmaaa
set_option linter.unusedVariables false
set_option linter.unusedSimpArgs false
open Go.RowKit

def AgreeTo (xs ys : List UInt8) (i : Nat) : Prop := ∀ j, j < i → xs[j]? = ys[j]?
theorem agree_all {xs ys : List UInt8} (h : AgreeTo xs ys xs.length) (hl : xs.length = ys.length) : xs = ys := by
  apply List.ext_getElem?
  intro j
  rcases Nat.lt_or_ge j xs.length with h1 | h1
  · exact h j h1
  · rw [List.getElem?_eq_none h1, List.getElem?_eq_none (by omega)]

set_option maxHeartbeats 800000 in
theorem samebytes_calls (w : World) (A B : Option Addr) (ca cb : Nat) (xs ys : List UInt8) (hx : Rd w A (bts xs)) (hy : Rd w B (bts ys)) (hl : xs.length ≤ 1000000000) :
    Calls Try.prog 16 #[.slice A xs.length ca, .slice B ys.length cb] w fun e w' => e = .returned (.bool (decide (xs = ys))) ∧ ∃ d, w' = w.drewN d := by
  by_cases hlen : xs.length = ys.length
  · have hn : ((xs.length : Int) != (ys.length : Int)) = false := by simp; omega
    have H := Lib.hid (And.intro hx (And.intro hy hlen))
    have hly : ys.length ≤ 1000000000 := by omega
    clear hx hy hlen
    go_enter Try.func16, Try.ntmps16
    go_wp2
    go_loopw [5] (fun t wr => ∃ i d : Nat, i ≤ xs.length ∧ t = .int .i64 i ∧ wr = w.drewN d ∧ AgreeTo xs ys i) (fun t _ => xs.length - (intOf t).toNat)
    case atStart => exact ⟨0, 0, Nat.zero_le _, rfl, rfl, fun j h => by omega⟩
    case round =>
      obtain ⟨i, d, hi, rfl, rfl, hag⟩ := hrel
      by_cases hin : i < xs.length
      · have hin2 : i < ys.length := by have := H.out.2.2; omega
        obtain ⟨x, hxi⟩ : ∃ x, xs[i]? = some x := ⟨_, List.getElem?_eq_getElem hin⟩
        obtain ⟨y, hyi⟩ : ∃ y, ys[i]? = some y := ⟨_, List.getElem?_eq_getElem hin2⟩
        obtain ⟨b1, o1, rfl, hc1⟩ := H.out.1 i _ (bts_get hxi)
        obtain ⟨b2, o2, rfl, hc2⟩ := H.out.2.1 i _ (bts_get hyi)
        unfold byteV at hc1 hc2
        have i0 : (0 : Int) ≤ (i : Int) := by omega
        have i1 : (i : Int) < (xs.length : Int) := by omega
        have i2 : (i : Int) < (ys.length : Int) := by omega
        by_cases hxy : x = y
        · have hne : ((x.toNat : Int) != (y.toNat : Int)) = false := by simp [hxy]
          have HX := Lib.hid (And.intro hxi (And.intro hyi hxy))
          clear hxi hyi hxy
          go_wp2
          go_quiet (fail)
          go_wp2
          go_roundw
          case rel =>
            refine ⟨i + 1, _, by omega, by go_num, rfl, fun j hj => ?_⟩
            rcases Nat.lt_or_ge j i with h | h
            · exact hag j h
            · obtain rfl : j = i := by omega
              rw [HX.out.1, HX.out.2.1, HX.out.2.2]
          case measure => simp [intOf]; omega
        · have hne : ((x.toNat : Int) != (y.toNat : Int)) = true := by
            have : x.toNat ≠ y.toNat := fun h => hxy (UInt8.toNat_inj.1 h)
            simp; omega
          have HD : decide (xs = ys) = false := by
            simp only [decide_eq_false_iff_not]
            rintro rfl
            rw [hxi] at hyi
            injection hyi with hyi
            exact hxy hyi
          clear hxi hyi hxy hag
          have HD' := Lib.hid HD
          clear HD
          go_wp2
          go_quiet (fail)
          go_wp2
          go_ret
          exact ⟨by rw [HD'.out]; rfl, _, by rw [World.drewN_drewN]⟩
      · obtain rfl : i = xs.length := by omega
        have HD : decide (xs = ys) = true := by simpa using agree_all hag H.out.2.2
        clear hag
        have HD' := Lib.hid HD
        clear HD
        go_wp2
        go_ret
        exact ⟨by rw [HD'.out]; rfl, _, rfl⟩
  · have hn : ((xs.length : Int) != (ys.length : Int)) = true := by simp; omega
    have HD : decide (xs = ys) = false := by
      simp only [decide_eq_false_iff_not]
      rintro rfl
      exact hlen rfl
    rw [HD]
    clear HD hlen hx hy
    go_enter Try.func16, Try.ntmps16
    go_wp2
    go_ret
    exact ⟨rfl, 0, rfl⟩

set_option maxHeartbeats 400000 in
theorem num_calls (w : World) (n : Int) : Calls Try.prog 19 #[.int .i64 n] w fun e w' => e = .returned (.int .i64 n) ∧ w = w' := by
  go_enter Try.func19, Try.ntmps19
  go_wp2
  go_ret
  exact ⟨rfl, rfl⟩

def oneErr (b : List UInt8) : Nat := if getErr b = 0 then (if 8 + (pay b).length < b.length then 4 else 0) else getErr b

set_option maxHeartbeats 1600000 in
theorem one_short {w : World} {B : Option Addr} {cb n : Nat} (hn : n < 4) :
    Calls Try.prog 21 #[.slice B n cb] w fun e w' => e = .returned (.tuple #[.slice none 0 0, .int .i64 2]) ∧ w = w' := by
  have HG := Lib.hid (get_out (w := w) (B := B) (cb := cb) (n := n) (a := 0) (by omega) (by omega) (by omega))
  go_enter Try.func21, Try.ntmps21
  go_wp2_with fail
  refine (HG.out).mono ?_
  rintro e w' ⟨rfl, rfl⟩
  go_wp2
  go_ret2
  exact ⟨rfl, rfl⟩

set_option maxHeartbeats 1600000 in
theorem one_own {S : Nat → Prop} {w0 w : World} {R : List SP} {B : Option Addr} {cb : Nat} {b : List UInt8} (h : Own S w0 w R) (hb : Reads S w0 R B b) (hcb : b.length ≤ cb) (hcb2 : cb ≤ 9223372036854775807) (hbl : b.length ≤ 1000000000) (ha : 4 ≤ b.length) :
    Calls Try.prog 21 #[.slice B b.length cb] w fun e w' =>
      (oneErr b = 0 ∧ ∃ A' c', e = .returned (.tuple #[.slice A' (pay b).length c', .int .i64 0]) ∧ Own S w0 w' (SP.row 5 1 (.slice A' (pay b).length c') (bts (pay b)) :: R)) ∨
      (oneErr b ≠ 0 ∧ e = .returned (.tuple #[.slice none 0 0, .int .i64 (oneErr b : Nat)]) ∧ Own S w0 w' R) := by
  have HG := get_own (a := 0) h hb hcb hcb2 hbl (by omega)
  rw [List.drop_zero] at HG
  have HG' := Lib.hid HG
  clear HG h hb
  go_enter Try.func21, Try.ntmps21
  go_wp2_with fail
  refine (HG'.out).mono ?_
  rintro e w' (⟨he, A', c', rfl, own⟩ | ⟨he, rfl, own⟩)
  · have HO := Lib.hid (And.intro own he)
    obtain ⟨pl, hpl⟩ : ∃ n, (pay b).length = n := ⟨_, rfl⟩
    have hpl2 : pl ≤ 1000000000 := by rw [← hpl, pay, List.length_take, List.length_drop]; omega
    have HP := Lib.hid hpl
    rw [hpl] at HO ⊢
    clear own he hpl
    by_cases hlt : 8 + pl < b.length
    · have hl2 : 8 + (pl : Int) < (b.length : Int) := by omega
      have HE := Lib.hid (show oneErr b = 4 by rw [oneErr, if_pos HO.out.2, HP.out, if_pos hlt])
      clear hlt
      go_wp2
      go_ret2
      exact .inr ⟨by rw [HE.out]; decide, by rw [HE.out]; rfl, HO.out.1.pop⟩
    · have hl2 : ¬ 8 + (pl : Int) < (b.length : Int) := by omega
      have HE := Lib.hid (show oneErr b = 0 by rw [oneErr, if_pos HO.out.2, HP.out, if_neg hlt])
      clear hlt
      go_wp2
      go_ret2
      exact .inl ⟨HE.out, A', c', by rw [HP.out]; rfl, by rw [HP.out]; exact HO.out.1⟩
  · obtain ⟨er, her⟩ : ∃ n, getErr b = n := ⟨_, rfl⟩
    have HE := Lib.hid (show oneErr b = er by rw [oneErr, if_neg he, her])
    rw [her] at he ⊢
    have hne : ((er : Int) == 0) = false := by simp; omega
    have HO := Lib.hid (And.intro own he)
    clear own he her
    go_wp2
    go_ret2
    exact .inr ⟨by rw [HE.out]; exact HO.out.2, by rw [HE.out]; rfl, HO.out.1⟩
end Go.Proofs.Ytonomljdljcmaaa

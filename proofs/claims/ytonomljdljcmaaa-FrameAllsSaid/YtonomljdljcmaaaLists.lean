/-
  Lists of bytes: SameLists, Few.
  Conditions: none beyond each theorem's own.
-/
import Derived.Test.YtonomljdljcmaaaFrames
import Derived.Test.YtonomljdljcmaaaLent
namespace Go.Proofs.Ytonomljdljcmaaa
set_option linter.unusedVariables false
set_option linter.unusedSimpArgs false
open Go.RowKit

/-- A list of lists of bytes, as it can be read. -/
def RdM (w : World) (A : Option Addr) (L : List (List UInt8)) : Prop :=
  ∀ k xs, L[k]? = some xs → ∃ g off A' c', A = some ⟨g, off, none⟩ ∧ w.cell? ⟨g, off + k, none⟩ = some (.slice A' xs.length c') ∧ xs.length ≤ c' ∧ c' ≤ maxLen ∧ Rd w A' (bts xs)

theorem quiet_add {P : Program} {f : FuncId} {args : Array Value} {w : World} {a n : Nat} {v : Value}
    (h : Calls P f args (w.drewN (a + n)) fun e w' => e = .returned v ∧ ∃ m, w' = (w.drewN (a + n)).drewN m) :
    Calls P f args (w.drewN (a + n)) fun e w'' => e = .returned v ∧ ∃ m, w'' = w.drewN (a + m) :=
  h.mono fun _ _ ⟨he, m, hm⟩ => ⟨he, n + m, by rw [hm, World.drewN_drewN, Nat.add_assoc]⟩

def AgreeM (xs ys : List (List UInt8)) (i : Nat) : Prop := ∀ j, j < i → xs[j]? = ys[j]?
theorem agreeM_all {xs ys : List (List UInt8)} (h : AgreeM xs ys xs.length) (hl : xs.length = ys.length) : xs = ys := by
  apply List.ext_getElem?
  intro j
  rcases Nat.lt_or_ge j xs.length with h1 | h1
  · exact h j h1
  · rw [List.getElem?_eq_none h1, List.getElem?_eq_none (by omega)]

set_option maxHeartbeats 1600000 in
theorem samelists_calls (w : World) (A B : Option Addr) (ca cb : Nat) (xs ys : List (List UInt8)) (hx : RdM w A xs) (hy : RdM w B ys) (hl : xs.length ≤ 1000000000) (hl2 : ∀ x, x ∈ xs → x.length ≤ 1000000000) :
    Calls Try.prog 27 #[.slice A xs.length ca, .slice B ys.length cb] w fun e w' => e = .returned (.bool (decide (xs = ys))) ∧ ∃ d, w' = w.drewN d := by
  by_cases hlen : xs.length = ys.length
  · have hn : ((xs.length : Int) != (ys.length : Int)) = false := by simp; omega
    have H := Lib.hid (And.intro hx (And.intro hy (And.intro hlen hl2)))
    have hly : ys.length ≤ 1000000000 := by omega
    clear hx hy hlen hl2
    go_enter Try.func27, Try.ntmps27
    go_wp2
    go_loopw [5] (fun t wr => ∃ i d : Nat, i ≤ xs.length ∧ t = .int .i64 i ∧ wr = w.drewN d ∧ AgreeM xs ys i) (fun t _ => xs.length - (intOf t).toNat)
    case atStart => exact ⟨0, 0, Nat.zero_le _, rfl, rfl, fun j h => by omega⟩
    case round =>
      obtain ⟨i, d, hi, rfl, rfl, hag⟩ := hrel
      by_cases hin : i < xs.length
      · have hin2 : i < ys.length := by have := H.out.2.2.1; omega
        obtain ⟨x, hxi⟩ : ∃ x, xs[i]? = some x := ⟨_, List.getElem?_eq_getElem hin⟩
        obtain ⟨y, hyi⟩ : ∃ y, ys[i]? = some y := ⟨_, List.getElem?_eq_getElem hin2⟩
        obtain ⟨b1, o1, A1, c1, rfl, hc1, -, -, hr1⟩ := H.out.1 i _ hxi
        obtain ⟨b2, o2, A2, c2, rfl, hc2, -, -, hr2⟩ := H.out.2.1 i _ hyi
        have i0 : (0 : Int) ≤ (i : Int) := by omega
        have i1 : (i : Int) < (xs.length : Int) := by omega
        have i2 : (i : Int) < (ys.length : Int) := by omega
        have hxl := H.out.2.2.2 x (List.mem_of_getElem? hxi)
        have HS := Lib.hid (fun n => samebytes_calls (w.drewN (d + n)) A1 A2 c1 c2 x y hr1 hr2 hxl)
        have HX := Lib.hid (And.intro hxi hyi)
        by_cases hxy : x = y
        · have HE := Lib.hid hxy
          have hd : decide (x = y) = true := by simpa using hxy
          simp only [hd] at HS
          clear hxi hyi hxy hr1 hr2 hd
          go_wp2
          go_quiet ((go_at_call 16; exact quiet_add (HS.out _)))
          go_wp2
          go_roundw
          case rel =>
            refine ⟨i + 1, _, by omega, by go_num, rfl, fun j hj => ?_⟩
            rcases Nat.lt_or_ge j i with h | h
            · exact hag j h
            · obtain rfl : j = i := by omega
              rw [HX.out.1, HX.out.2, HE.out]
          case measure => simp [intOf]; omega
        · have hd : decide (x = y) = false := by simpa using hxy
          simp only [hd] at HS
          have HD : decide (xs = ys) = false := by
            simp only [decide_eq_false_iff_not]
            rintro rfl
            rw [hxi] at hyi
            injection hyi with hyi
            exact hxy hyi
          have HD' := Lib.hid HD
          clear HD hxi hyi hxy hag hr1 hr2 hd
          go_wp2
          go_quiet ((go_at_call 16; exact quiet_add (HS.out _)))
          go_wp2
          go_ret
          exact ⟨by rw [HD'.out]; rfl, _, rfl⟩
      · obtain rfl : i = xs.length := by omega
        have HD : decide (xs = ys) = true := by simpa using agreeM_all hag H.out.2.2.1
        clear hag
        have HD' := Lib.hid HD
        clear HD
        go_wp2
        go_ret
        exact ⟨by rw [HD'.out]; rfl, _, rfl⟩
  · have hn : ((xs.length : Int) != (ys.length : Int)) = true := by simp; omega
    have HD : decide (xs = ys) = false := by
      simp only [decide_eq_false_iff_not]
      rintro rfl
      exact hlen rfl
    rw [HD]
    clear HD hlen hx hy
    go_enter Try.func27, Try.ntmps27
    go_wp2
    go_ret
    exact ⟨rfl, 0, rfl⟩

/-- All together, as far as they are counted. -/
def total (l : List (List UInt8)) : Nat := (l.map List.length).sum
theorem total_take {l : List (List UInt8)} {i : Nat} {x : List UInt8} (h : l[i]? = some x) : total (l.take (i + 1)) = total (l.take i) + x.length := by
  rw [List.take_add_one, h]
  simp [total]
theorem total_take_le (l : List (List UInt8)) (i : Nat) : total (l.take i) ≤ total l := by
  have h : total l = total (l.take i) + total (l.drop i) := by
    conv => lhs; rw [← List.take_append_drop i l]
    simp only [total, List.map_append, List.sum_append]
  omega

set_option maxHeartbeats 1600000 in
theorem few_calls (w : World) (A : Option Addr) (ca m : Nat) (xs : List (List UInt8)) (hx : RdM w A xs) (hl : xs.length ≤ 140737488351232) (hm : m ≤ 1000000000) (hl2 : ∀ x, x ∈ xs → x.length ≤ 9223372036854775807) :
    Calls Try.prog 29 #[.slice A xs.length ca, .int .i64 m] w fun e w' => e = .returned (.bool (decide (total xs ≤ m))) ∧ w = w' := by
  have H := Lib.hid (And.intro hx hl2)
  clear hx hl2
  go_enter Try.func29, Try.ntmps29
  go_wp2
  go_loop [5, 6] (fun s t => ∃ i n : Nat, i ≤ xs.length ∧ s = .int .i64 n ∧ t = .int .i64 i ∧ n ≤ m ∧ Hid (n = total (xs.take i))) (fun _ t => xs.length - (intOf t).toNat)
  case atStart => exact ⟨0, 0, Nat.zero_le _, rfl, rfl, Nat.zero_le _, Lib.hid (by simp [total])⟩
  case round =>
    obtain ⟨i, n, hi, rfl, rfl, hnm, hn⟩ := hrel
    by_cases hin : i < xs.length
    · obtain ⟨x, hxi⟩ : ∃ x, xs[i]? = some x := ⟨_, List.getElem?_eq_getElem hin⟩
      obtain ⟨b1, o1, A1, c1, rfl, hc1, hc2, hc3, -⟩ := H.out.1 i _ hxi
      have i0 : (0 : Int) ≤ (i : Int) := by omega
      have i1 : (i : Int) < (xs.length : Int) := by omega
      have hxl := H.out.2 x (List.mem_of_getElem? hxi)
      have HT := Lib.hid (total_take hxi)
      have HL := Lib.hid (total_take_le xs (i + 1))
      obtain ⟨k, hk⟩ : ∃ k, x.length = k := ⟨_, rfl⟩
      have HK := Lib.hid hk
      rw [hk] at hxl hc1 hc2
      clear hxi hk hc3
      have z1 : 0 ≤ (m : Int) - (n : Int) := by omega
      by_cases hbig : m - n < k
      · have hb : (m : Int) - (n : Int) < (k : Int) := by omega
        have HD := Lib.hid (show decide (total xs ≤ m) = false by
          have h1 := HT.out
          have h2 := HL.out
          have h3 := HK.out
          have h4 := hn.out
          simp only [decide_eq_false_iff_not]
          omega)
        go_wp2
        go_ret
        exact ⟨by rw [HD.out]; rfl, rfl⟩
      · have hb : ¬ (m : Int) - (n : Int) < (k : Int) := by omega
        go_wp2
        go_round
        case rel =>
          exact ⟨i + 1, n + k, by omega, by go_num, by go_num, by omega, Lib.hid (by rw [HT.out, hn.out, HK.out])⟩
        case measure => simp [intOf]; omega
    · obtain rfl : i = xs.length := by omega
      have HD := Lib.hid (show decide (total xs ≤ m) = true by
        have h4 := hn.out
        rw [List.take_length] at h4
        simp; omega)
      go_wp2
      go_ret
      exact ⟨by rw [HD.out]; rfl, rfl⟩
end Go.Proofs.Ytonomljdljcmaaa

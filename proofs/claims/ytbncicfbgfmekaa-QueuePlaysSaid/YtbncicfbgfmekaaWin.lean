/-
  The window's methods: what each does to the memory of a window, and what it answers.
  Conditions: the lengths are small (at most a million elements).
-/
import Derived.Test.YtbncicfbgfmekaaDelI
namespace Go.Proofs.Ytbncicfbgfmekaa
set_option linter.unusedVariables false
set_option linter.unusedSimpArgs false
open Go.RowKit

def SP.win (g : Nat) (room : Int) (xs : List Int) : SP := SP.box1 64 3 g room (ints xs)

set_option maxHeartbeats 400000 in
theorem full_calls (w : World) (g n c : Nat) (A : Option Addr) (room : Int) (c0 : w.cell? ⟨g, 0, none⟩ = some (.int .i64 room)) (c1 : w.cell? ⟨g, 1, none⟩ = some (.slice A n c)) :
    Calls Try.prog 27 #[.pointer (some ⟨g, 0, none⟩)] w fun e w' => e = .returned (.bool (decide (room ≤ (n : Int)))) ∧ ∃ d, w' = w.drewN d := by
  go_enter Try.func27, Try.ntmps27
  go_wp2
  go_quiet (fail)
  go_wp2
  go_ret
  exact ⟨rfl, _, rfl⟩

def winMay (room : Int) (xs : List Int) (n : Int) : Bool := decide ((xs.length : Int) < room) && (match xs.getLast? with | none => true | some l => decide (l < n))

set_option maxHeartbeats 800000 in
theorem winadd_spec (w : World) (g : Nat) (room : Int) (xs : List Int) (n : Int) (hl : xs.length ≤ 1000000) :
    SpecAt Try.prog 25 #[.pointer (some ⟨g, 0, none⟩), .int .i64 n] w (SP.win g room xs) fun e A' => e = .returned (.bool (winMay room xs n)) ∧ A' = SP.win g room (if winMay room xs n then xs ++ [n] else xs) := by
  intro S hA hlt
  obtain ⟨A, c, S2, hSg, hb, h2, hn2, hr, hlc, hcm⟩ := box1_open hA
  rw [ints_length] at hb hr hlc
  have c0 := cells_of hb 0
  have c1 := cells_of hb 1
  have f1 := free_of hb 1
  simp only [List.getElem?_toArray, List.getElem?_cons_zero, List.getElem?_cons_succ] at c0 c1
  by_cases hfull : room ≤ (xs.length : Int)
  · have hm : winMay room xs n = false := by simp [winMay]; omega
    rw [hm]
    have hA' := Lib.hid hA
    have hfull' : decide (room ≤ (xs.length : Int)) = true := by simpa using hfull
    clear hA hr hb hm
    go_enter Try.func25, Try.ntmps25
    go_wp2_with (go_at_call 27; refine (full_calls _ _ _ _ _ _ c0 c1).mono ?_; rintro e w' ⟨rfl, d, rfl⟩)
    go_ret
    exact ⟨_, ⟨rfl, rfl⟩, box1_same hA'.out _⟩
  · have hfull' : decide (room ≤ (xs.length : Int)) = false := by simpa using hfull
    have hlt' : decide ((xs.length : Int) < room) = true := by simp; omega
    rcases List.eq_nil_or_concat xs with rfl | ⟨ys, l, rfl⟩
    · have hm : winMay room [] n = true := by simp [winMay]; simpa using hfull
      rw [hm]
      have hA' := Lib.hid hA
      simp only [List.length_nil] at *
      clear hA hm hlt'
      go_enter Try.func25, Try.ntmps25
      go_wp2_with fail
      refine (full_calls _ _ _ _ _ _ c0 c1).mono ?_
      rintro e w' ⟨rfl, d, rfl⟩
      have hw1 : Below w.heap.size w ((w.drewN d).alloc (.cells #[.int .i64 n] 3)) := (below_drewN (Below.refl _ _) d).alloc (Nat.le_refl _) _
      have H := Lib.hid (And.intro (row_later hr (fun k hk => hlt k (h2 k hk)) hw1) (And.intro hb hw1))
      clear hw1 hr hb
      go_wp2_with (at_builtin; refine wpList_append_row rfl (.tmp 33) (.tmp 35) 30 rfl 3 (.int .i64 0) 1 8 Try.underlying30 Try.info3 rfl (by decide) rfl rfl H.out.1 _ 1 1 [.int .i64 n] rfl rfl (rd_one _ _ _) (ints_one (xs := [n])) (by unfold maxLen; omega) (by omega) ?_)
      rintro A' c' w2 - hk hr3
      have hfin := Lib.hid (box1_set hSg H.out.2.1 h2 hn2 H.out.2.2 hk hr3)
      obtain ⟨c1', f1'⟩ := obj_cell H.out.2.1 hn2 H.out.2.2 hk 1
      clear hk hr3
      go_wp2
      go_ret
      exact ⟨_, ⟨rfl, rfl⟩, hfin.out⟩
    · rw [List.concat_eq_append] at *
      have hn1 : (ys ++ [l]).length = ys.length + 1 := by simp
      rw [hn1] at hb hr hlc c1 hl hlt' hfull' hfull
      obtain ⟨g', off', rfl, hS2, hlast, _⟩ := SP.row_cell hr (j := ys.length) (u := .int .i64 l) (by simp [ints])
      unfold maxLen at hcm
      by_cases hln : l < n
      · have hm : winMay room (ys ++ [l]) n = true := by simp [winMay, hln]; omega
        have hln' : decide (n ≤ l) = false := by simpa using hln
        rw [hm]
        clear hA hm hlt'
        go_enter Try.func25, Try.ntmps25
        go_wp2_with fail
        refine (full_calls _ _ _ _ _ _ c0 c1).mono ?_
        rintro e w' ⟨rfl, d, rfl⟩
        have hw1 : Below w.heap.size w ((w.drewN d).alloc (.cells #[.int .i64 n] 3)) := (below_drewN (Below.refl _ _) d).alloc (Nat.le_refl _) _
        have H := Lib.hid (And.intro (row_later hr (fun k hk => hlt k (h2 k hk)) hw1) (And.intro hb hw1))
        clear hw1 hr hb
        go_wp2_with (at_builtin; refine wpList_append_row rfl (.tmp 33) (.tmp 35) 30 rfl 3 (.int .i64 0) 1 8 Try.underlying30 Try.info3 rfl (by decide) rfl (by simp [ints]) H.out.1 _ 1 1 [.int .i64 n] rfl rfl (rd_one _ _ _) (ints_one (xs := [n])) (by unfold maxLen; omega) (by omega) ?_)
        rintro A' c' w2 - hk hr3
        have hfin := Lib.hid (box1_set hSg H.out.2.1 h2 hn2 H.out.2.2 hk hr3)
        obtain ⟨c1', f1'⟩ := obj_cell H.out.2.1 hn2 H.out.2.2 hk 1
        clear hk hr3
        go_wp2
        go_ret
        refine ⟨_, ⟨rfl, rfl⟩, ?_⟩
        have hi : ints (ys ++ [l, n]) = ints (ys ++ [l]) ++ [.int .i64 n] := by simp [ints]
        rw [SP.win, hi]
        exact hfin.out
      · have hm : winMay room (ys ++ [l]) n = false := by simp [winMay]; omega
        have hln' : decide (n ≤ l) = true := by simp; omega
        rw [hm]
        have hA' := Lib.hid hA
        clear hA hm hlt' hr hb
        go_enter Try.func25, Try.ntmps25
        go_wp2_with (go_at_call 27; refine (full_calls _ _ _ _ _ _ c0 c1).mono ?_; rintro e w' ⟨rfl, d, rfl⟩)
        go_ret
        exact ⟨_, ⟨rfl, rfl⟩, box1_same hA'.out _⟩
def winTw (xs : List Int) (n : Int) : Nat := (xs.takeWhile (fun x => decide (x ≤ n))).length
theorem winTw_le (xs : List Int) (n : Int) : winTw xs n ≤ xs.length := (List.takeWhile_prefix _).length_le
theorem winTw_step (xs : List Int) (n : Int) : ∀ {k : Nat} {x : Int}, xs[k]? = some x → k ≤ winTw xs n → (x ≤ n → k + 1 ≤ winTw xs n) ∧ (¬ x ≤ n → winTw xs n = k) := by
  induction xs with
  | nil => intro k x h; simp at h
  | cons y ys ih =>
    intro k x h hk
    by_cases hy : y ≤ n
    · have e : winTw (y :: ys) n = winTw ys n + 1 := by simp [winTw, List.takeWhile_cons, hy]
      cases k with
      | zero => simp at h; subst h; exact ⟨fun _ => by omega, fun hn => absurd hy hn⟩
      | succ k =>
        obtain ⟨h1, h2⟩ := ih (k := k) (x := x) (by simpa using h) (by omega)
        exact ⟨fun h => by have := h1 h; omega, fun h => by have := h2 h; omega⟩
    · have e : winTw (y :: ys) n = 0 := by simp [winTw, List.takeWhile_cons, hy]
      obtain rfl : k = 0 := by omega
      simp at h; subst h
      exact ⟨fun h => absurd h hy, fun _ => e⟩

set_option maxHeartbeats 800000 in
theorem winfree_spec (w : World) (g : Nat) (room : Int) (xs : List Int) (n : Int) (hl : xs.length ≤ 1000000) :
    SpecAt Try.prog 26 #[.pointer (some ⟨g, 0, none⟩), .int .i64 n] w (SP.win g room xs) fun e A' => e = .returned (.int .i64 (winTw xs n)) ∧ A' = SP.win g room (xs.drop (winTw xs n)) := by
  intro S hA hlt
  obtain ⟨A, c, S2, hSg, hb, h2, hn2, hr, hlc, hcm⟩ := box1_open hA
  rw [ints_length] at hb hr hlc
  have c0 := cells_of hb 0
  have c1 := cells_of hb 1
  have f1 := free_of hb 1
  simp only [List.getElem?_toArray, List.getElem?_cons_zero, List.getElem?_cons_succ] at c0 c1
  have htl := winTw_le xs n
  have hx : ∀ k, k < xs.length → ∃ g off x, A = some ⟨g, off, none⟩ ∧ xs[k]? = some x ∧ w.cell? ⟨g, off + k, none⟩ = some (.int .i64 x) := by
    intro k hk
    obtain ⟨g, off, e, _, hc, _⟩ := SP.row_cell hr (j := k) (u := .int .i64 xs[k]) (ints_get (List.getElem?_eq_getElem hk))
    exact ⟨g, off, xs[k], e, List.getElem?_eq_getElem hk, hc⟩
  have H := Lib.hid (And.intro hr (And.intro hb hx))
  clear hr hb hx hA
  go_enter Try.func26, Try.ntmps26
  go_wp2
  go_loop [5] (fun t => ∃ k : Nat, k ≤ winTw xs n ∧ t = .int .i64 k) (fun t => xs.length - (intOf t).toNat)
  case atStart => exact ⟨0, Nat.zero_le _, rfl⟩
  case round =>
    obtain ⟨k, hk, rfl⟩ := hrel
    by_cases hkl : k < xs.length
    · obtain ⟨g', off', x, rfl, hxk, hcx⟩ := H.out.2.2 k hkl
      obtain ⟨s1, s2⟩ := winTw_step xs n hxk hk
      by_cases hxn : x ≤ n
      · have s1' := s1 hxn
        clear s1 s2 hxk
        go_wp2
        go_round
        case rel => exact ⟨k + 1, s1', by go_num⟩
        case measure => simp [intOf]; omega
      · obtain rfl := s2 hxn
        clear s1 s2 hxk hk
        go_wp2_with fail
        refine (deletei_calls _ H.out.1 (ints_length _) hlc hcm ints_one hl 0 (winTw xs n) (by omega) htl).mono ?_
        rintro e w1 ⟨A', c', rfl, hk1, hr1⟩
        rw [List.take_zero, List.nil_append, Nat.zero_add] at *
        have hfin := Lib.hid (box1_set (w1 := w) hSg H.out.2.1 h2 hn2 (Below.refl _ _) hk1 hr1)
        obtain ⟨c1', f1'⟩ := obj_cell H.out.2.1 hn2 (Below.refl _ _) hk1 1
        clear hk1 hr1
        go_wp2
        go_ret
        refine ⟨_, ⟨rfl, rfl⟩, ?_⟩
        rw [SP.win, ints_drop]
        exact hfin.out
    · obtain rfl : winTw xs n = k := by omega
      clear hk
      go_wp2_with fail
      refine (deletei_calls _ H.out.1 (ints_length _) hlc hcm ints_one hl 0 (winTw xs n) (by omega) htl).mono ?_
      rintro e w1 ⟨A', c', rfl, hk1, hr1⟩
      rw [List.take_zero, List.nil_append, Nat.zero_add] at *
      have hfin := Lib.hid (box1_set (w1 := w) hSg H.out.2.1 h2 hn2 (Below.refl _ _) hk1 hr1)
      obtain ⟨c1', f1'⟩ := obj_cell H.out.2.1 hn2 (Below.refl _ _) hk1 1
      clear hk1 hr1
      go_wp2
      go_ret
      refine ⟨_, ⟨rfl, rfl⟩, ?_⟩
      rw [SP.win, ints_drop]
      exact hfin.out

end Go.Proofs.Ytbncicfbgfmekaa

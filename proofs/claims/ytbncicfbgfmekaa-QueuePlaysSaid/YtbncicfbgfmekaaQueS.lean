/-
  The queue's methods: what each does to the memory of a queue, and what it answers.
  Conditions: the room is at most 64, the queue holds no more than its room.
-/
import Derived.Test.YtbncicfbgfmekaaDelS
import Derived.Test.YtbncicfbgfmekaaWin2
namespace Go.Proofs.Ytbncicfbgfmekaa
set_option linter.unusedVariables false
set_option linter.unusedSimpArgs false
open Go.RowKit

def valss (xs : List ByteArray) : List Value := xs.map (Value.string)
theorem valss_length (xs : List ByteArray) : (valss xs).length = xs.length := by simp [valss]
theorem valss_one {xs : List ByteArray} : ∀ u ∈ valss xs, u.oneCell' = true := by
  intro u hu
  simp only [valss, List.mem_map] at hu
  obtain ⟨x, _, rfl⟩ := hu
  rfl
theorem valss_append (xs ys : List ByteArray) : valss (xs ++ ys) = valss xs ++ valss ys := by simp [valss]
theorem valss_drop (xs : List ByteArray) (n : Nat) : valss (xs.drop n) = (valss xs).drop n := by simp [valss, List.map_drop]

def SP.ques (g : Nat) (room : Int) (xs : List ByteArray) : SP := SP.box1 79 9 g room (valss xs)

set_option maxHeartbeats 400000 in
theorem qnews_yes (w : World) (room : Int) (h : 1 ≤ room ∧ room ≤ 64) :
    SpecAt Try.prog 44 #[.int .i64 room] w SP.emp fun e A' => ∃ g, e = .returned (.pointer (some ⟨g, 0, none⟩)) ∧ A' = SP.ques g room [] := by
  intro S _ hlt
  have hd : decide (1 ≤ room ∧ room ≤ 64) = true := by simpa using h
  have hc := holds_calls room w
  rw [hd] at hc
  have H := Lib.hid hc
  clear hc hd
  go_enter Try.func44, Try.ntmps44
  go_wp2_with (go_at_call 38; refine (H.out).mono ?_; rintro e w' ⟨rfl, rfl⟩)
  go_ret
  refine ⟨_, ⟨_, rfl, rfl⟩, (Keeps.refl S w).alloc _, ?_⟩
  exact box1_mk (S2 := fun _ => False) (.inr ⟨Nat.le_refl _, by simp⟩) (heap_alloc_new w _) (fun _ h => h.elim) (fun h => h) (SP.row_nil _ _ _ _)

set_option maxHeartbeats 400000 in
theorem qnews_no (w : World) (room : Int) (h : ¬ (1 ≤ room ∧ room ≤ 64)) : Calls Try.prog 44 #[.int .i64 room] w fun e w' => e = .returned (.pointer none) ∧ w = w' := by
  have hd : decide (1 ≤ room ∧ room ≤ 64) = false := by simpa using h
  have hc := holds_calls room w
  rw [hd] at hc
  have H := Lib.hid hc
  clear hc hd
  go_enter Try.func44, Try.ntmps44
  go_wp2_with (go_at_call 38; refine (H.out).mono ?_; rintro e w' ⟨rfl, rfl⟩)
  go_ret
  exact ⟨rfl, rfl⟩

set_option maxHeartbeats 400000 in
theorem rooms_calls (w : World) (g n c : Nat) (A : Option Addr) (room : Int) (h0 : 0 ≤ room) (h1 : room ≤ 64) (hn : n ≤ 64) (c0 : w.cell? ⟨g, 0, none⟩ = some (.int .i64 room)) (c1 : w.cell? ⟨g, 1, none⟩ = some (.slice A n c)) :
    Calls Try.prog 49 #[.pointer (some ⟨g, 0, none⟩)] w fun e w' => e = .returned (.int .i64 (room - (n : Int))) ∧ ∃ d, w' = w.drewN d := by
  go_enter Try.func49, Try.ntmps49
  go_wp2
  go_quiet (fail)
  go_wp2
  go_ret
  refine ⟨?_, _, rfl⟩
  first | rfl | (rw [IntWalk.i64_in _ (by omega)])

set_option maxHeartbeats 800000 in
theorem qputs_spec (w : World) (g : Nat) (room : Int) (xs : List ByteArray) (x : ByteArray) (h0 : 0 ≤ room) (h1 : room ≤ 64) (hl : (xs.length : Int) ≤ room) :
    SpecAt Try.prog 46 #[.pointer (some ⟨g, 0, none⟩), Value.string x] w (SP.ques g room xs) fun e A' => e = .returned (.bool (decide ((xs.length : Int) < room))) ∧ A' = SP.ques g room (if (xs.length : Int) < room then xs ++ [x] else xs) := by
  intro S hA hlt
  obtain ⟨A, c, S2, hSg, hb, h2, hn2, hr, hlc, hcm⟩ := box1_open hA
  rw [valss_length] at hb hr hlc
  have c0 := cells_of hb 0
  have c1 := cells_of hb 1
  have f1 := free_of hb 1
  simp only [List.getElem?_toArray, List.getElem?_cons_zero, List.getElem?_cons_succ] at c0 c1
  have hroom := rooms_calls w g xs.length c A room h0 h1 (by omega) c0 c1
  have Hr := Lib.hid hroom
  clear hroom
  by_cases hfull : (xs.length : Int) < room
  · simp only [if_pos hfull]
    have hne : (room - (xs.length : Int) == 0) = false := by simp; omega
    have hd : decide ((xs.length : Int) < room) = true := by simpa using hfull
    have HB := Lib.hid (And.intro hr hb)
    clear hA hr hb
    go_enter Try.func46, Try.ntmps46
    go_wp2_with fail
    refine (Hr.out).mono ?_
    rintro e w' ⟨rfl, d, rfl⟩
    have hw1 : Below w.heap.size w ((w.drewN d).alloc (.cells #[Value.string x] 9)) := (below_drewN (Below.refl _ _) d).alloc (Nat.le_refl _) _
    have H := Lib.hid (And.intro (row_later HB.out.1 (fun k hk => hlt k (h2 k hk)) hw1) (And.intro HB.out.2 hw1))
    clear hw1
    go_wp2_with (at_builtin; refine wpList_append_row rfl (.tmp 12) (.tmp 14) 77 rfl 9 (Value.string ⟨#[]⟩) 1 16 Try.underlying77 Try.info9 rfl (by decide) rfl (by simp [valss]) H.out.1 _ 1 1 [Value.string x] rfl rfl (rd_one _ _ _) (valss_one (xs := [x])) (by unfold maxLen; omega) (by omega) ?_)
    rintro A' c' w2 - hk hr3
    have hfin := Lib.hid (box1_set hSg H.out.2.1 h2 hn2 H.out.2.2 hk hr3)
    obtain ⟨c1', f1'⟩ := obj_cell H.out.2.1 hn2 H.out.2.2 hk 1
    clear hk hr3
    go_wp2
    go_ret
    refine ⟨_, ⟨by rw [hd]; rfl, rfl⟩, ?_⟩
    rw [SP.ques, valss_append]
    exact hfin.out
  · simp only [if_neg hfull]
    have hne : (room - (xs.length : Int) == 0) = true := by simp; omega
    have hd : decide ((xs.length : Int) < room) = false := by simpa using hfull
    have hA' := Lib.hid hA
    clear hA hr hb
    go_enter Try.func46, Try.ntmps46
    go_wp2_with (go_at_call 49; refine (Hr.out).mono ?_; rintro e w' ⟨rfl, d, rfl⟩)
    go_ret
    exact ⟨_, ⟨by rw [hd]; rfl, rfl⟩, box1_same hA'.out _⟩

set_option maxHeartbeats 400000 in
theorem peeks_calls (w : World) (g : Nat) {S : Nat → Prop} (room : Int) (xs : List ByteArray) (hl : xs.length ≤ 64) (hA : (SP.ques g room xs).At w S) :
    Calls Try.prog 50 #[.pointer (some ⟨g, 0, none⟩)] w fun e w' => e = .returned (.tuple #[Value.string (xs.headD (⟨#[]⟩ : ByteArray)), .bool (!xs.isEmpty)]) ∧ w = w' := by
  obtain ⟨A, c, S2, hSg, hb, h2, hn2, hr, hlc, hcm⟩ := box1_open hA
  rw [valss_length] at hb hr hlc
  have c1 := cells_of hb 1
  simp only [List.getElem?_toArray, List.getElem?_cons_zero, List.getElem?_cons_succ] at c1
  clear hb hA
  cases xs with
  | nil =>
    simp only [List.length_nil] at *
    clear hr
    go_enter Try.func50, Try.ntmps50
    go_wp2
    go_ret2
    exact ⟨rfl, rfl⟩
  | cons x r =>
    obtain ⟨g', off', rfl, hS2, hc0, _⟩ := SP.row_cell hr (j := 0) (u := Value.string x) (by simp [valss])
    rw [Nat.add_zero] at hc0
    simp only [List.length_cons] at *
    have hne : (((r.length + 1 : Nat) : Int) == 0) = false := by simp; omega
    clear hr
    go_enter Try.func50, Try.ntmps50
    go_wp2
    go_ret2
    exact ⟨rfl, rfl⟩

set_option maxHeartbeats 800000 in
theorem qtakes_spec (w : World) (g : Nat) (room : Int) (xs : List ByteArray) (hl : xs.length ≤ 64) :
    SpecAt Try.prog 47 #[.pointer (some ⟨g, 0, none⟩)] w (SP.ques g room xs) fun e A' => e = .returned (.tuple #[Value.string (xs.headD (⟨#[]⟩ : ByteArray)), .bool (!xs.isEmpty)]) ∧ A' = SP.ques g room xs.tail := by
  intro S hA hlt
  have HA := Lib.hid hA
  have Hp := Lib.hid (peeks_calls w g room xs hl hA)
  cases xs with
  | nil =>
    clear hA
    go_enter Try.func47, Try.ntmps47
    go_wp2_with (go_at_call 50; refine (Hp.out).mono ?_; rintro e w' ⟨rfl, rfl⟩)
    go_ret2
    exact ⟨_, ⟨rfl, rfl⟩, Keeps.refl _ _, (SP.ques g room _).mono HA.out (fun k hk => .inl hk)⟩
  | cons x r =>
    obtain ⟨A, c, S2, hSg, hb, h2, hn2, hr, hlc, hcm⟩ := box1_open hA
    rw [valss_length] at hb hr hlc
    have c1 := cells_of hb 1
    have f1 := free_of hb 1
    simp only [List.getElem?_toArray, List.getElem?_cons_zero, List.getElem?_cons_succ] at c1
    have H := Lib.hid (And.intro hr hb)
    clear hr hb hA
    go_enter Try.func47, Try.ntmps47
    go_wp2_with fail
    refine (Hp.out).mono ?_
    rintro e w' ⟨rfl, rfl⟩
    go_wp2_with fail
    refine (deletes_calls _ H.out.1 (valss_length _) hlc hcm valss_one (by omega) 0 1 (by omega) (by simp)).mono ?_
    rintro e w1 ⟨A', c', rfl, hk1, hr1⟩
    rw [List.take_zero, List.nil_append, Nat.zero_add] at *
    have hfin := Lib.hid (box1_set (w1 := w) hSg H.out.2 h2 hn2 (Below.refl _ _) hk1 hr1)
    obtain ⟨c1', f1'⟩ := obj_cell H.out.2 hn2 (Below.refl _ _) hk1 1
    clear hk1 hr1
    go_wp2
    go_ret2
    exact ⟨_, ⟨rfl, rfl⟩, hfin.out⟩

end Go.Proofs.Ytbncicfbgfmekaa

/-
  The queue's methods: what each does to the memory of a queue, and what it answers.
  Conditions: the room is at most 64, the queue holds no more than its room.
-/
import Derived.Test.YtbncicfbgfmekaaDelI
import Derived.Test.YtbncicfbgfmekaaWin2
namespace Go.Proofs.Ytbncicfbgfmekaa
set_option linter.unusedVariables false
set_option linter.unusedSimpArgs false
open Go.RowKit

def valsi (xs : List Int) : List Value := xs.map (Value.int .i64)
theorem valsi_length (xs : List Int) : (valsi xs).length = xs.length := by simp [valsi]
theorem valsi_one {xs : List Int} : ∀ u ∈ valsi xs, u.oneCell' = true := by
  intro u hu
  simp only [valsi, List.mem_map] at hu
  obtain ⟨x, _, rfl⟩ := hu
  rfl
theorem valsi_append (xs ys : List Int) : valsi (xs ++ ys) = valsi xs ++ valsi ys := by simp [valsi]
theorem valsi_drop (xs : List Int) (n : Nat) : valsi (xs.drop n) = (valsi xs).drop n := by simp [valsi, List.map_drop]

def SP.quei (g : Nat) (room : Int) (xs : List Int) : SP := SP.box1 61 3 g room (valsi xs)

set_option maxHeartbeats 400000 in
theorem qnewi_yes (w : World) (room : Int) (h : 1 ≤ room ∧ room ≤ 64) :
    SpecAt Try.prog 16 #[.int .i64 room] w SP.emp fun e A' => ∃ g, e = .returned (.pointer (some ⟨g, 0, none⟩)) ∧ A' = SP.quei g room [] := by
  intro S _ hlt
  have hd : decide (1 ≤ room ∧ room ≤ 64) = true := by simpa using h
  have hc := holds_calls room w
  rw [hd] at hc
  have H := Lib.hid hc
  clear hc hd
  go_enter Try.func16, Try.ntmps16
  go_wp2_with (go_at_call 38; refine (H.out).mono ?_; rintro e w' ⟨rfl, rfl⟩)
  go_ret
  refine ⟨_, ⟨_, rfl, rfl⟩, (Keeps.refl S w).alloc _, ?_⟩
  exact box1_mk (S2 := fun _ => False) (.inr ⟨Nat.le_refl _, by simp⟩) (heap_alloc_new w _) (fun _ h => h.elim) (fun h => h) (SP.row_nil _ _ _ _)

set_option maxHeartbeats 400000 in
theorem qnewi_no (w : World) (room : Int) (h : ¬ (1 ≤ room ∧ room ≤ 64)) : Calls Try.prog 16 #[.int .i64 room] w fun e w' => e = .returned (.pointer none) ∧ w = w' := by
  have hd : decide (1 ≤ room ∧ room ≤ 64) = false := by simpa using h
  have hc := holds_calls room w
  rw [hd] at hc
  have H := Lib.hid hc
  clear hc hd
  go_enter Try.func16, Try.ntmps16
  go_wp2_with (go_at_call 38; refine (H.out).mono ?_; rintro e w' ⟨rfl, rfl⟩)
  go_ret
  exact ⟨rfl, rfl⟩

set_option maxHeartbeats 400000 in
theorem roomi_calls (w : World) (g n c : Nat) (A : Option Addr) (room : Int) (h0 : 0 ≤ room) (h1 : room ≤ 64) (hn : n ≤ 64) (c0 : w.cell? ⟨g, 0, none⟩ = some (.int .i64 room)) (c1 : w.cell? ⟨g, 1, none⟩ = some (.slice A n c)) :
    Calls Try.prog 17 #[.pointer (some ⟨g, 0, none⟩)] w fun e w' => e = .returned (.int .i64 (room - (n : Int))) ∧ ∃ d, w' = w.drewN d := by
  go_enter Try.func17, Try.ntmps17
  go_wp2
  go_quiet (fail)
  go_wp2
  go_ret
  refine ⟨?_, _, rfl⟩
  first | rfl | (rw [IntWalk.i64_in _ (by omega)])

set_option maxHeartbeats 800000 in
theorem qputi_spec (w : World) (g : Nat) (room : Int) (xs : List Int) (x : Int) (h0 : 0 ≤ room) (h1 : room ≤ 64) (hl : (xs.length : Int) ≤ room) :
    SpecAt Try.prog 18 #[.pointer (some ⟨g, 0, none⟩), Value.int .i64 x] w (SP.quei g room xs) fun e A' => e = .returned (.bool (decide ((xs.length : Int) < room))) ∧ A' = SP.quei g room (if (xs.length : Int) < room then xs ++ [x] else xs) := by
  intro S hA hlt
  obtain ⟨A, c, S2, hSg, hb, h2, hn2, hr, hlc, hcm⟩ := box1_open hA
  rw [valsi_length] at hb hr hlc
  have c0 := cells_of hb 0
  have c1 := cells_of hb 1
  have f1 := free_of hb 1
  simp only [List.getElem?_toArray, List.getElem?_cons_zero, List.getElem?_cons_succ] at c0 c1
  have hroom := roomi_calls w g xs.length c A room h0 h1 (by omega) c0 c1
  have Hr := Lib.hid hroom
  clear hroom
  by_cases hfull : (xs.length : Int) < room
  · simp only [if_pos hfull]
    have hne : (room - (xs.length : Int) == 0) = false := by simp; omega
    have hd : decide ((xs.length : Int) < room) = true := by simpa using hfull
    have HB := Lib.hid (And.intro hr hb)
    clear hA hr hb
    go_enter Try.func18, Try.ntmps18
    go_wp2_with fail
    refine (Hr.out).mono ?_
    rintro e w' ⟨rfl, d, rfl⟩
    have hw1 : Below w.heap.size w ((w.drewN d).alloc (.cells #[Value.int .i64 x] 3)) := (below_drewN (Below.refl _ _) d).alloc (Nat.le_refl _) _
    have H := Lib.hid (And.intro (row_later HB.out.1 (fun k hk => hlt k (h2 k hk)) hw1) (And.intro HB.out.2 hw1))
    clear hw1
    go_wp2_with (at_builtin; refine wpList_append_row rfl (.tmp 12) (.tmp 14) 30 rfl 3 (Value.int .i64 0) 1 8 Try.underlying30 Try.info3 rfl (by decide) rfl (by simp [valsi]) H.out.1 _ 1 1 [Value.int .i64 x] rfl rfl (rd_one _ _ _) (valsi_one (xs := [x])) (by unfold maxLen; omega) (by omega) ?_)
    rintro A' c' w2 - hk hr3
    have hfin := Lib.hid (box1_set hSg H.out.2.1 h2 hn2 H.out.2.2 hk hr3)
    obtain ⟨c1', f1'⟩ := obj_cell H.out.2.1 hn2 H.out.2.2 hk 1
    clear hk hr3
    go_wp2
    go_ret
    refine ⟨_, ⟨by rw [hd]; rfl, rfl⟩, ?_⟩
    rw [SP.quei, valsi_append]
    exact hfin.out
  · simp only [if_neg hfull]
    have hne : (room - (xs.length : Int) == 0) = true := by simp; omega
    have hd : decide ((xs.length : Int) < room) = false := by simpa using hfull
    have hA' := Lib.hid hA
    clear hA hr hb
    go_enter Try.func18, Try.ntmps18
    go_wp2_with (go_at_call 17; refine (Hr.out).mono ?_; rintro e w' ⟨rfl, d, rfl⟩)
    go_ret
    exact ⟨_, ⟨by rw [hd]; rfl, rfl⟩, box1_same hA'.out _⟩

set_option maxHeartbeats 400000 in
theorem peeki_calls (w : World) (g : Nat) {S : Nat → Prop} (room : Int) (xs : List Int) (hl : xs.length ≤ 64) (hA : (SP.quei g room xs).At w S) :
    Calls Try.prog 40 #[.pointer (some ⟨g, 0, none⟩)] w fun e w' => e = .returned (.tuple #[Value.int .i64 (xs.headD 0), .bool (!xs.isEmpty)]) ∧ w = w' := by
  obtain ⟨A, c, S2, hSg, hb, h2, hn2, hr, hlc, hcm⟩ := box1_open hA
  rw [valsi_length] at hb hr hlc
  have c1 := cells_of hb 1
  simp only [List.getElem?_toArray, List.getElem?_cons_zero, List.getElem?_cons_succ] at c1
  clear hb hA
  cases xs with
  | nil =>
    simp only [List.length_nil] at *
    clear hr
    go_enter Try.func40, Try.ntmps40
    go_wp2
    go_ret2
    exact ⟨rfl, rfl⟩
  | cons x r =>
    obtain ⟨g', off', rfl, hS2, hc0, _⟩ := SP.row_cell hr (j := 0) (u := Value.int .i64 x) (by simp [valsi])
    rw [Nat.add_zero] at hc0
    simp only [List.length_cons] at *
    have hne : (((r.length + 1 : Nat) : Int) == 0) = false := by simp; omega
    clear hr
    go_enter Try.func40, Try.ntmps40
    go_wp2
    go_ret2
    exact ⟨rfl, rfl⟩

set_option maxHeartbeats 800000 in
theorem qtakei_spec (w : World) (g : Nat) (room : Int) (xs : List Int) (hl : xs.length ≤ 64) :
    SpecAt Try.prog 19 #[.pointer (some ⟨g, 0, none⟩)] w (SP.quei g room xs) fun e A' => e = .returned (.tuple #[Value.int .i64 (xs.headD 0), .bool (!xs.isEmpty)]) ∧ A' = SP.quei g room xs.tail := by
  intro S hA hlt
  have HA := Lib.hid hA
  have Hp := Lib.hid (peeki_calls w g room xs hl hA)
  cases xs with
  | nil =>
    clear hA
    go_enter Try.func19, Try.ntmps19
    go_wp2_with (go_at_call 40; refine (Hp.out).mono ?_; rintro e w' ⟨rfl, rfl⟩)
    go_ret2
    exact ⟨_, ⟨rfl, rfl⟩, Keeps.refl _ _, (SP.quei g room _).mono HA.out (fun k hk => .inl hk)⟩
  | cons x r =>
    obtain ⟨A, c, S2, hSg, hb, h2, hn2, hr, hlc, hcm⟩ := box1_open hA
    rw [valsi_length] at hb hr hlc
    have c1 := cells_of hb 1
    have f1 := free_of hb 1
    simp only [List.getElem?_toArray, List.getElem?_cons_zero, List.getElem?_cons_succ] at c1
    have H := Lib.hid (And.intro hr hb)
    clear hr hb hA
    go_enter Try.func19, Try.ntmps19
    go_wp2_with fail
    refine (Hp.out).mono ?_
    rintro e w' ⟨rfl, rfl⟩
    go_wp2_with fail
    refine (deletei_calls _ H.out.1 (valsi_length _) hlc hcm valsi_one (by omega) 0 1 (by omega) (by simp)).mono ?_
    rintro e w1 ⟨A', c', rfl, hk1, hr1⟩
    rw [List.take_zero, List.nil_append, Nat.zero_add] at *
    have hfin := Lib.hid (box1_set (w1 := w) hSg H.out.2 h2 hn2 (Below.refl _ _) hk1 hr1)
    obtain ⟨c1', f1'⟩ := obj_cell H.out.2 hn2 (Below.refl _ _) hk1 1
    clear hk1 hr1
    go_wp2
    go_ret2
    exact ⟨_, ⟨rfl, rfl⟩, hfin.out⟩

set_option maxHeartbeats 400000 in
theorem leni_calls (w : World) (g n c : Nat) (A : Option Addr) (c1 : w.cell? ⟨g, 1, none⟩ = some (.slice A n c)) :
    Calls Try.prog 20 #[.pointer (some ⟨g, 0, none⟩)] w fun e w' => e = .returned (.int .i64 n) ∧ w = w' := by
  go_enter Try.func20, Try.ntmps20
  go_wp2
  go_ret
  exact ⟨rfl, rfl⟩

theorem qleni_spec (w : World) (g : Nat) (room : Int) (xs : List Int) :
    SpecAt Try.prog 20 #[.pointer (some ⟨g, 0, none⟩)] w (SP.quei g room xs) fun e A' => e = .returned (.int .i64 xs.length) ∧ A' = SP.quei g room xs := by
  intro S hA hlt
  obtain ⟨A, c, S2, hSg, hb, h2, hn2, hr, hlc, hcm⟩ := box1_open hA
  rw [valsi_length] at hb
  refine (leni_calls w g xs.length c A (cells_of hb 1)).mono ?_
  rintro e w' ⟨rfl, rfl⟩
  exact ⟨_, ⟨rfl, rfl⟩, Keeps.refl _ _, (SP.quei g room xs).mono hA (fun k hk => .inl hk)⟩

theorem qroomi_spec (w : World) (g : Nat) (room : Int) (xs : List Int) (h0 : 0 ≤ room) (h1 : room ≤ 64) (hl : (xs.length : Int) ≤ room) :
    SpecAt Try.prog 17 #[.pointer (some ⟨g, 0, none⟩)] w (SP.quei g room xs) fun e A' => e = .returned (.int .i64 (room - xs.length)) ∧ A' = SP.quei g room xs := by
  intro S hA hlt
  obtain ⟨A, c, S2, hSg, hb, h2, hn2, hr, hlc, hcm⟩ := box1_open hA
  rw [valsi_length] at hb
  refine (roomi_calls w g xs.length c A room h0 h1 (by omega) (cells_of hb 0) (cells_of hb 1)).mono ?_
  rintro e w' ⟨rfl, d, rfl⟩
  exact ⟨_, ⟨rfl, rfl⟩, box1_same hA d⟩

theorem qpeeki_spec (w : World) (g : Nat) (room : Int) (xs : List Int) (hl : xs.length ≤ 64) :
    SpecAt Try.prog 40 #[.pointer (some ⟨g, 0, none⟩)] w (SP.quei g room xs) fun e A' => e = .returned (.tuple #[Value.int .i64 (xs.headD 0), .bool (!xs.isEmpty)]) ∧ A' = SP.quei g room xs := by
  intro S hA hlt
  refine (peeki_calls w g room xs hl hA).mono ?_
  rintro e w' ⟨rfl, rfl⟩
  exact ⟨_, ⟨rfl, rfl⟩, Keeps.refl _ _, (SP.quei g room xs).mono hA (fun k hk => .inl hk)⟩

set_option maxHeartbeats 400000 in
theorem qcleari_spec (w : World) (g : Nat) (room : Int) (xs : List Int) :
    SpecAt Try.prog 31 #[.pointer (some ⟨g, 0, none⟩)] w (SP.quei g room xs) fun e A' => e = .returned (.int .i64 xs.length) ∧ A' = SP.quei g room [] := by
  intro S hA hlt
  obtain ⟨A, c, S2, hSg, hb, h2, hn2, hr, hlc, hcm⟩ := box1_open hA
  rw [valsi_length] at hb hr
  have c1 := cells_of hb 1
  have f1 := free_of hb 1
  simp only [List.getElem?_toArray, List.getElem?_cons_zero, List.getElem?_cons_succ] at c1
  have hfin := Lib.hid (box1_set (w1 := w) (w2 := w) (e := 3) (ys := []) hSg hb h2 hn2 (Below.refl _ _) (Keeps.refl _ _) (SP.row_nil _ _ _ _))
  clear hb hr hA
  go_enter Try.func31, Try.ntmps31
  go_wp2
  go_ret
  exact ⟨_, ⟨rfl, rfl⟩, hfin.out⟩

set_option maxHeartbeats 400000 in
theorem qitemsi_spec (w : World) (g : Nat) (room : Int) (xs : List Int) (hl : xs.length ≤ 1000000) :
    SpecAt Try.prog 32 #[.pointer (some ⟨g, 0, none⟩)] w (SP.quei g room xs) fun e A' => ∃ A c, e = .returned (.slice A xs.length c) ∧ A' = SP.stars [SP.row 3 1 (.slice A xs.length c) (valsi xs), SP.quei g room xs] := by
  intro S hA hlt
  obtain ⟨A, c, S2, hSg, hb, h2, hn2, hr, hlc, hcm⟩ := box1_open hA
  have c1 := cells_of hb 1
  have f1 := free_of hb 1
  simp only [List.getElem?_toArray, List.getElem?_cons_zero, List.getElem?_cons_succ] at c1
  have hcl := clone_calls w (c := c) (Rd.of_row hr) valsi_one (by rw [valsi_length]; exact hl)
  rw [valsi_length] at *
  have H := Lib.hid hcl
  have hA' := Lib.hid hA
  clear hcl hr hb hA
  go_enter Try.func32, Try.ntmps32
  go_wp2_with (go_at_call 42; refine (H.out).mono ?_; rintro e w' ⟨A', c', rfl, hb1, hr1⟩)
  go_ret
  have hs := hb1.size
  refine ⟨_, ⟨_, _, rfl, rfl⟩, Keeps.of_below hb1, fun k => w.heap.size ≤ k ∧ k < w'.heap.size, S, fun k hk => .inr hk, fun k hk => .inl hk, fun k hk hk2 => ?_, hr1, S, fun _ => False, fun k hk => hk, fun k hk => hk.elim, fun _ _ hk => hk, (SP.quei g room xs).loc hA'.out (fun k hk => hb1.block k (hlt k hk)), trivial⟩
  have := hlt k hk2; omega
end Go.Proofs.Ytbncicfbgfmekaa

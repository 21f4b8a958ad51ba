/-
  Lanes: the maker, Put, Take, Len, Items: what each does to the memory of lanes, and what it answers.
  Conditions: the rooms are at most 64, no lane holds more than its room, there are at most 64 lanes.
-/
import Derived.Test.YtbncicfbgfmekaaQueI
import Derived.Deep.RegionLaw
import Derived.Test.YtbncicfbgfmekaaStepCall
namespace Go.Proofs.Ytbncicfbgfmekaa
set_option linter.unusedVariables false
set_option linter.unusedSimpArgs false
open Go.RowKit

theorem Try.info35 : (Try.prog.info? 35).map (fun i => (i.zero, i.size, i.bytes)) = some (some (.pointer none), 1, 8) := by kernel_rfl

def ptrsi (gs : List Nat) : List Value := gs.map fun q => .pointer (some ⟨q, 0, none⟩)
theorem ptrsi_length (gs : List Nat) : (ptrsi gs).length = gs.length := by simp [ptrsi]
def lansi (room : Int) (gs : List Nat) (L : List (List Int)) : List SP := List.zipWith (fun q xs => SP.quei q room xs) gs L

def SP.lanesi (g : Nat) (next room : Int) (L : List (List Int)) : SP := SP.ex fun gs : List Nat => SP.ex fun v : Value => SP.stars [SP.pur (gs.length = L.length), SP.blk g 59 #[v, .int .i64 next], SP.row 35 1 v (ptrsi gs), SP.stars (lansi room gs L)]

theorem qnewi_calls (w : World) (room : Int) (h : 1 ≤ room ∧ room ≤ 64) :
    Calls Try.prog 16 #[.int .i64 room] w fun e w' => e = .returned (.pointer (some ⟨w.heap.size, 0, none⟩)) ∧ w.alloc (.cells #[.int .i64 room, .slice none 0 0] 61) = w' := by
  have hd : decide (1 ≤ room ∧ room ≤ 64) = true := by simpa using h
  have hc := holds_calls room w
  rw [hd] at hc
  have H := Lib.hid hc
  clear hc hd
  go_enter Try.func16, Try.ntmps16
  go_wp2_with (go_at_call 38; refine (H.out).mono ?_; rintro e w' ⟨rfl, rfl⟩)
  go_ret
  exact ⟨rfl, rfl⟩

set_option maxHeartbeats 1600000 in
theorem lnewi_yes (w : World) (lanes room : Int) (hl : 1 ≤ lanes ∧ lanes ≤ 64) (h : 1 ≤ room ∧ room ≤ 64) :
    SpecAt Try.prog 12 #[.int .i64 lanes, .int .i64 room] w SP.emp fun e A' => ∃ g, e = .returned (.pointer (some ⟨g, 0, none⟩)) ∧ A' = SP.lanesi g 0 room (List.replicate lanes.toNat []) := by
  intro S hA hlt
  obtain ⟨n, rfl⟩ := Int.eq_ofNat_of_zero_le (show 0 ≤ lanes by omega)
  have hc1 := holds_calls (n : Int) w
  have hc2 := holds_calls room w
  rw [show decide (1 ≤ (n : Int) ∧ (n : Int) ≤ 64) = true by simpa using hl] at hc1
  rw [show decide (1 ≤ room ∧ room ≤ 64) = true by simpa using h] at hc2
  have H1 := Lib.hid hc1
  have H2 := Lib.hid hc2
  have hown0 : Own S w (w.alloc (.cells #[.slice none 0 0, .int .i64 0] 59)) [SP.blk w.heap.size 59 #[.slice none 0 0, .int .i64 0], SP.row 35 1 (.slice none 0 0) (ptrsi []), SP.stars (lansi room [] [])] := by
    have h0 : Own S w w [] := ⟨hlt, Keeps.refl _ _, trivial⟩
    have h1 := ((h0.add (B := SP.stars (lansi room [] [])) trivial).add (B := SP.row 35 1 (.slice none 0 0) (ptrsi [])) (SP.row_nil _ _ _ _)).alloc #[.slice none 0 0, .int .i64 0] 59
    exact h1
  clear hc1 hc2 hA
  go_enter Try.func12, Try.ntmps12
  go_wp2_with fail
  refine (H1.out).mono ?_
  rintro e w' ⟨rfl, rfl⟩
  go_wp2_with fail
  refine (H2.out).mono ?_
  rintro e w' ⟨rfl, rfl⟩
  go_wp2
  go_loopw [17] (fun t wr => ∃ (k : Nat) (gs : List Nat) (A : Option Addr) (c : Nat), k ≤ n ∧ gs.length = k ∧ t = .int .i64 k ∧
      Own S w wr [SP.blk w.heap.size 59 #[.slice A k c, .int .i64 0], SP.row 35 1 (.slice A k c) (ptrsi gs), SP.stars (lansi room gs (List.replicate k []))]) (fun t _ => n - (intOf t).toNat)
  case atStart => exact ⟨0, [], none, 0, Nat.zero_le _, rfl, rfl, hown0⟩
  case round =>
    obtain ⟨k, gs, A, c, hk, hgs, rfl, hown⟩ := hrel
    have Hgs := Lib.hid hgs
    clear hgs hown0
    by_cases hkn : k < n
    · obtain ⟨T, hA, hltT, hback⟩ := (Own.unflat (L := [_, _]) (R := [_]) hown).open
      obtain ⟨T1, T2, t1, t2, td, ⟨hSg, hb⟩, hr'⟩ := hA
      have hr := SP.sep_left hr'
      have hn2 : ¬ T2 w.heap.size := fun h => td _ hSg h
      have hbw := hown.size
      have c0 := cells_of hb 0
      have f0 := free_of hb 0
      simp only [List.getElem?_toArray, List.getElem?_cons_zero, List.getElem?_cons_succ] at c0
      have hltg := lt_of_blk hb
      go_wp2_with fail
      have hW := fun (q : Nat) => (((Below.refl wr.heap.size wr).drew).alloc (Nat.le_refl _) (.cells #[.int .i64 room, .slice none 0 0] 61)).alloc (by simp) (.cells #[.pointer (some ⟨q, 0, none⟩)] 35)
      have hW' := Lib.hid hW
      have hr2 := Lib.hid (And.intro hr hb)
      clear hW hr hr' hb
      go_region_law (first | (refine step_call rfl 16 _ _ rfl Try.func16 (by kernel_rfl) (by kernel_rfl) #[.int .i64 room] (by rfl) ?_; refine (qnewi_calls _ room h).mono ?_; rintro e w' ⟨rfl, rfl⟩; refine ⟨_, rfl, ?_⟩) | (refine step_append_row rfl _ _ 57 rfl 35 (.pointer none) 1 8 Try.underlying57 Try.info35 rfl (by decide) rfl (by have := Hgs.out; simp [ptrsi]; omega) (row_later hr2.out.1 (fun k hk => hltT k (t2 k hk)) (hW'.out _)) _ 1 1 [.pointer (some ⟨wr.heap.size, 0, none⟩)] rfl rfl (rd_at _ _ _ (by simp [go_sem])) (by simp [Value.oneCell']) (by unfold maxLen; omega) (by omega) ?_; rintro A' c' w2 - hk2 hr3; have c0' := obj_cell hr2.out.2 hn2 (hW'.out _) hk2 0; simp only [List.getElem?_toArray, List.getElem?_cons_zero] at c0'; obtain ⟨c0', f0'⟩ := c0'))
      all_goals
        have hq : (SP.quei wr.heap.size room []).At ((wr.drew.alloc (.cells #[.int .i64 room, .slice none 0 0] 61)).alloc (.cells #[.pointer (some ⟨wr.heap.size, 0, none⟩)] 35)) (fun q => q = wr.heap.size) :=
          box1_mk (S2 := fun _ => False) rfl (by rw [heap_alloc_old]; exact heap_alloc_new wr.drew _; simp) (fun _ h => h.elim) (fun h => h) (SP.row_nil _ _ _ _)
        have hsg := sep_grown (w := wr) (fun k hk => hltT k (t2 k hk)) (hW'.out _) hk2 hr3 hq (fun k hk => by have h0 : k = wr.heap.size := hk; subst h0; refine ⟨Nat.le_refl _, ?_⟩; simp only [World.size_alloc, World.size_drew]; omega)
        obtain ⟨f1, f2, f3, f4, f5⟩ := obj_set2 (S := T) (t1 _ hSg) hr2.out.2 t2 hn2 (hW'.out _) hk2 hsg 0 (.slice A' (k + 1) c')
        have hfin := Lib.hid (hback _ (SP.sep (SP.blk w.heap.size 59 #[.slice A' (k + 1) c', .int .i64 0]) (SP.sep (SP.row 35 1 (.slice A' (k + 1) c') (ptrsi gs ++ [.pointer (some ⟨wr.heap.size, 0, none⟩)])) (SP.quei wr.heap.size room []))) f1
          ⟨fun q => q = w.heap.size, grow T2 wr w2, fun q hq => .inl (hq ▸ t1 _ hSg), f4, fun q hq h => f5 (hq ▸ h), ⟨rfl, f2⟩, f3⟩)
        clear hk2 hr3 hq hsg f1 f2 f3 f4 f5 hback hown
        go_wp2
        go_roundw
        case rel =>
          have h1 := hfin.out.unsep
          have h2 := h1.tail (L' := [SP.row 35 1 (.slice A' (k + 1) c') (ptrsi gs ++ [.pointer (some ⟨wr.heap.size, 0, none⟩)]), SP.quei wr.heap.size room [], SP.stars (lansi room gs (List.replicate k []))]) (fun T h => by exact SP.sep_assoc h)
          have h3 := h2.tail (L' := [SP.row 35 1 (.slice A' (k + 1) c') (ptrsi gs ++ [.pointer (some ⟨wr.heap.size, 0, none⟩)]), SP.stars (lansi room gs (List.replicate k []) ++ [SP.quei wr.heap.size room []])]) (fun T h => by exact SP.sep_imp h (fun _ => id) (fun _ h => SP.stars_snoc h))
          refine ⟨k + 1, gs ++ [wr.heap.size], A', c', by omega, by simp [Hgs.out], by go_num, ?_⟩
          rw [show lansi room (gs ++ [wr.heap.size]) (List.replicate (k + 1) []) = lansi room gs (List.replicate k []) ++ [SP.quei wr.heap.size room []] by
            rw [List.replicate_succ', lansi, List.zipWith_append (by simp [Hgs.out])]; rfl]
          rw [show ptrsi (gs ++ [wr.heap.size]) = ptrsi gs ++ [.pointer (some ⟨wr.heap.size, 0, none⟩)] by simp [ptrsi]]
          exact h3
        case measure => simp [intOf]; omega
    · obtain rfl : n = k := by omega
      have hl' := Own.leave hown
      have Hl := Lib.hid hl'
      clear hl' hown hk hkn
      go_wp2
      go_ret
      refine ⟨_, ⟨_, rfl, rfl⟩, Hl.out.1, gs, .slice A n c, ?_⟩
      have := Hl.out.2
      rw [Int.toNat_natCast]
      exact ⟨fun _ => False, _, fun _ h => h.elim, fun _ h => h, fun _ h => h.elim, show gs.length = (List.replicate n ([] : List Int)).length by simpa using Hgs.out, this⟩

theorem lnewi_no (w : World) (lanes room : Int) (h : ¬ ((1 ≤ lanes ∧ lanes ≤ 64) ∧ 1 ≤ room ∧ room ≤ 64)) : Calls Try.prog 12 #[.int .i64 lanes, .int .i64 room] w fun e w' => e = .returned (.pointer none) ∧ w = w' := by
  have hc1 := holds_calls lanes w
  have hc2 := holds_calls room w
  by_cases h1 : 1 ≤ lanes ∧ lanes ≤ 64
  · have h2 : ¬ (1 ≤ room ∧ room ≤ 64) := fun h2 => h ⟨h1, h2⟩
    rw [show decide (1 ≤ lanes ∧ lanes ≤ 64) = true by simpa using h1] at hc1
    rw [show decide (1 ≤ room ∧ room ≤ 64) = false by simpa using h2] at hc2
    have H1 := Lib.hid hc1
    have H2 := Lib.hid hc2
    clear hc1 hc2 h1 h2 h
    go_enter Try.func12, Try.ntmps12
    go_wp2_with fail
    refine (H1.out).mono ?_
    rintro e w' ⟨rfl, rfl⟩
    go_wp2_with fail
    refine (H2.out).mono ?_
    rintro e w' ⟨rfl, rfl⟩
    go_wp2
    go_ret
    exact ⟨rfl, rfl⟩
  · rw [show decide (1 ≤ lanes ∧ lanes ≤ 64) = false by simpa using h1] at hc1
    have H1 := Lib.hid hc1
    clear hc1 hc2 h1 h
    go_enter Try.func12, Try.ntmps12
    go_wp2_with fail
    refine (H1.out).mono ?_
    rintro e w' ⟨rfl, rfl⟩
    go_wp2
    go_ret
    exact ⟨rfl, rfl⟩
end Go.Proofs.Ytbncicfbgfmekaa

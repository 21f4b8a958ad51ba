/-
  Lanes of numbers: Len, Items.
  Conditions: there are at most 64 lanes, none holds more than 64.
-/
import Derived.Test.YtbncicfbgfmekaaLaoI
namespace Go.Proofs.Ytbncicfbgfmekaa
set_option linter.unusedVariables false
set_option linter.unusedSimpArgs false
open Go.RowKit

theorem set_self {α : Type} {L : List α} {i : Nat} {x : α} (h : L[i]? = some x) : L.set i x = L := by
  apply List.ext_getElem?
  intro z
  rw [List.getElem?_set]
  split
  · rename_i h1
    subst h1
    rw [if_pos (List.getElem?_eq_some_iff.1 h).1, h]
  · rfl

def lensum (L : List (List Int)) : Nat := (L.map List.length).sum
theorem lensum_take (L : List (List Int)) {i : Nat} {xs : List Int} (h : L[i]? = some xs) : lensum (L.take (i + 1)) = lensum (L.take i) + xs.length := by
  rw [List.take_add_one, h]
  simp [lensum]
theorem lensum_bd (L : List (List Int)) (hx : ∀ xs, xs ∈ L → xs.length ≤ 64) : lensum L ≤ 64 * L.length := by
  induction L with
  | nil => simp [lensum]
  | cons y ys ih =>
    have h1 := hx y (by simp)
    have h2 := ih (fun xs h => hx xs (by simp [h]))
    simp only [lensum, List.map_cons, List.sum_cons, List.length_cons] at *
    omega
theorem lensum_take_le (L : List (List Int)) (hx : ∀ xs, xs ∈ L → xs.length ≤ 64) (hl : L.length ≤ 64) (i : Nat) : lensum (L.take i) ≤ 4096 := by
  have := lensum_bd (L.take i) (fun xs h => hx xs (List.mem_of_mem_take h))
  have : (L.take i).length ≤ 64 := by rw [List.length_take]; omega
  omega

set_option maxHeartbeats 800000 in
theorem llen_spec (w : World) (g : Nat) (next room : Int) (L : List (List Int)) (hl2 : L.length ≤ 64) (hx : ∀ xs, xs ∈ L → xs.length ≤ 64) :
    SpecAt Try.prog 15 #[.pointer (some ⟨g, 0, none⟩)] w (SP.lanesi g next room L) fun e A' => e = .returned (.int .i64 (lensum L)) ∧ A' = SP.lanesi g next room L := by
  intro S hA hlt
  obtain ⟨gs, A, c, hl, hc, hm, hb, hp, hown⟩ := lanesi_open (Own.enter hA hlt)
  have c0 := cells_of hb 0
  simp only [List.getElem?_toArray, List.getElem?_cons_zero] at c0
  have hbd := lensum_take_le L hx hl2
  have H := Lib.hid (And.intro hl (And.intro hx hbd))
  unfold maxLen at hm
  have Hb := Lib.hid hb
  clear hb hp hA hl hx hbd
  go_enter Try.func15, Try.ntmps15
  go_wp2
  go_loopw [3, 11] (fun t3 t wr => ∃ i : Nat, i ≤ L.length ∧ t3 = .int .i64 (lensum (L.take i)) ∧ t = .int .i64 i ∧ Own S w wr [SP.blk g 59 #[.slice A L.length c, .int .i64 next], SP.row 35 1 (.slice A L.length c) (ptrsi gs), SP.stars (lansi room gs L)]) (fun _ t _ => L.length - (intOf t).toNat)
  case atStart => exact ⟨0, Nat.zero_le _, rfl, rfl, hown⟩
  case round =>
    obtain ⟨i, hi, rfl, rfl, hownr⟩ := hrel
    clear hown c0
    by_cases hin : i < L.length
    · obtain ⟨xs, hLk⟩ : ∃ xs, L[i]? = some xs := ⟨_, List.getElem?_eq_getElem hin⟩
      obtain ⟨q, hq⟩ : ∃ q, gs[i]? = some q := ⟨_, List.getElem?_eq_getElem (by have := H.out.1; omega)⟩
      obtain ⟨b, off, rfl, _, hcp, _⟩ := SP.row_cell hownr.pop.head (j := i) (u := .pointer (some ⟨q, 0, none⟩)) (by simp [ptrsi, hq])
      have hf := (hownr.perm lansi_perm1).focus i (lansi_get hq hLk)
      have hs := lensum_take L hLk
      have hb1 := H.out.2.2 i
      have hb2 := H.out.2.2 (i + 1)
      have Hf := Lib.hid (And.intro hf (And.intro hs (And.intro hq hLk)))
      have hxl : xs.length ≤ 64 := H.out.2.1 xs (List.mem_of_getElem? hLk)
      clear hf hs hq hLk hownr
      go_wp2_with fail
      refine (SpecAt.use (qleni_spec _ q room xs) Hf.out.1).mono ?_
      rintro e w1 ⟨A'', ⟨rfl, rfl⟩, hown1, -⟩
      have h2 := Own.unfocus hown1 (by rw [lansi_length H.out.1]; exact hin)
      rw [lansi_set Hf.out.2.2.1, set_self Hf.out.2.2.2] at h2
      have H3 := Lib.hid (h2.perm lansi_perm2)
      clear h2 hown1
      go_wp2
      go_roundw
      case rel => exact ⟨i + 1, by omega, by rw [Hf.out.2.1]; go_num, by go_num, H3.out⟩
      case measure => simp [intOf]; omega
    · obtain rfl : i = L.length := by omega
      have Ho := Lib.hid (lanesi_shut (R := []) H.out.1 hownr)
      clear hownr
      go_wp2
      go_ret
      refine ⟨_, ⟨?_, rfl⟩, Ho.out.keeps, Ho.out.head⟩
      show Ending.returned (.int .i64 (lensum (L.take L.length))) = _
      rw [List.take_length]

theorem litems_out (w : World) (g : Nat) (next room : Int) (L : List (List Int)) (lane : Int) (h : ¬ (0 ≤ lane ∧ lane < (L.length : Int))) :
    SpecAt Try.prog 22 #[.pointer (some ⟨g, 0, none⟩), .int .i64 lane] w (SP.lanesi g next room L) fun e A' => e = .returned (.slice none 0 0) ∧ A' = SP.lanesi g next room L := by
  intro S hA hlt
  obtain ⟨gs, A, c, hl, hc, hm, hb, hp, hown⟩ := lanesi_open (Own.enter hA hlt)
  have ht := therei_calls w g L.length c A lane (cells_of hb 0)
  rw [show decide (0 ≤ lane ∧ lane < (L.length : Int)) = false by simpa using h] at ht
  have Ht := Lib.hid ht
  have HA := Lib.hid hA
  clear ht hb hp hown hA h
  go_enter Try.func22, Try.ntmps22
  go_wp2_with fail
  refine (Ht.out).mono ?_
  rintro e w' ⟨rfl, rfl⟩
  go_wp2
  go_ret
  exact ⟨_, ⟨rfl, rfl⟩, Keeps.refl _ _, (SP.lanesi g next room L).mono HA.out (fun k hk => .inl hk)⟩

set_option maxHeartbeats 800000 in
theorem litems_in (w : World) (g : Nat) (next room : Int) (L : List (List Int)) (k : Nat) (xs : List Int) (hk : L[k]? = some xs) (hx : xs.length ≤ 64) :
    SpecAt Try.prog 22 #[.pointer (some ⟨g, 0, none⟩), .int .i64 k] w (SP.lanesi g next room L) fun e A' => ∃ A c, e = .returned (.slice A xs.length c) ∧ A' = SP.stars [SP.row 3 1 (.slice A xs.length c) (ints xs), SP.lanesi g next room L] := by
  intro S hA hlt
  obtain ⟨gs, A, c, hl, hc, hm, hb, hp, hown⟩ := lanesi_open (Own.enter hA hlt)
  have hkl : k < L.length := (List.getElem?_eq_some_iff.1 hk).1
  obtain ⟨q, hq⟩ : ∃ q, gs[k]? = some q := ⟨_, List.getElem?_eq_getElem (by omega)⟩
  obtain ⟨b, off, rfl, hcp⟩ := hp k q hq
  have ht := therei_calls w g L.length c _ (k : Int) (cells_of hb 0)
  rw [show decide (0 ≤ (k : Int) ∧ (k : Int) < (L.length : Int)) = true by simpa using hkl] at ht
  have c0 := cells_of hb 0
  simp only [List.getElem?_toArray, List.getElem?_cons_zero] at c0
  have hf := (hown.perm lansi_perm1).focus k (lansi_get hq hk)
  have H := Lib.hid (And.intro ht (And.intro hf (And.intro hl (And.intro hq hk))))
  unfold maxLen at hm
  clear ht hf hb hp hown hA hl hq hk
  go_enter Try.func22, Try.ntmps22
  go_wp2_with fail
  refine (H.out.1).mono ?_
  rintro e w' ⟨rfl, rfl⟩
  go_wp2_with fail
  refine (SpecAt.use (qitemsi_spec _ q room xs (by omega)) H.out.2.1).mono ?_
  rintro e w1 ⟨A', ⟨A2, c2, rfl, rfl⟩, hown1, -⟩
  have Ho := Lib.hid hown1
  clear hown1
  go_wp2
  go_ret
  have h1 := Ho.out.flat
  have h2 := h1.perm (R := [SP.quei q room xs, SP.stars ((lansi room gs L).eraseIdx k), SP.blk g 59 #[.slice (some ⟨b, off, none⟩) L.length c, .int .i64 next], SP.row 35 1 (.slice (some ⟨b, off, none⟩) L.length c) (ptrsi gs), SP.row 3 1 (.slice A2 xs.length c2) (ints xs)]) (List.perm_append_singleton (SP.row 3 1 (.slice A2 xs.length c2) (ints xs)) [_, _, _, _]).symm
  have h3 := Own.unfocus h2 (by rw [lansi_length H.out.2.2.1]; exact hkl)
  rw [lansi_set H.out.2.2.2.1, set_self H.out.2.2.2.2] at h3
  have h4 := lanesi_shut (R := [SP.row 3 1 (.slice A2 xs.length c2) (ints xs)]) H.out.2.2.1 (h3.perm ((List.Perm.swap _ _ _).trans (List.Perm.cons _ (List.Perm.swap _ _ _))))
  have h5 := h4.swap
  exact ⟨_, ⟨_, _, rfl, rfl⟩, h5.keeps, h5.at_⟩
end Go.Proofs.Ytbncicfbgfmekaa

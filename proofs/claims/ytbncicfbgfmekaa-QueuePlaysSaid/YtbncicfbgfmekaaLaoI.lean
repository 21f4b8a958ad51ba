/-
  Lanes: Put, Take, Len, Items: what each does to the memory of lanes, and what it answers.
  Conditions: the rooms are at most 64, no lane holds more than its room, there are at most 64 lanes.
-/
import Derived.Test.YtbncicfbgfmekaaLanI
namespace Go.Proofs.Ytbncicfbgfmekaa
set_option linter.unusedVariables false
set_option linter.unusedSimpArgs false
open Go.RowKit

theorem lansi_length {room : Int} {gs : List Nat} {L : List (List Int)} (h : gs.length = L.length) : (lansi room gs L).length = L.length := by simp [lansi, h]
theorem lansi_get {room : Int} {gs : List Nat} {L : List (List Int)} {k q : Nat} {xs : List Int} (hg : gs[k]? = some q) (hL : L[k]? = some xs) : (lansi room gs L)[k]? = some (SP.quei q room xs) := by
  simp [lansi, List.getElem?_zipWith, hg, hL]
theorem lansi_set {room : Int} {gs : List Nat} {L : List (List Int)} {k q : Nat} (hg : gs[k]? = some q) (ys : List Int) : (lansi room gs L).set k (SP.quei q room ys) = lansi room gs (L.set k ys) := by
  apply List.ext_getElem?
  intro i
  simp only [lansi, List.getElem?_set, List.getElem?_zipWith, List.length_zipWith]
  by_cases hi : k = i
  · subst hi
    have hlg : k < gs.length := (List.getElem?_eq_some_iff.1 hg).1
    by_cases hl : k < L.length
    · have e : gs[k] = q := (List.getElem?_eq_some_iff.1 hg).2
      simp [hg, hl, hlg]
      exact ⟨by omega, by rw [e]⟩
    · simp [hg, hl]
      omega
  · simp [hi]

/-- The lanes laid open: the struct, the row of pointers, the queues. -/
theorem lanesi_open {S : Nat → Prop} {w0 w : World} {g : Nat} {next room : Int} {L : List (List Int)} {R : List SP} (h : Own S w0 w (SP.lanesi g next room L :: R)) :
    ∃ (gs : List Nat) (A : Option Addr) (c : Nat), gs.length = L.length ∧ L.length ≤ c ∧ c ≤ maxLen ∧ w.heap[g]? = some (.cells #[.slice A L.length c, .int .i64 next] 59 (0, 0)) ∧
      (∀ k q, gs[k]? = some q → ∃ b off, A = some ⟨b, off, none⟩ ∧ w.cell? ⟨b, off + k, none⟩ = some (.pointer (some ⟨q, 0, none⟩))) ∧
      Own S w0 w (SP.blk g 59 #[.slice A L.length c, .int .i64 next] :: SP.row 35 1 (.slice A L.length c) (ptrsi gs) :: SP.stars (lansi room gs L) :: R) := by
  obtain ⟨gs, h⟩ := h.unex
  obtain ⟨v, h⟩ := h.unex
  obtain ⟨hl, h⟩ := h.flat.unpur
  obtain ⟨A, c, rfl, hc, hm⟩ := SP.row_shape1 h.pop.head
  rw [ptrsi_length, hl] at hc h
  refine ⟨gs, A, c, hl, hc, hm, h.head.2, ?_, h⟩
  intro k q hq
  obtain ⟨b, off, h1, _, h2, _⟩ := SP.row_cell h.pop.head (j := k) (u := .pointer (some ⟨q, 0, none⟩)) (by simp [ptrsi, hq])
  exact ⟨b, off, h1, h2⟩
theorem lanesi_shut {S : Nat → Prop} {w0 w : World} {g : Nat} {next room : Int} {L : List (List Int)} {gs : List Nat} {v : Value} {R : List SP} (hl : gs.length = L.length)
    (h : Own S w0 w (SP.blk g 59 #[v, .int .i64 next] :: SP.row 35 1 v (ptrsi gs) :: SP.stars (lansi room gs L) :: R)) : Own S w0 w (SP.lanesi g next room L :: R) :=
  Own.mkex gs (Own.mkex v (Own.unflat (L := [_, _, _, _]) (h.pur hl)))

theorem therei_calls (w : World) (g n c : Nat) (A : Option Addr) (lane : Int) (c0 : w.cell? ⟨g, 0, none⟩ = some (.slice A n c)) :
    Calls Try.prog 39 #[.pointer (some ⟨g, 0, none⟩), .int .i64 lane] w fun e w' => e = .returned (.bool (decide (0 ≤ lane ∧ lane < (n : Int)))) ∧ w = w' := by
  by_cases h1 : 0 ≤ lane
  · by_cases h2 : lane < (n : Int)
    all_goals
      go_enter Try.func39, Try.ntmps39
      go_wp2
      go_ret
      exact ⟨by simp [h1, h2], rfl⟩
  · go_enter Try.func39, Try.ntmps39
    go_wp2
    go_ret
    exact ⟨by simp; omega, rfl⟩

theorem lputi_out (w : World) (g : Nat) (next room : Int) (L : List (List Int)) (lane : Int) (x : Int) (h : ¬ (0 ≤ lane ∧ lane < (L.length : Int))) :
    SpecAt Try.prog 13 #[.pointer (some ⟨g, 0, none⟩), .int .i64 lane, Value.int .i64 x] w (SP.lanesi g next room L) fun e A' => e = .returned (.bool false) ∧ A' = SP.lanesi g next room L := by
  intro S hA hlt
  obtain ⟨gs, A, c, hl, hc, hm, hb, hp, hown⟩ := lanesi_open (Own.enter hA hlt)
  have ht := therei_calls w g L.length c A lane (cells_of hb 0)
  rw [show decide (0 ≤ lane ∧ lane < (L.length : Int)) = false by simpa using h] at ht
  have Ht := Lib.hid ht
  have HA := Lib.hid hA
  clear ht hb hp hown hA h
  go_enter Try.func13, Try.ntmps13
  go_wp2_with fail
  refine (Ht.out).mono ?_
  rintro e w' ⟨rfl, rfl⟩
  go_wp2
  go_ret
  exact ⟨_, ⟨rfl, rfl⟩, Keeps.refl _ _, (SP.lanesi g next room L).mono HA.out (fun k hk => .inl hk)⟩

set_option maxHeartbeats 800000 in
theorem lputi_in (w : World) (g : Nat) (next room : Int) (L : List (List Int)) (k : Nat) (xs : List Int) (x : Int) (hk : L[k]? = some xs) (h0 : 0 ≤ room) (h1 : room ≤ 64) (hx : (xs.length : Int) ≤ room) :
    SpecAt Try.prog 13 #[.pointer (some ⟨g, 0, none⟩), .int .i64 k, Value.int .i64 x] w (SP.lanesi g next room L) fun e A' => e = .returned (.bool (decide ((xs.length : Int) < room))) ∧ A' = SP.lanesi g next room (L.set k (if (xs.length : Int) < room then xs ++ [x] else xs)) := by
  intro S hA hlt
  obtain ⟨gs, A, c, hl, hc, hm, hb, hp, hown⟩ := lanesi_open (Own.enter hA hlt)
  have hkl : k < L.length := (List.getElem?_eq_some_iff.1 hk).1
  obtain ⟨q, hq⟩ : ∃ q, gs[k]? = some q := ⟨_, List.getElem?_eq_getElem (by omega)⟩
  obtain ⟨b, off, rfl, hcp⟩ := hp k q hq
  have ht := therei_calls w g L.length c _ (k : Int) (cells_of hb 0)
  rw [show decide (0 ≤ (k : Int) ∧ (k : Int) < (L.length : Int)) = true by simpa using hkl] at ht
  have c0 := cells_of hb 0
  simp only [List.getElem?_toArray, List.getElem?_cons_zero] at c0
  have hf := (hown.perm (R := [SP.stars (lansi room gs L), SP.blk g 59 #[.slice (some ⟨b, off, none⟩) L.length c, .int .i64 next], SP.row 35 1 (.slice (some ⟨b, off, none⟩) L.length c) (ptrsi gs)]) ((List.Perm.cons _ (List.Perm.swap _ _ _)).trans (List.Perm.swap _ _ _))).focus k (lansi_get hq hk)
  have H := Lib.hid (And.intro ht (And.intro hf (And.intro hl hq)))
  have hsp := fun W => qputi_spec W q room xs x h0 h1 hx
  have Hsp := Lib.hid hsp
  unfold maxLen at hm
  clear ht hf hb hp hown hA hl hq hsp hk
  generalize hys : (if (xs.length : Int) < room then xs ++ [x] else xs) = ys at *
  generalize hd : decide ((xs.length : Int) < room) = d at *
  clear hys hd
  go_enter Try.func13, Try.ntmps13
  go_wp2_with fail
  refine (H.out.1).mono ?_
  rintro e w' ⟨rfl, rfl⟩
  go_wp2_with fail
  refine (SpecAt.use (Hsp.out _) H.out.2.1).mono ?_
  rintro e w1 ⟨A', ⟨rfl, rfl⟩, hown1, -⟩
  have Ho := Lib.hid hown1
  clear hown1
  go_wp2
  go_ret
  have h2 := Own.unfocus Ho.out (by rw [lansi_length H.out.2.2.1]; exact hkl)
  rw [lansi_set H.out.2.2.2] at h2
  have h3 := lanesi_shut (R := []) (by rw [List.length_set]; exact H.out.2.2.1) (h2.perm ((List.Perm.swap _ _ _).trans (List.Perm.cons _ (List.Perm.swap _ _ _))))
  exact ⟨_, ⟨rfl, rfl⟩, h3.keeps, h3.head⟩

theorem lansi_perm1 {B R C : SP} : [B, R, C].Perm [C, B, R] := (List.Perm.cons _ (List.Perm.swap _ _ _)).trans (List.Perm.swap _ _ _)
theorem lansi_perm2 {C B R : SP} : [C, B, R].Perm [B, R, C] := (List.Perm.swap _ _ _).trans (List.Perm.cons _ (List.Perm.swap _ _ _))

def lposti (g next : Nat) (room : Int) (L : List (List Int)) (e : Ending) (A' : SP) : Prop :=
  (∃ (j : Nat) (x : Int) (r : List Int), j < L.length ∧ (∀ i, i < j → L[(next + i) % L.length]? = some []) ∧ L[(next + j) % L.length]? = some (x :: r) ∧
    e = .returned (.tuple #[.int .i64 ((next + j) % L.length : Nat), Value.int .i64 x, .bool true]) ∧ A' = SP.lanesi g (((next + j) % L.length + 1 : Nat) : Int) room (L.set ((next + j) % L.length) r)) ∨
  ((∀ i, i < L.length → L[(next + i) % L.length]? = some []) ∧ e = .returned (.tuple #[.int .i64 0, Value.int .i64 0, .bool false]) ∧ A' = SP.lanesi g next room L)

set_option maxHeartbeats 1600000 in
theorem ltakei_spec (w : World) (g next : Nat) (room : Int) (L : List (List Int)) (hn : next ≤ L.length) (hl1 : 1 ≤ L.length) (hl2 : L.length ≤ 64) (hx : ∀ xs, xs ∈ L → xs.length ≤ 64) :
    SpecAt Try.prog 14 #[.pointer (some ⟨g, 0, none⟩)] w (SP.lanesi g next room L) (lposti g next room L) := by
  intro S hA hlt
  have hown0 := Own.enter hA hlt
  obtain ⟨gs, A, c, hl, hc, hm, hb, hp, hown⟩ := lanesi_open hown0
  have c0 := cells_of hb 0
  simp only [List.getElem?_toArray, List.getElem?_cons_zero] at c0
  have HX := Lib.hid hx
  generalize hN : L.length = N at *
  have HN := Lib.hid hN
  clear hN hb hp hown hA hl hx
  go_enter Try.func14, Try.ntmps14
  go_wp2
  go_loopw [3, 14] (fun t3 t wr => ∃ i : Nat, t3 = Value.int .i64 0 ∧ i ≤ N ∧ t = .int .i64 i ∧ Own S w wr [SP.lanesi g next room L] ∧ Hid (∀ i', i' < i → L[(next + i') % N]? = some [])) (fun _ t _ => N - (intOf t).toNat)
  case atStart => exact ⟨0, rfl, Nat.zero_le _, rfl, hown0, fun i' h => by omega⟩
  case round =>
    obtain ⟨i, rfl, hi, rfl, hownr, hemp⟩ := hrel
    clear c0 hown0 hc hm
    by_cases hin : i < N
    · obtain ⟨gs', A', c', hl, hc, hm, hb, hp, hown⟩ := lanesi_open hownr
      rw [HN.out] at hc hb hl hown
      have hmod : (next + i) % N < N := Nat.mod_lt _ (by omega)
      have emod : ((next : Int) + (i : Int)) % (N : Int) = (((next + i) % N : Nat) : Int) := by simp
      generalize hK : (next + i) % N = K at *
      have HK := Lib.hid hK
      obtain ⟨xs, hLk⟩ : ∃ xs, L[K]? = some xs := ⟨_, List.getElem?_eq_getElem (by have := HN.out; omega)⟩
      obtain ⟨q, hq⟩ : ∃ q, gs'[K]? = some q := ⟨_, List.getElem?_eq_getElem (by omega)⟩
      obtain ⟨b, off, rfl, hcp⟩ := hp K q hq
      have c0 := cells_of hb 0
      have c1 := cells_of hb 1
      have f1 := free_of hb 1
      simp only [List.getElem?_toArray, List.getElem?_cons_zero, List.getElem?_cons_succ] at c0 c1
      have hf := (hown.perm lansi_perm1).focus K (lansi_get hq hLk)
      have hsp := fun W => qtakei_spec W q room xs (HX.out xs (List.mem_of_getElem? hLk))
      have H := Lib.hid (And.intro hf (And.intro hsp (And.intro hl (And.intro hq hLk))))
      unfold maxLen at hm
      have hN0 : ¬ ((N : Int) = 0) := by omega
      have hN1 : ((N : Int) == 0) = false := by simp; omega
      clear hf hsp hb hp hown hl hq hLk hK
      go_wp2
      go_quiet (fail)
      go_wp2_with fail
      refine (SpecAt.use (H.out.2.1 _) (Own.drewN H.out.1 _)).mono ?_
      rintro e w1 ⟨A'', ⟨rfl, rfl⟩, hown1, -⟩
      have h2 := Own.unfocus hown1 (by rw [lansi_length (by rw [H.out.2.2.1, HN.out])]; have := HN.out; omega)
      rw [lansi_set H.out.2.2.2.1] at h2
      cases xs with
      | nil =>
        have e0 : L.set K ([] : List Int).tail = L := by
          apply List.ext_getElem?
          intro z
          rw [List.getElem?_set]
          split
          · rename_i h; subst h; rw [H.out.2.2.2.2]; simp; have := HN.out; omega
          · rfl
        rw [e0] at h2
        have h3 := lanesi_shut (R := []) (by rw [H.out.2.2.1, HN.out]) (h2.perm lansi_perm2)
        have H3 := Lib.hid h3
        clear h2 h3 hown1 e0
        go_wp2
        go_roundw
        case rel =>
          refine ⟨i + 1, rfl, by omega, by go_num, H3.out, fun i' hi' => ?_⟩
          rcases Nat.lt_or_ge i' i with h | h
          · exact hemp i' h
          · obtain rfl : i' = i := by omega
            rw [HK.out]; exact H.out.2.2.2.2
        case measure => simp [intOf]; omega
      | cons x r =>
        have hb1 := h2.pop.head.2
        have Hk := Lib.hid (And.intro h2 hemp)
        have c0' := cells_of hb1 0
        have c1' := cells_of hb1 1
        have f1' := free_of hb1 1
        simp only [List.getElem?_toArray, List.getElem?_cons_zero, List.getElem?_cons_succ] at c0' c1'
        clear h2 hown1 hb1 hemp
        go_wp2
        go_ret3
        obtain ⟨T, hAT, hltT, hback⟩ := (Hk.out.1.perm lansi_perm2).open
        have hg := hAT.1
        have hb2 := hAT.2
        have hb3 := heap_setCell_same w1 g 1 _ _ (.int .i64 ((K : Int) + 1)) hb2
        have h4 := hback (w1.setCell ⟨g, 1, none⟩ (.int .i64 ((K : Int) + 1))) (SP.blk g 59 #[.slice (some ⟨b, off, none⟩) N c', .int .i64 ((K : Int) + 1)]) ((Keeps.refl _ _).setCell (.inl hg) _) ⟨.inl hg, hb3⟩
        have h5 := lanesi_shut (L := L.set K r) (next := (K : Int) + 1) (R := []) (by rw [List.length_set, H.out.2.2.1, HN.out]) h4
        refine ⟨SP.lanesi g ((K : Int) + 1) room (L.set K r), .inl ⟨i, x, r, by rw [HN.out]; exact hin, ?_, ?_, ?_, ?_⟩, h5.keeps, h5.head⟩
        · rw [HN.out]; exact Hk.out.2
        · rw [HN.out, HK.out]; exact H.out.2.2.2.2
        · rw [HN.out, HK.out]; rfl
        · rw [HN.out, HK.out]; rfl
    · obtain rfl : i = N := by omega
      have Ho := Lib.hid (And.intro hownr hemp)
      clear hownr hemp
      go_wp2
      go_ret3
      exact ⟨_, .inr ⟨by rw [HN.out]; exact Ho.out.2, rfl, rfl⟩, Ho.out.1.keeps, Ho.out.1.head⟩
end Go.Proofs.Ytbncicfbgfmekaa

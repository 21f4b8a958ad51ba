/-
  LanePlays as a call: it returns true, and what was there stays.
  Conditions: the operations lie in memory as they were handed in; they are at most 140737488351232.
-/
import Derived.Test.YtbncicfbgfmekaaLRest
import Derived.Test.YtbncicfbgfmekaaLOrder
import Derived.Test.YtbncicfbgfmekaaStepOwn
import Derived.Test.YtbncicfbgfmekaaRegionTwo
import Derived.Test.YtbncicfbgfmekaaPick
import Derived.Deep.RegionLaw
import Derived.Deep.RegionHeld3
import Derived.StillTactics
import Derived.WalkSpells
namespace Go.Proofs.Ytbncicfbgfmekaa
set_option linter.unusedVariables false
set_option linter.unusedSimpArgs false
open Go.RowKit

theorem Own.emptyRow {S : Nat → Prop} {w0 w : World} {R : List SP} (h : Own S w0 w R) (e : TypeId) : Own S w0 (w.alloc (.cells #[] e)) (SP.row e 1 (.slice (some ⟨w.heap.size, 0, none⟩) 0 0) [] :: R) :=
  h.gain ((Below.refl _ _).alloc (Nat.le_refl _) _) ((SP.row e 1 _ _).mono (row_empty_at (heap_alloc_new w _)) (fun k hk => by subst hk; exact ⟨Nat.le_refl _, by simp⟩))

/-- Where the scan for a lane that is not empty has come to. -/
def Scan (L : List (List Int)) (K last k : Nat) (at_ : Int) : Prop :=
  (at_ = -1 ∧ ∀ i, i + 1 < k → L[(last + 1 + i) % K]? = some []) ∨
  ∃ (j : Nat) (x : Int) (r : List Int), j + 2 = k ∧ at_ = (((last + 1 + j) % K : Nat) : Int) ∧ L[(last + 1 + j) % K]? = some (x :: r) ∧ ∀ i, i < j → L[(last + 1 + i) % K]? = some []
theorem scan_next {L : List (List Int)} {next last K : Nat} (h : next = last + 1 ∨ (next = 0 ∧ last + 1 = K)) (i : Nat) : L[(next + i) % K]? = L[(last + 1 + i) % K]? := by
  rcases h with rfl | ⟨rfl, h⟩
  · rfl
  · rw [h, Nat.zero_add, Nat.add_mod_left]
theorem scan_hit {L : List (List Int)} {last K k m : Nat} {xs : List Int} (h : Scan L K last k (-1)) (hk : 1 ≤ k) (hm : (last + k) % K = m) (hx : L[m]? = some xs) (hl : 0 < xs.length) : Scan L K last (k + 1) (m : Int) := by
  rcases h with ⟨-, h⟩ | ⟨j, x, r, -, e, -⟩
  · cases xs with
    | nil => simp at hl
    | cons x r =>
      refine .inr ⟨k - 1, x, r, by omega, ?_, ?_, fun i hi => h i (by omega)⟩
      · rw [show last + 1 + (k - 1) = last + k by omega, hm]
      · rw [show last + 1 + (k - 1) = last + k by omega, hm, hx]
  · omega
theorem scan_miss {L : List (List Int)} {last K k m : Nat} {xs : List Int} (h : Scan L K last k (-1)) (hk : 1 ≤ k) (hm : (last + k) % K = m) (hx : L[m]? = some xs) (hl : xs.length = 0) : Scan L K last (k + 1) (-1) := by
  rcases h with ⟨-, h⟩ | ⟨j, x, r, -, e, -⟩
  · refine .inl ⟨rfl, fun i hi => ?_⟩
    by_cases h1 : i + 1 < k
    · exact h i h1
    · rw [show last + 1 + i = last + k by omega, hm, hx, List.length_eq_zero_iff.1 hl]
  · omega
theorem scan_none {L : List (List Int)} {last K : Nat} (h : Scan L K last (K + 1) (-1)) : ∀ j, j < K → L[(last + 1 + j) % K]? = some [] := by
  rcases h with ⟨-, h⟩ | ⟨j, x, r, -, e, -⟩
  · exact fun j hj => h j (by omega)
  · omega
theorem scan_found {L : List (List Int)} {last K k a : Nat} (h : Scan L K last k (a : Int)) : ∃ (j : Nat) (x : Int) (r : List Int), a = (last + 1 + j) % K ∧ L[(last + 1 + j) % K]? = some (x :: r) ∧ j + 2 = k ∧ ∀ i, i < j → L[(last + 1 + i) % K]? = some [] := by
  rcases h with ⟨e, -⟩ | ⟨j, x, r, hj, e, hx, hn⟩
  · omega
  · exact ⟨j, x, r, by exact_mod_cast e, hx, hj, hn⟩
theorem Own.mat_back {S : Nat → Prop} {w0 w : World} {R : List SP} {te e : TypeId} {v u : Value} {vs : List Value} {L : List (List Value)} {ys : List Value} {k : Nat} (hl : vs.length = L.length) (hk : k < L.length)
    (h : Own S w0 w (SP.row e 1 u ys :: SP.row te 1 v (vs.set k u) :: SP.stars ((inner e vs L).eraseIdx k) :: R)) : Own S w0 w (SP.mat te e v (L.set k ys) :: R) := by
  refine Own.mat_shut (vs := vs.set k u) (by simp [hl]) ?_
  have h5 := (h.perm (List.Perm.cons _ (List.Perm.swap _ _ _))).unfocus (by rw [inner_length hl]; exact hk)
  rw [inner_set _ _ hl] at h5
  exact h5.swap

set_option maxRecDepth 100000 in
set_option maxHeartbeats 8000000 in
theorem lplays_calls (w : World) (lanes R : Int) (A : Option Addr) (c : Nat) (ops : List Op3) (hops : Ops w A ops) (hlen : ops.length ≤ 140737488351232) :
    Calls Try.prog 8 #[.int .i64 lanes, .int .i64 R, .slice A ops.length c] w fun e w' => e = .returned (.bool true) ∧ Below w.heap.size w w' := by
  have hf := Lib.hid (first_calls w)
  by_cases hgood : (1 ≤ lanes ∧ lanes ≤ 64) ∧ 1 ≤ R ∧ R ≤ 64
  · obtain ⟨⟨hg1, hg2⟩, hR2, hR3⟩ := hgood
    obtain ⟨K, rfl⟩ := Int.eq_ofNat_of_zero_le (show 0 ≤ lanes by omega)
    have hK2 : 1 ≤ K := by omega
    have hK3 : K ≤ 64 := by omega
    by_cases hbig : ops.length ≤ 400
    · have hmk := fun W => run_make_n (P := Try.prog) 26 30 (.slice none 0 0) 24 Try.underlying26 (by kernel_rfl) rfl K (by omega) (by omega) W
      go_enter Try.func8, Try.ntmps8
      go_wp2_with fail
      refine (hf.out).mono ?_
      rintro e w1 ⟨rfl, hb1⟩
      have o0 := Own.start w1
      go_wp2_with fail
      refine (SpecAt.use (lnewi_yes w1 K R ⟨by omega, by omega⟩ ⟨hR2, hR3⟩) o0.emp).mono ?_
      rintro e w2 ⟨A', ⟨g, rfl, rfl⟩, o1, -⟩
      have Hb := Lib.hid (And.intro hb1 hops)
      have O1 := Lib.hid o1
      clear hb1 hops o0 o1
      go_wp2
      obtain ⟨mb, hmb⟩ : ∃ mb, w2.heap.size = mb := ⟨_, rfl⟩
      have O2 := Lib.hid ((O1.out.matNew 30 3 K (by unfold maxLen; omega)).swap)
      rw [hmb] at O2
      simp only [hmb]
      clear hmb hmk O1
      go_loopw [11, 12] (fun ta tb wr => ∃ (i last next : Nat) (L : List (List Int)), i ≤ ops.length ∧ ta = .int .i64 last ∧ tb = .int .i64 i ∧ last < K ∧ next ≤ K ∧ (next = last + 1 ∨ (next = 0 ∧ last + 1 = K)) ∧ Own (fun _ => False) w1 wr [SP.lanesi g next R L, SP.mat 30 3 (.slice (some ⟨mb, 0, none⟩) K K) (L.map ints)] ∧ Hid (L.length = K ∧ ∀ xs, xs ∈ L → (xs.length : Int) ≤ R)) (fun _ tb _ => ops.length - (intOf tb).toNat)
      case atStart =>
        refine ⟨0, K - 1, 0, List.replicate K [], Nat.zero_le _, by rw [show ((K - 1 : Nat) : Int) = (K : Int) - 1 by omega], rfl, by omega, Nat.zero_le _, .inr ⟨rfl, by omega⟩, ?_, by simp, ?_⟩
        · have := O2.out
          rw [Int.toNat_natCast] at this
          rw [List.map_replicate]
          exact this
        · intro xs hx
          rw [List.mem_replicate] at hx
          rw [hx.2]; simp; omega
      case round =>
        obtain ⟨i, last, next, L, hi, rfl, rfl, hla, hnx, hln, hown, hL⟩ := hrel
        clear O2
        by_cases hin : i < ops.length
        · obtain ⟨o, hoi⟩ : ∃ o, ops[i]? = some o := ⟨_, List.getElem?_eq_getElem hin⟩
          obtain ⟨b, off, rfl, hbl, k0, k1, k2, hwf⟩ := Hb.out.2 i o hoi
          obtain ⟨kd, nn, ln⟩ := o
          simp only at k0 k1 k2
          have HC : ∀ W L, Own (fun _ => False) w1 W L → W.cell? ⟨b, off + i * 3, none⟩ = some (.int .i64 kd) ∧ W.cell? ⟨b, off + i * 3 + 1, none⟩ = some (.int .i64 nn) ∧ W.cell? ⟨b, off + i * 3 + 2, none⟩ = some (.int .i64 ln) := fun W L h => by
            have hbw : Below w.heap.size w W := Hb.out.1.trans (h.below.mono Hb.out.1.size)
            exact ⟨(hbw.cell hbl).trans k0, (hbw.cell hbl).trans k1, (hbw.cell hbl).trans k2⟩
          obtain ⟨c0, c1, c2⟩ := HC _ _ hown
          have HN := Lib.hid (hown.alloc #[.int .i64 kd, .int .i64 nn, .int .i64 ln] 28)
          clear HC k0 k1 k2 hoi hown hwf
          go_upto_if 69 with (fail)
          obtain ⟨wo, hwo⟩ : ∃ wo, wr.alloc (.cells #[.int .i64 kd, .int .i64 nn, .int .i64 ln] 28) = wo := ⟨_, rfl⟩
          obtain ⟨ob, hob⟩ : ∃ ob, wr.heap.size = ob := ⟨_, rfl⟩
          rw [hwo, hob] at HN
          simp only [hwo, hob]
          clear hwo hob c0 c1 c2
          have d0 := HN.out.blk_cell 0
          have d1 := HN.out.blk_cell 1
          have d2 := HN.out.blk_cell 2
          simp only [List.getElem?_toArray, List.getElem?_cons_zero, List.getElem?_cons_succ] at d0 d1 d2
          have HO := Lib.hid HN.out.pop
          by_cases hk0 : kd = 0
          · have hk' : (kd == 0) = true := by simp [hk0]
            clear hk0
            by_cases hout : ¬ (0 ≤ ln ∧ ln < (L.length : Int))
            · have Sp := Lib.hid (fun W => lputi_out W g next R L ln nn hout)
              have hout' : ¬ 0 ≤ ln ∨ (0 ≤ ln ∧ ¬ ln < (K : Int)) := by have := hL.out.1; omega
              clear hout
              rcases hout' with h1 | ⟨h1, h2⟩
              · go_wp2_with fail
                refine (SpecAt.use (Sp.out _) HO.out).mono ?_
                rintro e wB ⟨A', ⟨rfl, rfl⟩, ownB, -⟩
                have HB := Lib.hid ownB
                clear ownB d0 d1 d2
                go_wp2
                go_roundw
                case rel => exact ⟨i + 1, last, next, L, by omega, rfl, by go_num, hla, hnx, hln, HB.out, hL.out⟩
                case measure => simp [intOf]; omega
              · go_wp2_with fail
                refine (SpecAt.use (Sp.out _) HO.out).mono ?_
                rintro e wB ⟨A', ⟨rfl, rfl⟩, ownB, -⟩
                have HB := Lib.hid ownB
                clear ownB d0 d1 d2
                go_wp2
                go_roundw
                case rel => exact ⟨i + 1, last, next, L, by omega, rfl, by go_num, hla, hnx, hln, HB.out, hL.out⟩
                case measure => simp [intOf]; omega
            · have hin' : 0 ≤ ln ∧ ln < (K : Int) := by have := hL.out.1; omega
              obtain ⟨k, rfl⟩ := Int.eq_ofNat_of_zero_le hin'.1
              have hkK : k < K := by omega
              clear hout hin'
              obtain ⟨xs, hxs⟩ : ∃ xs, L[k]? = some xs := ⟨_, List.getElem?_eq_getElem (by rw [hL.out.1]; exact hkK)⟩
              have hxR := hL.out.2 xs (List.mem_of_getElem? hxs)
              have hrow := Lib.hid hxs
              obtain ⟨vs, Ax, cx, hvl, hxc, hcm, hvk, ownM, hback⟩ := (HN.out.front 2 rfl).mat_at (k := k) (xs := ints xs) (by rw [List.getElem?_map, hxs]; rfl)
              rw [ints_length] at hvk ownM hxc
              have HVL := Lib.hid hvl
              clear hvl
              have hcell : ∀ W R, Own (fun _ => False) w1 W (SP.row 30 1 (.slice (some ⟨mb, 0, none⟩) K K) vs :: R) → W.cell? ⟨mb, k, none⟩ = some (.slice Ax xs.length cx) ∧ W.frozen? ⟨mb, k, none⟩ = false := fun W R h => by
                obtain ⟨g0, o0, e0, h6, h7⟩ := h.cell hvk
                injection e0 with e0
                injection e0 with e1 e2
                subst e1 e2
                rw [Nat.zero_add] at h6 h7
                exact ⟨h6, h7⟩
              obtain ⟨e1, f1⟩ := hcell _ _ ownM.swap
              have HM := Lib.hid (And.intro ownM (And.intro hcell (And.intro hback hvk)))
              have j1 : (k : Int) ≤ (K : Int) - 1 := by omega
              have j2 : ¬ (K : Int) - 1 < (k : Int) := by omega
              have j3 : (0 : Int) ≤ (k : Int) := by omega
              have j4 : (k : Int) < (K : Int) := by omega
              by_cases q1 : (xs.length : Int) < R
              · have sp : ∀ W, SpecAt Try.prog 13 #[.pointer (some ⟨g, 0, none⟩), .int .i64 k, .int .i64 nn] W (SP.lanesi g next R L) fun e A' => e = .returned (.bool true) ∧ A' = SP.lanesi g next R (L.set k (xs ++ [nn])) := fun W => by
                  have := lputi_in W g next R L k xs nn hxs (by omega) hR3 hxR
                  rwa [show decide ((xs.length : Int) < R) = true by simpa using q1, if_pos q1] at this
                have Sp := Lib.hid sp
                clear sp hxs ownM hcell hback
                go_wp2_with fail
                refine (SpecAt.use (Sp.out _) (HM.out.1.front 4 rfl)).mono ?_
                rintro e wB ⟨A', ⟨rfl, rfl⟩, ownB, -⟩
                have HB := Lib.hid ownB
                obtain ⟨e2, f2⟩ := HM.out.2.1 _ _ (ownB.front 2 rfl)
                have dd0 := (ownB.front 4 rfl).blk_cell 0
                have dd1 := (ownB.front 4 rfl).blk_cell 1
                have dd2 := (ownB.front 4 rfl).blk_cell 2
                simp only [List.getElem?_toArray, List.getElem?_cons_zero, List.getElem?_cons_succ] at dd0 dd1 dd2
                have l1 := (ownB.front 4 rfl).blk_lt
                have l2 := (ownB.front 2 rfl).row_lt
                clear ownB d0 d1 d2
                go_wp2_with fail
                have O0 := Lib.hid ((HB.out.drew).pick (L := [_, _, _, _, _]) [2, 4, 1, 3, 0])
                have HSF := Lib.hid (show ∀ (W : World) (R' : List SP), Own (fun _ => False) w1 W (SP.row 30 1 (.slice (some ⟨mb, 0, none⟩) K K) vs :: SP.blk ob 28 #[.int .i64 kd, .int .i64 nn, .int .i64 k] :: R') → W.cell? ⟨ob, 1, none⟩ = some (.int .i64 nn) ∧ W.cell? ⟨ob, 2, none⟩ = some (.int .i64 k) ∧ W.cell? ⟨mb, k, none⟩ = some (.slice Ax xs.length cx) from fun W R' h => by
                  obtain ⟨e2, -⟩ := HM.out.2.1 _ _ h
                  have dd1 := h.swap.blk_cell 1
                  have dd2 := h.swap.blk_cell 2
                  exact ⟨dd1, dd2, e2⟩)
                clear dd0 dd1 dd2 e2 f2 e1 f1 HB
                have hl64 : xs.length ≤ 64 := by omega
                refine wp_region_need (fun W => W.cell? ⟨ob, 1, none⟩ = some (.int .i64 nn) ∧ W.cell? ⟨ob, 2, none⟩ = some (.int .i64 k) ∧ W.cell? ⟨mb, k, none⟩ = some (.slice Ax xs.length cx)) (fun j => decide (j < 14)) (by kernel_rfl) ?_
                obtain ⟨W0, hW0⟩ : ∃ W0, wB.drew = W0 := ⟨_, rfl⟩
                rw [hW0] at O0 ⊢
                clear hW0
                have HS := Lib.hid (HSF.out _ _ O0.out)
                refine wpAnyN_take (i := 0) (v := ?v0) (by simp only [List.getElem?_toArray, List.getElem?_cons_succ, List.getElem?_cons_zero]; rfl) (by kernel_rfl) (by intro _ _ _ h; exact h) (Or.inl ⟨by rfl, ?y0⟩) HS.out ?r0
                case y0 =>
                  intro W hSW
                  try dsimp only at hSW
                  obtain ⟨s0, s1, s2⟩ := hSW
                  go_simp
                  try with_reducible rfl
                simp only [Act.put, List.setIfInBounds_toArray, List.set_cons_zero, List.set_cons_succ]
                refine wpAnyN_take (i := 1) (v := ?v1) (by simp only [List.getElem?_toArray, List.getElem?_cons_succ, List.getElem?_cons_zero]; rfl) (by kernel_rfl) (by intro _ _ _ h; exact h) (Or.inl ⟨by rfl, ?y1⟩) HS.out ?r1
                case y1 =>
                  intro W hSW
                  try dsimp only at hSW
                  obtain ⟨s0, s1, s2⟩ := hSW
                  go_simp
                  try with_reducible rfl
                simp only [Act.put, List.setIfInBounds_toArray, List.set_cons_zero, List.set_cons_succ]
                refine wpAnyN_take (i := 2) (v := ?v2) (by simp only [List.getElem?_toArray, List.getElem?_cons_succ, List.getElem?_cons_zero]; rfl) (by kernel_rfl) (by intro _ _ _ h; exact h) (Or.inl ⟨by rfl, ?y2⟩) HS.out ?r2
                case y2 =>
                  intro W hSW
                  try dsimp only at hSW
                  obtain ⟨s0, s1, s2⟩ := hSW
                  go_simp
                  try with_reducible rfl
                simp only [Act.put, List.setIfInBounds_toArray, List.set_cons_zero, List.set_cons_succ]
                refine wpAnyN_take (i := 4) (v := ?v4) (by simp only [List.getElem?_toArray, List.getElem?_cons_succ, List.getElem?_cons_zero]; rfl) (by kernel_rfl) (by intro _ _ _ h; exact h) (Or.inl ⟨by rfl, ?y4⟩) HS.out ?r4
                case y4 =>
                  intro W hSW
                  try dsimp only at hSW
                  obtain ⟨s0, s1, s2⟩ := hSW
                  go_simp
                  try with_reducible rfl
                simp only [Act.put, List.setIfInBounds_toArray, List.set_cons_zero, List.set_cons_succ]
                refine wpAnyN_take (i := 5) (v := ?v5) (by simp only [List.getElem?_toArray, List.getElem?_cons_succ, List.getElem?_cons_zero]; rfl) (by kernel_rfl) (by intro _ _ _ h; exact h) (Or.inl ⟨by rfl, ?y5⟩) HS.out ?r5
                case y5 =>
                  intro W hSW
                  try dsimp only at hSW
                  obtain ⟨s0, s1, s2⟩ := hSW
                  go_simp
                  try with_reducible rfl
                simp only [Act.put, List.setIfInBounds_toArray, List.set_cons_zero, List.set_cons_succ]
                refine wpAnyN_take (i := 6) (v := ?v6) (by simp only [List.getElem?_toArray, List.getElem?_cons_succ, List.getElem?_cons_zero]; rfl) (by kernel_rfl) (by intro _ _ _ h; exact h) (Or.inl ⟨by rfl, ?y6⟩) HS.out ?r6
                case y6 =>
                  intro W hSW
                  try dsimp only at hSW
                  obtain ⟨s0, s1, s2⟩ := hSW
                  go_simp
                  try with_reducible rfl
                simp only [Act.put, List.setIfInBounds_toArray, List.set_cons_zero, List.set_cons_succ]
                refine wpAnyN_take (i := 7) (v := ?v7) (by simp only [List.getElem?_toArray, List.getElem?_cons_succ, List.getElem?_cons_zero]; rfl) (by kernel_rfl) (by intro _ _ _ h; exact h) (Or.inl ⟨by rfl, ?y7⟩) HS.out ?r7
                case y7 =>
                  intro W hSW
                  try dsimp only at hSW
                  obtain ⟨s0, s1, s2⟩ := hSW
                  go_simp
                  try with_reducible rfl
                simp only [Act.put, List.setIfInBounds_toArray, List.set_cons_zero, List.set_cons_succ]
                refine wpAnyN_take (i := 8) (v := ?v8) (by simp only [List.getElem?_toArray, List.getElem?_cons_succ, List.getElem?_cons_zero]; rfl) (by kernel_rfl) (by intro _ _ _ h; exact h) (Or.inl ⟨by rfl, ?y8⟩) HS.out ?r8
                case y8 =>
                  intro W hSW
                  try dsimp only at hSW
                  obtain ⟨s0, s1, s2⟩ := hSW
                  go_simp
                  try with_reducible rfl
                simp only [Act.put, List.setIfInBounds_toArray, List.set_cons_zero, List.set_cons_succ]
                refine wpAnyN_take (i := 10) (v := ?v10) (by simp only [List.getElem?_toArray, List.getElem?_cons_succ, List.getElem?_cons_zero]; rfl) (by kernel_rfl) (by intro _ _ _ h; exact h) (Or.inl ⟨by rfl, ?y10⟩) HS.out ?r10
                case y10 =>
                  intro W hSW
                  try dsimp only at hSW
                  obtain ⟨s0, s1, s2⟩ := hSW
                  go_simp
                  try with_reducible rfl
                simp only [Act.put, List.setIfInBounds_toArray, List.set_cons_zero, List.set_cons_succ]
                refine wpAnyN_take (i := 11) (v := ?v11) (by simp only [List.getElem?_toArray, List.getElem?_cons_succ, List.getElem?_cons_zero]; rfl) (by kernel_rfl) (by intro _ _ _ h; exact h) (Or.inl ⟨by rfl, ?y11⟩) HS.out ?r11
                case y11 =>
                  intro W hSW
                  try dsimp only at hSW
                  obtain ⟨s0, s1, s2⟩ := hSW
                  go_simp
                  try with_reducible rfl
                simp only [Act.put, List.setIfInBounds_toArray, List.set_cons_zero, List.set_cons_succ]
                refine wpAnyN_two (i := 3) (j := 12) (by kernel_rfl) (by simp only [List.getElem?_toArray, List.getElem?_cons_succ, List.getElem?_cons_zero]; rfl) (by simp only [List.getElem?_toArray, List.getElem?_cons_succ, List.getElem?_cons_zero]; rfl) (fun K hK => ?a3) (fun K hK => ?a12)
                case a3 =>
                  go_simp
                  have E1 := Lib.hid (O0.out.emptyRow 3)
                  refine hK _ _ ⟨fun _ => HSF.out _ _ (E1.out.pick (L := [_, _, _]) [1, 2]), ?_⟩
                  clear hK K O0
                  try simp only [Act.put, List.setIfInBounds_toArray, List.set_cons_zero, List.set_cons_succ]
                  obtain ⟨W1, hWW1⟩ : ∃ x, W0.alloc (.cells #[] 3) = x := ⟨_, rfl⟩
                  obtain ⟨q1, hqq1⟩ : ∃ x, W0.heap.size = x := ⟨_, rfl⟩
                  rw [hWW1, hqq1] at E1
                  simp only [hWW1, hqq1]
                  clear hWW1 hqq1
                  refine wpAnyN_two (i := 9) (j := 12) (by kernel_rfl) (by simp only [List.getElem?_toArray, List.getElem?_cons_succ, List.getElem?_cons_zero]; rfl) (by simp only [List.getElem?_toArray, List.getElem?_cons_succ, List.getElem?_cons_zero]; rfl) (fun K hK => ?b9) (fun K hK => ?b12)
                  case b9 =>
                    refine step_append_move rfl (.tmp 105) (.tmp 110) 30 rfl 3 (.int .i64 0) 1 8 Try.underlying30 Try.info3 rfl (by decide) rfl (by simp) (E1.out.pick (L := [_, _, _, _, _, _]) [0, 1, 2, 3, 4, 5]) (Below.refl _ _) Ax xs.length cx (ints xs) rfl (by rw [ints_length, Nat.mul_one]) (E1.out.pick (L := [_, _, _, _, _, _]) [3]).rd ints_one (by unfold maxLen; omega) (by omega) ?_
                    rintro A3 c3 W2 own3
                    rw [Nat.zero_add, List.nil_append] at own3
                    have E2 := Lib.hid own3
                    refine hK _ _ ⟨fun _ => HSF.out _ _ (own3.pick (L := [_, _, _]) [1, 2]), ?_⟩
                    clear hK K own3 E1
                    try simp only [Act.put, List.setIfInBounds_toArray, List.set_cons_zero, List.set_cons_succ]
                    refine wpAnyN_one (i := 12) (by kernel_rfl) (by simp only [List.getElem?_toArray, List.getElem?_cons_succ, List.getElem?_cons_zero]; rfl) (fun K hK => ?_)
                    go_simp
                    have E3 := Lib.hid (E2.out.alloc #[.int .i64 nn] 3)
                    refine hK _ _ ⟨fun _ => HSF.out _ _ (E3.out.pick (L := [_, _, _, _]) [2, 3]), ?_⟩
                    clear hK K E2
                    try simp only [Act.put, List.setIfInBounds_toArray, List.set_cons_zero, List.set_cons_succ]
                    obtain ⟨W3, hWW3⟩ : ∃ x, W2.alloc (.cells #[.int .i64 nn] 3) = x := ⟨_, rfl⟩
                    obtain ⟨q3, hqq3⟩ : ∃ x, W2.heap.size = x := ⟨_, rfl⟩
                    rw [hWW3, hqq3] at E3
                    simp only [hWW3, hqq3]
                    clear hWW3 hqq3
                    have E4 := Lib.hid (E3.out.swap)
                    refine wpAnyN_one (i := 13) (by kernel_rfl) (by simp only [List.getElem?_toArray, List.getElem?_cons_succ, List.getElem?_cons_zero]; rfl) (fun K hK => ?_)
                    refine step_append_move rfl (.tmp 111) (.tmp 114) 30 rfl 3 (.int .i64 0) 1 8 Try.underlying30 Try.info3 rfl (by decide) (by simp [Act.eval]) (by simp [ints]) E4.out (Below.refl _ _) _ 1 1 [.int .i64 nn] rfl rfl (rd_at _ _ _ ((E4.out.swap).blk_cell 0)) (ints_one (xs := [nn])) (by unfold maxLen; omega) (by omega) ?_
                    rintro A4 c4 w4 own4
                    have O4 := Lib.hid own4
                    obtain ⟨e4, f4⟩ := HM.out.2.1 _ _ (own4.pick (L := [_, _, _]) [2])
                    refine hK _ _ ⟨fun _ => HSF.out _ _ (own4.pick (L := [_, _, _, _]) [2, 3]), ?_⟩
                    clear hK K own4 E4 HS
                    try simp only [Act.put, List.setIfInBounds_toArray, List.set_cons_zero, List.set_cons_succ]
                    refine wpAnyN_one (i := 14) (by kernel_rfl) (by simp only [List.getElem?_toArray, List.getElem?_cons_succ, List.getElem?_cons_zero]; rfl) (fun K hK => ?_)
                    go_simp
                    refine hK _ _ ⟨fun h => (by cases h), ?_⟩
                    clear hK K
                    try simp only [Act.put, List.setIfInBounds_toArray, List.set_cons_zero, List.set_cons_succ]
                    refine wpAnyN_one (i := 15) (by kernel_rfl) (by simp only [List.getElem?_toArray, List.getElem?_cons_succ, List.getElem?_cons_zero]; rfl) (fun K hK => ?_)
                    go_simp
                    refine hK _ _ ⟨fun h => (by cases h), ?_⟩
                    clear hK K
                    try simp only [Act.put, List.setIfInBounds_toArray, List.set_cons_zero, List.set_cons_succ]
                    refine wpAnyN_done (by kernel_rfl) ?_ _
                    clear e4 f4
                    go_wp2
                    go_roundw
                    case rel =>
                      refine ⟨i + 1, last, next, L.set k (xs ++ [nn]), by omega, rfl, by go_num, hla, hnx, hln, ?_, by rw [List.length_set]; exact hL.out.1, fun ys hy => ?_⟩
                      · have o5 := (O4.out.pick (L := [_, _, _, _, _, _, _]) [2, 0, 5, 3, 6]).store (j := k) (by have := (List.getElem?_eq_some_iff.1 HM.out.2.2.2).1; exact this) (.slice A4 (xs.length + 1) c4)
                        rw [Nat.zero_add] at o5
                        have o6 := Own.mat_back (L := L.map ints) (ys := ints (xs ++ [nn])) HVL.out (by rw [List.length_map]; exact (List.getElem?_eq_some_iff.1 hrow.out).1) (by rw [ints_append]; exact o5.pick (L := [_, _, _, _, _]) [1, 0, 2, 3, 4])
                        rw [show (L.map ints).set k (ints (xs ++ [nn])) = (L.set k (xs ++ [nn])).map ints by rw [List.map_set]] at o6
                        exact o6.pick (L := [_, _, _]) [2, 0]
                      · rcases List.mem_or_eq_of_mem_set hy with h | h
                        · exact hL.out.2 ys h
                        · rw [h, List.length_append, List.length_cons, List.length_nil]; omega
                    case measure => simp [intOf]; omega
                  case b12 =>
                    go_simp
                    have E2 := Lib.hid (E1.out.alloc #[.int .i64 nn] 3)
                    refine hK _ _ ⟨fun _ => HSF.out _ _ (E2.out.pick (L := [_, _, _, _]) [2, 3]), ?_⟩
                    clear hK K E1
                    try simp only [Act.put, List.setIfInBounds_toArray, List.set_cons_zero, List.set_cons_succ]
                    obtain ⟨W2, hWW2⟩ : ∃ x, W1.alloc (.cells #[.int .i64 nn] 3) = x := ⟨_, rfl⟩
                    obtain ⟨q3, hqq3⟩ : ∃ x, W1.heap.size = x := ⟨_, rfl⟩
                    rw [hWW2, hqq3] at E2
                    simp only [hWW2, hqq3]
                    clear hWW2 hqq3
                    refine wpAnyN_one (i := 9) (by kernel_rfl) (by simp only [List.getElem?_toArray, List.getElem?_cons_succ, List.getElem?_cons_zero]; rfl) (fun K hK => ?_)
                    refine step_append_move rfl (.tmp 105) (.tmp 110) 30 rfl 3 (.int .i64 0) 1 8 Try.underlying30 Try.info3 rfl (by decide) rfl (by simp) (E2.out.pick (L := [_, _, _, _, _, _, _]) [1, 0, 2, 3, 4, 5, 6]) (Below.refl _ _) Ax xs.length cx (ints xs) rfl (by rw [ints_length, Nat.mul_one]) (E2.out.pick (L := [_, _, _, _, _, _, _]) [4]).rd ints_one (by unfold maxLen; omega) (by omega) ?_
                    rintro A3 c3 W3 own3
                    rw [Nat.zero_add, List.nil_append] at own3
                    have E3 := Lib.hid own3
                    refine hK _ _ ⟨fun _ => HSF.out _ _ (own3.pick (L := [_, _, _, _]) [2, 3]), ?_⟩
                    clear hK K own3 E2
                    try simp only [Act.put, List.setIfInBounds_toArray, List.set_cons_zero, List.set_cons_succ]
                    refine wpAnyN_one (i := 13) (by kernel_rfl) (by simp only [List.getElem?_toArray, List.getElem?_cons_succ, List.getElem?_cons_zero]; rfl) (fun K hK => ?_)
                    refine step_append_move rfl (.tmp 111) (.tmp 114) 30 rfl 3 (.int .i64 0) 1 8 Try.underlying30 Try.info3 rfl (by decide) (by simp [Act.eval]) (by simp [ints]) E3.out (Below.refl _ _) _ 1 1 [.int .i64 nn] rfl rfl (rd_at _ _ _ ((E3.out.swap).blk_cell 0)) (ints_one (xs := [nn])) (by unfold maxLen; omega) (by omega) ?_
                    rintro A4 c4 w4 own4
                    have O4 := Lib.hid own4
                    obtain ⟨e4, f4⟩ := HM.out.2.1 _ _ (own4.pick (L := [_, _, _]) [2])
                    refine hK _ _ ⟨fun _ => HSF.out _ _ (own4.pick (L := [_, _, _, _]) [2, 3]), ?_⟩
                    clear hK K own4 E3 HS
                    try simp only [Act.put, List.setIfInBounds_toArray, List.set_cons_zero, List.set_cons_succ]
                    refine wpAnyN_one (i := 14) (by kernel_rfl) (by simp only [List.getElem?_toArray, List.getElem?_cons_succ, List.getElem?_cons_zero]; rfl) (fun K hK => ?_)
                    go_simp
                    refine hK _ _ ⟨fun h => (by cases h), ?_⟩
                    clear hK K
                    try simp only [Act.put, List.setIfInBounds_toArray, List.set_cons_zero, List.set_cons_succ]
                    refine wpAnyN_one (i := 15) (by kernel_rfl) (by simp only [List.getElem?_toArray, List.getElem?_cons_succ, List.getElem?_cons_zero]; rfl) (fun K hK => ?_)
                    go_simp
                    refine hK _ _ ⟨fun h => (by cases h), ?_⟩
                    clear hK K
                    try simp only [Act.put, List.setIfInBounds_toArray, List.set_cons_zero, List.set_cons_succ]
                    refine wpAnyN_done (by kernel_rfl) ?_ _
                    clear e4 f4
                    go_wp2
                    go_roundw
                    case rel =>
                      refine ⟨i + 1, last, next, L.set k (xs ++ [nn]), by omega, rfl, by go_num, hla, hnx, hln, ?_, by rw [List.length_set]; exact hL.out.1, fun ys hy => ?_⟩
                      · have o5 := (O4.out.pick (L := [_, _, _, _, _, _, _]) [2, 0, 5, 3, 6]).store (j := k) (by have := (List.getElem?_eq_some_iff.1 HM.out.2.2.2).1; exact this) (.slice A4 (xs.length + 1) c4)
                        rw [Nat.zero_add] at o5
                        have o6 := Own.mat_back (L := L.map ints) (ys := ints (xs ++ [nn])) HVL.out (by rw [List.length_map]; exact (List.getElem?_eq_some_iff.1 hrow.out).1) (by rw [ints_append]; exact o5.pick (L := [_, _, _, _, _]) [1, 0, 2, 3, 4])
                        rw [show (L.map ints).set k (ints (xs ++ [nn])) = (L.set k (xs ++ [nn])).map ints by rw [List.map_set]] at o6
                        exact o6.pick (L := [_, _, _]) [2, 0]
                      · rcases List.mem_or_eq_of_mem_set hy with h | h
                        · exact hL.out.2 ys h
                        · rw [h, List.length_append, List.length_cons, List.length_nil]; omega
                    case measure => simp [intOf]; omega
                case a12 =>
                  go_simp
                  have E1 := Lib.hid (O0.out.alloc #[.int .i64 nn] 3)
                  refine hK _ _ ⟨fun _ => HSF.out _ _ (E1.out.pick (L := [_, _, _]) [1, 2]), ?_⟩
                  clear hK K O0
                  try simp only [Act.put, List.setIfInBounds_toArray, List.set_cons_zero, List.set_cons_succ]
                  obtain ⟨W1, hWW1⟩ : ∃ x, W0.alloc (.cells #[.int .i64 nn] 3) = x := ⟨_, rfl⟩
                  obtain ⟨q3, hqq3⟩ : ∃ x, W0.heap.size = x := ⟨_, rfl⟩
                  rw [hWW1, hqq3] at E1
                  simp only [hWW1, hqq3]
                  clear hWW1 hqq3
                  refine wpAnyN_one (i := 3) (by kernel_rfl) (by simp only [List.getElem?_toArray, List.getElem?_cons_succ, List.getElem?_cons_zero]; rfl) (fun K hK => ?_)
                  go_simp
                  have E2 := Lib.hid (E1.out.emptyRow 3)
                  refine hK _ _ ⟨fun _ => HSF.out _ _ (E2.out.pick (L := [_, _, _, _]) [2, 3]), ?_⟩
                  clear hK K E1
                  try simp only [Act.put, List.setIfInBounds_toArray, List.set_cons_zero, List.set_cons_succ]
                  obtain ⟨W2, hWW2⟩ : ∃ x, W1.alloc (.cells #[] 3) = x := ⟨_, rfl⟩
                  obtain ⟨q1, hqq1⟩ : ∃ x, W1.heap.size = x := ⟨_, rfl⟩
                  rw [hWW2, hqq1] at E2
                  simp only [hWW2, hqq1]
                  clear hWW2 hqq1
                  refine wpAnyN_one (i := 9) (by kernel_rfl) (by simp only [List.getElem?_toArray, List.getElem?_cons_succ, List.getElem?_cons_zero]; rfl) (fun K hK => ?_)
                  refine step_append_move rfl (.tmp 105) (.tmp 110) 30 rfl 3 (.int .i64 0) 1 8 Try.underlying30 Try.info3 rfl (by decide) rfl (by simp) (E2.out.pick (L := [_, _, _, _, _, _, _]) [0, 1, 2, 3, 4, 5, 6]) (Below.refl _ _) Ax xs.length cx (ints xs) rfl (by rw [ints_length, Nat.mul_one]) (E2.out.pick (L := [_, _, _, _, _, _, _]) [4]).rd ints_one (by unfold maxLen; omega) (by omega) ?_
                  rintro A3 c3 W3 own3
                  rw [Nat.zero_add, List.nil_append] at own3
                  have E3 := Lib.hid own3
                  refine hK _ _ ⟨fun _ => HSF.out _ _ (own3.pick (L := [_, _, _, _]) [2, 3]), ?_⟩
                  clear hK K own3 E2
                  try simp only [Act.put, List.setIfInBounds_toArray, List.set_cons_zero, List.set_cons_succ]
                  refine wpAnyN_one (i := 13) (by kernel_rfl) (by simp only [List.getElem?_toArray, List.getElem?_cons_succ, List.getElem?_cons_zero]; rfl) (fun K hK => ?_)
                  refine step_append_move rfl (.tmp 111) (.tmp 114) 30 rfl 3 (.int .i64 0) 1 8 Try.underlying30 Try.info3 rfl (by decide) (by simp [Act.eval]) (by simp [ints]) E3.out (Below.refl _ _) _ 1 1 [.int .i64 nn] rfl rfl (rd_at _ _ _ ((E3.out.swap).blk_cell 0)) (ints_one (xs := [nn])) (by unfold maxLen; omega) (by omega) ?_
                  rintro A4 c4 w4 own4
                  have O4 := Lib.hid own4
                  obtain ⟨e4, f4⟩ := HM.out.2.1 _ _ (own4.pick (L := [_, _, _]) [2])
                  refine hK _ _ ⟨fun _ => HSF.out _ _ (own4.pick (L := [_, _, _, _]) [2, 3]), ?_⟩
                  clear hK K own4 E3 HS
                  try simp only [Act.put, List.setIfInBounds_toArray, List.set_cons_zero, List.set_cons_succ]
                  refine wpAnyN_one (i := 14) (by kernel_rfl) (by simp only [List.getElem?_toArray, List.getElem?_cons_succ, List.getElem?_cons_zero]; rfl) (fun K hK => ?_)
                  go_simp
                  refine hK _ _ ⟨fun h => (by cases h), ?_⟩
                  clear hK K
                  try simp only [Act.put, List.setIfInBounds_toArray, List.set_cons_zero, List.set_cons_succ]
                  refine wpAnyN_one (i := 15) (by kernel_rfl) (by simp only [List.getElem?_toArray, List.getElem?_cons_succ, List.getElem?_cons_zero]; rfl) (fun K hK => ?_)
                  go_simp
                  refine hK _ _ ⟨fun h => (by cases h), ?_⟩
                  clear hK K
                  try simp only [Act.put, List.setIfInBounds_toArray, List.set_cons_zero, List.set_cons_succ]
                  refine wpAnyN_done (by kernel_rfl) ?_ _
                  clear e4 f4
                  go_wp2
                  go_roundw
                  case rel =>
                    refine ⟨i + 1, last, next, L.set k (xs ++ [nn]), by omega, rfl, by go_num, hla, hnx, hln, ?_, by rw [List.length_set]; exact hL.out.1, fun ys hy => ?_⟩
                    · have o5 := (O4.out.pick (L := [_, _, _, _, _, _, _]) [2, 0, 5, 3, 6]).store (j := k) (by have := (List.getElem?_eq_some_iff.1 HM.out.2.2.2).1; exact this) (.slice A4 (xs.length + 1) c4)
                      rw [Nat.zero_add] at o5
                      have o6 := Own.mat_back (L := L.map ints) (ys := ints (xs ++ [nn])) HVL.out (by rw [List.length_map]; exact (List.getElem?_eq_some_iff.1 hrow.out).1) (by rw [ints_append]; exact o5.pick (L := [_, _, _, _, _]) [1, 0, 2, 3, 4])
                      rw [show (L.map ints).set k (ints (xs ++ [nn])) = (L.set k (xs ++ [nn])).map ints by rw [List.map_set]] at o6
                      exact o6.pick (L := [_, _, _]) [2, 0]
                    · rcases List.mem_or_eq_of_mem_set hy with h | h
                      · exact hL.out.2 ys h
                      · rw [h, List.length_append, List.length_cons, List.length_nil]; omega
                  case measure => simp [intOf]; omega
              · have q2 : (xs.length : Int) = R := by omega
                have sp : ∀ W, SpecAt Try.prog 13 #[.pointer (some ⟨g, 0, none⟩), .int .i64 k, .int .i64 nn] W (SP.lanesi g next R L) fun e A' => e = .returned (.bool false) ∧ A' = SP.lanesi g next R L := fun W => by
                  have := lputi_in W g next R L k xs nn hxs (by omega) hR3 hxR
                  rw [show decide ((xs.length : Int) < R) = false by simpa using q1, if_neg q1] at this
                  rwa [set_same hxs] at this
                have Sp := Lib.hid sp
                clear sp hxs ownM hcell hback q2
                go_wp2_with fail
                refine (SpecAt.use (Sp.out _) HO.out).mono ?_
                rintro e wB ⟨A', ⟨rfl, rfl⟩, ownB, -⟩
                have HB := Lib.hid ownB
                clear ownB d0 d1 d2 e1 f1
                go_wp2
                go_roundw
                case rel => exact ⟨i + 1, last, next, L, by omega, rfl, by go_num, hla, hnx, hln, HB.out, hL.out⟩
                case measure => simp [intOf]; omega
          · have hk' : (kd == 0) = false := by simp [hk0]
            clear hk0
            have hKL := hL.out.1
            have HKL := Lib.hid hKL
            clear hKL
            have HX64 := Lib.hid (show ∀ xs, xs ∈ L → xs.length ≤ 64 from fun xs h => by have := hL.out.2 xs h; omega)
            have HE := Lib.hid (scan_next (L := L) hln)
            have hK0 : ¬ ((K : Int) = 0) := by omega
            go_wp2
            go_loopw [15, 16] (fun ta tk wx => ∃ (k : Nat) (at_ : Int), 1 ≤ k ∧ k ≤ K + 1 ∧ ta = .int .i64 at_ ∧ tk = .int .i64 k ∧ -1 ≤ at_ ∧ at_ < (K : Int) ∧ wx = wo ∧ Hid (Scan L K last k at_)) (fun ta tk _ => K + 1 - (intOf tk).toNat)
            case atStart => exact ⟨1, -1, Nat.le_refl _, by omega, rfl, rfl, by omega, by omega, rfl, .inl ⟨rfl, fun i hi => by omega⟩⟩
            case round =>
              obtain ⟨k, at_, hk1, hk2, rfl, rfl, hat1, hat2, hwx, hsc⟩ := hrel
              subst hwx
              by_cases hat : at_ < 0
              · obtain rfl : at_ = -1 := by omega
                by_cases hkK : k ≤ K
                · have j1 : (k : Int) ≤ (K : Int) := by omega
                  obtain ⟨m, hm⟩ : ∃ m, (last + k) % K = m := ⟨_, rfl⟩
                  have hmK : m < K := by rw [← hm]; exact Nat.mod_lt _ (by omega)
                  have hmod : Int.tmod ((last : Int) + (k : Int)) (K : Int) = (m : Int) := by rw [Int.tmod_eq_emod_of_nonneg (by omega), ← hm]; norm_cast
                  obtain ⟨xs, hxs⟩ : ∃ xs, L[m]? = some xs := ⟨_, List.getElem?_eq_getElem (by rw [HKL.out]; exact hmK)⟩
                  obtain ⟨Am, cm, hcell, -, -, -⟩ := (HN.out.front 2 rfl).mat_rd (k := m) (xs := ints xs) (by rw [List.getElem?_map, hxs]; rfl)
                  rw [ints_length, Nat.zero_add] at hcell
                  have q1 : (m : Int) < (K : Int) := by omega
                  have HM := Lib.hid (And.intro hm hxs)
                  obtain ⟨n, hn⟩ : ∃ n, xs.length = n := ⟨_, rfl⟩
                  rw [hn] at hcell
                  have HNn := Lib.hid hn
                  clear hm hxs hat hat1 hat2 hn
                  by_cases h0 : 0 < n
                  · have g1 : (0 : Int) < (n : Int) := by omega
                    have HSC := Lib.hid (show Scan L K last (k + 1) (m : Int) from scan_hit hsc.out hk1 HM.out.1 HM.out.2 (by rw [HNn.out]; exact h0))
                    clear hsc
                    go_wp2
                    go_roundw
                    case rel => exact ⟨k + 1, m, by omega, by omega, rfl, by go_num, by omega, by omega, trivial, HSC⟩
                    case measure => simp [intOf]; omega
                  · obtain rfl : n = 0 := by omega
                    have HSC := Lib.hid (show Scan L K last (k + 1) (-1) from scan_miss hsc.out hk1 HM.out.1 HM.out.2 HNn.out)
                    clear hsc
                    go_wp2
                    go_roundw
                    case rel => exact ⟨k + 1, -1, by omega, by omega, rfl, by go_num, by omega, by omega, trivial, HSC⟩
                    case measure => simp [intOf]; omega
                · have j1 : ¬ (k : Int) ≤ (K : Int) := by omega
                  obtain rfl : k = K + 1 := by omega
                  have HA := Lib.hid (scan_none hsc.out)
                  have hT := fun W => ltakei_spec W g next R L (by rw [HKL.out]; omega) (by rw [HKL.out]; omega) (by rw [HKL.out]; omega) HX64.out
                  have HT := Lib.hid hT
                  clear hsc hT
                  go_wp2_with fail
                  refine (SpecAt.use (HT.out _) HO.out).mono ?_
                  rintro e wB ⟨A', hpost, ownB, -⟩
                  rcases hpost with ⟨j, x, r, hj, hno, hx, rfl, rfl⟩ | ⟨hno, rfl, rfl⟩
                  · exfalso
                    have h1 := HE.out j
                    rw [HKL.out] at hx hj
                    have h2 := HA.out j hj
                    rw [h1, h2] at hx
                    cases hx
                  · have HB := Lib.hid ownB
                    clear ownB d0 d1 d2 hno
                    go_wp2
                    go_roundw
                    case rel => exact ⟨i + 1, last, next, L, by omega, rfl, by go_num, hla, hnx, hln, HB.out, hL.out⟩
                    case measure => simp [intOf]; omega
              · obtain ⟨a, rfl⟩ := Int.eq_ofNat_of_zero_le (show 0 ≤ at_ by omega)
                obtain ⟨j, x, r, ha, hx, hjk, hno⟩ := scan_found hsc.out
                rw [← ha] at hx
                have haK : a < K := by omega
                have ha1 : (a : Int) < (K : Int) := by omega
                have hrl : r.length < 64 := by have := hL.out.2 _ (List.mem_of_getElem? hx); rw [List.length_cons] at this; omega
                have hT : ∀ W, SpecAt Try.prog 14 #[.pointer (some ⟨g, 0, none⟩)] W (SP.lanesi g next R L) fun e A' => e = .returned (.tuple #[.int .i64 (a : Nat), Value.int .i64 x, .bool true]) ∧ A' = SP.lanesi g ((a + 1 : Nat) : Int) R (L.set a r) := fun W S hA hlt => by
                  refine (ltakei_spec W g next R L (by rw [HKL.out]; omega) (by rw [HKL.out]; omega) (by rw [HKL.out]; omega) HX64.out S hA hlt).mono ?_
                  rintro e w' ⟨A', hpost, h2⟩
                  refine ⟨A', ?_, h2⟩
                  rcases hpost with ⟨j', x', r', hj', hno', hx', he, hA'⟩ | ⟨hno', -, -⟩
                  · rw [HKL.out] at hj' hx' he hA'
                    have hjj : j' = j := by
                      rcases Nat.lt_trichotomy j' j with h | h | h
                      · have h1 := hno j' h
                        have h2 := HE.out j'
                        rw [HKL.out] at hno'
                        rw [h2, h1] at hx'; cases hx'
                      · exact h
                      · have h1 := hno' j h
                        rw [HKL.out] at h1
                        have h2 := HE.out j
                        rw [h2, ← ha, hx] at h1; cases h1
                    subst hjj
                    have h3 : (next + j') % K = a := by
                      rcases hln with e | ⟨e1, e2⟩
                      · rw [e, ha]
                      · rw [e1, Nat.zero_add, ha, e2, Nat.add_mod_left]
                    rw [h3] at hx' he hA'
                    rw [hx] at hx'
                    cases hx'
                    exact ⟨he, hA'⟩
                  · exfalso
                    have hjK : j < K := by omega
                    have h1 := hno' j (by rw [HKL.out]; exact hjK)
                    rw [HKL.out] at h1
                    rw [HE.out j, ← ha, hx] at h1; cases h1
                have HT := Lib.hid hT
                have HXX := Lib.hid hx
                clear hT hno ha hx hsc hjk
                have hak : ((a : Int) == (a : Int)) = true := by simp
                have hne1 : ((a : Int) != (a : Int)) = false := by simp
                have hne2 : ((x : Int) != x) = false := by simp
                have hat3 : ¬ (a : Int) < 0 := by omega
                by_cases hkK : (k : Int) ≤ (K : Int)
                all_goals
                  go_wp2_with fail
                  refine (SpecAt.use (HT.out _) HO.out).mono ?_
                  rintro e wB ⟨A', ⟨rfl, rfl⟩, ownB, -⟩
                  obtain ⟨vs, Ax, cx, hvl, hxc, hcm, hvk, ownM, -⟩ := (ownB.swap).mat_at (k := a) (xs := ints (x :: r)) (by rw [List.getElem?_map, HXX.out]; rfl)
                  rw [ints_length] at hvk ownM hxc
                  have HVL := Lib.hid hvl
                  obtain ⟨_, _, z0, b1, b2⟩ := ownM.swap.cell hvk
                  cases z0
                  obtain ⟨gr, orr, rfl, b3, -⟩ := ownM.cell (j := 0) (u := .int .i64 x) rfl
                  rw [Nat.zero_add] at b1 b2
                  rw [Nat.add_zero] at b3
                  obtain ⟨rl, hrl2⟩ : ∃ rl, r.length = rl := ⟨_, rfl⟩
                  have hx1 : (x :: r).length = rl + 1 := by rw [List.length_cons, hrl2]
                  rw [hx1] at b1 ownM hxc
                  have O1 := ownM.cutLit (k := 1) (by omega) hxc (by rw [ints_length, hx1])
                  have hal : a < vs.length := (List.getElem?_eq_some_iff.1 hvk).1
                  have HRL := Lib.hid hrl2
                  have HAL := Lib.hid hal
                  have H1 := Lib.hid O1
                  clear hvl ownB ownM O1 hrl2 hx1 d0 d1 d2 hvk hal
                  unfold maxLen at hcm
                  by_cases hcx : cx = 1
                  · subst hcx
                    go_wp2
                    go_roundw
                    case rel =>
                      refine ⟨i + 1, a, a + 1, L.set a r, by omega, rfl, by go_num, haK, by omega, .inl rfl, ?_, by rw [List.length_set]; exact HKL.out, fun ys hy => ?_⟩
                      · have o1 := H1.out
                        obtain rfl : rl = 0 := by omega
                        rw [if_pos trivial] at o1
                        have o5 := (o1.swap).store (j := a) HAL.out (.slice (some ⟨gr, orr, none⟩) (0 + 1 - 1) (1 - 1))
                        rw [Nat.zero_add] at o5
                        have o6 := Own.mat_back (L := L.map ints) (ys := ints r) HVL.out (by rw [List.length_map, HKL.out]; exact haK) (o5.pick (L := [_, _, _, _]) [1, 0, 2, 3])
                        rw [show (L.map ints).set a (ints r) = (L.set a r).map ints by rw [List.map_set]] at o6
                        exact o6.swap
                      · rcases List.mem_or_eq_of_mem_set hy with h | h
                        · exact hL.out.2 ys h
                        · have := hL.out.2 _ (List.mem_of_getElem? HXX.out); rw [List.length_cons] at this; rw [h]; omega
                    case measure => simp [intOf]; omega
                  · go_wp2
                    go_roundw
                    case rel =>
                      refine ⟨i + 1, a, a + 1, L.set a r, by omega, rfl, by go_num, haK, by omega, .inl rfl, ?_, by rw [List.length_set]; exact HKL.out, fun ys hy => ?_⟩
                      · have o1 := H1.out
                        rw [if_neg hcx] at o1
                        have o5 := (o1.swap).store (j := a) HAL.out (.slice (some ⟨gr, orr + 1, none⟩) (rl + 1 - 1) (cx - 1))
                        rw [Nat.zero_add] at o5
                        have o6 := Own.mat_back (L := L.map ints) (ys := ints r) HVL.out (by rw [List.length_map, HKL.out]; exact haK) (o5.pick (L := [_, _, _, _]) [1, 0, 2, 3])
                        rw [show (L.map ints).set a (ints r) = (L.set a r).map ints by rw [List.map_set]] at o6
                        exact o6.swap
                      · rcases List.mem_or_eq_of_mem_set hy with h | h
                        · exact hL.out.2 ys h
                        · have := hL.out.2 _ (List.mem_of_getElem? HXX.out); rw [List.length_cons] at this; rw [h]; omega
                    case measure => simp [intOf]; omega
        · obtain rfl : i = ops.length := by omega
          have i1 : ¬ (ops.length : Int) < (ops.length : Int) := by omega
          have HR := Lib.hid (fun W => rest_spec W g next mb K R L hL.out.1 hK3 (fun xs h => by have := hL.out.2 xs h; omega))
          have Ho := Lib.hid (Own.unflat (L := [_, _]) hown)
          clear hown
          go_wp2_with fail
          refine (SpecAt.use (HR.out _) Ho.out).mono ?_
          rintro e wB ⟨A', ⟨rfl, rfl⟩, ownB, -⟩
          have HB := Lib.hid (Hb.out.1.trans (ownB.below.mono Hb.out.1.size))
          clear ownB
          go_wp2
          go_ret
          exact ⟨rfl, HB.out⟩
    · go_enter Try.func8, Try.ntmps8
      go_wp2_with fail
      refine (hf.out).mono ?_
      rintro e w1 ⟨rfl, hb1⟩
      have o0 := Own.start w1
      go_wp2_with fail
      refine (SpecAt.use (lnewi_yes w1 K R ⟨by omega, by omega⟩ ⟨hR2, hR3⟩) o0.emp).mono ?_
      rintro e w2 ⟨A', ⟨g, rfl, rfl⟩, o1, -⟩
      have Hb := Lib.hid (hb1.trans (o1.below.mono hb1.size))
      clear hb1 o0 o1
      go_wp2
      go_ret
      exact ⟨rfl, Hb.out⟩
  · have hn := Lib.hid (fun W => lnewi_no W lanes R hgood)
    have hsplit : ¬ 1 ≤ lanes ∨ (1 ≤ lanes ∧ ¬ lanes ≤ 64) ∨ (1 ≤ lanes ∧ lanes ≤ 64 ∧ ¬ 1 ≤ R) ∨ (1 ≤ lanes ∧ lanes ≤ 64 ∧ 1 ≤ R ∧ ¬ R ≤ 64) := by omega
    clear hgood
    rcases hsplit with h1 | ⟨h1, h2⟩ | ⟨h1, h2, h3⟩ | ⟨h1, h2, h3, h4⟩
    all_goals
      go_enter Try.func8, Try.ntmps8
      go_wp2_with fail
      refine (hf.out).mono ?_
      rintro e w1 ⟨rfl, hb1⟩
      go_wp2_with fail
      refine (hn.out _).mono ?_
      rintro e w2 ⟨rfl, rfl⟩
      have Hb := Lib.hid hb1
      clear hb1
      go_wp2
      go_ret
      exact ⟨rfl, Hb.out⟩
end Go.Proofs.Ytbncicfbgfmekaa

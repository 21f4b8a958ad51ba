/-
  FrameLong as a call: it returns true, and what was there stays.
  Conditions: the bytes lie in memory as they were handed in.
-/
import Derived.Test.YtonomljdljcmaaaPure
namespace Go.Proofs.Ytonomljdljcmaaa
set_option linter.unusedVariables false
set_option linter.unusedSimpArgs false
open Go.RowKit

theorem readsU_two {S : Nat → Prop} {w0 : World} {R : List SP} {q : Nat} {A P : Option Addr} {c n : Nat} {b p : List UInt8} (hn : p.length = n) (hc : b.length ≤ c) (hc2 : c ≤ maxLen) (hn2 : n ≤ maxLen) (hb : Reads S w0 R A b) :
    ReadsU S w0 (SP.blk q 22 #[.slice A b.length c, .slice P n n] :: SP.row 5 1 (.slice P n n) (bts p) :: R) (some ⟨q, 0, none⟩) [b, p] := fun k x hx => by
  subst hn
  rcases k with _ | _ | k
  · simp at hx; subst hx
    refine ⟨q, 0, A, c, rfl, hc, hc2, fun W X hX => ?_⟩
    have h1 := (hX.perm List.perm_append_comm).blk_cell 0
    exact ⟨by simpa using h1, hb W (X ++ [_, _]) (by simpa using hX)⟩
  · simp at hx; subst hx
    refine ⟨q, 0, P, p.length, rfl, Nat.le_refl _, hn2, fun W X hX => ?_⟩
    have h1 := (hX.perm List.perm_append_comm).blk_cell 1
    exact ⟨by simpa using h1, (hX.perm List.perm_append_comm).swap.rd⟩
  · simp at hx
def headL (m : Nat) : List UInt8 := [UInt8.ofNat (1 + m * 7), 0, 16, UInt8.ofNat m]
theorem headL_length (m : Nat) : (headL m).length = 4 := rfl
theorem head_long (m : Nat) (hm : m ≤ 2) (b : List UInt8) : gE (headL m ++ b) 0 = 3 ∧ gP (headL m ++ b) 0 = [] ∧ gN (headL m ++ b) 0 = 0 := by
  have hr : readN ((headL m ++ b)) = 1 + m * 7 + 16 * 65536 + m * 16777216 := by
    simp only [headL, readN, List.cons_append, List.nil_append, List.getD_cons_zero, List.getD_cons_succ, UInt8.toNat_ofNat']
    have h1 : (0 : UInt8).toNat = 0 := rfl
    have h2 : (16 : UInt8).toNat = 16 := rfl
    rw [h1, h2]
    omega
  have he : gE (headL m ++ b) 0 = 3 := by
    rw [gE, if_pos (by simp only [List.length_append, headL_length]; omega)]
    show getErr ((headL m ++ b).drop 0) = 3
    rw [List.drop_zero]
    unfold getErr
    rw [hr, if_neg (by simp only [List.length_append, headL_length]; omega), if_pos (by omega)]
  exact ⟨he, by rw [gP, if_neg (by rw [he]; decide)], by rw [gN, if_neg (by rw [he]; decide)]⟩

theorem bts_head (m : Nat) (hm : m ≤ 2) : bts (headL m) = [.int .u8 (1 + (m : Int) * 7), .int .u8 0, .int .u8 16, .int .u8 (m : Int)] := by
  have e1 : ((UInt8.ofNat (1 + m * 7)).toNat : Int) = 1 + (m : Int) * 7 := by rw [UInt8.toNat_ofNat']; omega
  have e2 : ((UInt8.ofNat m).toNat : Int) = (m : Int) := by rw [UInt8.toNat_ofNat']; omega
  simp only [headL, bts, List.map_cons, List.map_nil, byteV, e1, e2]
  rfl
theorem Own.newRow {S : Nat → Prop} {w0 w : World} {R : List SP} (h : Own S w0 w R) (cs : Array Value) (e : TypeId) (n : Nat) (hn : cs.size = n) (hm : n ≤ maxLen) : Own S w0 (w.alloc (.cells cs e)) (SP.row e 1 (.slice (some ⟨w.heap.size, 0, none⟩) n n) cs.toList :: R) :=
  h.gain ((Below.refl _ _).alloc (Nat.le_refl _) _) (SP.row_new w e 1 n cs (by omega) hm (S := fun k => w.heap.size ≤ k ∧ k < (w.alloc (.cells cs e)).heap.size) ⟨Nat.le_refl _, by simp⟩)
theorem bts_zero (n : Nat) : bts (List.replicate n 0) = List.replicate n (.int .u8 0) := by simp [bts, byteV]

set_option maxRecDepth 100000 in
set_option maxHeartbeats 8000000 in
theorem long_calls (w : World) (a : Int) (A : Option Addr) (c : Nat) (b : List UInt8) (hb : Rd w A (bts b)) (hcap : b.length ≤ c) (hcap2 : c ≤ maxLen) (hlen : b.length ≤ 140737488351232) :
    Calls Try.prog 9 #[.int .i64 a, .slice A b.length c] w fun e w' => e = .returned (.bool true) ∧ Below w.heap.size w w' := by
  have hf := Lib.hid (first_calls w)
  have HB := Lib.hid (And.intro hb (And.intro hcap hcap2))
  have hcap3 : c ≤ 9223372036854775807 := by unfold maxLen at hcap2; exact hcap2
  clear hb hcap2
  by_cases hbig : 4000 < b.length
  · have hb' : (4000 : Int) < (b.length : Int) := by omega
    go_enter Try.func9, Try.ntmps9
    go_wp2_with fail
    refine (hf.out).mono ?_
    rintro e w1 ⟨rfl, hb1⟩
    go_wp2
    go_ret
    exact ⟨rfl, hb1⟩
  · have hb' : ¬ (4000 : Int) < (b.length : Int) := by omega
    obtain ⟨r, hr⟩ : ∃ r, Int.tmod a 3 = r := ⟨_, rfl⟩
    have hr1 : -3 < r ∧ r < 3 := by
      rw [← hr]
      exact ⟨Int.lt_tmod_of_pos a (by omega), Int.tmod_lt_of_pos a (by omega)⟩
    obtain ⟨hr2, hr3⟩ := hr1
    have hk1 := Int.emod_nonneg (r + 3) (show (3 : Int) ≠ 0 by omega)
    have hk2 := Int.emod_lt_of_pos (r + 3) (show (0 : Int) < 3 by omega)
    obtain ⟨m, hm⟩ := Int.eq_ofNat_of_zero_le hk1
    rw [hm] at hk2
    have hm2 : m ≤ 2 := by omega
    clear hk1 hk2
    obtain ⟨n, hn⟩ : ∃ n, 1048575 + m = n := ⟨_, rfl⟩
    have hmk := fun W => run_make_n (P := Try.prog) 22 5 (.int .u8 0) 1 Try.underlying22 Try.info5 rfl n (by omega) (by omega) W
    have hni : (n : Int) = 1048576 + ((m : Int) - 1) := by omega
    rw [hni] at hmk
    have HN := Lib.hid (And.intro hn hni)
    have hnb : n ≤ 1048577 := by omega
    clear hn hni
    go_enter Try.func9, Try.ntmps9
    go_wp2_with fail
    refine (hf.out).mono ?_
    rintro e w1 ⟨rfl, hb1⟩
    have Hb1 := Lib.hid hb1
    have HR := Lib.hid (reads_arg (R := []) (HB.out.1.below hb1))
    clear hb1
    go_wp2_with fail
    obtain ⟨p, hp⟩ : ∃ p : List UInt8, List.replicate n 0 = p := ⟨_, rfl⟩
    have hpl : p.length = n := by rw [← hp, List.length_replicate]
    have o0 := (Own.start w1).made 5 n (.int .u8 0) (by unfold maxLen; omega)
    rw [← bts_zero, hp] at o0
    obtain ⟨q, hq⟩ : ∃ q, w1.heap.size = q := ⟨_, rfl⟩
    obtain ⟨w2, hw2⟩ : ∃ w2, w1.alloc (.cells (Array.replicate n (.int .u8 0)) 5) = w2 := ⟨_, rfl⟩
    rw [hq, hw2] at o0
    simp only [hq, hw2]
    have O0 := Lib.hid o0
    have HP := Lib.hid hpl
    clear o0 hp hq hw2 hmk hpl
    by_cases hlong : m ≤ 1
    · have hn6 : n ≤ 1048576 := by have := HN.out.1; omega
      have hpo := put_own (B := some ⟨q, 0, none⟩) (cb := n) (p := p) O0.out (Reads.row (b := p)) (by rw [HP.out]; omega)
      rw [frameB_length, HP.out] at hpo
      have HPo := Lib.hid hpo
      clear hpo
      refine (HPo.out).mono ?_
      rintro e w3 ⟨A1, c1, rfl, own1⟩
      have hc1 := own1.row_le (by decide) (by rw [bts_length, frameB_length, HP.out, Nat.mul_one])
      have HC1 := Lib.hid hc1
      have O1 := Lib.hid ((own1.alloc #[.slice A b.length c, .slice (some ⟨q, 0, none⟩) n n] 22).pick (L := [_, _, _]) [0, 2, 1])
      clear own1 hc1 HPo
      have HJ := Lib.hid (join_own (c := 2) (L := [b, p]) O1.out (readsU_two HP.out HB.out.2.1 HB.out.2.2 (by unfold maxLen; omega) (Reads.more HR.out [_])) (by simp) (fun x hx => by
        simp at hx
        rcases hx with rfl | rfl
        · omega
        · rw [HP.out]; omega))
      have hfit : allFit [b, p] := fun x hx => by
        simp at hx
        rcases hx with rfl | rfl
        · omega
        · rw [HP.out]; omega
      have HFit := Lib.hid hfit
      clear hfit
      go_wp2_with fail
      refine (HJ.out).mono ?_
      rintro e w4 (⟨-, A2, c2, rfl, own2⟩ | ⟨hno, -⟩)
      · have O2 := Lib.hid (own2.pick (L := [_, _, _, _]) [3])
        clear own2 HJ
        have hone := one_any (b := frameB p) (cb := c1) O2.out (Reads.row (b := frameB p)) (by rw [frameB_length, HP.out]; exact HC1.out.1) (by have h := HC1.out.2; unfold maxLen at h; exact h) (by rw [frameB_length, HP.out]; omega)
        have hof := one_frame p (by rw [HP.out]; omega)
        rw [hof.1, hof.2, frameB_length, HP.out] at hone
        have HO := Lib.hid hone
        clear hone hof
        have hl1 : ¬ (0 : Int) < (m : Int) - 1 := by omega
        go_wp2_with fail
        refine (HO.out).mono ?_
        rintro e w5 ⟨A3, c3, he3, own3⟩
        rw [HP.out] at he3 own3
        subst he3
        have O3 := Lib.hid own3
        clear own3 HO
        have h4 := (O3.out.newRow #[.int .u8 (1 + (m : Int) * 7), .int .u8 0, .int .u8 16, .int .u8 (m : Int)] 5 4 rfl (by unfold maxLen; omega))
        have hbh := bts_head m hm2
        rw [show (#[Value.int .u8 (1 + (m : Int) * 7), .int .u8 0, .int .u8 16, .int .u8 (m : Int)] : Array Value).toList = bts (headL m) from hbh.symm] at h4
        obtain ⟨T, hr5, -, hback⟩ := h4.open
        have G := Lib.hid (And.intro hr5 (And.intro hback (HR.out _ [_, _, _] h4)))
        clear hr5 hback h4 hbh
        go_wp2_with (at_builtin; refine wpList_append_row rfl (.tmp 66) (.tmp 67) 22 rfl 5 (.int .u8 0) 1 1 Try.underlying22 Try.info5 rfl (by decide) rfl rfl G.out.1 A b.length c (bts b) rfl (by rw [bts_length, Nat.mul_one]) G.out.2.2 bts_one (by unfold maxLen; omega) (by omega) ?_)
        rintro A5 c5 w6 - hk5 hr5
        have h5 := G.out.2.1 _ _ hk5 hr5
        rw [← bts_append] at h5
        have hc5 := h5.row_le (by decide) (by rw [bts_length, List.length_append, headL_length, Nat.mul_one])
        have hlh : (headL m ++ b).length = 4 + b.length := by rw [List.length_append, headL_length]
        have hgt := get_any (b := headL m ++ b) (cb := c5) 0 h5 (Reads.row (b := headL m ++ b)) (by rw [hlh]; exact hc5.1) (by have h := hc5.2; unfold maxLen at h; exact h) (by rw [hlh]; omega) (by omega)
        have hhl := head_long m hm2 b
        rw [hhl.1, hhl.2.1, hhl.2.2, hlh] at hgt
        have HG := Lib.hid hgt
        clear hk5 hr5 h5 hc5 hlh hgt hhl G
        go_wp2_with fail
        refine (HG.out).mono ?_
        rintro e w7 ⟨A6, c6, rfl, own6⟩
        have OF := Lib.hid own6
        clear own6 HG
        have y1 : ((8 + (n : Int)) == ((n : Int) + 8)) = true := by simp; omega
        have y2 : ((n : Int) == (n : Int)) = true := by simp
        have y3 : ((8 + (n : Int)) == (n : Int) + 8) = true := by simp; omega
        go_wp2_with fail
        refine (num_calls _ _).mono ?_
        rintro e w' ⟨rfl, rfl⟩
        go_wp2_with fail
        refine (num_calls _ _).mono ?_
        rintro e w' ⟨rfl, rfl⟩
        go_wp2_with fail
        refine (num_calls _ _).mono ?_
        rintro e w' ⟨rfl, rfl⟩
        go_wp2_with fail
        refine (num_calls _ _).mono ?_
        rintro e w' ⟨rfl, rfl⟩
        go_wp2
        go_ret
        exact ⟨rfl, Hb1.out.trans (OF.out.below.mono Hb1.out.size)⟩
      · exact absurd HFit.out hno
    · have hm2' : m = 2 := by omega
      have hn6 : 1048576 < n := by have := HN.out.1; omega
      have HPo := Lib.hid (put_long (w := w2) (B := some ⟨q, 0, none⟩) (cb := n) hn6 (by omega))
      have HM2 := Lib.hid hm2'
      clear hm2' hlong
      refine (HPo.out).mono ?_
      rintro e w3 ⟨rfl, rfl⟩
      have O1 := Lib.hid (O0.out.alloc #[.slice A b.length c, .slice (some ⟨q, 0, none⟩) n n] 22)
      have HJ := Lib.hid (join_own (c := 2) (L := [b, p]) O1.out (readsU_two HP.out HB.out.2.1 HB.out.2.2 (by unfold maxLen; omega) HR.out) (by simp) (fun x hx => by
        simp at hx
        rcases hx with rfl | rfl
        · omega
        · rw [HP.out]; omega))
      have hno : ¬ allFit [b, p] := fun hf => by
        have := hf p (by simp)
        rw [HP.out] at this
        omega
      have HNo := Lib.hid hno
      clear hno HPo
      go_wp2_with fail
      refine (HJ.out).mono ?_
      rintro e w4 (⟨hfit, -⟩ | ⟨-, rfl, own2⟩)
      · exact absurd hfit HNo.out
      · have O3 := Lib.hid (own2.pick (L := [_, _]) [1])
        clear own2 HJ
        have hl1 : (0 : Int) < (m : Int) - 1 := by have := HM2.out; omega
        have hl2 : (1 : Int) < (m : Int) := by omega
        go_wp2_with fail
        refine (one_short (by decide)).mono ?_
        rintro e w' ⟨rfl, rfl⟩
        have h4 := (O3.out.newRow #[.int .u8 (1 + (m : Int) * 7), .int .u8 0, .int .u8 16, .int .u8 (m : Int)] 5 4 rfl (by unfold maxLen; omega))
        have hbh := bts_head m hm2
        rw [show (#[Value.int .u8 (1 + (m : Int) * 7), .int .u8 0, .int .u8 16, .int .u8 (m : Int)] : Array Value).toList = bts (headL m) from hbh.symm] at h4
        obtain ⟨T, hr5, -, hback⟩ := h4.open
        have G := Lib.hid (And.intro hr5 (And.intro hback (HR.out _ [_, _] h4)))
        clear hr5 hback h4 hbh
        go_wp2_with (at_builtin; refine wpList_append_row rfl (.tmp 66) (.tmp 67) 22 rfl 5 (.int .u8 0) 1 1 Try.underlying22 Try.info5 rfl (by decide) rfl rfl G.out.1 A b.length c (bts b) rfl (by rw [bts_length, Nat.mul_one]) G.out.2.2 bts_one (by unfold maxLen; omega) (by omega) ?_)
        rintro A5 c5 w6 - hk5 hr5
        have h5 := G.out.2.1 _ _ hk5 hr5
        rw [← bts_append] at h5
        have hc5 := h5.row_le (by decide) (by rw [bts_length, List.length_append, headL_length, Nat.mul_one])
        have hlh : (headL m ++ b).length = 4 + b.length := by rw [List.length_append, headL_length]
        have hgt := get_any (b := headL m ++ b) (cb := c5) 0 h5 (Reads.row (b := headL m ++ b)) (by rw [hlh]; exact hc5.1) (by have h := hc5.2; unfold maxLen at h; exact h) (by rw [hlh]; omega) (by omega)
        have hhl := head_long m hm2 b
        rw [hhl.1, hhl.2.1, hhl.2.2, hlh] at hgt
        have HG := Lib.hid hgt
        clear hk5 hr5 h5 hc5 hlh hgt hhl G
        go_wp2_with fail
        refine (HG.out).mono ?_
        rintro e w7 ⟨A6, c6, rfl, own6⟩
        have OF := Lib.hid own6
        clear own6 HG
        go_wp2_with fail
        refine (num_calls _ _).mono ?_
        rintro e w' ⟨rfl, rfl⟩
        go_wp2_with fail
        refine (num_calls _ _).mono ?_
        rintro e w' ⟨rfl, rfl⟩
        go_wp2_with fail
        refine (num_calls _ _).mono ?_
        rintro e w' ⟨rfl, rfl⟩
        go_wp2
        go_ret
        exact ⟨rfl, Hb1.out.trans (OF.out.below.mono Hb1.out.size)⟩
end Go.Proofs.Ytonomljdljcmaaa

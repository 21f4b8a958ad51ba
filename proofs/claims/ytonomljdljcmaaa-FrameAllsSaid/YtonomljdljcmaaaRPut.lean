/-
  The document's Put.
  Conditions: the payload can be read in whatever world comes while no memory of its is turned.
-/
import Derived.Test.YtonomljdljcmaaaRef
namespace Go.Proofs.Ytonomljdljcmaaa
set_option linter.unusedVariables false
set_option linter.unusedSimpArgs false
open Go.RowKit

/-- What is owned can be read; and what can be read can be read beside more. -/
theorem Reads.row {S : Nat → Prop} {w0 : World} {R : List SP} {A : Option Addr} {n c : Nat} {b : List UInt8} : Reads S w0 (SP.row 5 1 (.slice A n c) (bts b) :: R) A b := fun W X hX => (hX.perm List.perm_middle).rd
theorem Reads.more {S : Nat → Prop} {w0 : World} {R : List SP} {A : Option Addr} {b : List UInt8} (h : Reads S w0 R A b) (Y : List SP) : Reads S w0 (Y ++ R) A b := fun W X hX => h W (X ++ Y) (by rw [List.append_assoc]; exact hX)
theorem crcSum_lt (b : List UInt8) : crcSum b < 4294967296 := by unfold crcSum; omega

set_option maxHeartbeats 4000000 in
theorem rput_own {S : Nat → Prop} {w0 w : World} {R : List SP} {B : Option Addr} {cb : Nat} {p : List UInt8} (h : Own S w0 w R) (hp : Reads S w0 R B p) (hpl : p.length ≤ 1048576) :
    Calls Try.prog 15 #[.slice B p.length cb] w fun e w' => ∃ A' c', e = .returned (.tuple #[.slice A' (frameB p).length c', .int .i64 0]) ∧ Own S w0 w' (SP.row 5 1 (.slice A' (frameB p).length c') (bts (frameB p)) :: R) := by
  have H := Lib.hid (And.intro h hp)
  have h32 : p.length < 4294967296 := by omega
  have H4 := Lib.hid (h.four p.length)
  have H5 := Lib.hid (fun W => rfour_calls W p.length h32)
  clear h hp
  go_enter Try.func15, Try.ntmps15
  go_wp2_with fail
  refine (H5.out _).mono ?_
  rintro e w' ⟨rfl, rfl⟩
  have HB := Lib.hid (bytes_own (B := some ⟨w.heap.size, 0, none⟩) (cb := 4) (b := fourB p.length) H4.out Reads.row (by rw [fourB_length]; omega))
  go_wp2_with fail
  refine (HB.out).mono ?_
  rintro e w1 ⟨A1, c1, rfl, own1⟩
  obtain ⟨T1, hr1, -, hb1⟩ := own1.open
  have G1 := Lib.hid (And.intro hr1 (And.intro hb1 (H.out.2 _ [_, _] own1)))
  clear hr1 hb1 own1
  go_wp2_with (at_builtin; refine wpList_append_row rfl (.tmp 14) (.tmp 15) 22 rfl 5 (.int .u8 0) 1 1 Try.underlying22 Try.info5 rfl (by decide) rfl (by rw [bts_length, Nat.mul_one]) G1.out.1 B p.length cb (bts p) rfl (by rw [bts_length, Nat.mul_one]) G1.out.2.2 bts_one (by rw [fourB_length]; unfold maxLen; omega) (by rw [fourB_length]; omega) ?_)
  rintro A2 c2 w2 - hk2 hr2
  have O2 := Lib.hid (G1.out.2.1 _ _ hk2 hr2)
  clear hk2 hr2
  have hs := rsum_calls w2 A2 c2 (fourB p.length ++ p) (by rw [bts_append]; exact O2.out.rd) (by simp [fourB_length]; omega)
  rw [List.length_append] at hs
  have HS := Lib.hid hs
  obtain ⟨s2, hs2⟩ : ∃ s, crcSum (fourB p.length ++ p) = s := ⟨_, rfl⟩
  have hs2l : s2 < 4294967296 := by rw [← hs2]; exact crcSum_lt _
  clear hs
  go_wp2_with fail
  refine (HS.out).mono ?_
  rintro e w' ⟨rfl, rfl⟩
  simp only [hs2]
  have Hs2 := Lib.hid hs2
  clear hs2
  have H6 := Lib.hid (fun W => rfour_calls W s2 hs2l)
  go_wp2_with fail
  refine (H6.out _).mono ?_
  rintro e w' ⟨rfl, rfl⟩
  have O3 := Lib.hid (O2.out.four s2)
  obtain ⟨T3, hr3, -, hb3⟩ := (O3.out.front 2 rfl).open
  have G3 := Lib.hid (And.intro hr3 hb3)
  clear hr3 hb3
  go_wp2_with (at_builtin; refine wpList_append_row rfl (.tmp 19) (.tmp 20) 22 rfl 5 (.int .u8 0) 1 1 Try.underlying22 Try.info5 rfl (by decide) rfl (by rw [bts_length, fourB_length]) G3.out.1 _ 4 4 (bts (fourB s2)) rfl rfl O3.out.rd bts_one (by unfold maxLen; omega) (by omega) ?_)
  rintro A4 c4 w4 hk4 hr4
  have O4 := Lib.hid (G3.out.2 _ _ hk4 hr4)
  clear hk4 hr4
  obtain ⟨T4, hr4, -, hb4⟩ := O4.out.open
  have G4 := Lib.hid (And.intro hr4 (And.intro hb4 (H.out.2 _ [_, _, _] O4.out)))
  clear hr4 hb4
  go_wp2_with (at_builtin; refine wpList_append_row rfl (.tmp 21) (.tmp 22) 22 rfl 5 (.int .u8 0) 1 1 Try.underlying22 Try.info5 rfl (by decide) rfl (by simp only [List.length_append, bts_length, fourB_length, Nat.mul_one]) G4.out.1 B p.length cb (bts p) rfl (by rw [bts_length, Nat.mul_one]) G4.out.2.2 bts_one (by unfold maxLen; omega) (by omega) ?_)
  rintro A5 c5 w5 - hk5 hr5
  have O5 := Lib.hid (G4.out.2.1 _ _ hk5 hr5)
  clear hk5 hr5
  go_wp2
  go_ret2
  have hfr : bts (frameB p) = bts (fourB p.length) ++ bts (fourB s2) ++ bts p := by
    have : crcSum (fourB p.length ++ p) = 4294967295 - crcMore (crcMore 4294967295 (fourB p.length)) p := by rw [crcSum, crcMore_append]
    rw [frameB, ← this, Hs2.out, bts_append, bts_append, List.append_assoc]
  have hln : (frameB p).length = 8 + p.length := by rw [frameB_length]
  refine ⟨A5, c5, by rw [hln]; rfl, ?_⟩
  rw [hln, hfr]
  exact O5.out.tail (fun T h => SP.sep_right (SP.sep_right h))
end Go.Proofs.Ytonomljdljcmaaa

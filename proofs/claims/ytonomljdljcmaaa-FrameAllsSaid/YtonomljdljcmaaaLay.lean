/-
  lay and Put: a payload's frame.
  Conditions: the payload can be read in whatever world comes while no memory of its is turned.
-/
import Derived.Test.YtonomljdljcmaaaFour
import Derived.Test.YtonomljdljcmaaaMat
namespace Go.Proofs.Ytonomljdljcmaaa
set_option linter.unusedVariables false
set_option linter.unusedSimpArgs false
open Go.RowKit

theorem Try.info5 : (Try.prog.info? 5).map (fun i => (i.zero, i.size, i.bytes)) = some (some (.int .u8 0), 1, 1) := by kernel_rfl

/-- What can be read, whatever is done to what is owned. -/
def Reads (S : Nat → Prop) (w0 : World) (R : List SP) (B : Option Addr) (b : List UInt8) : Prop := ∀ W X, Own S w0 W (X ++ R) → Rd W B (bts b)
def frameB (p : List UInt8) : List UInt8 := fourB p.length ++ (fourB (4294967295 - crcMore (crcMore 4294967295 (fourB p.length)) p) ++ p)
theorem fourB_length (n : Nat) : (fourB n).length = 4 := rfl
theorem frameB_length (p : List UInt8) : (frameB p).length = 8 + p.length := by simp [frameB, fourB_length]; omega

/-- The four bytes, owned. -/
theorem Own.four {S : Nat → Prop} {w0 w : World} {R : List SP} (h : Own S w0 w R) (n : Nat) : Own S w0 (w.alloc (.cells (bts (fourB n)).toArray 5)) (SP.row 5 1 (.slice (some ⟨w.heap.size, 0, none⟩) 4 4) (bts (fourB n)) :: R) := by
  refine h.gain ((Below.refl _ _).alloc (Nat.le_refl _) _) ?_
  exact SP.row_new w 5 1 4 (bts (fourB n)).toArray rfl (by unfold maxLen; omega) (S := fun k => w.heap.size ≤ k ∧ k < (w.alloc (.cells (bts (fourB n)).toArray 5)).heap.size) ⟨Nat.le_refl _, by simp⟩

set_option maxHeartbeats 4000000 in
theorem lay_own {S : Nat → Prop} {w0 w : World} {R : List SP} {A B : Option Addr} {c cb : Nat} {o p : List UInt8} (h : Own S w0 w (SP.row 5 1 (.slice A o.length c) (bts o) :: R)) (hp : Reads S w0 R B p) (ho : o.length ≤ 1000000000) (hpl : p.length ≤ 1000000000) :
    Calls Try.prog 33 #[.slice A o.length c, .slice B p.length cb] w fun e w' => ∃ A' c', e = .returned (.slice A' (o ++ frameB p).length c') ∧ Own S w0 w' (SP.row 5 1 (.slice A' (o ++ frameB p).length c') (bts (o ++ frameB p)) :: R) := by
  have H := Lib.hid (And.intro h hp)
  have h32 : p.length < 4294967296 := by omega
  have H4 := Lib.hid (h.four p.length)
  have H5 := Lib.hid (fun W => four_calls W p.length h32)
  clear h hp
  go_enter Try.func33, Try.ntmps33
  go_wp2_with fail
  refine (H5.out _).mono ?_
  rintro e w' ⟨rfl, rfl⟩
  have hm1 := Lib.hid (more_calls (w.alloc (.cells (bts (fourB p.length)).toArray 5)) (some ⟨w.heap.size, 0, none⟩) 4 4294967295 (fourB p.length) H4.out.rd (by omega) (by rw [fourB_length]; omega))
  go_wp2_with fail
  refine (hm1.out).mono ?_
  rintro e w' ⟨rfl, rfl⟩
  obtain ⟨s1, hs1⟩ : ∃ s, crcMore 4294967295 (fourB p.length) = s := ⟨_, rfl⟩
  have hs1l : s1 < 4294967296 := by rw [← hs1]; exact crcMore_lt (by omega) _
  simp only [hs1]
  have hm2 := Lib.hid (more_calls (w.alloc (.cells (bts (fourB p.length)).toArray 5)) B cb s1 p (H.out.2 _ [_, _] H4.out) hs1l (by omega))
  go_wp2_with fail
  refine (hm2.out).mono ?_
  rintro e w' ⟨rfl, rfl⟩
  obtain ⟨s2, hs2⟩ : ∃ s, crcMore s1 p = s := ⟨_, rfl⟩
  have hs2l : s2 < 4294967296 := by rw [← hs2]; exact crcMore_lt hs1l _
  simp only [hs2]
  obtain ⟨T1, hr1, -, hb1⟩ := H4.out.swap.open
  have G1 := Lib.hid (And.intro hr1 hb1)
  clear hr1 hb1
  go_wp2_with (at_builtin; refine wpList_append_row rfl (.tmp 16) (.tmp 17) 22 rfl 5 (.int .u8 0) 1 1 Try.underlying22 Try.info5 rfl (by decide) rfl (by rw [bts_length, Nat.mul_one]) G1.out.1 _ 4 4 (bts (fourB p.length)) rfl rfl H4.out.rd bts_one (by unfold maxLen; omega) (by omega) ?_)
  rintro A1 c1 w1 - hk1 hr1
  have O1 := Lib.hid (G1.out.2 _ _ hk1 hr1)
  clear hk1 hr1
  have hnot := not32 s2 hs2l
  go_wp2_with fail
  simp only [hnot]
  clear hnot
  have Hs := Lib.hid (And.intro hs1 hs2)
  have H6 := Lib.hid (fun W => four_calls W (4294967295 - s2) (by omega))
  clear hs1 hs2
  refine (H6.out _).mono ?_
  rintro e w' ⟨rfl, rfl⟩
  have H7 := Lib.hid ((O1.out.four (4294967295 - s2)))
  obtain ⟨T2, hr2, -, hb2⟩ := H7.out.swap.open
  have G2 := Lib.hid (And.intro hr2 hb2)
  clear hr2 hb2
  go_wp2_with (at_builtin; refine wpList_append_row rfl (.tmp 19) (.tmp 21) 22 rfl 5 (.int .u8 0) 1 1 Try.underlying22 Try.info5 rfl (by decide) rfl (by rw [List.length_append, bts_length, bts_length, fourB_length, Nat.mul_one]) G2.out.1 _ 4 4 (bts (fourB (4294967295 - s2))) rfl rfl H7.out.rd bts_one (by unfold maxLen; omega) (by omega) ?_)
  rintro A2 c2 w2 - hk2 hr2
  have O2 := Lib.hid (G2.out.2 _ _ hk2 hr2)
  clear hk2 hr2
  obtain ⟨T3, hr3, -, hb3⟩ := O2.out.open
  have G3 := Lib.hid (And.intro hr3 (And.intro hb3 (H.out.2 _ [_, _, _] O2.out)))
  clear hr3 hb3
  go_wp2_with (at_builtin; refine wpList_append_row rfl (.tmp 23) (.tmp 24) 22 rfl 5 (.int .u8 0) 1 1 Try.underlying22 Try.info5 rfl (by decide) rfl (by simp only [List.length_append, bts_length, fourB_length, Nat.mul_one]) G3.out.1 B p.length cb (bts p) rfl (by rw [bts_length, Nat.mul_one]) G3.out.2.2 bts_one (by unfold maxLen; omega) (by omega) ?_)
  rintro A3 c3 w3 - hk3 hr3
  have O3 := Lib.hid (G3.out.2.1 _ _ hk3 hr3)
  clear hk3 hr3
  go_wp2
  go_ret
  have hlen : (o ++ frameB p).length = o.length + 4 + 4 + p.length := by rw [List.length_append, frameB_length]; omega
  have hbts : bts (o ++ frameB p) = bts o ++ bts (fourB p.length) ++ bts (fourB (4294967295 - s2)) ++ bts p := by
    simp only [frameB, bts_append, Hs.out.1, Hs.out.2, List.append_assoc]
  refine ⟨A3, c3, by rw [hlen]; rfl, ?_⟩
  rw [hlen, hbts]
  have hfin := O3.out.tail (L' := R) (fun T h => SP.sep_right (SP.sep_right h))
  simpa only [List.append_assoc] using hfin

set_option maxHeartbeats 4000000 in
theorem put_own {S : Nat → Prop} {w0 w : World} {R : List SP} {B : Option Addr} {cb : Nat} {p : List UInt8} (h : Own S w0 w R) (hp : Reads S w0 R B p) (hpl : p.length ≤ 1048576) :
    Calls Try.prog 14 #[.slice B p.length cb] w fun e w' => ∃ A' c', e = .returned (.tuple #[.slice A' (frameB p).length c', .int .i64 0]) ∧ Own S w0 w' (SP.row 5 1 (.slice A' (frameB p).length c') (bts (frameB p)) :: R) := by
  have hmk := fun W => run_make_0n (P := Try.prog) 22 5 (.int .u8 0) 1 Try.underlying22 Try.info5 rfl (8 + p.length) (by omega) (by omega) W
  have hcast : (((8 + p.length : Nat) : Nat) : Int) = 8 + (p.length : Int) := by omega
  simp only [hcast] at hmk
  have HL := Lib.hid (lay_own (A := some ⟨w.heap.size, 0, none⟩) (c := 8 + p.length) (cb := cb) (o := []) (h.made0 5 (8 + p.length) (.int .u8 0) (by unfold maxLen; omega)) hp (by simp) (by omega))
  clear h hp hcast
  go_enter Try.func14, Try.ntmps14
  go_wp2_with fail
  refine (HL.out).mono ?_
  rintro e w1 ⟨A1, c1, rfl, own1⟩
  have O1 := Lib.hid own1
  clear own1
  simp only [List.nil_append] at O1 ⊢
  go_wp2
  go_ret2
  exact ⟨A1, c1, rfl, O1.out⟩

set_option maxHeartbeats 1600000 in
theorem put_long {w : World} {B : Option Addr} {cb n : Nat} (hpl : 1048576 < n) (hn : n ≤ 1000000000) :
    Calls Try.prog 14 #[.slice B n cb] w fun e w' => e = .returned (.tuple #[.slice none 0 0, .int .i64 3]) ∧ w = w' := by
  go_enter Try.func14, Try.ntmps14
  go_wp2
  go_ret2
  exact ⟨rfl, rfl⟩
end Go.Proofs.Ytonomljdljcmaaa

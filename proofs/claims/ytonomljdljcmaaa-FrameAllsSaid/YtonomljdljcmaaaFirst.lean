/-
  first: frames of which the document fixes all.
  Conditions: none.
-/
import Derived.Test.YtonomljdljcmaaaJoins
import Derived.Lib.SlBytesConst
namespace Go.Proofs.Ytonomljdljcmaaa
set_option linter.unusedVariables false
set_option linter.unusedSimpArgs false
open Go.RowKit

def digits9 : List UInt8 := [49, 50, 51, 52, 53, 54, 55, 56, 57]
theorem crc9 : crcSum digits9 = 3808858755 := by decide +kernel
def frame0 : List UInt8 := [0, 0, 0, 0, 199, 75, 103, 72]
theorem frameB_nil : frameB [] = frame0 := by decide +kernel
theorem frs_frame0 : frs frame0 = [[]] := by
  have h1 : getErr frame0 = 0 := by decide +kernel
  have h2 : pay frame0 = [] := by decide +kernel
  have h3 : getErr (frame0.drop 8) ≠ 0 := by decide +kernel
  rw [frs_ok h1, h2]
  rw [show frame0.drop (8 + ([] : List UInt8).length) = frame0.drop 8 from rfl, frs_end h3]
theorem span_frame0 : span (frs frame0) = 8 := by rw [frs_frame0]; rfl
theorem allErr_frame0 : allErr frame0 = 0 := by rw [allErr, span_frame0]; rfl

set_option maxHeartbeats 4000000 in
theorem first_calls (w : World) : Calls Try.prog 11 #[] w fun e w' => e = .returned (.bool true) ∧ Below w.heap.size w w' := by
  have hrd : Rd (w.alloc (.cells (bts digits9).toArray 5 (9, 10))) (some ⟨w.heap.size, 0, none⟩) (bts digits9) := fun j u hu =>
    ⟨w.heap.size, 0, rfl, by rw [cell_of_row _ _ _ (bts digits9).toArray 5 (9, 10) (World.alloc_heap_new w _), Nat.zero_add]; simpa using hu⟩
  have hs := sum_calls (w.alloc (.cells (bts digits9).toArray 5 (9, 10))) (some ⟨w.heap.size, 0, none⟩) 9 9 digits9 rfl hrd (by decide)
  rw [crc9] at hs
  have HS := Lib.hid hs
  have h1 : Own (fun _ => False) w (w.alloc (.cells (bts digits9).toArray 5 (9, 10))) [] := (Own.start w).move ((Below.refl _ _).alloc (Nat.le_refl _) _)
  have H1 := Lib.hid h1
  have hbt : (bts digits9).toArray = #[.int .u8 49, .int .u8 50, .int .u8 51, .int .u8 52, .int .u8 53, .int .u8 54, .int .u8 55, .int .u8 56, .int .u8 57] := by simp [bts, digits9, byteV]
  rw [hbt] at HS H1
  clear hs h1 hbt hrd
  have kc := fun (w : World) (C : Array Value) (n c : Nat) => Lib.run_convert_bytes_const (P := Try.prog) w 22 5 C n c Try.underlying22 Try.underlying5
  go_enter Try.func11, Try.ntmps11
  go_wp2_with fail
  refine (HS.out).mono ?_
  rintro e w' ⟨rfl, rfl⟩
  have HP := Lib.hid (put_own (B := none) (cb := 0) (p := []) H1.out (fun W X hX => Rd.nil _ _) (by decide))
  clear HS
  go_wp2_with fail
  refine (HP.out).mono ?_
  rintro e w1 ⟨A1, c1, rfl, own1⟩
  rw [frameB_nil] at own1 ⊢
  have O1 := Lib.hid own1
  clear own1 HP
  have hf8 : frame0.length = 8 := rfl
  rw [hf8] at O1 ⊢
  clear hf8
  have O2 := Lib.hid (O1.out.alloc #[.int .u8 1, .int .u8 2, .int .u8 3] 5)
  go_wp2_with fail
  refine (one_short (by decide)).mono ?_
  rintro e w' ⟨rfl, rfl⟩
  have HA := Lib.hid (show Calls Try.prog 24 #[.slice A1 8 c1] (w1.alloc (.cells #[.int .u8 1, .int .u8 2, .int .u8 3] 5)) fun e w' => ∃ A' c', e = .returned (.tuple #[.slice A' 1 c', .int .i64 8, .int .i64 0]) ∧ Own (fun _ => False) w w' (SP.mat 22 5 (.slice A' 1 c') [[]] :: SP.row 5 1 (.slice A1 8 c1) (bts frame0) :: []) from by
    have hc := (O1.out.row_le (by decide) rfl)
    have h := all_own (b := frame0) (cb := c1) (O2.out.pick (L := [_, _]) [1]) (Reads.row (b := frame0)) hc.1 hc.2 (by decide)
    rw [frs_frame0, allErr_frame0] at h
    refine h.mono ?_
    rintro e w' ⟨A', c', he, ho⟩
    exact ⟨A', c', he, ho.pick (L := [_, _]) [0, 1]⟩)
  go_wp2_with fail
  refine (HA.out).mono ?_
  rintro e w2 ⟨A2, c2, rfl, own2⟩
  have O3 := Lib.hid (own2.alloc #[.int .u8 0, .int .u8 0, .int .u8 0, .int .u8 0, .int .u8 199, .int .u8 75, .int .u8 103, .int .u8 72] 5)
  have HB := Lib.hid (samebytes_calls (w2.alloc (.cells #[.int .u8 0, .int .u8 0, .int .u8 0, .int .u8 0, .int .u8 199, .int .u8 75, .int .u8 103, .int .u8 72] 5)) A1 (some ⟨w2.heap.size, 0, none⟩) c1 8 frame0 frame0 ((O3.out.pick (L := [_, _, _]) [2]).rd) (by have := rd_list w2 (bts frame0).toArray 5; simpa [bts, frame0, byteV] using this) (by decide))
  clear own2 HA O1 O2 H1
  go_wp2_with fail
  refine (HB.out).mono ?_
  simp only [decide_true]
  rintro e w' ⟨rfl, d, rfl⟩
  have OF := Lib.hid (Own.drewN O3.out d)
  clear HB O3
  go_wp2_with fail
  refine (num_calls _ _).mono ?_
  rintro e w' ⟨rfl, rfl⟩
  go_wp2_with fail
  refine (num_calls _ _).mono ?_
  rintro e w' ⟨rfl, rfl⟩
  go_wp2_with fail
  refine (num_calls _ _).mono ?_
  rintro e w' ⟨rfl, rfl⟩
  go_wp2
  go_ret
  exact ⟨rfl, OF.out.below⟩
end Go.Proofs.Ytonomljdljcmaaa

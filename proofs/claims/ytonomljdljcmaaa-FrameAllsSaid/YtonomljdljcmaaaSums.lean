/-
  FrameSums as a call: it returns true, and what was there stays.
  Conditions: the bytes lie in memory as they were handed in; they are at most 140737488351232.
-/
import Derived.Test.YtonomljdljcmaaaFirst
namespace Go.Proofs.Ytonomljdljcmaaa
set_option linter.unusedVariables false
set_option linter.unusedSimpArgs false
open Go.RowKit

theorem reads_arg {w : World} {R : List SP} {A : Option Addr} {b : List UInt8} (h : Rd w A (bts b)) : Reads (fun _ => False) w R A b := fun W X hX => h.below hX.below
theorem reads_front {S : Nat → Prop} {w0 : World} {R : List SP} {A : Option Addr} {n c : Nat} {b d : List UInt8} : Reads S w0 (SP.row 5 1 (.slice A n c) (bts (b ++ d)) :: R) A b := fun W X hX => by
  have h : Rd W A (bts (b ++ d)) := (hX.perm List.perm_middle).rd
  rw [bts_append] at h
  exact h.front

set_option maxRecDepth 100000 in
set_option maxHeartbeats 4000000 in
theorem sums_calls (w : World) (A : Option Addr) (c : Nat) (b : List UInt8) (hb : Rd w A (bts b)) (hcap : b.length ≤ c) (hcap2 : c ≤ maxLen) (hlen : b.length ≤ 140737488351232) :
    Calls Try.prog 3 #[.slice A b.length c] w fun e w' => e = .returned (.bool true) ∧ Below w.heap.size w w' := by
  have hf := Lib.hid (first_calls w)
  have HB := Lib.hid hb
  clear hb
  by_cases hbig : 4000 < b.length
  · have hb' : (4000 : Int) < (b.length : Int) := by omega
    go_enter Try.func3, Try.ntmps3
    go_wp2_with fail
    refine (hf.out).mono ?_
    rintro e w1 ⟨rfl, hb1⟩
    go_wp2
    go_ret
    exact ⟨rfl, hb1⟩
  · have hb' : ¬ (4000 : Int) < (b.length : Int) := by omega
    go_enter Try.func3, Try.ntmps3
    go_wp2_with fail
    refine (hf.out).mono ?_
    rintro e w1 ⟨rfl, hb1⟩
    have Hb1 := Lib.hid hb1
    have HR := Lib.hid (reads_arg (R := []) (HB.out.below hb1))
    have HL := Lib.hid (lent_own (cb := c) (Own.start w1) HR.out (by omega))
    clear hb1
    go_wp2_with fail
    refine (HL.out).mono ?_
    rintro e w2 ⟨A1, c1, rfl, hc1, hc2, own1⟩
    have O1 := Lib.hid own1
    have HS := Lib.hid (sum_calls w2 A1 c1 b.length b rfl (reads_front (R := []) w2 [] own1) (by omega))
    have HC := Lib.hid (And.intro hc1 hc2)
    clear own1 hc1 hc2 HL
    go_wp2_with fail
    refine (HS.out).mono ?_
    rintro e w' ⟨rfl, rfl⟩
    have HP := Lib.hid (put_own (cb := c1) O1.out (reads_front (R := [])) (by omega))
    clear HS
    go_wp2_with fail
    refine (HP.out).mono ?_
    rintro e w3 ⟨A2, c2, rfl, own2⟩
    have O2 := Lib.hid own2
    have HQ := Lib.hid (rput_own (cb := c) own2 (Reads.more HR.out [_, _]) (by omega))
    clear own2 HP
    go_wp2_with fail
    refine (HQ.out).mono ?_
    rintro e w4 ⟨A3, c3, rfl, own3⟩
    have O3 := Lib.hid own3
    have hfl := frameB_length b
    have HE := Lib.hid (samebytes_calls w4 A2 A3 c2 c3 (frameB b) (frameB b) own3.swap.rd own3.rd (by omega))
    clear own3 HQ hfl
    go_wp2_with fail
    refine (HE.out).mono ?_
    simp only [decide_true]
    rintro e w' ⟨rfl, d, rfl⟩
    have O4 := Lib.hid (Own.drewN O3.out d)
    have HK := Lib.hid (kept_true (w := w4.drewN d) (A := A1) (B := A) (c := c1) (cb := c) (b := b) ((O4.out.pick (L := [_, _, _]) [2]).rd) (HR.out _ [_, _, _] O4.out) (by omega) HC.out.1 (by have := HC.out.2; unfold maxLen at this; exact this))
    clear HE
    go_wp2_with fail
    refine (HK.out).mono ?_
    rintro e w' ⟨rfl, d2, rfl⟩
    have O5' := Own.drewN O4.out d2
    rw [World.drewN_drewN] at O5'
    have O5 := Lib.hid O5'
    clear O5'
    have HU := Lib.hid (rsum_calls (w4.drewN (d + d2)) A c b (HR.out _ [_, _, _] O5.out) (by omega))
    clear HK
    go_wp2_with fail
    refine (HU.out).mono ?_
    rintro e w' ⟨rfl, rfl⟩
    go_wp2_with fail
    refine (num_calls _ _).mono ?_
    rintro e w' ⟨rfl, rfl⟩
    go_wp2
    go_ret
    exact ⟨rfl, Hb1.out.trans (O5.out.below.mono Hb1.out.size)⟩
end Go.Proofs.Ytonomljdljcmaaa

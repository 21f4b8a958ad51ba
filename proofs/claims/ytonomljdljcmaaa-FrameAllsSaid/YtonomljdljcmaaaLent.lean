/-
  Bytes and Lent: copies that a law owns.
  Conditions: the bytes can be read in whatever world comes while no memory of theirs is turned.
-/
import Derived.Test.YtonomljdljcmaaaOne
import Derived.Test.YtonomljdljcmaaaStepOwn
namespace Go.Proofs.Ytonomljdljcmaaa
set_option linter.unusedVariables false
set_option linter.unusedSimpArgs false
open Go.RowKit

theorem Own.empty {S : Nat → Prop} {w0 w : World} {L : List SP} (h : Own S w0 w L) (e : TypeId) : Own S w0 (w.alloc (.cells #[] e)) (SP.row e 1 (.slice (some ⟨w.heap.size, 0, none⟩) 0 0) [] :: L) :=
  h.gain ((Below.refl _ _).alloc (Nat.le_refl _) _) ((SP.row e 1 _ _).mono (row_empty_at (heap_alloc_new w _)) (fun k hk => by subst hk; simp))

set_option maxHeartbeats 1600000 in
theorem bytes_own {S : Nat → Prop} {w0 w : World} {R : List SP} {B : Option Addr} {cb : Nat} {b : List UInt8} (h : Own S w0 w R) (hb : Reads S w0 R B b) (hbl : b.length ≤ 1000000000) :
    Calls Try.prog 25 #[.slice B b.length cb] w fun e w' => ∃ A' c', e = .returned (.slice A' b.length c') ∧ Own S w0 w' (SP.row 5 1 (.slice A' b.length c') (bts b) :: R) := by
  have he := h.empty 5
  obtain ⟨T, hr, -, hback⟩ := he.open
  have G := Lib.hid (And.intro hr (And.intro hback (hb _ [_] he)))
  clear h hb he hr hback
  go_enter Try.func25, Try.ntmps25
  go_wp2_with (at_builtin; refine wpList_append_row rfl (.tmp 3) (.tmp 4) 22 rfl 5 (.int .u8 0) 1 1 Try.underlying22 Try.info5 rfl (by decide) rfl rfl G.out.1 B b.length cb (bts b) rfl (by rw [bts_length, Nat.mul_one]) G.out.2.2 bts_one (by unfold maxLen; omega) (by omega) ?_)
  rintro A3 c3 w3 - hk3 hr3
  have O3 := Lib.hid (G.out.2.1 _ _ hk3 hr3)
  clear hk3 hr3
  go_wp2
  go_ret
  refine ⟨A3, c3, ?_, ?_⟩
  · simp
  · have := O3.out
    simpa using this

set_option maxHeartbeats 1600000 in
theorem lent_own {S : Nat → Prop} {w0 w : World} {R : List SP} {B : Option Addr} {cb : Nat} {b : List UInt8} (h : Own S w0 w R) (hb : Reads S w0 R B b) (hbl : b.length ≤ 100000000) :
    Calls Try.prog 12 #[.slice B b.length cb] w fun e w' => ∃ A' c', e = .returned (.slice A' b.length c') ∧ b.length + 1 ≤ c' ∧ c' ≤ maxLen ∧ Own S w0 w' (SP.row 5 1 (.slice A' (b.length + 1) c') (bts (b ++ [201])) :: R) := by
  have HB := Lib.hid (bytes_own (cb := cb) h hb (by omega))
  clear h hb
  go_enter Try.func12, Try.ntmps12
  go_wp2_with fail
  refine (HB.out).mono ?_
  rintro e w1 ⟨A1, c1, rfl, own1⟩
  obtain ⟨T, hr, hback⟩ := own1.grow1 #[.int .u8 201] 5
  have G := Lib.hid (And.intro hr hback)
  clear own1 hr hback
  go_wp2_with (at_builtin; refine wpList_append_row rfl (.tmp 5) (.tmp 6) 22 rfl 5 (.int .u8 0) 1 1 Try.underlying22 Try.info5 rfl (by decide) rfl (by rw [bts_length, Nat.mul_one]) G.out.1 _ 1 1 [.int .u8 201] rfl rfl (rd_one _ _ _) (by simp [Value.oneCell']) (by unfold maxLen; omega) (by omega) ?_)
  rintro A3 c3 w3 - hk3 hr3
  have hO := G.out.2 _ _ hk3 hr3
  have hle := hO.row_le (by decide) (by simp [bts_length])
  have O3 := Lib.hid hO
  obtain ⟨hl1, hl2⟩ := hle
  have HM := Lib.hid hl2
  unfold maxLen at hl2
  clear hk3 hr3 hO
  go_wp2
  go_ret
  refine ⟨A3, c3, rfl, hl1, HM.out, ?_⟩
  rw [bts_append]
  exact O3.out

theorem Rd.front {w : World} {A : Option Addr} {xs ys : List Value} (h : Rd w A (xs ++ ys)) : Rd w A xs := fun j u hu => h j u (by rw [List.getElem?_append_left (List.getElem?_eq_some_iff.1 hu).1]; exact hu)

set_option maxHeartbeats 1600000 in
theorem kept_true {w : World} {A B : Option Addr} {c cb : Nat} {b : List UInt8} (hA : Rd w A (bts (b ++ [201]))) (hB : Rd w B (bts b)) (hbl : b.length ≤ 100000000) (hc : b.length + 1 ≤ c) (hc2 : c ≤ 9223372036854775807) :
    Calls Try.prog 17 #[.slice A b.length c, .slice B b.length cb] w fun e w' => e = .returned (.bool true) ∧ ∃ d, w' = w.drewN d := by
  have hA2 : Rd w A (bts b) := by rw [bts_append] at hA; exact hA.front
  have hS := samebytes_calls w A B c cb b b hA2 hB (by omega)
  rw [show decide (b = b) = true by simp] at hS
  have HS := Lib.hid hS
  obtain ⟨g, off, rfl, hcell⟩ := hA b.length (.int .u8 201) (by simp [bts, byteV])
  clear hA hB hA2 hS
  go_enter Try.func17, Try.ntmps17
  go_wp2_with fail
  refine (HS.out).mono ?_
  rintro e w' ⟨rfl, d, rfl⟩
  go_wp2
  go_ret
  exact ⟨rfl, _, rfl⟩
end Go.Proofs.Ytonomljdljcmaaa

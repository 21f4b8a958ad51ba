/-
  Drop: a mail lost.
  Conditions: none beyond each theorem's own.
-/
import Derived.Test.YtlhinhcbbknhcaaTake
import Derived.WalkSpells
namespace Go.Proofs.Ytlhinhcbbknhcaa
set_option linter.unusedVariables false
set_option linter.unusedSimpArgs false
open Go.RowKit

section
variable {S : Nat → Prop} {w0 w : World} {R : List SP} {g : Nat} {nodes last : Int} {cut : List Bool} {L : List M}

set_option maxHeartbeats 800000 in
theorem drop_no (h : Own S w0 w (SP.net g nodes cut last L :: R)) (i : Int) (hi : ¬ (0 ≤ i ∧ i < (L.length : Int))) :
    Calls Try.prog 21 #[.pointer (some ⟨g, 0, none⟩), .int .i64 i] w fun e w' => e = .returned (.bool false) ∧ Own S w0 w' (SP.net g nodes cut last L :: R) := by
  have HS := Lib.hid (take_no h i hi)
  unfold mailZero at HS
  clear h hi
  go_enter Try.func21, Try.ntmps21
  go_wp2_with fail
  refine (HS.out).mono ?_
  rintro e w4 ⟨rfl, o4⟩
  have O4 := Lib.hid (o4.alloc #[.int .i64 0, .int .i64 0, .int .i64 0, .slice none 0 0, .bool false] 34)
  clear o4 HS
  go_wp2
  go_ret
  exact ⟨rfl, O4.out.pop⟩

set_option maxHeartbeats 800000 in
theorem drop_yes (hL : L.length ≤ 1000000) (h : Own S w0 w (SP.net g nodes cut last L :: R)) (i : Nat) (m : M) (hm : L[i]? = some m) :
    Calls Try.prog 21 #[.pointer (some ⟨g, 0, none⟩), .int .i64 i] w fun e w' => e = .returned (.bool true) ∧ Own S w0 w' (SP.net g nodes cut last (L.eraseIdx i) :: R) := by
  have HS := Lib.hid (take_yes hL h i m hm)
  unfold mailV at HS
  clear h hm
  go_enter Try.func21, Try.ntmps21
  go_wp2_with fail
  refine (HS.out).mono ?_
  rintro e w4 ⟨Ad, cd, rfl, o4⟩
  have O4 := Lib.hid (o4.alloc #[.int .i64 m.num, .int .i64 m.frm, .int .i64 m.to, .slice Ad m.dat.length cd, .bool m.sp] 34)
  clear o4 HS
  obtain ⟨dl, hdl⟩ : ∃ dl, m.dat.length = dl := ⟨_, rfl⟩
  rw [hdl] at O4
  simp only [hdl]
  clear hdl
  go_wp2
  go_ret
  exact ⟨rfl, O4.out.pick (L := [_, _, _]) [1]⟩
end
end Go.Proofs.Ytlhinhcbbknhcaa

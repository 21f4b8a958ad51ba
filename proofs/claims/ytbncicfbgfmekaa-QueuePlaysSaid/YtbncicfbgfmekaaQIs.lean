/-
  The law's is: a queue as a list says; what it answers is written over.
  Conditions: the queue holds no more than its room.
-/
import Derived.Test.YtbncicfbgfmekaaSame
import Derived.Test.YtbncicfbgfmekaaQueI
import Derived.Test.YtbncicfbgfmekaaMove
import Derived.Test.YtbncicfbgfmekaaPick
import Derived.Test.YtbncicfbgfmekaaAppOwn
import Derived.Test.YtbncicfbgfmekaaOwnOps
import Derived.WalkSpells
namespace Go.Proofs.Ytbncicfbgfmekaa
set_option linter.unusedVariables false
set_option linter.unusedSimpArgs false
open Go.RowKit

section
variable {S : Nat → Prop} {w0 w : World} {R : List SP} {g : Nat} {room : Int} {xs : List Int}
set_option maxRecDepth 100000 in
set_option maxHeartbeats 3200000 in
theorem is_own {A : Option Addr} {ca : Nat} (h0 : 0 ≤ room) (h1 : room ≤ 64) (hl : (xs.length : Int) ≤ room) (h : Own S w0 w (SP.quei g room xs :: SP.row 3 1 (.slice A xs.length ca) (valsi xs) :: R)) :
    Calls Try.prog 34 #[.pointer (some ⟨g, 0, none⟩), .slice A xs.length ca, .int .i64 room] w fun e w' => e = .returned (.bool true) ∧ Own S w0 w' (SP.quei g room xs :: SP.row 3 1 (.slice A xs.length ca) (valsi xs) :: R) := by
  obtain ⟨n, hn⟩ : ∃ n, xs.length = n := ⟨_, rfl⟩
  have HN := Lib.hid hn
  have HI := Lib.hid (fun (W : World) (R' : List SP) (o : Own S w0 W (SP.quei g room xs :: R')) => show Calls Try.prog 32 #[.pointer (some ⟨g, 0, none⟩)] W fun e w' => ∃ A2 c2, e = .returned (.slice A2 n c2) ∧ Own S w0 w' (SP.row 3 1 (.slice A2 n c2) (valsi xs) :: SP.quei g room xs :: R') from by
    refine (SpecAt.use (qitemsi_spec W g room xs (by omega)) o).mono ?_
    rintro e w' ⟨A', ⟨A2, c2, he, rfl⟩, o2, -⟩
    rw [hn] at he o2
    exact ⟨A2, c2, he, Own.flat (L := [_, _]) o2⟩)
  have HSm := Lib.hid (fun (W : World) (A2 : Option Addr) (c2 : Nat) (R' : List SP) (o : Own S w0 W (SP.row 3 1 (.slice A2 n c2) (valsi xs) :: SP.quei g room xs :: SP.row 3 1 (.slice A n ca) (valsi xs) :: R')) => show Calls Try.prog 29 #[.slice A2 n c2, .slice A n ca] W fun e w' => e = .returned (.bool true) ∧ Own S w0 w' (SP.row 3 1 (.slice A2 n c2) (valsi xs) :: SP.quei g room xs :: SP.row 3 1 (.slice A n ca) (valsi xs) :: R') from by
    have := sameints_calls W A2 A c2 ca xs xs o.rd (o.pick (L := [_, _, _]) [2]).rd (by omega)
    rw [hn, decide_eq_true rfl] at this
    refine this.mono ?_
    rintro e w' ⟨he, d, rfl⟩
    exact ⟨he, o.drewN d⟩)
  have HLn := Lib.hid (fun (W : World) (R' : List SP) (o : Own S w0 W (SP.quei g room xs :: R')) => show Calls Try.prog 20 #[.pointer (some ⟨g, 0, none⟩)] W fun e w' => e = .returned (.int .i64 (n : Nat)) ∧ Own S w0 w' (SP.quei g room xs :: R') from by
    refine (SpecAt.use (qleni_spec W g room xs) o).mono ?_
    rintro e w' ⟨A', ⟨he, rfl⟩, o2, -⟩
    rw [hn] at he
    exact ⟨he, o2⟩)
  have HRm := Lib.hid (fun (W : World) (R' : List SP) (o : Own S w0 W (SP.quei g room xs :: R')) => show Calls Try.prog 17 #[.pointer (some ⟨g, 0, none⟩)] W fun e w' => e = .returned (.int .i64 (room - (n : Nat))) ∧ Own S w0 w' (SP.quei g room xs :: R') from by
    refine (SpecAt.use (qroomi_spec W g room xs h0 h1 hl) o).mono ?_
    rintro e w' ⟨A', ⟨he, rfl⟩, o2, -⟩
    rw [hn] at he
    exact ⟨he, o2⟩)
  rw [hn] at h ⊢
  rw [hn] at hl
  have H := Lib.hid h
  have hn64 : n ≤ 64 := by omega
  have v1 : IntKind.i64.wrap (room - (n : Int)) = room - (n : Int) := IntWalk.i64_in _ (by omega)
  have v2 : IntKind.i64.wrap ((n : Int) + 1) = (n : Int) + 1 := IntWalk.i64_in _ (by omega)
  clear h hn
  go_enter Try.func34, Try.ntmps34
  go_wp2_with fail
  refine (HI.out _ _ H.out).mono ?_
  rintro e w1 ⟨A1, c1, rfl, o1⟩
  have O1 := Lib.hid (HSm.out _ _ _ _ o1)
  clear o1 H
  go_wp2_with fail
  refine (O1.out).mono ?_
  rintro e w2 ⟨rfl, o2⟩
  have O2 := Lib.hid o2
  clear o2 O1
  go_wp2
  go_loopw [9] (fun t wx => ∃ (k : Nat) (zs : List Value), k ≤ n ∧ t = .int .i64 k ∧ Hid (zs.length = n) ∧ Own S w0 wx (SP.row 3 1 (.slice A1 n c1) zs :: SP.quei g room xs :: SP.row 3 1 (.slice A n ca) (valsi xs) :: R)) (fun t _ => n - (intOf t).toNat)
  case atStart => exact ⟨0, _, Nat.zero_le _, rfl, (valsi_length xs).trans HN.out, O2.out⟩
  case round =>
    obtain ⟨k, zs, hk, rfl, hzl, hown⟩ := hrel
    clear O2
    by_cases hkl : k < n
    · have k1 : (k : Int) < (n : Int) := by omega
      obtain ⟨u, hu⟩ : ∃ u, zs[k]? = some u := ⟨_, List.getElem?_eq_getElem (by rw [hzl.out]; exact hkl)⟩
      obtain ⟨gb, gof, rfl, hcu, hfu⟩ := hown.cell hu
      have HZ := Lib.hid (hown.store (j := k) (by rw [hzl.out]; exact hkl) (.int .i64 (-1)))
      clear hown hu
      go_wp2
      go_roundw
      case rel => exact ⟨k + 1, zs.set k (.int .i64 (-1)), by omega, by go_num, by show (zs.set k _).length = _; rw [List.length_set]; exact hzl.out, HZ.out⟩
      case measure => simp [intOf]; omega
    · have k1 : ¬ (k : Int) < (n : Int) := by omega
      have O3 := Lib.hid hown
      have hrl := Lib.hid (show zs.length = n * 1 by rw [hzl.out, Nat.mul_one])
      clear hown
      go_wp2_with (at_builtin; refine wpList_append_own rfl (.tmp 25) (.tmp 26) 30 rfl 3 (.int .i64 0) 1 8 Try.underlying30 Try.info3 rfl (by decide) rfl hrl.out O3.out ((Below.refl _ _).alloc (Nat.le_refl _) _) _ 1 1 _ rfl ?_ (rd_list _ _ _) ?_ (by unfold maxLen; omega) (by omega) ?_)
      · simp [Value.oneCell']
      rintro A5 c5 w5 o5
      have O5 := Lib.hid (HI.out _ _ o5.pop)
      clear o5 O3
      go_wp2_with fail
      refine (O5.out).mono ?_
      rintro e w6 ⟨A6, c6, rfl, o6⟩
      have O6 := Lib.hid (HSm.out _ _ _ _ o6)
      clear o6 O5
      go_wp2_with fail
      refine (O6.out).mono ?_
      rintro e w7 ⟨rfl, o7⟩
      have O7 := Lib.hid (HLn.out _ _ o7.pop)
      clear o7 O6
      go_wp2_with fail
      refine (O7.out).mono ?_
      rintro e w8 ⟨rfl, o8⟩
      have O8 := Lib.hid (HRm.out _ _ o8)
      clear o8 O7
      go_wp2_with fail
      refine (O8.out).mono ?_
      rintro e w9 ⟨rfl, o9⟩
      have O9 := Lib.hid o9
      clear o9 O8
      go_wp2
      go_ret
      exact ⟨rfl, O9.out⟩
end
end Go.Proofs.Ytbncicfbgfmekaa

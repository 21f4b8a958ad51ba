/-
  first: a network of which the document fixes all.
  Conditions: none.
-/
import Derived.Test.YtlhinhcbbknhcaaSpoil
import Derived.Test.YtlhinhcbbknhcaaRangeOwn
import Derived.Lib.SlBytesConst
import Derived.Laws.IdiomStrings
import Derived.WalkSpells
namespace Go.Proofs.Ytlhinhcbbknhcaa
set_option linter.unusedVariables false
set_option linter.unusedSimpArgs false
open Go.RowKit

theorem reads_const {S : Nat → Prop} {w0 : World} {R : List SP} {q : Nat} {b : List UInt8} {n m : Nat} : Reads S w0 (SP.obj q (.cells (bts b).toArray 5 (n, m)) :: R) (some ⟨q, 0, none⟩) b := fun W X hX j u hu =>
  ⟨q, 0, rfl, by rw [cell_of_row _ _ _ (bts b).toArray 5 (n, m) (hX.perm List.perm_middle).head.2, Nat.zero_add]; simpa using hu⟩

def mA : M := ⟨1, 1, 2, [97], false⟩
def mB : M := ⟨2, 1, 2, [97], false⟩
def mC : M := ⟨1, 1, 2, [96], true⟩
theorem mA_spoiled : spoiled mA 0 = mC := rfl

set_option maxRecDepth 100000 in
set_option maxHeartbeats 4000000 in
theorem first_own {S : Nat → Prop} {w0 w : World} {R : List SP} (h : Own S w0 w R) : Calls Try.prog 7 #[] w fun e w' => e = .returned (.bool true) ∧ Own S w0 w' R := by
  have HN := Lib.hid (new_yes 3 (by decide) (by decide) h)
  have kc := fun (w : World) (C : Array Value) (n c : Nat) => Lib.run_convert_bytes_const (P := Try.prog) w 27 5 C n c Try.underlying27 Try.underlying5
  clear h
  go_enter Try.func7, Try.ntmps7
  go_wp2_with fail
  refine (HN.out).mono ?_
  rintro e w1 ⟨g, rfl, own1⟩
  have o2 := (own1.allocObj (.cells (bts [97]).toArray 5 (1, 2))).swap
  have h1 := send_own (a := 1) (b := 2) (dat := [97]) (cb := 1) (by decide) (by decide) (by decide) (by decide) o2 reads_const
  rw [show sendB 3 cut0 [] 1 2 = true by decide] at h1
  have H1 := Lib.hid h1
  have hbt : (bts [97]).toArray = #[.int .u8 97] := rfl
  simp only [hbt, List.length_cons, List.length_nil, Nat.zero_add] at H1
  clear HN own1 o2 h1 hbt
  go_wp2_with fail
  refine (H1.out).mono ?_
  rintro e w2 ⟨rfl, own2⟩
  have o2 : Own S w0 w2 (SP.net g 3 cut0 1 [mA] :: R) := own2.pick (L := [_, _]) [0]
  have h2 := send_own (a := 2) (b := 2) (dat := []) (B := none) (cb := 0) (by decide) (by decide) (by decide) (by decide) o2 (fun W X hX => Rd.nil _ _)
  rw [show sendB 3 cut0 [mA] 2 2 = false by decide] at h2
  have H2 := Lib.hid h2
  clear H1 own2 o2 h2
  go_wp2_with fail
  refine (H2.out).mono ?_
  rintro e w3 ⟨rfl, own3⟩
  have h3 := copy_yes (by decide) (by decide) (by decide) own3 0 mA rfl (by decide)
  have H3 := Lib.hid h3
  clear H2 own3 h3
  go_wp2_with fail
  refine (H3.out).mono ?_
  rintro e w4 ⟨rfl, own4⟩
  have o4 : Own S w0 w4 (SP.net g 3 cut0 2 [mA, mB] :: R) := own4
  have h4 := spoil_yes (by decide) o4 0 0 mA rfl rfl (by decide) (by decide)
  have H4 := Lib.hid h4
  clear H3 own4 h4 o4
  go_wp2_with fail
  refine (H4.out).mono ?_
  rintro e w5 ⟨rfl, own5⟩
  have o5 : Own S w0 w5 (SP.net g 3 cut0 2 [mC, mB] :: R) := own5
  have h5 := spoil_no (by decide) o5 0 1 (by decide) (by rintro ⟨m, h1, h2, h3, -⟩; injection h2 with h2; subst h2; cases h3)
  have H5 := Lib.hid h5
  clear H4 own5 h5 o5
  go_wp2_with fail
  refine (H5.out).mono ?_
  rintro e w6 ⟨rfl, own6⟩
  have h6 := take_yes (by decide) own6 0 mC rfl
  have H6 := Lib.hid h6
  clear H5 own6 h6
  go_wp2_with fail
  refine (H6.out).mono ?_
  rintro e w7 ⟨Ad, cd, rfl, own7⟩
  obtain ⟨gd, od, rfl, kb, -⟩ := (own7.pick (L := [_, _]) [1]).cell (bts_get (b := mC.dat) (i := 0) rfl)
  have lgd := (own7.pick (L := [_, _]) [1]).row_lt
  have o8 := own7.alloc #[.int .i64 1, .int .i64 1, .int .i64 2, .slice (some ⟨gd, od, none⟩) 1 cd, .bool true] 34
  have hl := len_own (o8.swap)
  rw [show ([mC, mB].eraseIdx 0).length = 1 from rfl] at hl
  have HL := Lib.hid hl
  have O8 := Lib.hid o8
  have kb' : (w7.alloc (.cells #[.int .i64 1, .int .i64 1, .int .i64 2, .slice (some ⟨gd, od, none⟩) 1 cd, .bool true] 34)).cell? ⟨gd, od, none⟩ = some (.int .u8 96) := by
    have := ((o8.pick (L := [_, _, _]) [2]).cell (bts_get (b := mC.dat) (i := 0) rfl))
    obtain ⟨_, _, e1, e2, -⟩ := this
    cases e1
    exact e2
  have hcv := run_convert_bytes_back (P := Try.prog) (w7.alloc (.cells #[.int .i64 1, .int .i64 1, .int .i64 2, .slice (some ⟨gd, od, none⟩) 1 cd, .bool true] 34)) 27 9 5 ⟨gd, od, none⟩ cd [96] Try.underlying27 Try.underlying5 Try.underlying9 (fun j hj => by
    have : j = 0 := by simp at hj; exact hj
    subst this
    exact kb')
  simp only [List.length_cons, List.length_nil, Nat.zero_add] at hcv
  clear H6 own7 o8 hl kb kb'
  unfold mailV
  simp only [mC]
  go_wp2_with fail
  refine (HL.out).mono ?_
  rintro e w8 ⟨rfl, rfl⟩
  go_wp2
  go_ret
  exact ⟨rfl, O8.out.pick (L := [_, _, _]) []⟩
end Go.Proofs.Ytlhinhcbbknhcaa

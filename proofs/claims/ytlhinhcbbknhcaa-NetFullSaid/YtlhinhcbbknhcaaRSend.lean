/-
  The document's network: Linked, Send, Copy.
  Conditions: none beyond each theorem's own.
-/
import Derived.Test.YtlhinhcbbknhcaaRNet
import Derived.Test.YtlhinhcbbknhcaaSpoil
import Derived.Test.YtlhinhcbbknhcaaRegionNeed
namespace Go.Proofs.Ytlhinhcbbknhcaa
set_option linter.unusedVariables false
set_option linter.unusedSimpArgs false
open Go.RowKit

theorem Try.info60 : (Try.prog.info? 60).map (fun i => (i.zero, i.size, i.bytes)) = some (some mailZero, 5, 56) := by kernel_rfl
section
variable {S : Nat → Prop} {w0 w : World} {R : List SP} {g : Nat} {nodes many : Int} {L : List M} {C : List (Int × Int)}

def inC (C : List (Int × Int)) (a b : Int) : Bool := decide ((min a b, max a b) ∈ C)
def rlinkedB (nodes : Int) (C : List (Int × Int)) (a b : Int) : Bool := twoB nodes a b && !inC C a b

set_option maxRecDepth 100000 in
set_option maxHeartbeats 3200000 in
theorem rlinked_own (hC : C.length ≤ 1000000) (h : Own S w0 w (SP.rnet g nodes many L C :: R)) (a b : Int) :
    Calls Try.prog 41 #[.pointer (some ⟨g, 0, none⟩), .int .i64 a, .int .i64 b] w fun e w' => e = .returned (.bool (rlinkedB nodes C a b)) ∧ Own S w0 w' (SP.rnet g nodes many L C :: R) := by
  obtain ⟨A, c, B, k, hLc, hCk, h1⟩ := h.rnet_open
  have H := Lib.hid h1
  have hq := eq66
  clear h h1
  go_enter Try.func41, Try.ntmps41
  go_wp2
  go_loopw [7] (fun ti wr => ∃ i : Nat, i ≤ C.length ∧ ti = .int .i64 i ∧ (∀ p, p ∈ C.take i → p ≠ (min a b, max a b)) ∧ Own S w0 wr (SP.blk g 49 (rnetA nodes (.slice A L.length c) many (.slice B C.length k)) :: SP.mails 60 (.slice A L.length c) L :: SP.row 66 2 (.slice B C.length k) (prow C) :: R)) (fun ti _ => C.length - (intOf ti).toNat)
  case atStart => exact ⟨0, Nat.zero_le _, rfl, by simp, H.out⟩
  case round =>
    obtain ⟨i, hi, rfl, hno, hown⟩ := hrel
    have HN := Lib.hid hno
    have c3 := hown.blk_cell 3
    simp only [rnetA, List.getElem?_toArray, List.getElem?_cons_zero, List.getElem?_cons_succ] at c3
    clear hno H
    by_cases hin : i < C.length
    · have i1 : (i : Int) < (C.length : Int) := by omega
      obtain ⟨p, hp⟩ : ∃ p, C[i]? = some p := ⟨_, List.getElem?_eq_getElem hin⟩
      obtain ⟨gb, off, rfl, k0, -⟩ := (hown.pick (L := [_, _, _]) [2]).cell (prow_get (j := 0) hp (by omega))
      obtain ⟨_, _, e1, k1, -⟩ := (hown.pick (L := [_, _, _]) [2]).cell (prow_get (j := 1) hp (by omega)); cases e1
      simp only [pcells, List.getElem?_cons_zero, List.getElem?_cons_succ, ← Nat.add_assoc, Nat.add_zero] at k0 k1
      have HP := Lib.hid (pair_own hown.drew a b)
      have HO := Lib.hid hown
      have HM := Lib.hid hp
      clear hown hp
      obtain ⟨mn, hmn⟩ : ∃ mn, min a b = mn := ⟨_, rfl⟩
      obtain ⟨mx, hmx⟩ : ∃ mx, max a b = mx := ⟨_, rfl⟩
      have HX := Lib.hid (And.intro hmn hmx)
      rw [hmn, hmx] at HP
      clear hmn hmx
      go_upto_region 4 with (fail)
      go_region_held3 (fun W => W.cell? ⟨g, 3, none⟩ = some (.slice (some ⟨gb, off, none⟩) C.length k) ∧ W.cell? ⟨gb, off + i * 2, none⟩ = some (.int .i64 p.1) ∧ W.cell? ⟨gb, off + i * 2 + 1, none⟩ = some (.int .i64 p.2))
        (first | go_keep | exact ⟨c3, k0, k1⟩ | exact ⟨d3, e0, e1⟩)
        (first
          | (refine step_call rfl 48 _ _ rfl Try.func48 (by kernel_rfl) (by kernel_rfl) #[.int .i64 a, .int .i64 b] (by rfl) ?_
             refine (HP.out).mono ?_
             rintro e w5 ⟨rfl, o5⟩
             refine ⟨_, rfl, ?_⟩
             have d3 := o5.blk_cell 3
             simp only [rnetA, List.getElem?_toArray, List.getElem?_cons_zero, List.getElem?_cons_succ] at d3
             obtain ⟨_, _, z1, e0, -⟩ := (o5.pick (L := [_, _, _]) [2]).cell (prow_get (j := 0) HM.out (by omega))
             cases z1
             obtain ⟨_, _, z1, e1, -⟩ := (o5.pick (L := [_, _, _]) [2]).cell (prow_get (j := 1) HM.out (by omega))
             cases z1
             simp only [pcells, List.getElem?_cons_zero, List.getElem?_cons_succ, ← Nat.add_assoc, Nat.add_zero] at e0 e1
             have O5 := Lib.hid o5
             clear o5))
      clear c3 k0 k1 d3 e0 e1
      generalize hbb : ((p.1 == mn) && (p.2 == mx)) = bb
      have hiff : bb = true ↔ p = (mn, mx) := by
        rw [← hbb, Bool.and_eq_true, beq_iff_eq, beq_iff_eq, Prod.ext_iff]
      have HI := Lib.hid hiff
      clear hbb hiff
      cases bb with
      | true =>
        have hin2 : inC C a b = true := by
          have := List.mem_of_getElem? HM.out
          rw [inC, HX.out.1, HX.out.2, ← HI.out.1 rfl]
          exact decide_eq_true this
        have HR := Lib.hid (show rlinkedB nodes C a b = false by rw [rlinkedB, hin2, Bool.not_true, Bool.and_false])
        clear hin2
        go_wp2
        go_ret
        exact ⟨by rw [HR.out]; rfl, Own.rnet_shut O5.out⟩
      | false =>
        have HPP := Lib.hid (show p ≠ (mn, mx) from fun h => Bool.noConfusion (HI.out.2 h))
        go_wp2
        go_roundw
        case rel =>
          refine ⟨i + 1, by omega, by go_num, ?_, O5.out⟩
          rw [List.take_add_one, HM.out]
          intro x hx
          rcases List.mem_append.1 hx with hx | hx
          · exact HN.out x hx
          · obtain rfl : x = p := by simpa using hx
            rw [HX.out.1, HX.out.2]; exact HPP.out
        case measure => simp [intOf]; omega
    · have i1 : ¬ (i : Int) < (C.length : Int) := by omega
      obtain rfl : i = C.length := by omega
      have hno := HN.out
      rw [List.take_length] at hno
      have hin2 : inC C a b = false := decide_eq_false (fun h => hno _ h rfl)
      have HT := Lib.hid (rtwo_own (Own.rnet_shut hown) a b)
      have HR := Lib.hid (show rlinkedB nodes C a b = twoB nodes a b by rw [rlinkedB, hin2, Bool.not_false, Bool.and_true])
      have HO := Lib.hid hown
      clear hown hno hin2
      go_wp2_with fail
      refine (HT.out).mono ?_
      rintro e w5 ⟨rfl, rfl⟩
      go_wp2
      go_ret
      exact ⟨by rw [HR.out]; rfl, Own.rnet_shut HO.out⟩
end
end Go.Proofs.Ytlhinhcbbknhcaa

/-
  Each of a queue: the iterator over its things, for every loop body.
  Conditions: the queue holds no more than a million things.
-/
import Derived.Test.YtbncicfbgfmekaaRangeOwnX
import Derived.Test.YtbncicfbgfmekaaQIs
import Derived.Shelf.Abstract
import Derived.OwnWalkIn
import Derived.TacticsInMore
import Derived.LoopNIn
import Derived.LoopIn
namespace Go.Proofs.Ytbncicfbgfmekaa
set_option linter.unusedVariables false
set_option linter.unusedSimpArgs false
open Go.RowKit Go.Shelf
attribute [local go_sem] Oper.semAt_some

def itEnc (x : Nat × Int) : Array Value := #[.int .i64 (x.1 : Int), .int .i64 x.2]
def itOk (xs : List Int) (pre : List (Nat × Int)) (x : Nat × Int) : Prop := x.1 = pre.length ∧ xs[pre.length]? = some x.2

set_option maxRecDepth 100000 in
set_option maxHeartbeats 4000000 in
theorem each1_iter (n : Nat) (hn : 1 ≤ n) {S : Nat → Prop} {w0 : World} {R : List SP} {g Bq : Nat} {room : Int} {xs : List Int} (hl : xs.length ≤ 1000000) :
    IterOwnX Fence.wide n Try.prog 52 #[.pointer (some ⟨Bq, 0, none⟩)] itEnc (itOk xs) (fun p => p.length = xs.length) (fun p => p ≠ [] ∧ p.length ≤ xs.length) S w0 (SP.blk Bq 35 #[.pointer (some ⟨g, 0, none⟩)] :: SP.quei g room xs :: R) := by
  intro l J Jx W h0 hY
  refine callsIn_of_wp Try.func52 rfl trivial ?_ rfl
  simp only [Try.ntmps52, List.size_toArray, List.length_cons, List.length_nil, Nat.reduceAdd, Nat.reduceSub, Array.replicate_succ, Array.replicate_zero, List.push_toArray, List.append_toArray, List.nil_append, List.cons_append]
  have HY := Lib.hid hY
  obtain ⟨m, hm⟩ : ∃ m, xs.length = m := ⟨_, rfl⟩
  have HM := Lib.hid hm
  have c0 := (h0.pick (L := [_, _]) [1]).blk_cell 0
  simp only [List.getElem?_toArray, List.getElem?_cons_zero] at c0
  have HI := Lib.hid (show Calls Try.prog 32 #[.pointer (some ⟨g, 0, none⟩)] W fun e w' => ∃ A1 c1, e = .returned (.slice A1 m c1) ∧ Own S w0 w' (J [] :: SP.row 3 1 (.slice A1 m c1) (valsi xs) :: SP.blk Bq 35 #[.pointer (some ⟨g, 0, none⟩)] :: SP.quei g room xs :: R) from by
    refine (SpecAt.use (qitemsi_spec W g room xs hl) (h0.pick (L := [_, _, _]) [2, 0, 1])).mono ?_
    rintro e w' ⟨A', ⟨A2, c2, he, rfl⟩, o2, -⟩
    rw [hm] at he o2
    exact ⟨A2, c2, he, (Own.flat (L := [_, _]) o2).pick (L := [_, _, _, _]) [2, 0, 3, 1]⟩)
  rw [hm] at hl
  clear hY h0 hm
  gi_wp2_with fail
  refine ⟨trivial, (callsIn_wide.2 HI.out).mono ?_⟩
  rintro e w1 ⟨A1, c1, rfl, o1⟩
  have O1 := Lib.hid o1
  clear o1 HI c0
  gi_wp2
  gi_loopw [8] (fun t wr => ∃ pre : List (Nat × Int), t = .int .i64 (pre.length : Nat) ∧ pre.length ≤ m ∧ Own S w0 wr (J pre :: SP.row 3 1 (.slice A1 m c1) (valsi xs) :: SP.blk Bq 35 #[.pointer (some ⟨g, 0, none⟩)] :: SP.quei g room xs :: R)) (fun t _ => m - (intOf t).toNat)
  case atStart => exact ⟨[], rfl, Nat.zero_le _, O1.out⟩
  case round =>
    obtain ⟨pre, rfl, hle, hown⟩ := hrel
    clear O1
    obtain ⟨k, hk⟩ : ∃ k, pre.length = k := ⟨_, rfl⟩
    have HK := Lib.hid hk
    rw [hk] at hle ⊢
    by_cases hlt : k < m
    · have hlt' : (k : Int) < (m : Int) := by omega
      obtain ⟨x, hx⟩ : ∃ x, xs[k]? = some x := ⟨_, List.getElem?_eq_getElem (by rw [HM.out]; exact hlt)⟩
      obtain ⟨ga, oa, rfl, q1, -⟩ := (hown.pick (L := [_, _]) [1]).cell (j := k) (u := .int .i64 x) (by rw [valsi, List.getElem?_map, hx]; rfl)
      obtain ⟨fn, tmps, assign, body, hy, hR⟩ := HY.out pre (k, x) wr _ ⟨hk.symm, by rw [hk]; exact hx⟩ hown
      dsimp only [itEnc] at hy
      clear hown hk hx
      gi_wp2
      refine hR.mono ?_
      rintro e W3 (⟨rfl, own3⟩ | ⟨rfl, own3⟩)
      · have O3 := Lib.hid own3
        clear own3
        gi_wp2
        go_roundw
        case rel =>
          refine ⟨pre ++ [(k, x)], ?_, ?_, O3.out⟩
          · rw [List.length_append, HK.out]; go_num
          · rw [List.length_append, HK.out]; simp only [List.length_cons, List.length_nil]; omega
        case measure => simp [intOf]; omega
      · have O3 := Lib.hid own3
        clear own3
        gi_wp2
        refine bodyPost_ret (results_none rfl _ _ _) rfl ?_
        refine ⟨⟨_, rfl⟩, .inr ⟨pre ++ [(k, x)], ⟨by simp, ?_⟩, O3.out.pick (L := [_, _]) [0]⟩⟩
        rw [List.length_append, HK.out, HM.out]; simp only [List.length_cons, List.length_nil]; omega
    · have hlt' : ¬ (k : Int) < (m : Int) := by omega
      have HO := Lib.hid hown
      clear hown hk
      gi_wp2
      go_end0
      exact ⟨⟨_, rfl⟩, .inl ⟨pre, by rw [HK.out, HM.out]; omega, HO.out.pick (L := [_, _]) [0]⟩⟩

set_option maxHeartbeats 400000 in
theorem eachf_calls (w : World) (g : Nat) : Calls Try.prog 48 #[.pointer (some ⟨g, 0, none⟩)] w fun e w' => e = .returned (.func (.func 52) #[] #[.pointer (some ⟨w.heap.size, 0, none⟩)]) ∧ w.alloc (.cells #[.pointer (some ⟨g, 0, none⟩)] 35) = w' := by
  go_enter Try.func48, Try.ntmps48
  go_wp2
  go_ret
  exact ⟨rfl, rfl⟩
end Go.Proofs.Ytbncicfbgfmekaa

/-
  first: a log of which the document fixes all.
  Conditions: none.
-/
import Derived.Test.YtepnkhiclgjmpaaLog9
import Derived.Test.YtepnkhiclgjmpaaOkLaws
import Derived.Test.YtepnkhiclgjmpaaRangeOwn
import Derived.Lib.SlBytesConst
import Derived.Laws.IdiomStrings
import Derived.Laws.StructEq
namespace Go.Proofs.Ytepnkhiclgjmpaa
set_option linter.unusedVariables false
set_option linter.unusedSimpArgs false
open Go.RowKit

theorem EReads.of_row {S : Nat → Prop} {w0 : World} {R : List SP} {qb : Nat} {L : List E} {ds : List Value} (hl : ds.length = L.length)
    (hd : ∀ (i : Nat) (m : E), L[i]? = some m → ∃ Ad cd, ds[i]? = some (.slice Ad m.dat.length cd) ∧ m.dat.length ≤ cd ∧ cd ≤ maxLen ∧ Reads S w0 R Ad m.dat) :
    EReads S w0 (SP.blk qb 26 (mrow L ds).toArray :: R) (some ⟨qb, 0, none⟩) L := fun W X hX i m hm => by
  have ho := hX.perm List.perm_middle
  obtain ⟨Ad, cd, hdi, h1, h2, hr⟩ := hd i m hm
  have hc : ∀ k u, k < 4 → (mcells m (.slice Ad m.dat.length cd))[k]? = some u → W.cell? ⟨qb, i * 4 + k, none⟩ = some u := fun k u hk hu => by
    rw [ho.blk_cell, List.getElem?_toArray, mrow_get hm hdi hk, hu]
  refine ⟨qb, 0, Ad, cd, rfl, ho.blk_lt, ?_, ?_, ?_, ?_, h1, h2, ?_⟩
  · rw [Nat.zero_add]; exact hc 0 _ (by omega) rfl
  · rw [Nat.zero_add]; exact hc 1 _ (by omega) rfl
  · rw [Nat.zero_add]; exact hc 2 _ (by omega) rfl
  · rw [Nat.zero_add]; exact hc 3 _ (by omega) rfl
  · exact hr W (X ++ [_]) (by rw [List.append_assoc]; exact hX)
theorem reads_const {S : Nat → Prop} {w0 : World} {R : List SP} {q : Nat} {b : List UInt8} {n m : Nat} : Reads S w0 (SP.obj q (.cells (bts b).toArray 5 (n, m)) :: R) (some ⟨q, 0, none⟩) b := fun W X hX j u hu =>
  ⟨q, 0, rfl, by rw [cell_of_row _ _ _ (bts b).toArray 5 (n, m) (hX.perm List.perm_middle).head.2, Nat.zero_add]; simpa using hu⟩

def eA : E := ⟨1, 3, 1, [97]⟩
def eB : E := ⟨2, 4, 1, []⟩
def eC : E := ⟨2, 5, 1, []⟩
def eD : E := ⟨3, 5, 0, []⟩
def x0 : Lg := ⟨2, 1, [eA, eB, eC], 5, 5, 3, 2, 2⟩
def x1 : Lg := ⟨2, 1, [eA, eB, eC], 5, 5, 3, 3, 2⟩
def x2 : Lg := ⟨2, 1, [eA, eB, eC], 5, 5, 3, 3, 3⟩
def x3 : Lg := ⟨2, 1, [eA, eB, eD], 4, 4, 5, 3, 3⟩
theorem x0_new : newL 2 1 3 [eA, eB, eC] = (some x0, 0) := rfl
theorem x1_next : x0.next 9 = ([eA], x1) := rfl
theorem x1_app : x1.applied 4 = (false, x1) := rfl
theorem x2_app : x1.applied 3 = (true, x2) := rfl
theorem x2_try : x2.try_ 4 1 9 [] = ((0, false), x2) := rfl
theorem x3_try : x2.try_ 4 2 9 [eD] = ((5, true), x3) := rfl
theorem x3_hint : x3.hint 5 1 = 3 := rfl
theorem x0_ok : x0.Ok := (newL_isOk x0_new).1
theorem x1_ok : x1.Ok := by have := next_isOk x0_ok 9; rwa [x1_next] at this
theorem x2_ok : x2.Ok := by have := applied_isOk x1_ok 3; rwa [x2_app] at this
theorem tried_eD : Tried 4 [eD] := ⟨fun j m hm => by
  cases j with
  | zero => simp at hm; subst hm; exact ⟨rfl, by decide, by decide⟩
  | succ j => simp at hm, fun m hm => by simp at hm; subst hm; decide⟩
theorem tried_nil (i : Int) : Tried i [] := ⟨fun j m hm => by simp at hm, fun m hm => by simp at hm⟩
theorem x3_ok : x3.Ok := by have := try_isOk (c := 9) (t := 2) x2_ok tried_eD; rwa [x3_try] at this

def marks5 (a b c d e : Int) : Value := .agg #[.int .i64 a, .int .i64 b, .int .i64 c, .int .i64 d, .int .i64 e]
def same5 (a b c d e a' b' c' d' e' : Int) : Bool := a == a' && (b == b' && (c == c' && (d == d' && e == e')))
theorem part65 (W : World) (a b c d e : Value) : (Go.part 3 #[a, b, c, d, e] 0).run Try.prog W = .ok a W ∧ (Go.part 3 #[a, b, c, d, e] 1).run Try.prog W = .ok b W ∧ (Go.part 3 #[a, b, c, d, e] 2).run Try.prog W = .ok c W ∧ (Go.part 3 #[a, b, c, d, e] 3).run Try.prog W = .ok d W ∧ (Go.part 3 #[a, b, c, d, e] 4).run Try.prog W = .ok e W := by
  have h : (Go.isAgg 3).run Try.prog W = .ok false W := by kernel_rfl
  refine ⟨?_, ?_, ?_, ?_, ?_⟩ <;> simp [Go.part, h]
theorem eq65' (n : Nat) (W : World) (a b c d e a' b' c' d' e' : Int) : (Op.equalIn (n + 1 + 1) 65 (marks5 a b c d e) (marks5 a' b' c' d' e')).run Try.prog W = .ok (same5 a b c d e a' b' c' d' e') W := by
  have h1 := fun (x y : Int) => run_equalIn_int (P := Try.prog) W n 3 .i64 .i64 x y Try.underlying3
  have hp := fun a b c d e => part65 W a b c d e
  unfold marks5
  rw [run_equalIn_struct W (n + 1) 65 _ _ (by kernel_rfl) (by kernel_rfl)]
  have hf : (Program.fieldsOf Try.prog 65).toList = [⟨"Handed", 3, 0, false, "", "", 0⟩, ⟨"Stable", 3, 1, false, "", "", 8⟩, ⟨"Committed", 3, 2, false, "", "", 16⟩, ⟨"Applying", 3, 3, false, "", "", 24⟩, ⟨"Applied", 3, 4, false, "", "", 32⟩] := by kernel_rfl
  rw [hf]
  unfold same5
  cases q1 : a == a' <;> cases q2 : b == b' <;> cases q3 : c == c' <;> cases q4 : d == d' <;> cases q5 : e == e' <;> simp [Op.eqFields, h1, hp, q1, q2, q3, q4, q5]
theorem eq65 (W : World) (a b c d e a' b' c' d' e' : Int) : (Op.equalIn 10000 65 (.agg #[.int .i64 a, .int .i64 b, .int .i64 c, .int .i64 d, .int .i64 e]) (.agg #[.int .i64 a', .int .i64 b', .int .i64 c', .int .i64 d', .int .i64 e'])).run Try.prog W = .ok (same5 a b c d e a' b' c' d' e') W := eq65' 9998 W a b c d e a' b' c' d' e'
theorem same5_self (a b c d e : Int) : same5 a b c d e a b c d e = true := by simp [same5]

set_option maxRecDepth 100000 in
set_option maxHeartbeats 4000000 in
theorem first_own {S : Nat → Prop} {w0 w : World} {R : List SP} (h : Own S w0 w R) : Calls Try.prog 12 #[] w fun e w' => e = .returned (.bool true) ∧ Own S w0 w' R := by
  have kc := fun (w : World) (C : Array Value) (n c : Nat) => Lib.run_convert_bytes_const (P := Try.prog) w 24 5 C n c Try.underlying24 Try.underlying5
  have o1 := h.allocObj (.cells (bts [97]).toArray 5 (1, 2))
  have o2 := o1.alloc (mrow [eA, eB, eC] [.slice (some ⟨w.heap.size, 0, none⟩) 1 1, .slice none 0 0, .slice none 0 0]).toArray 26
  rw [World.size_alloc] at o2
  have hE : EReads S w0 (SP.blk (w.heap.size + 1) 26 (mrow [eA, eB, eC] [.slice (some ⟨w.heap.size, 0, none⟩) 1 1, .slice none 0 0, .slice none 0 0]).toArray :: SP.obj w.heap.size (.cells (bts [97]).toArray 5 (1, 2)) :: R) (some ⟨w.heap.size + 1, 0, none⟩) [eA, eB, eC] := by
    refine EReads.of_row rfl ?_
    intro i m hm
    match i, hm with
    | 0, hm => simp at hm; subst hm; exact ⟨_, 1, rfl, Nat.le_refl _, by unfold maxLen; omega, reads_const⟩
    | 1, hm => simp at hm; subst hm; exact ⟨none, 0, rfl, Nat.le_refl _, Nat.zero_le _, fun W X hX => Rd.nil _ _⟩
    | 2, hm => simp at hm; subst hm; exact ⟨none, 0, rfl, Nat.le_refl _, Nat.zero_le _, fun W X hX => Rd.nil _ _⟩
    | i + 3, hm => simp at hm
  have hN := new_own (c := 3) (by decide) (by intro m hm; simp at hm; rcases hm with rfl | rfl | rfl <;> decide) o2 hE 2 1 3
  rw [x0_new] at hN
  have HN := Lib.hid hN
  have hq := eq65
  clear h o1 o2 hE hN
  go_enter Try.func12, Try.ntmps12
  go_wp2_with fail
  refine (HN.out).mono ?_
  rintro e w1 ⟨g, rfl, o1⟩
  have O1 := Lib.hid (o1.pick (L := [_, _, _]) [0])
  have HNum := Lib.hid (num_calls w1 0 ⟨by decide, by decide⟩)
  clear o1 HN kc
  go_wp2_with fail
  refine (HNum.out).mono ?_
  rintro e w2 ⟨rfl, rfl⟩
  have h2 := next_own x0_ok O1.out 9 ⟨by decide, by decide⟩
  rw [x1_next] at h2
  have H2 := Lib.hid h2
  clear h2 HNum
  go_wp2_with fail
  refine (H2.out).mono ?_
  rintro e w3 ⟨A3, c3, rfl, o3⟩
  have h3 := applied_own o3.swap 4
  rw [x1_app] at h3
  have H3 := Lib.hid h3
  clear o3 h3 H2 O1
  go_wp2_with fail
  refine (H3.out).mono ?_
  rintro e w4 ⟨rfl, o4⟩
  have h4 := applied_own o4 3
  rw [x2_app] at h4
  have H4 := Lib.hid h4
  clear o4 h4 H3
  go_wp2_with fail
  refine (H4.out).mono ?_
  rintro e w5 ⟨rfl, o5⟩
  have h5 := try_own (A := none) (cap := 0) (es := []) x2_ok o5 EReads.nil (Nat.le_refl _) (Nat.zero_le _) (by decide) 4 1 9 ⟨by decide, by decide⟩ (tried_nil 4)
  rw [x2_try] at h5
  have H5 := Lib.hid h5
  clear o5 h5 H4
  go_wp2_with fail
  refine (H5.out).mono ?_
  rintro e w6 ⟨rfl, o6⟩
  have o7 := o6.alloc #[.int .i64 3, .int .i64 5, .int .i64 0, .slice none 0 0] 26
  have h7 := try_own (A := some ⟨w6.heap.size, 0, none⟩) (cap := 1) (es := [eD]) x2_ok (o7.pick (L := [_, _, _]) [1, 0]) (by
    have := EReads.of_row (S := S) (w0 := w0) (R := R) (qb := w6.heap.size) (L := [eD]) (ds := [.slice none 0 0]) rfl (by
      intro i m hm
      match i, hm with
      | 0, hm => simp at hm; subst hm; exact ⟨none, 0, rfl, Nat.le_refl _, Nat.zero_le _, fun W X hX => Rd.nil _ _⟩
      | i + 1, hm => simp at hm)
    exact this) (Nat.le_refl _) (by unfold maxLen; omega) (by decide) 4 2 9 ⟨by decide, by decide⟩ tried_eD
  rw [x3_try] at h7
  have H7 := Lib.hid h7
  clear o6 o7 h7 H5
  go_wp2_with fail
  refine (H7.out).mono ?_
  rintro e w8 ⟨rfl, o8⟩
  have o9 := (o8.pick (L := [_]) [0]).alloc #[.int .i64 4, .int .i64 4, .int .i64 5, .int .i64 3, .int .i64 3] 65
  have O9 := Lib.hid o9
  clear o8 o9 H7
  go_upto_region 10 with (fail)
  obtain ⟨qm, hqm⟩ : ∃ qm, w8.heap.size = qm := ⟨_, rfl⟩
  obtain ⟨w9, hw9⟩ : ∃ w9, w8.alloc (.cells #[.int .i64 4, .int .i64 4, .int .i64 5, .int .i64 3, .int .i64 3] 65) = w9 := ⟨_, rfl⟩
  rw [hw9, hqm] at O9
  simp only [hw9, hqm]
  clear hw9 hqm
  have d0 := O9.out.blk_cell 0
  have d1 := O9.out.blk_cell 1
  have d2 := O9.out.blk_cell 2
  have d3 := O9.out.blk_cell 3
  have d4 := O9.out.blk_cell 4
  simp only [List.getElem?_toArray, List.getElem?_cons_zero, List.getElem?_cons_succ] at d0 d1 d2 d3 d4
  have hmk := marks_own (O9.out.swap).drew
  rw [show marksV x3 = .agg #[.int .i64 4, .int .i64 4, .int .i64 5, .int .i64 3, .int .i64 3] from rfl] at hmk
  have HMk := Lib.hid hmk
  clear hmk
  have hs5 : same5 4 4 5 3 3 4 4 5 3 3 = true := rfl
  go_region_held3 (fun W => W.cell? ⟨qm, 0, none⟩ = some (.int .i64 4) ∧ W.cell? ⟨qm, 1, none⟩ = some (.int .i64 4) ∧ W.cell? ⟨qm, 2, none⟩ = some (.int .i64 5) ∧ W.cell? ⟨qm, 3, none⟩ = some (.int .i64 3) ∧ W.cell? ⟨qm, 4, none⟩ = some (.int .i64 3))
    (first | go_keep | exact ⟨d0, d1, d2, d3, d4⟩ | exact ⟨e0, e1, e2, e3, e4⟩ | exact ⟨f0, f1, f2, f3, f4⟩)
    (first
      | (refine step_callW 31 _ _ rfl Try.func31 (by kernel_rfl) (by kernel_rfl) #[.pointer (some ⟨g, 0, none⟩)] (by rfl) (by rfl) ?_
         refine (HMk.out).mono ?_
         rintro e wa ⟨rfl, oa⟩
         refine ⟨_, rfl, ?_⟩
         have OA := Lib.hid oa
         have e0 : wa.cell? ⟨qm, 0, none⟩ = some (.int .i64 4) := oa.swap.blk_cell 0
         have e1 : wa.cell? ⟨qm, 1, none⟩ = some (.int .i64 4) := oa.swap.blk_cell 1
         have e2 : wa.cell? ⟨qm, 2, none⟩ = some (.int .i64 5) := oa.swap.blk_cell 2
         have e3 : wa.cell? ⟨qm, 3, none⟩ = some (.int .i64 3) := oa.swap.blk_cell 3
         have e4 : wa.cell? ⟨qm, 4, none⟩ = some (.int .i64 3) := oa.swap.blk_cell 4
         have hh := hint_own x3_ok oa 5 1 ⟨by decide, by decide⟩
         rw [x3_hint] at hh
         have HH := Lib.hid hh
         clear oa hh)
      | (refine step_callW 24 _ _ rfl Try.func24 (by kernel_rfl) (by kernel_rfl) #[.pointer (some ⟨g, 0, none⟩), .int .i64 5, .int .i64 1] (by rfl) (by rfl) ?_
         refine (HH.out).mono ?_
         rintro e wb ⟨rfl, ob⟩
         refine ⟨_, rfl, ?_⟩
         have OB := Lib.hid ob
         have f0 : wb.cell? ⟨qm, 0, none⟩ = some (.int .i64 4) := ob.swap.blk_cell 0
         have f1 : wb.cell? ⟨qm, 1, none⟩ = some (.int .i64 4) := ob.swap.blk_cell 1
         have f2 : wb.cell? ⟨qm, 2, none⟩ = some (.int .i64 5) := ob.swap.blk_cell 2
         have f3 : wb.cell? ⟨qm, 3, none⟩ = some (.int .i64 3) := ob.swap.blk_cell 3
         have f4 : wb.cell? ⟨qm, 4, none⟩ = some (.int .i64 3) := ob.swap.blk_cell 4
         clear ob))
  go_wp2
  go_ret
  exact ⟨rfl, by first | exact OB.out.pick (L := [_, _]) [] | exact OB.out.pick (L := [_, _, _]) [] | exact OB.out.pick (L := [_, _, _, _]) []⟩
end Go.Proofs.Ytepnkhiclgjmpaa

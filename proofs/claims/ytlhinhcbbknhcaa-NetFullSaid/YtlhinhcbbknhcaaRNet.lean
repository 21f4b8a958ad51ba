/-
  The document's network as memory that a law owns; its New, there, two, pair, Linked.
  Conditions: none beyond each theorem's own.
-/
import Derived.Test.YtlhinhcbbknhcaaCopy
import Derived.Test.YtlhinhcbbknhcaaAppOwn
import Derived.Laws.StructEq
import Derived.Deep.RegionHeld3
import Derived.Deep.Cut
import Derived.WalkSpells
namespace Go.Proofs.Ytlhinhcbbknhcaa
set_option linter.unusedVariables false
set_option linter.unusedSimpArgs false
open Go.RowKit

def rnetA (nodes : Int) (v : Value) (many : Int) (u : Value) : Array Value := #[.int .i64 nodes, v, .int .i64 many, u]
def pcells (p : Int × Int) : List Value := [.int .i64 p.1, .int .i64 p.2]
def prow (C : List (Int × Int)) : List Value := (C.map pcells).flatten
theorem ptwo (C : List (Int × Int)) : ∀ l, l ∈ C.map pcells → l.length = 2 := fun l hl => by
  rw [List.mem_map] at hl
  obtain ⟨x, -, rfl⟩ := hl
  rfl
theorem prow_length (C : List (Int × Int)) : (prow C).length = C.length * 2 := by rw [prow, flat_length _ (ptwo C), List.length_map]
theorem prow_get {C : List (Int × Int)} {i j : Nat} {p : Int × Int} (h : C[i]? = some p) (hj : j < 2) : (prow C)[i * 2 + j]? = (pcells p)[j]? := flat_get _ (ptwo C) (by rw [List.getElem?_map, h]; rfl) hj
theorem prow_append (C : List (Int × Int)) (p : Int × Int) : prow (C ++ [p]) = prow C ++ pcells p := by simp [prow]
def SP.rnet (g : Nat) (nodes many : Int) (L : List M) (C : List (Int × Int)) : SP := SP.ex fun v : Value => SP.ex fun u : Value => SP.stars [SP.blk g 49 (rnetA nodes v many u), SP.mails 60 v L, SP.row 66 2 u (prow C)]

section
variable {S : Nat → Prop} {w0 w : World} {R : List SP} {g : Nat} {nodes many : Int} {L : List M} {C : List (Int × Int)}
theorem Own.rnet_open (h : Own S w0 w (SP.rnet g nodes many L C :: R)) : ∃ A c B k, L.length ≤ c ∧ C.length ≤ k ∧ Own S w0 w (SP.blk g 49 (rnetA nodes (.slice A L.length c) many (.slice B C.length k)) :: SP.mails 60 (.slice A L.length c) L :: SP.row 66 2 (.slice B C.length k) (prow C) :: R) := by
  obtain ⟨v, h⟩ := h.unex
  obtain ⟨u, h⟩ := h.unex
  have h1 := Own.flat (L := [_, _, _]) h
  obtain ⟨A, c, ds, rfl, hd, hc, -, -⟩ := (h1.pick (L := [_, _]) [1]).mails_open
  obtain ⟨B, k, rfl, hk, -⟩ := SP.row_shape (by decide) (h1.pick (L := [_, _, _]) [2]).head (prow_length C)
  exact ⟨A, c, B, k, hc, hk, h1⟩
theorem Own.rnet_shut {v u : Value} (h : Own S w0 w (SP.blk g 49 (rnetA nodes v many u) :: SP.mails 60 v L :: SP.row 66 2 u (prow C) :: R)) : Own S w0 w (SP.rnet g nodes many L C :: R) :=
  Own.mkex v (Own.mkex u (Own.unflat (L := [_, _, _]) h))

set_option maxHeartbeats 400000 in
theorem rnew_no (w : World) (nodes : Int) (h : ¬ (1 ≤ nodes ∧ nodes ≤ 7)) : Calls Try.prog 16 #[.int .i64 nodes] w fun e w' => e = .returned (.pointer none) ∧ w = w' := by
  by_cases h1 : nodes < 1
  · go_enter Try.func16, Try.ntmps16
    go_wp2
    go_ret
    exact ⟨rfl, rfl⟩
  · have h2 : 7 < nodes := by omega
    go_enter Try.func16, Try.ntmps16
    go_wp2
    go_ret
    exact ⟨rfl, rfl⟩
set_option maxHeartbeats 400000 in
theorem rnew_yes (nodes : Int) (h1 : 1 ≤ nodes) (h2 : nodes ≤ 7) (h : Own S w0 w R) :
    Calls Try.prog 16 #[.int .i64 nodes] w fun e w' => ∃ g, e = .returned (.pointer (some ⟨g, 0, none⟩)) ∧ Own S w0 w' (SP.rnet g nodes 0 [] [] :: R) := by
  have H := Lib.hid (((h.add (B := SP.row 66 2 (.slice none 0 0) (prow [])) (SP.row_nil _ _ _ _)).mails_nil 60).alloc (rnetA nodes (.slice none 0 0) 0 (.slice none 0 0)) 49)
  unfold rnetA at H
  clear h
  go_enter Try.func16, Try.ntmps16
  go_wp2
  go_ret
  exact ⟨_, rfl, Own.rnet_shut H.out⟩

set_option maxHeartbeats 400000 in
theorem rthere_own (h : Own S w0 w (SP.rnet g nodes many L C :: R)) (i : Int) :
    Calls Try.prog 46 #[.pointer (some ⟨g, 0, none⟩), .int .i64 i] w fun e w' => e = .returned (.bool (thereB i L.length)) ∧ w = w' := by
  obtain ⟨A, c, B, k, -, -, h1⟩ := h.rnet_open
  have c1 := h1.blk_cell 1
  simp only [rnetA, List.getElem?_toArray, List.getElem?_cons_zero, List.getElem?_cons_succ] at c1
  obtain ⟨n, hn⟩ : ∃ n, L.length = n := ⟨_, rfl⟩
  rw [hn] at c1 ⊢
  clear h h1 hn
  by_cases h1 : 0 ≤ i
  · by_cases h2 : i < (n : Int)
    · have hr := Lib.hid (show thereB i n = true by simp [thereB]; exact ⟨h1, h2⟩)
      go_enter Try.func46, Try.ntmps46
      go_wp2
      go_ret
      exact ⟨by rw [hr.out]; rfl, rfl⟩
    · have hr := Lib.hid (show thereB i n = false by simp [thereB]; omega)
      go_enter Try.func46, Try.ntmps46
      go_wp2
      go_ret
      exact ⟨by rw [hr.out]; rfl, rfl⟩
  · have hr := Lib.hid (show thereB i n = false by simp [thereB]; omega)
    go_enter Try.func46, Try.ntmps46
    go_wp2
    go_ret
    exact ⟨by rw [hr.out]; rfl, rfl⟩

set_option maxHeartbeats 1600000 in
theorem rtwo_own (h : Own S w0 w (SP.rnet g nodes many L C :: R)) (a b : Int) :
    Calls Try.prog 47 #[.pointer (some ⟨g, 0, none⟩), .int .i64 a, .int .i64 b] w fun e w' => e = .returned (.bool (twoB nodes a b)) ∧ w = w' := by
  obtain ⟨A, c, B, k, -, -, h1⟩ := h.rnet_open
  have h0 := h1.blk_cell 0
  simp only [rnetA, List.getElem?_toArray, List.getElem?_cons_zero, List.getElem?_cons_succ] at h0
  clear h h1
  have key : (∃ r, twoB nodes a b = r ∧ Calls Try.prog 47 #[.pointer (some ⟨g, 0, none⟩), .int .i64 a, .int .i64 b] w fun e w' => e = .returned (.bool r) ∧ w = w') := by
    by_cases h2 : 1 ≤ a
    · by_cases h3 : a ≤ nodes
      · by_cases h4 : 1 ≤ b
        · by_cases h5 : b ≤ nodes
          · by_cases h1 : a = b
            · subst h1
              have hq : ((a : Int) != a) = false := by simp
              refine ⟨false, decide_eq_false (by unfold twoP; omega), ?_⟩
              go_enter Try.func47, Try.ntmps47
              go_wp2
              go_ret
              exact ⟨rfl, rfl⟩
            · have hq : ((a : Int) != b) = true := by simpa using h1
              refine ⟨true, decide_eq_true ⟨h1, h2, h3, h4, h5⟩, ?_⟩
              go_enter Try.func47, Try.ntmps47
              go_wp2
              go_ret
              exact ⟨rfl, rfl⟩
          · refine ⟨false, decide_eq_false (by unfold twoP; omega), ?_⟩
            go_enter Try.func47, Try.ntmps47
            go_wp2
            go_ret
            exact ⟨rfl, rfl⟩
        · refine ⟨false, decide_eq_false (by unfold twoP; omega), ?_⟩
          go_enter Try.func47, Try.ntmps47
          go_wp2
          go_ret
          exact ⟨rfl, rfl⟩
      · refine ⟨false, decide_eq_false (by unfold twoP; omega), ?_⟩
        go_enter Try.func47, Try.ntmps47
        go_wp2
        go_ret
        exact ⟨rfl, rfl⟩
    · refine ⟨false, decide_eq_false (by unfold twoP; omega), ?_⟩
      go_enter Try.func47, Try.ntmps47
      go_wp2
      go_ret
      exact ⟨rfl, rfl⟩
  obtain ⟨r, hr, h⟩ := key
  rw [hr]
  exact h

theorem zero66 (W : World) : (zeroValue 66).run Try.prog W = .ok (.agg #[.int .i64 0, .int .i64 0]) W := by kernel_rfl
set_option maxHeartbeats 800000 in
theorem pair_own (h : Own S w0 w R) (a b : Int) :
    Calls Try.prog 48 #[.int .i64 a, .int .i64 b] w fun e w' => e = .returned (.agg #[.int .i64 (min a b), .int .i64 (max a b)]) ∧ Own S w0 w' R := by
  have O1 := Lib.hid (fun x y : Int => (h.alloc #[.int .i64 x, .int .i64 y] 66).pop)
  have hz := zero66
  clear h
  rcases Int.lt_trichotomy a b with h1 | h1 | h1
  · have e1 : min a b = a := by omega
    have e2 : max a b = b := by omega
    rw [e1, e2]
    have h2 : ¬ b ≤ a := by omega
    clear e1 e2
    go_enter Try.func48, Try.ntmps48
    go_wp2
    all_goals
      refine bodyPost_ret (v := .agg #[.int .i64 a, .int .i64 b]) ?_ rfl ⟨rfl, O1.out a b⟩
      simp [results, go_sem, Try.results48]
  · subst h1
    have e1 : min a a = a := by omega
    have e2 : max a a = a := by omega
    rw [e1, e2]
    clear e1 e2
    go_enter Try.func48, Try.ntmps48
    go_wp2
    all_goals
      refine bodyPost_ret (v := .agg #[.int .i64 a, .int .i64 a]) ?_ rfl ⟨rfl, O1.out a a⟩
      simp [results, go_sem, Try.results48]
  · have e1 : min a b = b := by omega
    have e2 : max a b = a := by omega
    rw [e1, e2]
    have h2 : ¬ a ≤ b := by omega
    clear e1 e2
    go_enter Try.func48, Try.ntmps48
    go_wp2
    all_goals
      refine bodyPost_ret (v := .agg #[.int .i64 b, .int .i64 a]) ?_ rfl ⟨rfl, O1.out b a⟩
      simp [results, go_sem, Try.results48]

theorem sizeOf3 (W : World) : (Go.sizeOf 3).run Try.prog W = .ok 1 W := by kernel_rfl
theorem part3 (W : World) (x y : Value) : (Go.part 3 #[x, y] 0).run Try.prog W = .ok x W ∧ (Go.part 3 #[x, y] 1).run Try.prog W = .ok y W := by
  have h : (Go.isAgg 3).run Try.prog W = .ok false W := by kernel_rfl
  constructor <;> simp [Go.part, h]
theorem eq66' (n : Nat) (W : World) (a b c d : Int) : (Op.equalIn (n + 1 + 1) 66 (.agg #[.int .i64 a, .int .i64 b]) (.agg #[.int .i64 c, .int .i64 d])).run Try.prog W = .ok (a == c && b == d) W := by
  have h1 := run_equalIn_int (P := Try.prog) W n 3 .i64 .i64 a c Try.underlying3
  have h2 := run_equalIn_int (P := Try.prog) W n 3 .i64 .i64 b d Try.underlying3
  have h3 := fun x y => (part3 W x y).1
  have h4 := fun x y => (part3 W x y).2
  rw [Op.equalIn]
  simp only [Sem.run_bind, run_underlying Try.underlying66, Result.andThen_ok, sizeOf3]
  cases e1 : a == c <;> cases e2 : b == d <;> simp [Std.Legacy.Range.forIn_eq_forIn_range', List.range', h1, h2, h3, h4, e1, e2]
theorem eq66 (W : World) (a b c d : Int) : (Op.equalIn 10000 66 (.agg #[.int .i64 a, .int .i64 b]) (.agg #[.int .i64 c, .int .i64 d])).run Try.prog W = .ok (a == c && b == d) W := eq66' 9998 W a b c d
end
end Go.Proofs.Ytlhinhcbbknhcaa

/-
  two, there, Len, Linked, New of a network.
  Conditions: the cells that are read hold what they say.
-/
import Derived.Test.YtlhinhcbbknhcaaNet
namespace Go.Proofs.Ytlhinhcbbknhcaa
set_option linter.unusedVariables false
set_option linter.unusedSimpArgs false
open Go.RowKit

def twoP (nodes a b : Int) : Prop := a ≠ b ∧ 1 ≤ a ∧ a ≤ nodes ∧ 1 ≤ b ∧ b ≤ nodes
instance (nodes a b : Int) : Decidable (twoP nodes a b) := by unfold twoP; infer_instance
def twoB (nodes a b : Int) : Bool := decide (twoP nodes a b)

set_option maxHeartbeats 1600000 in
theorem two_calls (w : World) (g : Nat) (nodes a b : Int) (h0 : w.cell? ⟨g, 0, none⟩ = some (.int .i64 nodes)) :
    Calls Try.prog 28 #[.pointer (some ⟨g, 0, none⟩), .int .i64 a, .int .i64 b] w fun e w' => e = .returned (.bool (twoB nodes a b)) ∧ w = w' := by
  have key : (∃ r, twoB nodes a b = r ∧ Calls Try.prog 28 #[.pointer (some ⟨g, 0, none⟩), .int .i64 a, .int .i64 b] w fun e w' => e = .returned (.bool r) ∧ w = w') := by
    by_cases h1 : a = b
    · subst h1
      have hq : ((a : Int) != a) = false := by simp
      refine ⟨false, decide_eq_false (by unfold twoP; omega), ?_⟩
      go_enter Try.func28, Try.ntmps28
      go_wp2
      go_ret
      exact ⟨rfl, rfl⟩
    · have hq : ((a : Int) != b) = true := by simpa using h1
      by_cases h2 : 1 ≤ a
      · by_cases h3 : a ≤ nodes
        · by_cases h4 : 1 ≤ b
          · by_cases h5 : b ≤ nodes
            · refine ⟨true, decide_eq_true ⟨h1, h2, h3, h4, h5⟩, ?_⟩
              go_enter Try.func28, Try.ntmps28
              go_wp2
              go_ret
              exact ⟨rfl, rfl⟩
            · refine ⟨false, decide_eq_false (by unfold twoP; omega), ?_⟩
              go_enter Try.func28, Try.ntmps28
              go_wp2
              go_ret
              exact ⟨rfl, rfl⟩
          · refine ⟨false, decide_eq_false (by unfold twoP; omega), ?_⟩
            go_enter Try.func28, Try.ntmps28
            go_wp2
            go_ret
            exact ⟨rfl, rfl⟩
        · refine ⟨false, decide_eq_false (by unfold twoP; omega), ?_⟩
          go_enter Try.func28, Try.ntmps28
          go_wp2
          go_ret
          exact ⟨rfl, rfl⟩
      · refine ⟨false, decide_eq_false (by unfold twoP; omega), ?_⟩
        go_enter Try.func28, Try.ntmps28
        go_wp2
        go_ret
        exact ⟨rfl, rfl⟩
  obtain ⟨r, hr, h⟩ := key
  rw [hr]
  exact h

def thereB (i : Int) (n : Nat) : Bool := decide (0 ≤ i ∧ i < (n : Int))
set_option maxHeartbeats 400000 in
theorem there_calls (w : World) (g n c : Nat) (A : Option Addr) (i : Int) (h0 : w.cell? ⟨g, 65, none⟩ = some (.slice A n c)) :
    Calls Try.prog 30 #[.pointer (some ⟨g, 0, none⟩), .int .i64 i] w fun e w' => e = .returned (.bool (thereB i n)) ∧ w = w' := by
  by_cases h1 : 0 ≤ i
  · by_cases h2 : i < (n : Int)
    · have hr := Lib.hid (show thereB i n = true by simp [thereB]; exact ⟨h1, h2⟩)
      go_enter Try.func30, Try.ntmps30
      go_wp2
      go_ret
      exact ⟨by rw [hr.out]; rfl, rfl⟩
    · have hr := Lib.hid (show thereB i n = false by simp [thereB]; omega)
      go_enter Try.func30, Try.ntmps30
      go_wp2
      go_ret
      exact ⟨by rw [hr.out]; rfl, rfl⟩
  · have hr := Lib.hid (show thereB i n = false by simp [thereB]; omega)
    go_enter Try.func30, Try.ntmps30
    go_wp2
    go_ret
    exact ⟨by rw [hr.out]; rfl, rfl⟩

set_option maxHeartbeats 400000 in
theorem len_calls (w : World) (g n c : Nat) (A : Option Addr) (h0 : w.cell? ⟨g, 65, none⟩ = some (.slice A n c)) :
    Calls Try.prog 15 #[.pointer (some ⟨g, 0, none⟩)] w fun e w' => e = .returned (.int .i64 (n : Nat)) ∧ w = w' := by
  go_enter Try.func15, Try.ntmps15
  go_wp2
  go_ret
  exact ⟨rfl, rfl⟩

/-- Where the link of two nodes lies. -/
def at2 (a b : Int) : Nat := a.toNat * 8 + b.toNat
def linkedB (nodes : Int) (cut : List Bool) (a b : Int) : Bool := twoB nodes a b && !(cut.getD (at2 a b) false)
set_option maxHeartbeats 1600000 in
theorem linked_calls (w : World) (g : Nat) (nodes a b : Int) (cut : List Bool) (hn : nodes ≤ 7) (hcut : cut.length = 64) (h0 : w.cell? ⟨g, 0, none⟩ = some (.int .i64 nodes)) (hc : ∀ i x, cut[i]? = some x → w.cell? ⟨g, 1 + i, none⟩ = some (.bool x)) :
    Calls Try.prog 10 #[.pointer (some ⟨g, 0, none⟩), .int .i64 a, .int .i64 b] w fun e w' => e = .returned (.bool (linkedB nodes cut a b)) ∧ w = w' := by
  have ht := two_calls w g nodes a b h0
  by_cases h1 : twoP nodes a b
  · have htw : twoB nodes a b = true := by simpa [twoB] using h1
    rw [htw] at ht
    obtain ⟨h2, h3, h4, h5, h6⟩ := h1
    obtain ⟨x, hx⟩ : ∃ x, cut[at2 a b]? = some x := ⟨_, List.getElem?_eq_getElem (by rw [hcut, at2]; omega)⟩
    have hcell := hc _ _ hx
    have hl : linkedB nodes cut a b = !x := by rw [linkedB, htw, List.getD_eq_getElem?_getD, hx]; rfl
    rw [hl]
    obtain ⟨p, rfl⟩ := Int.eq_ofNat_of_zero_le (show 0 ≤ a by omega)
    obtain ⟨q, rfl⟩ := Int.eq_ofNat_of_zero_le (show 0 ≤ b by omega)
    simp only [at2, Int.toNat_natCast] at hcell
    rw [← Nat.add_assoc] at hcell
    have HT := Lib.hid ht
    clear ht htw hx hl hc hcut
    have p1 : p < 8 := by omega
    have p2 : q < 8 := by omega
    have p3 : (p : Int) < 8 := by omega
    have p4 : (q : Int) < 8 := by omega
    go_enter Try.func10, Try.ntmps10
    go_wp2_with fail
    refine (HT.out).mono ?_
    rintro e w' ⟨rfl, rfl⟩
    go_wp2
    go_ret
    exact ⟨rfl, rfl⟩
  · have htw : twoB nodes a b = false := by simpa [twoB] using h1
    have hl : linkedB nodes cut a b = false := by rw [linkedB, htw]; rfl
    rw [htw] at ht
    rw [hl]
    have HT := Lib.hid ht
    clear ht htw hl hc
    go_enter Try.func10, Try.ntmps10
    go_wp2_with fail
    refine (HT.out).mono ?_
    rintro e w' ⟨rfl, rfl⟩
    go_wp2
    go_ret
    exact ⟨rfl, rfl⟩

set_option maxHeartbeats 400000 in
theorem new_no (w : World) (nodes : Int) (h : ¬ (1 ≤ nodes ∧ nodes ≤ 7)) : Calls Try.prog 9 #[.int .i64 nodes] w fun e w' => e = .returned (.pointer none) ∧ w = w' := by
  by_cases h1 : nodes < 1
  · go_enter Try.func9, Try.ntmps9
    go_wp2
    go_ret
    exact ⟨rfl, rfl⟩
  · have h2 : 7 < nodes := by omega
    go_enter Try.func9, Try.ntmps9
    go_wp2
    go_ret
    exact ⟨rfl, rfl⟩
def cut0 : List Bool := List.replicate 64 false
theorem cut0_length : cut0.length = 64 := rfl
theorem netList_set_nodes (n nodes : Int) (cut : List Bool) (v : Value) (last : Int) : (netList n cut v last).toArray.setIfInBounds 0 (.int .i64 nodes) = (netList nodes cut v last).toArray := by simp [netList]
theorem zero57 (W : World) : (zeroValue 57).run Try.prog W = .ok (.agg (netList 0 cut0 (.slice none 0 0) 0).toArray) W := by kernel_rfl
set_option maxRecDepth 100000 in
set_option maxHeartbeats 1600000 in
theorem new_yes {S : Nat → Prop} {w0 w : World} {R : List SP} (nodes : Int) (h1 : 1 ≤ nodes) (h2 : nodes ≤ 7) (h : Own S w0 w R) :
    Calls Try.prog 9 #[.int .i64 nodes] w fun e w' => ∃ g, e = .returned (.pointer (some ⟨g, 0, none⟩)) ∧ Own S w0 w' (SP.net g nodes cut0 0 [] :: R) := by
  have H := Lib.hid ((h.mails_nil 34).alloc (netList nodes cut0 (.slice none 0 0) 0).toArray 57)
  have hz := zero57
  have hne : ¬ netList 0 cut0 (.slice none 0 0) 0 = [] := by simp [netList]
  have hset : (netList 0 cut0 (.slice none 0 0) 0).set 0 (.int .i64 nodes) = netList nodes cut0 (.slice none 0 0) 0 := by simp [netList]
  clear h
  go_enter Try.func9, Try.ntmps9
  go_wp2
  go_ret
  exact ⟨_, rfl, Own.net_shut cut0_length H.out⟩
end Go.Proofs.Ytlhinhcbbknhcaa

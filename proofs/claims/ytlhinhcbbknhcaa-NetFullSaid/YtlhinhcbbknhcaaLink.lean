/-
  Link: two nodes are linked, or their link is cut.
  Conditions: none beyond each theorem's own.
-/
import Derived.Test.YtlhinhcbbknhcaaNetF
import Derived.RegionTactic
import Derived.ChangeAlike
namespace Go.Proofs.Ytlhinhcbbknhcaa
set_option linter.unusedVariables false
set_option linter.unusedSimpArgs false
open Go.RowKit

def cutBoth (cut : List Bool) (a b : Int) (x : Bool) : List Bool := (cut.set (at2 a b) x).set (at2 b a) x

set_option maxHeartbeats 1600000 in
theorem link_yes {S : Nat → Prop} {w0 w : World} {R : List SP} {g : Nat} {nodes last : Int} {cut : List Bool} {L : List M} (hn : nodes ≤ 7) (h : Own S w0 w (SP.net g nodes cut last L :: R)) (a b : Int) (up : Bool) (h1 : twoP nodes a b) :
    Calls Try.prog 12 #[.pointer (some ⟨g, 0, none⟩), .int .i64 a, .int .i64 b, .bool up] w fun e w' => e = .returned (.bool true) ∧ Own S w0 w' (SP.net g nodes (cutBoth cut a b (!up)) last L :: R) := by
  obtain ⟨v, hcut, hown⟩ := h.net_open
  have h0 : w.cell? ⟨g, 0, none⟩ = some (.int .i64 nodes) := (hown.blk_cell 0).trans (netList_nodes _ _ _ _)
  have ht := two_calls w g nodes a b h0
  have htw : twoB nodes a b = true := decide_eq_true h1
  rw [htw] at ht
  obtain ⟨h2, h3, h4, h5, h6⟩ := h1
  obtain ⟨p, rfl⟩ := Int.eq_ofNat_of_zero_le (show 0 ≤ a by omega)
  obtain ⟨q, rfl⟩ := Int.eq_ofNat_of_zero_le (show 0 ≤ b by omega)
  have p1 : p < 8 := by omega
  have p2 : q < 8 := by omega
  have p3 : (p : Int) < 8 := by omega
  have p4 : (q : Int) < 8 := by omega
  have e1 : at2 (p : Int) (q : Int) = p * 8 + q := by simp [at2]
  have e2 : at2 (q : Int) (p : Int) = q * 8 + p := by simp [at2]
  obtain ⟨x, hx⟩ : ∃ x, cut[p * 8 + q]? = some x := ⟨_, List.getElem?_eq_getElem (by omega)⟩
  obtain ⟨y, hy⟩ : ∃ y, cut[q * 8 + p]? = some y := ⟨_, List.getElem?_eq_getElem (by omega)⟩
  have c1 : w.cell? ⟨g, 1 + p * 8 + q, none⟩ = some (.bool x) := by rw [Nat.add_assoc]; exact (hown.blk_cell _).trans (netList_cut hx)
  have c2 : w.cell? ⟨g, 1 + q * 8 + p, none⟩ = some (.bool y) := by rw [Nat.add_assoc]; exact (hown.blk_cell _).trans (netList_cut hy)
  have f1 : w.frozen? ⟨g, 1 + p * 8 + q, none⟩ = false := hown.blk_free _
  have f2 : w.frozen? ⟨g, 1 + q * 8 + p, none⟩ = false := hown.blk_free _
  have hd1 : ¬ p * 8 + q = q * 8 + p := by omega
  have hd2 : ¬ q * 8 + p = p * 8 + q := by omega
  have hd3 : ¬ 1 + p * 8 + q = 1 + q * 8 + p := by omega
  have hd4 : ¬ 1 + q * 8 + p = 1 + p * 8 + q := by omega
  have HO := Lib.hid (And.intro hcut (And.intro hown (And.intro e1 e2)))
  have HT := Lib.hid ht
  clear ht htw hx hy hcut hown h e1 e2
  go_enter Try.func12, Try.ntmps12
  go_wp2_with fail
  refine (HT.out).mono ?_
  rintro e w' ⟨rfl, rfl⟩
  go_wp2
  go_region_held3 (fun _ => True) (trivial) (fail)
  go_wp2
  go_ret
  refine ⟨rfl, ?_⟩
  have hcl := HO.out.1
  have i1 : p * 8 + q < cut.length := by omega
  have i2 : q * 8 + p < cut.length := by omega
  have o1 := HO.out.2.1.blk_set (1 + p * 8 + q) (.bool (!up))
  rw [Nat.add_assoc, netList_set_cut i1] at o1
  have o2 := o1.blk_set (1 + q * 8 + p) (.bool (!up))
  rw [Nat.add_assoc 1 (q * 8), netList_set_cut (by rw [List.length_set]; exact i2)] at o2
  rw [← Nat.add_assoc, ← Nat.add_assoc] at o2
  refine Own.net_shut (v := v) (by simp [cutBoth, hcl]) ?_
  rw [cutBoth, HO.out.2.2.1, HO.out.2.2.2]
  exact o2.drew

set_option maxHeartbeats 400000 in
theorem link_no {S : Nat → Prop} {w0 w : World} {R : List SP} {g : Nat} {nodes last : Int} {cut : List Bool} {L : List M} (h : Own S w0 w (SP.net g nodes cut last L :: R)) (a b : Int) (up : Bool) (h1 : ¬ twoP nodes a b) :
    Calls Try.prog 12 #[.pointer (some ⟨g, 0, none⟩), .int .i64 a, .int .i64 b, .bool up] w fun e w' => e = .returned (.bool false) ∧ w = w' := by
  obtain ⟨v, hcut, hown⟩ := h.net_open
  have h0 : w.cell? ⟨g, 0, none⟩ = some (.int .i64 nodes) := (hown.blk_cell 0).trans (netList_nodes _ _ _ _)
  have ht := two_calls w g nodes a b h0
  have htw : twoB nodes a b = false := decide_eq_false h1
  rw [htw] at ht
  have HT := Lib.hid ht
  clear ht htw hcut hown h
  go_enter Try.func12, Try.ntmps12
  go_wp2_with fail
  refine (HT.out).mono ?_
  rintro e w' ⟨rfl, rfl⟩
  go_wp2
  go_ret
  exact ⟨rfl, rfl⟩
end Go.Proofs.Ytlhinhcbbknhcaa

/-
  SameSnap, SameMessage of a message that gives entries; app.
  Conditions: none beyond each theorem's own.
-/
import Derived.Test.YtepnkhiclgjmpaaMay1
namespace Go.Proofs.Ytepnkhiclgjmpaa
set_option linter.unusedVariables false
set_option linter.unusedSimpArgs false
open Go.RowKit

section
variable {S : Nat → Prop} {w0 w : World} {R : List SP}
def noSnap : Value := .agg #[.int .i64 0, .int .i64 0, .slice none 0 0]
set_option maxHeartbeats 3200000 in
theorem samesnap_own (h : Own S w0 w R) : Calls Try.prog 86 #[noSnap, noSnap] w fun e w' => e = .returned (.bool true) ∧ Own S w0 w' R := by
  have o2 := (h.alloc #[.int .i64 0, .int .i64 0, .slice none 0 0] 92).alloc #[.int .i64 0, .int .i64 0, .slice none 0 0] 92
  rw [World.size_alloc] at o2
  have HS := Lib.hid (same_own (A := none) (B := none) (ca := 0) (cb := 0) (xs := []) o2 (Rd.nil _ _) (Rd.nil _ _) (by decide))
  obtain ⟨q, hq⟩ : ∃ q, w.heap.size = q := ⟨_, rfl⟩
  have HQ := Lib.hid hq
  rw [hq] at HS
  unfold noSnap
  clear o2 h hq
  go_enter Try.func86, Try.ntmps86
  go_wp2_with fail
  refine (HS.out).mono ?_
  rintro e w3 ⟨rfl, o3⟩
  simp only [World.size_alloc, HQ.out]
  have c0 := o3.blk_cell 0
  have c1 := o3.blk_cell 1
  have e0 := (o3.pick (L := [_, _]) [1]).blk_cell 0
  have e1 := (o3.pick (L := [_, _]) [1]).blk_cell 1
  simp only [List.getElem?_toArray, List.getElem?_cons_zero, List.getElem?_cons_succ] at c0 c1 e0 e1
  have O3 := Lib.hid o3.pop.pop
  clear o3 HS
  go_wp2
  go_ret
  exact ⟨rfl, O3.out⟩

set_option maxRecDepth 100000 in
set_option maxHeartbeats 6400000 in
theorem samemsg_own {es : List E} {A : Option Addr} {c : Nat} (h : Own S w0 w R) (hr : EReads S w0 R A es) (hl : es.length ≤ 1000000) (hd : ∀ m, m ∈ es → m.dat.length ≤ 140737488351232) (i t : Int) :
    Calls Try.prog 80 #[msgV i t A es.length c, msgV i t A es.length c] w fun e w' => e = .returned (.bool true) ∧ Own S w0 w' R := by
  have o2 := (h.alloc (msgA i t A es.length c) 94).alloc (msgA i t A es.length c) 94
  rw [World.size_alloc] at o2
  have HS := Lib.hid (samesnap_own o2)
  have HE := Lib.hid (fun (W : World) (o : Own S w0 W (SP.blk (w.heap.size + 1) 94 (msgA i t A es.length c) :: SP.blk w.heap.size 94 (msgA i t A es.length c) :: R)) => sameents_own (ca := c) (cb := c) o (hr.more [_, _]) (hr.more [_, _]) hl hd)
  rw [show decide (es = es) = true from decide_eq_true rfl] at HE
  obtain ⟨q, hq⟩ : ∃ q, w.heap.size = q := ⟨_, rfl⟩
  have HQ := Lib.hid hq
  rw [hq] at HS HE
  unfold msgV
  unfold msgA at HS HE ⊢
  unfold noSnap at HS
  have hii : (i == i) = true := by simp
  have htt : (t == t) = true := by simp
  clear o2 h hq hr hd
  go_enter Try.func80, Try.ntmps80
  go_wp2_with fail
  refine (HS.out).mono ?_
  rintro e w3 ⟨rfl, o3⟩
  simp only [World.size_alloc, HQ.out]
  have HE3 := Lib.hid (HE.out w3 o3)
  have c10 := o3.blk_cell 10
  have e10 := (o3.pick (L := [_, _]) [1]).blk_cell 10
  simp only [List.getElem?_toArray, List.getElem?_cons_zero, List.getElem?_cons_succ] at c10 e10
  clear o3 HS HE
  go_wp2_with fail
  refine (HE3.out).mono ?_
  rintro e w4 ⟨rfl, o4⟩
  have c0 := o4.blk_cell 0
  have c1 := o4.blk_cell 1
  have c2 := o4.blk_cell 2
  have c3 := o4.blk_cell 3
  have c4 := o4.blk_cell 4
  have c5 := o4.blk_cell 5
  have c6 := o4.blk_cell 6
  have c7 := o4.blk_cell 7
  have c8 := o4.blk_cell 8
  have c9 := o4.blk_cell 9
  have e0 := (o4.pick (L := [_, _]) [1]).blk_cell 0
  have e1 := (o4.pick (L := [_, _]) [1]).blk_cell 1
  have e2 := (o4.pick (L := [_, _]) [1]).blk_cell 2
  have e3 := (o4.pick (L := [_, _]) [1]).blk_cell 3
  have e4 := (o4.pick (L := [_, _]) [1]).blk_cell 4
  have e5 := (o4.pick (L := [_, _]) [1]).blk_cell 5
  have e6 := (o4.pick (L := [_, _]) [1]).blk_cell 6
  have e7 := (o4.pick (L := [_, _]) [1]).blk_cell 7
  have e8 := (o4.pick (L := [_, _]) [1]).blk_cell 8
  have e9 := (o4.pick (L := [_, _]) [1]).blk_cell 9
  simp only [List.getElem?_toArray, List.getElem?_cons_zero, List.getElem?_cons_succ] at c0 c1 c2 c3 c4 c5 c6 c7 c8 c9 e0 e1 e2 e3 e4 e5 e6 e7 e8 e9
  have O4 := Lib.hid o4.pop.pop
  clear o4 HE3 c10 e10
  go_wp2
  go_ret
  exact ⟨rfl, O4.out⟩
end
end Go.Proofs.Ytepnkhiclgjmpaa

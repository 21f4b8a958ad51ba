/-
  The network and the document's: each operation answers the same on both, and leaves the same row behind.
  Conditions: none beyond each theorem's own.
-/
import Derived.Test.YtlhinhcbbknhcaaRRow
import Derived.Test.YtlhinhcbbknhcaaRMv
import Derived.Test.YtlhinhcbbknhcaaRSp
import Derived.Test.YtlhinhcbbknhcaaRLk
import Derived.Test.YtlhinhcbbknhcaaRClr
import Derived.Test.YtlhinhcbbknhcaaDrop
import Derived.Test.YtlhinhcbbknhcaaClr2
namespace Go.Proofs.Ytlhinhcbbknhcaa
set_option linter.unusedVariables false
set_option linter.unusedSimpArgs false
open Go.RowKit

/-- The two networks beside each other. -/
structure Tw (nodes last : Int) (cut : List Bool) (C : List (Int × Int)) (L : List M) (k : Nat) : Prop where
  n1 : 1 ≤ nodes
  n7 : nodes ≤ 7
  c64 : cut.length = 64
  al : ∀ a b, linkedB nodes cut a b = rlinkedB nodes C a b
  l0 : 0 ≤ last
  l1 : last ≤ k
  ll : L.length ≤ 2000
  dl : ∀ m, m ∈ L → m.dat.length ≤ 140737488351232
  cl : C.length ≤ k
def Does1 (f : FuncId) (args : Nat → Array Value) (v : Value) (A A' : Nat → SP) : Prop := ∀ (S : Nat → Prop) (w0 w : World) (R : List SP) (g : Nat), Own S w0 w (A g :: R) → Calls Try.prog f (args g) w fun e w' => e = .returned v ∧ Own S w0 w' (A' g :: R)

section
variable {nodes last : Int} {cut : List Bool} {C : List (Int × Int)} {L : List M} {k : Nat}
theorem Tw.more (t : Tw nodes last cut C L k) : Tw nodes last cut C L (k + 1) := ⟨t.n1, t.n7, t.c64, t.al, t.l0, by have := t.l1; omega, t.ll, t.dl, by have := t.cl; omega⟩
theorem Tw.row (t : Tw nodes last cut C L k) {L' : List M} (h1 : L'.length ≤ L.length) (h2 : ∀ m, m ∈ L' → m.dat.length ≤ 140737488351232) : Tw nodes last cut C L' (k + 1) := ⟨t.n1, t.n7, t.c64, t.al, t.l0, by have := t.l1; omega, by have := t.ll; omega, h2, by have := t.cl; omega⟩
theorem Tw.add (t : Tw nodes last cut C L k) (ok : Bool) (hok : ok = true → L.length < 2000) (a b : Int) (dat : List UInt8) (sp : Bool) (hd : dat.length ≤ 140737488351232) : Tw nodes (addLast ok last) cut C (addRow ok last L a b dat sp) (k + 1) := by
  cases ok with
  | false => exact t.more
  | true =>
    have h1 := hok rfl
    have h2 := t.l0
    have h3 := t.l1
    refine ⟨t.n1, t.n7, t.c64, t.al, ?_, ?_, ?_, ?_, by have := t.cl; omega⟩
    · simp only [addLast, if_true]; omega
    · simp only [addLast, if_true]; omega
    · simp only [addRow, if_true, List.length_append, List.length_singleton]; omega
    · intro m hm
      simp only [addRow, if_true, List.mem_append, List.mem_singleton] at hm
      rcases hm with hm | rfl
      · exact t.dl m hm
      · exact hd

theorem at2_inj {n a b x y : Int} (hn : n ≤ 7) (h1 : twoP n a b) (h2 : twoP n x y) (h : at2 a b = at2 x y) : a = x ∧ b = y := by
  unfold twoP at h1 h2
  unfold at2 at h
  omega
theorem at2_lt {n a b : Int} (hn : n ≤ 7) (h1 : twoP n a b) : at2 a b < 64 := by
  unfold twoP at h1
  unfold at2
  omega
theorem mem_offC {q p : Int × Int} : p ∈ offC q C ↔ p ∈ C ∧ p ≠ q := by
  rw [offC, List.mem_filter]
  simp
theorem twoP_symm {n a b : Int} (h : twoP n a b) : twoP n b a := ⟨Ne.symm h.1, h.2.2.2.1, h.2.2.2.2, h.2.1, h.2.2.1⟩
theorem Tw.link (t : Tw nodes last cut C L k) {a b : Int} (h : twoP nodes a b) (up : Bool) : Tw nodes last (cutBoth cut a b (!up)) (linkC C a b up) L (k + 1) := by
  refine ⟨t.n1, t.n7, by rw [cutBoth, List.length_set, List.length_set, t.c64], ?_, t.l0, by have := t.l1; omega, t.ll, t.dl, ?_⟩
  · intro x y
    have h0 := t.al x y
    by_cases hxy : twoP nodes x y
    · have hb : twoB nodes x y = true := decide_eq_true hxy
      rw [linkedB, rlinkedB, hb, Bool.true_and, Bool.true_and] at h0 ⊢
      congr 1
      have h1 : cut.getD (at2 x y) false = inC C x y := by simpa using h0
      have l1 := at2_lt t.n7 h
      have l2 := at2_lt t.n7 (twoP_symm h)
      have l3 := at2_lt t.n7 hxy
      rw [cutBoth, List.getD_eq_getElem?_getD, List.getElem?_set, List.length_set, List.getElem?_set, t.c64]
      have hpair : (min x y, max x y) = (min a b, max a b) ↔ (x = a ∧ y = b) ∨ (x = b ∧ y = a) := by
        rw [Prod.mk.injEq]; omega
      by_cases e2 : at2 b a = at2 x y
      · obtain ⟨rfl, rfl⟩ := at2_inj t.n7 (twoP_symm h) hxy e2
        rw [if_pos rfl, if_pos l2]
        have hp := hpair.2 (.inr ⟨rfl, rfl⟩)
        cases up with
        | true => symm; apply decide_eq_false; rw [linkC, if_pos rfl, hp, mem_offC]; exact fun h => h.2 rfl
        | false => symm; apply decide_eq_true; rw [linkC, if_neg (by decide), hp]; simp
      · rw [if_neg e2]
        by_cases e1 : at2 a b = at2 x y
        · obtain ⟨rfl, rfl⟩ := at2_inj t.n7 h hxy e1
          rw [if_pos rfl, if_pos l1]
          cases up with
          | true => symm; apply decide_eq_false; rw [linkC, if_pos rfl, mem_offC]; exact fun h => h.2 rfl
          | false => symm; apply decide_eq_true; rw [linkC, if_neg (by decide)]; simp
        · rw [if_neg e1, ← List.getD_eq_getElem?_getD, h1]
          have hp : ¬ (min x y, max x y) = (min a b, max a b) := fun hp => by
            rcases hpair.1 hp with ⟨rfl, rfl⟩ | ⟨rfl, rfl⟩
            · exact e1 rfl
            · exact e2 rfl
          unfold inC
          apply decide_eq_decide.2
          cases up with
          | true => rw [linkC, if_pos rfl, mem_offC]; exact ⟨fun h => ⟨h, hp⟩, fun h => h.1⟩
          | false => rw [linkC, if_neg (by decide), List.mem_append, mem_offC]; exact ⟨fun h => .inl ⟨h, hp⟩, fun h => h.elim (fun h => h.1) (fun h => absurd (List.mem_singleton.1 h) hp)⟩
    · have hb : twoB nodes x y = false := decide_eq_false hxy
      rw [linkedB, rlinkedB, hb, Bool.false_and, Bool.false_and]
  · have h1 := t.cl
    have h2 : (offC (min a b, max a b) C).length ≤ C.length := List.length_filter_le _ _
    unfold linkC
    split
    · omega
    · rw [List.length_append, List.length_singleton]; omega

abbrev ptr (g : Nat) : Value := .pointer (some ⟨g, 0, none⟩)
def BothB (fa fb : FuncId) (rest : List Value) (nodes last : Int) (cut : List Bool) (C : List (Int × Int)) (L : List M) (k : Nat) : Prop :=
  ∃ r last' cut' C' L', Tw nodes last' cut' C' L' (k + 1) ∧ Does1 fa (fun g => (ptr g :: rest).toArray) (.bool r) (fun g => SP.net g nodes cut last L) (fun g => SP.net g nodes cut' last' L') ∧ Does1 fb (fun g => (ptr g :: rest).toArray) (.bool r) (fun g => SP.rnet g nodes last L C) (fun g => SP.rnet g nodes last' L' C')

theorem both_copy (t : Tw nodes last cut C L k) (hk : k ≤ 1000000) (i : Int) : BothB 22 36 [.int .i64 i] nodes last cut C L k := by
  have h0 := t.l0
  have h1 := t.l1
  have h2 := t.ll
  by_cases hi : 0 ≤ i ∧ i < (L.length : Int)
  · obtain ⟨j, rfl⟩ := Int.eq_ofNat_of_zero_le hi.1
    obtain ⟨m, hm⟩ : ∃ m, L[j]? = some m := ⟨_, List.getElem?_eq_getElem (by omega)⟩
    have hd := t.dl m (List.mem_of_getElem? hm)
    exact ⟨_, _, _, _, _, t.add (decide (L.length < 2000)) (fun h => by simpa using h) m.frm m.to m.dat m.sp hd, fun S w0 w R g o => copy_yes h0 (by omega) (by omega) o j m hm hd, fun S w0 w R g o => rcopy_yes h0 (by omega) o j m hm hd⟩
  · exact ⟨false, _, _, _, _, t.more, fun S w0 w R g o => copy_no o i hi, fun S w0 w R g o => rcopy_no o i hi⟩

theorem both_spoil (t : Tw nodes last cut C L k) (hk : k ≤ 1000000) (i b : Int) (hb : -9223372036854775808 ≤ b ∧ b ≤ 9223372036854775807) : BothB 23 37 [.int .i64 i, .int .i64 b] nodes last cut C L k := by
  have h2 := t.ll
  by_cases hi : ∃ m, 0 ≤ i ∧ L[i.toNat]? = some m ∧ m.sp = false ∧ 0 ≤ b ∧ b.toNat / 8 < m.dat.length
  · obtain ⟨m, hi0, hm, hs, hb0, hbl⟩ := hi
    obtain ⟨j, rfl⟩ := Int.eq_ofNat_of_zero_le hi0
    obtain ⟨c, rfl⟩ := Int.eq_ofNat_of_zero_le hb0
    rw [Int.toNat_natCast] at hm hbl
    have hd := t.dl m (List.mem_of_getElem? hm)
    refine ⟨true, _, _, _, _, t.row (L' := L.set j (spoiled m c)) (by rw [List.length_set]; omega) ?_, fun S w0 w R g o => spoil_yes (by omega) o j c m hm hs hbl hd, fun S w0 w R g o => rspoil_yes (by omega) o j c m hm hs hbl hd⟩
    intro x hx
    rcases List.mem_or_eq_of_mem_set hx with hx | rfl
    · exact t.dl x hx
    · show (flipAt m.dat c).length ≤ _
      rw [flipAt_length]; exact hd
  · exact ⟨false, _, _, _, _, t.more, fun S w0 w R g o => spoil_no (by omega) o i b hb hi, fun S w0 w R g o => rspoil_no (by omega) o i b hb hi⟩

theorem moved_length {i j : Nat} {m : M} (hm : L[i]? = some m) : (moved L i j m).length ≤ L.length := by
  have hi : i < L.length := (List.getElem?_eq_some_iff.1 hm).1
  rw [moved, List.length_append, List.length_cons, List.length_take, List.length_drop, List.length_eraseIdx, if_pos hi]
  omega
theorem moved_mem {i j : Nat} {m x : M} (hm : L[i]? = some m) (hx : x ∈ moved L i j m) : x ∈ L := by
  rw [moved, List.mem_append, List.mem_cons] at hx
  rcases hx with hx | rfl | hx
  · exact List.mem_of_mem_eraseIdx (List.mem_of_mem_take hx)
  · exact List.mem_of_getElem? hm
  · exact List.mem_of_mem_eraseIdx (List.mem_of_mem_drop hx)
theorem both_move (t : Tw nodes last cut C L k) (hk : k ≤ 1000000) (i j : Int) : BothB 24 38 [.int .i64 i, .int .i64 j] nodes last cut C L k := by
  have h2 := t.ll
  by_cases hi : (0 ≤ i ∧ i < (L.length : Int)) ∧ 0 ≤ j ∧ j < (L.length : Int)
  · obtain ⟨⟨hi0, hi1⟩, hj0, hj1⟩ := hi
    obtain ⟨a, rfl⟩ := Int.eq_ofNat_of_zero_le hi0
    obtain ⟨b, rfl⟩ := Int.eq_ofNat_of_zero_le hj0
    obtain ⟨m, hm⟩ : ∃ m, L[a]? = some m := ⟨_, List.getElem?_eq_getElem (by omega)⟩
    exact ⟨true, _, _, _, _, t.row (L' := moved L a b m) (moved_length hm) (fun x hx => t.dl x (moved_mem hm hx)), fun S w0 w R g o => move_yes (by omega) o a b m hm (by omega), fun S w0 w R g o => rmove_yes (by omega) o a b m hm (by omega)⟩
  · exact ⟨false, _, _, _, _, t.more, fun S w0 w R g o => move_no o i j hi, fun S w0 w R g o => rmove_no o i j hi⟩

theorem both_link (t : Tw nodes last cut C L k) (hk : k ≤ 1000000) (a b : Int) (up : Bool) : BothB 12 39 [.int .i64 a, .int .i64 b, .bool up] nodes last cut C L k := by
  by_cases h : twoP nodes a b
  · exact ⟨true, _, _, _, _, t.link h up, fun S w0 w R g o => link_yes t.n7 o a b up h, fun S w0 w R g o => rlink_yes (by have := t.cl; omega) o a b up h⟩
  · exact ⟨false, _, _, _, _, t.more, fun S w0 w R g o => (link_no o a b up h).mono fun e w' ⟨he, hw⟩ => ⟨he, hw ▸ o⟩, fun S w0 w R g o => (rlink_no o a b up h).mono fun e w' ⟨he, hw⟩ => ⟨he, hw ▸ o⟩⟩

theorem both_linked (t : Tw nodes last cut C L k) (hk : k ≤ 1000000) (a b : Int) : BothB 10 41 [.int .i64 a, .int .i64 b] nodes last cut C L k :=
  ⟨linkedB nodes cut a b, _, _, _, _, t.more, fun S w0 w R g o => (linked_own t.n7 o a b).mono fun e w' ⟨he, hw⟩ => ⟨he, hw ▸ o⟩, fun S w0 w R g o => by rw [t.al]; exact rlinked_own (by have := t.cl; omega) o a b⟩

theorem keep_mem {t : Int} {m : M} (h : m ∈ keepM t L) : m ∈ L := (List.mem_filter.1 h).1
theorem both_clear (t : Tw nodes last cut C L k) (hk : k ≤ 1000000) (a : Int) : ∃ z L', Tw nodes last cut C L' (k + 1) ∧ Does1 25 (fun g => #[ptr g, .int .i64 a]) (.int .i64 z) (fun g => SP.net g nodes cut last L) (fun g => SP.net g nodes cut last L') ∧ Does1 40 (fun g => #[ptr g, .int .i64 a]) (.int .i64 z) (fun g => SP.rnet g nodes last L C) (fun g => SP.rnet g nodes last L' C) := by
  have h2 := t.ll
  exact ⟨_, _, t.row (L' := keepM a L) (List.length_filter_le _ _) (fun m hm => t.dl m (keep_mem hm)), fun S w0 w R g o => clear_own (by omega) o a, fun S w0 w R g o => rclear_own (by omega) o a⟩
end
end Go.Proofs.Ytlhinhcbbknhcaa

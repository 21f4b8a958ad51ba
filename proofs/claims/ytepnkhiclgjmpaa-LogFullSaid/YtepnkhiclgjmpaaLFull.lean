/-
  LogFull as a call: it returns true, and what was there stays.
  Conditions: n is an int.
-/
import Derived.Test.YtepnkhiclgjmpaaRef8
import Derived.Test.YtepnkhiclgjmpaaFirst
import Derived.Test.YtepnkhiclgjmpaaLMatch1
import Derived.Test.YtepnkhiclgjmpaaOkLaws
namespace Go.Proofs.Ytepnkhiclgjmpaa
set_option linter.unusedVariables false
set_option linter.unusedSimpArgs false
open Go.RowKit

def fullE (n : Nat) : List E := (List.range n).map fun (k : Nat) => ⟨1, (k : Int) + 1, 0, []⟩
theorem fullE_length (n : Nat) : (fullE n).length = n := by simp [fullE]
theorem fullE_get {n j : Nat} {m : E} (h : (fullE n)[j]? = some m) : m = ⟨1, (j : Int) + 1, 0, []⟩ ∧ j < n := by
  simp only [fullE, List.getElem?_map] at h
  have hj : j < n := by
    have := (List.getElem?_eq_some_iff.1 (by simpa [fullE] using h : (fullE n)[j]? = some m)).1
    rw [fullE_length] at this; exact this
  rw [List.getElem?_range hj] at h
  simp at h
  exact ⟨h.symm, hj⟩
theorem fullE_succ (n : Nat) : fullE (n + 1) = fullE n ++ [⟨1, (n : Int) + 1, 0, []⟩] := by simp [fullE, List.range_succ]
theorem checkAll_of : ∀ {es : List E}, (∀ m, m ∈ es → checkE m = 0) → checkAll es = 0
  | [], _ => rfl
  | e :: es, h => by rw [checkAll, if_neg (by simp [h e List.mem_cons_self]), checkAll_of (fun m hm => h m (List.mem_cons_of_mem _ hm))]
theorem formB_of : ∀ {es : List E} {x t : Int}, t ≤ 1 → (∀ (j : Nat) (m : E), es[j]? = some m → m.index = x + 1 + (j : Int) ∧ m.term = 1) → formB x t es = true
  | [], _, _, _, _ => rfl
  | e :: es, x, t, ht, h => by
    have h0 := h 0 e rfl
    rw [formB, decide_eq_true (⟨by rw [h0.1]; omega, by rw [h0.2]; exact ht⟩ : e.index = x + 1 ∧ t ≤ e.term), Bool.true_and]
    refine formB_of (by rw [h0.2]; exact Int.le_refl _) fun j m hm => ?_
    have := h (j + 1) m (by simpa using hm)
    exact ⟨by rw [this.1]; omega, this.2⟩
theorem fullE_check (n : Nat) (hn : n ≤ 20000) : checkAll (fullE n) = 0 ∧ formB 0 0 (fullE n) = true := by
  refine ⟨checkAll_of fun m hm => ?_, formB_of (by decide) fun j m hm => ?_⟩
  · obtain ⟨j, hj⟩ := List.getElem?_of_mem hm
    obtain ⟨rfl, hjn⟩ := fullE_get hj
    unfold checkE
    rw [maxI_eq]
    simp
    omega
  · obtain ⟨rfl, -⟩ := fullE_get hm
    exact ⟨by simp only; omega, rfl⟩
def fullL (n : Nat) (c : Int) : Lg := ⟨0, 0, fullE n, (n : Int), (n : Int), max 0 (min c (n : Int)), 0, 0⟩
theorem full_new {n : Nat} (c : Int) (h : ¬ 10000 < n) : newL 0 0 c (fullE n) = (some (fullL n c), 0) := by
  obtain ⟨h1, h2⟩ := fullE_check n (by omega)
  have := newL_ok (commit := c) (index := 0) (term := 0) (es := fullE n) (by decide) h1 h2 (by rw [fullE_length]; exact h)
  rw [this, fullE_length, Int.zero_add]
  rfl
theorem full_not {n : Nat} (c : Int) (h : 10000 < n) (h2 : n ≤ 20000) : newL 0 0 c (fullE n) = (none, 10) := by
  obtain ⟨h1, h3⟩ := fullE_check n h2
  exact newL_10 (commit := c) (index := 0) (term := 0) (es := fullE n) (by decide) h1 h3 (by rw [fullE_length]; exact h)
def topL : Lg := ⟨4611686018427387903, 3, [], 4611686018427387903, 4611686018427387903, 4611686018427387903, 4611686018427387903, 4611686018427387903⟩
theorem top_new : newL 4611686018427387903 3 0 [] = (some topL, 0) := by rfl
theorem top_ok : topL.Ok := (newL_isOk top_new).1
def topL2 : Lg := { topL with L := [⟨3, 4611686018427387904, 0, []⟩] }
theorem top_append : topL.append 3 0 [] = ((4611686018427387904, 0), topL2) := by rfl
theorem top_append2 : topL2.append 3 0 [] = ((0, 18), topL2) := by rfl
theorem top_ok2 : topL2.Ok := by have := append_isOk top_ok 3 0 []; rw [top_append] at this; exact this
theorem checkE_in (e : E) : 0 ≤ checkE e ∧ checkE e ≤ 18 := by
  unfold checkE
  split
  · omega
  · split
    · omega
    · split
      · omega
      · split <;> omega
theorem append_err (x : Lg) (t k : Int) (d : List UInt8) : 0 ≤ (x.append t k d).1.2 ∧ (x.append t k d).1.2 ≤ 18 := by
  unfold Lg.append
  split
  · exact ⟨by simp, by simp⟩
  · split
    · exact ⟨by simp, by simp⟩
    · split
      · exact ⟨by simp, by simp⟩
      · split
        · exact checkE_in _
        · exact ⟨by simp, by simp⟩

theorem append_len (x : Lg) (t k : Int) (d : List UInt8) : (x.append t k d).2.index = x.index ∧ (x.append t k d).2.L.length ≤ x.L.length + 1 := by
  rcases append_ways x t k d with h | ⟨e, h⟩
  · rw [h]; exact ⟨rfl, by omega⟩
  · rw [h]; exact ⟨rfl, by simp⟩
section
variable {S : Nat → Prop} {w0 w : World} {R : List SP}
theorem Own.ents_snoc {A : Option Addr} {n c : Nat} {L : List E} {ds : List Value} {m : E} (hd : ds.length = L.length) (h : Own S w0 w (SP.row 26 4 (.slice A n c) (mrow L ds ++ mcells m (.slice none 0 0)) :: SP.stars (mdata L ds) :: R)) (hm : m.dat = []) : Own S w0 w (SP.ents 26 (.slice A n c) (L ++ [m]) :: R) := by
  refine Own.ents_shut (ds := ds ++ [.slice none 0 0]) (by rw [List.length_append, List.length_append, hd]; rfl) ?_
  have hM : mrow (L ++ [m]) (ds ++ [.slice none 0 0]) = mrow L ds ++ mcells m (.slice none 0 0) := by rw [mrow_append hd]; simp [mrow, mrows]
  have hD : mdata (L ++ [m]) (ds ++ [.slice none 0 0]) = mdata L ds ++ [SP.row 5 1 (.slice none 0 0) (bts [])] := by rw [mdata_append hd, ← hm]; rfl
  rw [hM, hD]
  have h1 := h.swap.add (B := SP.row 5 1 (.slice none 0 0) (bts [])) (SP.row_nil _ _ _ _)
  exact ((h1.pick (L := [_, _, _]) [1, 0, 2]).snoc).swap
end
set_option maxRecDepth 100000 in
set_option maxHeartbeats 16000000 in
theorem full_calls (w : World) (n : Int) (hn : In64 n) (commit : Int) :
    Calls Try.prog 3 #[.int .i64 n, .int .i64 commit] w fun e w' => e = .returned (.bool true) ∧ Below w.heap.size w w' := by
  have HF := Lib.hid (first_own (Own.start w))
  obtain ⟨hn1, hn2⟩ := hn
  obtain ⟨e3, j, he3, he31, he32, hj3, hj31⟩ := mod_five n 3 (by omega) (by omega)
  obtain ⟨N, hN⟩ : ∃ N, 9999 + j = N := ⟨_, rfl⟩
  have HN := Lib.hid (And.intro hN hj3)
  have hNs : N ≤ 10001 := by omega
  clear hN
  go_enter Try.func3, Try.ntmps3
  go_wp2_with fail
  refine (HF.out).mono ?_
  rintro e w1 ⟨rfl, o1⟩
  have O1 := Lib.hid (o1.ents_nil 26)
  clear o1 HF
  go_wp2
  go_loopw [6, 7] (fun tl ti wr => ∃ (i : Nat) (A : Option Addr) (c : Nat), i ≤ N ∧ tl = .slice A i c ∧ ti = .int .i64 i ∧ Own (fun _ => False) w wr [SP.ents 26 (.slice A i c) (fullE i)]) (fun _ ti _ => N - (intOf ti).toNat)
  case atStart => exact ⟨0, none, 0, Nat.zero_le _, rfl, rfl, O1.out⟩
  case round =>
    obtain ⟨i, A, c, hi, rfl, rfl, hown⟩ := hrel
    clear O1
    by_cases hin : i < N
    · have i1 : (i : Int) < 10000 + (j : Int) - 1 := by have := HN.out; omega
      obtain ⟨A', c', ds, z, hds, -, -, o2⟩ := hown.ents_open
      rw [fullE_length] at z o2
      cases z
      have O2 := Lib.hid o2
      have HDS := Lib.hid (show ds.length = (fullE i).length ∧ (mrow (fullE i) ds).length = i * 4 from ⟨hds, by rw [mrow_length hds, fullE_length]⟩)
      clear hown o2 hds
      go_wp2_with (at_builtin; refine wpList_append_own rfl (.tmp 42) (.tmp 46) 23 rfl 26 entZero 4 48 Try.underlying23 Try.info26 entZero_size (by decide) rfl HDS.out.2 O2.out ((Below.refl _ _).alloc (Nat.le_refl _) _) _ 1 1 _ rfl ?_ (rd_list _ _ _) ?_ (by unfold maxLen; omega) (by omega) ?_)
      · simp [Value.oneCell']
      rintro A3 c3 w3 o3
      have O3 := Lib.hid (Own.ents_snoc (m := ⟨1, (i : Int) + 1, 0, []⟩) HDS.out.1 o3 rfl)
      clear o3 O2
      go_wp2
      go_roundw
      case rel => exact ⟨i + 1, A3, c3, by omega, rfl, by go_num, by rw [fullE_succ]; exact O3.out⟩
      case measure => simp [intOf]; omega
    · have i1 : ¬ (i : Int) < 10000 + (j : Int) - 1 := by have := HN.out; omega
      obtain rfl : i = N := by omega
      have hlen := fullE_length i
      have hdl : ∀ m, m ∈ fullE i → m.dat.length ≤ 140737488351232 := fun m hm => by
        obtain ⟨k, hk⟩ := List.getElem?_of_mem hm
        obtain ⟨rfl, -⟩ := fullE_get hk
        simp
      have hNw := new_own (c := c) (A := A) (es := fullE i) (by rw [hlen]; omega) hdl hown EReads.of_ents 0 0 commit
      have HTop := Lib.hid (fun (W : World) (R : List SP) (o : Own (fun _ => False) w W R) => show Calls Try.prog 13 #[.int .i64 4611686018427387903, .int .i64 3, .int .i64 0, .slice none 0 0] W fun e w' => ∃ g, e = .returned (.tuple #[.pointer (some ⟨g, 0, none⟩), .int .i64 0]) ∧ Own (fun _ => False) w w' (SP.log 85 g topL :: R) from by
        have := new_own (A := none) (c := 0) (es := []) (by decide) (by simp) o EReads.nil 4611686018427387903 3 0
        rw [top_new] at this
        exact this)
      have HTA := Lib.hid (fun (W : World) (R : List SP) (g : Nat) (o : Own (fun _ => False) w W (SP.log 85 g topL :: R)) => show Calls Try.prog 16 #[.pointer (some ⟨g, 0, none⟩), .int .i64 3, .int .i64 0, .slice none 0 0] W fun e w' => e = .returned (.tuple #[.int .i64 4611686018427387904, .int .i64 0]) ∧ Own (fun _ => False) w w' (SP.log 85 g topL2 :: R) from by
        have := append_own (B := none) (cb := 0) (d := []) top_ok o (fun W X hX => Rd.nil _ _) (Nat.le_refl _) (Nat.zero_le _) (by simp) 3 0
        rw [top_append] at this
        exact this)
      have HTB := Lib.hid (fun (W : World) (R : List SP) (g : Nat) (o : Own (fun _ => False) w W (SP.log 85 g topL2 :: R)) => show Calls Try.prog 16 #[.pointer (some ⟨g, 0, none⟩), .int .i64 3, .int .i64 0, .slice none 0 0] W fun e w' => e = .returned (.tuple #[.int .i64 0, .int .i64 18]) ∧ Own (fun _ => False) w w' (SP.log 85 g topL2 :: R) from by
        have := append_own (B := none) (cb := 0) (d := []) top_ok2 o (fun W X hX => Rd.nil _ _) (Nat.le_refl _) (Nat.zero_le _) (by simp) 3 0
        rw [top_append2] at this
        exact this)
      have HNum := Lib.hid (fun (W : World) (a : Int) (ha : In64 a) => num_calls W a ha)
      have HD := Lib.hid (And.intro hlen hdl)
      by_cases hbig : 10000 < i
      · rw [full_not commit hbig (by omega), hlen] at hNw
        have HNw := Lib.hid hNw
        clear hown hNw hlen hdl
        go_wp2_with fail
        refine (HNw.out).mono ?_
        rintro e w2 ⟨rfl, o2⟩
        have hR := rnew_own (c := c) (A := A) (es := fullE i) (by rw [HD.out.1]; omega) HD.out.2 o2 EReads.of_ents 0 0 commit
        rw [full_not commit hbig (by omega), HD.out.1] at hR
        have HR := Lib.hid hR
        clear o2 hR HNw
        go_wp2_with fail
        refine (HR.out).mono ?_
        rintro e w3 ⟨rfl, o3⟩
        have O3 := Lib.hid (HTop.out _ _ o3)
        clear o3 HR
        go_wp2_with fail
        refine (HNum.out _ 10 ⟨by decide, by decide⟩).mono ?_
        rintro e w4 ⟨rfl, rfl⟩
        go_wp2_with fail
        refine (O3.out).mono ?_
        rintro e w4 ⟨g, rfl, o4⟩
        have O4 := Lib.hid (HTA.out _ _ _ o4)
        clear o4 O3
        go_wp2_with fail
        refine (HNum.out _ 0 ⟨by decide, by decide⟩).mono ?_
        rintro e w5 ⟨rfl, rfl⟩
        go_wp2_with fail
        refine (O4.out).mono ?_
        rintro e w5 ⟨rfl, o5⟩
        have O5 := Lib.hid (HTB.out _ _ _ o5)
        clear o5 O4
        go_wp2_with fail
        refine (O5.out).mono ?_
        rintro e w6 ⟨rfl, o6⟩
        have O6 := Lib.hid o6
        clear o6 O5
        go_wp2_with fail
        refine (HNum.out _ 0 ⟨by decide, by decide⟩).mono ?_
        rintro e w7 ⟨rfl, rfl⟩
        go_wp2_with fail
        refine (HNum.out _ 18 ⟨by decide, by decide⟩).mono ?_
        rintro e w7 ⟨rfl, rfl⟩
        go_wp2
        go_ret
        exact ⟨rfl, O6.out.below⟩
      · rw [full_new commit hbig, hlen] at hNw
        have HNw := Lib.hid hNw
        obtain ⟨X, hX⟩ : ∃ X, fullL i commit = X := ⟨_, rfl⟩
        have hXo : X.Ok := hX ▸ (newL_isOk (full_new commit hbig)).1
        have hX0 : X.index = 0 ∧ X.L.length = i := by rw [← hX]; exact ⟨rfl, hlen⟩
        obtain ⟨⟨⟨a1, a2⟩, Y⟩, hY⟩ : ∃ r, X.append 1 0 [] = r := ⟨_, rfl⟩
        have hYo := append_isOk hXo 1 0 []
        have hYe := append_err X 1 0 []
        have hYl := append_len X 1 0 []
        rw [hY] at hYo hYe hYl
        simp only at hYo hYe hYl
        obtain ⟨la, hla⟩ : ∃ la, Y.lastI = la := ⟨_, rfl⟩
        have hla1 : 0 ≤ la ∧ la ≤ 10001 := by rw [← hla]; unfold Lg.lastI; rw [hYl.1, hX0.1]; have := hYl.2; rw [hX0.2] at this; omega
        obtain ⟨l1, l2⟩ := hla1
        have htr : Tried la [⟨1, la + 1, 0, []⟩] := by
          refine ⟨fun k m hm => ?_, fun m hm => ?_⟩
          · have hk : k = 0 := by have := (List.getElem?_eq_some_iff.1 hm).1; simp at this; exact this
            subst hk
            simp at hm
            subst hm
            rw [maxI_eq]
            exact ⟨by simp, by simp only; omega, by simp only; omega⟩
          · simp at hm; subst hm; simp
        obtain ⟨⟨⟨t1, t2⟩, Z⟩, hZ⟩ : ∃ r, Y.try_ la 1 0 [⟨1, la + 1, 0, []⟩] = r := ⟨_, rfl⟩
        have hZo := try_isOk (t := 1) (c := 0) hYo htr
        rw [hZ] at hZo
        simp only at hZo
        obtain ⟨lz, hlz⟩ : ∃ la, Z.lastI = la := ⟨_, rfl⟩
        have HA1 := Lib.hid (fun (W : World) (R : List SP) (g : Nat) (o : Own (fun _ => False) w W (SP.log 85 g X :: R)) => show Calls Try.prog 16 #[.pointer (some ⟨g, 0, none⟩), .int .i64 1, .int .i64 0, .slice none 0 0] W fun e w' => e = .returned (.tuple #[.int .i64 a1, .int .i64 a2]) ∧ Own (fun _ => False) w w' (SP.log 85 g Y :: R) from by
          have := append_own (B := none) (cb := 0) (d := []) hXo o (fun W X hX => Rd.nil _ _) (Nat.le_refl _) (Nat.zero_le _) (by simp) 1 0
          rw [hY] at this
          exact this)
        have HA2 := Lib.hid (fun (W : World) (R : List SP) (g : Nat) (o : Own (fun _ => False) w W (SP.log 88 g X :: R)) => show Calls Try.prog 17 #[.pointer (some ⟨g, 0, none⟩), .int .i64 1, .int .i64 0, .slice none 0 0] W fun e w' => e = .returned (.tuple #[.int .i64 a1, .int .i64 a2]) ∧ Own (fun _ => False) w w' (SP.log 88 g Y :: R) from by
          have := rappend_own (B := none) (cb := 0) (d := []) hXo o (fun W X hX => Rd.nil _ _) (by simp) 1 0
          rw [hY] at this
          exact this)
        have HT1 := Lib.hid (fun (W : World) (R : List SP) (g q : Nat) (o : Own (fun _ => False) w W (SP.log 85 g Y :: SP.blk q 26 #[.int .i64 1, .int .i64 (la + 1), .int .i64 0, .slice none 0 0] :: R)) => show Calls Try.prog 19 #[.pointer (some ⟨g, 0, none⟩), .int .i64 la, .int .i64 1, .int .i64 0, .slice (some ⟨q, 0, none⟩) 1 1] W fun e w' => e = .returned (.tuple #[.int .i64 t1, .bool t2]) ∧ Own (fun _ => False) w w' (SP.log 85 g Z :: SP.blk q 26 #[.int .i64 1, .int .i64 (la + 1), .int .i64 0, .slice none 0 0] :: R) from by
          have := try_own (cap := 1) (es := [⟨1, la + 1, 0, []⟩]) hYo o (EReads.of_blk (B := none) (cb := 0) (d := []) (fun W X hX => Rd.nil _ _) (Nat.le_refl _) (Nat.zero_le _)) (Nat.le_refl _) (by unfold maxLen; omega) (by simp) la 1 0 ⟨by omega, by omega⟩ htr
          rw [hZ] at this
          exact this)
        have HT2 := Lib.hid (fun (W : World) (R : List SP) (g q : Nat) (o : Own (fun _ => False) w W (SP.log 88 g Y :: SP.blk q 26 #[.int .i64 1, .int .i64 (la + 1), .int .i64 0, .slice none 0 0] :: R)) => show Calls Try.prog 20 #[.pointer (some ⟨g, 0, none⟩), .int .i64 la, .int .i64 1, .int .i64 0, .slice (some ⟨q, 0, none⟩) 1 1] W fun e w' => e = .returned (.tuple #[.int .i64 t1, .bool t2]) ∧ Own (fun _ => False) w w' (SP.log 88 g Z :: SP.blk q 26 #[.int .i64 1, .int .i64 (la + 1), .int .i64 0, .slice none 0 0] :: R) from by
          have := rtry_own (cap := 1) (es := [⟨1, la + 1, 0, []⟩]) hYo o (EReads.of_blk (B := none) (cb := 0) (d := []) (fun W X hX => Rd.nil _ _) (Nat.le_refl _) (Nat.zero_le _)) (Nat.le_refl _) (by unfold maxLen; omega) (by simp) la 1 0 ⟨by omega, by omega⟩ htr
          rw [hZ] at this
          exact this)
        have HL1 := Lib.hid (fun (W : World) (R : List SP) (g : Nat) (o : Own (fun _ => False) w W (SP.log 88 g Y :: R)) => show Calls Try.prog 18 #[.pointer (some ⟨g, 0, none⟩)] W fun e w' => e = .returned (.int .i64 la) ∧ Own (fun _ => False) w w' (SP.log 88 g Y :: R) from by
          have := rlast_own (by have := hYo.len; omega) hYo.last hYo.i0 o
          rw [hla] at this
          exact this)
        have HL2 := Lib.hid (fun (W : World) (R : List SP) (g : Nat) (o : Own (fun _ => False) w W (SP.log 88 g Z :: R)) => show Calls Try.prog 18 #[.pointer (some ⟨g, 0, none⟩)] W fun e w' => e = .returned (.int .i64 lz) ∧ Own (fun _ => False) w w' (SP.log 88 g Z :: R) from by
          have := rlast_own (by have := hZo.len; omega) hZo.last hZo.i0 o
          rw [hlz] at this
          exact this)
        have HL3 := Lib.hid (fun (W : World) (R : List SP) (g : Nat) (o : Own (fun _ => False) w W (SP.log 85 g Z :: R)) => show Calls Try.prog 21 #[.pointer (some ⟨g, 0, none⟩)] W fun e w' => e = .returned (.tuple #[.int .i64 lz, .int .i64 Z.lastT]) ∧ Own (fun _ => False) w w' (SP.log 85 g Z :: R) from by
          have := last_own (by have := hZo.len; omega) o (fun j e h => (hZo.idx j e h).1)
          rw [hlz] at this
          exact this)
        have HXX := Lib.hid hX
        obtain ⟨y1, y2⟩ := hYe
        clear hown hNw hlen hdl hX hXo hX0 hY hYo hYl hla htr hZ hZo hlz
        go_wp2_with fail
        refine (HNw.out).mono ?_
        rintro e w2 ⟨gx, rfl, o2⟩
        have hR := rnew_own (c := c) (A := A) (es := fullE i) (by rw [HD.out.1]; omega) HD.out.2 o2 (EReads.of_ents.more [_]) 0 0 commit
        rw [full_new commit hbig, HD.out.1] at hR
        have HR := Lib.hid hR
        clear o2 hR HNw
        go_wp2_with fail
        refine (HR.out).mono ?_
        rintro e w3 ⟨gw, rfl, o3⟩
        rw [HXX.out] at o3
        have O3 := Lib.hid (HTop.out _ _ o3)
        clear o3 HR
        go_wp2_with fail
        refine (HNum.out _ 0 ⟨by decide, by decide⟩).mono ?_
        rintro e w4 ⟨rfl, rfl⟩
        go_wp2_with fail
        refine (O3.out).mono ?_
        rintro e w4 ⟨g, rfl, o4⟩
        have O4 := Lib.hid (HTA.out _ _ _ o4)
        clear o4 O3
        go_wp2_with fail
        refine (HNum.out _ 0 ⟨by decide, by decide⟩).mono ?_
        rintro e w5 ⟨rfl, rfl⟩
        go_wp2_with fail
        refine (O4.out).mono ?_
        rintro e w5 ⟨rfl, o5⟩
        have O5 := Lib.hid (HTB.out _ _ _ o5)
        clear o5 O4
        go_wp2_with fail
        refine (O5.out).mono ?_
        rintro e w6 ⟨rfl, o6⟩
        have O6 := Lib.hid (HA1.out _ _ _ (o6.pick (L := [_, _, _]) [2, 1]))
        clear o6 O5
        go_wp2_with fail
        refine (HNum.out _ 0 ⟨by decide, by decide⟩).mono ?_
        rintro e w7 ⟨rfl, rfl⟩
        go_wp2_with fail
        refine (HNum.out _ 18 ⟨by decide, by decide⟩).mono ?_
        rintro e w7 ⟨rfl, rfl⟩
        go_wp2_with fail
        refine (O6.out).mono ?_
        rintro e w7 ⟨rfl, o7⟩
        have O7 := Lib.hid (HA2.out _ _ _ o7.swap)
        clear o7 O6
        go_wp2_with fail
        refine (O7.out).mono ?_
        rintro e w8 ⟨rfl, o8⟩
        have O8 := Lib.hid (HL1.out _ _ _ o8)
        clear o8 O7
        go_wp2_with fail
        refine (O8.out).mono ?_
        rintro e w9 ⟨rfl, o9⟩
        have O9 := Lib.hid (HT1.out _ _ _ _ ((o9.alloc #[.int .i64 1, .int .i64 (la + 1), .int .i64 0, .slice none 0 0] 26).pick (L := [_, _, _]) [2, 0, 1]))
        clear o9 O8
        go_wp2_with fail
        refine (O9.out).mono ?_
        rintro e w10 ⟨rfl, o10⟩
        have O10 := Lib.hid (HT2.out _ _ _ _ ((o10.alloc #[.int .i64 1, .int .i64 (la + 1), .int .i64 0, .slice none 0 0] 26).pick (L := [_, _, _, _]) [3, 0, 1]))
        clear o10 O9
        go_wp2_with fail
        refine (O10.out).mono ?_
        rintro e w11 ⟨rfl, o11⟩
        have O11 := Lib.hid (HL3.out _ _ _ (o11.pick (L := [_, _, _]) [2, 0]))
        clear o11 O10
        go_wp2_with fail
        refine (O11.out).mono ?_
        rintro e w12 ⟨rfl, o12⟩
        have O12 := Lib.hid (HL2.out _ _ _ o12.swap)
        have q1 : (a1 == a1) = true := by simp
        have q2 : (a2 == a2) = true := by simp
        have q3 : (t1 == t1) = true := by simp
        have q4 : (t2 == t2) = true := by simp
        have q5 : (lz == lz) = true := by simp
        clear o12 O11
        go_wp2_with fail
        refine (HNum.out _ a2 ⟨by omega, by omega⟩).mono ?_
        rintro e w13 ⟨rfl, rfl⟩
        go_wp2_with fail
        refine (O12.out).mono ?_
        rintro e w13 ⟨rfl, o13⟩
        have O13 := Lib.hid o13
        clear o13 O12
        go_wp2
        go_ret
        exact ⟨by simp, O13.out.below⟩
end Go.Proofs.Ytepnkhiclgjmpaa

/-
  Each; the two Joins.
  Conditions: what is handed in can be read in whatever world comes while no memory of its is turned.
-/
import Derived.Test.YtonomljdljcmaaaRAll
namespace Go.Proofs.Ytonomljdljcmaaa
set_option linter.unusedVariables false
set_option linter.unusedSimpArgs false
open Go.RowKit

set_option maxHeartbeats 1600000 in
theorem each_own {S : Nat → Prop} {w0 w : World} {R : List SP} {B : Option Addr} {cb : Nat} {b : List UInt8} (h : Own S w0 w R) (hb : Reads S w0 R B b) (hbl : b.length ≤ 1000000000) :
    Calls Try.prog 28 #[.slice B b.length cb] w fun e w' => ∃ q A c, e = .returned (.func (.func 40) #[] #[.pointer (some ⟨q, 0, none⟩)]) ∧ b.length ≤ c ∧ c ≤ maxLen ∧ Own S w0 w' (SP.blk q 22 #[.slice A b.length c] :: SP.row 5 1 (.slice A b.length c) (bts b) :: R) := by
  have he : Own S w0 w (SP.row 5 1 (.slice none 0 0) [] :: R) := h.add (SP.row_nil _ _ _ _)
  obtain ⟨T, hr, -, hback⟩ := he.open
  have G := Lib.hid (And.intro hr (And.intro hback (hb _ [_] he)))
  clear h hb he hr hback
  go_enter Try.func28, Try.ntmps28
  go_wp2_with (at_builtin; refine wpList_append_row rfl (.const (.slice none 0 0)) (.tmp 3) 22 rfl 5 (.int .u8 0) 1 1 Try.underlying22 Try.info5 rfl (by decide) rfl rfl G.out.1 B b.length cb (bts b) rfl (by rw [bts_length, Nat.mul_one]) G.out.2.2 bts_one (by unfold maxLen; omega) (by omega) ?_)
  rintro A3 c3 w3 - hk3 hr3
  have hO : Own S w0 w3 (SP.row 5 1 (.slice A3 b.length c3) (bts b) :: R) := by simpa using G.out.2.1 _ _ hk3 hr3
  have hle := hO.row_le (by decide) (by simp [bts_length])
  have O3 := Lib.hid hO
  have HL := Lib.hid hle
  clear hk3 hr3 hO hle
  go_wp2_with fail
  refine (whole_calls _ _ _ _).mono ?_
  rintro e w' ⟨rfl, rfl⟩
  go_wp2
  go_ret
  refine ⟨_, A3, c3, rfl, HL.out.1, HL.out.2, ?_⟩
  have := O3.out.alloc #[.slice A3 b.length c3] 22
  simpa using this

set_option maxHeartbeats 1600000 in
theorem rput_long {w : World} {B : Option Addr} {cb n : Nat} (hpl : 1048576 < n) (hn : n ≤ 1000000000) :
    Calls Try.prog 15 #[.slice B n cb] w fun e w' => e = .returned (.tuple #[.slice none 0 0, .int .i64 3]) ∧ w = w' := by
  go_enter Try.func15, Try.ntmps15
  go_wp2
  go_ret2
  exact ⟨rfl, rfl⟩

def joinB (L : List (List UInt8)) : List UInt8 := (L.map frameB).flatten
theorem joinB_take {L : List (List UInt8)} {i : Nat} {x : List UInt8} (h : L[i]? = some x) : joinB (L.take (i + 1)) = joinB (L.take i) ++ frameB x := by
  rw [List.take_add_one, h]
  simp [joinB]
def allFit (L : List (List UInt8)) : Prop := ∀ x, x ∈ L → x.length ≤ 1048576
theorem joinB_length {L : List (List UInt8)} (h : allFit L) : (joinB L).length ≤ L.length * 1048584 := by
  induction L with
  | nil => simp [joinB]
  | cons x L ih =>
    have h1 := ih (fun y hy => h y (List.mem_cons_of_mem _ hy))
    have h2 := h x List.mem_cons_self
    have h3 : joinB (x :: L) = frameB x ++ joinB L := by simp [joinB]
    rw [h3, List.length_append, frameB_length, List.length_cons]
    omega
theorem allFit_take {L : List (List UInt8)} {i : Nat} {x : List UInt8} (h : allFit (L.take i)) (hx : L[i]? = some x) (hl : x.length ≤ 1048576) : allFit (L.take (i + 1)) := by
  rw [List.take_add_one, hx]
  intro y hy
  rcases List.mem_append.1 hy with hy | hy
  · exact h y hy
  · simp at hy; subst hy; exact hl

/-- What lists can be read, whatever is done to what is owned: their cells stay what they are. -/
def ReadsU (S : Nat → Prop) (w0 : World) (R : List SP) (A : Option Addr) (L : List (List UInt8)) : Prop :=
  ∀ k x, L[k]? = some x → ∃ g off A' c', A = some ⟨g, off, none⟩ ∧ x.length ≤ c' ∧ c' ≤ maxLen ∧ ∀ W X, Own S w0 W (X ++ R) → W.cell? ⟨g, off + k, none⟩ = some (.slice A' x.length c') ∧ Rd W A' (bts x)
theorem ReadsU.more {S : Nat → Prop} {w0 : World} {R : List SP} {A : Option Addr} {L : List (List UInt8)} (h : ReadsU S w0 R A L) (Y : List SP) : ReadsU S w0 (Y ++ R) A L := fun k x hx => by
  obtain ⟨g, off, A', c', h1, h2, h3, h4⟩ := h k x hx
  exact ⟨g, off, A', c', h1, h2, h3, fun W X hX => h4 W (X ++ Y) (by rw [List.append_assoc]; exact hX)⟩
theorem readsU_arg {w : World} {R : List SP} {A : Option Addr} {L : List (List UInt8)} (h : RdM w A L) : ReadsU (fun _ => False) w R A L := fun k x hx => by
  obtain ⟨g, off, A', c', h1, h2, h3, h4, h5⟩ := h k x hx
  exact ⟨g, off, A', c', h1, h3, h4, fun W X hX => ⟨(hX.below.cell (World.block_lt_of_cell? w _ h2)).trans h2, h5.below hX.below⟩⟩
theorem RdM.below {w w' : World} {A : Option Addr} {L : List (List UInt8)} (h : RdM w A L) (hb : Below w.heap.size w w') : RdM w' A L := fun k x hx => by
  obtain ⟨g, off, A', c', h1, h2, h3, h4, h5⟩ := h k x hx
  exact ⟨g, off, A', c', h1, (hb.cell (World.block_lt_of_cell? w _ h2)).trans h2, h3, h4, h5.below hb⟩
theorem ReadsU.rdm {S : Nat → Prop} {w0 W : World} {R : List SP} {A : Option Addr} {L : List (List UInt8)} (h : ReadsU S w0 R A L) (X : List SP) (hX : Own S w0 W (X ++ R)) : RdM W A L := fun k x hx => by
  obtain ⟨g, off, A', c', h1, h2, h3, h4⟩ := h k x hx
  exact ⟨g, off, A', c', h1, (h4 W X hX).1, h2, h3, (h4 W X hX).2⟩

set_option maxHeartbeats 4000000 in
theorem join_own {S : Nat → Prop} {w0 w : World} {R : List SP} {A : Option Addr} {c : Nat} {L : List (List UInt8)} (h : Own S w0 w R) (hr : ReadsU S w0 R A L)
    (hl : L.length ≤ 500) (hll : ∀ x, x ∈ L → x.length ≤ 1000000000) :
    Calls Try.prog 30 #[.slice A L.length c] w fun e w' =>
      (allFit L ∧ ∃ A' c', e = .returned (.tuple #[.slice A' (joinB L).length c', .int .i64 0]) ∧ Own S w0 w' (SP.row 5 1 (.slice A' (joinB L).length c') (bts (joinB L)) :: R)) ∨
      (¬ allFit L ∧ e = .returned (.tuple #[.slice none 0 0, .int .i64 3]) ∧ Own S w0 w' R) := by
  have H := Lib.hid (And.intro h (And.intro hr hll))
  have H0 := Lib.hid (show Own S w0 w (SP.row 5 1 (.slice none 0 0) (bts []) :: R) from h.add (SP.row_nil _ _ _ _))
  clear h hr hll
  go_enter Try.func30, Try.ntmps30
  go_wp2
  go_loopw [4, 9] (fun t0 t wr => ∃ (i : Nat) (o : List UInt8) (A1 : Option Addr) (c1 : Nat), i ≤ L.length ∧ t0 = .slice A1 o.length c1 ∧ t = .int .i64 i ∧ Hid (o = joinB (L.take i) ∧ allFit (L.take i)) ∧ Own S w0 wr (SP.row 5 1 (.slice A1 o.length c1) (bts o) :: R)) (fun _ t _ => L.length - (intOf t).toNat)
  case atStart => exact ⟨0, [], none, 0, Nat.zero_le _, rfl, rfl, Lib.hid ⟨by simp [joinB], by simp [allFit]⟩, H0.out⟩
  case round =>
    obtain ⟨i, o, A1, c1, hi, rfl, rfl, ho, hown⟩ := hrel
    have hol : o.length ≤ 1000000000 := by
      have h1 := joinB_length ho.out.2
      rw [ho.out.1]
      have h2 : (L.take i).length ≤ 500 := by rw [List.length_take]; omega
      omega
    by_cases hin : i < L.length
    · obtain ⟨x, hxi⟩ : ∃ x, L[i]? = some x := ⟨_, List.getElem?_eq_getElem hin⟩
      obtain ⟨b1, o1, A2, c2, rfl, -, -, hall⟩ := H.out.2.1 i x hxi
      have hc1 := (hall wr [_] hown).1
      have hxr : Reads S w0 R A2 x := fun W X hX => (hall W X hX).2
      clear hall
      have hxl := H.out.2.2 x (List.mem_of_getElem? hxi)
      have i0 : (0 : Int) ≤ (i : Int) := by omega
      have i1 : (i : Int) < (L.length : Int) := by omega
      have HT := Lib.hid (joinB_take hxi)
      have HX := Lib.hid hxi
      by_cases hbig : 1048576 < x.length
      · have HN := Lib.hid (show ¬ allFit L from fun hf => by have := hf x (List.mem_of_getElem? hxi); omega)
        have HO := Lib.hid hown
        have hb' : (1048576 : Int) < (x.length : Int) := by omega
        clear hown hxi hxr
        go_wp2
        go_ret2
        exact .inr ⟨HN.out, rfl, HO.out.pop⟩
      · have hb' : ¬ (1048576 : Int) < (x.length : Int) := by omega
        have HL := Lib.hid (lay_own (cb := c2) hown hxr hol (by omega))
        clear hown hxi hxr
        go_wp2_with fail
        refine (HL.out).mono ?_
        rintro e w1 ⟨A3, c3, rfl, own1⟩
        have HO := Lib.hid own1
        clear own1
        go_wp2
        go_roundw
        case rel => exact ⟨i + 1, o ++ frameB x, A3, c3, by omega, by rw [List.length_append], by go_num, Lib.hid ⟨by rw [HT.out, ho.out.1], allFit_take ho.out.2 HX.out (by omega)⟩, HO.out⟩
        case measure => simp [intOf]; omega
    · obtain rfl : i = L.length := by omega
      have HO := Lib.hid hown
      have hoo := ho.out
      rw [List.take_length] at hoo
      have HH := Lib.hid hoo
      clear hown hoo
      go_wp2
      go_ret2
      exact .inl ⟨HH.out.2, A1, c1, by rw [← HH.out.1]; rfl, by rw [← HH.out.1]; exact HO.out⟩
set_option maxHeartbeats 4000000 in
theorem rjoin_own {S : Nat → Prop} {w0 w : World} {R : List SP} {A : Option Addr} {c : Nat} {L : List (List UInt8)} (h : Own S w0 w R) (hr : ReadsU S w0 R A L)
    (hl : L.length ≤ 500) (hll : ∀ x, x ∈ L → x.length ≤ 1000000000) :
    Calls Try.prog 31 #[.slice A L.length c] w fun e w' =>
      (allFit L ∧ ∃ A' c', e = .returned (.tuple #[.slice A' (joinB L).length c', .int .i64 0]) ∧ Own S w0 w' (SP.row 5 1 (.slice A' (joinB L).length c') (bts (joinB L)) :: R)) ∨
      (¬ allFit L ∧ e = .returned (.tuple #[.slice none 0 0, .int .i64 3]) ∧ Own S w0 w' R) := by
  have H := Lib.hid (And.intro h (And.intro hr hll))
  have H0 := Lib.hid (show Own S w0 w (SP.row 5 1 (.slice none 0 0) (bts []) :: R) from h.add (SP.row_nil _ _ _ _))
  clear h hr hll
  go_enter Try.func31, Try.ntmps31
  go_wp2
  go_loopw [4, 5] (fun t0 t wr => ∃ (i : Nat) (o : List UInt8) (A1 : Option Addr) (c1 : Nat), i ≤ L.length ∧ t0 = .slice A1 o.length c1 ∧ t = .int .i64 i ∧ Hid (o = joinB (L.take i) ∧ allFit (L.take i)) ∧ Own S w0 wr (SP.row 5 1 (.slice A1 o.length c1) (bts o) :: R)) (fun _ t _ => L.length - (intOf t).toNat)
  case atStart => exact ⟨0, [], none, 0, Nat.zero_le _, rfl, rfl, Lib.hid ⟨by simp [joinB], by simp [allFit]⟩, H0.out⟩
  case round =>
    obtain ⟨i, o, A1, c1, hi, rfl, rfl, ho, hown⟩ := hrel
    have hol : o.length ≤ 1000000000 := by
      have h1 := joinB_length ho.out.2
      rw [ho.out.1]
      have h2 : (L.take i).length ≤ 500 := by rw [List.length_take]; omega
      omega
    by_cases hin : i < L.length
    · obtain ⟨x, hxi⟩ : ∃ x, L[i]? = some x := ⟨_, List.getElem?_eq_getElem hin⟩
      obtain ⟨b1, o1, A2, c2, rfl, -, -, hall⟩ := H.out.2.1 i x hxi
      have hc1 := (hall wr [_] hown).1
      have hxr : Reads S w0 R A2 x := fun W X hX => (hall W X hX).2
      clear hall
      have hxl := H.out.2.2 x (List.mem_of_getElem? hxi)
      have i0 : (0 : Int) ≤ (i : Int) := by omega
      have i1 : (i : Int) < (L.length : Int) := by omega
      have HT := Lib.hid (joinB_take hxi)
      have HX := Lib.hid hxi
      by_cases hbig : 1048576 < x.length
      · have HN := Lib.hid (show ¬ allFit L from fun hf => by have := hf x (List.mem_of_getElem? hxi); omega)
        have HO := Lib.hid hown
        have HL := Lib.hid (rput_long (w := wr) (B := A2) (cb := c2) (n := x.length) hbig hxl)
        have hne : ((3 : Int) != 0) = true := rfl
        clear hown hxi hxr
        go_wp2_with fail
        refine (HL.out).mono ?_
        rintro e w1 ⟨rfl, rfl⟩
        go_wp2
        go_ret2
        exact .inr ⟨HN.out, rfl, HO.out.pop⟩
      · have HL := Lib.hid (rput_own (cb := c2) hown (Reads.more hxr [_]) (by omega))
        have hne : ((0 : Int) != 0) = false := rfl
        clear hown hxi hxr
        go_wp2_with fail
        refine (HL.out).mono ?_
        rintro e w1 ⟨A3, c3, rfl, own1⟩
        obtain ⟨T, hr, -, hback⟩ := own1.swap.open
        have G := Lib.hid (And.intro hr (And.intro hback own1.rd))
        obtain ⟨k, hk⟩ : ∃ k, (frameB x).length = k := ⟨_, rfl⟩
        have hkl : k ≤ 1048584 := by rw [← hk, frameB_length]; omega
        have HK := Lib.hid hk
        rw [hk] at G ⊢
        clear own1 hr hback hk
        go_wp2_with (at_builtin; refine wpList_append_row rfl (.tmp 25) (.tmp 26) 22 rfl 5 (.int .u8 0) 1 1 Try.underlying22 Try.info5 rfl (by decide) rfl (by rw [bts_length, Nat.mul_one]) G.out.1 A3 k c3 (bts (frameB x)) rfl (by rw [bts_length, Nat.mul_one, HK.out]) G.out.2.2 bts_one (by unfold maxLen; omega) (by omega) ?_)
        rintro A4 c4 w4 - hk4 hr4
        have O4 := Lib.hid (G.out.2.1 _ _ hk4 hr4)
        clear hk4 hr4
        go_wp2
        go_roundw
        case rel =>
          refine ⟨i + 1, o ++ frameB x, A4, c4, by omega, by rw [List.length_append, HK.out], by go_num, Lib.hid ⟨by rw [HT.out, ho.out.1], allFit_take ho.out.2 HX.out (by omega)⟩, ?_⟩
          rw [List.length_append, HK.out, bts_append]
          exact O4.out.pick (L := [_, _]) [0]
        case measure => simp [intOf]; omega
    · obtain rfl : i = L.length := by omega
      have HO := Lib.hid hown
      have hoo := ho.out
      rw [List.take_length] at hoo
      have HH := Lib.hid hoo
      clear hown hoo
      go_wp2
      go_ret2
      exact .inl ⟨HH.out.2, A1, c1, by rw [← HH.out.1]; rfl, by rw [← HH.out.1]; exact HO.out⟩
end Go.Proofs.Ytonomljdljcmaaa

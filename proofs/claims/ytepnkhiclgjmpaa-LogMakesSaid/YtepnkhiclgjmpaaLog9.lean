/-
  Hand, Stable, Next, Applied of a log.
  Conditions: the log is in order.
-/
import Derived.Test.YtepnkhiclgjmpaaLog8
namespace Go.Proofs.Ytepnkhiclgjmpaa
set_option linter.unusedVariables false
set_option linter.unusedSimpArgs false
open Go.RowKit

section
variable {S : Nat → Prop} {w0 w : World} {R : List SP} {g : Nat} {x : Lg}

set_option maxHeartbeats 1600000 in
theorem hand_own (hx : x.Ok) (h : Own S w0 w (SP.log 85 g x :: R)) :
    Calls Try.prog 33 #[.pointer (some ⟨g, 0, none⟩)] w fun e w' => ∃ A' c', e = .returned (.slice A' x.hand.1.length c') ∧ Own S w0 w' (SP.ents 26 (.slice A' x.hand.1.length c') x.hand.1 :: SP.log 85 g x.hand.2 :: R) := by
  have HT := Lib.hid (last_own (by have := hx.len; omega) h (fun j e he => (hx.idx j e he).1))
  have HS := Lib.hid (fun (W : World) (hW : Own S w0 W (SP.log 85 g x :: R)) => slice_own hx hW x.h x.lastI (by have := hx.a0; have := hx.a1; have := hx.b2; have := hx.b3; omega) (Int.le_refl _) (by have := hx.b4; have := hx.last; omega))
  unfold Lg.hand
  obtain ⟨p, hp⟩ : ∃ p, x.lastI = p := ⟨_, rfl⟩
  obtain ⟨q, hq⟩ : ∃ q, x.lastT = q := ⟨_, rfl⟩
  obtain ⟨C, hC⟩ : ∃ C, x.cut x.h p = C := ⟨_, rfl⟩
  rw [hp, hq] at HT
  rw [hp] at HS
  rw [hC] at HS
  rw [hp, hC]
  clear hp hq hC h hx
  go_enter Try.func33, Try.ntmps33
  go_wp2_with fail
  refine (HT.out).mono ?_
  rintro e w1 ⟨rfl, o⟩
  obtain ⟨A, c, -, -, -, -, -, -, -, c3, -⟩ := o.log_cells
  have O := Lib.hid (HS.out _ o)
  clear o HT
  go_wp2_with fail
  refine (O.out).mono ?_
  rintro e w2 ⟨A2, k2, rfl, o2⟩
  obtain ⟨A3, c4, -, -, o3, -, -, -, -, k3, -⟩ := (o2.pick (L := [_, _]) [1, 0]).log_cells
  have f3 := o3.blk_free 3
  have O3 := Lib.hid (Own.log_shut (x := { x with h := p }) (o3.blk_set 3 (.int .i64 p)))
  clear o2 o3 O c3 HS
  go_wp2
  go_ret
  exact ⟨A2, k2, rfl, O3.out.swap⟩

theorem stable_no {i t : Int} (h : i ≤ x.s ∨ x.h < i ∨ x.has i t = false) : x.stable i t = (false, x) := by rw [Lg.stable, if_pos h]
theorem stable_yes {i t : Int} (h : ¬ (i ≤ x.s ∨ x.h < i ∨ x.has i t = false)) : x.stable i t = (true, { x with s := i }) := by rw [Lg.stable, if_neg h]
set_option maxHeartbeats 1600000 in
theorem stable_own (hx : x.Ok) (h : Own S w0 w (SP.log 85 g x :: R)) (i t : Int) (hi : In64 i) :
    Calls Try.prog 37 #[.pointer (some ⟨g, 0, none⟩), .int .i64 i, .int .i64 t] w fun e w' => e = .returned (.bool (x.stable i t).1) ∧ Own S w0 w' (SP.log 85 g (x.stable i t).2 :: R) := by
  have HH := Lib.hid (has_own hx.i0 (by have := hx.len; omega) h i t hi)
  obtain ⟨A, c, -, -, -, -, -, -, -, c3, c4, -⟩ := h.log_cells
  have H := Lib.hid h
  obtain ⟨hb, hhb⟩ : ∃ hb, x.has i t = hb := ⟨_, rfl⟩
  rw [hhb] at HH
  have HB := Lib.hid hhb
  clear h hx hi hhb
  by_cases h1 : i ≤ x.s
  · rw [stable_no (.inl h1)]
    go_enter Try.func37, Try.ntmps37
    go_wp2
    go_ret
    exact ⟨rfl, H.out⟩
  · by_cases h2 : x.h < i
    · rw [stable_no (.inr (.inl h2))]
      go_enter Try.func37, Try.ntmps37
      go_wp2
      go_ret
      exact ⟨rfl, H.out⟩
    · cases hb with
      | false =>
        rw [stable_no (.inr (.inr HB.out))]
        go_enter Try.func37, Try.ntmps37
        go_wp2_with fail
        refine (HH.out).mono ?_
        rintro e w1 ⟨rfl, o⟩
        have O := Lib.hid o
        clear o HH
        go_wp2
        go_ret
        exact ⟨rfl, O.out⟩
      | true =>
        rw [stable_yes (by rw [HB.out]; simp; omega)]
        go_enter Try.func37, Try.ntmps37
        go_wp2_with fail
        refine (HH.out).mono ?_
        rintro e w1 ⟨rfl, o⟩
        obtain ⟨A3, k4, -, -, o3, -, -, -, -, -, e4, -⟩ := o.log_cells
        have f4 := o3.blk_free 4
        have O3 := Lib.hid (Own.log_shut (x := { x with s := i }) (o3.blk_set 4 (.int .i64 i)))
        clear o o3 HH c3 c4
        go_wp2
        go_ret
        exact ⟨rfl, O3.out⟩

theorem applied_no {i : Int} (h : i ≤ x.ad ∨ x.ap < i) : x.applied i = (false, x) := by rw [Lg.applied, if_pos h]
theorem applied_yes {i : Int} (h : ¬ (i ≤ x.ad ∨ x.ap < i)) : x.applied i = (true, { x with ad := i }) := by rw [Lg.applied, if_neg h]
set_option maxHeartbeats 1600000 in
theorem applied_own (h : Own S w0 w (SP.log 85 g x :: R)) (i : Int) :
    Calls Try.prog 39 #[.pointer (some ⟨g, 0, none⟩), .int .i64 i] w fun e w' => e = .returned (.bool (x.applied i).1) ∧ Own S w0 w' (SP.log 85 g (x.applied i).2 :: R) := by
  obtain ⟨A, c, -, -, o, -, -, -, -, c3, c4, c5, c6, c7⟩ := h.log_cells
  have f7 := o.blk_free 7
  have H := Lib.hid h
  have O := Lib.hid (o.blk_set 7 (.int .i64 i))
  clear h o
  by_cases h1 : i ≤ x.ad
  · rw [applied_no (.inl h1)]
    go_enter Try.func39, Try.ntmps39
    go_wp2
    go_ret
    exact ⟨rfl, H.out⟩
  · by_cases h2 : x.ap < i
    · rw [applied_no (.inr h2)]
      go_enter Try.func39, Try.ntmps39
      go_wp2
      go_ret
      exact ⟨rfl, H.out⟩
    · rw [applied_yes (by rintro (h | h); exact h1 h; exact h2 h)]
      go_enter Try.func39, Try.ntmps39
      go_wp2
      go_ret
      exact ⟨rfl, Own.log_shut (x := { x with ad := i }) O.out⟩

theorem cut_len (hx : x.Ok) {a : Int} {n : Nat} (ha : x.index ≤ a) (hb : a + (n : Int) ≤ x.lastI) : (x.cut a (a + (n : Int))).length = n := by
  unfold Lg.lastI at hb
  rw [Lg.cut, List.length_take, List.length_drop]
  omega
set_option maxHeartbeats 3200000 in
theorem next_own (hx : x.Ok) (h : Own S w0 w (SP.log 85 g x :: R)) (most : Int) (hm : In64 most) :
    Calls Try.prog 38 #[.pointer (some ⟨g, 0, none⟩), .int .i64 most] w fun e w' => ∃ A' c', e = .returned (.slice A' (x.next most).1.length c') ∧ Own S w0 w' (SP.ents 26 (.slice A' (x.next most).1.length c') (x.next most).1 :: SP.log 85 g (x.next most).2 :: R) := by
  obtain ⟨A, c, -, -, o, -, -, -, -, c3, c4, c5, c6, c7⟩ := h.log_cells
  obtain ⟨hm1, hm2⟩ := hm
  have h0 := hx.i0
  have ha0 := hx.a0
  have ha1 := hx.a1
  have ha2 := hx.a2
  have ha3 := hx.a3
  have hb2 := hx.b2
  have hb3 := hx.b3
  have hb4 := hx.b4
  have hl := hx.last
  rw [maxI_eq] at hl
  obtain ⟨r, hr⟩ : ∃ r, min x.c x.s = r := ⟨_, rfl⟩
  have hmr : (if x.s < x.c then x.s else x.c) = r := by split <;> omega
  obtain ⟨n, hn⟩ : ∃ n : Nat, x.nextN most = (n : Int) := ⟨(x.nextN most).toNat, by unfold Lg.nextN; omega⟩
  have hnn : (n : Int) = min (max most 0) (r - x.ap) := by rw [← hn, Lg.nextN, hr]
  have hcl : (x.cut x.ap (x.ap + (n : Int))).length = n := cut_len hx (by omega) (by omega)
  have hsl := fun (u : Int) (hu : u = x.ap + (n : Int)) (W : World) (hW : Own S w0 W (SP.log 85 g x :: R)) => show Calls Try.prog 59 #[.pointer (some ⟨g, 0, none⟩), .int .i64 x.ap, .int .i64 u] W fun e w' => ∃ A' c', e = .returned (.slice A' n c') ∧ Own S w0 w' (SP.ents 26 (.slice A' n c') (x.cut x.ap (x.ap + (n : Int))) :: SP.log 85 g x :: R) by
    have := slice_own hx hW x.ap (x.ap + (n : Int)) (by omega) (by omega) (by rw [maxI_eq]; omega)
    rw [hcl] at this
    rw [hu]
    exact this
  unfold Lg.next
  rw [hn]
  show Calls Try.prog 38 #[.pointer (some ⟨g, 0, none⟩), .int .i64 most] w fun e w' => ∃ A' c', e = .returned (.slice A' (x.cut x.ap (x.ap + (n : Int))).length c') ∧ Own S w0 w' (SP.ents 26 (.slice A' (x.cut x.ap (x.ap + (n : Int))).length c') (x.cut x.ap (x.ap + (n : Int))) :: SP.log 85 g { x with ap := x.ap + (n : Int) } :: R)
  rw [hcl]
  obtain ⟨C, hC⟩ : ∃ C, x.cut x.ap (x.ap + (n : Int)) = C := ⟨_, rfl⟩
  rw [hC] at hsl ⊢
  have HS := Lib.hid hsl
  have w1 : IntKind.i64.wrap (r - x.ap) = r - x.ap := IntWalk.i64_in _ (by omega)
  have hrb : 0 ≤ r - x.ap := by omega
  have hap : 0 ≤ x.ap := by omega
  have har : x.ap + (r - x.ap) ≤ 4611686018427387904 := by omega
  have H := Lib.hid h
  have HN := Lib.hid hnn
  clear h o hx hn hsl hcl hr hC hnn
  go_enter Try.func38, Try.ntmps38
  go_wp2_with fail
  go_quiet (fail)
  clear hmr
  have O1 := Lib.hid (Own.drewN H.out nq)
  go_wp2_with fail
  all_goals
    refine (HS.out _ ?hu _ O1.out).mono ?_
    case hu =>
      have := HN.out
      try simp only [if_neg (show ¬ most < 0 by omega)] at *
      try simp only [if_pos (show most < 0 by omega)] at *
      omega
    rintro e w2 ⟨A2, k2, rfl, o2⟩
    obtain ⟨A3, k4, -, -, o3, -, -, -, -, -, -, -, e6, -⟩ := (o2.pick (L := [_, _]) [1, 0]).log_cells
    have f6 := o3.blk_free 6
    have O3 := Lib.hid (Own.log_shut (x := { x with ap := x.ap + (n : Int) }) (o3.blk_set 6 (.int .i64 (x.ap + (n : Int)))))
    have hn2 : (n : Int) ≤ r - x.ap := by have := HN.out; omega
    clear o2 o3 O1
    go_wp2
    go_ret
    exact ⟨A2, k2, rfl, O3.out.swap⟩
end
end Go.Proofs.Ytepnkhiclgjmpaa

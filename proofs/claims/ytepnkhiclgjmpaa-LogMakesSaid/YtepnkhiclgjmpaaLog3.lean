/-
  slice, Entries, Hint of a log.
  Conditions: the log is in order.
-/
import Derived.Test.YtepnkhiclgjmpaaOwn49
import Derived.Deep.RegionHeld3
namespace Go.Proofs.Ytepnkhiclgjmpaa
set_option linter.unusedVariables false
set_option linter.unusedSimpArgs false
open Go.RowKit

theorem EReads.drop {S : Nat → Prop} {w0 : World} {R : List SP} {b off : Nat} {L : List E} (h : EReads S w0 R (some ⟨b, off, none⟩) L) (n : Nat) : EReads S w0 R (some ⟨b, off + n * 4, none⟩) (L.drop n) := fun W X hX => (h W X hX).drop n
theorem Own.ents_nil' {S : Nat → Prop} {w0 w : World} {R : List SP} (h : Own S w0 w R) : Own S w0 w (SP.ents 26 (.slice none 0 0) [] :: R) := h.ents_nil 26
theorem Own.ents_addr {S : Nat → Prop} {w0 w : World} {R : List SP} {A : Option Addr} {n c : Nat} {L : List E} (h : Own S w0 w (SP.ents 26 (.slice A n c) L :: R)) (hl : 0 < L.length) : ∃ b off, A = some ⟨b, off, none⟩ := by
  obtain ⟨m, hm⟩ : ∃ m, L[0]? = some m := ⟨_, List.getElem?_eq_getElem hl⟩
  obtain ⟨b, off, _, _, e, _⟩ := h.erd 0 m hm
  exact ⟨b, off, e⟩

section
variable {S : Nat → Prop} {w0 w : World} {R : List SP} {g : Nat} {x : Lg}

theorem cut_nil {a b : Int} (h : b ≤ a) : x.cut a b = [] := by rw [Lg.cut, show (b - a).toNat = 0 by omega]; simp

set_option maxRecDepth 100000 in
set_option maxHeartbeats 1600000 in
theorem slice_own (hx : x.Ok) (h : Own S w0 w (SP.log 85 g x :: R)) (a b : Int) (ha : x.index ≤ a) (hb : b ≤ x.lastI) (ha2 : a ≤ maxI + 1) :
    Calls Try.prog 59 #[.pointer (some ⟨g, 0, none⟩), .int .i64 a, .int .i64 b] w fun e w' => ∃ A' c', e = .returned (.slice A' (x.cut a b).length c') ∧ Own S w0 w' (SP.ents 26 (.slice A' (x.cut a b).length c') (x.cut a b) :: SP.log 85 g x :: R) := by
  have H := Lib.hid h
  rw [maxI_eq] at ha2
  by_cases hab : b ≤ a
  · rw [cut_nil hab]
    clear h
    go_enter Try.func59, Try.ntmps59
    go_wp2
    go_ret
    exact ⟨none, 0, rfl, H.out.ents_nil'⟩
  · obtain ⟨A, c, hc1, hc2, o1, -, c0, -, c2, -, -, -, -, -⟩ := h.log_cells
    have hlen := hx.len
    have hx0 := hx.i0
    have hx1 := hx.i1
    rw [maxI_eq] at hx1
    unfold Lg.lastI at hb
    obtain ⟨p, hp⟩ : ∃ p : Nat, a = x.index + (p : Int) := ⟨(a - x.index).toNat, by omega⟩
    obtain ⟨q, hq⟩ : ∃ q : Nat, b = x.index + (q : Int) := ⟨(b - x.index).toNat, by omega⟩
    have hcut : x.cut a b = (x.L.drop p).take (q - p) := by
      rw [Lg.cut, show (a - x.index).toNat = p by omega, show (b - a).toNat = q - p by omega]
    have hpq : p < q := by omega
    have hqL : q ≤ x.L.length := by omega
    have hcl : (x.cut a b).length = q - p := by rw [hcut, List.length_take, List.length_drop]; omega
    obtain ⟨bl, off, rfl⟩ := (o1.swap).ents_addr (by omega)
    have hrd : EReads S w0 (SP.ents 26 (.slice (some ⟨bl, off, none⟩) x.L.length c) x.L :: R) (some ⟨bl, off + p * 4, none⟩) (x.cut a b) := by
      rw [hcut]
      exact (EReads.of_ents.drop p).take _
    have hO := own_own (c := c - p) (A := some ⟨bl, off + p * 4, none⟩) (es := x.cut a b) (by rw [hcl]; omega) (fun m hm => by
      rw [hcut] at hm
      have := hx.dat m (List.mem_of_mem_drop (List.mem_of_mem_take hm)); omega) o1.drew (EReads.more hrd [_])
    rw [hcl] at hO
    rw [hcl]
    have HO := Lib.hid hO
    have HC := Lib.hid hcl
    have w1 : IntKind.i64.wrap (a - x.index) = (p : Int) := by rw [IntWalk.i64_in _ (by omega)]; omega
    have w2 : IntKind.i64.wrap (b - x.index) = (q : Int) := by rw [IntWalk.i64_in _ (by omega)]; omega
    have q1 : ¬ c = p := by omega
    have q2 : p ≤ q := by omega
    have q3 : q ≤ c := by omega
    have q4 : (p : Int) ≤ (q : Int) := by omega
    have q5 : (q : Int) ≤ (c : Int) := by omega
    have q6 : (0 : Int) ≤ (p : Int) := by omega
    unfold maxLen at hc2
    clear h hp hq hcut hO hcl hrd o1 hx hb ha hpq hx0 hx1 ha2
    go_enter Try.func59, Try.ntmps59
    go_wp2_with fail
    go_region_held3 (fun W => W.cell? ⟨g, 0, none⟩ = some (.int .i64 x.index) ∧ W.cell? ⟨g, 2, none⟩ = some (.slice (some ⟨bl, off, none⟩) x.L.length c))
      (first | go_keep | exact ⟨c0, c2⟩ | exact ⟨d0, d2⟩)
      (first
        | (refine step_call rfl 49 _ _ rfl Try.func49 (by kernel_rfl) (by kernel_rfl) #[.slice (some ⟨bl, off + p * 4, none⟩) (q - p) (c - p)] (by rfl) ?_
           refine (HO.out).mono ?_
           rintro e w5 ⟨A5, c5, rfl, o5⟩
           refine ⟨_, rfl, ?_⟩
           have d0 : w5.cell? ⟨g, 0, none⟩ = some (.int .i64 x.index) := (o5.pick (L := [_, _]) [1]).blk_cell 0
           have d2 : w5.cell? ⟨g, 2, none⟩ = some (.slice (some ⟨bl, off, none⟩) x.L.length c) := (o5.pick (L := [_, _]) [1]).blk_cell 2
           have O5 := Lib.hid o5
           clear o5))
    go_wp2
    go_ret
    exact ⟨A5, c5, rfl, (Own.log_shut (O5.out.pick (L := [_, _, _]) [1, 2, 0])).swap⟩

theorem entries_eq {a most : Int} (hx : x.Ok) (h1 : x.index < a) (h2 : a ≤ x.lastI + 1) {k : Int} (hk : k = min (max most 0) (x.lastI + 1 - a)) : x.entries a most = (x.cut (a - 1) (a - 1 + k), 0) := by
  rw [Lg.entries, if_neg (by omega), if_neg (by omega), Lg.cut, show a - 1 - x.index = a - x.index - 1 by omega, show a - 1 + k - (a - 1) = k by omega]
  congr 1
  unfold Lg.lastI at hk h2
  by_cases hm : most ≤ x.index + (x.L.length : Int) + 1 - a
  · congr 1
    omega
  · rw [List.take_of_length_le (by rw [List.length_drop]; omega), List.take_of_length_le (by rw [List.length_drop]; omega)]

set_option maxHeartbeats 3200000 in
theorem entries_own (hx : x.Ok) (h : Own S w0 w (SP.log 85 g x :: R)) (a most : Int) (ha : In64 a) (hm : In64 most) :
    Calls Try.prog 30 #[.pointer (some ⟨g, 0, none⟩), .int .i64 a, .int .i64 most] w fun e w' => ∃ A' c', e = .returned (.tuple #[.slice A' (x.entries a most).1.length c', .int .i64 (x.entries a most).2]) ∧ Own S w0 w' (SP.ents 26 (.slice A' (x.entries a most).1.length c') (x.entries a most).1 :: SP.log 85 g x :: R) := by
  have HT := Lib.hid (last_own (by have := hx.len; omega) h (fun j e he => (hx.idx j e he).1))
  obtain ⟨p, hp⟩ : ∃ p, x.lastI = p := ⟨_, rfl⟩
  obtain ⟨q, hq⟩ : ∃ q, x.lastT = q := ⟨_, rfl⟩
  have HP := Lib.hid hp
  rw [hp, hq] at HT
  have hpm := hx.last
  rw [hp, maxI_eq] at hpm
  have hx0 := hx.i0
  have HX := Lib.hid hx
  obtain ⟨ha1, ha2⟩ := ha
  obtain ⟨hm1, hm2⟩ := hm
  have hip : x.index ≤ p := by rw [← hp]; unfold Lg.lastI; omega
  clear hp hq h hx
  by_cases h1 : a ≤ x.index
  · have he : x.entries a most = ([], 14) := by rw [Lg.entries, if_pos h1]
    rw [he]
    clear he
    go_enter Try.func30, Try.ntmps30
    go_wp2_with fail
    refine (HT.out).mono ?_
    rintro e w1 ⟨rfl, o⟩
    obtain ⟨A, c, -, -, -, -, c0, -⟩ := o.log_cells
    have O := Lib.hid o
    clear o HT
    go_wp2
    go_ret2
    exact ⟨none, 0, rfl, O.out.ents_nil'⟩
  · by_cases h2 : p + 1 < a
    · have he : x.entries a most = ([], 8) := by rw [Lg.entries, if_neg h1, HP.out, if_pos h2]
      rw [he]
      clear he
      go_enter Try.func30, Try.ntmps30
      go_wp2_with fail
      refine (HT.out).mono ?_
      rintro e w1 ⟨rfl, o⟩
      obtain ⟨A, c, -, -, -, -, c0, -⟩ := o.log_cells
      have O := Lib.hid o
      clear o HT
      go_wp2
      go_ret2
      exact ⟨none, 0, rfl, O.out.ents_nil'⟩
    · have key : ∀ u : Int, u = a - 1 + min (max most 0) (p + 1 - a) → ∀ W, Own S w0 W (SP.log 85 g x :: R) → Calls Try.prog 59 #[.pointer (some ⟨g, 0, none⟩), .int .i64 (a - 1), .int .i64 u] W fun e w' => ∃ A' c', e = .returned (.slice A' (x.entries a most).1.length c') ∧ Own S w0 w' (SP.ents 26 (.slice A' (x.entries a most).1.length c') (x.entries a most).1 :: SP.log 85 g x :: R) := fun u hu W hW => by
        have hk : min (max most 0) (p + 1 - a) = min (max most 0) (x.lastI + 1 - a) := by rw [HP.out]
        have := entries_eq HX.out (by omega) (by rw [HP.out]; omega) hk
        rw [this, hu]
        exact slice_own HX.out hW (a - 1) (a - 1 + _) (by omega) (by rw [HP.out]; omega) (by rw [maxI_eq]; omega)
      have he2 : (x.entries a most).2 = 0 := by rw [entries_eq HX.out (by omega) (by rw [HP.out]; omega) (k := _) rfl]
      rw [he2]
      have HK := Lib.hid key
      clear key he2
      obtain ⟨L', hL'⟩ : ∃ L', (x.entries a most).1 = L' := ⟨_, rfl⟩
      rw [hL'] at HK
      rw [hL']
      clear hL'
      have w4 : IntKind.i64.wrap (p + 1 - a) = p + 1 - a := IntWalk.i64_in _ (by omega)
      have hb : 0 ≤ p + 1 - a := by omega
      go_enter Try.func30, Try.ntmps30
      go_wp2_with fail
      refine (HT.out).mono ?_
      rintro e w1 ⟨rfl, o⟩
      obtain ⟨A, c, -, -, -, -, c0, -⟩ := o.log_cells
      have O := Lib.hid o
      clear o HT
      go_wp2_with fail
      all_goals
        refine (HK.out _ ?u _ O.out).mono ?_
        case u =>
          try simp only [if_neg (show ¬ most < 0 by omega)] at *
          try simp only [if_pos (show most < 0 by omega)] at *
          omega
        rintro e w2 ⟨A5, c5, rfl, o5⟩
        have O5 := Lib.hid o5
        clear o5 HK c0
        go_wp2
        go_ret2
        exact ⟨A5, c5, rfl, O5.out⟩
end
end Go.Proofs.Ytepnkhiclgjmpaa

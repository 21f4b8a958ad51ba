/-
  The document's log: Hand.
  Conditions: the log is in order.
-/
import Derived.Test.YtepnkhiclgjmpaaRef1
import Derived.Test.YtepnkhiclgjmpaaRegionTwo
import Derived.Test.YtepnkhiclgjmpaaCopies
namespace Go.Proofs.Ytepnkhiclgjmpaa
set_option linter.unusedVariables false
set_option linter.unusedSimpArgs false
open Go.RowKit

section
variable {S : Nat → Prop} {w0 w : World} {R : List SP} {g : Nat} {x : Lg}
theorem cut_reads {bl off n c lo : Nat} {L : List E} (k : Nat) (h1 : lo ≤ n) (h2 : n ≤ c) (hn : L.length = n) :
    EReads S w0 (SP.ents 26 (.slice (some ⟨bl, off, none⟩) n c) L :: R) (if c = lo then some ⟨bl, off, none⟩ else some ⟨bl, off + lo * 4, none⟩) ((L.drop lo).take k) := by
  split
  · rw [List.drop_of_length_le (by omega), List.take_nil]; exact EReads.nil
  · exact (EReads.of_ents.drop lo).take k
theorem row_open {A : Option Addr} {n c : Nat} {L : List E} (h : Own S w0 w (SP.ents 26 (.slice A n c) L :: R)) (hn : L.length = n) : (A = none ∧ n = 0 ∧ c = 0) ∨ ∃ bl off, A = some ⟨bl, off, none⟩ := by
  obtain ⟨A', c', ds, e, hds, -, -, h1⟩ := h.ents_open
  cases e
  cases A with
  | none => obtain ⟨e1, e2, -⟩ := h1.row_none; exact .inl ⟨rfl, e1, e2⟩
  | some ad =>
    rcases h1.row_addr with ⟨h, _⟩ | ⟨gb, off, _, _, h⟩
    · cases h
    · cases h; exact .inr ⟨gb, off, rfl⟩
set_option maxRecDepth 100000 in
set_option maxHeartbeats 6400000 in
theorem rhand_own (hx : x.Ok) (h : Own S w0 w (SP.log 88 g x :: R)) :
    Calls Try.prog 64 #[.pointer (some ⟨g, 0, none⟩)] w fun e w' => ∃ A' c', e = .returned (.slice A' x.hand.1.length c') ∧ Own S w0 w' (SP.ents 26 (.slice A' x.hand.1.length c') x.hand.1 :: SP.log 88 g x.hand.2 :: R) := by
  obtain ⟨A, c, hc1, hc2, o1, -, -, -, -, -, -, -, -, -⟩ := h.log_cells
  have hlen := hx.len
  have hx0 := hx.i0
  have hla := hx.last
  have hdat := hx.dat
  have hb3 : x.index ≤ x.h := by have := hx.a0; have := hx.a1; have := hx.b2; have := hx.b3; omega
  have hb4 := hx.b4
  clear h hx
  obtain ⟨b, tb, L, hv, sv, cv, pv, av⟩ := x
  simp only at *
  obtain ⟨p, hp⟩ : ∃ p : Nat, hv = b + (p : Int) := ⟨(hv - b).toNat, by omega⟩
  subst hp
  have HX := Lib.hid (show (Lg.mk b tb L (b + (p : Int)) sv cv pv av).L.length ≤ 1000000 ∧ (Lg.mk b tb L (b + (p : Int)) sv cv pv av).lastI ≤ maxI ∧ 0 ≤ (Lg.mk b tb L (b + (p : Int)) sv cv pv av).index from ⟨by simp only; omega, hla, hx0⟩)
  unfold Lg.lastI at hb4 hla
  simp only at hb4 hla
  rw [maxI_eq] at hla
  obtain ⟨n, hn⟩ : ∃ n, L.length = n := ⟨_, rfl⟩
  rw [hn] at hlen hc1 hb4 hla o1
  have hpn : p ≤ n := by omega
  have HCT := Lib.hid (show (Lg.hand ⟨b, tb, L, b + (p : Int), sv, cv, pv, av⟩).1 = L.drop p ∧ (Lg.hand ⟨b, tb, L, b + (p : Int), sv, cv, pv, av⟩).1.length = n - p ∧ (L.drop p).length = n - p from by
    have h1 : (Lg.hand ⟨b, tb, L, b + (p : Int), sv, cv, pv, av⟩).1 = L.drop p := by
      unfold Lg.hand Lg.cut Lg.lastI
      simp only
      rw [show (b + (p : Int) - b).toNat = p by omega, List.take_of_length_le (by rw [List.length_drop]; omega)]
    exact ⟨h1, by rw [h1, List.length_drop, hn], by rw [List.length_drop, hn]⟩)
  have w1 : IntKind.i64.wrap (b + (p : Int) - b) = (p : Int) := by rw [IntWalk.i64_in _ (by omega)]; omega
  have q1 : (p : Int) ≤ (n : Int) := by omega
  have q2 : (0 : Int) ≤ (p : Int) := by omega
  have q3 : (n : Int) ≤ (c : Int) := by omega
  unfold maxLen at hc2
  have O1 := Lib.hid o1
  rcases row_open o1.swap hn with ⟨rfl, rfl, rfl⟩ | ⟨bl, off, rfl⟩
  · obtain rfl : p = 0 := by omega
    have w9 : IntKind.i64.wrap 0 = 0 := IntWalk.i64_in _ (by omega)
    have HCo := Lib.hid (fun (W : World) (o : Own S w0 W (SP.blk g 88 (logA ⟨b, tb, L, b + ((0 : Nat) : Int), sv, cv, pv, av⟩ (.slice none 0 0)) :: SP.ents 26 (.slice none 0 0) L :: R)) => show Calls Try.prog 34 #[.slice none 0 0] W fun e w' => ∃ A' c', e = .returned (.slice A' (0 - 0) c') ∧ Own S w0 w' (SP.ents 26 (.slice A' (0 - 0) c') (L.drop 0) :: SP.blk g 88 (logA ⟨b, tb, L, b + ((0 : Nat) : Int), sv, cv, pv, av⟩ (.slice none 0 0)) :: SP.ents 26 (.slice none 0 0) L :: R) from by
      have := copies_own (c := 0) (A := none) (es := ([] : List E)) (by simp) (fun m hm => by cases hm) o EReads.nil
      rw [show L.drop 0 = [] from List.drop_eq_nil_of_le (by omega)]
      exact this)
    clear o1 hn hdat hb4 hla hlen hb3
    go_enter Try.func64, Try.ntmps64
    go_upto_region 1 with (fail)
    have HSF := Lib.hid (fun (W : World) (R' : List SP) (o : Own S w0 W (SP.blk g 88 (logA ⟨b, tb, L, (b + ((0 : Nat) : Int)), sv, cv, pv, av⟩ (.slice none 0 0)) :: R')) => show W.cell? ⟨g, 2, none⟩ = some (.slice none 0 0) ∧ W.cell? ⟨g, 3, none⟩ = some (.int .i64 (b + ((0 : Nat) : Int))) ∧ W.cell? ⟨g, 0, none⟩ = some (.int .i64 b) from ⟨o.blk_cell 2, o.blk_cell 3, o.blk_cell 0⟩)
    refine wp_region_need (fun W => W.cell? ⟨g, 2, none⟩ = some (.slice none 0 0) ∧ W.cell? ⟨g, 3, none⟩ = some (.int .i64 (b + ((0 : Nat) : Int))) ∧ W.cell? ⟨g, 0, none⟩ = some (.int .i64 b)) (fun j => decide (j < 14)) (by kernel_rfl) ?_
    obtain ⟨W0, hW0⟩ : ∃ W0, w.drew = W0 := ⟨_, rfl⟩
    have HS := Lib.hid (HSF.out _ _ O1.out.drew)
    have O2 := Lib.hid O1.out.drew
    rw [hW0] at HS O2 ⊢
    clear hW0
    refine wpAnyN_take (i := 0) (v := ?vha0) (by simp only [List.getElem?_toArray, List.getElem?_cons_succ, List.getElem?_cons_zero]; rfl) (by kernel_rfl) (by intro _ _ _ h; exact h) (Or.inl ⟨by rfl, ?yha0⟩) HS.out ?rha0
    case yha0 =>
      intro W hSW
      try dsimp only at hSW
      obtain ⟨s0, s1, s2⟩ := hSW
      go_simp
      try with_reducible rfl
    simp only [Act.put, List.setIfInBounds_toArray, List.set_cons_zero, List.set_cons_succ]
    refine wpAnyN_take (i := 1) (v := ?vha1) (by simp only [List.getElem?_toArray, List.getElem?_cons_succ, List.getElem?_cons_zero]; rfl) (by kernel_rfl) (by intro _ _ _ h; exact h) (Or.inl ⟨by rfl, ?yha1⟩) HS.out ?rha1
    case yha1 =>
      intro W hSW
      try dsimp only at hSW
      obtain ⟨s0, s1, s2⟩ := hSW
      go_simp
      try with_reducible rfl
    simp only [Act.put, List.setIfInBounds_toArray, List.set_cons_zero, List.set_cons_succ]
    refine wpAnyN_take (i := 2) (v := ?vha2) (by simp only [List.getElem?_toArray, List.getElem?_cons_succ, List.getElem?_cons_zero]; rfl) (by kernel_rfl) (by intro _ _ _ h; exact h) (Or.inl ⟨by rfl, ?yha2⟩) HS.out ?rha2
    case yha2 =>
      intro W hSW
      try dsimp only at hSW
      obtain ⟨s0, s1, s2⟩ := hSW
      go_simp
      try with_reducible rfl
    simp only [Act.put, List.setIfInBounds_toArray, List.set_cons_zero, List.set_cons_succ]
    refine wpAnyN_take (i := 3) (v := ?vha3) (by simp only [List.getElem?_toArray, List.getElem?_cons_succ, List.getElem?_cons_zero]; rfl) (by kernel_rfl) (by intro _ _ _ h; exact h) (Or.inl ⟨by rfl, ?yha3⟩) HS.out ?rha3
    case yha3 =>
      intro W hSW
      try dsimp only at hSW
      obtain ⟨s0, s1, s2⟩ := hSW
      go_simp
      try with_reducible rfl
    simp only [Act.put, List.setIfInBounds_toArray, List.set_cons_zero, List.set_cons_succ]
    refine wpAnyN_take (i := 4) (v := ?vha4) (by simp only [List.getElem?_toArray, List.getElem?_cons_succ, List.getElem?_cons_zero]; rfl) (by kernel_rfl) (by intro _ _ _ h; exact h) (Or.inl ⟨by rfl, ?yha4⟩) HS.out ?rha4
    case yha4 =>
      intro W hSW
      try dsimp only at hSW
      obtain ⟨s0, s1, s2⟩ := hSW
      go_simp
      try with_reducible rfl
    simp only [Act.put, List.setIfInBounds_toArray, List.set_cons_zero, List.set_cons_succ]
    refine wpAnyN_take (i := 5) (v := ?vha5) (by simp only [List.getElem?_toArray, List.getElem?_cons_succ, List.getElem?_cons_zero]; rfl) (by kernel_rfl) (by intro _ _ _ h; exact h) (Or.inl ⟨by rfl, ?yha5⟩) HS.out ?rha5
    case yha5 =>
      intro W hSW
      try dsimp only at hSW
      obtain ⟨s0, s1, s2⟩ := hSW
      go_simp
      try with_reducible rfl
    simp only [Act.put, List.setIfInBounds_toArray, List.set_cons_zero, List.set_cons_succ]
    refine wpAnyN_take (i := 6) (v := ?vha6) (by simp only [List.getElem?_toArray, List.getElem?_cons_succ, List.getElem?_cons_zero]; rfl) (by kernel_rfl) (by intro _ _ _ h; exact h) (Or.inl ⟨by rfl, ?yha6⟩) HS.out ?rha6
    case yha6 =>
      intro W hSW
      try dsimp only at hSW
      obtain ⟨s0, s1, s2⟩ := hSW
      go_simp
      try with_reducible rfl
    simp only [Act.put, List.setIfInBounds_toArray, List.set_cons_zero, List.set_cons_succ]
    refine wpAnyN_take (i := 7) (v := ?vha7) (by simp only [List.getElem?_toArray, List.getElem?_cons_succ, List.getElem?_cons_zero]; rfl) (by kernel_rfl) (by intro _ _ _ h; exact h) (Or.inl ⟨by rfl, ?yha7⟩) HS.out ?rha7
    case yha7 =>
      intro W hSW
      try dsimp only at hSW
      obtain ⟨s0, s1, s2⟩ := hSW
      go_simp
      try with_reducible rfl
    simp only [Act.put, List.setIfInBounds_toArray, List.set_cons_zero, List.set_cons_succ]
    refine wpAnyN_take (i := 8) (v := ?vha8) (by simp only [List.getElem?_toArray, List.getElem?_cons_succ, List.getElem?_cons_zero]; rfl) (by kernel_rfl) (by intro _ _ _ h; exact h) (Or.inl ⟨by rfl, ?yha8⟩) HS.out ?rha8
    case yha8 =>
      intro W hSW
      try dsimp only at hSW
      obtain ⟨s0, s1, s2⟩ := hSW
      go_simp
      try with_reducible rfl
    simp only [Act.put, List.setIfInBounds_toArray, List.set_cons_zero, List.set_cons_succ]
    refine wpAnyN_take (i := 9) (v := ?vha9) (by simp only [List.getElem?_toArray, List.getElem?_cons_succ, List.getElem?_cons_zero]; rfl) (by kernel_rfl) (by intro _ _ _ h; exact h) (Or.inl ⟨by rfl, ?yha9⟩) HS.out ?rha9
    case yha9 =>
      intro W hSW
      try dsimp only at hSW
      obtain ⟨s0, s1, s2⟩ := hSW
      go_simp
      try with_reducible rfl
    simp only [Act.put, List.setIfInBounds_toArray, List.set_cons_zero, List.set_cons_succ]
    refine wpAnyN_take (i := 10) (v := ?vha10) (by simp only [List.getElem?_toArray, List.getElem?_cons_succ, List.getElem?_cons_zero]; rfl) (by kernel_rfl) (by intro _ _ _ h; exact h) (Or.inl ⟨by rfl, ?yha10⟩) HS.out ?rha10
    case yha10 =>
      intro W hSW
      try dsimp only at hSW
      obtain ⟨s0, s1, s2⟩ := hSW
      go_simp
      try with_reducible rfl
    simp only [Act.put, List.setIfInBounds_toArray, List.set_cons_zero, List.set_cons_succ]
    refine wpAnyN_take (i := 11) (v := ?vha11) (by simp only [List.getElem?_toArray, List.getElem?_cons_succ, List.getElem?_cons_zero]; rfl) (by kernel_rfl) (by intro _ _ _ h; exact h) (Or.inl ⟨by rfl, ?yha11⟩) HS.out ?rha11
    case yha11 =>
      intro W hSW
      try dsimp only at hSW
      obtain ⟨s0, s1, s2⟩ := hSW
      go_simp
      try with_reducible rfl
    simp only [Act.put, List.setIfInBounds_toArray, List.set_cons_zero, List.set_cons_succ]
    refine wpAnyN_take (i := 12) (v := ?vha12) (by simp only [List.getElem?_toArray, List.getElem?_cons_succ, List.getElem?_cons_zero]; rfl) (by kernel_rfl) (by intro _ _ _ h; exact h) (Or.inl ⟨by rfl, ?yha12⟩) HS.out ?rha12
    case yha12 =>
      intro W hSW
      try dsimp only at hSW
      obtain ⟨s0, s1, s2⟩ := hSW
      go_simp
      try with_reducible rfl
    simp only [Act.put, List.setIfInBounds_toArray, List.set_cons_zero, List.set_cons_succ]
    refine wpAnyN_take (i := 13) (v := ?vha13) (by simp only [List.getElem?_toArray, List.getElem?_cons_succ, List.getElem?_cons_zero]; rfl) (by kernel_rfl) (by intro _ _ _ h; exact h) (Or.inl ⟨by rfl, ?yha13⟩) HS.out ?rha13
    case yha13 =>
      intro W hSW
      try dsimp only at hSW
      obtain ⟨s0, s1, s2⟩ := hSW
      go_simp
      try with_reducible rfl
    simp only [Act.put, List.setIfInBounds_toArray, List.set_cons_zero, List.set_cons_succ]
    refine wpAnyN_one (i := 14) (by kernel_rfl) (by simp only [List.getElem?_toArray, List.getElem?_cons_succ, List.getElem?_cons_zero]; rfl) (fun K hK => ?_)
    refine step_call rfl 34 _ _ rfl Try.func34 (by kernel_rfl) (by kernel_rfl) #[.slice none 0 0] (by simp [Act.eval]) ?_
    refine (HCo.out _ O2.out).mono ?_
    rintro e w2 ⟨A5, c5, rfl, o5⟩
    refine ⟨_, rfl, ?_⟩
    refine hK _ _ ⟨fun h => (by cases h), ?_⟩
    clear hK K HS O2
    try simp only [Act.put, List.setIfInBounds_toArray, List.set_cons_zero, List.set_cons_succ]
    refine wpAnyN_one (i := 15) (by kernel_rfl) (by simp only [List.getElem?_toArray, List.getElem?_cons_succ, List.getElem?_cons_zero]; rfl) (fun K hK => ?_)
    go_simp
    refine hK _ _ ⟨fun h => (by cases h), ?_⟩
    clear hK K
    try simp only [Act.put, List.setIfInBounds_toArray, List.set_cons_zero, List.set_cons_succ]
    refine wpAnyN_done (by kernel_rfl) ?_ _
    try skip
    obtain ⟨la, hlq⟩ : ∃ la, Lg.lastI ⟨b, tb, L, (b + ((0 : Nat) : Int)), sv, cv, pv, av⟩ = la := ⟨_, rfl⟩
    have hLa := rlast_own HX.out.1 HX.out.2.1 HX.out.2.2 (Own.log_shut (x := ⟨b, tb, L, (b + ((0 : Nat) : Int)), sv, cv, pv, av⟩) (o5.pick (L := [_, _, _]) [1, 2, 0]))
    rw [hlq] at hLa
    have HLa := Lib.hid hLa
    have HLQ := Lib.hid hlq
    clear o5 O1 HCo hLa hlq
    go_wp2_with fail
    refine (HLa.out).mono ?_
    rintro e w3 ⟨rfl, o3⟩
    obtain ⟨A4, c4, -, -, o4, -, -, -, -, k3, -⟩ := o3.log_cells
    have f3 := o4.blk_free 3
    have O4 := Lib.hid (Own.log_shut (x := ⟨b, tb, L, la, sv, cv, pv, av⟩) (o4.blk_set 3 (.int .i64 la)))
    clear o3 o4 HLa
    go_wp2
    go_ret
    refine ⟨A5, c5, by rw [HCT.out.2.1]; rfl, ?_⟩
    have := O4.out.swap
    rw [HCT.out.1, HCT.out.2.2]
    show Own S w0 _ (_ :: SP.log 88 g ⟨b, tb, L, Lg.lastI ⟨b, tb, L, (b + ((0 : Nat) : Int)), sv, cv, pv, av⟩, sv, cv, pv, av⟩ :: R)
    rw [HLQ.out]
    exact this
  · have HCo := Lib.hid (fun (W : World) (o : Own S w0 W (SP.blk g 88 (logA ⟨b, tb, L, b + (p : Int), sv, cv, pv, av⟩ (.slice (some ⟨bl, off, none⟩) n c)) :: SP.ents 26 (.slice (some ⟨bl, off, none⟩) n c) L :: R)) => show Calls Try.prog 34 #[.slice (if c = p then some ⟨bl, off, none⟩ else some ⟨bl, off + p * 4, none⟩) (n - p) (c - p)] W fun e w' => ∃ A' c', e = .returned (.slice A' (n - p) c') ∧ Own S w0 w' (SP.ents 26 (.slice A' (n - p) c') (L.drop p) :: SP.blk g 88 (logA ⟨b, tb, L, b + (p : Int), sv, cv, pv, av⟩ (.slice (some ⟨bl, off, none⟩) n c)) :: SP.ents 26 (.slice (some ⟨bl, off, none⟩) n c) L :: R) from by
      have hr := cut_reads (S := S) (w0 := w0) (R := R) (bl := bl) (off := off) n hpn hc1 hn
      rw [List.take_of_length_le (by rw [List.length_drop]; omega)] at hr
      have := copies_own (c := c - p) (es := L.drop p) (by rw [List.length_drop]; omega) (fun m hm => by have := hdat m (List.mem_of_mem_drop hm); omega) o (EReads.more hr [_])
      rw [List.length_drop, hn] at this
      exact this)
    clear o1 hn hdat hb4 hla hlen hb3
    go_enter Try.func64, Try.ntmps64
    go_upto_region 1 with (fail)
    have HSF := Lib.hid (fun (W : World) (R' : List SP) (o : Own S w0 W (SP.blk g 88 (logA ⟨b, tb, L, (b + (p : Int)), sv, cv, pv, av⟩ (.slice (some ⟨bl, off, none⟩) n c)) :: R')) => show W.cell? ⟨g, 2, none⟩ = some (.slice (some ⟨bl, off, none⟩) n c) ∧ W.cell? ⟨g, 3, none⟩ = some (.int .i64 (b + (p : Int))) ∧ W.cell? ⟨g, 0, none⟩ = some (.int .i64 b) from ⟨o.blk_cell 2, o.blk_cell 3, o.blk_cell 0⟩)
    refine wp_region_need (fun W => W.cell? ⟨g, 2, none⟩ = some (.slice (some ⟨bl, off, none⟩) n c) ∧ W.cell? ⟨g, 3, none⟩ = some (.int .i64 (b + (p : Int))) ∧ W.cell? ⟨g, 0, none⟩ = some (.int .i64 b)) (fun j => decide (j < 14)) (by kernel_rfl) ?_
    obtain ⟨W0, hW0⟩ : ∃ W0, w.drew = W0 := ⟨_, rfl⟩
    have HS := Lib.hid (HSF.out _ _ O1.out.drew)
    have O2 := Lib.hid O1.out.drew
    rw [hW0] at HS O2 ⊢
    clear hW0
    refine wpAnyN_take (i := 0) (v := ?vhb0) (by simp only [List.getElem?_toArray, List.getElem?_cons_succ, List.getElem?_cons_zero]; rfl) (by kernel_rfl) (by intro _ _ _ h; exact h) (Or.inl ⟨by rfl, ?yhb0⟩) HS.out ?rhb0
    case yhb0 =>
      intro W hSW
      try dsimp only at hSW
      obtain ⟨s0, s1, s2⟩ := hSW
      go_simp
      try with_reducible rfl
    simp only [Act.put, List.setIfInBounds_toArray, List.set_cons_zero, List.set_cons_succ]
    refine wpAnyN_take (i := 1) (v := ?vhb1) (by simp only [List.getElem?_toArray, List.getElem?_cons_succ, List.getElem?_cons_zero]; rfl) (by kernel_rfl) (by intro _ _ _ h; exact h) (Or.inl ⟨by rfl, ?yhb1⟩) HS.out ?rhb1
    case yhb1 =>
      intro W hSW
      try dsimp only at hSW
      obtain ⟨s0, s1, s2⟩ := hSW
      go_simp
      try with_reducible rfl
    simp only [Act.put, List.setIfInBounds_toArray, List.set_cons_zero, List.set_cons_succ]
    refine wpAnyN_take (i := 2) (v := ?vhb2) (by simp only [List.getElem?_toArray, List.getElem?_cons_succ, List.getElem?_cons_zero]; rfl) (by kernel_rfl) (by intro _ _ _ h; exact h) (Or.inl ⟨by rfl, ?yhb2⟩) HS.out ?rhb2
    case yhb2 =>
      intro W hSW
      try dsimp only at hSW
      obtain ⟨s0, s1, s2⟩ := hSW
      go_simp
      try with_reducible rfl
    simp only [Act.put, List.setIfInBounds_toArray, List.set_cons_zero, List.set_cons_succ]
    refine wpAnyN_take (i := 3) (v := ?vhb3) (by simp only [List.getElem?_toArray, List.getElem?_cons_succ, List.getElem?_cons_zero]; rfl) (by kernel_rfl) (by intro _ _ _ h; exact h) (Or.inl ⟨by rfl, ?yhb3⟩) HS.out ?rhb3
    case yhb3 =>
      intro W hSW
      try dsimp only at hSW
      obtain ⟨s0, s1, s2⟩ := hSW
      go_simp
      try with_reducible rfl
    simp only [Act.put, List.setIfInBounds_toArray, List.set_cons_zero, List.set_cons_succ]
    refine wpAnyN_take (i := 4) (v := ?vhb4) (by simp only [List.getElem?_toArray, List.getElem?_cons_succ, List.getElem?_cons_zero]; rfl) (by kernel_rfl) (by intro _ _ _ h; exact h) (Or.inl ⟨by rfl, ?yhb4⟩) HS.out ?rhb4
    case yhb4 =>
      intro W hSW
      try dsimp only at hSW
      obtain ⟨s0, s1, s2⟩ := hSW
      go_simp
      try with_reducible rfl
    simp only [Act.put, List.setIfInBounds_toArray, List.set_cons_zero, List.set_cons_succ]
    refine wpAnyN_take (i := 5) (v := ?vhb5) (by simp only [List.getElem?_toArray, List.getElem?_cons_succ, List.getElem?_cons_zero]; rfl) (by kernel_rfl) (by intro _ _ _ h; exact h) (Or.inl ⟨by rfl, ?yhb5⟩) HS.out ?rhb5
    case yhb5 =>
      intro W hSW
      try dsimp only at hSW
      obtain ⟨s0, s1, s2⟩ := hSW
      go_simp
      try with_reducible rfl
    simp only [Act.put, List.setIfInBounds_toArray, List.set_cons_zero, List.set_cons_succ]
    refine wpAnyN_take (i := 6) (v := ?vhb6) (by simp only [List.getElem?_toArray, List.getElem?_cons_succ, List.getElem?_cons_zero]; rfl) (by kernel_rfl) (by intro _ _ _ h; exact h) (Or.inl ⟨by rfl, ?yhb6⟩) HS.out ?rhb6
    case yhb6 =>
      intro W hSW
      try dsimp only at hSW
      obtain ⟨s0, s1, s2⟩ := hSW
      go_simp
      try with_reducible rfl
    simp only [Act.put, List.setIfInBounds_toArray, List.set_cons_zero, List.set_cons_succ]
    refine wpAnyN_take (i := 7) (v := ?vhb7) (by simp only [List.getElem?_toArray, List.getElem?_cons_succ, List.getElem?_cons_zero]; rfl) (by kernel_rfl) (by intro _ _ _ h; exact h) (Or.inl ⟨by rfl, ?yhb7⟩) HS.out ?rhb7
    case yhb7 =>
      intro W hSW
      try dsimp only at hSW
      obtain ⟨s0, s1, s2⟩ := hSW
      go_simp
      try with_reducible rfl
    simp only [Act.put, List.setIfInBounds_toArray, List.set_cons_zero, List.set_cons_succ]
    refine wpAnyN_take (i := 8) (v := ?vhb8) (by simp only [List.getElem?_toArray, List.getElem?_cons_succ, List.getElem?_cons_zero]; rfl) (by kernel_rfl) (by intro _ _ _ h; exact h) (Or.inl ⟨by rfl, ?yhb8⟩) HS.out ?rhb8
    case yhb8 =>
      intro W hSW
      try dsimp only at hSW
      obtain ⟨s0, s1, s2⟩ := hSW
      go_simp
      try with_reducible rfl
    simp only [Act.put, List.setIfInBounds_toArray, List.set_cons_zero, List.set_cons_succ]
    refine wpAnyN_take (i := 9) (v := ?vhb9) (by simp only [List.getElem?_toArray, List.getElem?_cons_succ, List.getElem?_cons_zero]; rfl) (by kernel_rfl) (by intro _ _ _ h; exact h) (Or.inl ⟨by rfl, ?yhb9⟩) HS.out ?rhb9
    case yhb9 =>
      intro W hSW
      try dsimp only at hSW
      obtain ⟨s0, s1, s2⟩ := hSW
      go_simp
      try with_reducible rfl
    simp only [Act.put, List.setIfInBounds_toArray, List.set_cons_zero, List.set_cons_succ]
    refine wpAnyN_take (i := 10) (v := ?vhb10) (by simp only [List.getElem?_toArray, List.getElem?_cons_succ, List.getElem?_cons_zero]; rfl) (by kernel_rfl) (by intro _ _ _ h; exact h) (Or.inl ⟨by rfl, ?yhb10⟩) HS.out ?rhb10
    case yhb10 =>
      intro W hSW
      try dsimp only at hSW
      obtain ⟨s0, s1, s2⟩ := hSW
      go_simp
      try with_reducible rfl
    simp only [Act.put, List.setIfInBounds_toArray, List.set_cons_zero, List.set_cons_succ]
    refine wpAnyN_take (i := 11) (v := ?vhb11) (by simp only [List.getElem?_toArray, List.getElem?_cons_succ, List.getElem?_cons_zero]; rfl) (by kernel_rfl) (by intro _ _ _ h; exact h) (Or.inl ⟨by rfl, ?yhb11⟩) HS.out ?rhb11
    case yhb11 =>
      intro W hSW
      try dsimp only at hSW
      obtain ⟨s0, s1, s2⟩ := hSW
      go_simp
      try with_reducible rfl
    simp only [Act.put, List.setIfInBounds_toArray, List.set_cons_zero, List.set_cons_succ]
    refine wpAnyN_take (i := 12) (v := ?vhb12) (by simp only [List.getElem?_toArray, List.getElem?_cons_succ, List.getElem?_cons_zero]; rfl) (by kernel_rfl) (by intro _ _ _ h; exact h) (Or.inl ⟨by rfl, ?yhb12⟩) HS.out ?rhb12
    case yhb12 =>
      intro W hSW
      try dsimp only at hSW
      obtain ⟨s0, s1, s2⟩ := hSW
      go_simp
      try with_reducible rfl
    simp only [Act.put, List.setIfInBounds_toArray, List.set_cons_zero, List.set_cons_succ]
    refine wpAnyN_take (i := 13) (v := ?vhb13) (by simp only [List.getElem?_toArray, List.getElem?_cons_succ, List.getElem?_cons_zero]; rfl) (by kernel_rfl) (by intro _ _ _ h; exact h) (Or.inl ⟨by rfl, ?yhb13⟩) HS.out ?rhb13
    case yhb13 =>
      intro W hSW
      try dsimp only at hSW
      obtain ⟨s0, s1, s2⟩ := hSW
      go_simp
      try with_reducible rfl
    simp only [Act.put, List.setIfInBounds_toArray, List.set_cons_zero, List.set_cons_succ]
    refine wpAnyN_one (i := 14) (by kernel_rfl) (by simp only [List.getElem?_toArray, List.getElem?_cons_succ, List.getElem?_cons_zero]; rfl) (fun K hK => ?_)
    refine step_call rfl 34 _ _ rfl Try.func34 (by kernel_rfl) (by kernel_rfl) #[.slice (if c = p then some ⟨bl, off, none⟩ else some ⟨bl, off + p * 4, none⟩) (n - p) (c - p)] (by simp [Act.eval]) ?_
    refine (HCo.out _ O2.out).mono ?_
    rintro e w2 ⟨A5, c5, rfl, o5⟩
    refine ⟨_, rfl, ?_⟩
    refine hK _ _ ⟨fun h => (by cases h), ?_⟩
    clear hK K HS O2
    try simp only [Act.put, List.setIfInBounds_toArray, List.set_cons_zero, List.set_cons_succ]
    refine wpAnyN_one (i := 15) (by kernel_rfl) (by simp only [List.getElem?_toArray, List.getElem?_cons_succ, List.getElem?_cons_zero]; rfl) (fun K hK => ?_)
    go_simp
    refine hK _ _ ⟨fun h => (by cases h), ?_⟩
    clear hK K
    try simp only [Act.put, List.setIfInBounds_toArray, List.set_cons_zero, List.set_cons_succ]
    refine wpAnyN_done (by kernel_rfl) ?_ _
    generalize (if c = p then some (⟨bl, off, none⟩ : Addr) else some ⟨bl, off + p * 4, none⟩) = A2
    obtain ⟨la, hlq⟩ : ∃ la, Lg.lastI ⟨b, tb, L, (b + (p : Int)), sv, cv, pv, av⟩ = la := ⟨_, rfl⟩
    have hLa := rlast_own HX.out.1 HX.out.2.1 HX.out.2.2 (Own.log_shut (x := ⟨b, tb, L, (b + (p : Int)), sv, cv, pv, av⟩) (o5.pick (L := [_, _, _]) [1, 2, 0]))
    rw [hlq] at hLa
    have HLa := Lib.hid hLa
    have HLQ := Lib.hid hlq
    clear o5 O1 HCo hLa hlq
    go_wp2_with fail
    refine (HLa.out).mono ?_
    rintro e w3 ⟨rfl, o3⟩
    obtain ⟨A4, c4, -, -, o4, -, -, -, -, k3, -⟩ := o3.log_cells
    have f3 := o4.blk_free 3
    have O4 := Lib.hid (Own.log_shut (x := ⟨b, tb, L, la, sv, cv, pv, av⟩) (o4.blk_set 3 (.int .i64 la)))
    clear o3 o4 HLa
    go_wp2
    go_ret
    refine ⟨A5, c5, by rw [HCT.out.2.1]; rfl, ?_⟩
    have := O4.out.swap
    rw [HCT.out.1, HCT.out.2.2]
    show Own S w0 _ (_ :: SP.log 88 g ⟨b, tb, L, Lg.lastI ⟨b, tb, L, (b + (p : Int)), sv, cv, pv, av⟩, sv, cv, pv, av⟩ :: R)
    rw [HLQ.out]
    exact this
end
end Go.Proofs.Ytepnkhiclgjmpaa

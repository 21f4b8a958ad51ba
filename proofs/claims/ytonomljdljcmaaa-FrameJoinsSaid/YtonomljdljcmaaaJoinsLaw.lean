/-
  FrameJoins as a call: it returns true, and what was there stays.
  Conditions: the lists lie in memory as they were handed in.
-/
import Derived.Test.YtonomljdljcmaaaBack
namespace Go.Proofs.Ytonomljdljcmaaa
set_option linter.unusedVariables false
set_option linter.unusedSimpArgs false
open Go.RowKit

/-- A lent copy: its slice, and the byte behind it. -/
def lentRow (u : Value) (b : List UInt8) : SP := SP.ex fun p : Option Addr × Nat => SP.stars [SP.pur (u = .slice p.1 b.length p.2 ∧ b.length + 1 ≤ p.2 ∧ p.2 ≤ maxLen), SP.row 5 1 (.slice p.1 (b.length + 1) p.2) (bts (b ++ [201]))]
def lentRows (vs : List Value) (L : List (List UInt8)) : List SP := List.zipWith lentRow vs L

section
variable {S : Nat → Prop} {w0 w : World} {R : List SP}
theorem lentRows_snoc {vs : List Value} {L : List (List UInt8)} (h : vs.length = L.length) (u : Value) (x : List UInt8) : lentRows (vs ++ [u]) (L ++ [x]) = lentRows vs L ++ [lentRow u x] := by
  simp [lentRows, List.zipWith_append h]
theorem Own.lent_mk {A : Option Addr} {c : Nat} {b : List UInt8} (hc : b.length + 1 ≤ c) (hc2 : c ≤ maxLen) (h : Own S w0 w (SP.row 5 1 (.slice A (b.length + 1) c) (bts (b ++ [201])) :: R)) : Own S w0 w (lentRow (.slice A b.length c) b :: R) :=
  Own.mkex (A, c) (Own.unflat (L := [_, _]) (h.pur ⟨rfl, hc, hc2⟩))
theorem Own.lents_snoc {vs : List Value} {L : List (List UInt8)} {x : List UInt8} {u : Value} (hl : vs.length = L.length) (h : Own S w0 w (SP.stars (lentRows vs L) :: lentRow u x :: R)) : Own S w0 w (SP.stars (lentRows (vs ++ [u]) (L ++ [x])) :: R) := by
  rw [lentRows_snoc hl]
  have h1 : Own S w0 w (lentRows vs L ++ (lentRow u x :: R)) := h.flat
  exact Own.unflat (L := lentRows vs L ++ [lentRow u x]) (R := R) (by simpa using h1)
theorem lentRows_get {vs : List Value} {L : List (List UInt8)} {k : Nat} {u : Value} {x : List UInt8} (hv : vs[k]? = some u) (hL : L[k]? = some x) : (lentRows vs L)[k]? = some (lentRow u x) := by
  simp [lentRows, List.getElem?_zipWith, hv, hL]
/-- One of them: the cell that names it, and what it reads. -/
theorem Own.lents_at {A : Option Addr} {n c k : Nat} {vs : List Value} {L : List (List UInt8)} {x : List UInt8} (hl : vs.length = L.length) (hx : L[k]? = some x) (h : Own S w0 w (SP.row 22 1 (.slice A n c) vs :: SP.stars (lentRows vs L) :: R)) :
    ∃ g off A' c', A = some ⟨g, off, none⟩ ∧ vs[k]? = some (.slice A' x.length c') ∧ w.cell? ⟨g, off + k, none⟩ = some (.slice A' x.length c') ∧ x.length + 1 ≤ c' ∧ c' ≤ maxLen ∧ Rd w A' (bts (x ++ [201])) := by
  have hk : k < L.length := (List.getElem?_eq_some_iff.1 hx).1
  obtain ⟨u, hu⟩ : ∃ u, vs[k]? = some u := ⟨_, List.getElem?_eq_getElem (by omega)⟩
  have h1 := (h.swap.focus k (lentRows_get hu hx))
  obtain ⟨⟨A', c'⟩, h2⟩ := h1.unex
  obtain ⟨⟨e1, e2, e3⟩, h3⟩ := (Own.flat (L := [_, _]) h2).unpur
  subst e1
  obtain ⟨g, off, e4, h4, -⟩ := h.cell hu
  exact ⟨g, off, A', c', e4, hu, h4, e2, e3, h3.rd⟩
theorem readsU_lents {A : Option Addr} {n c : Nat} {vs : List Value} {L : List (List UInt8)} (hl : vs.length = L.length) (h : Own S w0 w (SP.row 22 1 (.slice A n c) vs :: SP.stars (lentRows vs L) :: R)) :
    ReadsU S w0 (SP.row 22 1 (.slice A n c) vs :: SP.stars (lentRows vs L) :: R) A L := fun k x hx => by
  obtain ⟨g, off, A', c', e1, e2, -, e4, e5, -⟩ := h.lents_at hl hx
  refine ⟨g, off, A', c', e1, by omega, e5, fun W X hX => ?_⟩
  have h1 : Own S w0 W (SP.row 22 1 (.slice A n c) vs :: SP.stars (lentRows vs L) :: (R ++ X)) := hX.perm List.perm_append_comm
  obtain ⟨g', off', A'', c'', f1, f2, f3, f4, f5, f6⟩ := h1.lents_at hl hx
  rw [e1] at f1
  injection f1 with f1
  injection f1 with f1 f1'
  subst f1 f1'
  rw [e2] at f2
  injection f2 with f2
  injection f2 with f2 f2' f2''
  subst f2 f2''
  refine ⟨f3, ?_⟩
  rw [bts_append] at f6
  exact f6.front
end

set_option maxRecDepth 100000 in
set_option maxHeartbeats 8000000 in
theorem joins_calls (w : World) (A : Option Addr) (c : Nat) (L : List (List UInt8)) (hL : RdM w A L) (hcap : L.length ≤ c) (hcap2 : c ≤ maxLen) (hll : ∀ x, x ∈ L → x.length ≤ maxLen) (hlen : L.length ≤ 140737488351232) :
    Calls Try.prog 8 #[.slice A L.length c] w fun e w' => e = .returned (.bool true) ∧ Below w.heap.size w w' := by
  have hf := Lib.hid (first_calls w)
  have HL := Lib.hid hL
  have hll' : ∀ x, x ∈ L → x.length ≤ 9223372036854775807 := fun x hx => by have := hll x hx; unfold maxLen at this; exact this
  have hcap3 : c ≤ 9223372036854775807 := by unfold maxLen at hcap2; exact hcap2
  have HLL := Lib.hid hll'
  clear hL hll hll' hcap2
  by_cases hfew : total L ≤ 4000
  · by_cases hmany : L.length ≤ 200
    · have hfew' := Lib.hid hfew
      have hd : decide (total L ≤ 4000) = true := by simpa using hfew
      have hfit : allFit L := fun x hx => by have := total_fit hfew x hx; omega
      have hspan : span L ≤ 5600 := by rw [span_total]; omega
      have hjl := joinB_span L
      obtain ⟨J, hJ⟩ : ∃ J, joinB L = J := ⟨_, rfl⟩
      rw [hJ] at hjl
      obtain ⟨n, hn⟩ : ∃ n, J.length = n := ⟨_, rfl⟩
      have hn2 : n ≤ 5600 := by omega
      have HJ := Lib.hid (And.intro hJ (And.intro hfit hn))
      clear hJ hjl hfit hfew hspan hn
      go_enter Try.func8, Try.ntmps8
      go_wp2_with fail
      refine (hf.out).mono ?_
      rintro e w1 ⟨rfl, hb1⟩
      have Hb1 := Lib.hid hb1
      have HM := Lib.hid (HL.out.below hb1)
      have HU := Lib.hid (readsU_arg (R := []) HM.out)
      have HF := few_calls w1 A c 4000 L HM.out (by omega) (by omega) HLL.out
      rw [hd] at HF
      have HF' := Lib.hid HF
      have H0 := Lib.hid (show Own (fun _ => False) w1 w1 [SP.row 22 1 (.slice none 0 0) [], SP.stars (lentRows [] [])] from ((Own.start w1).add (B := SP.stars (lentRows [] [])) trivial).add (SP.row_nil _ _ _ _))
      clear hb1 HF hd
      go_wp2_with fail
      refine (HF'.out).mono ?_
      rintro e w' ⟨rfl, rfl⟩
      go_wp2
      go_loopw [5, 6] (fun t0 t wr => ∃ (i : Nat) (A1 : Option Addr) (c1 : Nat) (vs : List Value), i ≤ L.length ∧ t0 = .slice A1 i c1 ∧ t = .int .i64 i ∧ Hid (vs.length = i) ∧ Own (fun _ => False) w1 wr [SP.row 22 1 (.slice A1 i c1) vs, SP.stars (lentRows vs (L.take i))]) (fun _ t _ => L.length - (intOf t).toNat)
      case atStart => exact ⟨0, none, 0, [], Nat.zero_le _, rfl, rfl, Lib.hid rfl, H0.out⟩
      case round =>
        obtain ⟨i, A1, c1, vs, hi, rfl, rfl, hvs, hown⟩ := hrel
        have i0 : (0 : Int) ≤ (i : Int) := by omega
        by_cases hin : i < L.length
        · have i1 : (i : Int) < (L.length : Int) := by omega
          obtain ⟨x, hx⟩ : ∃ x, L[i]? = some x := ⟨_, List.getElem?_eq_getElem hin⟩
          have hxl := total_fit hfew'.out x (List.mem_of_getElem? hx)
          obtain ⟨b1, o1, A2, c2, rfl, -, -, hall⟩ := HU.out i x hx
          have hc2 := (hall wr [_, _] hown).1
          have hxr : Reads (fun _ => False) w1 [SP.row 22 1 (.slice A1 i c1) vs, SP.stars (lentRows vs (L.take i))] A2 x := fun W X hX => (hall W (X ++ [_, _]) (by simpa using hX)).2
          have HLn := Lib.hid (lent_own (cb := c2) hown hxr (by omega))
          have HX := Lib.hid hx
          clear hown hall hxr hx
          go_wp2_with fail
          refine (HLn.out).mono ?_
          rintro e w2 ⟨A3, c3, rfl, hc3, hc4, own1⟩
          have o2 := (own1.lent_mk hc3 hc4).pick (L := [_, _, _]) [1, 2, 0]
          obtain ⟨T, hr, hback⟩ := Own.grow1 o2 #[.slice A3 x.length c3] 22
          have G := Lib.hid (And.intro hr hback)
          clear own1 o2 hr hback hc3 hc4 HLn
          go_wp2_with (at_builtin; refine wpList_append_row rfl (.tmp 35) (.tmp 41) 40 rfl 22 (.slice none 0 0) 1 24 Try.underlying40 Try.info22 rfl (by decide) rfl (by rw [hvs.out, Nat.mul_one]) G.out.1 _ 1 1 [.slice A3 x.length c3] rfl rfl (rd_one _ _ _) (by simp [Value.oneCell']) (by unfold maxLen; omega) (by omega) ?_)
          rintro A4 c4 w3 - hk3 hr3
          have O3 := Lib.hid (G.out.2 _ _ hk3 hr3)
          clear hk3 hr3
          go_wp2
          go_roundw
          case rel =>
            refine ⟨i + 1, A4, c4, vs ++ [.slice A3 x.length c3], by omega, rfl, by go_num, Lib.hid (by rw [List.length_append, hvs.out]; rfl), ?_⟩
            rw [List.take_add_one, HX.out]
            have h1 := O3.out.pick (L := [_, _, _]) [1, 2, 0]
            exact (Own.lents_snoc (x := x) (by rw [hvs.out, List.length_take]; omega) h1).swap
          case measure => simp [intOf]; omega
        · obtain rfl : i = L.length := by omega
          have hvl : vs.length = L.length := hvs.out
          rw [List.take_length] at hown
          have hrU := readsU_lents hvl hown
          have HV := Lib.hid (And.intro hvl hrU)
          have HJn := Lib.hid (join_own (c := c1) hown hrU (by omega) (fun x hx => by have := total_fit hfew'.out x hx; omega))
          clear hown hrU hvl
          go_wp2_with fail
          refine (HJn.out).mono ?_
          rintro e w2 (⟨-, A2, c2, rfl, own1⟩ | ⟨hno, -⟩)
          · rw [HJ.out.1, HJ.out.2.2] at own1 ⊢
            have HR := Lib.hid (rjoin_own (c := c) own1 (HU.out.more [_, _, _]) (by omega) (fun x hx => by have := total_fit hfew'.out x hx; omega))
            clear own1 HJn
            go_wp2_with fail
            refine (HR.out).mono ?_
            rintro e w3 (⟨-, A3, c3, rfl, own2⟩ | ⟨hno, -⟩)
            · rw [HJ.out.1, HJ.out.2.2] at own2 ⊢
              have hsm := same_own (xs := J) (ca := c2) (cb := c3) own2 own2.swap.rd own2.rd (by rw [HJ.out.2.2]; omega)
              rw [HJ.out.2.2] at hsm
              have HS := Lib.hid hsm
              clear own2 HR hsm
              go_wp2_with fail
              refine (HS.out).mono ?_
              rintro e w4 ⟨rfl, own3⟩
              have O3 := Lib.hid (own3.pick (L := [_, _, _, _]) [2, 3])
              clear own3 HS
              go_wp2
              go_loopw [12] (fun t wr => ∃ i d : Nat, i ≤ L.length ∧ t = .int .i64 i ∧ wr = w4.drewN d) (fun t _ => L.length - (intOf t).toNat)
              case atStart => exact ⟨0, 0, Nat.zero_le _, rfl, rfl⟩
              case round =>
                obtain ⟨j, d, hj, rfl, rfl⟩ := hrel
                have j0 : (0 : Int) ≤ (j : Int) := by omega
                by_cases hjn : j < L.length
                · have j1 : (j : Int) < (L.length : Int) := by omega
                  obtain ⟨x, hx⟩ : ∃ x, L[j]? = some x := ⟨_, List.getElem?_eq_getElem hjn⟩
                  have hxl := total_fit hfew'.out x (List.mem_of_getElem? hx)
                  obtain ⟨b1, o1, A5, c5, rfl, -, -, hall⟩ := HU.out j x hx
                  have hcA := (hall w4 [_, _] O3.out).1
                  have hrA := (hall w4 [_, _] O3.out).2
                  obtain ⟨b2, o2, A6, c6, rfl, -, hcB, hc6, hc7, hrB⟩ := O3.out.lents_at HV.out.1 hx
                  have HK := Lib.hid (fun m => kept_true (w := w4.drewN (d + m)) (A := A6) (B := A5) (c := c6) (cb := c5) (b := x) hrB hrA (by omega) hc6 (by unfold maxLen at hc7; exact hc7))
                  clear hx hall hrA hrB hc6 hc7
                  go_wp2
                  go_quiet ((go_at_call 17; exact quiet_add (HK.out _)))
                  go_wp2
                  go_roundw
                  case rel => exact ⟨j + 1, _, by omega, by go_num, rfl⟩
                  case measure => simp [intOf]; omega
                · obtain rfl : j = L.length := by omega
                  have z0 : ((0 : Int) == 0) = true := rfl
                  go_wp2_with fail
                  refine (num_calls _ _).mono ?_
                  rintro e w' ⟨rfl, rfl⟩
                  go_wp2
                  go_ret
                  exact ⟨rfl, Hb1.out.trans ((Own.drewN O3.out d).below.mono Hb1.out.size)⟩
            · exact absurd HJ.out.2.1 hno
          · exact absurd HJ.out.2.1 hno
    · have hmany' : (200 : Int) < (L.length : Int) := by omega
      have hd : decide (total L ≤ 4000) = true := by simpa using hfew
      clear hfew
      go_enter Try.func8, Try.ntmps8
      go_wp2_with fail
      refine (hf.out).mono ?_
      rintro e w1 ⟨rfl, hb1⟩
      have HF := few_calls w1 A c 4000 L (HL.out.below hb1) hlen (by omega) HLL.out
      rw [hd] at HF
      have HF' := Lib.hid HF
      clear HF hd
      go_wp2_with fail
      refine (HF'.out).mono ?_
      rintro e w' ⟨rfl, rfl⟩
      go_wp2
      go_ret
      exact ⟨rfl, hb1⟩
  · have hd : decide (total L ≤ 4000) = false := by simpa using hfew
    clear hfew
    go_enter Try.func8, Try.ntmps8
    go_wp2_with fail
    refine (hf.out).mono ?_
    rintro e w1 ⟨rfl, hb1⟩
    have HF := few_calls w1 A c 4000 L (HL.out.below hb1) hlen (by omega) HLL.out
    rw [hd] at HF
    have HF' := Lib.hid HF
    clear HF hd
    go_wp2_with fail
    refine (HF'.out).mono ?_
    rintro e w' ⟨rfl, rfl⟩
    go_wp2
    go_ret
    exact ⟨rfl, hb1⟩
end Go.Proofs.Ytonomljdljcmaaa

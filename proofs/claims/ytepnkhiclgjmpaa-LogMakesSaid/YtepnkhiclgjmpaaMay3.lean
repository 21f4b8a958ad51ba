/-
  app: what is checked of entries behind an index.
  Conditions: none beyond each theorem's own.
-/
import Derived.Test.YtepnkhiclgjmpaaMay2
namespace Go.Proofs.Ytepnkhiclgjmpaa
set_option linter.unusedVariables false
set_option linter.unusedSimpArgs false
open Go.RowKit

def appB (i t : Int) (es : List E) : Bool := decide (es.length ≤ 64) && decide (checkAll es = 0) && (decide (t = 0) == decide (i = 0)) && formB i t es
def mayB (i t : Int) (es : List E) : Bool := withinB i 0 && withinB t 0 && appB i t es

section
variable {S : Nat → Prop} {w0 w : World} {R : List SP}
set_option maxRecDepth 100000 in
set_option maxHeartbeats 6400000 in
theorem app_own {es : List E} {A : Option Addr} {c : Nat} (h : Own S w0 w R) (hr : EReads S w0 R A es) (hd : ∀ m, m ∈ es → m.dat.length ≤ 140737488351232) (i t : Int) (hi : 0 ≤ i) (hi2 : i ≤ 4611686018427387904) (ht : 0 ≤ t) (ht2 : t ≤ 4611686018427387904) (hl : es.length ≤ 140737488351232) :
    Calls Try.prog 82 #[msgV i t A es.length c] w fun e w' => ∃ r : Int, e = .returned (.int .i64 r) ∧ (r == 0) = appB i t es ∧ Own S w0 w' R := by
  obtain ⟨q, hq⟩ : ∃ q, w.heap.size = q := ⟨_, rfl⟩
  have HQ := Lib.hid hq
  have o1 := h.alloc (msgA i t A es.length c) 94
  rw [hq] at o1
  have O1 := Lib.hid o1
  have H := Lib.hid (And.intro hr hd)
  unfold msgV
  unfold msgA at O1 ⊢
  clear h o1 hr hd hq
  obtain ⟨res, hres⟩ : ∃ res, appB i t es = res := ⟨_, rfl⟩
  rw [hres]
  have HRES := Lib.hid hres
  clear hres
  by_cases h64 : 64 < es.length
  · obtain rfl : res = false := by
      rw [← HRES.out, appB, decide_eq_false (by omega)]; rfl
    have i1 : (64 : Int) < (es.length : Int) := by omega
    go_enter Try.func82, Try.ntmps82
    go_wp2
    go_ret
    exact ⟨3, rfl, rfl, O1.out.pop⟩
  · have i1 : ¬ (64 : Int) < (es.length : Int) := by omega
    have hres2 : res = (decide (checkAll es = 0) && (decide (t = 0) == decide (i = 0)) && formB i t es) := by
      rw [← HRES.out, appB, decide_eq_true (show es.length ≤ 64 by omega), Bool.true_and]
    have HRES2 := Lib.hid hres2
    clear hres2 HRES
    go_enter Try.func82, Try.ntmps82
    go_upto_region 3 with (fail)
    simp only [World.size_alloc, HQ.out]
    obtain ⟨W1, hW1⟩ : ∃ W1, w.alloc (.cells #[.int .i64 3, .int .i64 1, .int .i64 2, .int .i64 4611686018427387904, .int .i64 i, .int .i64 t, .int .i64 0, .int .i64 0, .int .i64 0, .bool false, .slice A es.length c, .int .i64 0, .int .i64 0, .slice none 0 0] 94) = W1 := ⟨_, rfl⟩
    rw [hW1] at O1
    simp only [hW1]
    clear hW1
    go_wp2
    go_loopw [3] (fun ti wr => ∃ k : Nat, k ≤ es.length ∧ ti = .int .i64 k ∧ Hid (checkAll es = checkAll (es.drop k)) ∧ Own S w0 wr (SP.blk q 94 (msgA i t A es.length c) :: R)) (fun ti _ => es.length - (intOf ti).toNat)
    case atStart => exact ⟨0, Nat.zero_le _, rfl, rfl, O1.out⟩
    case round =>
      obtain ⟨k, hk, rfl, hC, hown⟩ := hrel
      clear O1
      have c10 := hown.blk_cell 10
      unfold msgA at c10
      simp only [List.getElem?_toArray, List.getElem?_cons_zero, List.getElem?_cons_succ] at c10
      by_cases hkn : k < es.length
      · have i2 : (k : Int) < (es.length : Int) := by omega
        obtain ⟨m, hm⟩ : ∃ m, es[k]? = some m := ⟨_, List.getElem?_eq_getElem hkn⟩
        obtain ⟨b, off, Ad, cd, rfl, -, k0, k1, k2, k3, -, -, -⟩ := H.out.1 wr [_] hown k m hm
        have HC := Lib.hid (rcheck_own hown m Ad cd (H.out.2 m (List.mem_of_getElem? hm)))
        obtain ⟨e, he⟩ : ∃ e, checkE m = e := ⟨_, rfl⟩
        obtain ⟨dl, hdl⟩ : ∃ dl, m.dat.length = dl := ⟨_, rfl⟩
        have hCd := hC.out
        rw [checkAll_drop hm, he] at hCd
        rw [he, hdl] at HC
        rw [hdl] at k3
        have HCD := Lib.hid hCd
        clear hown he hdl hm hC hCd
        go_wp2_with fail
        refine (HC.out).mono ?_
        rintro e1 w4 ⟨rfl, o4⟩
        have O4 := Lib.hid o4
        clear o4 HC k0 k1 k2 k3 c10
        by_cases he0 : e = 0
        · subst he0
          go_wp2
          go_roundw
          case rel => exact ⟨k + 1, by omega, by go_num, (by rw [HCD.out, if_neg (by simp)]; exact rfl), O4.out⟩
          case measure => simp [intOf]; omega
        · have hb : (e != 0) = true := by rw [bne_iff_ne]; exact he0
          have hb0 : (e == 0) = false := by rw [beq_eq_false_iff_ne]; exact he0
          have hrf : res = false := by
            rw [HRES2.out, HCD.out, if_pos he0, decide_eq_false he0]; rfl
          have HRF := Lib.hid hrf
          have HB0 := Lib.hid hb0
          clear hrf he0 hb0
          go_wp2
          go_ret
          exact ⟨_, rfl, by rw [HB0.out, HRF.out], O4.out.pop⟩
      · have i2 : ¬ (k : Int) < (es.length : Int) := by omega
        have hall : checkAll es = 0 := by
          rw [hC.out, List.drop_eq_nil_of_le (by omega)]; rfl
        have hres3 : res = ((decide (t = 0) == decide (i = 0)) && formB i t es) := by
          rw [HRES2.out, decide_eq_true hall, Bool.true_and]
        have HALL := Lib.hid (checkAll_mem hall)
        have HRES3 := Lib.hid hres3
        clear hres3 HRES2 hC hall
        have c3 := hown.blk_cell 3
        have c4 := hown.blk_cell 4
        have c5 := hown.blk_cell 5
        unfold msgA at c3 c4 c5
        simp only [List.getElem?_toArray, List.getElem?_cons_zero, List.getElem?_cons_succ] at c3 c4 c5
        have ht3 : ¬ 4611686018427387904 < t := by omega
        have HO := Lib.hid hown
        clear hown
        obtain ⟨t0, ht0⟩ : ∃ t0 : Bool, (t == 0) = t0 := ⟨_, rfl⟩
        obtain ⟨i0, hi0⟩ : ∃ i0 : Bool, (i == 0) = i0 := ⟨_, rfl⟩
        have hz : (decide (t = 0) == decide (i = 0)) = (t0 == i0) := by
          rw [← ht0, ← hi0]; rfl
        rw [hz] at HRES3
        clear hz
        cases hti : (t0 == i0) with
        | false =>
          have hrf : res = false := by rw [HRES3.out, hti, Bool.false_and]
          subst hrf
          have hne : (!(t0 == i0)) = true := by rw [hti]; rfl
          clear hti HRES3
          go_wp2
          go_ret
          exact ⟨4, rfl, by simp, HO.out.pop⟩
        | true =>
          have hrf : res = formB i t es := by rw [HRES3.out, hti, Bool.true_and]
          have HRF := Lib.hid hrf
          have hne : (!(t0 == i0)) = false := by rw [hti]; rfl
          clear hti HRES3 hrf
          go_wp2
          go_loopw [5, 6] (fun tu tk wr => ∃ (k : Nat) (u : Int), k ≤ es.length ∧ tu = .int .i64 u ∧ tk = .int .i64 k ∧ Hid (res = formB (i + (k : Int)) u (es.drop k)) ∧ Own S w0 wr (SP.blk q 94 (msgA i t A es.length c) :: R)) (fun _ tk _ => es.length - (intOf tk).toNat)
          case atStart => exact ⟨0, t, Nat.zero_le _, rfl, rfl, (by rw [HRF.out, List.drop_zero, show i + ((0 : Nat) : Int) = i by omega]; exact rfl), HO.out⟩
          case round =>
            obtain ⟨k, u, hk, rfl, rfl, hF, hown⟩ := hrel
            clear HO HRF c3 c4 c5 c10 hne
            have c3 := hown.blk_cell 3
            have c4 := hown.blk_cell 4
            have c10 := hown.blk_cell 10
            unfold msgA at c3 c4 c10
            simp only [List.getElem?_toArray, List.getElem?_cons_zero, List.getElem?_cons_succ] at c3 c4 c10
            by_cases hkn : k < es.length
            · have i3 : (k : Int) < (es.length : Int) := by omega
              obtain ⟨m, hm⟩ : ∃ m, es[k]? = some m := ⟨_, List.getElem?_eq_getElem hkn⟩
              obtain ⟨b, off, Ad, cd, rfl, -, k0, k1, k2, k3, -, -, -⟩ := H.out.1 wr [_] hown k m hm
              have hmx := (checkE_ok (HALL.out m (List.mem_of_getElem? hm)))
              rw [maxI_eq] at hmx
              have hfd := hF.out
              rw [formB_drop hm] at hfd
              obtain ⟨mt, mi, mk, md⟩ := m
              simp only at k0 k1 k2 k3 hmx hfd
              obtain ⟨dl, hdl⟩ : ∃ dl, md.length = dl := ⟨_, rfl⟩
              rw [hdl] at k3
              have O3 := Lib.hid (hown.alloc #[.int .i64 mt, .int .i64 mi, .int .i64 mk, .slice Ad dl cd] 26).pop
              have n1 : ¬ 4611686018427387904 < mt := by omega
              have bl := hown.blk_lt
              clear hown hm hdl hF
              by_cases hgood : mi = i + (k : Int) + 1 ∧ u ≤ mt
              · have e1 : (mi != i + 1 + (k : Int)) = false := by rw [bne_eq_false_iff_eq]; omega
                have e2 : ¬ mt < u := by omega
                rw [decide_eq_true hgood, Bool.true_and] at hfd
                have HFD := Lib.hid hfd
                clear hfd hgood hmx
                go_wp2
                go_roundw
                case rel => exact ⟨k + 1, mt, by omega, rfl, by go_num, (by rw [HFD.out, show i + (k : Int) + 1 = i + ((k + 1 : Nat) : Int) by omega]; exact rfl), O3.out⟩
                case measure => simp [intOf]; omega
              · have hrf : res = false := by rw [hfd, decide_eq_false hgood, Bool.false_and]
                subst hrf
                clear hfd hmx
                by_cases e0 : mi = i + 1 + (k : Int)
                · have e1 : (mi != i + 1 + (k : Int)) = false := by rw [bne_eq_false_iff_eq]; exact e0
                  have e2 : mt < u := by omega
                  clear hgood e0
                  go_wp2
                  go_ret
                  exact ⟨4, rfl, by simp, O3.out.pop⟩
                · have e1 : (mi != i + 1 + (k : Int)) = true := by rw [bne_iff_ne]; exact e0
                  clear hgood e0
                  go_wp2
                  go_ret
                  exact ⟨4, rfl, by simp, O3.out.pop⟩
            · have i3 : ¬ (k : Int) < (es.length : Int) := by omega
              have hrf : res = true := by
                rw [hF.out, List.drop_eq_nil_of_le (by omega)]; rfl
              subst hrf
              have HO := Lib.hid hown
              clear hown hF
              go_wp2
              go_ret
              exact ⟨0, rfl, rfl, HO.out.pop⟩
end
end Go.Proofs.Ytepnkhiclgjmpaa

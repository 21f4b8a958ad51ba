/-
  QueuePlays: two queues play as lists.
  Conditions: none but that the operations lie in memory.
-/
import Derived.Test.YtbncicfbgfmekaaQDoE
import Derived.Test.YtbncicfbgfmekaaFirst
namespace Go.Proofs.Ytbncicfbgfmekaa
set_option linter.unusedVariables false
set_option linter.unusedSimpArgs false
open Go.RowKit

theorem qnew_own {S : Nat → Prop} {w0 w : World} {R : List SP} {room : Int} (hr : 1 ≤ room ∧ room ≤ 64) (h : Own S w0 w R) :
    Calls Try.prog 16 #[.int .i64 room] w fun e w' => ∃ g, e = .returned (.pointer (some ⟨g, 0, none⟩)) ∧ Own S w0 w' (SP.quei g room [] :: R) := by
  refine (SpecAt.use (qnewi_yes w room hr) h.emp).mono ?_
  rintro e w' ⟨A', ⟨g, he, rfl⟩, o, -⟩
  exact ⟨g, he, o⟩

set_option maxRecDepth 100000 in
set_option maxHeartbeats 16000000 in
theorem qplays_calls (w : World) (room other : Int) (A : Option Addr) (c : Nat) (l : List Op3) (hops : Ops w A l) (hlen : l.length ≤ 140737488351232) :
    Calls Try.prog 10 #[.int .i64 room, .int .i64 other, .slice A l.length c] w fun e w' => e = .returned (.bool true) ∧ Below w.heap.size w w' := by
  have hf := Lib.hid (first_calls w)
  have Hop := Lib.hid hops
  clear hops
  obtain ⟨ll, hll⟩ : ∃ ll, l.length = ll := ⟨_, rfl⟩
  have HLn := Lib.hid hll
  rw [hll] at hlen ⊢
  clear hll
  by_cases h1 : 1 ≤ room ∧ room ≤ 64
  · by_cases h2 : 1 ≤ other ∧ other ≤ 64
    · have HR1 := Lib.hid h1
      have HR2 := Lib.hid h2
      obtain ⟨h1a, h1b⟩ := h1
      obtain ⟨h2a, h2b⟩ := h2
      go_enter Try.func10, Try.ntmps10
      go_wp2_with fail
      refine (hf.out).mono ?_
      rintro e w1 ⟨rfl, hb1⟩
      have HN := Lib.hid (qnew_own HR1.out ((Own.start w).move hb1))
      clear hb1 hf
      go_wp2_with fail
      refine (HN.out).mono ?_
      rintro e w2 ⟨g1, rfl, o2⟩
      have HN2 := Lib.hid (qnew_own HR2.out o2)
      clear o2 HN
      go_wp2_with fail
      refine (HN2.out).mono ?_
      rintro e w3 ⟨g2, rfl, o3⟩
      have O3 := Lib.hid o3
      clear o3 HN2
      by_cases hbig : 400 < ll
      · have hb' : (400 : Int) < (ll : Int) := by omega
        go_wp2
        go_ret
        exact ⟨rfl, O3.out.below⟩
      · have hb' : ¬ (400 : Int) < (ll : Int) := by omega
        go_wp2
        go_loopw [12, 13, 14] (fun ta tb ti wr => ∃ (i : Nat) (xs ys : List Int) (A1 : Option Addr) (ca : Nat) (B1 : Option Addr) (cb : Nat), i ≤ ll ∧ ta = .slice A1 xs.length ca ∧ tb = .slice B1 ys.length cb ∧ ti = .int .i64 i ∧ Hid ((xs.length : Int) ≤ room ∧ (ys.length : Int) ≤ other) ∧ Own (fun _ => False) w wr [SP.quei g1 room xs, SP.quei g2 other ys, SP.row 3 1 (.slice A1 xs.length ca) (valsi xs), SP.row 3 1 (.slice B1 ys.length cb) (valsi ys)]) (fun _ _ ti _ => ll - (intOf ti).toNat)
        case atStart => exact ⟨0, [], [], none, 0, none, 0, Nat.zero_le _, rfl, rfl, rfl, ⟨by simp; omega, by simp; omega⟩, (((O3.out.add (SP.row_nil _ _ _ _)).add (SP.row_nil _ _ _ _)).pick (L := [_, _, _, _]) [3, 2, 0, 1])⟩
        case round =>
          obtain ⟨i, xs, ys, A1, ca, B1, cb, hi, rfl, rfl, rfl, hX, hown⟩ := hrel
          clear O3
          by_cases hin : i < ll
          · have i1 : (i : Int) < (ll : Int) := by omega
            obtain ⟨o, hoi⟩ : ∃ o, l[i]? = some o := ⟨_, List.getElem?_eq_getElem (by rw [HLn.out]; exact hin)⟩
            obtain ⟨b, off, rfl, hbl, k0, k1, k2, w0', w1', w2'⟩ := Hop.out i o hoi
            have hbw : Below w.heap.size w wr := hown.below
            have c0 := (hbw.cell hbl).trans k0
            have c1 := (hbw.cell hbl).trans k1
            have c2 := (hbw.cell hbl).trans k2
            obtain ⟨kd, nn, ln⟩ := o
            simp only at c0 c1 c2 w0' w1' w2'
            obtain ⟨r, hr⟩ : ∃ r, Int.tmod ln 2 = r := ⟨_, rfl⟩
            have hrb : -1 ≤ r ∧ r ≤ 1 := by
              have h1 := Int.tmod_lt_of_pos ln (show (0 : Int) < 2 by decide)
              have h2 := Int.lt_tmod_of_pos ln (show (0 : Int) < 2 by decide)
              omega
            have e1 : IntKind.i64.wrap r = r := IntWalk.i64_in _ (by omega)
            have HX := Lib.hid hX.out
            have HCk := Lib.hid (And.intro w0' w1')
            by_cases hz : r = 0
            · have hzb : (r == 0) = true := by simp [hz]
              have HDo := Lib.hid (qdo_own (R := []) HR1.out HR2.out HX.out.1 HX.out.2 kd nn ln HCk.out hown)
              clear hown hbw k0 k1 k2 hoi w0' w1' w2' hbl hz hX hrb
              go_wp2_with fail
              refine (HDo.out).mono ?_
              rintro e w5 ⟨xs2, ys2, A2, ca2, B2, cb2, rfl, hx2, hy2, o5⟩
              have HI1 := Lib.hid (is_own (R := _) (by omega) h1b hx2 (o5.pick (L := [_, _, _]) [0, 2, 1]))
              have HX2 := Lib.hid (And.intro hx2 hy2)
              clear HDo o5 c0 c1 c2 hr e1 HX
              go_wp2_with fail
              refine (HI1.out).mono ?_
              rintro e w6 ⟨rfl, o6⟩
              have HI2 := Lib.hid (is_own (R := _) (by omega) h2b HX2.out.2 (o6.pick (L := [_, _, _, _]) [2, 3, 0, 1]))
              clear HI1 o6
              go_wp2_with fail
              refine (HI2.out).mono ?_
              rintro e w7 ⟨rfl, o7⟩
              have O7 := Lib.hid (o7.pick (L := [_, _, _, _]) [2, 0, 3, 1])
              clear HI2 o7 hx2 hy2
              go_wp2
              go_roundw
              case rel => exact ⟨i + 1, xs2, ys2, A2, ca2, B2, cb2, by omega, rfl, rfl, by go_num, HX2.out, O7.out⟩
              case measure => simp [intOf]; omega
            · have hzb : (r == 0) = false := by simp [hz]
              have HDo := Lib.hid (qdo_own (R := []) HR2.out HR1.out HX.out.2 HX.out.1 kd nn ln HCk.out (hown.pick (L := [_, _, _, _]) [1, 0, 3, 2]))
              clear hown hbw k0 k1 k2 hoi w0' w1' w2' hbl hz hX hrb
              go_wp2_with fail
              refine (HDo.out).mono ?_
              rintro e w5 ⟨ys2, xs2, B2, cb2, A2, ca2, rfl, hy2, hx2, o5⟩
              have HI1 := Lib.hid (is_own (R := _) (by omega) h1b hx2 (o5.pick (L := [_, _, _, _]) [1, 3, 0, 2]))
              have HX2 := Lib.hid (And.intro hx2 hy2)
              clear HDo o5 c0 c1 c2 hr e1 HX
              go_wp2_with fail
              refine (HI1.out).mono ?_
              rintro e w6 ⟨rfl, o6⟩
              have HI2 := Lib.hid (is_own (R := _) (by omega) h2b HX2.out.2 (o6.pick (L := [_, _, _, _]) [2, 3, 0, 1]))
              clear HI1 o6
              go_wp2_with fail
              refine (HI2.out).mono ?_
              rintro e w7 ⟨rfl, o7⟩
              have O7 := Lib.hid (o7.pick (L := [_, _, _, _]) [2, 0, 3, 1])
              clear HI2 o7 hx2 hy2
              go_wp2
              go_roundw
              case rel => exact ⟨i + 1, xs2, ys2, A2, ca2, B2, cb2, by omega, rfl, rfl, by go_num, HX2.out, O7.out⟩
              case measure => simp [intOf]; omega
          · have i1 : ¬ (i : Int) < (ll : Int) := by omega
            have O7 := Lib.hid hown
            clear hown
            go_wp2
            go_ret
            exact ⟨rfl, O7.out.below⟩
    · obtain ⟨h1a, h1b⟩ := h1
      have HR2 := Lib.hid h2
      have h2' : other < 1 ∨ 64 < other := by omega
      clear h2
      rcases h2' with h2 | h2
      · have h3 : ¬ 1 ≤ other := by omega
        go_enter Try.func10, Try.ntmps10
        go_wp2_with fail
        refine (hf.out).mono ?_
        rintro e w1 ⟨rfl, hb1⟩
        have HN := Lib.hid (qnew_own ⟨h1a, h1b⟩ ((Own.start w).move hb1))
        clear hb1 hf
        go_wp2_with fail
        refine (HN.out).mono ?_
        rintro e w2 ⟨g1, rfl, o2⟩
        have O2 := Lib.hid o2
        clear o2 HN
        go_wp2_with fail
        refine (qnewi_no w2 other HR2.out).mono ?_
        rintro e w3 ⟨rfl, rfl⟩
        go_wp2
        go_ret
        exact ⟨rfl, O2.out.below⟩
      · have h3 : ¬ other ≤ 64 := by omega
        have h4 : 1 ≤ other := by omega
        go_enter Try.func10, Try.ntmps10
        go_wp2_with fail
        refine (hf.out).mono ?_
        rintro e w1 ⟨rfl, hb1⟩
        have HN := Lib.hid (qnew_own ⟨h1a, h1b⟩ ((Own.start w).move hb1))
        clear hb1 hf
        go_wp2_with fail
        refine (HN.out).mono ?_
        rintro e w2 ⟨g1, rfl, o2⟩
        have O2 := Lib.hid o2
        clear o2 HN
        go_wp2_with fail
        refine (qnewi_no w2 other HR2.out).mono ?_
        rintro e w3 ⟨rfl, rfl⟩
        go_wp2
        go_ret
        exact ⟨rfl, O2.out.below⟩
  · have HR1 := Lib.hid h1
    have h1' : room < 1 ∨ 64 < room := by omega
    clear h1
    by_cases h2 : 1 ≤ other ∧ other ≤ 64
    · have HR2 := Lib.hid h2
      obtain ⟨h2a, h2b⟩ := h2
      rcases h1' with h1 | h1
      · have r1 : ¬ 1 ≤ room := by omega
        skip
        go_enter Try.func10, Try.ntmps10
        go_wp2_with fail
        refine (hf.out).mono ?_
        rintro e w1 ⟨rfl, hb1⟩
        have HB := Lib.hid hb1
        clear hb1 hf
        go_wp2_with fail
        refine (qnewi_no w1 room HR1.out).mono ?_
        rintro e w2 ⟨rfl, rfl⟩
        go_wp2_with fail
        refine (qnew_own HR2.out ((Own.start w).move HB.out)).mono ?_
        rintro e w3 ⟨g2, rfl, o3⟩
        have O3 := Lib.hid o3
        clear o3
        go_wp2
        go_ret
        exact ⟨rfl, O3.out.below⟩
      · have r1 : ¬ room ≤ 64 := by omega
        have r2 : 1 ≤ room := by omega
        skip
        go_enter Try.func10, Try.ntmps10
        go_wp2_with fail
        refine (hf.out).mono ?_
        rintro e w1 ⟨rfl, hb1⟩
        have HB := Lib.hid hb1
        clear hb1 hf
        go_wp2_with fail
        refine (qnewi_no w1 room HR1.out).mono ?_
        rintro e w2 ⟨rfl, rfl⟩
        go_wp2_with fail
        refine (qnew_own HR2.out ((Own.start w).move HB.out)).mono ?_
        rintro e w3 ⟨g2, rfl, o3⟩
        have O3 := Lib.hid o3
        clear o3
        go_wp2
        go_ret
        exact ⟨rfl, O3.out.below⟩
    · have HR2 := Lib.hid h2
      have h2' : other < 1 ∨ 64 < other := by omega
      clear h2
      rcases h1' with h1 | h1
      · rcases h2' with h2 | h2
        · have r1 : ¬ 1 ≤ room := by omega
          have s1 : ¬ 1 ≤ other := by omega
          go_enter Try.func10, Try.ntmps10
          go_wp2_with fail
          refine (hf.out).mono ?_
          rintro e w1 ⟨rfl, hb1⟩
          have HB := Lib.hid hb1
          clear hb1 hf
          go_wp2_with fail
          refine (qnewi_no w1 room HR1.out).mono ?_
          rintro e w2 ⟨rfl, rfl⟩
          go_wp2_with fail
          refine (qnewi_no w1 other HR2.out).mono ?_
          rintro e w3 ⟨rfl, rfl⟩
          go_wp2
          go_ret
          exact ⟨rfl, HB.out⟩
        · have r1 : ¬ 1 ≤ room := by omega
          have s1 : ¬ other ≤ 64 := by omega
          have s2 : 1 ≤ other := by omega
          go_enter Try.func10, Try.ntmps10
          go_wp2_with fail
          refine (hf.out).mono ?_
          rintro e w1 ⟨rfl, hb1⟩
          have HB := Lib.hid hb1
          clear hb1 hf
          go_wp2_with fail
          refine (qnewi_no w1 room HR1.out).mono ?_
          rintro e w2 ⟨rfl, rfl⟩
          go_wp2_with fail
          refine (qnewi_no w1 other HR2.out).mono ?_
          rintro e w3 ⟨rfl, rfl⟩
          go_wp2
          go_ret
          exact ⟨rfl, HB.out⟩
      · rcases h2' with h2 | h2
        · have r1 : ¬ room ≤ 64 := by omega
          have r2 : 1 ≤ room := by omega
          have s1 : ¬ 1 ≤ other := by omega
          go_enter Try.func10, Try.ntmps10
          go_wp2_with fail
          refine (hf.out).mono ?_
          rintro e w1 ⟨rfl, hb1⟩
          have HB := Lib.hid hb1
          clear hb1 hf
          go_wp2_with fail
          refine (qnewi_no w1 room HR1.out).mono ?_
          rintro e w2 ⟨rfl, rfl⟩
          go_wp2_with fail
          refine (qnewi_no w1 other HR2.out).mono ?_
          rintro e w3 ⟨rfl, rfl⟩
          go_wp2
          go_ret
          exact ⟨rfl, HB.out⟩
        · have r1 : ¬ room ≤ 64 := by omega
          have r2 : 1 ≤ room := by omega
          have s1 : ¬ other ≤ 64 := by omega
          have s2 : 1 ≤ other := by omega
          go_enter Try.func10, Try.ntmps10
          go_wp2_with fail
          refine (hf.out).mono ?_
          rintro e w1 ⟨rfl, hb1⟩
          have HB := Lib.hid hb1
          clear hb1 hf
          go_wp2_with fail
          refine (qnewi_no w1 room HR1.out).mono ?_
          rintro e w2 ⟨rfl, rfl⟩
          go_wp2_with fail
          refine (qnewi_no w1 other HR2.out).mono ?_
          rintro e w3 ⟨rfl, rfl⟩
          go_wp2
          go_ret
          exact ⟨rfl, HB.out⟩
end Go.Proofs.Ytbncicfbgfmekaa

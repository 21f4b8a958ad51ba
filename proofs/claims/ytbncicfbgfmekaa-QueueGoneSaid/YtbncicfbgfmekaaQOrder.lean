/-
  QueueOrder as a call: it returns true, and what was there stays.
  Conditions: the operations lie in memory as they were handed in; they are at most 140737488351232.
-/
import Derived.Test.YtbncicfbgfmekaaOps
import Derived.Test.YtbncicfbgfmekaaOwnOps
import Derived.Test.YtbncicfbgfmekaaFirst
import Derived.Test.YtbncicfbgfmekaaMove
import Derived.Test.YtbncicfbgfmekaaRises
import Derived.Deep.DeepCutAuto
import Derived.Deep.CutBlock
namespace Go.Proofs.Ytbncicfbgfmekaa
set_option linter.unusedVariables false
set_option linter.unusedSimpArgs false
open Go.RowKit

/-- The numbers from t on, n of them. -/
def upTo (t n : Nat) : List Int := (List.range' t n).map Int.ofNat
theorem upTo_length (t n : Nat) : (upTo t n).length = n := by simp [upTo]
theorem upTo_snoc (t n : Nat) : upTo t n ++ [((t + n : Nat) : Int)] = upTo t (n + 1) := by
  simp [upTo, List.range'_concat]
theorem upTo_cons {t n : Nat} {y : Int} {l : List Int} (h : y :: l = upTo t n) : y = (t : Int) ∧ 0 < n ∧ l = upTo (t + 1) (n - 1) := by
  cases n with
  | zero => simp [upTo] at h
  | succ n =>
    simp only [upTo, List.range'_succ, List.map_cons, List.cons.injEq] at h
    exact ⟨h.1, by omega, h.2⟩
theorem moveN_le (n : Nat) (free most : Int) : moveN n free most ≤ n ∧ ((moveN n free most : Nat) : Int) ≤ max free 0 ∧ ((moveN n free most : Nat) : Int) ≤ max most 0 := by
  simp only [moveN]; omega

set_option maxRecDepth 100000 in
set_option maxHeartbeats 8000000 in
theorem qorder_calls (w : World) (room other : Int) (A : Option Addr) (c : Nat) (ops : List Op3) (hops : Ops w A ops) (hlen : ops.length ≤ 140737488351232) :
    Calls Try.prog 4 #[.int .i64 room, .int .i64 other, .slice A ops.length c] w fun e w' => e = .returned (.bool true) ∧ Below w.heap.size w w' := by
  obtain ⟨r1, r2, r3, r4⟩ := room_mod room
  obtain ⟨s1, s2, s3, s4⟩ := room_mod other
  have hf := Lib.hid (first_calls w)
  by_cases hbig : ops.length ≤ 400
  · go_enter Try.func4, Try.ntmps4
    go_wp2_with fail
    refine (hf.out).mono ?_
    rintro e w1 ⟨rfl, hb1⟩
    have o0 := Own.start w1
    go_wp2_with fail
    obtain ⟨R, hR1, hR2, hR3⟩ : ∃ R, room.tmod 64 % 64 + 1 = R ∧ 1 ≤ R ∧ R ≤ 64 := ⟨_, rfl, by omega, by omega⟩
    obtain ⟨Q, hQ1, hQ2, hQ3⟩ : ∃ R, other.tmod 64 % 64 + 1 = R ∧ 1 ≤ R ∧ R ≤ 64 := ⟨_, rfl, by omega, by omega⟩
    simp only [hR1, hQ1]
    clear hR1 r1 r2 r3 r4 hQ1 s1 s2 s3 s4
    refine (SpecAt.use (qnewi_yes w1 R ⟨hR2, hR3⟩) o0.emp).mono ?_
    rintro e w2 ⟨A', ⟨g1, rfl, rfl⟩, o1, -⟩
    go_wp2_with fail
    refine (SpecAt.use (qnewi_yes w2 Q ⟨hQ2, hQ3⟩) o1.emp).mono ?_
    rintro e w3 ⟨A', ⟨g2, rfl, rfl⟩, o2, -⟩
    have Hb := Lib.hid (And.intro hb1 hops)
    have O2 := Lib.hid o2.swap
    clear hb1 hops o0 o1 o2
    go_wp2
    go_loopw [10, 11, 12] (fun ta tb tc wr => ∃ (i t n : Nat) (xs ys : List Int), i ≤ ops.length ∧ ta = .int .i64 ((t + n : Nat) : Int) ∧ tb = .int .i64 (t : Int) ∧ tc = .int .i64 i ∧ t + n ≤ i + 1 ∧ Own (fun _ => False) w1 wr [SP.quei g1 R xs, SP.quei g2 Q ys] ∧ Hid ((xs.length : Int) ≤ R ∧ (ys.length : Int) ≤ Q ∧ ys ++ xs = upTo t n)) (fun _ _ tc _ => ops.length - (intOf tc).toNat)
    case atStart => exact ⟨0, 1, 0, [], [], Nat.zero_le _, rfl, rfl, rfl, by omega, O2.out, by simp; omega, by simp; omega, rfl⟩
    case round =>
      obtain ⟨i, t, n, xs, ys, hi, rfl, rfl, rfl, hti, hown, hxs⟩ := hrel
      clear O2
      by_cases hin : i < ops.length
      · obtain ⟨o, hoi⟩ : ∃ o, ops[i]? = some o := ⟨_, List.getElem?_eq_getElem hin⟩
        obtain ⟨b, off, rfl, hbl, k0, k1, k2, -⟩ := Hb.out.2 i o hoi
        have HC : ∀ W L, Own (fun _ => False) w1 W L → W.cell? ⟨b, off + i * 3, none⟩ = some (.int .i64 o.kind) ∧ W.cell? ⟨b, off + i * 3 + 1, none⟩ = some (.int .i64 o.n) := fun W L h => by
          have hbw : Below w.heap.size w W := Hb.out.1.trans (h.below.mono Hb.out.1.size)
          exact ⟨(hbw.cell hbl).trans k0, (hbw.cell hbl).trans k1⟩
        have HC' := Lib.hid HC
        have hxl : xs.length ≤ 64 := by have := hxs.out.1; omega
        have hyl : ys.length ≤ 64 := by have := hxs.out.2.1; omega
        have hxR : (xs.length : Int) ≤ R := hxs.out.1
        have hyQ : (ys.length : Int) ≤ Q := hxs.out.2.1
        obtain ⟨c0, c1⟩ := HC _ _ hown
        have HO := Lib.hid hown
        clear HC k0 k1 k2 hoi hown
        go_upto_block 2 with (fail)
        go_cut [10, 11] (fun ta tb wx => ∃ (t n : Nat) (xs ys : List Int), ta = .int .i64 ((t + n : Nat) : Int) ∧ tb = .int .i64 (t : Int) ∧ t + n ≤ i + 2 ∧ Own (fun _ => False) w1 wx [SP.quei g1 R xs, SP.quei g2 Q ys] ∧ Hid ((xs.length : Int) ≤ R ∧ (ys.length : Int) ≤ Q ∧ ys ++ xs = upTo t n))
        case first =>
          by_cases hk0 : o.kind = 0
          · have hk' : (o.kind == 0) = true := by simp [hk0]
            clear hk0
            have sp1 := fun W => qroomi_spec W g1 R xs (by omega) hR3 hxR
            by_cases q1 : (xs.length : Int) < R
            · have sp2 : ∀ W, SpecAt Try.prog 18 #[.pointer (some ⟨g1, 0, none⟩), .int .i64 ((t + n : Nat) : Int)] W (SP.quei g1 R xs) fun e A' => e = .returned (.bool true) ∧ A' = SP.quei g1 R (xs ++ [((t + n : Nat) : Int)]) := fun W => by
                have := qputi_spec W g1 R xs ((t + n : Nat) : Int) (by omega) hR3 hxR
                rwa [show decide ((xs.length : Int) < R) = true by simpa using q1, if_pos q1] at this
              have Sp := Lib.hid (And.intro sp1 sp2)
              clear sp1 sp2
              go_wp2_with fail
              refine (SpecAt.use (Sp.out.1 _) HO.out).mono ?_
              rintro e wB ⟨A', ⟨rfl, rfl⟩, ownB, -⟩
              go_wp2_with fail
              refine (SpecAt.use (Sp.out.2 _) ownB).mono ?_
              rintro e wC ⟨A', ⟨rfl, rfl⟩, ownC, -⟩
              have HB := Lib.hid ownC
              have hd : decide ((0 : Int) < R - (xs.length : Int)) = true := by simp; omega
              clear ownB ownC
              go_wp2
              go_meet
              exact ⟨t, n + 1, xs ++ [((t + n : Nat) : Int)], ys, by go_num, rfl, by omega, HB.out, by have := hxs.out.1; simp; omega, hxs.out.2.1, by rw [← List.append_assoc, hxs.out.2.2, upTo_snoc]⟩
            · have sp2 : ∀ W, SpecAt Try.prog 18 #[.pointer (some ⟨g1, 0, none⟩), .int .i64 ((t + n : Nat) : Int)] W (SP.quei g1 R xs) fun e A' => e = .returned (.bool false) ∧ A' = SP.quei g1 R xs := fun W => by
                have := qputi_spec W g1 R xs ((t + n : Nat) : Int) (by omega) hR3 hxR
                rwa [show decide ((xs.length : Int) < R) = false by simpa using q1, if_neg q1] at this
              have Sp := Lib.hid (And.intro sp1 sp2)
              clear sp1 sp2
              go_wp2_with fail
              refine (SpecAt.use (Sp.out.1 _) HO.out).mono ?_
              rintro e wB ⟨A', ⟨rfl, rfl⟩, ownB, -⟩
              go_wp2_with fail
              refine (SpecAt.use (Sp.out.2 _) ownB).mono ?_
              rintro e wC ⟨A', ⟨rfl, rfl⟩, ownC, -⟩
              have HB := Lib.hid ownC
              have hd : decide ((0 : Int) < R - (xs.length : Int)) = false := by simp; omega
              clear ownB ownC
              go_wp2
              go_meet
              exact ⟨t, n, xs, ys, rfl, rfl, by omega, HB.out, hxs.out⟩
          · have hk' : (o.kind == 0) = false := by simp [hk0]
            clear hk0
            by_cases hk1 : o.kind = 1
            · have hk1' : (o.kind == 1) = true := by simp [hk1]
              clear hk1
              cases ys with
              | nil =>
                have sp : ∀ W, SpecAt Try.prog 19 #[.pointer (some ⟨g2, 0, none⟩)] W (SP.quei g2 Q []) fun e A' => e = .returned (.tuple #[.int .i64 0, .bool false]) ∧ A' = SP.quei g2 Q [] := fun W => qtakei_spec W g2 Q [] (by simp)
                have Sp := Lib.hid sp
                clear sp
                go_wp2_with fail
                refine (SpecAt.use (Sp.out _) HO.out.swap).mono ?_
                rintro e wB ⟨A', ⟨rfl, rfl⟩, ownB, -⟩
                have HB := Lib.hid ownB.swap
                clear ownB
                go_wp2
                go_meet
                exact ⟨t, n, xs, [], rfl, rfl, by omega, HB.out, hxs.out⟩
              | cons y ys =>
                have sp : ∀ W, SpecAt Try.prog 19 #[.pointer (some ⟨g2, 0, none⟩)] W (SP.quei g2 Q (y :: ys)) fun e A' => e = .returned (.tuple #[.int .i64 y, .bool true]) ∧ A' = SP.quei g2 Q ys := fun W => qtakei_spec W g2 Q (y :: ys) hyl
                have hy := upTo_cons (hxs.out.2.2)
                obtain ⟨rfl, hn0, hrest⟩ := hy
                have Sp := Lib.hid sp
                have hxs' : Hid ((xs.length : Int) ≤ R ∧ (ys.length : Int) ≤ Q ∧ ys ++ xs = upTo (t + 1) (n - 1)) := ⟨hxR, by simp at hyQ; omega, hrest⟩
                clear sp hxs hrest
                go_wp2_with fail
                refine (SpecAt.use (Sp.out _) HO.out.swap).mono ?_
                rintro e wB ⟨A', ⟨rfl, rfl⟩, ownB, -⟩
                have HB := Lib.hid ownB.swap
                clear ownB
                go_wp2
                go_meet
                exact ⟨t + 1, n - 1, xs, ys, by rw [show t + 1 + (n - 1) = t + n by omega]; go_num, by go_num, by omega, HB.out, hxs'.out⟩
            · have hk1' : (o.kind == 1) = false := by simp [hk1]
              clear hk1
              have sp1 := fun W => qleni_spec W g1 R xs
              have sp2 := fun W => qleni_spec W g2 Q ys
              have sp3 := fun W => move_spec W g1 g2 R Q o.n xs ys (by omega) hR3 (by omega) hQ3 hxR hyQ
              obtain ⟨m1, m2, m3⟩ := moveN_le xs.length (Q - ys.length) o.n
              obtain ⟨m, hm⟩ : ∃ m, moveN xs.length (Q - ys.length) o.n = m := ⟨_, rfl⟩
              rw [hm] at m1 m2 m3
              simp only [hm] at sp3
              have hl1 : (xs.drop m).length = xs.length - m := List.length_drop
              have hl2 : (ys ++ xs.take m).length = ys.length + m := by simp; omega
              have sp4 := fun W => qleni_spec W g1 R (xs.drop m)
              have sp5 := fun W => qleni_spec W g2 Q (ys ++ xs.take m)
              obtain ⟨l1, hl1'⟩ : ∃ l1, (xs.drop m).length = l1 := ⟨_, rfl⟩
              obtain ⟨l2, hl2'⟩ : ∃ l2, (ys ++ xs.take m).length = l2 := ⟨_, rfl⟩
              rw [hl1'] at sp4
              rw [hl2'] at sp5
              have Sp := Lib.hid (And.intro sp1 (And.intro sp2 (And.intro sp3 (And.intro sp4 sp5))))
              have hxs' : Hid (((xs.drop m).length : Int) ≤ R ∧ ((ys ++ xs.take m).length : Int) ≤ Q ∧ (ys ++ xs.take m) ++ xs.drop m = upTo t n) := ⟨by rw [hl1]; omega, by rw [hl2]; omega, by rw [List.append_assoc, List.take_append_drop]; exact hxs.out.2.2⟩
              have hM := Lib.hid (And.intro m1 (And.intro m2 m3))
              have dw : ((l1 : Int) + (l2 : Int) != (xs.length : Int) + (ys.length : Int)) = false := by rw [← hl1', ← hl2', hl1, hl2]; simp; omega
              have hb1 : l1 ≤ 64 := by rw [← hl1', hl1]; omega
              have hb2 : l2 ≤ 64 := by rw [← hl2', hl2]; omega
              clear sp1 sp2 sp3 sp4 sp5 hm hl1 hl2 hxs hl1' hl2'
              go_wp2_with fail
              refine (SpecAt.use (Sp.out.1 _) HO.out).mono ?_
              rintro e wB ⟨A', ⟨rfl, rfl⟩, ownB, -⟩
              go_wp2_with fail
              refine (SpecAt.use (Sp.out.2.1 _) ownB.swap).mono ?_
              rintro e wC ⟨A', ⟨rfl, rfl⟩, ownC, -⟩
              have ownC2 := ownC.swap
              obtain ⟨c0', c1'⟩ := HC'.out _ _ ownC2
              have HC3 := Lib.hid ownC2
              clear ownB ownC ownC2 c0 c1
              go_wp2_with fail
              refine (SpecAt.use (Sp.out.2.2.1 _) (Own.unflat (L := [SP.quei g1 R xs, SP.quei g2 Q ys]) HC3.out)).mono ?_
              rintro e wD ⟨A', ⟨rfl, rfl⟩, ownD, -⟩
              have ownD2 := ownD.flat
              obtain ⟨c0'', c1''⟩ := HC'.out _ _ ownD2
              have HD := Lib.hid ownD2
              clear ownD ownD2 c0' c1'
              by_cases hpos : 0 ≤ o.n
              · have hmo : (m : Int) ≤ o.n := by have := hM.out.2.2; omega
                go_wp2_with fail
                refine (SpecAt.use (Sp.out.2.2.2.1 _) HD.out).mono ?_
                rintro e wE ⟨A', ⟨rfl, rfl⟩, ownE, -⟩
                have HE := Lib.hid ownE.swap
                clear ownE
                go_wp2_with fail
                refine (SpecAt.use (Sp.out.2.2.2.2 _) HE.out).mono ?_
                rintro e wF ⟨A', ⟨rfl, rfl⟩, ownF, -⟩
                have HF := Lib.hid ownF.swap
                clear ownF
                go_wp2
                go_meet
                exact ⟨t, n, xs.drop m, ys ++ xs.take m, by go_num, rfl, by omega, HF.out, hxs'.out⟩
              · have hm0 : m = 0 := by have := hM.out.2.2; omega
                have hmo : ¬ 0 < m := by omega
                clear hm0
                go_wp2_with fail
                refine (SpecAt.use (Sp.out.2.2.2.1 _) HD.out).mono ?_
                rintro e wE ⟨A', ⟨rfl, rfl⟩, ownE, -⟩
                have HE := Lib.hid ownE.swap
                clear ownE
                go_wp2_with fail
                refine (SpecAt.use (Sp.out.2.2.2.2 _) HE.out).mono ?_
                rintro e wF ⟨A', ⟨rfl, rfl⟩, ownF, -⟩
                have HF := Lib.hid ownF.swap
                clear ownF
                go_wp2
                go_meet
                exact ⟨t, n, xs.drop m, ys ++ xs.take m, by go_num, rfl, by omega, HF.out, hxs'.out⟩
        case rest =>
          obtain ⟨t', n', xs', ys', rfl, rfl, ht', ownB, hxs'⟩ := hcut
          have hq1 : (xs'.length : Int) ≤ R := hxs'.out.1
          have hq2 : (ys'.length : Int) ≤ Q := hxs'.out.2.1
          have hq3 : ys'.length + xs'.length = n' := by have := congrArg List.length hxs'.out.2.2; rw [upTo_length, List.length_append] at this; exact this
          have sp1 := fun W => qleni_spec W g1 R xs'
          have sp2 := fun W => qleni_spec W g2 Q ys'
          have sp3 := fun W => qroomi_spec W g1 R xs' (by omega) hR3 hq1
          have sp4 := fun W => qroomi_spec W g2 Q ys' (by omega) hQ3 hq2
          have Sp := Lib.hid (And.intro sp1 (And.intro sp2 (And.intro sp3 sp4)))
          have HB := Lib.hid ownB
          have d1 : decide (R < (xs'.length : Int)) = false := by simp; omega
          have d2 : decide (Q < (ys'.length : Int)) = false := by simp; omega
          have d3 : ((xs'.length : Int) + (R - (xs'.length : Int)) != R) = false := by simp; omega
          have d4 : ((ys'.length : Int) + (Q - (ys'.length : Int)) != Q) = false := by simp; omega
          have d5 : ((xs'.length : Int) + (ys'.length : Int) != ((t' + n' : Nat) : Int) - (t' : Int)) = false := by simp; omega
          clear sp1 sp2 sp3 sp4 ownB c0 c1 HO hxs hxR hyQ hxl hyl
          go_wp2_with fail
          refine (SpecAt.use (Sp.out.1 _) HB.out).mono ?_
          rintro e wC ⟨A', ⟨rfl, rfl⟩, ownC, -⟩
          have HC1 := Lib.hid ownC.swap
          clear ownC
          go_wp2_with fail
          refine (SpecAt.use (Sp.out.2.1 _) HC1.out).mono ?_
          rintro e wD ⟨A', ⟨rfl, rfl⟩, ownD, -⟩
          have HD := Lib.hid ownD.swap
          clear ownD
          go_wp2_with fail
          refine (SpecAt.use (Sp.out.1 _) HD.out).mono ?_
          rintro e wE ⟨A', ⟨rfl, rfl⟩, ownE, -⟩
          have HE := Lib.hid ownE
          clear ownE
          go_wp2_with fail
          refine (SpecAt.use (Sp.out.2.2.1 _) HE.out).mono ?_
          rintro e wF ⟨A', ⟨rfl, rfl⟩, ownF, -⟩
          have HF := Lib.hid ownF.swap
          clear ownF
          go_wp2_with fail
          refine (SpecAt.use (Sp.out.2.1 _) HF.out).mono ?_
          rintro e wG ⟨A', ⟨rfl, rfl⟩, ownG, -⟩
          have HG := Lib.hid ownG
          clear ownG
          go_wp2_with fail
          refine (SpecAt.use (Sp.out.2.2.2 _) HG.out).mono ?_
          rintro e wH ⟨A', ⟨rfl, rfl⟩, ownH, -⟩
          have HH := Lib.hid ownH.swap
          clear ownH
          go_wp2_with fail
          refine (SpecAt.use (Sp.out.1 _) HH.out).mono ?_
          rintro e wI ⟨A', ⟨rfl, rfl⟩, ownI, -⟩
          have HI := Lib.hid ownI.swap
          clear ownI
          go_wp2_with fail
          refine (SpecAt.use (Sp.out.2.1 _) HI.out).mono ?_
          rintro e wJ ⟨A', ⟨rfl, rfl⟩, ownJ, -⟩
          have HJ := Lib.hid ownJ.swap
          clear ownJ
          go_wp2
          go_roundw
          case rel => exact ⟨i + 1, t', n', xs', ys', by omega, rfl, rfl, by go_num, by omega, HJ.out, hxs'.out⟩
          case measure => simp [intOf]; omega
      · obtain rfl : i = ops.length := by omega
        have Ho := Lib.hid hown
        clear hown
        go_wp2
        go_ret
        refine ⟨rfl, ?_⟩
        have := Ho.out.below
        exact Hb.out.1.trans (this.mono Hb.out.1.size)
  · go_enter Try.func4, Try.ntmps4
    go_wp2_with fail
    refine (hf.out).mono ?_
    rintro e w1 ⟨rfl, hb1⟩
    have hb1' := Lib.hid hb1
    clear hb1
    go_wp2
    go_ret
    exact ⟨rfl, hb1'.out⟩
end Go.Proofs.Ytbncicfbgfmekaa

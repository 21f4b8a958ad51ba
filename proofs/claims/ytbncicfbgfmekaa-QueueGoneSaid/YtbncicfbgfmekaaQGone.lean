/-
  QueueGone as a call: it returns true, and what was there stays.
  Conditions: the operations lie in memory as they were handed in; they are at most 140737488351232.
-/
import Derived.Test.YtbncicfbgfmekaaQOrder
namespace Go.Proofs.Ytbncicfbgfmekaa
set_option linter.unusedVariables false
set_option linter.unusedSimpArgs false
open Go.RowKit

theorem upTo_get {t n i : Nat} (h : i < n) : (upTo t n)[i]? = some ((t + i : Nat) : Int) := by
  simp [upTo, List.getElem?_range', h]

set_option maxRecDepth 100000 in
set_option maxHeartbeats 8000000 in
theorem qgone_calls (w : World) (room : Int) (A : Option Addr) (c : Nat) (ops : List Op3) (hops : Ops w A ops) (hlen : ops.length ≤ 140737488351232) :
    Calls Try.prog 9 #[.int .i64 room, .slice A ops.length c] w fun e w' => e = .returned (.bool true) ∧ Below w.heap.size w w' := by
  obtain ⟨r1, r2, r3, r4⟩ := room_mod room
  have hf := Lib.hid (first_calls w)
  by_cases hbig : ops.length ≤ 400
  · go_enter Try.func9, Try.ntmps9
    go_wp2_with fail
    refine (hf.out).mono ?_
    rintro e w1 ⟨rfl, hb1⟩
    have o0 := Own.start w1
    go_wp2_with fail
    obtain ⟨R, hR1, hR2, hR3⟩ : ∃ R : Nat, room.tmod 64 % 64 + 1 = R ∧ 1 ≤ R ∧ R ≤ 64 := ⟨(room.tmod 64 % 64 + 1).toNat, by omega, by omega, by omega⟩
    simp only [hR1]
    clear hR1 r1 r2 r3 r4
    refine (SpecAt.use (qnewi_yes w1 R ⟨by omega, by omega⟩) o0.emp).mono ?_
    rintro e w2 ⟨A', ⟨g1, rfl, rfl⟩, o1, -⟩
    go_wp2_with fail
    refine (SpecAt.use (qnewi_yes w2 64 ⟨by omega, by omega⟩) o1.emp).mono ?_
    rintro e w3 ⟨A', ⟨g2, rfl, rfl⟩, o2, -⟩
    have Hb := Lib.hid (And.intro hb1 hops)
    have O2 := Lib.hid o2.swap
    clear hb1 hops o0 o1 o2
    go_wp2
    go_loopw [8] (fun tc wr => ∃ (i : Nat) (xs : List Int), i ≤ ops.length ∧ tc = .int .i64 i ∧ Own (fun _ => False) w1 wr [SP.quei g1 R xs, SP.quei g2 64 []] ∧ Hid ((xs.length : Int) ≤ R)) (fun tc _ => ops.length - (intOf tc).toNat)
    case atStart => exact ⟨0, [], Nat.zero_le _, rfl, O2.out, show ((([] : List Int).length : Nat) : Int) ≤ R by simp⟩
    case round =>
      obtain ⟨i, xs, hi, rfl, hown, hxs⟩ := hrel
      clear O2
      have hxR : (xs.length : Int) ≤ R := hxs.out
      have hxl : xs.length ≤ 64 := by omega
      by_cases hin : i < ops.length
      · obtain ⟨o, hoi⟩ : ∃ o, ops[i]? = some o := ⟨_, List.getElem?_eq_getElem hin⟩
        obtain ⟨b, off, rfl, hbl, k0, k1, k2, -⟩ := Hb.out.2 i o hoi
        have HC : ∀ W L, Own (fun _ => False) w1 W L → W.cell? ⟨b, off + i * 3, none⟩ = some (.int .i64 o.kind) ∧ W.cell? ⟨b, off + i * 3 + 1, none⟩ = some (.int .i64 o.n) := fun W L h => by
          have hbw : Below w.heap.size w W := Hb.out.1.trans (h.below.mono Hb.out.1.size)
          exact ⟨(hbw.cell hbl).trans k0, (hbw.cell hbl).trans k1⟩
        have HC' := Lib.hid HC
        obtain ⟨c0, c1⟩ := HC _ _ hown
        have HO := Lib.hid hown
        clear HC k0 k1 k2 hoi hown
        by_cases hk0 : o.kind = 0
        · have hk' : (o.kind == 0) = true := by simp [hk0]
          clear hk0
          have sp2 := fun W => qputi_spec W g1 R xs o.n (by omega) (by omega) hxR
          have hxs' : Hid ((((if (xs.length : Int) < R then xs ++ [o.n] else xs).length : Nat) : Int) ≤ R) := by
            show (((if (xs.length : Int) < R then xs ++ [o.n] else xs).length : Nat) : Int) ≤ R
            split <;> simp <;> omega
          obtain ⟨bb, hbb⟩ : ∃ bb, decide ((xs.length : Int) < R) = bb := ⟨_, rfl⟩
          obtain ⟨zs, hzs⟩ : ∃ zs, (if (xs.length : Int) < R then xs ++ [o.n] else xs) = zs := ⟨_, rfl⟩
          simp only [hbb, hzs] at sp2
          rw [hzs] at hxs'
          have Sp := Lib.hid sp2
          clear sp2 hbb hzs
          go_wp2_with fail
          refine (SpecAt.use (Sp.out _) HO.out).mono ?_
          rintro e wC ⟨A', ⟨rfl, rfl⟩, ownC, -⟩
          have HB := Lib.hid ownC
          clear ownC
          go_wp2
          go_roundw
          case rel => exact ⟨i + 1, zs, by omega, by go_num, HB.out, hxs'.out⟩
          case measure => simp [intOf]; omega
        · have hk' : (o.kind == 0) = false := by simp [hk0]
          clear hk0
          by_cases hk1 : o.kind = 1
          · have hk1' : (o.kind == 1) = true := by simp [hk1]
            clear hk1
            have sp := fun W => qtakei_spec W g1 R xs hxl
            have hxs' : Hid (((xs.tail.length : Nat) : Int) ≤ R) := by
              show ((xs.tail.length : Nat) : Int) ≤ R
              simp; omega
            obtain ⟨y1, hy1⟩ : ∃ y, xs.headD 0 = y := ⟨_, rfl⟩
            obtain ⟨y2, hy2⟩ : ∃ y, (!xs.isEmpty) = y := ⟨_, rfl⟩
            obtain ⟨zs, hzs⟩ : ∃ zs, xs.tail = zs := ⟨_, rfl⟩
            simp only [hy1, hy2, hzs] at sp
            rw [hzs] at hxs'
            have Sp := Lib.hid sp
            clear sp hy1 hy2 hzs
            go_wp2_with fail
            refine (SpecAt.use (Sp.out _) HO.out).mono ?_
            rintro e wC ⟨A', ⟨rfl, rfl⟩, ownC, -⟩
            have HB := Lib.hid ownC
            clear ownC
            go_wp2
            go_roundw
            case rel => exact ⟨i + 1, zs, by omega, by go_num, HB.out, hxs'.out⟩
            case measure => simp [intOf]; omega
          · have hk1' : (o.kind == 1) = false := by simp [hk1]
            clear hk1
            by_cases hk2 : o.kind = 4
            · have hk2' : (o.kind == 4) = true := by simp [hk2]
              clear hk2
              have sp3 := fun W => move_spec W g1 g2 R 64 o.n xs [] (by omega) (by omega) (by omega) (by omega) hxR (by simp)
              obtain ⟨m, hm⟩ : ∃ m, moveN xs.length (64 - (([] : List Int).length : Nat)) o.n = m := ⟨_, rfl⟩
              simp only [hm] at sp3
              have hxs' : Hid ((((xs.drop m).length : Nat) : Int) ≤ R) := by
                show (((xs.drop m).length : Nat) : Int) ≤ R
                rw [List.length_drop]; omega
              have sp4 := fun W => qcleari_spec W g2 64 ([] ++ xs.take m)
              have Sp := Lib.hid (And.intro sp3 sp4)
              clear sp3 sp4 hm
              go_wp2_with fail
              refine (SpecAt.use (Sp.out.1 _) (Own.unflat (L := [SP.quei g1 R xs, SP.quei g2 64 []]) HO.out)).mono ?_
              rintro e wC ⟨A', ⟨rfl, rfl⟩, ownC, -⟩
              have HB := Lib.hid ownC.flat.swap
              clear ownC
              go_wp2_with fail
              refine (SpecAt.use (Sp.out.2 _) HB.out).mono ?_
              rintro e wD ⟨A', ⟨rfl, rfl⟩, ownD, -⟩
              have HD := Lib.hid ownD.swap
              clear ownD
              go_wp2
              go_roundw
              case rel => exact ⟨i + 1, xs.drop m, by omega, by go_num, HD.out, hxs'.out⟩
              case measure => simp [intOf]; omega
            · have hk2' : (o.kind == 4) = false := by simp [hk2]
              clear hk2
              go_wp2
              go_roundw
              case rel => exact ⟨i + 1, xs, by omega, by go_num, HO.out, hxs.out⟩
              case measure => simp [intOf]; omega
      · obtain rfl : i = ops.length := by omega
        have Ho := Lib.hid hown
        clear hown
        have sp1 := fun W => qleni_spec W g1 R xs
        have sp2 := fun W => qcleari_spec W g1 R xs
        have sp3 : ∀ W, SpecAt Try.prog 20 #[.pointer (some ⟨g1, 0, none⟩)] W (SP.quei g1 R []) fun e A' => e = .returned (.int .i64 0) ∧ A' = SP.quei g1 R [] := fun W => qleni_spec W g1 R []
        have sp4 : ∀ W, SpecAt Try.prog 17 #[.pointer (some ⟨g1, 0, none⟩)] W (SP.quei g1 R []) fun e A' => e = .returned (.int .i64 R) ∧ A' = SP.quei g1 R [] := fun W => by
          have := qroomi_spec W g1 R [] (by omega) (by omega) (by simp)
          simpa using this
        have Sp := Lib.hid (And.intro sp1 (And.intro sp2 (And.intro sp3 sp4)))
        clear sp1 sp2 sp3 sp4
        go_wp2_with fail
        refine (SpecAt.use (Sp.out.1 _) Ho.out).mono ?_
        rintro e wA ⟨A', ⟨rfl, rfl⟩, ownA, -⟩
        go_wp2_with fail
        refine (SpecAt.use (Sp.out.2.1 _) ownA).mono ?_
        rintro e wB ⟨A', ⟨rfl, rfl⟩, ownB, -⟩
        go_wp2_with fail
        refine (SpecAt.use (Sp.out.2.2.1 _) ownB).mono ?_
        rintro e wC ⟨A', ⟨rfl, rfl⟩, ownC, -⟩
        go_wp2_with fail
        refine (SpecAt.use (Sp.out.2.2.2 _) ownC).mono ?_
        rintro e wD ⟨A', ⟨rfl, rfl⟩, ownD, -⟩
        have HD := Lib.hid ownD
        clear ownA ownB ownC ownD
        go_wp2
        go_loopw [10] (fun tc wr => ∃ k : Nat, k ≤ R ∧ tc = .int .i64 k ∧ Own (fun _ => False) w1 wr [SP.quei g1 R (upTo 0 k), SP.quei g2 64 []]) (fun tc _ => R - (intOf tc).toNat)
        case atStart => exact ⟨0, Nat.zero_le _, rfl, HD.out⟩
        case round =>
          obtain ⟨k, hk, rfl, hown⟩ := hrel
          clear HD
          have HO := Lib.hid hown
          clear hown
          by_cases hkR : k < R
          · have sp2 : ∀ W, SpecAt Try.prog 18 #[.pointer (some ⟨g1, 0, none⟩), .int .i64 (k : Int)] W (SP.quei g1 R (upTo 0 k)) fun e A' => e = .returned (.bool true) ∧ A' = SP.quei g1 R (upTo 0 (k + 1)) := fun W => by
              have := qputi_spec W g1 R (upTo 0 k) (k : Int) (by omega) (by omega) (by rw [upTo_length]; omega)
              rw [upTo_length] at this
              have e : upTo 0 k ++ [(k : Int)] = upTo 0 (k + 1) := by have := upTo_snoc 0 k; rwa [Nat.zero_add] at this
              rwa [show decide ((k : Int) < R) = true by simp; omega, if_pos (by omega), e] at this
            have Sp := Lib.hid sp2
            clear sp2
            go_wp2_with fail
            refine (SpecAt.use (Sp.out _) HO.out).mono ?_
            rintro e wE ⟨A', ⟨rfl, rfl⟩, ownE, -⟩
            have HE := Lib.hid ownE
            clear ownE
            go_wp2
            go_roundw
            case rel => exact ⟨k + 1, by omega, by go_num, HE.out⟩
            case measure => simp [intOf]; omega
          · obtain rfl : k = R := by omega
            have ul := upTo_length 0 k
            have sp1 : ∀ W, SpecAt Try.prog 18 #[.pointer (some ⟨g1, 0, none⟩), .int .i64 (k : Int)] W (SP.quei g1 k (upTo 0 k)) fun e A' => e = .returned (.bool false) ∧ A' = SP.quei g1 k (upTo 0 k) := fun W => by
              have := qputi_spec W g1 k (upTo 0 k) (k : Int) (by omega) (by omega) (by rw [ul]; omega)
              rwa [ul, show decide ((k : Int) < k) = false by simp, if_neg (by omega)] at this
            have hmv : moveN (upTo 0 k).length (64 - (([] : List Int).length : Nat)) ((k : Int) + 5) = k := by
              rw [ul]; simp only [moveN, List.length_nil]; omega
            have sp2 : ∀ W, SpecAt Try.prog 21 #[.pointer (some ⟨g1, 0, none⟩), .pointer (some ⟨g2, 0, none⟩), .int .i64 ((k : Int) + 5)] W (SP.stars [SP.quei g1 k (upTo 0 k), SP.quei g2 64 []]) fun e A' => e = .returned (.int .i64 k) ∧ A' = SP.stars [SP.quei g1 k [], SP.quei g2 64 (upTo 0 k)] := fun W => by
              have := move_spec W g1 g2 k 64 ((k : Int) + 5) (upTo 0 k) [] (by omega) (by omega) (by omega) (by omega) (by rw [ul]; omega) (by simp)
              rwa [hmv, List.drop_of_length_le (by omega), List.take_of_length_le (by omega), List.nil_append] at this
            have sp3 : ∀ W, SpecAt Try.prog 20 #[.pointer (some ⟨g1, 0, none⟩)] W (SP.quei g1 k []) fun e A' => e = .returned (.int .i64 0) ∧ A' = SP.quei g1 k [] := fun W => qleni_spec W g1 k []
            have sp4 : ∀ W, SpecAt Try.prog 32 #[.pointer (some ⟨g2, 0, none⟩)] W (SP.quei g2 64 (upTo 0 k)) fun e A' => ∃ A c, e = .returned (.slice A k c) ∧ A' = SP.stars [SP.row 3 1 (.slice A k c) (ints (upTo 0 k)), SP.quei g2 64 (upTo 0 k)] := fun W => by
              have := qitemsi_spec W g2 64 (upTo 0 k) (by omega)
              rwa [ul] at this
            have Sp2 := Lib.hid (And.intro sp1 (And.intro sp2 (And.intro sp3 sp4)))
            clear sp1 sp2 sp3 sp4 hmv ul
            go_wp2_with fail
            refine (SpecAt.use (Sp2.out.1 _) HO.out).mono ?_
            rintro e wE ⟨A', ⟨rfl, rfl⟩, ownE, -⟩
            go_wp2_with fail
            refine (SpecAt.use (Sp2.out.2.1 _) (Own.unflat (L := [SP.quei g1 k (upTo 0 k), SP.quei g2 64 []]) ownE)).mono ?_
            rintro e wF ⟨A', ⟨rfl, rfl⟩, ownF, -⟩
            have HF := Lib.hid ownF.flat
            clear ownE ownF
            go_wp2_with fail
            refine (SpecAt.use (Sp2.out.2.2.1 _) HF.out).mono ?_
            rintro e wG ⟨A', ⟨rfl, rfl⟩, ownG, -⟩
            have HG := Lib.hid ownG.swap
            clear ownG
            go_wp2_with fail
            refine (SpecAt.use (Sp2.out.2.2.2 _) HG.out).mono ?_
            rintro e wH ⟨A', ⟨Ai, ci, rfl, rfl⟩, ownH, -⟩
            have HH := Lib.hid ownH.flat
            clear ownH
            go_wp2
            go_loop [12] (fun tc => ∃ j : Nat, j ≤ k ∧ tc = .int .i64 j) (fun tc => k - (intOf tc).toNat)
            case atStart => exact ⟨0, Nat.zero_le _, rfl⟩
            case round =>
              obtain ⟨j, hj, rfl⟩ := hrel
              by_cases hjk : j < k
              · obtain ⟨gb, gof, rfl, hcu, hfu⟩ := HH.out.cell (ints_get (upTo_get (t := 0) hjk))
                rw [Nat.zero_add] at hcu
                go_wp2
                go_round
                case rel => exact ⟨j + 1, by omega, by go_num⟩
                case measure => simp [intOf]; omega
              · obtain rfl : j = k := by omega
                go_wp2
                go_ret
                refine ⟨by simp, ?_⟩
                have := HH.out.below
                exact Hb.out.1.trans (this.mono Hb.out.1.size)
  · go_enter Try.func9, Try.ntmps9
    go_wp2_with fail
    refine (hf.out).mono ?_
    rintro e w1 ⟨rfl, hb1⟩
    have hb1' := Lib.hid hb1
    clear hb1
    go_wp2
    go_ret
    exact ⟨rfl, hb1'.out⟩
end Go.Proofs.Ytbncicfbgfmekaa

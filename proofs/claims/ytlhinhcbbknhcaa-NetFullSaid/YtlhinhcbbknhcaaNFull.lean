/-
  NetFull: a network that is full answers as the document's.
  Conditions: none but that the operations lie in memory.
-/
import Derived.Test.YtlhinhcbbknhcaaNPlays
namespace Go.Proofs.Ytlhinhcbbknhcaa
set_option linter.unusedVariables false
set_option linter.unusedSimpArgs false
open Go.RowKit

set_option maxRecDepth 100000 in
set_option maxHeartbeats 16000000 in
theorem full_calls (w : World) (more : Int) (A : Option Addr) (c : Nat) (l : List Op5) (hops : Ops w A l) (hlen : l.length ≤ 140737488351232) :
    Calls Try.prog 6 #[.int .i64 more, .slice A l.length c] w fun e w' => e = .returned (.bool true) ∧ Below w.heap.size w w' := by
  have hf := Lib.hid (first_own (Own.start w))
  have Hop := Lib.hid hops
  clear hops
  obtain ⟨ll, hll⟩ : ∃ ll, l.length = ll := ⟨_, rfl⟩
  have HLn := Lib.hid hll
  rw [hll] at hlen ⊢
  clear hll
  obtain ⟨r0, hr0⟩ : ∃ r0, Int.tmod more 3 = r0 := ⟨_, rfl⟩
  have hb0 : -2 ≤ r0 ∧ r0 ≤ 2 := by
    rw [← hr0]
    rcases Int.lt_or_le more 0 with h | h
    · have h1 : Int.tmod more 3 = -(Int.tmod (-more) 3) := by rw [Int.neg_tmod, Int.neg_neg]
      rw [h1, Int.tmod_eq_emod_of_nonneg (by omega)]; omega
    · rw [Int.tmod_eq_emod_of_nonneg h]; omega
  have e1 : IntKind.i64.wrap r0 = r0 := IntWalk.i64_in _ (by omega)
  have e2 : IntKind.i64.wrap (r0 + 3) = r0 + 3 := IntWalk.i64_in _ (by omega)
  obtain ⟨r1, hr1⟩ : ∃ r1 : Nat, Int.tmod (r0 + 3) 3 = (r1 : Int) := ⟨((r0 + 3) % 3).toNat, by rw [Int.tmod_eq_emod_of_nonneg (by omega)]; omega⟩
  have hb1 : r1 ≤ 2 := by
    have := hr1
    rw [Int.tmod_eq_emod_of_nonneg (by omega)] at this
    omega
  have e3 : IntKind.i64.wrap (r1 : Int) = (r1 : Int) := IntWalk.i64_in _ (by omega)
  have e4 : IntKind.i64.wrap (2000 + (r1 : Int)) = 2000 + (r1 : Int) := IntWalk.i64_in _ (by omega)
  obtain ⟨kk, hkk⟩ : ∃ kk : Nat, (kk : Int) = 2000 + (r1 : Int) - 1 := ⟨1999 + r1, by omega⟩
  have hk2 : kk ≤ 2001 := by omega
  have e5 : IntKind.i64.wrap (2000 + (r1 : Int) - 1) = (kk : Int) := by rw [IntWalk.i64_in _ (by omega)]; exact hkk.symm
  clear hkk hb0
  go_enter Try.func6, Try.ntmps6
  go_wp2_with fail
  refine (hf.out).mono ?_
  rintro e w1 ⟨rfl, own1⟩
  have O1 := Lib.hid own1
  have HFw := few_calls w1 A c l (ops_below Hop.out own1.below) (by rw [HLn.out]; exact hlen)
  rw [HLn.out] at HFw
  have HF := Lib.hid HFw
  clear own1 HFw hf
  go_wp2_with fail
  refine (HF.out).mono ?_
  rintro e w2 ⟨r, rfl, rfl, hr⟩
  have HR := Lib.hid hr
  clear hr HF
  cases r with
  | false =>
    go_wp2
    go_ret
    exact ⟨rfl, O1.out.below⟩
  | true =>
    have hl300 := HR.out rfl
    have HN := Lib.hid (new_yes 2 (by decide) (by decide) O1.out)
    go_wp2_with fail
    refine (HN.out).mono ?_
    rintro e w3 ⟨g, rfl, own3⟩
    have HN2 := Lib.hid (rnew_yes 2 (by decide) (by decide) own3)
    clear own3 HN O1
    go_wp2_with fail
    refine (HN2.out).mono ?_
    rintro e w4 ⟨gr, rfl, own4⟩
    have O4 := Lib.hid own4.swap
    have HTW := Lib.hid (tw_start (nodes := 2) (by decide) (by decide))
    clear own4 HN2
    go_wp2
    go_loopw [10] (fun ti wr => ∃ (i : Nat) (last : Int) (L : List M), i ≤ kk ∧ ti = .int .i64 i ∧ Hid (Tw 2 last cut0 [] L i) ∧ Own (fun _ => False) w wr [SP.net g 2 cut0 last L, SP.rnet gr 2 last L []]) (fun ti _ => kk - (intOf ti).toNat)
    case atStart => exact ⟨0, 0, [], Nat.zero_le _, rfl, HTW.out, O4.out⟩
    case round =>
      obtain ⟨i, last, L, hi, rfl, hT, hown⟩ := hrel
      clear O4 HTW
      by_cases hin : i < kk
      · have i1 : (i : Int) < (kk : Int) := by omega
        have m1 : Int.tmod (i : Int) 2 = ((i % 2 : Nat) : Int) := by rw [Int.tmod_eq_emod_of_nonneg (by omega)]; omega
        obtain ⟨i2, hi2⟩ : ∃ i2, i % 2 = i2 := ⟨_, rfl⟩
        have hi3 : i2 ≤ 1 := by omega
        rw [hi2] at m1
        obtain ⟨r, last2, L2, ht, hA, hB⟩ := both_send hT.out (by omega) (1 + (i2 : Int)) (2 - (i2 : Int)) [] (by simp)
        have HC1 := Lib.hid (show Calls Try.prog 11 #[.pointer (some ⟨g, 0, none⟩), .int .i64 (1 + (i2 : Int)), .int .i64 (2 - (i2 : Int)), .slice none 0 0] wr fun e w' => e = .returned (.bool r) ∧ Own (fun _ => False) w w' [SP.net g 2 cut0 last2 L2, SP.rnet gr 2 last L []] from hA _ _ wr _ g none 0 hown (fun _ _ _ => Rd.nil _ _))
        have HC2 := Lib.hid (fun (W : World) (o : Own (fun _ => False) w W [SP.net g 2 cut0 last2 L2, SP.rnet gr 2 last L []]) => show Calls Try.prog 27 #[.pointer (some ⟨gr, 0, none⟩), .int .i64 (1 + (i2 : Int)), .int .i64 (2 - (i2 : Int)), .slice none 0 0] W fun e w' => e = .returned (.bool r) ∧ Own (fun _ => False) w w' [SP.net g 2 cut0 last2 L2, SP.rnet gr 2 last2 L2 []] from (hB _ _ W _ gr none 0 o.swap (fun _ _ _ => Rd.nil _ _)).mono fun e w' ⟨h1, h2⟩ => ⟨h1, h2.swap⟩)
        have HTT := Lib.hid ht
        have v1 : IntKind.i64.wrap (i2 : Int) = (i2 : Int) := IntWalk.i64_in _ (by omega)
        have v2 : IntKind.i64.wrap (1 + (i2 : Int)) = 1 + (i2 : Int) := IntWalk.i64_in _ (by omega)
        have v3 : IntKind.i64.wrap (2 - (i2 : Int)) = 2 - (i2 : Int) := IntWalk.i64_in _ (by omega)
        clear ht hA hB hown hi2 hT
        go_wp2_with fail
        refine (HC1.out).mono ?_
        rintro e w5 ⟨rfl, o5⟩
        have HD2 := Lib.hid (HC2.out _ o5)
        clear o5 HC1 HC2
        go_wp2_with fail
        refine (HD2.out).mono ?_
        rintro e w6 ⟨rfl, o6⟩
        have O6 := Lib.hid o6
        clear o6 HD2
        go_wp2
        go_roundw
        case rel => exact ⟨i + 1, last2, L2, by omega, by go_num, HTT.out, O6.out⟩
        case measure => simp [intOf]; omega
      · have i1 : ¬ (i : Int) < (kk : Int) := by omega
        obtain rfl : i = kk := by omega
        have O6 := Lib.hid hown
        have HTT := Lib.hid hT.out
        clear hown hT
        go_wp2
        go_loopw [11] (fun ti wr => ∃ (j : Nat) (last : Int) (cut : List Bool) (C : List (Int × Int)) (L : List M), j ≤ ll ∧ ti = .int .i64 j ∧ Hid (Tw 2 last cut C L (i + j)) ∧ Own (fun _ => False) w wr [SP.net g 2 cut last L, SP.rnet gr 2 last L C]) (fun ti _ => ll - (intOf ti).toNat)
        case atStart => exact ⟨0, last, cut0, [], L, Nat.zero_le _, rfl, HTT.out, O6.out⟩
        case round =>
          obtain ⟨j, last0, cuta, C0, L0, hj, rfl, hT, hown⟩ := hrel
          clear O6 HTT
          by_cases hjn : j < ll
          · have ii1 : (j : Int) < (ll : Int) := by omega
            obtain ⟨o, hoi⟩ : ∃ o, l[j]? = some o := ⟨_, List.getElem?_eq_getElem (by rw [HLn.out]; exact hjn)⟩
            obtain ⟨b, off, Ad, cd, rfl, hbl, k0, k1, k2, k3, k4, hd1, hd2, hd3, hrd, w0', w1', w2'⟩ := Hop.out j o hoi
            have hbw : Below w.heap.size w wr := hown.below
            have c0 := (hbw.cell hbl).trans k0
            have c1 := (hbw.cell hbl).trans k1
            have c2 := (hbw.cell hbl).trans k2
            have c3 := (hbw.cell hbl).trans k3
            have c4 := (hbw.cell hbl).trans k4
            have HDo := Lib.hid (does_own hT.out (by omega) o.kind o.a o.b o.up Ad cd o.dat ⟨hd1, hd2, hd3, hrd⟩ ⟨w0', w1', w2'⟩ hown)
            clear hown hbw k0 k1 k2 k3 k4 hrd hoi hd1 hd2 hd3 w0' w1' w2' hbl
            go_wp2_with fail
            refine (HDo.out).mono ?_
            rintro e w5 ⟨last, cut, C, L, rfl, tw, o5⟩
            have HTT := Lib.hid tw
            obtain ⟨AL, cL, BC, kC, -, -, o7⟩ := o5.swap.rnet_open
            obtain ⟨n, hn⟩ : ∃ n, L.length = n := ⟨_, rfl⟩
            have HNn := Lib.hid hn
            rw [hn] at o7
            have O7 := Lib.hid (o7.pick (L := [_, _, _, _]) [3, 0, 1, 2])
            clear tw o5 o7 HDo c0 c1 c2 c3 c4 hT hn
            have HCS := Lib.hid (fun (W : World) (R' : List SP) (o : Own (fun _ => False) w W (SP.net g 2 cut last L :: SP.blk gr 49 (rnetA 2 (.slice AL n cL) last (.slice BC C.length kC)) :: R')) => show W.cell? ⟨gr, 1, none⟩ = some (.slice AL n cL) from o.swap.blk_cell 1)
            have HLe := Lib.hid (fun (W : World) (o : Own (fun _ => False) w W (SP.net g 2 cut last L :: SP.blk gr 49 (rnetA 2 (.slice AL n cL) last (.slice BC C.length kC)) :: SP.mails 60 (.slice AL n cL) L :: SP.row 66 2 (.slice BC C.length kC) (prow C) :: [])) => show Calls Try.prog 15 #[.pointer (some ⟨g, 0, none⟩)] W fun e w' => e = .returned (.int .i64 (n : Nat)) ∧ Own (fun _ => False) w w' (SP.net g 2 cut last L :: SP.blk gr 49 (rnetA 2 (.slice AL n cL) last (.slice BC C.length kC)) :: SP.mails 60 (.slice AL n cL) L :: SP.row 66 2 (.slice BC C.length kC) (prow C) :: []) from by
              have := len_own o
              rw [HNn.out] at this
              exact this.mono fun e w' ⟨he, hw⟩ => ⟨he, hw ▸ o⟩)
            have kk1 := HCS.out _ _ O7.out
            have hnn : ((n : Int) != (n : Int)) = false := by simp
            go_upto_region 17 with (fail)
            go_region_held3 (fun W => W.cell? ⟨gr, 1, none⟩ = some (.slice AL n cL))
              (first | go_keep | exact kk1 | exact K1.out)
              (first
                | (refine step_callW 15 _ _ rfl Try.func15 (by kernel_rfl) (by kernel_rfl) #[.pointer (some ⟨g, 0, none⟩)] (by rfl) (by rfl) ?_
                   refine (HLe.out _ O7.out.drew).mono ?_
                   rintro e wa ⟨rfl, oa⟩
                   refine ⟨_, rfl, ?_⟩
                   have K1 := Lib.hid (HCS.out _ _ oa)
                   have OA := Lib.hid oa
                   clear oa))
            clear kk1
            go_wp2
            go_roundw
            case rel => exact ⟨j + 1, last, cut, C, L, by omega, by go_num, HTT.out, (by
              have o := OA.out
              rw [← HNn.out] at o
              exact Own.swap (Own.rnet_shut (o.pick (L := [_, _, _, _]) [1, 2, 3, 0])))⟩
            case measure => simp [intOf]; omega
          · have ii1 : ¬ (j : Int) < (ll : Int) := by omega
            have O7 := Lib.hid hown
            clear hown
            go_wp2
            go_ret
            exact ⟨rfl, O7.out.below⟩
end Go.Proofs.Ytlhinhcbbknhcaa

/-
  rest of LanePlays: lanes are what lists say.
  Conditions: none beyond each theorem's own.
-/
import Derived.Test.YtbncicfbgfmekaaMat
import Derived.Test.YtbncicfbgfmekaaLaoMore
import Derived.Test.YtbncicfbgfmekaaSame
import Derived.Test.YtbncicfbgfmekaaStepCall
import Derived.Deep.RegionLaw
namespace Go.Proofs.Ytbncicfbgfmekaa
set_option linter.unusedVariables false
set_option linter.unusedSimpArgs false
open Go.RowKit

theorem lensum_le {L : List (List Int)} (h : ∀ xs, xs ∈ L → xs.length ≤ 64) (hl : L.length ≤ 64) (i : Nat) : lensum (L.take i) ≤ 4096 := lensum_take_le L h hl i

set_option maxHeartbeats 4000000 in
theorem rest_spec (w : World) (g next mb K : Nat) (R : Int) (L : List (List Int)) (hK : L.length = K) (hK2 : K ≤ 64) (hx : ∀ xs, xs ∈ L → xs.length ≤ 64) :
    SpecAt Try.prog 30 #[.pointer (some ⟨g, 0, none⟩), .slice (some ⟨mb, 0, none⟩) K K, .int .i64 K] w (SP.stars [SP.lanesi g next R L, SP.mat 30 3 (.slice (some ⟨mb, 0, none⟩) K K) (L.map ints)]) fun e A' =>
      e = .returned (.bool true) ∧ A' = SP.stars [SP.lanesi g next R L, SP.mat 30 3 (.slice (some ⟨mb, 0, none⟩) K K) (L.map ints)] := by
  intro S hA hlt
  have hown0 : Own S w w [SP.lanesi g next R L, SP.mat 30 3 (.slice (some ⟨mb, 0, none⟩) K K) (L.map ints)] := (Own.enter hA hlt).flat
  have HA := Lib.hid hown0
  have HX := Lib.hid (And.intro hK hx)
  clear hA hlt hown0 hK hx
  go_enter Try.func30, Try.ntmps30
  go_wp2
  go_loopw [7, 8] (fun ta tb wx => ∃ i : Nat, i ≤ K ∧ ta = .int .i64 ((lensum (L.take i) : Nat) : Int) ∧ tb = .int .i64 i ∧ Own S w wx [SP.lanesi g next R L, SP.mat 30 3 (.slice (some ⟨mb, 0, none⟩) K K) (L.map ints)]) (fun _ tb _ => K - (intOf tb).toNat)
  case atStart => exact ⟨0, Nat.zero_le _, rfl, rfl, HA.out⟩
  case round =>
    obtain ⟨i, hi, rfl, rfl, hown⟩ := hrel
    clear HA
    have hls := lensum_le HX.out.2 (by rw [HX.out.1]; exact hK2) i
    have HO := Lib.hid hown
    clear hown
    by_cases hiK : i < K
    · obtain ⟨xs, hxs⟩ : ∃ xs, L[i]? = some xs := ⟨_, List.getElem?_eq_getElem (by rw [HX.out.1]; exact hiK)⟩
      have hxl := HX.out.2 xs (List.mem_of_getElem? hxs)
      have Sp := Lib.hid (fun W => litems_in W g next R L i xs hxs hxl)
      have Hx := Lib.hid hxs
      have Ht := Lib.hid (lensum_take L hxs)
      clear hxs
      go_wp2_with fail
      refine (SpecAt.use (Sp.out _) HO.out).mono ?_
      rintro e wB ⟨A', ⟨Ai, ci, rfl, rfl⟩, ownB, -⟩
      have ownB2 := ownB.flat
      obtain ⟨Am, cm, hcm, hm1, hm2, hrm⟩ := (ownB2.front 2 rfl).mat_rd (k := i) (xs := ints xs) (by rw [List.getElem?_map, Hx.out]; rfl)
      rw [Nat.zero_add, ints_length] at hcm
      have hsame := sameints_calls wB Ai Am ci cm xs xs ownB2.rd hrm (by omega)
      rw [show decide (xs = xs) = true by simp] at hsame
      have HSa := Lib.hid hsame
      have HB := Lib.hid ownB2
      clear ownB ownB2 hrm hsame hm1 hm2
      go_wp2_with fail
      refine (HSa.out).mono ?_
      rintro e wD ⟨rfl, dd, rfl⟩
      have HD := Lib.hid (Own.drewN HB.out dd)
      clear HSa HB hcm
      go_wp2
      go_loopw [11] (fun t wx => ∃ (k : Nat) (zs : List Value), k ≤ xs.length ∧ t = .int .i64 k ∧ Hid (zs.length = xs.length) ∧ Own S w wx [SP.row 3 1 (.slice Ai xs.length ci) zs, SP.lanesi g next R L, SP.mat 30 3 (.slice (some ⟨mb, 0, none⟩) K K) (L.map ints)]) (fun t _ => xs.length - (intOf t).toNat)
      case atStart => exact ⟨0, ints xs, Nat.zero_le _, rfl, ints_length _, HD.out⟩
      case round =>
        obtain ⟨k, zs, hk, rfl, hzl, ownZ⟩ := hrel
        clear HD
        by_cases hkl : k < xs.length
        · obtain ⟨u, hu⟩ : ∃ u, zs[k]? = some u := ⟨_, List.getElem?_eq_getElem (by rw [hzl.out]; exact hkl)⟩
          obtain ⟨gb, gof, rfl, hcu, hfu⟩ := ownZ.cell hu
          have HZ := Lib.hid (ownZ.store (j := k) (by rw [hzl.out]; exact hkl) (.int .i64 (-5)))
          clear ownZ hu
          go_wp2
          go_roundw
          case rel => exact ⟨k + 1, zs.set k (.int .i64 (-5)), by omega, by go_num, by show (zs.set k _).length = _; rw [List.length_set]; exact hzl.out, HZ.out⟩
          case measure => simp [intOf]; omega
        · obtain rfl : k = xs.length := by omega
          obtain ⟨vs, Am, cm, hvl, hm1, hm2, hvk, ownM, hback⟩ := (ownZ.pop.front 1 rfl).mat_at (k := i) (xs := ints xs) (by rw [List.getElem?_map, Hx.out]; rfl)
          rw [ints_length] at hvk ownM
          have hcell : ∀ W R, Own S w W (SP.row 30 1 (.slice (some ⟨mb, 0, none⟩) K K) vs :: R) → W.cell? ⟨mb, i, none⟩ = some (.slice Am xs.length cm) := fun W R h => by
            obtain ⟨g0, o0, e0, h6, h7⟩ := h.cell hvk
            injection e0 with e0
            injection e0 with e1 e2
            subst e1 e2
            rwa [Nat.zero_add] at h6
          have hcm1 := hcell _ _ ownM.swap
          have HM := Lib.hid (And.intro ownM (And.intro hcell (And.intro hback hvk)))
          clear hk hkl ownZ hzl ownM hcell hback hvk hm1 hm2
          have hi0 : (0 : Int) ≤ (i : Int) := by omega
          have hi1 : (i : Int) < (K : Int) := by omega
          go_wp2_with fail
          go_region_law (first | (refine step_call rfl 22 _ _ rfl Try.func22 (by kernel_rfl) (by kernel_rfl) #[.pointer (some ⟨g, 0, none⟩), .int .i64 i] (by rfl) ?_; refine (SpecAt.use (Sp.out _) ((HM.out.1.drew).front 3 rfl)).mono ?_; rintro e w' ⟨A', ⟨An, cn, rfl, rfl⟩, own', -⟩; have own2 := Lib.hid own'.flat; have hcm2 := HM.out.2.1 _ _ (own2.out.front 3 rfl); refine ⟨_, rfl, ?_⟩) | (refine step_call rfl 29 _ _ rfl Try.func29 (by kernel_rfl) (by kernel_rfl) #[.slice An xs.length cn, .slice Am xs.length cm] (by rfl) ?_; refine (sameints_calls _ An Am cn cm xs xs own2.out.rd (own2.out.front 2 rfl).rd (by omega)).mono ?_; rintro e w'' ⟨rfl, d, rfl⟩; refine ⟨_, rfl, ?_⟩))
          all_goals
            have hb1 := own2.out.pop
            have hb2 : Own S w w' [SP.row 3 1 (.slice Am xs.length cm) (ints xs), SP.row 30 1 (.slice (some ⟨mb, 0, none⟩) K K) vs, SP.stars ((inner 3 vs (L.map ints)).eraseIdx i), SP.lanesi g next R L] := hb1.perm (List.perm_append_comm (l₁ := [_]) (l₂ := [_, _, _]))
            have hb3 := HM.out.2.2.1 w' (.slice Am xs.length cm) (ints xs) (by rw [set_same HM.out.2.2.2]; exact hb2)
            have hset : (L.map ints).set i (ints xs) = L.map ints := set_same (by rw [List.getElem?_map, Hx.out]; rfl)
            rw [hset] at hb3
            have HF := Lib.hid (Own.drewN hb3.swap d)
            have hdec : decide (xs = xs) = true := by simp
            have hls2 := lensum_le HX.out.2 (by rw [HX.out.1]; exact hK2) (i + 1)
            try simp only [hdec]
            clear hb1 hb2 hb3 own' own2 hset hdec
            go_wp2
            go_roundw
            case rel => exact ⟨i + 1, by omega, by rw [Ht.out]; go_num, by go_num, HF.out⟩
            case measure => simp [intOf]; omega
    · obtain rfl : i = K := by omega
      have hle : lensum (L.take i) = lensum L := by rw [List.take_of_length_le (by have := HX.out.1; omega)]
      have sp1 := fun W => llen_spec W g next R L (by have := HX.out.1; omega) HX.out.2
      have sp2 := fun W => litems_out W g next R L (-1) (by omega)
      have sp3 := fun W => litems_out W g next R L i (by have := HX.out.1; omega)
      rw [← hle] at sp1
      have Sp := Lib.hid (And.intro sp1 (And.intro sp2 sp3))
      clear sp1 sp2 sp3 hle hiK
      go_wp2_with fail
      refine (SpecAt.use (Sp.out.1 _) HO.out).mono ?_
      rintro e wB ⟨A', ⟨rfl, rfl⟩, ownB, -⟩
      have HB := Lib.hid ownB
      clear ownB
      go_wp2_with fail
      refine (SpecAt.use (Sp.out.2.1 _) HB.out).mono ?_
      rintro e wC ⟨A', ⟨rfl, rfl⟩, ownC, -⟩
      have HC := Lib.hid ownC
      clear ownC
      go_wp2_with fail
      refine (SpecAt.use (Sp.out.2.2 _) HC.out).mono ?_
      rintro e wD ⟨A', ⟨rfl, rfl⟩, ownD, -⟩
      have HD := Lib.hid ownD.leave
      clear ownD
      go_wp2
      go_ret
      refine ⟨_, ⟨?_, rfl⟩, HD.out⟩
      simp
end Go.Proofs.Ytbncicfbgfmekaa

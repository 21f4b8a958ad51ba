/-
  LaneFair as a call: it returns true, and what was there stays.
  Conditions: the operations lie in memory as they were handed in; they are at most 140737488351232.
-/
import Derived.Test.YtbncicfbgfmekaaMat
import Derived.Test.YtbncicfbgfmekaaEnt
import Derived.Test.YtbncicfbgfmekaaLOrder
import Derived.Test.YtbncicfbgfmekaaStepCall
namespace Go.Proofs.Ytbncicfbgfmekaa
set_option linter.unusedVariables false
set_option linter.unusedSimpArgs false
open Go.RowKit

def zrows (K k : Nat) : List (List Int) := List.replicate k (List.replicate K 0) ++ List.replicate (K - k) []
theorem zrows_get {K k : Nat} (h : k < K) : (zrows K k)[k]? = some [] := by
  rw [zrows, List.getElem?_append_right (by simp), List.length_replicate, Nat.sub_self, List.getElem?_replicate, if_pos (by omega)]
theorem zrows_set {K k : Nat} (h : k < K) : (zrows K k).set k (List.replicate K 0) = zrows K (k + 1) := by
  rw [zrows, zrows, List.set_append_right _ _ (by simp)]
  simp
  rw [show K - k = (K - (k + 1)) + 1 by omega, List.replicate_succ, List.set_cons_zero, List.replicate_succ', List.append_assoc]
  rfl
def lens (L : List (List Int)) : List Int := L.map fun l => (l.length : Int)
theorem lens_take {L : List (List Int)} {k : Nat} {xs : List Int} (h : L[k]? = some xs) : lens (L.take (k + 1)) = lens (L.take k) ++ [(xs.length : Int)] := by
  rw [List.take_add_one, h]
  simp [lens]
theorem lens_get {L : List (List Int)} {k : Nat} {xs : List Int} (h : L[k]? = some xs) : (lens L)[k]? = some (xs.length : Int) := by
  simp [lens, h]
/-- How many things a lane holds. -/
def lh (L : List (List Int)) (y : Nat) : Nat := (L[y]?.getD []).length
theorem lh_of {L : List (List Int)} {k : Nat} {xs : List Int} (h : L[k]? = some xs) : lh L k = xs.length := by simp [lh, h]

theorem entA_le {a b hy rx ry : Nat} {v : Int} (h : entA a (b + 1) a b hy rx ry v) (hab : b ≠ a) : v ≤ 1 := by
  unfold entA entO at h; omega
abbrev fairMat (mb K : Nat) (W : List (List Int)) : SP := SP.mat 30 3 (.slice (some ⟨mb, 0, none⟩) K K) (W.map ints)

set_option maxRecDepth 100000 in
set_option maxHeartbeats 8000000 in
theorem lfair_calls (w : World) (lanes : Int) (A : Option Addr) (c : Nat) (ops : List Op3) (hops : Ops w A ops) (hlen : ops.length ≤ 140737488351232) :
    Calls Try.prog 5 #[.int .i64 lanes, .slice A ops.length c] w fun e w' => e = .returned (.bool true) ∧ Below w.heap.size w w' := by
  obtain ⟨s1, s2, s3, s4⟩ := lane_mod lanes
  have hf := Lib.hid (first_calls w)
  by_cases hbig : ops.length ≤ 400
  · go_enter Try.func5, Try.ntmps5
    go_wp2_with fail
    refine (hf.out).mono ?_
    rintro e w1 ⟨rfl, hb1⟩
    have o0 := Own.start w1
    go_wp2_with fail
    obtain ⟨K, hK1, hK2, hK3⟩ : ∃ K : Nat, lanes.tmod 8 % 8 + 1 = K ∧ 1 ≤ K ∧ K ≤ 8 := ⟨(lanes.tmod 8 % 8 + 1).toNat, by omega, by omega, by omega⟩
    simp only [hK1]
    clear hK1 s1 s2 s3 s4
    refine (SpecAt.use (lnewi_yes w1 K 64 ⟨by omega, by omega⟩ ⟨by omega, by omega⟩) o0.emp).mono ?_
    rintro e w2 ⟨A', ⟨g, rfl, rfl⟩, o1, -⟩
    have Hb := Lib.hid (And.intro hb1 hops)
    have O1 := Lib.hid o1
    have hmk := fun W => run_make_n (P := Try.prog) 26 30 (.slice none 0 0) 24 Try.underlying26 (by kernel_rfl) rfl K (by omega) (by omega) W
    have hmk2 := fun W => run_make_n (P := Try.prog) 30 3 (.int .i64 0) 8 Try.underlying30 Try.info3 rfl K (by omega) (by omega) W
    clear hb1 hops o0 o1
    go_wp2
    obtain ⟨mb, hmb⟩ : ∃ mb, w2.heap.size = mb := ⟨_, rfl⟩
    have O2 := Lib.hid ((O1.out.matNew 30 3 K (by unfold maxLen; omega)))
    rw [hmb] at O2
    simp only [hmb]
    clear hmb hmk O1
    go_loopw [8] (fun ta wr => ∃ k : Nat, k ≤ K ∧ ta = .int .i64 k ∧ Own (fun _ => False) w1 wr [fairMat mb K (zrows K k), SP.lanesi g 0 64 (List.replicate K [])]) (fun ta _ => K - (intOf ta).toNat)
    case atStart =>
      refine ⟨0, Nat.zero_le _, rfl, ?_⟩
      have := O2.out
      rw [Int.toNat_natCast] at this
      have e : (zrows K 0).map ints = List.replicate K [] := by simp [zrows, ints]
      rw [fairMat, e]
      exact this
    case round =>
      obtain ⟨k, hk, rfl, hown⟩ := hrel
      clear O2
      by_cases hkK : k < K
      · obtain ⟨⟨u0, hcu⟩, hfu, hnew⟩ := hown.mat_new (k := k) (xs := []) (by rw [List.getElem?_map, zrows_get hkK]; rfl) (.int .i64 0) K (by unfold maxLen; omega)
        rw [Nat.zero_add] at hcu hfu hnew
        have e : ((zrows K k).map ints).set k (List.replicate K (.int .i64 0)) = (zrows K (k + 1)).map ints := by
          rw [← zrows_set hkK, List.map_set]
          simp [ints]
        rw [e] at hnew
        have HN := Lib.hid hnew
        clear hnew hown e
        go_wp2
        go_roundw
        case rel => exact ⟨k + 1, by omega, by go_num, HN.out⟩
        case measure => simp [intOf]; omega
      · have hkk : K = k := by omega
        subst hkk
        have ez : zrows K K = List.replicate K (List.replicate K 0) := by simp [zrows]
        rw [ez] at hown
        have HO := Lib.hid hown.swap
        clear hown hkK hk hmk2 ez
        go_wp2
        go_loopw [9] (fun ta wr => ∃ (i next : Nat) (L W : List (List Int)), i ≤ ops.length ∧ ta = .int .i64 i ∧ next ≤ K ∧ Own (fun _ => False) w1 wr [SP.lanesi g next 64 L, fairMat mb K W] ∧ Hid (L.length = K ∧ ∀ xs, xs ∈ L → (xs.length : Int) ≤ 64) ∧ Hid (Ent K (fun x y v => entO (rank K next x) (rank K next y) v) W)) (fun ta _ => ops.length - (intOf ta).toNat)
        case atStart =>
          refine ⟨0, 0, List.replicate K [], List.replicate K (List.replicate K 0), Nat.zero_le _, rfl, Nat.zero_le _, HO.out, ⟨by simp, fun xs hx => ?_⟩, Ent.zero K _ (fun x y => .inl rfl)⟩
          rw [List.mem_replicate] at hx
          rw [hx.2]; simp
        case round =>
          obtain ⟨i, next, L, W, hi, rfl, hnx, hown, hL, hE⟩ := hrel
          clear HO
          by_cases hin : i < ops.length
          · obtain ⟨o, hoi⟩ : ∃ o, ops[i]? = some o := ⟨_, List.getElem?_eq_getElem hin⟩
            obtain ⟨b, off, rfl, hbl, k0, k1, k2, -⟩ := Hb.out.2 i o hoi
            have HC : ∀ W L, Own (fun _ => False) w1 W L → W.cell? ⟨b, off + i * 3, none⟩ = some (.int .i64 o.kind) ∧ W.cell? ⟨b, off + i * 3 + 2, none⟩ = some (.int .i64 o.lane) := fun W L h => by
              have hbw : Below w.heap.size w W := Hb.out.1.trans (h.below.mono Hb.out.1.size)
              exact ⟨(hbw.cell hbl).trans k0, (hbw.cell hbl).trans k2⟩
            have HC' := Lib.hid HC
            obtain ⟨c0, c2⟩ := HC _ _ hown
            have HO := Lib.hid hown
            clear HC k0 k1 k2 hoi hown
            by_cases hk0 : o.kind = 0
            · have hk' : (o.kind == 0) = true := by simp [hk0]
              clear hk0
              obtain ⟨m1, m2, m3, m4, m5⟩ := lane_modK o.lane K hK2
              have m6 : (o.lane.tmod K + K) % K = o.lane.tmod K % K := Int.add_emod_right _ _
              obtain ⟨k, hk⟩ : ∃ k : Nat, o.lane.tmod K % K = k := ⟨(o.lane.tmod K % K).toNat, by omega⟩
              have hkK : k < K := by omega
              obtain ⟨xs, hxs⟩ : ∃ xs, L[k]? = some xs := ⟨_, List.getElem?_eq_getElem (by rw [hL.out.1]; exact hkK)⟩
              have hxR := hL.out.2 xs (List.mem_of_getElem? hxs)
              have sp := fun W => lputi_in W g next 64 L k xs i hxs (by omega) (by omega) hxR
              have hL' : Hid ((L.set k (if (xs.length : Int) < 64 then xs ++ [(i : Int)] else xs)).length = K ∧ ∀ ys, ys ∈ L.set k (if (xs.length : Int) < 64 then xs ++ [(i : Int)] else xs) → (ys.length : Int) ≤ 64) := ⟨by rw [List.length_set]; exact hL.out.1, mem_set hL.out.2 (by split <;> (try simp) <;> omega)⟩
              obtain ⟨L', hL''⟩ : ∃ L', L.set k (if (xs.length : Int) < 64 then xs ++ [(i : Int)] else xs) = L' := ⟨_, rfl⟩
              obtain ⟨bb, hbb⟩ : ∃ bb, decide ((xs.length : Int) < 64) = bb := ⟨_, rfl⟩
              simp only [hL'', hbb] at sp
              rw [hL''] at hL'
              have Sp := Lib.hid sp
              clear sp hxs hL'' hbb hL
              go_wp2_with fail
              try simp only [hk]
              clear hk m1 m2 m3 m4 m5 m6
              refine (SpecAt.use (Sp.out _) HO.out).mono ?_
              rintro e wB ⟨A', ⟨rfl, rfl⟩, ownB, -⟩
              have HB := Lib.hid ownB
              clear ownB c0 c2
              go_wp2
              go_roundw
              case rel => exact ⟨i + 1, next, L', W, by omega, by go_num, hnx, HB.out, hL'.out, hE.out⟩
              case measure => simp [intOf]; omega
            · have hk' : (o.kind == 0) = false := by simp [hk0]
              clear hk0
              have hHad := Lib.hid ((HO.out.add (B := SP.row 3 1 (.slice none 0 0) (ints [])) (SP.row_nil _ _ _ _)))
              go_wp2
              go_loopw [10, 11] (fun ta tb wx => ∃ (k : Nat) (Ah : Option Addr) (ch : Nat), k ≤ K ∧ ta = .slice Ah k ch ∧ tb = .int .i64 k ∧ Own (fun _ => False) w1 wx [SP.row 3 1 (.slice Ah k ch) (ints (lens (L.take k))), SP.lanesi g next 64 L, fairMat mb K W]) (fun _ tb _ => K - (intOf tb).toNat)
              case atStart => exact ⟨0, none, 0, Nat.zero_le _, rfl, rfl, by simpa [lens] using hHad.out⟩
              case round =>
                obtain ⟨k, Ah, ch, hk, rfl, rfl, hown⟩ := hrel
                clear hHad HO c0 c2
                have HO := Lib.hid hown
                clear hown
                by_cases hkK : k < K
                · obtain ⟨xs, hxs⟩ : ∃ xs, L[k]? = some xs := ⟨_, List.getElem?_eq_getElem (by rw [hL.out.1]; exact hkK)⟩
                  have hxR := hL.out.2 xs (List.mem_of_getElem? hxs)
                  have hxl : xs.length ≤ 64 := by omega
                  have Sp := Lib.hid (fun W => litems_in W g next 64 L k xs hxs hxl)
                  have Hx := Lib.hid hxs
                  clear hxs
                  go_wp2_with fail
                  refine (SpecAt.use (Sp.out _) HO.out.swap).mono ?_
                  rintro e wB ⟨A', ⟨Ai, ci, rfl, rfl⟩, ownB, -⟩
                  have hlt : (lens (L.take k)).length = k := by simp [lens]; have := hL.out.1; omega
                  obtain ⟨T, hrT, hback⟩ := ownB.flat.pop.swap.grow1 #[.int .i64 xs.length] 3
                  have HG := Lib.hid (And.intro hrT (And.intro hback hlt))
                  clear ownB hrT hback hlt
                  go_wp2_with (at_builtin; refine wpList_append_row rfl (.tmp 79) (.tmp 84) 30 rfl 3 (.int .i64 0) 1 8 Try.underlying30 Try.info3 rfl (by decide) rfl (by rw [ints_length, Nat.mul_one]; exact HG.out.2.2) HG.out.1 _ 1 1 [.int .i64 xs.length] rfl rfl (rd_one _ _ _) (ints_one (xs := [(xs.length : Int)])) (by unfold maxLen; omega) (by omega) ?_)
                  rintro A3 c3 w3 - hk3 hr3
                  have hF := HG.out.2.1 _ _ hk3 hr3
                  have HF := Lib.hid hF
                  clear hk3 hr3 hF
                  go_wp2
                  go_roundw
                  case rel =>
                    refine ⟨k + 1, A3, c3, by omega, rfl, by go_num, ?_⟩
                    rw [lens_take Hx.out, ints_append]
                    exact HF.out
                  case measure => simp [intOf]; omega
                · have hkk : K = k := by omega
                  subst hkk
                  have hlK : L.length = K := hL.out.1
                  have hx64 : ∀ xs, xs ∈ L → xs.length ≤ 64 := fun xs hx => by have := hL.out.2 xs hx; omega
                  have Sp := Lib.hid (fun W => ltakei_spec W g next 64 L (by omega) (by omega) (by omega) hx64)
                  have HO1 := HO.out.swap
                  rw [List.take_of_length_le (by omega)] at HO1
                  have HO2 := Lib.hid HO1
                  clear HO HO1
                  go_wp2_with fail
                  refine (SpecAt.use (Sp.out _) HO2.out).mono ?_
                  rintro e wB ⟨A', hpost, ownB, -⟩
                  rcases hpost with ⟨j, x, r, hj, hbefore, hLj, rfl, rfl⟩ | ⟨hall, rfl, rfl⟩
                  · rw [hlK] at hj hbefore hLj ownB ⊢
                    have hrk := rank_of hnx hj
                    obtain ⟨a, ha⟩ : ∃ a, (next + j) % K = a := ⟨_, rfl⟩
                    rw [ha] at hLj ownB hrk ⊢
                    have haK : a < K := by rw [← ha]; exact Nat.mod_lt _ (by omega)
                    have hlow : ∀ y, y < K → rank K next y < rank K next a → lh L y = 0 := fun y hy h => by
                      obtain ⟨h1, h2⟩ := rank_back hnx hy
                      have := hbefore _ (by rw [← hrk]; exact h)
                      rw [h1] at this
                      rw [lh_of this]; rfl
                    have hE0 : Ent K (fun x y v => entA a 0 x y (lh L y) (rank K next x) (rank K next y) v) W := hE.out.mono fun x y v _ _ h => entA_start h
                    have hxr := hL.out.2 _ (List.mem_of_getElem? hLj)
                    have HL2 : Hid ((L.set a r).length = K ∧ ∀ ys, ys ∈ L.set a r → (ys.length : Int) ≤ 64) := ⟨by rw [List.length_set]; exact hlK, mem_set hL.out.2 (by simp only [List.length_cons] at hxr; omega)⟩
                    have HB0 := ownB.swap
                    obtain ⟨gh, oh, rfl, hcA, -⟩ := HB0.cell (ints_get (lens_get hLj))
                    have HB := Lib.hid HB0
                    have HE := Lib.hid hE0
                    have HLow := Lib.hid hlow
                    have HLj := Lib.hid hLj
                    have hr1 : ((((x :: r).length : Nat) : Int) == 0) = false := by simp; omega
                    have hr1' : ((r.length : Int) + 1 == 0) = false := by simp; omega
                    clear hE hE0 hlow hLj ownB HB0 hbefore hrk ha hx64 HO2 hxr hj
                    simp only [List.length_cons] at hcA
                    go_wp2
                    go_loopw [15] (fun ta wx => ∃ (b : Nat) (W : List (List Int)), b ≤ K ∧ ta = .int .i64 b ∧ Own (fun _ => False) w1 wx [SP.row 3 1 (.slice (some ⟨gh, oh, none⟩) K ch) (ints (lens L)), SP.lanesi g (((a + 1 : Nat) : Int)) 64 (L.set a r), fairMat mb K W] ∧ Hid (Ent K (fun x y v => entA a b x y (lh L y) (rank K next x) (rank K next y) v) W)) (fun ta _ => K - (intOf ta).toNat)
                    case atStart => exact ⟨0, W, Nat.zero_le _, rfl, HB.out, HE.out⟩
                    case round =>
                      obtain ⟨b, W', hb, rfl, hown, hE⟩ := hrel
                      clear HB HE hcA
                      by_cases hbK : b < K
                      · obtain ⟨rb, vb, hrb, hvb, hlb, hPb⟩ := hE.out.get hbK haK
                        obtain ⟨g1, o1, c1, hc1, hc2, hf2, hst⟩ := (hown.front 2 rfl).mat_cell (k := b) (xs := ints rb) (j := a) (by rw [List.getElem?_map, hrb]; rfl) (ints_get hvb)
                        rw [Nat.zero_add, ints_length, hlb] at hc1
                        have hE1 := hE.out.set (P' := fun x y v => entB a b x y (lh L y) (rank K next x) (rank K next y) v) (x := b) (y := a) (u := 0) hrb (fun x' y' v _ _ hn h => entA_B h hn) entB_zero
                        have hst0 := hst (.int .i64 0)
                        rw [show (ints rb).set a (.int .i64 0) = ints (rb.set a 0) by simp [ints, List.map_set], ← List.map_set] at hst0
                        have HS := Lib.hid (hst0.perm (show [_, _, _].Perm [SP.row 3 1 (.slice (some ⟨gh, oh, none⟩) K ch) (ints (lens L)), SP.lanesi g (((a + 1 : Nat) : Int)) 64 (L.set a r), fairMat mb K (W'.set b (rb.set a 0))] from (List.Perm.swap _ _ _).trans (List.Perm.cons _ (List.Perm.swap _ _ _))))
                        have HE1 := Lib.hid hE1
                        clear hrb hvb hPb hE hst hst0 hE1 hown
                        go_upto_region 30 with (fail)
                        go_cut [] (fun wx => ∃ W : List (List Int), Own (fun _ => False) w1 wx [SP.row 3 1 (.slice (some ⟨gh, oh, none⟩) K ch) (ints (lens L)), SP.lanesi g (((a + 1 : Nat) : Int)) 64 (L.set a r), fairMat mb K W] ∧ Hid (Ent K (fun x y v => entB a b x y (lh L y) (rank K next x) (rank K next y) v) W))
                        case first =>
                          go_wp2
                          go_meet
                          exact ⟨_, HS.out, HE1.out⟩
                        case rest =>
                          obtain ⟨W2, hown, hE⟩ := hcut
                          clear HS HE1 hc1 hc2 hf2 W' hlb
                          obtain ⟨ys, hys⟩ : ∃ ys, L[b]? = some ys := ⟨_, List.getElem?_eq_getElem (by rw [hL.out.1]; exact hbK)⟩
                          have hlh := lh_of hys
                          obtain ⟨gh', oh', eh, hch, -⟩ := hown.cell (ints_get (lens_get hys))
                          injection eh with eh
                          injection eh with eh1 eh2
                          subst eh1 eh2
                          obtain ⟨ra, va, hra, hva, hla, hPa⟩ := hE.out.get haK hbK
                          obtain ⟨g3, o3, c3, hd1, hd2, hdf, hst⟩ := (hown.front 2 rfl).mat_cell (k := a) (xs := ints ra) (j := b) (by rw [List.getElem?_map, hra]; rfl) (ints_get hva)
                          rw [Nat.zero_add, ints_length, hla] at hd1
                          by_cases hba : b = a
                          · have q1 : ((b : Int) != (a : Int)) = false := by simp; omega
                            have hE2 := Lib.hid (hE.out.mono (P' := fun x y v => entA a (b + 1) x y (lh L y) (rank K next x) (rank K next y) v) fun x y v _ _ h => entB_A h (.inr (.inl hba.symm)))
                            have HO := Lib.hid hown
                            clear hE hown hst hPa hra hva hba hd1 hd2 hdf hch
                            go_wp2
                            go_roundw
                            case rel => exact ⟨b + 1, W2, by omega, by go_num, HO.out, hE2.out⟩
                            case measure => simp [intOf]; omega
                          · have q1 : ((b : Int) != (a : Int)) = true := by simp; omega
                            by_cases hh0 : ys.length = 0
                            · have q2 : decide (0 < ys.length) = false := decide_eq_false (by omega)
                              have q3 : decide (1 < va) = false := by have := (entB_le hPa).2; simp; omega
                              have q4 : ¬ 0 < ys.length := by omega
                              have hE2 := Lib.hid (hE.out.mono (P' := fun x y v => entA a (b + 1) x y (lh L y) (rank K next x) (rank K next y) v) fun x y v _ _ h => entB_A h (by
                                by_cases hyb : y = b
                                · exact .inr (.inr (by rw [hyb]; exact hlh.trans hh0))
                                · exact .inl (fun hh => hyb hh.2)))
                              have HO := Lib.hid hown
                              clear hE hown hst hPa hra hva hba hdf hh0 hlh
                              go_wp2
                              go_roundw
                              case rel => exact ⟨b + 1, W2, by omega, by go_num, HO.out, hE2.out⟩
                              case measure => simp [intOf]; omega
                            · have q2 : decide (0 < ys.length) = true := decide_eq_true (by omega)
                              have q4 : 0 < ys.length := by omega
                              have hv0 : va = 0 := entB_row hPa hba (fun hne hlt => hne (HLow.out _ hbK hlt)) (by omega)
                              subst hv0
                              have hE2 := Lib.hid (hE.out.set (P' := fun x y v => entA a (b + 1) x y (lh L y) (rank K next x) (rank K next y) v) (x := a) (y := b) (u := 1) hra (fun x' y' v _ _ hn h => entB_A h (.inl hn)) (entA_one hba))
                              have hst0 := hst (.int .i64 1)
                              rw [show (ints ra).set b (.int .i64 1) = ints (ra.set b 1) by simp [ints, List.map_set], ← List.map_set] at hst0
                              obtain ⟨g4, o4, c4, hf1, hf2, -, -⟩ := hst0.mat_cell (k := a) (xs := ints (ra.set b 1)) (j := b) (u0 := .int .i64 1) (by rw [List.getElem?_map, List.getElem?_set_self (lt_of_some hra)]; rfl) (ints_get (List.getElem?_set_self (lt_of_some hva)))
                              rw [Nat.zero_add, ints_length, List.length_set, hla] at hf1
                              have HS := Lib.hid (hst0.perm (show [_, _, _].Perm [SP.row 3 1 (.slice (some ⟨gh, oh, none⟩) K ch) (ints (lens L)), SP.lanesi g (((a + 1 : Nat) : Int)) 64 (L.set a r), fairMat mb K (W2.set a (ra.set b 1))] from (List.Perm.swap _ _ _).trans (List.Perm.cons _ (List.Perm.swap _ _ _))))
                              clear hE hown hst hst0 hPa hra hva hba hh0 hlh
                              go_wp2
                              go_roundw
                              case rel => exact ⟨b + 1, _, by omega, by go_num, HS.out, hE2.out⟩
                              case measure => simp [intOf]; omega
                      · have hbb : K = b := by omega
                        subst hbb
                        have hE1 : Ent K (fun x y v => entG 0 0 x y (lh L y) (rank K (a + 1) x) (rank K (a + 1) y) v) W' := hE.out.mono fun x y v hx hy h => entG_start (entA_F hnx haK hx hy h (HLow.out _ hy))
                        have HO := Lib.hid hown
                        have HE := Lib.hid hE1
                        clear hown hE hE1 HLow HLj hb hbK
                        go_wp2
                        go_loopw [16] (fun ta wx => ∃ (x0 : Nat) (W : List (List Int)), x0 ≤ K ∧ ta = .int .i64 x0 ∧ Own (fun _ => False) w1 wx [SP.row 3 1 (.slice (some ⟨gh, oh, none⟩) K ch) (ints (lens L)), SP.lanesi g (((a + 1 : Nat) : Int)) 64 (L.set a r), fairMat mb K W] ∧ Hid (Ent K (fun x y v => entG x0 0 x y (lh L y) (rank K (a + 1) x) (rank K (a + 1) y) v) W)) (fun ta _ => K - (intOf ta).toNat)
                        case atStart => exact ⟨0, W', Nat.zero_le _, rfl, HO.out, HE.out⟩
                        case round =>
                          obtain ⟨x0, W3, hx0, rfl, hown, hE⟩ := hrel
                          clear HO HE W'
                          have HO := Lib.hid hown
                          clear hown
                          by_cases hxK : x0 < K
                          · go_wp2
                            go_loopw [17] (fun ta wx => ∃ (y0 : Nat) (W : List (List Int)), y0 ≤ K ∧ ta = .int .i64 y0 ∧ Own (fun _ => False) w1 wx [SP.row 3 1 (.slice (some ⟨gh, oh, none⟩) K ch) (ints (lens L)), SP.lanesi g (((a + 1 : Nat) : Int)) 64 (L.set a r), fairMat mb K W] ∧ Hid (Ent K (fun x y v => entG x0 y0 x y (lh L y) (rank K (a + 1) x) (rank K (a + 1) y) v) W)) (fun ta _ => K - (intOf ta).toNat)
                            case atStart => exact ⟨0, W3, Nat.zero_le _, rfl, HO.out, hE.out⟩
                            case round =>
                              obtain ⟨y0, W4, hy0, rfl, hown, hE4⟩ := hrel
                              clear HO hE W3
                              by_cases hyK : y0 < K
                              · obtain ⟨ys, hys⟩ : ∃ ys, L[y0]? = some ys := ⟨_, List.getElem?_eq_getElem (by rw [hL.out.1]; exact hyK)⟩
                                have hlh := lh_of hys
                                obtain ⟨gh', oh', eh, hch, -⟩ := hown.cell (ints_get (lens_get hys))
                                injection eh with eh
                                injection eh with eh1 eh2
                                subst eh1 eh2
                                obtain ⟨ra, va, hra, hva, hla, hPa⟩ := hE4.out.get hxK hyK
                                obtain ⟨g3, o3, c3, hd1, hd2, hdf, hst⟩ := (hown.front 2 rfl).mat_cell (k := x0) (xs := ints ra) (j := y0) (by rw [List.getElem?_map, hra]; rfl) (ints_get hva)
                                rw [Nat.zero_add, ints_length, hla] at hd1
                                by_cases hh0 : ys.length = 0
                                · have q2 : ((ys.length : Int) == 0) = true := by rw [hh0]; rfl
                                  have hE2 := Lib.hid (hE4.out.set (P' := fun x y v => entG x0 (y0 + 1) x y (lh L y) (rank K (a + 1) x) (rank K (a + 1) y) v) (x := x0) (y := y0) (u := 0) hra (fun x' y' v _ _ hn h => entG_next h (.inl hn)) entG_zero)
                                  have hst0 := hst (.int .i64 0)
                                  rw [show (ints ra).set y0 (.int .i64 0) = ints (ra.set y0 0) by simp [ints, List.map_set], ← List.map_set] at hst0
                                  have HS := Lib.hid (hst0.perm (show [_, _, _].Perm [SP.row 3 1 (.slice (some ⟨gh, oh, none⟩) K ch) (ints (lens L)), SP.lanesi g (((a + 1 : Nat) : Int)) 64 (L.set a r), fairMat mb K (W4.set x0 (ra.set y0 0))] from (List.Perm.swap _ _ _).trans (List.Perm.cons _ (List.Perm.swap _ _ _))))
                                  clear hE4 hown hst hst0 hPa hra hva hlh
                                  go_wp2
                                  go_roundw
                                  case rel => exact ⟨y0 + 1, _, by omega, by go_num, HS.out, hE2.out⟩
                                  case measure => simp [intOf]; omega
                                · have q2 : ((ys.length : Int) == 0) = false := by simp; intro h; subst h; simp at hh0
                                  have hE2 := Lib.hid (hE4.out.mono (P' := fun x y v => entG x0 (y0 + 1) x y (lh L y) (rank K (a + 1) x) (rank K (a + 1) y) v) fun x y v _ _ h => entG_next h (by
                                    by_cases hyb : y = y0
                                    · exact .inr (by rw [hyb, hlh]; exact hh0)
                                    · exact .inl (fun hh => hyb hh.2)))
                                  have HO := Lib.hid hown
                                  clear hE4 hown hst hPa hra hva hlh hd1 hd2 hdf
                                  go_wp2
                                  go_roundw
                                  case rel => exact ⟨y0 + 1, W4, by omega, by go_num, HO.out, hE2.out⟩
                                  case measure => simp [intOf]; omega
                              · have hyy : K = y0 := by omega
                                subst hyy
                                have hE2 := Lib.hid (hE4.out.mono (P' := fun x y v => entG (x0 + 1) 0 x y (lh L y) (rank K (a + 1) x) (rank K (a + 1) y) v) fun x y v _ hy h => entG_row hy h)
                                have HO := Lib.hid hown
                                clear hown hE4
                                go_wp2
                                go_roundw
                                case rel => exact ⟨x0 + 1, W4, by omega, by go_num, HO.out, hE2.out⟩
                                case measure => simp [intOf]; omega
                          · have hxx : K = x0 := by omega
                            subst hxx
                            have hE2 := Lib.hid (hE.out.mono (P' := fun x y v => entO (rank K (a + 1) x) (rank K (a + 1) y) v) fun x y v hx _ h => entG_end hx h)
                            have HP := Lib.hid HO.out.pop
                            clear hE HO
                            go_wp2
                            go_roundw
                            case rel => exact ⟨i + 1, a + 1, L.set a r, W3, by omega, by go_num, by omega, HP.out, HL2.out, hE2.out⟩
                            case measure => simp [intOf]; omega
                  · have HB := Lib.hid ownB.swap.pop
                    clear ownB hall hx64 HO2
                    go_wp2
                    go_roundw
                    case rel => exact ⟨i + 1, next, L, W, by omega, by go_num, hnx, HB.out, hL.out, hE.out⟩
                    case measure => simp [intOf]; omega
          · obtain rfl : i = ops.length := by omega
            have Ho := Lib.hid hown
            clear hown
            go_wp2
            go_ret
            refine ⟨rfl, ?_⟩
            have := Ho.out.below
            exact Hb.out.1.trans (this.mono Hb.out.1.size)
  · go_enter Try.func5, Try.ntmps5
    go_wp2_with fail
    refine (hf.out).mono ?_
    rintro e w1 ⟨rfl, hb1⟩
    have hb1' := Lib.hid hb1
    clear hb1
    go_wp2
    go_ret
    exact ⟨rfl, hb1'.out⟩
end Go.Proofs.Ytbncicfbgfmekaa

/-
  LaneOrder as a call: it returns true, and what was there stays.
  Conditions: the operations lie in memory as they were handed in; they are at most 140737488351232.
-/
import Derived.Test.YtbncicfbgfmekaaOps
import Derived.Test.YtbncicfbgfmekaaMat
import Derived.Test.YtbncicfbgfmekaaFirst
import Derived.Test.YtbncicfbgfmekaaLaoMore
import Derived.Test.YtbncicfbgfmekaaRises
import Derived.Deep.DeepCutAuto
import Derived.Deep.CutBlock
namespace Go.Proofs.Ytbncicfbgfmekaa
set_option linter.unusedVariables false
set_option linter.unusedSimpArgs false
open Go.RowKit

theorem lane_mod (lane : Int) : 0 ≤ (lane.tmod 8 + 8).tmod 8 ∧ (lane.tmod 8 + 8).tmod 8 ≤ 7 ∧ -7 ≤ lane.tmod 8 ∧ lane.tmod 8 ≤ 7 := by
  have h1 := Int.tmod_lt_of_pos lane (show (0 : Int) < 8 by decide)
  have h2 := Int.lt_tmod_of_pos lane (show (0 : Int) < 8 by decide)
  have h3 : (lane.tmod 8 + 8).tmod 8 = (lane.tmod 8 + 8) % 8 := Int.tmod_eq_emod_of_nonneg (by omega)
  rw [h3]
  omega

theorem lane_modK (lane : Int) (K : Nat) (hK : 1 ≤ K) : 0 ≤ (lane.tmod K + K).tmod K ∧ (lane.tmod K + K).tmod K < K ∧ -(K : Int) < lane.tmod K ∧ lane.tmod K < K ∧ (lane.tmod K + K).tmod K = (lane.tmod K + K) % K := by
  have h1 := Int.tmod_lt_of_pos lane (show (0 : Int) < K by omega)
  have h2 := Int.lt_tmod_of_pos lane (show (0 : Int) < K by omega)
  have h3 : (lane.tmod K + K).tmod K = (lane.tmod K + K) % K := Int.tmod_eq_emod_of_nonneg (by omega)
  rw [h3]
  exact ⟨Int.emod_nonneg _ (by omega), Int.emod_lt_of_pos _ (by omega), h2, h1, rfl⟩
theorem lensum_set {L : List (List Int)} : ∀ {k : Nat} {xs : List Int} (ys : List Int), L[k]? = some xs → lensum (L.set k ys) + xs.length = lensum L + ys.length := by
  induction L with
  | nil => intro k xs ys h; simp at h
  | cons z zs ih =>
    intro k xs ys h
    cases k with
    | zero => simp at h; subst h; simp [lensum]; omega
    | succ k =>
      have := ih (k := k) ys (by simpa using h)
      simp only [List.set_cons_succ, lensum, List.map_cons, List.sum_cons] at this ⊢
      omega
theorem lensum_zero {L : List (List Int)} (h : ∀ (k : Nat), k < L.length → L[k]? = some []) : lensum L = 0 := by
  induction L with
  | nil => rfl
  | cons z zs ih =>
    have h0 := h 0 (by simp)
    simp at h0
    subst h0
    have := ih (fun k hk => by simpa using h (k + 1) (by simpa using hk))
    simp only [lensum, List.map_cons, List.sum_cons, List.length_nil] at this ⊢
    omega
theorem all_shift {L : List (List Int)} {next : Nat} (h : ∀ i, i < L.length → L[(next + i) % L.length]? = some []) (k : Nat) (hk : k < L.length) : L[k]? = some [] := by
  obtain ⟨i, hi, he⟩ : ∃ i, i < L.length ∧ (next + i) % L.length = k := by
    refine ⟨(k + (L.length - next % L.length)) % L.length, Nat.mod_lt _ (by omega), ?_⟩
    have h1 : next % L.length < L.length := Nat.mod_lt _ (by omega)
    rw [Nat.add_mod, Nat.mod_mod, ← Nat.add_mod]
    have h2 : next + (k + (L.length - next % L.length)) = k + L.length * (1 + next / L.length) := by
      have := Nat.div_add_mod next L.length
      rw [Nat.mul_add, Nat.mul_one]
      omega
    rw [h2, Nat.add_mul_mod_self_left, Nat.mod_eq_of_lt hk]
  have := h i hi
  rwa [he] at this
theorem lensum_all {L : List (List Int)} {R : Int} (h : ∀ xs, xs ∈ L → (xs.length : Int) ≤ R) (hR : R ≤ 64) (hl : L.length ≤ 8) : lensum L ≤ 512 := by
  have := lensum_bd L (fun xs hx => by have := h xs hx; omega)
  omega
theorem mem_set {L : List (List Int)} {R : Int} {k : Nat} {ys : List Int} (h : ∀ xs, xs ∈ L → (xs.length : Int) ≤ R) (hy : (ys.length : Int) ≤ R) : ∀ xs, xs ∈ L.set k ys → (xs.length : Int) ≤ R := by
  intro xs hx
  rcases List.mem_or_eq_of_mem_set hx with hx | rfl
  · exact h _ hx
  · exact hy

set_option maxRecDepth 100000 in
set_option maxHeartbeats 8000000 in
theorem lorder_calls (w : World) (lanes room : Int) (A : Option Addr) (c : Nat) (ops : List Op3) (hops : Ops w A ops) (hlen : ops.length ≤ 140737488351232) :
    Calls Try.prog 3 #[.int .i64 lanes, .int .i64 room, .slice A ops.length c] w fun e w' => e = .returned (.bool true) ∧ Below w.heap.size w w' := by
  obtain ⟨r1, r2, r3, r4⟩ := room_mod room
  obtain ⟨s1, s2, s3, s4⟩ := lane_mod lanes
  have hf := Lib.hid (first_calls w)
  by_cases hbig : ops.length ≤ 400
  · go_enter Try.func3, Try.ntmps3
    go_wp2_with fail
    refine (hf.out).mono ?_
    rintro e w1 ⟨rfl, hb1⟩
    have o0 := Own.start w1
    go_wp2_with fail
    obtain ⟨R, hR1, hR2, hR3⟩ : ∃ R, room.tmod 64 % 64 + 1 = R ∧ 1 ≤ R ∧ R ≤ 64 := ⟨_, rfl, by omega, by omega⟩
    obtain ⟨K, hK1, hK2, hK3⟩ : ∃ K : Nat, lanes.tmod 8 % 8 + 1 = K ∧ 1 ≤ K ∧ K ≤ 8 := ⟨(lanes.tmod 8 % 8 + 1).toNat, by omega, by omega, by omega⟩
    simp only [hR1, hK1]
    clear hR1 r1 r2 r3 r4 hK1 s1 s2 s3 s4
    refine (SpecAt.use (lnewi_yes w1 K R ⟨by omega, by omega⟩ ⟨hR2, hR3⟩) o0.emp).mono ?_
    rintro e w2 ⟨A', ⟨g, rfl, rfl⟩, o1, -⟩
    have Hb := Lib.hid (And.intro hb1 hops)
    have O1 := Lib.hid o1
    have hmk := fun W => run_make_n (P := Try.prog) 26 30 (.slice none 0 0) 24 Try.underlying26 (by kernel_rfl) rfl K (by omega) (by omega) W
    clear hb1 hops o0 o1
    go_wp2
    obtain ⟨mb, hmb⟩ : ∃ mb, w2.heap.size = mb := ⟨_, rfl⟩
    have O2 := Lib.hid ((O1.out.matNew 30 3 K (by unfold maxLen; omega)).swap)
    rw [hmb] at O2
    simp only [hmb]
    clear hmb hmk O1
    go_loopw [10, 11] (fun ta tb wr => ∃ (i next : Nat) (L : List (List Int)), i ≤ ops.length ∧ ta = .int .i64 ((lensum L : Nat) : Int) ∧ tb = .int .i64 i ∧ next ≤ K ∧ Own (fun _ => False) w1 wr [SP.lanesi g next R L, SP.mat 30 3 (.slice (some ⟨mb, 0, none⟩) K K) (L.map ints)] ∧ Hid (L.length = K ∧ ∀ xs, xs ∈ L → (xs.length : Int) ≤ R)) (fun _ tb _ => ops.length - (intOf tb).toNat)
    case atStart =>
      refine ⟨0, 0, List.replicate K [], Nat.zero_le _, ?_, rfl, Nat.zero_le _, ?_, by simp, ?_⟩
      · rw [lensum_zero (fun k hk => by rw [List.getElem?_replicate, if_pos (by simpa using hk)])]; rfl
      · have := O2.out
        rw [Int.toNat_natCast] at this
        rw [List.map_replicate]
        exact this
      · intro xs hx
        rw [List.mem_replicate] at hx
        rw [hx.2]; simp; omega
    case round =>
      obtain ⟨i, next, L, hi, rfl, rfl, hnx, hown, hL⟩ := hrel
      clear O2
      have hls := lensum_all hL.out.2 hR3 (by rw [hL.out.1]; exact hK3)
      by_cases hin : i < ops.length
      · obtain ⟨o, hoi⟩ : ∃ o, ops[i]? = some o := ⟨_, List.getElem?_eq_getElem hin⟩
        obtain ⟨b, off, rfl, hbl, k0, k1, k2, -⟩ := Hb.out.2 i o hoi
        have HC : ∀ W L, Own (fun _ => False) w1 W L → W.cell? ⟨b, off + i * 3, none⟩ = some (.int .i64 o.kind) ∧ W.cell? ⟨b, off + i * 3 + 2, none⟩ = some (.int .i64 o.lane) := fun W L h => by
          have hbw : Below w.heap.size w W := Hb.out.1.trans (h.below.mono Hb.out.1.size)
          exact ⟨(hbw.cell hbl).trans k0, (hbw.cell hbl).trans k2⟩
        have HC' := Lib.hid HC
        obtain ⟨c0, c2⟩ := HC _ _ hown
        have HO := Lib.hid hown
        clear HC k0 k1 k2 hoi hown
        go_upto_if 53 with (fail)
        go_cut [10] (fun ta wx => ∃ (next : Nat) (L : List (List Int)), ta = .int .i64 ((lensum L : Nat) : Int) ∧ next ≤ K ∧ Own (fun _ => False) w1 wx [SP.lanesi g next R L, SP.mat 30 3 (.slice (some ⟨mb, 0, none⟩) K K) (L.map ints)] ∧ Hid (L.length = K ∧ ∀ xs, xs ∈ L → (xs.length : Int) ≤ R))
        case first =>
          by_cases hk0 : o.kind = 0
          · have hk' : (o.kind == 0) = true := by simp [hk0]
            clear hk0
            obtain ⟨m1, m2, m3, m4, m5⟩ := lane_modK o.lane K hK2
            have m6 : (o.lane.tmod K + K) % K = o.lane.tmod K % K := Int.add_emod_right _ _
            obtain ⟨k, hk⟩ : ∃ k : Nat, o.lane.tmod K % K = k := ⟨(o.lane.tmod K % K).toNat, by omega⟩
            have hkK : k < K := by omega
            obtain ⟨xs, hxs⟩ : ∃ xs, L[k]? = some xs := ⟨_, List.getElem?_eq_getElem (by rw [hL.out.1]; exact hkK)⟩
            have hxR := hL.out.2 xs (List.mem_of_getElem? hxs)
            have hrow := Lib.hid hxs
            by_cases q1 : (xs.length : Int) < R
            · have sp : ∀ W, SpecAt Try.prog 13 #[.pointer (some ⟨g, 0, none⟩), .int .i64 k, .int .i64 i] W (SP.lanesi g next R L) fun e A' => e = .returned (.bool true) ∧ A' = SP.lanesi g next R (L.set k (xs ++ [(i : Int)])) := fun W => by
                have := lputi_in W g next R L k xs i hxs (by omega) hR3 hxR
                rwa [show decide ((xs.length : Int) < R) = true by simpa using q1, if_pos q1] at this
              have Sp := Lib.hid sp
              clear sp hxs
              go_wp2_with fail
              try simp only [hk]
              clear hk m1 m2 m3 m4 m5 m6
              refine (SpecAt.use (Sp.out _) HO.out).mono ?_
              rintro e wB ⟨A', ⟨rfl, rfl⟩, ownB, -⟩
              obtain ⟨vs, Ax, cx, hvl, hxc, hcm, hvk, ownM, hback⟩ := ownB.swap.mat_at (k := k) (xs := ints xs) (by rw [List.getElem?_map, hrow.out]; rfl)
              rw [ints_length] at hvk ownM hxc
              obtain ⟨gv, ov, ev, hcv, hfv⟩ := ownM.swap.cell hvk
              injection ev with ev
              injection ev with ev1 ev2
              subst ev1 ev2
              rw [Nat.zero_add] at hcv hfv
              obtain ⟨T, hrT, hbackT⟩ := ownM.grow1 #[.int .i64 i] 3
              have HG := Lib.hid (And.intro hrT (And.intro hbackT hback))
              have HM := Lib.hid (And.intro ownM hvl)
              clear ownB hrT hback hbackT ownM hvl
              go_wp2_with (at_builtin; refine wpList_append_row rfl (.tmp 74) (.tmp 76) 30 rfl 3 (.int .i64 0) 1 8 Try.underlying30 Try.info3 rfl (by decide) rfl (by rw [ints_length, Nat.mul_one]) HG.out.1 _ 1 1 [.int .i64 i] rfl rfl (rd_one _ _ _) (ints_one (xs := [(i : Int)])) (by unfold maxLen; omega) (by omega) ?_)
              rintro A3 c3 w3 - hk3 hr3
              have hF := HG.out.2.1 _ _ hk3 hr3
              obtain ⟨gv, ov, ev, hcv3, hfv3⟩ := hF.swap.cell hvk
              injection ev with ev
              injection ev with ev1 ev2
              subst ev1 ev2
              have hvk' : k < vs.length := (List.getElem?_eq_some_iff.1 hvk).1
              have hS := (hF.swap.store hvk' (.slice A3 (xs.length + 1) c3)).swap
              rw [Nat.zero_add] at hcv3 hfv3 hS
              have HF := Lib.hid (HG.out.2.2 _ _ _ hS).swap
              have hset := Lib.hid (lensum_set (xs ++ [(i : Int)]) hrow.out)
              clear hk3 hr3 hF hS hvk'
              go_wp2
              go_meet
              refine ⟨next, L.set k (xs ++ [(i : Int)]), ?_, hnx, ?_, by rw [List.length_set]; exact hL.out.1, mem_set hL.out.2 (by simp; omega)⟩
              · have h := hset.out
                rw [List.length_append] at h
                simp at h
                rw [show lensum (L.set k (xs ++ [(i : Int)])) = lensum L + 1 by omega]
                go_num
              · rw [List.map_set, ints_append]
                exact HF.out
            · have q2 : (xs.length : Int) = R := by omega
              have sp : ∀ W, SpecAt Try.prog 13 #[.pointer (some ⟨g, 0, none⟩), .int .i64 k, .int .i64 i] W (SP.lanesi g next R L) fun e A' => e = .returned (.bool false) ∧ A' = SP.lanesi g next R L := fun W => by
                have := lputi_in W g next R L k xs i hxs (by omega) hR3 hxR
                rw [show decide ((xs.length : Int) < R) = false by simpa using q1, if_neg q1] at this
                rwa [set_same hxs] at this
              have Sp := Lib.hid sp
              clear sp hxs
              go_wp2_with fail
              try simp only [hk]
              clear hk m1 m2 m3 m4 m5 m6
              refine (SpecAt.use (Sp.out _) HO.out).mono ?_
              rintro e wB ⟨A', ⟨rfl, rfl⟩, ownB, -⟩
              obtain ⟨vs, Ax, cx, hvl, hxc, hcm, hvk, ownM, hback⟩ := ownB.swap.mat_at (k := k) (xs := ints xs) (by rw [List.getElem?_map, hrow.out]; rfl)
              rw [ints_length] at hvk ownM hxc
              obtain ⟨gv, ov, ev, hcv, hfv⟩ := ownM.swap.cell hvk
              injection ev with ev
              injection ev with ev1 ev2
              subst ev1 ev2
              rw [Nat.zero_add] at hcv hfv
              have HB := Lib.hid ownB
              have q3 : ((xs.length : Int) != R) = false := by simpa using q2
              clear ownB ownM hback hvl q2
              go_wp2
              go_meet
              exact ⟨next, L, rfl, hnx, HB.out, hL.out⟩
          · have hk' : (o.kind == 0) = false := by simp [hk0]
            clear hk0
            have hx64 : ∀ xs, xs ∈ L → xs.length ≤ 64 := fun xs hx => by have := hL.out.2 xs hx; omega
            have hlK : L.length = K := hL.out.1
            have Sp := Lib.hid (fun W => ltakei_spec W g next R L (by omega) (by omega) (by omega) hx64)
            go_wp2_with fail
            refine (SpecAt.use (Sp.out _) HO.out).mono ?_
            rintro e wB ⟨A', hpost, ownB, -⟩
            rcases hpost with ⟨j, x, r, hj, hbefore, hLj, rfl, rfl⟩ | ⟨hall, rfl, rfl⟩
            · rw [hlK] at hLj ownB ⊢
              obtain ⟨k, hk⟩ : ∃ k, (next + j) % K = k := ⟨_, rfl⟩
              rw [hk] at hLj ownB ⊢
              have hkK : k < K := by rw [← hk]; exact Nat.mod_lt _ (by omega)
              have hset := lensum_set r hLj
              have hxr := hL.out.2 _ (List.mem_of_getElem? hLj)
              simp only [List.length_cons] at hset hxr
              have hpos : 0 < lensum L := by omega
              obtain ⟨vs, Ax, cx, hvl, hxc, hcm, hvk, ownM, hback⟩ := ownB.swap.mat_at (k := k) (xs := ints (x :: r)) (by rw [List.getElem?_map, hLj]; rfl)
              rw [ints_length] at hvk ownM hxc
              obtain ⟨gv, ov, ev, hcv, hfv⟩ := ownM.swap.cell hvk
              injection ev with ev
              injection ev with ev1 ev2
              subst ev1 ev2
              rw [Nat.zero_add] at hcv hfv
              obtain ⟨gx, ox, rfl, hcx, hfx⟩ := ownM.cell (j := 0) (u := .int .i64 x) rfl
              rw [Nat.add_zero] at hcx
              have hcut := ownM.cutLit (k := 1) (by simp) hxc (ints_length _)
              have hvk' : k < vs.length := (List.getElem?_eq_some_iff.1 hvk).1
              have key : ∀ u, Own (fun _ => False) w1 wB (SP.row 3 1 u (ints r) :: SP.row 30 1 (.slice (some ⟨mb, 0, none⟩) K K) vs :: SP.stars ((inner 3 vs (L.map ints)).eraseIdx k) :: [SP.lanesi g (((k + 1 : Nat) : Int)) R (L.set k r)]) → Own (fun _ => False) w1 (wB.setCell ⟨mb, k, none⟩ u) [SP.lanesi g (((k + 1 : Nat) : Int)) R (L.set k r), SP.mat 30 3 (.slice (some ⟨mb, 0, none⟩) K K) ((L.set k r).map ints)] := fun u hu => by
                have h1 := hu.swap.store hvk' u
                rw [Nat.zero_add] at h1
                have h2 := hback _ _ _ h1.swap
                rw [List.map_set]
                exact h2.swap
              have hS := Lib.hid (And.intro hset (And.intro hxr hLj))
              have hd1 : decide (0 < (lensum L : Int)) = true := by simpa using hpos
              have hl1 : ((r.length : Int) + 1 == 0) = false := by simp; omega
              have hdr : (ints (x :: r)).drop 1 = ints r := rfl
              rw [List.length_cons, Nat.add_sub_cancel, hdr] at hcut
              simp only [List.length_cons] at hvk hcv hxc
              clear hset hxr hLj ownB ownM hback hk hdr hx64 c0 c2 HO
              by_cases hck : cx = 1
              · rw [if_pos hck, show cx - 1 = 0 by omega] at hcut
                have HF := Lib.hid (key _ hcut)
                clear key hcut
                go_wp2
                go_meet
                refine ⟨k + 1, L.set k r, ?_, by omega, ?_, by rw [List.length_set]; exact hlK, mem_set hL.out.2 (by have := hS.out.2.1; omega)⟩
                · rw [show (lensum (L.set k r)) = lensum L - 1 by have := hS.out.1; omega]
                  go_num
                · exact HF.out
              · rw [if_neg hck] at hcut
                have HF := Lib.hid (key _ hcut)
                clear key hcut
                go_wp2
                go_meet
                refine ⟨k + 1, L.set k r, ?_, by omega, ?_, by rw [List.length_set]; exact hlK, mem_set hL.out.2 (by have := hS.out.2.1; omega)⟩
                · rw [show (lensum (L.set k r)) = lensum L - 1 by have := hS.out.1; omega]
                  go_num
                · exact HF.out
            · have hz := lensum_zero (all_shift hall)
              have HB := Lib.hid ownB
              have hd1 : ¬ 0 < lensum L := by omega
              clear ownB hall hx64 c0 c2 HO hz
              go_wp2
              go_meet
              exact ⟨next, L, rfl, hnx, HB.out, hL.out⟩
        case rest =>
          obtain ⟨next', L', rfl, hnx', hownB, hL'⟩ := hcut
          have hls' := lensum_all hL'.out.2 hR3 (by rw [hL'.out.1]; exact hK3)
          have sp := fun W => llen_spec W g next' R L' (by rw [hL'.out.1]; omega) (fun xs hx => by have := hL'.out.2 xs hx; omega)
          have Sp := Lib.hid sp
          have HB := Lib.hid hownB
          clear sp hownB c0 c2 HO hL hls
          go_wp2_with fail
          refine (SpecAt.use (Sp.out _) HB.out).mono ?_
          rintro e wC ⟨A', ⟨rfl, rfl⟩, ownC, -⟩
          have HC1 := Lib.hid ownC
          clear ownC
          go_wp2
          go_roundw
          case rel => exact ⟨i + 1, next', L', by omega, rfl, by go_num, hnx', HC1.out, hL'.out⟩
          case measure => simp [intOf]; omega
      · obtain rfl : i = ops.length := by omega
        have Ho := Lib.hid hown
        clear hown
        go_wp2
        go_ret
        refine ⟨rfl, ?_⟩
        have := Ho.out.below
        exact Hb.out.1.trans (this.mono Hb.out.1.size)
  · go_enter Try.func3, Try.ntmps3
    go_wp2_with fail
    refine (hf.out).mono ?_
    rintro e w1 ⟨rfl, hb1⟩
    have hb1' := Lib.hid hb1
    clear hb1
    go_wp2
    go_ret
    exact ⟨rfl, hb1'.out⟩
end Go.Proofs.Ytbncicfbgfmekaa

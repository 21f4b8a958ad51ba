/-
  WindowRises as a call: it returns true, and what was there stays.
  Conditions: the operations lie in memory as they were handed in; they are at most 140737488351232.
-/
import Derived.Test.YtbncicfbgfmekaaOps
import Derived.Test.YtbncicfbgfmekaaFirst
import Derived.Test.YtbncicfbgfmekaaSame
import Derived.Deep.DeepCutAuto
namespace Go.Proofs.Ytbncicfbgfmekaa
set_option linter.unusedVariables false
set_option linter.unusedSimpArgs false
open Go.RowKit

theorem tw_gt {n : Int} : ∀ {xs : List Int}, xs.Pairwise (· < ·) → ∀ y, y ∈ xs.drop (winTw xs n) → n < y
  | [], _, y, h => by simp at h
  | x :: xs, hp, y, h => by
    rw [List.pairwise_cons] at hp
    by_cases hx : x ≤ n
    · have e : winTw (x :: xs) n = winTw xs n + 1 := by simp [winTw, List.takeWhile_cons, hx]
      rw [e, List.drop_succ_cons] at h
      exact tw_gt hp.2 y h
    · have e : winTw (x :: xs) n = 0 := by simp [winTw, List.takeWhile_cons, hx]
      rw [e, List.drop_zero] at h
      simp at h
      rcases h with rfl | h
      · omega
      · have := hp.1 y h; omega
theorem tw_zero {n : Int} {ys : List Int} (h : ∀ y, y ∈ ys → n < y) : winTw ys n = 0 := by
  cases ys with
  | nil => rfl
  | cons y ys =>
    have := h y (by simp)
    simp [winTw, List.takeWhile_cons, show ¬ y ≤ n by omega]

theorem win_rise {R : Int} {xs : List Int} {n : Int} (h : winMay R xs n = true) (hp : xs.Pairwise (· < ·)) : (xs ++ [n]).Pairwise (· < ·) ∧ (((xs ++ [n]).length : Nat) : Int) ≤ R := by
  simp only [winMay, Bool.and_eq_true, decide_eq_true_eq] at h
  obtain ⟨h1, h2⟩ := h
  refine ⟨?_, by simp; omega⟩
  rw [List.pairwise_append]
  refine ⟨hp, by simp, ?_⟩
  intro a ha b hb
  simp at hb; subst hb
  rcases List.eq_nil_or_concat xs with rfl | ⟨ys, l, rfl⟩
  · simp at ha
  · rw [List.concat_eq_append] at *
    simp at h2
    simp at ha
    rcases ha with ha | rfl
    · rw [List.pairwise_append] at hp
      have := hp.2.2 a ha l (by simp)
      omega
    · exact h2

set_option maxRecDepth 100000 in
set_option maxHeartbeats 3200000 in
theorem rises_calls (w : World) (room : Int) (A : Option Addr) (c : Nat) (ops : List Op3) (hops : Ops w A ops) (hlen : ops.length ≤ 140737488351232) :
    Calls Try.prog 6 #[.int .i64 room, .slice A ops.length c] w fun e w' => e = .returned (.bool true) ∧ Below w.heap.size w w' := by
  obtain ⟨r1, r2, r3, r4⟩ := room_mod room
  have hf := Lib.hid (first_calls w)
  by_cases hbig : ops.length ≤ 400
  · go_enter Try.func6, Try.ntmps6
    go_wp2_with fail
    refine (hf.out).mono ?_
    rintro e w1 ⟨rfl, hb1⟩
    have o0 := Own.start w1
    go_wp2_with fail
    obtain ⟨R, hR1, hR2, hR3⟩ : ∃ R, room.tmod 64 % 64 + 1 = R ∧ 1 ≤ R ∧ R ≤ 64 := ⟨_, rfl, by omega, by omega⟩
    simp only [hR1]
    clear hR1 r1 r2 r3 r4
    refine (SpecAt.use (newwin_yes w1 R ⟨hR2, hR3⟩) o0.emp).mono ?_
    rintro e w2 ⟨A', ⟨g, rfl, rfl⟩, o1, -⟩
    have Hb := Lib.hid (And.intro hb1 hops)
    clear hb1 hops o0
    go_wp2
    go_loopw [7] (fun t wr => ∃ (i : Nat) (xs : List Int), i ≤ ops.length ∧ t = .int .i64 i ∧ Own (fun _ => False) w1 wr [SP.win g R xs] ∧ Hid ((xs.length : Int) ≤ R ∧ xs.Pairwise (· < ·))) (fun t _ => ops.length - (intOf t).toNat)
    case atStart => exact ⟨0, [], Nat.zero_le _, rfl, o1, by simp; omega, List.Pairwise.nil⟩
    case round =>
      obtain ⟨i, xs, hi, rfl, hown, hxs⟩ := hrel
      clear o1
      by_cases hin : i < ops.length
      · obtain ⟨o, hoi⟩ : ∃ o, ops[i]? = some o := ⟨_, List.getElem?_eq_getElem hin⟩
        obtain ⟨b, off, rfl, hbl, k0, k1, k2, -⟩ := Hb.out.2 i o hoi
        have HC : ∀ W L, Own (fun _ => False) w1 W L → W.cell? ⟨b, off + i * 3, none⟩ = some (.int .i64 o.kind) ∧ W.cell? ⟨b, off + i * 3 + 1, none⟩ = some (.int .i64 o.n) := fun W L h => by
          have hbw : Below w.heap.size w W := Hb.out.1.trans (h.below.mono Hb.out.1.size)
          exact ⟨(hbw.cell hbl).trans k0, (hbw.cell hbl).trans k1⟩
        have HC' := Lib.hid HC
        have hxl : xs.length ≤ 64 := by have := hxs.out.1; omega
        clear HC k0 k1 k2 hoi
        go_wp2_with fail
        refine (SpecAt.use (winitems_spec _ g R xs (by omega)) hown).mono ?_
        rintro e wA ⟨A', ⟨Aw, cw, rfl, rfl⟩, ownA, -⟩
        have ownA' := ownA.flat.pop
        obtain ⟨c0, c1⟩ := HC'.out _ _ ownA'
        have HA := Lib.hid ownA'
        clear ownA ownA' hown
        go_upto_if 45 with (fail)
        go_cut [] (fun wx => ∃ ys : List Int, Own (fun _ => False) w1 wx [SP.win g R ys] ∧ Hid ((ys.length : Int) ≤ R ∧ ys.Pairwise (· < ·) ∧ (o.kind ≠ 0 → ∀ y, y ∈ ys → o.n < y)))
        case first =>
          by_cases hk : o.kind = 0
          · have hk' : (o.kind == 0) = true := by simp [hk]
            have i0 : (0 : Int) ≤ (i : Int) := by omega
            have i1 : (i : Int) < (ops.length : Int) := by omega
            cases hd : winMay R xs o.n
            · have sp : ∀ W, SpecAt Try.prog 25 #[.pointer (some ⟨g, 0, none⟩), .int .i64 o.n] W (SP.win g R xs) fun e A' => e = .returned (.bool false) ∧ A' = SP.win g R xs := fun W => by
                have := winadd_spec W g R xs o.n (by omega)
                rwa [hd] at this
              have Sp := Lib.hid sp
              clear sp hd
              go_wp2_with fail
              refine (SpecAt.use (Sp.out _) HA.out).mono ?_
              rintro e wB ⟨A', ⟨rfl, rfl⟩, ownB, -⟩
              go_wp2_with fail
              refine (SpecAt.use (winitems_spec _ g R xs (by omega)) ownB).mono ?_
              rintro e wC ⟨A', ⟨An, cn, rfl, rfl⟩, ownC, -⟩
              have HC2 := Lib.hid ownC.flat.pop
              clear ownB ownC c0 c1
              have hne : ((xs.length : Int) == (xs.length : Int) + 1) = false := by simp; omega
              go_wp2
              go_quiet (fail)
              go_wp2
              go_meet
              exact ⟨xs, Own.drewN HC2.out _, hxs.out.1, hxs.out.2, fun h => absurd hk h⟩
            · have sp : ∀ W, SpecAt Try.prog 25 #[.pointer (some ⟨g, 0, none⟩), .int .i64 o.n] W (SP.win g R xs) fun e A' => e = .returned (.bool true) ∧ A' = SP.win g R (xs ++ [o.n]) := fun W => by
                have := winadd_spec W g R xs o.n (by omega)
                rwa [hd, if_pos rfl] at this
              have Sp := Lib.hid sp
              have Hr := Lib.hid (win_rise hd hxs.out.2)
              clear sp hd
              go_wp2_with fail
              refine (SpecAt.use (Sp.out _) HA.out).mono ?_
              rintro e wB ⟨A', ⟨rfl, rfl⟩, ownB, -⟩
              go_wp2_with fail
              refine (SpecAt.use (winitems_spec _ g R (xs ++ [o.n]) (by simp; omega)) ownB).mono ?_
              rintro e wC ⟨A', ⟨An, cn, rfl, rfl⟩, ownC, -⟩
              have hy : (xs ++ [o.n]).length = xs.length + 1 := by simp
              rw [hy] at ownC ⊢
              obtain ⟨bn, offn, rfl, _, cl, _⟩ := SP.row_cell ownC.flat.head (j := xs.length) (u := .int .i64 o.n) (by simp [ints])
              obtain ⟨c0', c1'⟩ := HC'.out _ _ ownC
              have HC2 := Lib.hid ownC.flat.pop
              clear ownB ownC c0 c1 hy
              have x0 : (0 : Int) ≤ (xs.length : Int) := by omega
              go_wp2
              go_quiet (fail)
              go_wp2
              go_meet
              exact ⟨xs ++ [o.n], Own.drewN HC2.out _, Hr.out.2, Hr.out.1, fun h => absurd hk h⟩
          · have hk' : (o.kind == 0) = false := by simp [hk]
            obtain ⟨ys, hys⟩ : ∃ ys, xs.drop (winTw xs o.n) = ys := ⟨_, rfl⟩
            have htl := winTw_le xs o.n
            have hyl : ys.length = xs.length - winTw xs o.n := by rw [← hys, List.length_drop]
            have hgt : ∀ y, y ∈ ys → o.n < y := by rw [← hys]; exact tw_gt hxs.out.2
            have hyp : ys.Pairwise (· < ·) := by rw [← hys]; exact List.Pairwise.sublist (List.drop_sublist _ _) hxs.out.2
            have h0 := tw_zero hgt
            have sp1 : ∀ W, SpecAt Try.prog 26 #[.pointer (some ⟨g, 0, none⟩), .int .i64 o.n] W (SP.win g R xs) fun e A' => e = .returned (.int .i64 (winTw xs o.n)) ∧ A' = SP.win g R ys := fun W => by
              have := winfree_spec W g R xs o.n (by omega)
              rwa [hys] at this
            have sp2 : ∀ W, SpecAt Try.prog 26 #[.pointer (some ⟨g, 0, none⟩), .int .i64 o.n] W (SP.win g R ys) fun e A' => e = .returned (.int .i64 0) ∧ A' = SP.win g R ys := fun W => by
              have := winfree_spec W g R ys o.n (by omega)
              rwa [h0, List.drop_zero] at this
            have sp3 := fun W => winitems_spec W g R ys (by omega)
            have Sp := Lib.hid (And.intro sp1 (And.intro sp2 sp3))
            have Hy := Lib.hid (And.intro hyp hgt)
            have Hl := Lib.hid hyl
            obtain ⟨t, ht⟩ : ∃ t, winTw xs o.n = t := ⟨_, rfl⟩
            rw [ht] at Sp Hl htl
            have hyl2 : ys.length ≤ 64 := by have := Hl.out; omega
            have hne : ((t : Int) != (xs.length : Int) - (ys.length : Int)) = false := by have := Hl.out; simp; omega
            clear sp1 sp2 sp3 hyp hgt hys h0 hyl ht
            go_wp2_with fail
            refine (SpecAt.use (Sp.out.1 _) HA.out).mono ?_
            rintro e wB ⟨A', ⟨rfl, rfl⟩, ownB, -⟩
            go_wp2_with fail
            refine (SpecAt.use (Sp.out.2.2 _) ownB).mono ?_
            rintro e wC ⟨A', ⟨An, cn, rfl, rfl⟩, ownC, -⟩
            have ownC2 := ownC.flat.pop
            obtain ⟨c0', c1'⟩ := HC'.out _ _ ownC2
            have HC2 := Lib.hid ownC2
            clear ownB ownC ownC2 c0 c1
            go_wp2_with fail
            refine (SpecAt.use (Sp.out.2.1 _) HC2.out).mono ?_
            rintro e wD ⟨A', ⟨rfl, rfl⟩, ownD, -⟩
            have HD := Lib.hid ownD
            clear ownD
            go_wp2
            go_meet
            exact ⟨ys, HD.out, by have := hxs.out.1; have := Hl.out; omega, Hy.out.1, fun _ => Hy.out.2⟩
        case rest =>
          obtain ⟨ys, ownB, hys⟩ := hcut
          have hyl : ys.length ≤ 64 := by have := hys.out.1; omega
          have hyR : (ys.length : Int) ≤ R := hys.out.1
          go_wp2_with fail
          refine (SpecAt.use (winitems_spec _ g R ys (by omega)) ownB).mono ?_
          rintro e wE ⟨A', ⟨An, cn, rfl, rfl⟩, ownE, -⟩
          have ownE2 := ownE.flat
          obtain ⟨c0', c1'⟩ := HC'.out _ _ ownE2
          have hcell : ∀ k y, ys[k]? = some y → ∃ bn offn, An = some ⟨bn, offn, none⟩ ∧ wE.cell? ⟨bn, offn + k, none⟩ = some (.int .i64 y) := fun k y hk => by
            obtain ⟨bn, offn, e, _, hc, _⟩ := SP.row_cell ownE2.head (j := k) (u := .int .i64 y) (ints_get hk)
            exact ⟨bn, offn, e, hc⟩
          have HE := Lib.hid (And.intro ownE2.pop hcell)
          have i0 : (0 : Int) ≤ (i : Int) := by omega
          have i1 : (i : Int) < (ops.length : Int) := by omega
          clear ownB ownE ownE2 hcell hxs HA c0 c1
          go_wp2
          go_loopw [13] (fun t wr => ∃ k d : Nat, k ≤ ys.length ∧ t = .int .i64 k ∧ wr = wE.drewN d) (fun t _ => ys.length - (intOf t).toNat)
          case atStart => exact ⟨0, 0, Nat.zero_le _, rfl, rfl⟩
          case round =>
            obtain ⟨k, d, hk, rfl, rfl⟩ := hrel
            by_cases hky : k < ys.length
            · obtain ⟨y, hyk⟩ : ∃ y, ys[k]? = some y := ⟨_, List.getElem?_eq_getElem hky⟩
              obtain ⟨bn, offn, rfl, hck⟩ := HE.out.2 k y hyk
              have k0 : (0 : Int) ≤ (k : Int) := by omega
              have k1 : (k : Int) < (ys.length : Int) := by omega
              have hgt : o.kind ≠ 0 → decide (y ≤ o.n) = false := fun h => by
                have := hys.out.2.2 h y (List.mem_of_getElem? hyk)
                simpa using this
              by_cases hk0 : k = 0
              · subst hk0
                rw [Nat.add_zero] at hck
                by_cases hkd : o.kind = 0
                · have hk' : (o.kind != 0) = false := by simp [hkd]
                  clear hgt hyk
                  go_wp2
                  go_quiet (fail)
                  go_wp2
                  go_roundw
                  case rel => exact ⟨1, _, by omega, by go_num, rfl⟩
                  case measure => simp [intOf]; omega
                · have hk' : (o.kind != 0) = true := by simpa using hkd
                  have hg := hgt hkd
                  clear hgt hyk
                  go_wp2
                  go_quiet (fail)
                  go_wp2
                  go_roundw
                  case rel => exact ⟨1, _, by omega, by go_num, rfl⟩
                  case measure => simp [intOf]; omega
              · obtain ⟨j, rfl⟩ : ∃ j, k = j + 1 := ⟨k - 1, by omega⟩
                obtain ⟨z, hzj⟩ : ∃ z, ys[j]? = some z := ⟨_, List.getElem?_eq_getElem (by omega)⟩
                obtain ⟨bn', offn', e, hcj⟩ := HE.out.2 j z hzj
                injection e with e
                injection e with e1 e2
                subst e1 e2
                have hzy : decide (y ≤ z) = false := by
                  have h1 := hys.out.2.1
                  rw [List.pairwise_iff_getElem] at h1
                  have h2 := h1 j (j + 1) (by omega) hky (by omega)
                  rw [List.getElem?_eq_getElem (by omega)] at hzj hyk
                  injection hzj with hzj
                  injection hyk with hyk
                  rw [hzj, hyk] at h2
                  simpa using h2
                have j0 : (0 : Int) ≤ (j : Int) := by omega
                have j1 : (j : Int) < (ys.length : Int) := by omega
                by_cases hkd : o.kind = 0
                · have hk' : (o.kind != 0) = false := by simp [hkd]
                  clear hgt hyk hzj hkd hk0
                  go_wp2
                  go_quiet (fail)
                  go_wp2
                  go_roundw
                  case rel => exact ⟨j + 1 + 1, _, by omega, by go_num, rfl⟩
                  case measure => simp [intOf]; omega
                · have hk' : (o.kind != 0) = true := by simpa using hkd
                  have hg := hgt hkd
                  clear hgt hyk hzj hkd hk0
                  go_wp2
                  go_quiet (fail)
                  go_wp2
                  go_roundw
                  case rel => exact ⟨j + 1 + 1, _, by omega, by go_num, rfl⟩
                  case measure => simp [intOf]; omega
            · obtain rfl : k = ys.length := by omega
              have hgtR : decide ((ys.length : Int) > R) = false := by simp; omega
              have hys' : Hid ((ys.length : Int) ≤ R ∧ ys.Pairwise (· < ·)) := ⟨hys.out.1, hys.out.2.1⟩
              clear hk hys
              by_cases hfe : (ys.length : Int) = R
              · have hfe' : ((ys.length : Int) == R) = true := by simpa using hfe
                have sp : ∀ W, SpecAt Try.prog 27 #[.pointer (some ⟨g, 0, none⟩)] W (SP.win g R ys) fun e A' => e = .returned (.bool true) ∧ A' = SP.win g R ys := fun W => by
                  have := winfull_spec W g R ys
                  rwa [show decide (R ≤ (ys.length : Int)) = true by simp; omega] at this
                have Sp := Lib.hid sp
                clear sp hfe hgtR
                have hgtR : ¬ R < (ys.length : Int) := by omega
                go_wp2_with fail
                refine (SpecAt.use (Sp.out _) (Own.drewN HE.out.1 d)).mono ?_
                rintro e wF ⟨A', ⟨rfl, rfl⟩, ownF, -⟩
                have HF := Lib.hid ownF
                clear ownF
                go_wp2
                go_roundw
                case rel => exact ⟨i + 1, ys, by omega, by go_num, HF.out, hys'⟩
                case measure => simp [intOf]; omega
              · have hfe' : ((ys.length : Int) == R) = false := by simpa using hfe
                have sp : ∀ W, SpecAt Try.prog 27 #[.pointer (some ⟨g, 0, none⟩)] W (SP.win g R ys) fun e A' => e = .returned (.bool false) ∧ A' = SP.win g R ys := fun W => by
                  have := winfull_spec W g R ys
                  rwa [show decide (R ≤ (ys.length : Int)) = false by simp; omega] at this
                have Sp := Lib.hid sp
                clear sp hfe hgtR
                have hgtR : ¬ R < (ys.length : Int) := by omega
                go_wp2_with fail
                refine (SpecAt.use (Sp.out _) (Own.drewN HE.out.1 d)).mono ?_
                rintro e wF ⟨A', ⟨rfl, rfl⟩, ownF, -⟩
                have HF := Lib.hid ownF
                clear ownF
                go_wp2
                go_roundw
                case rel => exact ⟨i + 1, ys, by omega, by go_num, HF.out, hys'⟩
                case measure => simp [intOf]; omega
      · obtain rfl : i = ops.length := by omega
        have Ho := Lib.hid hown
        clear hown
        go_wp2
        go_ret
        refine ⟨rfl, ?_⟩
        have := Ho.out.below
        exact Hb.out.1.trans (this.mono Hb.out.1.size)
  · go_enter Try.func6, Try.ntmps6
    go_wp2_with fail
    refine (hf.out).mono ?_
    rintro e w1 ⟨rfl, hb1⟩
    have hb1' := Lib.hid hb1
    clear hb1
    go_wp2
    go_ret
    exact ⟨rfl, hb1'.out⟩
end Go.Proofs.Ytbncicfbgfmekaa

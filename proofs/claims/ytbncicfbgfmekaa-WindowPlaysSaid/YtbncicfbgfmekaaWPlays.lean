/-
  WindowPlays as a call: it returns true, and what was there stays.
  Conditions: the operations lie in memory as they were handed in; they are at most 140737488351232.
-/
import Derived.Test.YtbncicfbgfmekaaOps
import Derived.Test.YtbncicfbgfmekaaOwnOps
import Derived.Test.YtbncicfbgfmekaaFirst
import Derived.Test.YtbncicfbgfmekaaSame
import Derived.Deep.DeepCutAuto
import Derived.Deep.CutBlock
namespace Go.Proofs.Ytbncicfbgfmekaa
set_option linter.unusedVariables false
set_option linter.unusedSimpArgs false
open Go.RowKit

theorem winMay_len {R : Int} {xs : List Int} {n : Int} (h : winMay R xs n = true) : (xs.length : Int) < R := by
  simp only [winMay, Bool.and_eq_true, decide_eq_true_eq] at h
  exact h.1

set_option maxRecDepth 100000 in
set_option maxHeartbeats 8000000 in
theorem wplays_calls (w : World) (R : Int) (A : Option Addr) (c : Nat) (ops : List Op3) (hops : Ops w A ops) (hlen : ops.length ≤ 140737488351232) :
    Calls Try.prog 7 #[.int .i64 R, .slice A ops.length c] w fun e w' => e = .returned (.bool true) ∧ Below w.heap.size w w' := by
  have hf := Lib.hid (first_calls w)
  by_cases hgood : 1 ≤ R ∧ R ≤ 64
  · obtain ⟨hR2, hR3⟩ := hgood
    by_cases hbig : ops.length ≤ 400
    · go_enter Try.func7, Try.ntmps7
      go_wp2_with fail
      refine (hf.out).mono ?_
      rintro e w1 ⟨rfl, hb1⟩
      have o0 := Own.start w1
      go_wp2_with fail
      refine (SpecAt.use (newwin_yes w1 R ⟨hR2, hR3⟩) o0.emp).mono ?_
      rintro e w2 ⟨A', ⟨g, rfl, rfl⟩, o1, -⟩
      have Hb := Lib.hid (And.intro hb1 hops)
      have o2 := Lib.hid ((o1.add (B := SP.row 3 1 (.slice none 0 0) (ints [])) (SP.row_nil _ _ _ _)).swap)
      clear hb1 hops o0 o1
      go_wp2
      go_loopw [8, 9] (fun t8 t wr => ∃ (i : Nat) (xs : List Int) (Al : Option Addr) (cl : Nat), i ≤ ops.length ∧ t8 = .slice Al xs.length cl ∧ t = .int .i64 i ∧ Own (fun _ => False) w1 wr [SP.win g R xs, SP.row 3 1 (.slice Al xs.length cl) (ints xs)] ∧ Hid ((xs.length : Int) ≤ R)) (fun _ t _ => ops.length - (intOf t).toNat)
      case atStart => exact ⟨0, [], none, 0, Nat.zero_le _, rfl, rfl, o2.out, show (((ints []).length : Nat) : Int) ≤ R by simp [ints]; omega⟩
      case round =>
        obtain ⟨i, xs, Al, cl, hi, rfl, rfl, hown, hxs⟩ := hrel
        clear o2
        by_cases hin : i < ops.length
        · obtain ⟨o, hoi⟩ : ∃ o, ops[i]? = some o := ⟨_, List.getElem?_eq_getElem hin⟩
          obtain ⟨b, off, rfl, hbl, k0, k1, k2, -⟩ := Hb.out.2 i o hoi
          have HC : ∀ W L, Own (fun _ => False) w1 W L → W.cell? ⟨b, off + i * 3, none⟩ = some (.int .i64 o.kind) ∧ W.cell? ⟨b, off + i * 3 + 1, none⟩ = some (.int .i64 o.n) := fun W L h => by
            have hbw : Below w.heap.size w W := Hb.out.1.trans (h.below.mono Hb.out.1.size)
            exact ⟨(hbw.cell hbl).trans k0, (hbw.cell hbl).trans k1⟩
          have HC' := Lib.hid HC
          have hxl : xs.length ≤ 64 := by have := hxs.out; omega
          obtain ⟨c0, c1⟩ := HC _ _ hown
          have hcl := (hown.swap.row_le (by decide) (by rw [ints_length, Nat.mul_one]))
          unfold maxLen at hcl
          obtain ⟨hcl1, hcl2⟩ := hcl
          have HO := Lib.hid hown
          clear HC k0 k1 k2 hoi hown
          go_upto_block 2 with (fail)
          go_cut [8] (fun t8 wx => ∃ (ys : List Int) (A2 : Option Addr) (c2 : Nat), t8 = .slice A2 ys.length c2 ∧ Own (fun _ => False) w1 wx [SP.win g R ys, SP.row 3 1 (.slice A2 ys.length c2) (ints ys)] ∧ Hid ((ys.length : Int) ≤ R))
          case first =>
            by_cases hk0 : o.kind = 0
            · have hk' : (o.kind == 0) = true := by simp [hk0]
              clear hk0
              by_cases q1 : (xs.length : Int) < R
              · rcases List.eq_nil_or_concat xs with rfl | ⟨zs, l, rfl⟩
                · simp only [List.length_nil] at *
                  have hm : winMay R [] o.n = true := by simp [winMay]; simpa using q1
                  have hspec : ∀ W, SpecAt Try.prog 25 #[.pointer (some ⟨g, 0, none⟩), .int .i64 o.n] W (SP.win g R ([] : List Int)) fun e A' => e = .returned (.bool true) ∧ A' = SP.win g R (([] : List Int) ++ [o.n]) := fun W => by
                    have := winadd_spec W g R ([] : List Int) o.n (by first | omega | (simp; done) | (simp; omega))
                    rwa [hm, if_pos rfl] at this
                  have HS := Lib.hid hspec
                  clear hspec hm
                  go_wp2_with fail
                  refine (SpecAt.use (HS.out _) HO.out).mono ?_
                  rintro e wB ⟨A', ⟨rfl, rfl⟩, ownB, -⟩
                  obtain ⟨T, hrT, hback⟩ := ownB.swap.grow1 #[.int .i64 o.n] 3
                  have HG := Lib.hid (And.intro hrT hback)
                  clear ownB hrT hback
                  go_wp2_with (at_builtin; refine wpList_append_row rfl (.tmp 84) (.tmp 86) 30 rfl 3 (.int .i64 0) 1 8 Try.underlying30 Try.info3 rfl (by decide) rfl (by simp [ints]) HG.out.1 _ 1 1 [.int .i64 o.n] rfl rfl (rd_one _ _ _) (ints_one (xs := [o.n])) (by unfold maxLen; omega) (by omega) ?_)
                  rintro A3 c3 w3 - hk3 hr3
                  have HF := Lib.hid (HG.out.2 _ _ hk3 hr3).swap
                  clear hk3 hr3
                  go_wp2
                  go_meet
                  refine ⟨([] : List Int) ++ [o.n], A3, c3, by simp, ?_, ?_⟩
                  · have hi : ints (([] : List Int) ++ [o.n]) = ints ([] : List Int) ++ [.int .i64 o.n] := by simp [ints]
                    have hl : (([] : List Int) ++ [o.n]).length = 0 + 1 := by simp
                    rw [hi, hl]
                    exact HF.out
                  · show (((([] : List Int) ++ [o.n]).length : Nat) : Int) ≤ R
                    simp
                    omega
                · rw [List.concat_eq_append] at *
                  have hn1 : (zs ++ [l]).length = zs.length + 1 := by simp
                  rw [hn1] at q1 hxl hcl1 HO
                  obtain ⟨gb, gof, rfl, hlast, _⟩ := Own.cell HO.out.swap (j := zs.length) (u := .int .i64 l) (by simp [ints])
                  have hz0 : (((zs.length + 1 : Nat) : Int) == 0) = false := by simp; omega
                  have hz1 : (0 : Int) ≤ (zs.length : Int) := by omega
                  by_cases q2 : l < o.n
                  · have hm : winMay R (zs ++ [l]) o.n = true := by simp [winMay, q2]; omega
                    clear hn1
                    have hspec : ∀ W, SpecAt Try.prog 25 #[.pointer (some ⟨g, 0, none⟩), .int .i64 o.n] W (SP.win g R (zs ++ [l])) fun e A' => e = .returned (.bool true) ∧ A' = SP.win g R ((zs ++ [l]) ++ [o.n]) := fun W => by
                      have := winadd_spec W g R (zs ++ [l]) o.n (by first | omega | (simp; done) | (simp; omega))
                      rwa [hm, if_pos rfl] at this
                    have HS := Lib.hid hspec
                    clear hspec hm
                    go_wp2_with fail
                    refine (SpecAt.use (HS.out _) HO.out).mono ?_
                    rintro e wB ⟨A', ⟨rfl, rfl⟩, ownB, -⟩
                    obtain ⟨T, hrT, hback⟩ := ownB.swap.grow1 #[.int .i64 o.n] 3
                    have HG := Lib.hid (And.intro hrT hback)
                    clear ownB hrT hback
                    go_wp2_with (at_builtin; refine wpList_append_row rfl (.tmp 84) (.tmp 86) 30 rfl 3 (.int .i64 0) 1 8 Try.underlying30 Try.info3 rfl (by decide) rfl (by simp [ints]) HG.out.1 _ 1 1 [.int .i64 o.n] rfl rfl (rd_one _ _ _) (ints_one (xs := [o.n])) (by unfold maxLen; omega) (by omega) ?_)
                    rintro A3 c3 w3 - hk3 hr3
                    have HF := Lib.hid (HG.out.2 _ _ hk3 hr3).swap
                    clear hk3 hr3
                    go_wp2
                    go_meet
                    refine ⟨(zs ++ [l]) ++ [o.n], A3, c3, by simp, ?_, ?_⟩
                    · have hi : ints ((zs ++ [l]) ++ [o.n]) = ints (zs ++ [l]) ++ [.int .i64 o.n] := by simp [ints]
                      have hl : ((zs ++ [l]) ++ [o.n]).length = (zs.length + 1) + 1 := by simp
                      rw [hi, hl]
                      exact HF.out
                    · show ((((zs ++ [l]) ++ [o.n]).length : Nat) : Int) ≤ R
                      simp
                      omega
                  · have hm : winMay R (zs ++ [l]) o.n = false := by simp [winMay]; intros; omega
                    have hxs' : Hid ((((zs ++ [l]).length : Nat) : Int) ≤ R) := by exact hxs
                    clear hn1
                    have hspec : ∀ W, SpecAt Try.prog 25 #[.pointer (some ⟨g, 0, none⟩), .int .i64 o.n] W (SP.win g R (zs ++ [l])) fun e A' => e = .returned (.bool false) ∧ A' = SP.win g R (zs ++ [l]) := fun W => by
                      have := winadd_spec W g R (zs ++ [l]) o.n (by first | omega | (simp; done) | (simp; omega))
                      rwa [hm] at this
                    have HS := Lib.hid hspec
                    clear hspec hm
                    go_wp2_with fail
                    refine (SpecAt.use (HS.out _) HO.out).mono ?_
                    rintro e wB ⟨A', ⟨rfl, rfl⟩, ownB, -⟩
                    have HB := Lib.hid ownB
                    clear ownB
                    go_wp2
                    go_meet
                    exact ⟨zs ++ [l], some ⟨gb, gof, none⟩, cl, by simp, by simpa using HB.out, hxs'⟩
              · have hm : winMay R xs o.n = false := by simp [winMay]; omega
                have hspec : ∀ W, SpecAt Try.prog 25 #[.pointer (some ⟨g, 0, none⟩), .int .i64 o.n] W (SP.win g R xs) fun e A' => e = .returned (.bool false) ∧ A' = SP.win g R xs := fun W => by
                  have := winadd_spec W g R xs o.n (by first | omega | (simp; done) | (simp; omega))
                  rwa [hm] at this
                have HS := Lib.hid hspec
                clear hspec hm
                go_wp2_with fail
                refine (SpecAt.use (HS.out _) HO.out).mono ?_
                rintro e wB ⟨A', ⟨rfl, rfl⟩, ownB, -⟩
                have HB := Lib.hid ownB
                clear ownB
                go_wp2
                go_meet
                exact ⟨xs, _, _, rfl, HB.out, hxs.out⟩
            · have hk' : (o.kind == 0) = false := by simp [hk0]
              clear hk0
              by_cases hk1 : o.kind = 1
              · have hk1' : (o.kind == 1) = true := by simp [hk1]
                clear hk1
                have htl := winTw_le xs o.n
                go_wp2
                go_loop [12] (fun t => ∃ k : Nat, k ≤ winTw xs o.n ∧ t = .int .i64 k) (fun t => xs.length - (intOf t).toNat)
                case atStart => exact ⟨0, Nat.zero_le _, rfl⟩
                case round =>
                  obtain ⟨k, hk, rfl⟩ := hrel
                  by_cases hkl : k < xs.length
                  · obtain ⟨x, hxk⟩ : ∃ x, xs[k]? = some x := ⟨_, List.getElem?_eq_getElem hkl⟩
                    obtain ⟨gb, gof, rfl, hcx, _⟩ := Own.cell HO.out.swap (ints_get hxk)
                    obtain ⟨s1, s2⟩ := winTw_step xs o.n hxk hk
                    by_cases hxn : x ≤ o.n
                    · have s1' := s1 hxn
                      clear s1 s2 hxk
                      go_wp2
                      go_round
                      case rel => exact ⟨k + 1, s1', by go_num⟩
                      case measure => simp [intOf]; omega
                    · have hke := s2 hxn
                      have hspec := fun W => winfree_spec W g R xs o.n (by omega)
                      rw [hke] at hspec
                      have HS := Lib.hid hspec
                      clear s1 s2 hxk hk htl hke hspec
                      go_wp2_with fail
                      refine (SpecAt.use (HS.out _) HO.out).mono ?_
                      rintro e wB ⟨A', ⟨rfl, rfl⟩, ownB, -⟩
                      have HB := Lib.hid (ownB.swap.cutLit (k := k) (by omega) hcl1 (ints_length _)).swap
                      clear ownB
                      have hdl : (xs.drop k).length = xs.length - k := List.length_drop
                      have hdR : (((xs.drop k).length : Nat) : Int) ≤ R := by
                        have := hxs.out
                        rw [hdl]; omega
                      rw [← ints_drop] at HB
                      by_cases hck : cl = k
                      · rw [if_pos hck, show cl - k = 0 by omega] at HB
                        go_wp2
                        go_meet
                        exact ⟨xs.drop k, _, _, by rw [hdl], by rw [hdl]; exact HB.out, hdR⟩
                      · rw [if_neg hck] at HB
                        go_wp2
                        go_meet
                        exact ⟨xs.drop k, _, _, by rw [hdl], by rw [hdl]; exact HB.out, hdR⟩
                  · have hke : winTw xs o.n = xs.length := by omega
                    obtain rfl : k = xs.length := by omega
                    have hspec := fun W => winfree_spec W g R xs o.n (by omega)
                    rw [hke] at hspec
                    have HS := Lib.hid hspec
                    clear hk htl hke hspec
                    go_wp2_with fail
                    refine (SpecAt.use (HS.out _) HO.out).mono ?_
                    rintro e wB ⟨A', ⟨rfl, rfl⟩, ownB, -⟩
                    have hdn : xs.drop xs.length = [] := List.drop_length
                    have hR0 : (((([] : List Int)).length : Nat) : Int) ≤ R := by simp; omega
                    rcases ownB.swap.row_addr with ⟨e1, e2⟩ | ⟨gb, gof, n', c', e1⟩
                    · injection e1 with e1 e3 e4
                      subst e1
                      have HB := Lib.hid ownB
                      clear ownB
                      rw [hdn] at HB
                      have hx0 : xs = [] := by cases xs with | nil => rfl | cons => simp [ints] at e2
                      subst hx0
                      simp only [List.length_nil] at *
                      subst e4
                      clear e2 e3
                      go_wp2
                      go_meet
                      exact ⟨[], none, 0, rfl, HB.out, hR0⟩
                    · injection e1 with e1 e3 e4
                      subst e1
                      have HB := Lib.hid (ownB.swap.cutLit (k := xs.length) (Nat.le_refl _) hcl1 (ints_length _)).swap
                      clear ownB e3 e4
                      rw [hdn, ← ints_drop, hdn, Nat.sub_self] at HB
                      by_cases hck : cl = xs.length
                      · rw [if_pos hck, show cl - xs.length = 0 by omega] at HB
                        go_wp2
                        go_meet
                        exact ⟨[], _, _, by simp only [Nat.sub_self, List.length_nil], HB.out, hR0⟩
                      · rw [if_neg hck] at HB
                        go_wp2
                        go_meet
                        exact ⟨[], _, _, by simp only [Nat.sub_self, List.length_nil], HB.out, hR0⟩
              · have hk1' : (o.kind == 1) = false := by simp [hk1]
                clear hk1
                by_cases hk2 : o.kind = 2
                · have hk2' : (o.kind == 2) = true := by simp [hk2]
                  clear hk2
                  go_wp2_with fail
                  refine (SpecAt.use (winclear_spec _ g R xs) HO.out).mono ?_
                  rintro e wB ⟨A', ⟨rfl, rfl⟩, ownB, -⟩
                  have HB := Lib.hid ((ownB.swap.pop.add (B := SP.row 3 1 (.slice none 0 0) (ints [])) (SP.row_nil _ _ _ _)).swap)
                  clear ownB
                  go_wp2
                  go_meet
                  exact ⟨[], none, 0, rfl, HB.out, show ((([] : List Int).length : Nat) : Int) ≤ R by simp; omega⟩
                · have hk2' : (o.kind == 2) = false := by simp [hk2]
                  clear hk2
                  go_wp2
                  go_meet
                  exact ⟨xs, _, _, rfl, HO.out, hxs⟩
          case rest =>
            obtain ⟨ys, A2, c2, rfl, ownB, hys⟩ := hcut
            have hyl : ys.length ≤ 64 := by have := hys.out; omega
            go_wp2_with fail
            refine (SpecAt.use (winitems_spec _ g R ys (by omega)) ownB).mono ?_
            rintro e wC ⟨A', ⟨An, cn, rfl, rfl⟩, ownC, -⟩
            have ownC2 := ownC.flat
            have HC2 := Lib.hid ownC2
            have hsame := sameints_calls wC An A2 cn c2 ys ys ownC2.rd (ownC2.front 2 rfl).rd (by omega)
            rw [show decide (ys = ys) = true by simp] at hsame
            have HSa := Lib.hid hsame
            clear hsame ownC ownC2 ownB c0 c1
            go_wp2_with fail
            refine (HSa.out).mono ?_
            rintro e wD ⟨rfl, dd, rfl⟩
            have HD := Lib.hid (Own.drewN HC2.out dd)
            clear HSa HC2
            go_wp2
            go_loopw [15] (fun t wx => ∃ (k : Nat) (zs : List Value), k ≤ ys.length ∧ t = .int .i64 k ∧ Hid (zs.length = ys.length) ∧ Own (fun _ => False) w1 wx [SP.row 3 1 (.slice An ys.length cn) zs, SP.win g R ys, SP.row 3 1 (.slice A2 ys.length c2) (ints ys)]) (fun t _ => ys.length - (intOf t).toNat)
            case atStart => exact ⟨0, ints ys, Nat.zero_le _, rfl, ints_length _, HD.out⟩
            case round =>
              obtain ⟨k, zs, hk, rfl, hzl, ownZ⟩ := hrel
              clear HD
              by_cases hkl : k < ys.length
              · obtain ⟨u, hu⟩ : ∃ u, zs[k]? = some u := ⟨_, List.getElem?_eq_getElem (by rw [hzl.out]; exact hkl)⟩
                obtain ⟨gb, gof, rfl, hcu, hfu⟩ := ownZ.cell hu
                have HZ := Lib.hid (ownZ.store (j := k) (by rw [hzl.out]; exact hkl) (.int .i64 0))
                clear ownZ hu
                go_wp2
                go_roundw
                case rel => exact ⟨k + 1, zs.set k (.int .i64 0), by omega, by go_num, by show (zs.set k _).length = _; rw [List.length_set]; exact hzl.out, HZ.out⟩
                case measure => simp [intOf]; omega
              · obtain rfl : k = ys.length := by omega
                clear hk hkl
                go_wp2_with fail
                refine (SpecAt.use (winitems_spec _ g R ys (by omega)) ownZ.pop).mono ?_
                rintro e wE ⟨A', ⟨Am, cm, rfl, rfl⟩, ownE, -⟩
                have ownE2 := ownE.flat
                have HE2 := Lib.hid ownE2.pop
                have hsame := sameints_calls wE Am A2 cm c2 ys ys ownE2.rd (ownE2.front 2 rfl).rd (by omega)
                rw [show decide (ys = ys) = true by simp] at hsame
                have HSa := Lib.hid hsame
                clear hsame ownE ownE2 ownZ hzl
                go_wp2_with fail
                refine (HSa.out).mono ?_
                rintro e wF ⟨rfl, df, rfl⟩
                have HF := Lib.hid (Own.drewN HE2.out df)
                have hyR := hys.out
                clear HSa HE2
                by_cases hfe : (ys.length : Int) = R
                · have hfe' : ((ys.length : Int) == R) = true := by simpa using hfe
                  have sp : ∀ W, SpecAt Try.prog 27 #[.pointer (some ⟨g, 0, none⟩)] W (SP.win g R ys) fun e A' => e = .returned (.bool true) ∧ A' = SP.win g R ys := fun W => by
                    have := winfull_spec W g R ys
                    rwa [show decide (R ≤ (ys.length : Int)) = true by simp; omega] at this
                  have Sp := Lib.hid sp
                  clear sp hfe hyR
                  go_wp2_with fail
                  refine (SpecAt.use (Sp.out _) HF.out).mono ?_
                  rintro e wG ⟨A', ⟨rfl, rfl⟩, ownG, -⟩
                  have HG := Lib.hid ownG
                  clear ownG
                  go_wp2
                  go_roundw
                  case rel => exact ⟨i + 1, ys, A2, c2, by omega, rfl, by go_num, HG.out, hys⟩
                  case measure => simp [intOf]; omega
                · have hfe' : ((ys.length : Int) == R) = false := by simpa using hfe
                  have sp : ∀ W, SpecAt Try.prog 27 #[.pointer (some ⟨g, 0, none⟩)] W (SP.win g R ys) fun e A' => e = .returned (.bool false) ∧ A' = SP.win g R ys := fun W => by
                    have := winfull_spec W g R ys
                    rwa [show decide (R ≤ (ys.length : Int)) = false by simp; omega] at this
                  have Sp := Lib.hid sp
                  clear sp hfe hyR
                  go_wp2_with fail
                  refine (SpecAt.use (Sp.out _) HF.out).mono ?_
                  rintro e wG ⟨A', ⟨rfl, rfl⟩, ownG, -⟩
                  have HG := Lib.hid ownG
                  clear ownG
                  go_wp2
                  go_roundw
                  case rel => exact ⟨i + 1, ys, A2, c2, by omega, rfl, by go_num, HG.out, hys⟩
                  case measure => simp [intOf]; omega
        · obtain rfl : i = ops.length := by omega
          have Ho := Lib.hid hown
          clear hown
          go_wp2
          go_ret
          refine ⟨rfl, ?_⟩
          have := Ho.out.below
          exact Hb.out.1.trans (this.mono Hb.out.1.size)
    · go_enter Try.func7, Try.ntmps7
      go_wp2_with fail
      refine (hf.out).mono ?_
      rintro e w1 ⟨rfl, hb1⟩
      have o0 := Own.start w1
      go_wp2_with fail
      refine (SpecAt.use (newwin_yes w1 R ⟨hR2, hR3⟩) o0.emp).mono ?_
      rintro e w2 ⟨A', ⟨g, rfl, rfl⟩, o1, -⟩
      have Hb := Lib.hid (hb1.trans (o1.below.mono hb1.size))
      clear hb1 o0 o1
      go_wp2
      go_ret
      exact ⟨rfl, Hb.out⟩
  · have hn := Lib.hid (fun W => newwin_no W R hgood)
    by_cases hR1 : 1 ≤ R
    · have hR2 : ¬ R ≤ 64 := fun h => hgood ⟨hR1, h⟩
      clear hgood
      go_enter Try.func7, Try.ntmps7
      go_wp2_with fail
      refine (hf.out).mono ?_
      rintro e w1 ⟨rfl, hb1⟩
      go_wp2_with fail
      refine (hn.out _).mono ?_
      rintro e w2 ⟨rfl, rfl⟩
      have Hb := Lib.hid hb1
      clear hb1
      go_wp2
      go_ret
      exact ⟨rfl, Hb.out⟩
    · clear hgood
      go_enter Try.func7, Try.ntmps7
      go_wp2_with fail
      refine (hf.out).mono ?_
      rintro e w1 ⟨rfl, hb1⟩
      go_wp2_with fail
      refine (hn.out _).mono ?_
      rintro e w2 ⟨rfl, rfl⟩
      have Hb := Lib.hid hb1
      clear hb1
      go_wp2
      go_ret
      exact ⟨rfl, Hb.out⟩
end Go.Proofs.Ytbncicfbgfmekaa

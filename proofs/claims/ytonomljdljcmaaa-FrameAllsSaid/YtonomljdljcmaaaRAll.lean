/-
  The document's One and All.
  Conditions: the bytes can be read in whatever world comes while no memory of theirs is turned.
-/
import Derived.Test.YtonomljdljcmaaaRGet
import Derived.Test.YtonomljdljcmaaaAll
namespace Go.Proofs.Ytonomljdljcmaaa
set_option linter.unusedVariables false
set_option linter.unusedSimpArgs false
open Go.RowKit

set_option maxHeartbeats 1600000 in
theorem rone_short {w : World} {B : Option Addr} {cb n : Nat} (hn : n < 4) :
    Calls Try.prog 23 #[.slice B n cb] w fun e w' => e = .returned (.tuple #[.slice none 0 0, .int .i64 2]) ∧ w = w' := by
  have HG := Lib.hid (rget_out (w := w) (B := B) (cb := cb) (n := n) (a := 0) (by omega) (by omega) (by omega))
  go_enter Try.func23, Try.ntmps23
  go_wp2_with fail
  refine (HG.out).mono ?_
  rintro e w' ⟨rfl, rfl⟩
  go_wp2
  go_ret2
  exact ⟨rfl, rfl⟩

set_option maxHeartbeats 1600000 in
theorem rone_own {S : Nat → Prop} {w0 w : World} {R : List SP} {B : Option Addr} {cb : Nat} {b : List UInt8} (h : Own S w0 w R) (hb : Reads S w0 R B b) (hcb : b.length ≤ cb) (hcb2 : cb ≤ 9223372036854775807) (hbl : b.length ≤ 1000000000) (ha : 4 ≤ b.length) :
    Calls Try.prog 23 #[.slice B b.length cb] w fun e w' =>
      (oneErr b = 0 ∧ ∃ A' c', e = .returned (.tuple #[.slice A' (pay b).length c', .int .i64 0]) ∧ Own S w0 w' (SP.row 5 1 (.slice A' (pay b).length c') (bts (pay b)) :: R)) ∨
      (oneErr b ≠ 0 ∧ e = .returned (.tuple #[.slice none 0 0, .int .i64 (oneErr b : Nat)]) ∧ Own S w0 w' R) := by
  have HG := rget_own (a := 0) h hb hcb hcb2 hbl (by omega)
  rw [List.drop_zero] at HG
  have HG' := Lib.hid HG
  clear HG h hb
  go_enter Try.func23, Try.ntmps23
  go_wp2_with fail
  refine (HG'.out).mono ?_
  rintro e w' (⟨he, A', c', rfl, own⟩ | ⟨he, rfl, own⟩)
  · have HO := Lib.hid (And.intro own he)
    obtain ⟨pl, hpl⟩ : ∃ n, (pay b).length = n := ⟨_, rfl⟩
    have hpl2 : pl ≤ 1000000000 := by rw [← hpl, pay, List.length_take, List.length_drop]; omega
    have HP := Lib.hid hpl
    rw [hpl] at HO ⊢
    clear own he hpl
    by_cases hlt : 8 + pl < b.length
    · have hl2 : 8 + (pl : Int) < (b.length : Int) := by omega
      have HE := Lib.hid (show oneErr b = 4 by rw [oneErr, if_pos HO.out.2, HP.out, if_pos hlt])
      clear hlt
      go_wp2
      go_ret2
      exact .inr ⟨by rw [HE.out]; decide, by rw [HE.out]; rfl, HO.out.1.pop⟩
    · have hl2 : ¬ 8 + (pl : Int) < (b.length : Int) := by omega
      have HE := Lib.hid (show oneErr b = 0 by rw [oneErr, if_pos HO.out.2, HP.out, if_neg hlt])
      clear hlt
      go_wp2
      go_ret2
      exact .inl ⟨HE.out, A', c', by rw [HP.out]; rfl, by rw [HP.out]; exact HO.out.1⟩
  · obtain ⟨er, her⟩ : ∃ n, getErr b = n := ⟨_, rfl⟩
    have HE := Lib.hid (show oneErr b = er by rw [oneErr, if_neg he, her])
    rw [her] at he ⊢
    have hne : ((er : Int) != 0) = true := by simp; omega
    have HO := Lib.hid (And.intro own he)
    clear own he her
    go_wp2
    go_ret2
    exact .inr ⟨by rw [HE.out]; exact HO.out.2, by rw [HE.out]; rfl, HO.out.1⟩

set_option maxRecDepth 100000 in
set_option maxHeartbeats 4000000 in
theorem rall_own {S : Nat → Prop} {w0 w : World} {R : List SP} {B : Option Addr} {cb : Nat} {b : List UInt8} (h : Own S w0 w R) (hb : Reads S w0 R B b) (hcb : b.length ≤ cb) (hcb2 : cb ≤ 9223372036854775807) (hbl : b.length ≤ 1000000000) :
    Calls Try.prog 26 #[.slice B b.length cb] w fun e w' => ∃ A' c', e = .returned (.tuple #[.slice A' (frs b).length c', .int .i64 (span (frs b) : Nat), .int .i64 (allErr b : Nat)]) ∧ Own S w0 w' (SP.mat 22 5 (.slice A' (frs b).length c') ((frs b).map bts) :: R) := by
  have H := Lib.hid (And.intro h hb)
  have H0 := Lib.hid (h.mat_nil 22 5)
  clear h hb
  go_enter Try.func26, Try.ntmps26
  go_wp2
  go_loopw [5, 6] (fun t0 t wr => ∃ (l : List (List UInt8)) (A : Option Addr) (c : Nat), t0 = .slice A l.length c ∧ t = .int .i64 (span l : Nat) ∧ Hid (Come b l) ∧ Own S w0 wr (SP.mat 22 5 (.slice A l.length c) (l.map bts) :: R)) (fun _ t _ => b.length - (intOf t).toNat)
  case atStart => exact ⟨[], none, 0, rfl, rfl, Lib.hid (come_nil b), H0.out⟩
  case round =>
    obtain ⟨l, A, c, rfl, rfl, hcome, hown⟩ := hrel
    have hle := hcome.out.2
    obtain ⟨a, ha⟩ : ∃ a, span l = a := ⟨_, rfl⟩
    have HA := Lib.hid ha
    have hl8 : l.length * 8 ≤ 1000000000 := by have := span_length l; omega
    rw [ha] at hle ⊢
    by_cases hlt : a < b.length
    · have hlt' : (a : Int) < (b.length : Int) := by omega
      by_cases h4 : a + 4 ≤ b.length
      · have HG := Lib.hid (rget_own (cb := cb) (a := a) hown (Reads.more H.out.2 [_]) hcb hcb2 hbl h4)
        clear hown ha
        go_wp2_with fail
        refine (HG.out).mono ?_
        rintro e w1 (⟨he, A1, c1, rfl, own1⟩ | ⟨he, rfl, own1⟩)
        · obtain ⟨p, hp⟩ : ∃ p, pay (b.drop a) = p := ⟨_, rfl⟩
          have hok := getErr_ok he
          rw [hp] at own1 hok ⊢
          have hpl : a + 8 + p.length ≤ b.length := by rw [List.length_drop] at hok; omega
          have hne : ((0 : Int) != 0) = false := rfl
          have hsn := Lib.hid (come_snoc hcome.out (by rw [HA.out]; exact he))
          have HP := Lib.hid hp
          obtain ⟨vs, hvl, hrow⟩ := own1.swap.mat_open
          obtain ⟨A2, c2, hv, hc, hm⟩ := SP.row_shape1 hrow.head
          obtain ⟨T, hr, hback⟩ := hrow.grow1 #[.slice A1 p.length c1] 22
          have G := Lib.hid (And.intro hr hback)
          have hvk : vs.length = l.length := by rw [hvl, List.length_map]
          have HV := Lib.hid (And.intro hvl hvk)
          clear he hp hok own1 hrow hr hback hv hc hm hvl hvk
          go_wp2_with (at_builtin; refine wpList_append_row rfl (.tmp 26) (.tmp 28) 40 rfl 22 (.slice none 0 0) 1 24 Try.underlying40 Try.info22 rfl (by decide) rfl (by rw [HV.out.2, Nat.mul_one]) G.out.1 _ 1 1 [.slice A1 p.length c1] rfl rfl (rd_one _ _ _) (by simp [Value.oneCell']) (by unfold maxLen; omega) (by omega) ?_)
          rintro A3 c3 w3 - hk3 hr3
          have O3 := Lib.hid (G.out.2 _ _ hk3 hr3)
          clear hk3 hr3
          go_wp2
          go_roundw
          case rel =>
            refine ⟨l ++ [p], A3, c3, ?_, ?_, ?_, ?_⟩
            · rw [List.length_append]; rfl
            · rw [span_snoc, HA.out]; go_num
            · have h1 := hsn.out
              rw [HA.out, HP.out] at h1
              exact Lib.hid h1
            · have h1 := Own.mat_snoc (ys := bts p) HV.out.1 O3.out
              rw [List.length_append, List.map_append]
              exact h1
          case measure => simp [intOf]; omega
        · obtain ⟨er, her⟩ : ∃ n, getErr (b.drop a) = n := ⟨_, rfl⟩
          have HE := Lib.hid (come_end hcome.out (by rw [HA.out]; exact he))
          have HF := Lib.hid (show allErr b = er by rw [allErr, HE.out, HA.out, if_neg (by omega), her])
          rw [her] at he ⊢
          have hne : ((er : Int) != 0) = true := by simp; omega
          have HO := Lib.hid own1
          clear her he own1
          go_wp2
          go_ret3
          refine ⟨A, c, ?_, ?_⟩
          · rw [HF.out, HE.out, HA.out]; rfl
          · rw [HE.out]; exact HO.out
      · have HG := Lib.hid (rget_out (w := wr) (B := B) (cb := cb) (n := b.length) (a := (a : Int)) (by omega) (by omega) hbl)
        have HE := Lib.hid (come_end hcome.out (by rw [HA.out, getErr_short (by rw [List.length_drop]; omega)]; decide))
        have HF := Lib.hid (show allErr b = 2 by rw [allErr, HE.out, HA.out, if_neg (by omega), getErr_short (by rw [List.length_drop]; omega)])
        have HO := Lib.hid hown
        have hne : ((2 : Int) != 0) = true := rfl
        clear hown ha
        go_wp2_with fail
        refine (HG.out).mono ?_
        rintro e w1 ⟨rfl, rfl⟩
        go_wp2
        go_ret3
        refine ⟨A, c, ?_, ?_⟩
        · rw [HF.out, HE.out, HA.out]; rfl
        · rw [HE.out]; exact HO.out
    · obtain rfl : a = b.length := by omega
      have HE := Lib.hid (come_end hcome.out (by rw [HA.out, getErr_short (by simp)]; decide))
      have HF := Lib.hid (show allErr b = 0 by rw [allErr, HE.out, HA.out, if_pos rfl])
      have HO := Lib.hid hown
      clear hown ha
      go_wp2
      go_ret3
      refine ⟨A, c, ?_, ?_⟩
      · rw [HF.out, HE.out, HA.out]; rfl
      · rw [HE.out]; exact HO.out
end Go.Proofs.Ytonomljdljcmaaa

/-
  whole: the iterator over the frames, for every loop body.
  Conditions: the bytes can be read in whatever world comes while no memory of theirs is turned.
-/
import Derived.Test.YtonomljdljcmaaaFrames
import Derived.Test.YtonomljdljcmaaaRPut
import Derived.Test.YtonomljdljcmaaaRangeOwn
import Derived.Shelf.Abstract
import Derived.OwnWalkIn
import Derived.TacticsInMore
import Derived.LoopNIn
import Derived.LoopIn
namespace Go.Proofs.Ytonomljdljcmaaa
set_option linter.unusedVariables false
set_option linter.unusedSimpArgs false
open Go.RowKit Go.Shelf
attribute [local go_sem] Oper.semAt_some

/-- What a round is handed: the place and the payload. -/
structure Fr where
  pos : Nat
  A : Option Addr
  c : Nat
  p : List UInt8
def Fr.enc (x : Fr) : Array Value := #[.int .i64 (x.pos : Int), .slice x.A x.p.length x.c]
def Fr.give (x : Fr) : SP := SP.row 5 1 (.slice x.A x.p.length x.c) (bts x.p)
def pays (l : List Fr) : List (List UInt8) := l.map Fr.p
theorem pays_snoc (l : List Fr) (x : Fr) : pays (l ++ [x]) = pays l ++ [x.p] := by simp [pays]
def frOk (b : List UInt8) (pre : List Fr) (x : Fr) : Prop := x.pos = span (pays pre) ∧ Come b (pays pre) ∧ getErr (b.drop x.pos) = 0 ∧ x.p = pay (b.drop x.pos)

set_option maxRecDepth 100000 in
set_option maxHeartbeats 4000000 in
theorem whole1_iter (n : Nat) (hn : 1 ≤ n) {S : Nat → Prop} {w0 : World} {R : List SP} {B : Option Addr} {cb Bn : Nat} {b : List UInt8} (hb : Reads S w0 (SP.blk Bn 22 #[.slice B b.length cb] :: R) B b) (hcb : b.length ≤ cb) (hcb2 : cb ≤ 9223372036854775807) (hbl : b.length ≤ 1000000000) :
    IterOwn Fence.wide n Try.prog 40 #[.pointer (some ⟨Bn, 0, none⟩)] Fr.enc Fr.give (frOk b) (fun xs => pays xs = frs b) (fun pre => pre ≠ [] ∧ Come b (pays pre)) S w0 (SP.blk Bn 22 #[.slice B b.length cb] :: R) := by
  intro l J Jx W h0 hY
  refine callsIn_of_wp Try.func40 rfl trivial ?_ rfl
  simp only [Try.ntmps40, List.size_toArray, List.length_cons, List.length_nil, Nat.reduceAdd, Nat.reduceSub, Array.replicate_succ, Array.replicate_zero, List.push_toArray, List.append_toArray, List.nil_append, List.cons_append]
  have HY := Lib.hid (And.intro hY hb)
  have H0 := Lib.hid h0
  clear hY h0 hb
  gi_wp2
  gi_loopw [3] (fun t wr => ∃ pre : List Fr, t = .int .i64 (span (pays pre)) ∧ Hid (Come b (pays pre)) ∧ Own S w0 wr (J pre :: SP.blk Bn 22 #[.slice B b.length cb] :: R)) (fun t _ => b.length - (intOf t).toNat)
  case atStart => exact ⟨[], rfl, Lib.hid (come_nil b), H0.out⟩
  case round =>
    obtain ⟨pre, rfl, hcome, hown⟩ := hrel
    have hle := hcome.out.2
    obtain ⟨a, ha⟩ : ∃ a, span (pays pre) = a := ⟨_, rfl⟩
    have HA := Lib.hid ha
    rw [ha] at hle ⊢
    have c0 : wr.cell? ⟨Bn, 0, none⟩ = some (.slice B b.length cb) := (hown.front 1 rfl).blk_cell 0
    by_cases hlt : a < b.length
    · have hlt' : (a : Int) < (b.length : Int) := by omega
      by_cases h4 : a + 4 ≤ b.length
      · have HG := Lib.hid (get_own (cb := cb) (a := a) hown (Reads.more HY.out.2 [J pre]) hcb hcb2 hbl h4)
        clear hown ha
        gi_wp2_with fail
        refine ⟨trivial, (callsIn_wide.2 HG.out).mono ?_⟩
        rintro e w1 (⟨he, A1, c1, rfl, own1⟩ | ⟨he, rfl, own1⟩)
        · obtain ⟨p, hp⟩ : ∃ p, pay (b.drop a) = p := ⟨_, rfl⟩
          have hok := getErr_ok he
          rw [hp] at own1 hok ⊢
          have hpl : a + 8 + p.length ≤ b.length := by rw [List.length_drop] at hok; omega
          have hne : ((0 : Int) != 0) = false := rfl
          obtain ⟨fn, tmps, assign, body, hy, hR⟩ := HY.out.1 pre ⟨a, A1, c1, p⟩ w1 ⟨HA.out.symm, hcome.out, he, hp.symm⟩ own1.swap
          have hsn := Lib.hid (come_snoc hcome.out (by rw [HA.out]; exact he))
          have HP := Lib.hid (And.intro hok (And.intro hp he))
          dsimp only [Fr.enc] at hy
          clear he hp hok own1
          gi_wp2
          refine hR.mono ?_
          rintro e W3 (⟨rfl, own3⟩ | ⟨rfl, own3⟩)
          · gi_wp2
            go_roundw
            case rel =>
              refine ⟨pre ++ [⟨a, A1, c1, p⟩], ?_, ?_, own3⟩
              · rw [pays_snoc, span_snoc, HA.out]; go_num
              · rw [pays_snoc]
                have h1 := hsn.out
                rw [HA.out, HP.out.2.1] at h1
                exact Lib.hid h1
            case measure => simp [intOf]; omega
          · gi_wp2
            refine bodyPost_ret (results_none rfl _ _ _) rfl ?_
            refine ⟨⟨_, rfl⟩, .inr ⟨pre ++ [⟨a, A1, c1, p⟩], ⟨by simp, ?_⟩, own3⟩⟩
            rw [pays_snoc]
            have h1 := hsn.out
            rw [HA.out, HP.out.2.1] at h1
            exact h1
        · obtain ⟨er, her⟩ : ∃ n, getErr (b.drop a) = n := ⟨_, rfl⟩
          have HE := Lib.hid (come_end hcome.out (by rw [HA.out]; exact he))
          rw [her] at he ⊢
          have hne : ((er : Int) != 0) = true := by simp; omega
          clear her he
          gi_wp2
          refine ⟨fun _ h => (by cases h), ?_⟩
          gi_wp2
          refine bodyPost_ret (results_none rfl _ _ _) rfl ?_
          exact ⟨⟨_, rfl⟩, .inl ⟨pre, HE.out.symm, own1⟩⟩
      · have HG := Lib.hid (get_out (w := wr) (B := B) (cb := cb) (n := b.length) (a := (a : Int)) (by omega) (by omega) hbl)
        have HE := Lib.hid (come_end hcome.out (by rw [HA.out, getErr_short (by rw [List.length_drop]; omega)]; decide))
        have HO := Lib.hid hown
        have hne : ((2 : Int) != 0) = true := rfl
        clear hown ha
        gi_wp2_with fail
        refine ⟨trivial, (callsIn_wide.2 HG.out).mono ?_⟩
        rintro e w1 ⟨rfl, rfl⟩
        gi_wp2
        refine ⟨fun _ h => (by cases h), ?_⟩
        gi_wp2
        refine bodyPost_ret (results_none rfl _ _ _) rfl ?_
        exact ⟨⟨_, rfl⟩, .inl ⟨pre, HE.out.symm, HO.out⟩⟩
    · obtain rfl : a = b.length := by omega
      have HE := Lib.hid (come_end hcome.out (by rw [HA.out, getErr_short (by simp)]; decide))
      have HO := Lib.hid hown
      clear hown ha
      gi_wp2
      go_end0
      exact ⟨⟨_, rfl⟩, .inl ⟨pre, HE.out.symm, HO.out⟩⟩

set_option maxHeartbeats 400000 in
theorem whole_calls (w : World) (A : Option Addr) (n c : Nat) : Calls Try.prog 38 #[.slice A n c] w fun e w' => e = .returned (.func (.func 40) #[] #[.pointer (some ⟨w.heap.size, 0, none⟩)]) ∧ w.alloc (.cells #[.slice A n c] 22) = w' := by
  go_enter Try.func38, Try.ntmps38
  go_wp2
  go_ret
  exact ⟨rfl, rfl⟩
end Go.Proofs.Ytonomljdljcmaaa

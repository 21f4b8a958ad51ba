/-
  The document's log: New.
  Conditions: the entries lie in memory.
-/
import Derived.Test.YtepnkhiclgjmpaaRef7
namespace Go.Proofs.Ytepnkhiclgjmpaa
set_option linter.unusedVariables false
set_option linter.unusedSimpArgs false
open Go.RowKit

def RNewPost (S : Nat → Prop) (w0 : World) (R : List SP) (r : Option Lg × Int) (e : Ending) (w' : World) : Prop := match r with
  | (none, er) => e = .returned (.tuple #[.pointer none, .int .i64 er]) ∧ Own S w0 w' R
  | (some x, _) => ∃ g, e = .returned (.tuple #[.pointer (some ⟨g, 0, none⟩), .int .i64 0]) ∧ Own S w0 w' (SP.log 88 g x :: R)
theorem rnewPost_bad {S : Nat → Prop} {w0 w' : World} {R : List SP} {r : Option Lg × Int} {er : Int} {e : Ending} (hr : r = (none, er)) (he : e = .returned (.tuple #[.pointer none, .int .i64 er])) (h : Own S w0 w' R) : RNewPost S w0 R r e w' := by subst hr; exact ⟨he, h⟩
theorem rnewPost_ok {S : Nat → Prop} {w0 w' : World} {R : List SP} {r : Option Lg × Int} {er : Int} {x : Lg} {e : Ending} {g : Nat} (hr : r = (some x, er)) (he : e = .returned (.tuple #[.pointer (some ⟨g, 0, none⟩), .int .i64 0])) (h : Own S w0 w' (SP.log 88 g x :: R)) : RNewPost S w0 R r e w' := by subst hr; exact ⟨g, he, h⟩
section
variable {S : Nat → Prop} {w0 w : World} {R : List SP}
set_option maxRecDepth 100000 in
set_option maxHeartbeats 6400000 in
theorem rnew_own {A : Option Addr} {c : Nat} {es : List E} (hn : es.length ≤ 1000000) (hdl : ∀ m, m ∈ es → m.dat.length ≤ 140737488351232) (h : Own S w0 w R) (hr : EReads S w0 R A es) (index term commit : Int) :
    Calls Try.prog 14 #[.int .i64 index, .int .i64 term, .int .i64 commit, .slice A es.length c] w (RNewPost S w0 R (newL index term commit es)) := by
  have H := Lib.hid (And.intro h (And.intro hr hdl))
  have hw1 := Lib.hid (fun W => number_calls W index)
  have hw2 := Lib.hid (fun W => number_calls W term)
  clear h hr hdl
  by_cases b1 : withinB index 0 = true
  · rw [b1] at hw1
    by_cases b2 : withinB term 0 = true
    · rw [b2] at hw2
      obtain ⟨z1, hz1⟩ : ∃ z1, (index == 0) = z1 := ⟨_, rfl⟩
      obtain ⟨z2, hz2⟩ : ∃ z2, (term == 0) = z2 := ⟨_, rfl⟩
      have hbase : baseB index term = (z1 == z2) := by
        rw [baseB, b1, b2, ← hz1, ← hz2]; rfl
      have hib : 0 ≤ index ∧ index ≤ 4611686018427387904 := by
        simp only [withinB, decide_eq_true_eq] at b1
        rw [← maxI_eq]; exact b1
      obtain ⟨hi0, hi1⟩ := hib
      by_cases hzz : z1 = z2
      · subst hzz
        have HB := Lib.hid (show baseB index term = true by rw [hbase]; simp)
        have hzz : (z1 != z1) = false := by simp
        have hzz2 : ((!z1) == z1) = false := by simp
        clear hbase b1 b2
        go_enter Try.func14, Try.ntmps14
        go_wp2_with fail
        refine (hw1.out _).mono ?_
        rintro e w1 ⟨rfl, rfl⟩
        go_wp2_with fail
        refine (hw2.out _).mono ?_
        rintro e w1 ⟨rfl, rfl⟩
        clear hw1 hw2
        go_wp2
        clear hz1 hz2
        go_loopw [10] (fun ti wr => ∃ i : Nat, i ≤ es.length ∧ ti = .int .i64 i ∧ Hid (checkAll es = checkAll (es.drop i)) ∧ Own S w0 wr R) (fun ti _ => es.length - (intOf ti).toNat)
        case atStart => exact ⟨0, Nat.zero_le _, rfl, rfl, H.out.1⟩
        case round =>
          obtain ⟨i, hi, rfl, hck, hown⟩ := hrel
          by_cases hin : i < es.length
          · have i1 : (i : Int) < (es.length : Int) := by omega
            obtain ⟨m, hm⟩ : ∃ m, es[i]? = some m := ⟨_, List.getElem?_eq_getElem hin⟩
            obtain ⟨b, off, Ad, cd, rfl, hbl, k0, k1, k2, k3, -, -, -⟩ := H.out.2.1 _ [] hown i m hm
            have hckm := Lib.hid (checkAll_drop hm)
            have o1 := hown
            have HC := rcheck_own o1 m Ad cd (H.out.2.2 m (List.mem_of_getElem? hm))
            obtain ⟨ce, hce⟩ : ∃ ce, checkE m = ce := ⟨_, rfl⟩
            obtain ⟨dl, hdl⟩ : ∃ dl, m.dat.length = dl := ⟨_, rfl⟩
            rw [hce, hdl] at HC
            rw [hdl] at k3
            have HC := Lib.hid HC
            rw [hce] at hckm
            clear hown o1 hm hce hdl
            go_wp2_with fail
            refine (HC.out).mono ?_
            rintro e w2 ⟨rfl, o2⟩
            have O2 := Lib.hid o2
            clear o2 HC k0 k1 k2 k3
            by_cases h0 : ce = 0
            · have h0' : (ce != 0) = false := by simp [h0]
              have HK := Lib.hid (show checkAll es = checkAll (es.drop (i + 1)) by rw [hck.out, hckm.out, if_neg (by simp [h0])])
              clear h0 hck hckm
              go_wp2
              go_roundw
              case rel => exact ⟨i + 1, by omega, by go_num, HK, O2.out⟩
              case measure => simp [intOf]; omega
            · have h0' : (ce != 0) = true := by simpa using h0
              have HK := Lib.hid (newL_c (commit := commit) HB.out (show checkAll es = ce by rw [hck.out, hckm.out, if_pos h0]) h0)
              clear h0 hck hckm
              go_wp2
              go_ret2
              exact rnewPost_bad HK.out rfl O2.out
          · have i1 : ¬ (i : Int) < (es.length : Int) := by omega
            have HK := Lib.hid (show checkAll es = 0 by rw [hck.out, List.drop_eq_nil_of_le (by omega)]; rfl)
            have HO := Lib.hid hown
            clear hck hown
            go_wp2
            go_loopw [12, 13] (fun ta ti wr => ∃ (i : Nat) (a : Int), i ≤ es.length ∧ ta = .int .i64 a ∧ ti = .int .i64 i ∧ Hid (formB index term es = formB (index + (i : Int)) a (es.drop i)) ∧ Own S w0 wr R) (fun _ ti _ => es.length - (intOf ti).toNat)
            case atStart => exact ⟨0, term, Nat.zero_le _, rfl, rfl, by show _ = _; simp, HO.out⟩
            case round =>
              obtain ⟨i, a, hi, rfl, rfl, hfm, hown⟩ := hrel
              clear HO
              by_cases hin : i < es.length
              · have i1 : (i : Int) < (es.length : Int) := by omega
                obtain ⟨m, hm⟩ : ∃ m, es[i]? = some m := ⟨_, List.getElem?_eq_getElem hin⟩
                obtain ⟨b, off, Ad, cd, rfl, hbl, k0, k1, k2, k3, -, -, -⟩ := H.out.2.1 _ [] hown i m hm
                have hfd := Lib.hid (formB_drop (x := index + (i : Int)) (t := a) hm)
                have O2 := Lib.hid hown
                have hme := checkE_ok (checkAll_mem HK.out m (List.mem_of_getElem? hm))
                have hm1 := hme.2.2.1
                have hm2 := hme.2.2.2.1
                rw [maxI_eq] at hm2
                have wA : IntKind.i64.wrap (m.index - 1) = m.index - 1 := IntWalk.i64_in _ (by omega)
                have wB : IntKind.i64.wrap (m.index - 1 - (i : Int)) = m.index - 1 - (i : Int) := IntWalk.i64_in _ (by omega)
                clear hme
                obtain ⟨dl, hdl⟩ : ∃ dl, m.dat.length = dl := ⟨_, rfl⟩
                rw [hdl] at k3
                clear hown hm hdl
                by_cases h1 : m.index = index + 1 + (i : Int)
                · have h1' : (m.index - 1 - (i : Int) != index) = false := by simp; omega
                  by_cases h2 : m.term < a
                  · have HK := Lib.hid (newL_4 (commit := commit) HB.out HK.out (show formB index term es = false by rw [hfm.out, hfd.out, decide_eq_false (by omega), Bool.false_and]))
                    clear h1 hfm hfd
                    go_wp2
                    go_ret2
                    exact rnewPost_bad HK.out rfl O2.out
                  · have HF := Lib.hid (show formB index term es = formB (index + ((i + 1 : Nat) : Int)) m.term (es.drop (i + 1)) by
                      rw [hfm.out, hfd.out, decide_eq_true (show m.index = index + (i : Int) + 1 ∧ a ≤ m.term by omega), Bool.true_and, show index + (i : Int) + 1 = index + ((i + 1 : Nat) : Int) by omega])
                    clear h1 hfm hfd
                    go_wp2
                    go_roundw
                    case rel => exact ⟨i + 1, m.term, by omega, rfl, by go_num, HF, O2.out⟩
                    case measure => simp [intOf]; omega
                · have h1' : (m.index - 1 - (i : Int) != index) = true := by simp; omega
                  have HK := Lib.hid (newL_4 (commit := commit) HB.out HK.out (show formB index term es = false by rw [hfm.out, hfd.out, decide_eq_false (by omega), Bool.false_and]))
                  clear h1 hfm hfd
                  go_wp2
                  go_ret2
                  exact rnewPost_bad HK.out rfl O2.out
              · have i1 : ¬ (i : Int) < (es.length : Int) := by omega
                have HF := Lib.hid (show formB index term es = true by rw [hfm.out, List.drop_eq_nil_of_le (by omega)]; rfl)
                clear hfm
                by_cases hbig : 10000 < es.length
                · have hb' : (10000 : Int) < (es.length : Int) := by omega
                  have HR := Lib.hid (newL_10 (commit := commit) HB.out HK.out HF.out hbig)
                  have HO := Lib.hid hown
                  clear hown
                  go_wp2
                  go_ret2
                  exact rnewPost_bad HR.out rfl HO.out
                · have hb' : ¬ (10000 : Int) < (es.length : Int) := by omega
                  have HR := Lib.hid (newL_ok (commit := commit) HB.out HK.out HF.out hbig)
                  have HW := Lib.hid (copies_own (c := c) hn H.out.2.2 hown H.out.2.1)
                  obtain ⟨p, hp⟩ : ∃ p, index + (es.length : Int) = p := ⟨_, rfl⟩
                  have wp : IntKind.i64.wrap (index + (es.length : Int)) = p := by rw [IntWalk.i64_in _ (by omega)]; exact hp
                  rw [hp] at HR
                  have hip : index ≤ p := by omega
                  clear hown hp
                  go_wp2_with fail
                  refine (HW.out).mono ?_
                  rintro e w3 ⟨A3, c3, rfl, o3⟩
                  have O4 := Lib.hid (fun u : Int => o3.alloc (logA ⟨index, term, es, p, p, u, index, index⟩ (.slice A3 es.length c3)) 88)
                  clear o3 HW
                  go_wp2
                  all_goals
                    go_ret2
                    refine rnewPost_ok HR.out rfl (Own.log_eq (Own.log_shut (x := ⟨index, term, es, p, p, _, index, index⟩) (O4.out _)) ?_)
                    omega
      · have HR := Lib.hid (newL_1 (commit := commit) (es := es) (index := index) (term := term) (by rw [hbase]; cases z1 <;> cases z2 <;> simp_all))
        have hcase : (z1 = true ∧ z2 = false) ∨ (z1 = false ∧ z2 = true) := by cases z1 <;> cases z2 <;> simp_all
        clear hbase hzz b1 b2
        rcases hcase with ⟨rfl, rfl⟩ | ⟨rfl, rfl⟩
        all_goals
          go_enter Try.func14, Try.ntmps14
          go_wp2_with fail
          refine (hw1.out _).mono ?_
          rintro e w1 ⟨rfl, rfl⟩
          go_wp2_with fail
          refine (hw2.out _).mono ?_
          rintro e w1 ⟨rfl, rfl⟩
          go_wp2
          go_ret2
          exact rnewPost_bad HR.out rfl H.out.1
    · have HR := Lib.hid (newL_1 (commit := commit) (es := es) (index := index) (term := term) (by rw [baseB, show withinB term 0 = false by simpa using b2]; simp))
      rw [show withinB term 0 = false by simpa using b2] at hw2
      clear b1 b2
      go_enter Try.func14, Try.ntmps14
      go_wp2_with fail
      refine (hw1.out _).mono ?_
      rintro e w1 ⟨rfl, rfl⟩
      go_wp2_with fail
      refine (hw2.out _).mono ?_
      rintro e w1 ⟨rfl, rfl⟩
      go_wp2
      go_ret2
      exact rnewPost_bad HR.out rfl H.out.1
  · have HR := Lib.hid (newL_1 (commit := commit) (es := es) (index := index) (term := term) (by rw [baseB, show withinB index 0 = false by simpa using b1]; simp))
    rw [show withinB index 0 = false by simpa using b1] at hw1
    clear b1 hw2
    go_enter Try.func14, Try.ntmps14
    go_wp2_with fail
    refine (hw1.out _).mono ?_
    rintro e w1 ⟨rfl, rfl⟩
    go_wp2
    go_ret2
    exact rnewPost_bad HR.out rfl H.out.1
end
theorem checkE_in (e : E) : 0 ≤ checkE e ∧ checkE e ≤ 18 := by
  unfold checkE
  split
  · omega
  · split
    · omega
    · split
      · omega
      · split <;> omega
theorem append_err (x : Lg) (t k : Int) (d : List UInt8) : 0 ≤ (x.append t k d).1.2 ∧ (x.append t k d).1.2 ≤ 18 := by
  unfold Lg.append
  split
  · exact ⟨by simp, by simp⟩
  · split
    · exact ⟨by simp, by simp⟩
    · split
      · exact ⟨by simp, by simp⟩
      · split
        · exact checkE_in _
        · exact ⟨by simp, by simp⟩

end Go.Proofs.Ytepnkhiclgjmpaa

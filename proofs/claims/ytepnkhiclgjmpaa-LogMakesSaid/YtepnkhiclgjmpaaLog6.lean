/-
  New: a log is made.
  Conditions: none beyond each theorem's own.
-/
import Derived.Test.YtepnkhiclgjmpaaLog5
namespace Go.Proofs.Ytepnkhiclgjmpaa
set_option linter.unusedVariables false
set_option linter.unusedSimpArgs false
open Go.RowKit

def checkAll : List E → Int
  | [] => 0
  | e :: es => if checkE e ≠ 0 then checkE e else checkAll es
def formB : Int → Int → List E → Bool
  | _, _, [] => true
  | i, t, e :: es => decide (e.index = i + 1 ∧ t ≤ e.term) && formB (i + 1) e.term es
def baseB (index term : Int) : Bool := withinB index 0 && withinB term 0 && (decide (index = 0) == decide (term = 0))
def newL (index term commit : Int) (es : List E) : Option Lg × Int :=
  if baseB index term = false then (none, 1) else if checkAll es ≠ 0 then (none, checkAll es) else if formB index term es = false then (none, 4) else if 10000 < es.length then (none, 10)
  else (some ⟨index, term, es, index + es.length, index + es.length, max index (min commit (index + es.length)), index, index⟩, 0)
theorem newL_1 {index term commit : Int} {es : List E} (h : baseB index term = false) : newL index term commit es = (none, 1) := by rw [newL, if_pos h]
theorem newL_c {index term commit c : Int} {es : List E} (h : baseB index term = true) (hc : checkAll es = c) (h0 : c ≠ 0) : newL index term commit es = (none, c) := by rw [newL, if_neg (by simp [h]), hc, if_pos h0]
theorem newL_4 {index term commit : Int} {es : List E} (h : baseB index term = true) (hc : checkAll es = 0) (hf : formB index term es = false) : newL index term commit es = (none, 4) := by
  rw [newL, if_neg (by simp [h]), if_neg (by simp [hc]), if_pos hf]
theorem newL_10 {index term commit : Int} {es : List E} (h : baseB index term = true) (hc : checkAll es = 0) (hf : formB index term es = true) (hl : 10000 < es.length) : newL index term commit es = (none, 10) := by
  rw [newL, if_neg (by simp [h]), if_neg (by simp [hc]), if_neg (by simp [hf]), if_pos hl]
theorem newL_ok {index term commit : Int} {es : List E} (h : baseB index term = true) (hc : checkAll es = 0) (hf : formB index term es = true) (hl : ¬ 10000 < es.length) :
    newL index term commit es = (some ⟨index, term, es, index + es.length, index + es.length, max index (min commit (index + es.length)), index, index⟩, 0) := by
  rw [newL, if_neg (by simp [h]), if_neg (by simp [hc]), if_neg (by simp [hf]), if_neg hl]
theorem checkAll_drop {es : List E} {i : Nat} {m : E} (hm : es[i]? = some m) : checkAll (es.drop i) = if checkE m ≠ 0 then checkE m else checkAll (es.drop (i + 1)) := by
  have h := List.getElem?_eq_some_iff.1 hm
  rw [List.drop_eq_getElem_cons h.1, h.2, checkAll]
theorem formB_drop {es : List E} {i : Nat} {m : E} {x t : Int} (hm : es[i]? = some m) : formB x t (es.drop i) = (decide (m.index = x + 1 ∧ t ≤ m.term) && formB (x + 1) m.term (es.drop (i + 1))) := by
  have h := List.getElem?_eq_some_iff.1 hm
  rw [List.drop_eq_getElem_cons h.1, h.2, formB]
theorem checkAll_mem : ∀ {es : List E}, checkAll es = 0 → ∀ m, m ∈ es → checkE m = 0
  | [], _, m, hm => by cases hm
  | e :: es, h, m, hm => by
    rw [checkAll] at h
    by_cases h1 : checkE e = 0
    · rw [if_neg (by simp [h1])] at h
      rcases List.mem_cons.1 hm with rfl | hm
      · exact h1
      · exact checkAll_mem h m hm
    · rw [if_pos h1] at h; exact absurd h h1
theorem formB_idx : ∀ {es : List E} {x t : Int}, formB x t es = true → ∀ (j : Nat) (m : E), es[j]? = some m → m.index = x + 1 + (j : Int)
  | [], x, t, _, j, m, hm => by simp at hm
  | e :: es, x, t, h, j, m, hm => by
    rw [formB, Bool.and_eq_true, decide_eq_true_eq] at h
    cases j with
    | zero =>
      rw [List.getElem?_cons_zero] at hm
      injection hm with hm
      subst hm
      have := h.1.1; omega
    | succ j =>
      rw [List.getElem?_cons_succ] at hm
      have := formB_idx h.2 j m hm
      omega
theorem checkE_ok {m : E} (h : checkE m = 0) : 1 ≤ m.term ∧ m.term ≤ maxI ∧ 1 ≤ m.index ∧ m.index ≤ maxI ∧ (m.kind = 0 ∨ m.kind = 1) ∧ m.dat.length ≤ 4096 := by
  unfold checkE at h
  split at h
  · cases h
  · rename_i h1
    split at h
    · cases h
    · rename_i h2
      split at h
      · cases h
      · rename_i h3
        have h4 : (1 ≤ m.term ∧ m.term ≤ maxI) ∧ (1 ≤ m.index ∧ m.index ≤ maxI) := ⟨Classical.byContradiction fun h => h1 (.inl h), Classical.byContradiction fun h => h1 (.inr h)⟩
        exact ⟨h4.1.1, h4.1.2, h4.2.1, h4.2.2, by omega, by omega⟩
theorem newL_isOk {index term commit er : Int} {es : List E} {x : Lg} (h : newL index term commit es = (some x, er)) : x.Ok ∧ x.index = index ∧ x.term = term ∧ x.L = es := by
  unfold newL at h
  split at h
  · cases h
  · rename_i h1
    split at h
    · cases h
    · rename_i h2
      split at h
      · cases h
      · rename_i h3
        split at h
        · cases h
        · rename_i h4
          injection h with h5 h6
          injection h5 with h5
          subst h5
          have hb : baseB index term = true := by simpa using h1
          have hc : checkAll es = 0 := by simpa using h2
          have hf : formB index term es = true := by simpa using h3
          simp only [baseB, withinB, Bool.and_eq_true, decide_eq_true_eq] at hb
          refine ⟨⟨by simp only; omega, by simp only; omega, by simp only; omega, fun j e he => ?_, fun e he => (checkE_ok (checkAll_mem hc e he)).2.2.2.2.2, ?_, ?_, ?_, ?_, ?_, ?_, ?_⟩, rfl, rfl, rfl⟩
          · exact ⟨formB_idx hf j e he, (checkE_ok (checkAll_mem hc e (List.mem_of_getElem? he))).2.2.2.1⟩
          all_goals (simp only [Lg.lastI]; omega)

def NewPost (S : Nat → Prop) (w0 : World) (R : List SP) (r : Option Lg × Int) (e : Ending) (w' : World) : Prop := match r with
  | (none, er) => e = .returned (.tuple #[.pointer none, .int .i64 er]) ∧ Own S w0 w' R
  | (some x, _) => ∃ g, e = .returned (.tuple #[.pointer (some ⟨g, 0, none⟩), .int .i64 0]) ∧ Own S w0 w' (SP.log 85 g x :: R)
theorem newPost_bad {S : Nat → Prop} {w0 w' : World} {R : List SP} {r : Option Lg × Int} {er : Int} {e : Ending} (hr : r = (none, er)) (he : e = .returned (.tuple #[.pointer none, .int .i64 er])) (h : Own S w0 w' R) : NewPost S w0 R r e w' := by subst hr; exact ⟨he, h⟩
theorem newPost_ok {S : Nat → Prop} {w0 w' : World} {R : List SP} {r : Option Lg × Int} {er : Int} {x : Lg} {e : Ending} {g : Nat} (hr : r = (some x, er)) (he : e = .returned (.tuple #[.pointer (some ⟨g, 0, none⟩), .int .i64 0])) (h : Own S w0 w' (SP.log 85 g x :: R)) : NewPost S w0 R r e w' := by subst hr; exact ⟨g, he, h⟩
theorem Own.log_eq {S : Nat → Prop} {w0 w : World} {R : List SP} {T : TypeId} {g : Nat} {a b h s u ap ad u' : Int} {L : List E} (ho : Own S w0 w (SP.log T g ⟨a, b, L, h, s, u, ap, ad⟩ :: R)) (hu : u = u') : Own S w0 w (SP.log T g ⟨a, b, L, h, s, u', ap, ad⟩ :: R) := hu ▸ ho

section
variable {S : Nat → Prop} {w0 w : World} {R : List SP}
set_option maxRecDepth 100000 in
set_option maxHeartbeats 6400000 in
theorem new_own {A : Option Addr} {c : Nat} {es : List E} (hn : es.length ≤ 1000000) (hdl : ∀ m, m ∈ es → m.dat.length ≤ 140737488351232) (h : Own S w0 w R) (hr : EReads S w0 R A es) (index term commit : Int) :
    Calls Try.prog 13 #[.int .i64 index, .int .i64 term, .int .i64 commit, .slice A es.length c] w (NewPost S w0 R (newL index term commit es)) := by
  have H := Lib.hid (And.intro h (And.intro hr hdl))
  have hw1 := Lib.hid (fun W => within_calls W index 0)
  have hw2 := Lib.hid (fun W => within_calls W term 0)
  clear h hr hdl
  by_cases b1 : withinB index 0 = true
  · rw [b1] at hw1
    by_cases b2 : withinB term 0 = true
    · rw [b2] at hw2
      obtain ⟨z1, hz1⟩ : ∃ z1, (index == 0) = z1 := ⟨_, rfl⟩
      obtain ⟨z2, hz2⟩ : ∃ z2, (term == 0) = z2 := ⟨_, rfl⟩
      have hbase : baseB index term = (z1 == z2) := by
        rw [baseB, b1, b2, ← hz1, ← hz2]; rfl
      have hib : 0 ≤ index ∧ index ≤ 4611686018427387904 := by
        simp only [withinB, decide_eq_true_eq] at b1
        rw [← maxI_eq]; exact b1
      obtain ⟨hi0, hi1⟩ := hib
      by_cases hzz : z1 = z2
      · subst hzz
        have HB := Lib.hid (show baseB index term = true by rw [hbase]; simp)
        have hzz : (z1 != z1) = false := by simp
        have hzz2 : ((!z1) == z1) = false := by simp
        clear hbase b1 b2
        go_enter Try.func13, Try.ntmps13
        go_wp2_with fail
        refine (hw1.out _).mono ?_
        rintro e w1 ⟨rfl, rfl⟩
        go_wp2_with fail
        refine (hw2.out _).mono ?_
        rintro e w1 ⟨rfl, rfl⟩
        clear hw1 hw2
        go_wp2
        clear hz1 hz2
        go_loopw [36] (fun ti wr => ∃ i : Nat, i ≤ es.length ∧ ti = .int .i64 i ∧ Hid (checkAll es = checkAll (es.drop i)) ∧ Own S w0 wr R) (fun ti _ => es.length - (intOf ti).toNat)
        case atStart => exact ⟨0, Nat.zero_le _, rfl, rfl, H.out.1⟩
        case round =>
          obtain ⟨i, hi, rfl, hck, hown⟩ := hrel
          by_cases hin : i < es.length
          · have i1 : (i : Int) < (es.length : Int) := by omega
            obtain ⟨m, hm⟩ : ∃ m, es[i]? = some m := ⟨_, List.getElem?_eq_getElem hin⟩
            obtain ⟨b, off, Ad, cd, rfl, hbl, k0, k1, k2, k3, -, -, -⟩ := H.out.2.1 _ [] hown i m hm
            have hckm := Lib.hid (checkAll_drop hm)
            have o1 := hown.alloc #[.int .i64 m.term, .int .i64 m.index, .int .i64 m.kind, .slice Ad m.dat.length cd] 26
            have HC := check_own o1 m Ad cd (H.out.2.2 m (List.mem_of_getElem? hm))
            obtain ⟨ce, hce⟩ : ∃ ce, checkE m = ce := ⟨_, rfl⟩
            obtain ⟨dl, hdl⟩ : ∃ dl, m.dat.length = dl := ⟨_, rfl⟩
            rw [hce, hdl] at HC
            rw [hdl] at k3
            have HC := Lib.hid HC
            rw [hce] at hckm
            clear hown o1 hm hce hdl
            go_wp2_with fail
            refine (HC.out).mono ?_
            rintro e w2 ⟨rfl, o2⟩
            have O2 := Lib.hid o2.pop
            clear o2 HC k0 k1 k2 k3
            by_cases h0 : ce = 0
            · have h0' : (ce != 0) = false := by simp [h0]
              have HK := Lib.hid (show checkAll es = checkAll (es.drop (i + 1)) by rw [hck.out, hckm.out, if_neg (by simp [h0])])
              clear h0 hck hckm
              go_wp2
              go_roundw
              case rel => exact ⟨i + 1, by omega, by go_num, HK, O2.out⟩
              case measure => simp [intOf]; omega
            · have h0' : (ce != 0) = true := by simpa using h0
              have HK := Lib.hid (newL_c (commit := commit) HB.out (show checkAll es = ce by rw [hck.out, hckm.out, if_pos h0]) h0)
              clear h0 hck hckm
              go_wp2
              go_ret2
              exact newPost_bad HK.out rfl O2.out
          · have i1 : ¬ (i : Int) < (es.length : Int) := by omega
            have HK := Lib.hid (show checkAll es = 0 by rw [hck.out, List.drop_eq_nil_of_le (by omega)]; rfl)
            have HO := Lib.hid hown
            clear hck hown
            go_wp2
            go_loopw [13, 50] (fun ta ti wr => ∃ (i : Nat) (a : Int), i ≤ es.length ∧ ta = .int .i64 a ∧ ti = .int .i64 i ∧ Hid (formB index term es = formB (index + (i : Int)) a (es.drop i)) ∧ Own S w0 wr R) (fun _ ti _ => es.length - (intOf ti).toNat)
            case atStart => exact ⟨0, term, Nat.zero_le _, rfl, rfl, by show _ = _; simp, HO.out⟩
            case round =>
              obtain ⟨i, a, hi, rfl, rfl, hfm, hown⟩ := hrel
              clear HO
              by_cases hin : i < es.length
              · have i1 : (i : Int) < (es.length : Int) := by omega
                obtain ⟨m, hm⟩ : ∃ m, es[i]? = some m := ⟨_, List.getElem?_eq_getElem hin⟩
                obtain ⟨b, off, Ad, cd, rfl, hbl, k0, k1, k2, k3, -, -, -⟩ := H.out.2.1 _ [] hown i m hm
                have hfd := Lib.hid (formB_drop (x := index + (i : Int)) (t := a) hm)
                have O2 := Lib.hid (hown.alloc #[.int .i64 m.term, .int .i64 m.index, .int .i64 m.kind, .slice Ad m.dat.length cd] 26).pop
                obtain ⟨dl, hdl⟩ : ∃ dl, m.dat.length = dl := ⟨_, rfl⟩
                rw [hdl] at k3 O2
                clear hown hm hdl
                by_cases h1 : m.index = index + 1 + (i : Int)
                · have h1' : (m.index != index + 1 + (i : Int)) = false := by simpa using h1
                  by_cases h2 : m.term < a
                  · have HK := Lib.hid (newL_4 (commit := commit) HB.out HK.out (show formB index term es = false by rw [hfm.out, hfd.out, decide_eq_false (by omega), Bool.false_and]))
                    clear h1 hfm hfd
                    go_wp2
                    go_ret2
                    exact newPost_bad HK.out rfl O2.out
                  · have HF := Lib.hid (show formB index term es = formB (index + ((i + 1 : Nat) : Int)) m.term (es.drop (i + 1)) by
                      rw [hfm.out, hfd.out, decide_eq_true (show m.index = index + (i : Int) + 1 ∧ a ≤ m.term by omega), Bool.true_and, show index + (i : Int) + 1 = index + ((i + 1 : Nat) : Int) by omega])
                    clear h1 hfm hfd
                    go_wp2
                    go_roundw
                    case rel => exact ⟨i + 1, m.term, by omega, rfl, by go_num, HF, O2.out⟩
                    case measure => simp [intOf]; omega
                · have h1' : (m.index != index + 1 + (i : Int)) = true := by simpa using h1
                  have HK := Lib.hid (newL_4 (commit := commit) HB.out HK.out (show formB index term es = false by rw [hfm.out, hfd.out, decide_eq_false (by omega), Bool.false_and]))
                  clear h1 hfm hfd
                  go_wp2
                  go_ret2
                  exact newPost_bad HK.out rfl O2.out
              · have i1 : ¬ (i : Int) < (es.length : Int) := by omega
                have HF := Lib.hid (show formB index term es = true by rw [hfm.out, List.drop_eq_nil_of_le (by omega)]; rfl)
                clear hfm
                by_cases hbig : 10000 < es.length
                · have hb' : (10000 : Int) < (es.length : Int) := by omega
                  have HR := Lib.hid (newL_10 (commit := commit) HB.out HK.out HF.out hbig)
                  have HO := Lib.hid hown
                  clear hown
                  go_wp2
                  go_ret2
                  exact newPost_bad HR.out rfl HO.out
                · have hb' : ¬ (10000 : Int) < (es.length : Int) := by omega
                  have HR := Lib.hid (newL_ok (commit := commit) HB.out HK.out HF.out hbig)
                  have HW := Lib.hid (own_own (c := c) hn H.out.2.2 hown H.out.2.1)
                  clear hown
                  go_wp2_with fail
                  refine (HW.out).mono ?_
                  rintro e w3 ⟨A3, c3, rfl, o3⟩
                  obtain ⟨g, hg⟩ : ∃ g, w3.heap.size = g := ⟨_, rfl⟩
                  have HG := Lib.hid hg
                  have o4 := o3.alloc (logA ⟨index, term, es, 0, 0, 0, 0, 0⟩ (.slice A3 es.length c3)) 85
                  rw [hg] at o4
                  have HL := last_own (x := ⟨index, term, es, 0, 0, 0, 0, 0⟩) hn (Own.log_shut o4) (fun j e he => formB_idx HF.out j e he)
                  obtain ⟨p, hp⟩ : ∃ p, index + (es.length : Int) = p := ⟨_, rfl⟩
                  obtain ⟨q, hq⟩ : ∃ q, (⟨index, term, es, 0, 0, 0, 0, 0⟩ : Lg).lastT = q := ⟨_, rfl⟩
                  rw [show (⟨index, term, es, 0, 0, 0, 0, 0⟩ : Lg).lastI = index + (es.length : Int) from rfl, hp, hq] at HL
                  rw [hp] at HR
                  have HP := Lib.hid hp
                  have hip : index ≤ p := by omega
                  have HL := Lib.hid HL
                  unfold logA at HL
                  clear o3 o4 HW hg hp hq
                  go_wp2_with fail
                  simp only [HG.out]
                  refine (HL.out).mono ?_
                  rintro e w5 ⟨rfl, o5⟩
                  obtain ⟨A5, c5, -, -, o6, -, c0, c1, c2, k3, k4, k5, k6, k7⟩ := o5.log_cells
                  have f3 := o6.blk_free 3
                  have f4 := o6.blk_free 4
                  have f5 := o6.blk_free 5
                  have f6 := o6.blk_free 6
                  have f7 := o6.blk_free 7
                  have O6 := Lib.hid (fun u : Int => ((((o6.blk_set 3 (.int .i64 p)).blk_set 4 (.int .i64 p)).blk_set 5 (.int .i64 u)).blk_set 6 (.int .i64 index)).blk_set 7 (.int .i64 index))
                  clear o5 o6 HL
                  go_wp2
                  all_goals
                    go_ret2
                    refine newPost_ok HR.out rfl (Own.log_eq (Own.log_shut (x := ⟨index, term, es, p, p, _, index, index⟩) (O6.out _)) ?_)
                    omega
      · have HR := Lib.hid (newL_1 (commit := commit) (es := es) (index := index) (term := term) (by rw [hbase]; cases z1 <;> cases z2 <;> simp_all))
        have hcase : (z1 = true ∧ z2 = false) ∨ (z1 = false ∧ z2 = true) := by cases z1 <;> cases z2 <;> simp_all
        clear hbase hzz b1 b2
        rcases hcase with ⟨rfl, rfl⟩ | ⟨rfl, rfl⟩
        all_goals
          go_enter Try.func13, Try.ntmps13
          go_wp2_with fail
          refine (hw1.out _).mono ?_
          rintro e w1 ⟨rfl, rfl⟩
          go_wp2_with fail
          refine (hw2.out _).mono ?_
          rintro e w1 ⟨rfl, rfl⟩
          go_wp2
          go_ret2
          exact newPost_bad HR.out rfl H.out.1
    · have HR := Lib.hid (newL_1 (commit := commit) (es := es) (index := index) (term := term) (by rw [baseB, show withinB term 0 = false by simpa using b2]; simp))
      rw [show withinB term 0 = false by simpa using b2] at hw2
      clear b1 b2
      go_enter Try.func13, Try.ntmps13
      go_wp2_with fail
      refine (hw1.out _).mono ?_
      rintro e w1 ⟨rfl, rfl⟩
      go_wp2_with fail
      refine (hw2.out _).mono ?_
      rintro e w1 ⟨rfl, rfl⟩
      go_wp2
      go_ret2
      exact newPost_bad HR.out rfl H.out.1
  · have HR := Lib.hid (newL_1 (commit := commit) (es := es) (index := index) (term := term) (by rw [baseB, show withinB index 0 = false by simpa using b1]; simp))
    rw [show withinB index 0 = false by simpa using b1] at hw1
    clear b1 hw2
    go_enter Try.func13, Try.ntmps13
    go_wp2_with fail
    refine (hw1.out _).mono ?_
    rintro e w1 ⟨rfl, rfl⟩
    go_wp2
    go_ret2
    exact newPost_bad HR.out rfl H.out.1
end
end Go.Proofs.Ytepnkhiclgjmpaa

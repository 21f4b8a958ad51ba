/-
  LogNewer as a call: it returns true, and what was there stays.
  Conditions: the numbers lie in memory as they were handed in.
-/
import Derived.Test.YtepnkhiclgjmpaaBuilt
namespace Go.Proofs.Ytepnkhiclgjmpaa
set_option linter.unusedVariables false
set_option linter.unusedSimpArgs false
open Go.RowKit

theorem bLog_ok {ts : List Int} : ∀ {n : Nat}, ts.length = n → Rise ts → n ≤ 10000 → (bLog ts).Ok := by
  intro n
  induction n generalizing ts with
  | zero => intro h _ _; obtain rfl := List.length_eq_zero_iff.1 h; exact bLog_nil_ok
  | succ n ih =>
    intro h hr hn
    rcases List.eq_nil_or_concat ts with rfl | ⟨l, t, rfl⟩
    · cases h
    · have hl : l.length = n := by simpa using h
      have hrl : Rise l := by have := hr.take l.length; simpa using this
      have h1 := bLog_append (ts := l) (t := t) (by simpa using hr) (by omega)
      have h2 := append_isOk (ih hl hrl (by omega)) t 1 [UInt8.ofNat t.toNat]
      rw [h1] at h2
      simpa using h2
theorem rise_rising (l : List Int) : Rise (risingL 1 l) := by
  obtain ⟨h1, h2⟩ := risingL_bd l 1 (by decide) (by decide)
  exact ⟨h1, h2⟩
theorem newer_law (x y : Lg) : ∃ one two e1 e2, x.newer y.lastI y.lastT = one ∧ y.newer x.lastI x.lastT = two ∧ (x.lastI == y.lastI) = e1 ∧ (x.lastT == y.lastT) = e2 ∧ x.newer x.lastI x.lastT = true ∧ (one || two) = true ∧ ((one && two) == (e1 && e2)) = true := by
  refine ⟨_, _, _, _, rfl, rfl, rfl, rfl, ?_, ?_, ?_⟩
  · unfold Lg.newer; exact decide_eq_true (.inr ⟨rfl, Int.le_refl _⟩)
  · unfold Lg.newer
    rw [Bool.or_eq_true, decide_eq_true_eq, decide_eq_true_eq]
    omega
  · unfold Lg.newer
    rw [beq_iff_eq, Bool.eq_iff_iff, Bool.and_eq_true, Bool.and_eq_true, decide_eq_true_eq, decide_eq_true_eq, beq_iff_eq, beq_iff_eq]
    omega

set_option maxRecDepth 100000 in
set_option maxHeartbeats 3200000 in
theorem newer_calls (w : World) (A : Option Addr) (c : Nat) (a : List Int) (ha : Rd w A (ints a)) (B : Option Addr) (d : Nat) (b : List Int) (hb : Rd w B (ints b)) :
    Calls Try.prog 5 #[.slice A a.length c, .slice B b.length d] w fun e w' => e = .returned (.bool true) ∧ Below w.heap.size w w' := by
  have HF := Lib.hid (first_own (Own.start w))
  have HA := Lib.hid ha
  have HB := Lib.hid hb
  clear ha hb
  by_cases hbig : 200 < a.length ∨ 200 < b.length
  · obtain ⟨ga, hga⟩ : ∃ ga : Bool, decide ((200 : Int) < (a.length : Int)) = ga := ⟨_, rfl⟩
    obtain ⟨gb, hgb⟩ : ∃ gb : Bool, decide ((200 : Int) < (b.length : Int)) = gb := ⟨_, rfl⟩
    have hg : (ga || gb) = true := by
      rw [Bool.or_eq_true, ← hga, ← hgb, decide_eq_true_eq, decide_eq_true_eq]; omega
    clear hbig
    go_enter Try.func5, Try.ntmps5
    go_wp2_with fail
    refine (HF.out).mono ?_
    rintro e w1 ⟨rfl, o1⟩
    have O1 := Lib.hid o1
    clear o1 HF
    cases ga with
    | true =>
      have ha' : (200 : Int) < (a.length : Int) := of_decide_eq_true hga
      go_wp2
      go_ret
      exact ⟨rfl, O1.out.below⟩
    | false =>
      have ha' : ¬ (200 : Int) < (a.length : Int) := of_decide_eq_false hga
      obtain rfl : gb = true := by simpa using hg
      have hb' : (200 : Int) < (b.length : Int) := of_decide_eq_true hgb
      go_wp2
      go_ret
      exact ⟨rfl, O1.out.below⟩
  · have ha' : ¬ (200 : Int) < (a.length : Int) := by omega
    have hb' : ¬ (200 : Int) < (b.length : Int) := by omega
    obtain ⟨p, hp⟩ : ∃ p, risingL 1 a = p := ⟨_, rfl⟩
    obtain ⟨q, hq⟩ : ∃ q, risingL 1 b = q := ⟨_, rfl⟩
    have hpl : p.length = a.length := by rw [← hp, risingL_length]
    have hql : q.length = b.length := by rw [← hq, risingL_length]
    have hpr : Rise p := hp ▸ rise_rising a
    have hqr : Rise q := hq ▸ rise_rising b
    have hpo := bLog_ok rfl hpr (by omega)
    have hqo := bLog_ok rfl hqr (by omega)
    obtain ⟨one, two, e1, e2, n1, n2, n3, n4, n5, n6, n7⟩ := newer_law (bLog p) (bLog q)
    have HP := Lib.hid (And.intro hp (And.intro hpr (And.intro hpo (And.intro (show p.length < 10000 by omega) hpl))))
    have HQ := Lib.hid (And.intro hq (And.intro hqr (And.intro hqo (And.intro (show q.length < 10000 by omega) hql))))
    have HN := Lib.hid (And.intro n1 (And.intro n2 n5))
    obtain ⟨i, hi⟩ : ∃ i, (bLog p).lastI = i := ⟨_, rfl⟩
    obtain ⟨t, ht⟩ : ∃ t, (bLog p).lastT = t := ⟨_, rfl⟩
    obtain ⟨j, hj⟩ : ∃ j, (bLog q).lastI = j := ⟨_, rfl⟩
    obtain ⟨u, hu⟩ : ∃ u, (bLog q).lastT = u := ⟨_, rfl⟩
    have HI := Lib.hid (And.intro hi (And.intro ht (And.intro hj hu)))
    rw [hi, ht, hj, hu] at HN
    rw [hi, hj] at n3
    rw [ht, hu] at n4
    clear hbig hp hq hpl hql hpr hqr hpo hqo n1 n2 n5 hi ht hj hu
    go_enter Try.func5, Try.ntmps5
    go_wp2_with fail
    refine (HF.out).mono ?_
    rintro e w1 ⟨rfl, o1⟩
    have HR := Lib.hid (rising_own (A := A) (c := c) (l := a) (by omega) o1 (fun W X hX => HA.out.below hX.below))
    clear o1 HF
    go_wp2_with fail
    refine (HR.out).mono ?_
    rintro e w2 ⟨A2, c2, rfl, o2⟩
    rw [HP.out.1, ← HP.out.2.2.2.2] at *
    have HR2 := Lib.hid (built_own HP.out.2.2.2.1 HP.out.2.1 o2)
    clear o2 HR
    go_wp2_with fail
    refine (HR2.out).mono ?_
    rintro e w3 ⟨g, rfl, o3⟩
    have HR3 := Lib.hid (rising_own (A := B) (c := d) (l := b) (by omega) o3 (fun W X hX => HB.out.below hX.below))
    clear o3 HR2
    go_wp2_with fail
    refine (HR3.out).mono ?_
    rintro e w4 ⟨A4, c4, rfl, o4⟩
    rw [HQ.out.1, ← HQ.out.2.2.2.2] at *
    have HR4 := Lib.hid (built_own HQ.out.2.2.2.1 HQ.out.2.1 o4)
    clear o4 HR3
    go_wp2_with fail
    refine (HR4.out).mono ?_
    rintro e w5 ⟨g2, rfl, o5⟩
    have o6 := o5.pick (L := [_, _, _, _]) [2, 0]
    have HR5 := Lib.hid (last_own (by have := HP.out.2.2.1.len; omega) o6 (fun j e he => (HP.out.2.2.1.idx j e he).1))
    rw [HI.out.1, HI.out.2.1] at HR5
    clear o5 o6 HR4
    go_wp2_with fail
    refine (HR5.out).mono ?_
    rintro e w6 ⟨rfl, o6⟩
    have HR6 := Lib.hid (last_own (by have := HQ.out.2.2.1.len; omega) o6.swap (fun j e he => (HQ.out.2.2.1.idx j e he).1))
    rw [HI.out.2.2.1, HI.out.2.2.2] at HR6
    clear o6 HR5
    go_wp2_with fail
    refine (HR6.out).mono ?_
    rintro e w7 ⟨rfl, o7⟩
    have HR7 := Lib.hid (newer_own (by have := HP.out.2.2.1.len; omega) (fun j e he => (HP.out.2.2.1.idx j e he).1) o7.swap j u)
    rw [HN.out.1] at HR7
    clear o7 HR6
    go_wp2_with fail
    refine (HR7.out).mono ?_
    rintro e w8 ⟨rfl, o8⟩
    have HR8 := Lib.hid (newer_own (by have := HQ.out.2.2.1.len; omega) (fun j e he => (HQ.out.2.2.1.idx j e he).1) o8.swap i t)
    rw [HN.out.2.1] at HR8
    clear o8 HR7
    go_wp2_with fail
    refine (HR8.out).mono ?_
    rintro e w9 ⟨rfl, o9⟩
    have HR9 := Lib.hid (newer_own (by have := HP.out.2.2.1.len; omega) (fun j e he => (HP.out.2.2.1.idx j e he).1) o9.swap i t)
    rw [HN.out.2.2] at HR9
    clear o9 HR8
    have fin : ∀ {W : World}, True → Calls Try.prog 25 #[.pointer (some ⟨g, 0, none⟩), .int .i64 i, .int .i64 t] w9 fun e w' => e = .returned (.bool true) ∧ Below w.heap.size w w' := fun _ => (HR9.out).mono fun e w' h => ⟨h.1, h.2.below⟩
    have FIN := Lib.hid (@fin w trivial)
    clear fin HR9 HA HB HP HQ HN HI
    cases one <;> cases two <;> cases e1 <;> cases e2 <;> first
      | (exfalso; clear FIN; revert n6 n7; decide)
      | (go_wp2_with fail
         refine (FIN.out).mono ?_
         rintro e w10 ⟨rfl, o10⟩
         have O10 := Lib.hid o10
         clear o10
         go_wp2
         go_ret
         exact ⟨rfl, O10.out⟩)
end Go.Proofs.Ytepnkhiclgjmpaa

/-
  LogHints as a call: it returns true, and what was there stays.
  Conditions: the numbers lie in memory as they were handed in; the index is an int.
-/
import Derived.Test.YtepnkhiclgjmpaaLNewer
namespace Go.Proofs.Ytepnkhiclgjmpaa
set_option linter.unusedVariables false
set_option linter.unusedSimpArgs false
open Go.RowKit

theorem down_le (x : Lg) (t : Int) : ∀ n : Nat, x.index ≤ x.down t n ∧ x.down t n ≤ x.index + (n : Int)
  | 0 => by rw [Lg.down]; omega
  | n + 1 => by
    have h := down_le x t n
    rw [Lg.down]; split
    · omega
    · omega
theorem down_ge (x : Lg) (t : Int) {m : Nat} (hm : m = 0 ∨ (x.at (x.index + (m : Int))).1 ≤ t) : ∀ n : Nat, m ≤ n → x.index + (m : Int) ≤ x.down t n
  | 0, h => by rw [Lg.down]; omega
  | n + 1, h => by
    rw [Lg.down]; split
    · omega
    · rename_i hn
      by_cases hmn : m = n + 1
      · subst hmn
        rcases hm with h0 | h0
        · omega
        · exact absurd h0 hn
      · exact down_ge x t hm n (by omega)
theorem bLog_at {q : List Int} {k : Nat} {t : Int} (h : q[k]? = some t) : ((bLog q).at ((k + 1 : Nat) : Int)).1 = t := by
  have h1 : ¬ ((k + 1 : Nat) : Int) < (bLog q).index := by show ¬ ((k + 1 : Nat) : Int) < 0; omega
  have h2 : ¬ ((k + 1 : Nat) : Int) = (bLog q).index := by show ¬ ((k + 1 : Nat) : Int) = 0; omega
  have h3 : (bLog q).entry? ((k + 1 : Nat) : Int) = some (bEnt k t) := by
    rw [Lg.entry?, if_pos (by show (0 : Int) < _; omega), show (((k + 1 : Nat) : Int) - (bLog q).index - 1).toNat = k by show (((k + 1 : Nat) : Int) - 0 - 1).toNat = k; omega]
    exact bEnts_get h
  rw [Lg.at, if_neg h1, if_neg h2, h3]; rfl
/-- The law: h is no less than what both have, and no more than either. -/
theorem hint_law {p q : List Int} {m i : Nat} {t : Int} (hr : Rise p) (hmp : m ≤ p.length) (hmq : m ≤ q.length) (hm : ∀ k, k < m → p[k]? = q[k]?) (h1 : 1 ≤ i) (hi : i ≤ p.length) (ht : p[i - 1]? = some t) :
    ((if (i : Int) < (m : Int) then (i : Int) else (m : Int)) ≤ (bLog q).hint i t) ∧ (bLog q).hint i t ≤ (i : Int) ∧ (bLog q).hint i t ≤ (q.length : Int) := by
  rw [Lg.hint, bLog_lastI, show (bLog q).index = 0 from rfl]
  have hd := down_le (bLog q) t (min (i : Int) (q.length : Int) - 0).toNat
  rw [show (bLog q).index = 0 from rfl] at hd
  refine ⟨?_, by omega, by omega⟩
  obtain ⟨n, hn⟩ : ∃ n : Nat, min i m = n := ⟨_, rfl⟩
  have hge := down_ge (bLog q) t (m := n) (by
    rw [show (bLog q).index = 0 from rfl, Int.zero_add]
    cases n with
    | zero => exact .inl rfl
    | succ k =>
      right
      obtain ⟨u, hu⟩ : ∃ u, p[k]? = some u := ⟨_, List.getElem?_eq_getElem (by omega)⟩
      have hq := hm k (by omega)
      rw [hu] at hq
      rw [bLog_at hq.symm]
      by_cases hk : k = i - 1
      · subst hk; rw [hu] at ht; cases ht; exact Int.le_refl _
      · have e1 := List.getElem?_eq_some_iff.1 hu
        have e2 := List.getElem?_eq_some_iff.1 ht
        have := List.pairwise_iff_getElem.1 hr.2 k (i - 1) e1.1 e2.1 (by omega)
        rw [e1.2, e2.2] at this
        exact this) (min (i : Int) (q.length : Int) - 0).toNat (by omega)
  rw [show (bLog q).index = 0 from rfl] at hge
  split <;> omega
theorem mod_parts (x : Int) {L : Nat} (h : 1 ≤ L) (h2 : L ≤ 200) : ∃ (a : Int) (j : Nat), Int.tmod x (L : Int) = a ∧ -200 < a ∧ a < 200 ∧ j < L ∧ Int.tmod (a + (L : Int)) (L : Int) = (j : Int) := by
  have h3 : Int.tmod x (L : Int) < (L : Int) := Int.tmod_lt_of_pos x (by omega)
  have h4 : -(L : Int) < Int.tmod x (L : Int) := Int.lt_tmod_of_pos x (by omega)
  obtain ⟨a, ha⟩ : ∃ a, Int.tmod x (L : Int) = a := ⟨_, rfl⟩
  rw [ha] at h3 h4
  have h5 : 0 ≤ Int.tmod (a + (L : Int)) (L : Int) := Int.tmod_nonneg _ (by omega)
  have h6 : Int.tmod (a + (L : Int)) (L : Int) < (L : Int) := Int.tmod_lt_of_pos _ (by omega)
  obtain ⟨b, hb⟩ : ∃ b, Int.tmod (a + (L : Int)) (L : Int) = b := ⟨_, rfl⟩
  rw [hb] at h5 h6
  exact ⟨a, b.toNat, ha, by omega, by omega, by omega, by rw [hb]; omega⟩

set_option maxRecDepth 100000 in
set_option maxHeartbeats 6400000 in
theorem hints_calls (w : World) (A : Option Addr) (c : Nat) (a : List Int) (ha : Rd w A (ints a)) (B : Option Addr) (d : Nat) (b : List Int) (hb : Rd w B (ints b)) (ix : Int) (hix : In64 ix) :
    Calls Try.prog 4 #[.slice A a.length c, .slice B b.length d, .int .i64 ix] w fun e w' => e = .returned (.bool true) ∧ Below w.heap.size w w' := by
  have HF := Lib.hid (first_own (Own.start w))
  have HA := Lib.hid ha
  have HB := Lib.hid hb
  clear ha hb
  by_cases hbig : 200 < a.length ∨ 200 < b.length ∨ a.length = 0
  · obtain ⟨ga, hga⟩ : ∃ ga : Bool, decide ((200 : Int) < (a.length : Int)) = ga := ⟨_, rfl⟩
    obtain ⟨gb, hgb⟩ : ∃ gb : Bool, decide ((200 : Int) < (b.length : Int)) = gb := ⟨_, rfl⟩
    obtain ⟨gc, hgc⟩ : ∃ gc : Bool, ((a.length : Int) == 0) = gc := ⟨_, rfl⟩
    have hg : (ga || gb || gc) = true := by
      rw [Bool.or_eq_true, Bool.or_eq_true, ← hga, ← hgb, ← hgc, decide_eq_true_eq, decide_eq_true_eq, beq_iff_eq]; omega
    clear hbig
    go_enter Try.func4, Try.ntmps4
    go_wp2_with fail
    refine (HF.out).mono ?_
    rintro e w1 ⟨rfl, o1⟩
    have O1 := Lib.hid o1
    clear o1 HF
    cases ga with
    | true =>
      have ha' : (200 : Int) < (a.length : Int) := of_decide_eq_true hga
      go_wp2
      go_ret
      exact ⟨rfl, O1.out.below⟩
    | false =>
      have ha' : ¬ (200 : Int) < (a.length : Int) := of_decide_eq_false hga
      cases gb with
      | true =>
        have hb' : (200 : Int) < (b.length : Int) := of_decide_eq_true hgb
        go_wp2
        go_ret
        exact ⟨rfl, O1.out.below⟩
      | false =>
        have hb' : ¬ (200 : Int) < (b.length : Int) := of_decide_eq_false hgb
        obtain rfl : gc = true := by simpa using hg
        go_wp2
        go_ret
        exact ⟨rfl, O1.out.below⟩
  · have ha' : ¬ (200 : Int) < (a.length : Int) := by omega
    have hb' : ¬ (200 : Int) < (b.length : Int) := by omega
    have hc' : ((a.length : Int) == 0) = false := by rw [beq_eq_false_iff_ne]; omega
    obtain ⟨p, hp⟩ : ∃ p, risingL 1 a = p := ⟨_, rfl⟩
    obtain ⟨q, hq⟩ : ∃ q, risingL 1 b = q := ⟨_, rfl⟩
    have hpl : p.length = a.length := by rw [← hp, risingL_length]
    have hql : q.length = b.length := by rw [← hq, risingL_length]
    have hpr : Rise p := hp ▸ rise_rising a
    have hqr : Rise q := hq ▸ rise_rising b
    have hqo := bLog_ok rfl hqr (by omega)
    obtain ⟨r, j, hr, hr1, hr2, hj, hr3⟩ := mod_parts ix (L := p.length) (by omega) (by omega)
    obtain ⟨t, ht⟩ : ∃ t, p[j]? = some t := ⟨_, List.getElem?_eq_getElem (by omega)⟩
    have HP := Lib.hid (And.intro hp (And.intro hpr (show p.length < 10000 by omega)))
    have HQ := Lib.hid (And.intro hq (And.intro hqr (And.intro hqo (show q.length < 10000 by omega))))
    have HT := Lib.hid ht
    have hp200 : p.length ≤ 200 := by omega
    have hq200 : q.length ≤ 200 := by omega
    have hp0 : ¬ (p.length : Int) = 0 := by omega
    have HPL := Lib.hid hpl
    have HQL := Lib.hid hql
    rw [← hpl] at ha' hc'
    rw [← hql] at hb'
    have HR0 := Lib.hid (fun (W : World) (h : Own (fun _ => False) w W []) => rising_own (A := A) (c := c) (l := a) (by omega) h (fun W X hX => HA.out.below hX.below))
    have HR1 := Lib.hid (fun (W : World) (R : List SP) (h : Own (fun _ => False) w W R) => rising_own (A := B) (c := d) (l := b) (by omega) h (fun W X hX => HB.out.below hX.below))
    rw [hp, ← hpl] at HR0
    rw [hq, ← hql] at HR1
    rw [← hpl, ← hql]
    clear hbig hp hq hpl hql hpr hqr hqo ht HA HB
    obtain ⟨hx1, hx2⟩ := hix
    go_enter Try.func4, Try.ntmps4
    go_wp2_with fail
    refine (HF.out).mono ?_
    rintro e w1 ⟨rfl, o1⟩
    have HR := Lib.hid (HR0.out w1 o1)
    clear o1 HF
    go_wp2_with fail
    refine (HR.out).mono ?_
    rintro e w2 ⟨A2, c2, rfl, o2⟩
    have HRb := Lib.hid (HR1.out w2 _ o2)
    clear o2 HR
    go_wp2_with fail
    refine (HRb.out).mono ?_
    rintro e w3 ⟨A3, c3, rfl, o3⟩
    have HR2 := Lib.hid (built_own HQ.out.2.2.2 HQ.out.2.1 o3)
    clear o3 HRb
    go_wp2_with fail
    refine (HR2.out).mono ?_
    rintro e w4 ⟨g, rfl, o4⟩
    have O4 := Lib.hid o4
    clear o4 HR2 HR0 HR1
    go_wp2
    go_loopw [11] (fun tm wr => ∃ m : Nat, tm = .int .i64 m ∧ m ≤ p.length ∧ m ≤ q.length ∧ Hid (∀ k, k < m → p[k]? = q[k]?) ∧ Own (fun _ => False) w wr [SP.log 85 g (bLog q), SP.row 3 1 (.slice A3 q.length c3) (ints q), SP.row 3 1 (.slice A2 p.length c2) (ints p)]) (fun tm _ => p.length - (intOf tm).toNat)
    case atStart => exact ⟨0, rfl, Nat.zero_le _, Nat.zero_le _, (fun k hk => by omega), O4.out⟩
    case round =>
      obtain ⟨m, rfl, hmp, hmq, hm, hown⟩ := hrel
      clear O4
      obtain ⟨kp, op, z, kt, -⟩ := (hown.pick (L := [_, _, _]) [2]).cell (ints_get HT.out)
      cases z
      have fin : ∀ n, Calls Try.prog 24 #[.pointer (some ⟨g, 0, none⟩), .int .i64 ((j : Int) + 1), .int .i64 t] (wr.drewN n) fun e w' => e = .returned (.int .i64 ((bLog q).hint ((j : Int) + 1) t)) ∧ Own (fun _ => False) w w' [SP.log 85 g (bLog q), SP.row 3 1 (.slice A3 q.length c3) (ints q), SP.row 3 1 (.slice (some ⟨kp, op, none⟩) p.length c2) (ints p)] := fun n => hint_own HQ.out.2.2.1 (hown.drewN n) _ t ⟨by omega, by omega⟩
      have hlaw := hint_law (p := p) (q := q) (m := m) (i := j + 1) (t := t) HP.out.2.1 hmp hmq hm.out (by omega) (by omega) (by rw [Nat.add_sub_cancel]; exact HT.out)
      rw [show ((j + 1 : Nat) : Int) = (j : Int) + 1 by omega] at hlaw
      obtain ⟨H, hH⟩ : ∃ H, (bLog q).hint ((j : Int) + 1) t = H := ⟨_, rfl⟩
      rw [hH] at hlaw fin
      obtain ⟨mn, hmn⟩ : ∃ mn, (if (j : Int) + 1 < (m : Int) then (j : Int) + 1 else (m : Int)) = mn := ⟨_, rfl⟩
      rw [hmn] at hlaw
      obtain ⟨hl1, hl2, hl3⟩ := hlaw
      have FIN := Lib.hid fin
      clear fin hH
      have ways : (m < p.length ∧ m < q.length ∧ p[m]? = q[m]?) ∨ (m < p.length ∧ m < q.length ∧ p[m]? ≠ q[m]?) ∨ (m < p.length ∧ ¬ m < q.length) ∨ ¬ m < p.length := by
        by_cases h1 : m < p.length
        · by_cases h2 : m < q.length
          · by_cases h3 : p[m]? = q[m]?
            · exact .inl ⟨h1, h2, h3⟩
            · exact .inr (.inl ⟨h1, h2, h3⟩)
          · exact .inr (.inr (.inl ⟨h1, h2⟩))
        · exact .inr (.inr (.inr h1))
      rcases ways with ⟨h1, h2, h3⟩ | ⟨h1, h2, h3⟩ | ⟨h1, h2⟩ | h1
      · have i1 : (m : Int) < (p.length : Int) := by omega
        have i2 : (m : Int) < (q.length : Int) := by omega
        obtain ⟨u, hu⟩ : ∃ u, p[m]? = some u := ⟨_, List.getElem?_eq_getElem h1⟩
        have hv := h3.symm.trans hu
        obtain ⟨_, _, z, k1, -⟩ := (hown.pick (L := [_, _, _]) [2]).cell (ints_get hu)
        cases z
        obtain ⟨kq, oq, z, k2, -⟩ := (hown.pick (L := [_, _, _]) [1]).cell (ints_get hv)
        cases z
        have HM := Lib.hid (show ∀ k, k < m + 1 → p[k]? = q[k]? from fun k hk => by
          by_cases hkm : k = m
          · subst hkm; exact h3
          · exact hm.out k (by omega))
        have HO := Lib.hid hown
        clear hown hm h3 hu hv FIN hl1 hl2 hl3 hmn kt
        have h5 : ((u : Int) == u) = true := by simp
        go_wp2_with fail
        go_quiet (fail)
        go_wp2
        go_roundw
        case rel => exact ⟨m + 1, by go_num, by omega, by omega, HM.out, HO.out.drewN _⟩
        case measure => simp [intOf]; omega
      · have i1 : (m : Int) < (p.length : Int) := by omega
        have i2 : (m : Int) < (q.length : Int) := by omega
        obtain ⟨u, hu⟩ : ∃ u, p[m]? = some u := ⟨_, List.getElem?_eq_getElem h1⟩
        obtain ⟨v, hv⟩ : ∃ v, q[m]? = some v := ⟨_, List.getElem?_eq_getElem h2⟩
        have h5 : ((u : Int) == v) = false := by
          rw [beq_eq_false_iff_ne]; rintro rfl; exact h3 (hu.trans hv.symm)
        obtain ⟨_, _, z, k1, -⟩ := (hown.pick (L := [_, _, _]) [2]).cell (ints_get hu)
        cases z
        obtain ⟨kq, oq, z, k2, -⟩ := (hown.pick (L := [_, _, _]) [1]).cell (ints_get hv)
        cases z
        have HO := Lib.hid hown
        clear hown hm h3 hu hv
        go_wp2_with fail
        go_quiet (fail)
        go_wp2_with fail
        refine (FIN.out _).mono ?_
        rintro e w5 ⟨rfl, o5⟩
        have O5 := Lib.hid o5
        clear o5 FIN HO
        go_wp2
        go_ret
        exact ⟨rfl, O5.out.below⟩
      · have i1 : (m : Int) < (p.length : Int) := by omega
        have i2 : ¬ (m : Int) < (q.length : Int) := by omega
        have HO := Lib.hid hown
        clear hown hm
        go_wp2_with fail
        go_quiet (fail)
        go_wp2_with fail
        refine (FIN.out _).mono ?_
        rintro e w5 ⟨rfl, o5⟩
        have O5 := Lib.hid o5
        clear o5 FIN HO
        go_wp2
        go_ret
        exact ⟨rfl, O5.out.below⟩
      · have i1 : ¬ (m : Int) < (p.length : Int) := by omega
        have HO := Lib.hid hown
        clear hown hm
        go_wp2_with fail
        go_quiet (fail)
        go_wp2_with fail
        refine (FIN.out _).mono ?_
        rintro e w5 ⟨rfl, o5⟩
        have O5 := Lib.hid o5
        clear o5 FIN HO
        go_wp2
        go_ret
        exact ⟨rfl, O5.out.below⟩
end Go.Proofs.Ytepnkhiclgjmpaa

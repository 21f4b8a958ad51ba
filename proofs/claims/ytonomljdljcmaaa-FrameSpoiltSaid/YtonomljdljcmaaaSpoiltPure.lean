/-
  A frame with one byte turned is an error.
  Conditions: none beyond each theorem's own.
-/
import Derived.Test.YtonomljdljcmaaaPure
namespace Go.Proofs.Ytonomljdljcmaaa
set_option linter.unusedVariables false
set_option linter.unusedSimpArgs false
open Go.RowKit

theorem xor_right {a b c : Nat} (h : a ^^^ c = b ^^^ c) : a = b := by
  have h1 := congrArg (· ^^^ c) h
  simpa [Nat.xor_assoc, Nat.xor_self] using h1
theorem xor_left {a b c : Nat} (h : c ^^^ a = c ^^^ b) : a = b := xor_right (by rw [Nat.xor_comm a c, Nat.xor_comm b c]; exact h)
theorem high_bit {a : Nat} (h : a < 2147483648) : a.testBit 31 = false := Nat.testBit_lt_two_pow (x := a) (i := 31) h
theorem crcBit_inj {s t : Nat} (hs : s < 4294967296) (ht : t < 4294967296) (h : crcBit s = crcBit t) : s = t := by
  have key : ∀ a, a < 2147483648 → (a ^^^ 2197175160).testBit 31 = true := fun a ha => by
    rw [Nat.testBit_xor, high_bit ha]
    decide
  unfold crcBit at h
  by_cases h1 : s % 2 = 1
  · by_cases h2 : t % 2 = 1
    · rw [if_pos h1, if_pos h2] at h
      have h3 : s / 2 = t / 2 := xor_right h
      omega
    · rw [if_pos h1, if_neg h2] at h
      have h3 := key (s / 2) (by omega)
      rw [h, high_bit (by omega)] at h3
      cases h3
  · by_cases h2 : t % 2 = 1
    · rw [if_neg h1, if_pos h2] at h
      have h3 := key (t / 2) (by omega)
      rw [← h, high_bit (by omega)] at h3
      cases h3
    · rw [if_neg h1, if_neg h2] at h
      omega
theorem crcIter_inj {s t : Nat} (hs : s < 4294967296) (ht : t < 4294967296) : ∀ k, crcIter k s = crcIter k t → s = t
  | 0, h => h
  | k + 1, h => crcIter_inj hs ht k (crcBit_inj (crcIter_lt hs k) (crcIter_lt ht k) h)
theorem crcStep_inj_byte {s : Nat} {c d : UInt8} (hs : s < 4294967296) (h : crcStep s c = crcStep s d) : c = d := by
  have h1 := byte_lt c
  have h2 := byte_lt d
  have h3 := crcIter_inj (xor32 hs (by omega)) (xor32 hs (by omega)) 8 h
  exact UInt8.toNat_inj.1 (xor_left h3)
theorem crcStep_inj {s t : Nat} {c : UInt8} (hs : s < 4294967296) (ht : t < 4294967296) (h : crcStep s c = crcStep t c) : s = t := by
  have h1 := byte_lt c
  have h3 := crcIter_inj (xor32 hs (by omega)) (xor32 ht (by omega)) 8 h
  exact xor_right h3
theorem crcMore_inj {s t : Nat} (b : List UInt8) (hs : s < 4294967296) (ht : t < 4294967296) (h : crcMore s b = crcMore t b) : s = t := by
  induction b generalizing s t with
  | nil => exact h
  | cons c b ih => exact crcStep_inj hs ht (ih (crcStep_lt hs c) (crcStep_lt ht c) h)
theorem crcMore_set {s : Nat} {b : List UInt8} {j : Nat} {c d : UInt8} (hs : s < 4294967296) (hj : b[j]? = some c) (hd : d ≠ c) : crcMore s (b.set j d) ≠ crcMore s b := by
  have hjl : j < b.length := (List.getElem?_eq_some_iff.1 hj).1
  have e1 : b = b.take j ++ c :: b.drop (j + 1) := by
    have : b.drop j = c :: b.drop (j + 1) := by
      rw [List.drop_eq_getElem_cons hjl]
      rw [List.getElem?_eq_getElem hjl] at hj
      injection hj with hj
      rw [hj]
    conv => lhs; rw [← List.take_append_drop j b, this]
  have e2 : b.set j d = b.take j ++ d :: b.drop (j + 1) := by
    conv => lhs; rw [e1]
    rw [List.set_append_right _ _ (by rw [List.length_take]; omega)]
    have : j - (b.take j).length = 0 := by rw [List.length_take]; omega
    rw [this, List.set_cons_zero]
  intro h
  rw [e2] at h
  have h' : crcMore s (b.take j ++ d :: b.drop (j + 1)) = crcMore s (b.take j ++ c :: b.drop (j + 1)) := by rw [h, ← e1]
  rw [crcMore_append, crcMore_append] at h'
  have hm := crcMore_lt hs (b.take j)
  have h2 := crcMore_inj (b.drop (j + 1)) (crcStep_lt hm d) (crcStep_lt hm c) h'
  exact hd (crcStep_inj_byte hm h2)

theorem getD_same {b : List UInt8} {i : Nat} (d : UInt8) (h : i < b.length) : (b.set i d).getD i 0 = d := by
  rw [List.getD_eq_getElem?_getD, List.getElem?_set, if_pos rfl, if_pos h]
  rfl
theorem getD_other {b : List UInt8} {i j : Nat} (d : UInt8) (h : i ≠ j) : (b.set i d).getD j 0 = b.getD j 0 := by
  rw [List.getD_eq_getElem?_getD, List.getD_eq_getElem?_getD, List.getElem?_set, if_neg h]
theorem readN_set_ne {r : List UInt8} {i : Nat} {d : UInt8} (hi : i < 4) (hl : 4 ≤ r.length) (hd : d ≠ r.getD i 0) : readN (r.set i d) ≠ readN r := by
  have hd' : d.toNat ≠ (r.getD i 0).toNat := fun h => hd (UInt8.toNat_inj.1 h)
  have hdl := byte_lt d
  have h0 := byte_lt (r.getD 0 0)
  have h1 := byte_lt (r.getD 1 0)
  have h2 := byte_lt (r.getD 2 0)
  have h3 := byte_lt (r.getD 3 0)
  unfold readN
  rcases (show i = 0 ∨ i = 1 ∨ i = 2 ∨ i = 3 by omega) with rfl | rfl | rfl | rfl
  · rw [getD_same d (by omega), getD_other d (by decide), getD_other d (by decide), getD_other d (by decide)]; omega
  · rw [getD_same d (by omega), getD_other d (by decide), getD_other d (by decide), getD_other d (by decide)]; omega
  · rw [getD_same d (by omega), getD_other d (by decide), getD_other d (by decide), getD_other d (by decide)]; omega
  · rw [getD_same d (by omega), getD_other d (by decide), getD_other d (by decide), getD_other d (by decide)]; omega
theorem readN_set_eq {r : List UInt8} {i : Nat} {d : UInt8} (hi : 4 ≤ i) : readN (r.set i d) = readN r := by
  unfold readN
  rw [getD_other d (by omega), getD_other d (by omega), getD_other d (by omega), getD_other d (by omega)]

theorem spoilt (p : List UInt8) (hp : p.length ≤ 1048576) (i : Nat) (hi : i < 8 + p.length) (d : UInt8) (hd : d ≠ (frameB p).getD i 0) : oneE ((frameB p).set i d) ≠ 0 := by
  have hl := frameB_length p
  have hr := frameB_read p [] hp
  have hpay := frameB_pay p [] hp
  have hget := frameB_get p [] hp
  rw [List.append_nil] at hr hpay hget
  obtain ⟨F, hF⟩ : ∃ F, frameB p = F := ⟨_, rfl⟩
  rw [hF] at hl hr hpay hget hd ⊢
  have hl' : (F.set i d).length = 8 + p.length := by rw [List.length_set, hl]
  rw [oneE, if_pos (by omega)]
  intro hone
  have he := oneErr_ok hone
  have hok := getErr_ok he
  have hlen : ¬ 8 + (pay (F.set i d)).length < (F.set i d).length := by
    intro h
    rw [oneErr, if_pos he, if_pos h] at hone
    cases hone
  -- the length is what it was
  have hn : readN (F.set i d) = p.length := by omega
  have hi4 : 4 ≤ i := by
    rcases Nat.lt_or_ge i 4 with h | h
    · exact absurd (hn.trans hr.symm) (readN_set_ne h (by omega) hd)
    · exact h
  have ht4 : (F.set i d).take 4 = F.take 4 := by rw [List.take_set_of_le hi4]
  have hsum : ∀ r : List UInt8, getErr r = 0 → 4294967295 - crcMore (crcMore 4294967295 (r.take 4)) (pay r) = readN (r.drop 4) := fun r h => by
    have h1 := getErr_ok h
    unfold getErr at h
    rw [if_neg (by omega), if_neg (by omega), if_neg (by omega)] at h
    by_cases h2 : 4294967295 - crcMore (crcMore 4294967295 (r.take 4)) (pay r) = readN (r.drop 4)
    · exact h2
    · rw [if_neg h2] at h; cases h
  have hs1 := hsum _ he
  have hs2 := hsum _ hget
  rw [ht4, List.drop_set, if_neg (by omega)] at hs1
  have hc0 : crcMore 4294967295 (F.take 4) < 4294967296 := crcMore_lt (by omega) _
  rcases Nat.lt_or_ge i 8 with h8 | h8
  · have hp' : pay (F.set i d) = pay F := by
      rw [pay, pay, hn, hr, List.drop_set, if_pos h8]
    rw [hp'] at hs1
    have hne := readN_set_ne (r := F.drop 4) (i := i - 4) (d := d) (by omega) (by rw [List.length_drop]; omega) (by
      rw [List.getD_eq_getElem?_getD, List.getElem?_drop, show 4 + (i - 4) = i by omega, ← List.getD_eq_getElem?_getD]
      exact hd)
    exact hne (hs1.symm.trans hs2)
  · have hp' : pay (F.set i d) = (pay F).set (i - 8) d := by
      rw [pay, pay, hn, hr, List.drop_set, if_neg (by omega), List.take_set]
    rw [hp', readN_set_eq (by omega)] at hs1
    have hcc : (pay F)[i - 8]? = some (F.getD i 0) := by
      rw [pay, hr, List.getElem?_take, if_pos (by omega), List.getElem?_drop, show 8 + (i - 8) = i by omega, List.getD_eq_getElem?_getD, List.getElem?_eq_getElem (by omega)]
      rfl
    have hne := crcMore_set hc0 hcc hd
    have h1 := crcMore_lt hc0 ((pay F).set (i - 8) d)
    have h2 := crcMore_lt hc0 (pay F)
    exact hne (by omega)
end Go.Proofs.Ytonomljdljcmaaa

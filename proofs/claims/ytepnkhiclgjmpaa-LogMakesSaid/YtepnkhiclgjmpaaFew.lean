/-
  few: it writes nothing, and says yes only where the operations are at most 300 with at most 64 entries each.
  Conditions: the operations lie in memory as they were handed in.
-/
import Derived.Test.YtepnkhiclgjmpaaMay4
import Derived.Test.YtepnkhiclgjmpaaLOpen
namespace Go.Proofs.Ytepnkhiclgjmpaa
set_option linter.unusedVariables false
set_option linter.unusedSimpArgs false
open Go.RowKit

def FewPost (l : List Op8) (w : World) (e : Ending) (w' : World) : Prop := ∃ r, e = .returned (.bool r) ∧ w = w' ∧ (r = true → l.length ≤ 300 ∧ ∀ o, o ∈ l → o.e.length ≤ 64)
def FewP (l : List Op8) : Prop := l.length ≤ 300 ∧ ∀ o, o ∈ l → o.e.length ≤ 64
theorem min_room (n : Nat) (L : Int) (hL : 0 ≤ L) : ∃ u : Int, (if L < (n : Int) then L else (n : Int)) = u ∧ 0 ≤ u ∧ u ≤ L := by
  refine ⟨_, rfl, ?_⟩
  split <;> omega
theorem min_room' (n : Int) (hn : 0 ≤ n) (L : Int) (hL : 0 ≤ L) : ∃ u : Int, (if L < n then L else n) = u ∧ 0 ≤ u ∧ u ≤ L := by
  refine ⟨_, rfl, ?_⟩
  split <;> omega
set_option maxRecDepth 100000 in
set_option maxHeartbeats 6400000 in
theorem few_calls (w : World) (A : Option Addr) (c : Nat) (l : List Op8) (hops : Ops8 w A l) (hl : l.length ≤ 140737488351232) :
    Calls Try.prog 29 #[.slice A l.length c] w (FewPost l w) := by
  have H := Lib.hid hops
  clear hops
  go_enter Try.func29, Try.ntmps29
  go_wp2
  go_loopw [3, 4] (fun tn ti wr => ∃ (i : Nat) (n : Int), i ≤ l.length ∧ i ≤ 300 ∧ tn = .int .i64 n ∧ ti = .int .i64 i ∧ 0 ≤ n ∧ n ≤ 40000 ∧ w = wr ∧ Hid (∀ o j, j < i → l[j]? = some o → o.e.length ≤ 64)) (fun _ ti _ => l.length - (intOf ti).toNat)
  case atStart => exact ⟨0, 0, Nat.zero_le _, Nat.zero_le _, rfl, rfl, Int.le_refl _, by decide, by first | rfl | trivial, fun o j hj => by omega⟩
  case round =>
    obtain ⟨i, n, hi, hi3, rfl, rfl, hn0, hn1, rfl, hK⟩ := hrel
    by_cases hin : i < l.length
    · have i1 : (i : Int) < (l.length : Int) := by omega
      by_cases h300 : i < 300
      · have i2 : (i : Int) < 300 := by omega
        obtain ⟨o, ho⟩ : ∃ o, l[i]? = some o := ⟨_, List.getElem?_eq_getElem hin⟩
        obtain ⟨b, off, Ae, ce, Ab, cb, rfl, hb, k0, k1, k2, k3, k4, k5, hE, hB, -⟩ := H.out i o ho
        obtain ⟨-, -, hel, her, -⟩ := hE
        obtain ⟨u, hu, hu0, hu1⟩ := min_room o.b.length 20000 (by decide)
        obtain ⟨bl, hbl⟩ : ∃ bl, o.b.length = bl := ⟨_, rfl⟩
        obtain ⟨el, hel2⟩ : ∃ el, o.e.length = el := ⟨_, rfl⟩
        have HO := Lib.hid (And.intro ho (And.intro her hel2))
        rw [hbl] at hu k5
        rw [hel2] at hel k4
        clear ho her hB hbl hel2 k0 k1 k2 k3
        by_cases hbig : 64 < el
        · have i3 : (64 : Int) < (el : Int) := by omega
          go_wp2
          go_ret
          exact ⟨false, rfl, rfl, fun h => by cases h⟩
        · have i3 : ¬ (64 : Int) < (el : Int) := by omega
          have HK2 := Lib.hid (show ∀ o j, j < i + 1 → l[j]? = some o → o.e.length ≤ 64 from fun p j hj hp => by
            by_cases hji : j = i
            · subst hji
              rw [HO.out.1] at hp; cases hp
              rw [HO.out.2.2]; omega
            · exact hK.out p j (by omega) hp)
          clear hK
          go_wp2
          go_loopw [3, 5] (fun tn tk wr => ∃ (k : Nat) (m : Int), k ≤ el ∧ tn = .int .i64 m ∧ tk = .int .i64 k ∧ 0 ≤ m ∧ m ≤ 60000 + 20000 * (k : Int) ∧ w = wr) (fun _ tk _ => el - (intOf tk).toNat)
          case atStart => exact ⟨0, _, Nat.zero_le _, rfl, rfl, by omega, by omega, by first | rfl | trivial⟩
          case round =>
            obtain ⟨k, m, hk, rfl, rfl, hm0, hm1, rfl⟩ := hrel
            by_cases hke : k < el
            · have i4 : (k : Int) < (el : Int) := by omega
              obtain ⟨x, hx⟩ : ∃ x, o.e[k]? = some x := ⟨_, List.getElem?_eq_getElem (by rw [HO.out.2.2]; exact hke)⟩
              obtain ⟨b2, off2, Ad, cd, rfl, -, -, -, -, l3, -⟩ := HO.out.2.1 k x hx
              obtain ⟨dl, hdl⟩ : ∃ dl, x.dat.length = dl := ⟨_, rfl⟩
              obtain ⟨v, hv, hv0, hv1⟩ := min_room x.dat.length 20000 (by decide)
              rw [hdl] at l3 hv
              clear hx hdl
              go_wp2
              go_roundw
              case rel => exact ⟨k + 1, m + v, by omega, by go_num, by go_num, by omega, by omega, by first | rfl | trivial⟩
              case measure => simp [intOf]; omega
            · have i4 : ¬ (k : Int) < (el : Int) := by omega
              obtain ⟨v, hv, hv0, hv1⟩ := min_room' m hm0 40000 (by decide)
              go_wp2
              go_roundw
              case rel => exact ⟨i + 1, v, by omega, by omega, by go_num, by go_num, hv0, hv1, by first | rfl | trivial, HK2.out⟩
              case measure => simp [intOf]; omega
      · have i2 : ¬ (i : Int) < 300 := by omega
        by_cases h3 : l.length ≤ 300
        · omega
        · have i3 : ¬ (l.length : Int) ≤ 300 := by omega
          go_wp2
          go_ret
          exact ⟨false, rfl, rfl, fun h => by cases h⟩
    · have i1 : ¬ (i : Int) < (l.length : Int) := by omega
      obtain rfl : i = l.length := by omega
      have HK2 := Lib.hid (show FewP l from ⟨hi3, fun o ho => by
        obtain ⟨j, hj⟩ := List.getElem?_of_mem ho
        exact hK.out o j (List.getElem?_eq_some_iff.1 hj).1 hj⟩)
      have i3 : (l.length : Int) ≤ 300 := by omega
      clear hK
      by_cases hn : n ≤ 20000
      · go_wp2
        go_ret
        exact ⟨true, rfl, rfl, fun _ => HK2.out⟩
      · go_wp2
        go_ret
        exact ⟨false, rfl, rfl, fun h => by cases h⟩
end Go.Proofs.Ytepnkhiclgjmpaa

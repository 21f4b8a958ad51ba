/-
  slices.IndexFunc, slices.DeleteFunc on a row of mails; Clear: all mails for a node lost.
  Conditions: none beyond each theorem's own.
-/
import Derived.Test.YtlhinhcbbknhcaaCopy
import Derived.Test.YtlhinhcbbknhcaaStepOwn
import Derived.Deep.Cut
import Derived.WalkSpells
namespace Go.Proofs.Ytlhinhcbbknhcaa
set_option linter.unusedVariables false
set_option linter.unusedSimpArgs false
open Go.RowKit

def keepM (t : Int) (L : List M) : List M := L.filter fun m => !(m.to == t)
def keepD (t : Int) : List M → List Value → List Value
  | m :: L, d :: ds => if m.to == t then keepD t L ds else d :: keepD t L ds
  | _, _ => []
theorem keepM_cons (t : Int) (m : M) (L : List M) : keepM t (m :: L) = if m.to == t then keepM t L else m :: keepM t L := by
  rw [keepM, List.filter_cons]
  cases m.to == t <;> rfl
theorem keepD_length (t : Int) : ∀ (L : List M) (ds : List Value), ds.length = L.length → (keepD t L ds).length = (keepM t L).length
  | [], [], _ => rfl
  | [], _ :: _, h => by cases h
  | _ :: _, [], h => by cases h
  | m :: L, d :: ds, h => by
    have := keepD_length t L ds (by simpa using h)
    rw [keepD, keepM_cons]
    split
    · exact this
    · simp [this]
theorem keepM_snoc (t : Int) (L : List M) (m : M) : keepM t (L ++ [m]) = keepM t L ++ if m.to == t then [] else [m] := by
  rw [keepM, List.filter_append, keepM, List.filter_cons]
  cases m.to == t <;> rfl
theorem keepD_snoc (t : Int) (m : M) (d : Value) : ∀ (L : List M) (ds : List Value), ds.length = L.length → keepD t (L ++ [m]) (ds ++ [d]) = keepD t L ds ++ if m.to == t then [] else [d]
  | [], [], _ => by simp [keepD]
  | [], _ :: _, h => by cases h
  | _ :: _, [], h => by cases h
  | x :: L, y :: ds, h => by
    have := keepD_snoc t m d L ds (by simpa using h)
    rw [List.cons_append, List.cons_append, keepD, keepD, this]
    split <;> simp
theorem keep_sub (t : Int) : ∀ (L : List M) (ds : List Value), (mdata (keepM t L) (keepD t L ds)).Sublist (mdata L ds)
  | [], ds => by simp [keepM, mdata]
  | m :: L, [] => by
    have h : keepD t (m :: L) [] = [] := by simp [keepD]
    rw [h]; simp [mdata]
  | m :: L, d :: ds => by
    have := keep_sub t L ds
    rw [keepD, keepM_cons]
    split
    · exact this.cons _
    · exact this.cons_cons _
theorem keepM_none (t : Int) (L : List M) (h : ∀ m, m ∈ L → m.to ≠ t) : keepM t L = L := by
  rw [keepM, List.filter_eq_self]
  intro m hm
  simp [h m hm]
theorem keepD_none (t : Int) : ∀ (L : List M) (ds : List Value), ds.length = L.length → (∀ m, m ∈ L → m.to ≠ t) → keepD t L ds = ds
  | [], [], _, _ => rfl
  | [], _ :: _, h, _ => by cases h
  | _ :: _, [], h, _ => by cases h
  | m :: L, d :: ds, h, hm => by
    have h1 : (m.to == t) = false := by simpa using hm m List.mem_cons_self
    rw [keepD, if_neg (by simp [h1]), keepD_none t L ds (by simpa using h) (fun x hx => hm x (List.mem_cons_of_mem _ hx))]
theorem SP.stars_sub {L L' : List SP} (h : L'.Sublist L) {w : World} : ∀ {S : Nat → Prop}, (SP.stars L).At w S → (SP.stars L').At w S := by
  induction h with
  | slnil => exact fun h => h
  | cons _ _ ih => exact fun h => ih (SP.sep_right h)
  | cons_cons _ _ ih => exact fun h => SP.sep_imp h (fun _ => id) (fun _ => ih)

theorem five_set (xs : List Value) (k : Nat) (a b c d e : Value) (h : k + 5 ≤ xs.length) : ((((xs.set k a).set (k + 1) b).set (k + 2) c).set (k + 3) d).set (k + 4) e = xs.take k ++ [a, b, c, d, e] ++ xs.drop (k + 5) := by
  apply List.ext_getElem?
  intro i
  simp only [List.getElem?_set, List.length_set]
  by_cases h1 : i < k
  · rw [List.append_assoc, List.getElem?_append_left (by rw [List.length_take]; omega), List.getElem?_take, if_pos h1]
    repeat rw [if_neg (by omega)]
  · by_cases h2 : i < k + 5
    · rw [List.append_assoc, List.getElem?_append_right (by rw [List.length_take]; omega), List.length_take, Nat.min_eq_left (by omega), List.getElem?_append_left (by simp; omega)]
      obtain ⟨j, rfl⟩ : ∃ j, i = k + j := ⟨i - k, by omega⟩
      have hj : j = 0 ∨ j = 1 ∨ j = 2 ∨ j = 3 ∨ j = 4 := by omega
      rcases hj with rfl | rfl | rfl | rfl | rfl <;> simp <;> omega
    · rw [List.getElem?_append_right (by simp; omega)]
      have : (xs.take k ++ [a, b, c, d, e]).length = k + 5 := by rw [List.length_append, List.length_take]; simp; omega
      rw [this, List.getElem?_drop]
      repeat rw [if_neg (by omega)]
      congr 1
      omega

set_option maxHeartbeats 400000 in
theorem isto_calls (W : World) (bx : Nat) (t num frm to : Int) (d : Value) (sp : Bool) (hd : d.oneCell' = true) (hx : W.cell? ⟨bx, 0, none⟩ = some (.int .i64 t)) :
    Calls Try.prog 45 #[.agg #[.int .i64 num, .int .i64 frm, .int .i64 to, d, .bool sp], .pointer (some ⟨bx, 0, none⟩)] W fun e w' => e = .returned (.bool (to == t)) ∧ w' = W.alloc (.cells #[.int .i64 num, .int .i64 frm, .int .i64 to, d, .bool sp] 34) := by
  have hlt := World.block_lt_of_cell? W _ hx
  simp only at hlt
  go_enter Try.func45, Try.ntmps45
  go_wp2
  go_ret
  exact ⟨rfl, rfl⟩

section
variable {S : Nat → Prop} {w0 w : World} {R : List SP} {L : List M} {ds : List Value}

/-- Where the first one for a node stands. -/
def First (t : Int) (L : List M) (r : Int) : Prop := (r = -1 ∧ ∀ m, m ∈ L → m.to ≠ t) ∨ ∃ (k : Nat) (m : M), r = (k : Int) ∧ L[k]? = some m ∧ m.to = t ∧ ∀ x, x ∈ L.take k → x.to ≠ t

set_option maxRecDepth 100000 in
set_option maxHeartbeats 1600000 in
theorem indexf_own {A : Option Addr} {c bx : Nat} {t : Int} (hL : L.length ≤ 1000000) (hds : ds.length = L.length)
    (h : Own S w0 w (SP.row 34 5 (.slice A L.length c) (mrow L ds) :: SP.stars (mdata L ds) :: SP.blk bx 3 #[.int .i64 t] :: R)) :
    Calls Try.prog 51 #[.slice A L.length c, .func (.func 45) #[] #[.pointer (some ⟨bx, 0, none⟩)]] w fun e w' => ∃ r, e = .returned (.int .i64 r) ∧ First t L r ∧ Own S w0 w' (SP.row 34 5 (.slice A L.length c) (mrow L ds) :: SP.stars (mdata L ds) :: SP.blk bx 3 #[.int .i64 t] :: R) := by
  have H := Lib.hid (And.intro h hds)
  clear h hds
  go_enter Try.func51, Try.ntmps51
  go_wp2
  go_loopw [8] (fun tb wr => ∃ (i : Nat), i ≤ L.length ∧ tb = .int .i64 i ∧ Own S w0 wr (SP.row 34 5 (.slice A L.length c) (mrow L ds) :: SP.stars (mdata L ds) :: SP.blk bx 3 #[.int .i64 t] :: R) ∧ ∀ x, x ∈ L.take i → x.to ≠ t) (fun tb _ => L.length - (intOf tb).toNat)
  case atStart => exact ⟨0, Nat.zero_le _, rfl, H.out.1, by simp⟩
  case round =>
    obtain ⟨i, hi, rfl, hown, hK⟩ := hrel
    have HK := Lib.hid hK
    clear hK
    by_cases hin : i < L.length
    · have i1 : (i : Int) < (L.length : Int) := by omega
      obtain ⟨m, hm⟩ : ∃ m, L[i]? = some m := ⟨_, List.getElem?_eq_getElem hin⟩
      obtain ⟨d, hd⟩ : ∃ d, ds[i]? = some d := ⟨_, List.getElem?_eq_getElem (by rw [H.out.2]; exact hin)⟩
      obtain ⟨ga, off, rfl, k0, -⟩ := hown.cell (mrow_get (j := 0) hm hd (by omega))
      obtain ⟨_, _, e1, k1, -⟩ := hown.cell (mrow_get (j := 1) hm hd (by omega)); cases e1
      obtain ⟨_, _, e1, k2, -⟩ := hown.cell (mrow_get (j := 2) hm hd (by omega)); cases e1
      obtain ⟨_, _, e1, k3, -⟩ := hown.cell (mrow_get (j := 3) hm hd (by omega)); cases e1
      obtain ⟨_, _, e1, k4, -⟩ := hown.cell (mrow_get (j := 4) hm hd (by omega)); cases e1
      simp only [mcells, List.getElem?_cons_zero, List.getElem?_cons_succ, ← Nat.add_assoc, Nat.add_zero] at k0 k1 k2 k3 k4
      have hd1 : d.oneCell' = true := (Own.mdata_one H.out.2 (hown.pick (L := [_, _]) [1])) d (List.mem_of_getElem? hd)
      have HC := Lib.hid (fun (W : World) (hx : W.cell? ⟨bx, 0, none⟩ = some (.int .i64 t)) => isto_calls W bx t m.num m.frm m.to d m.sp hd1 hx)
      have hx := (hown.pick (L := [_, _, _]) [2]).blk_cell 0
      simp only [List.getElem?_toArray, List.getElem?_cons_zero, List.getElem?_cons_succ] at hx
      have HO := Lib.hid hown
      have HM := Lib.hid hm
      clear hown hm hd hd1
      go_wp2_with fail
      refine (HC.out _ hx).mono ?_
      rintro e w2 ⟨rfl, hw2⟩
      have O2 := Lib.hid (HO.out.alloc #[.int .i64 m.num, .int .i64 m.frm, .int .i64 m.to, d, .bool m.sp] 34).pop
      rw [← hw2] at O2
      clear hw2 HC k0 k1 k2 k3 k4 hx
      by_cases ht : m.to = t
      · have ht' : (m.to == t) = true := by simpa using ht
        have HT := Lib.hid ht
        clear ht
        go_wp2
        go_ret
        exact ⟨_, rfl, .inr ⟨i, m, rfl, HM.out, HT.out, HK.out⟩, O2.out⟩
      · have ht' : (m.to == t) = false := by simpa using ht
        go_wp2
        go_roundw
        case rel =>
          refine ⟨i + 1, by omega, by go_num, O2.out, ?_⟩
          rw [List.take_add_one, HM.out]
          intro x hx
          rcases List.mem_append.1 hx with hx | hx
          · exact HK.out x hx
          · obtain rfl : x = m := by simpa using hx
            exact ht
        case measure => simp [intOf]; omega
    · have i1 : ¬ (i : Int) < (L.length : Int) := by omega
      obtain rfl : i = L.length := by omega
      have HO := Lib.hid hown
      clear hown
      go_wp2
      go_ret
      refine ⟨_, rfl, .inl ⟨rfl, ?_⟩, HO.out⟩
      have := HK.out
      rwa [List.take_length] at this
end
end Go.Proofs.Ytlhinhcbbknhcaa

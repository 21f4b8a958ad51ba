/-
  Spoil: a bit of a mail turned.
  Conditions: none beyond each theorem's own.
-/
import Derived.Test.YtlhinhcbbknhcaaCopy
import Derived.Test.YtlhinhcbbknhcaaStepOwn
import Derived.Test.YtlhinhcbbknhcaaRegionNeed
import Derived.Deep.RegionWith
import Derived.Deep.Cut
import Derived.WalkSpells
import Derived.Laws.BitsAllLaws
namespace Go.Proofs.Ytlhinhcbbknhcaa
set_option linter.unusedVariables false
set_option linter.unusedSimpArgs false
open Go.RowKit

section
variable {S : Nat → Prop} {w0 w : World} {R : List SP} {g : Nat} {nodes last : Int} {cut : List Bool} {L : List M}

set_option maxHeartbeats 1600000 in
theorem spoil_no (hL : L.length ≤ 1000000) (h : Own S w0 w (SP.net g nodes cut last L :: R)) (i bit : Int) (hbit : -9223372036854775808 ≤ bit ∧ bit ≤ 9223372036854775807)
    (hi : ¬ ∃ m, 0 ≤ i ∧ L[i.toNat]? = some m ∧ m.sp = false ∧ 0 ≤ bit ∧ bit.toNat / 8 < m.dat.length) :
    Calls Try.prog 23 #[.pointer (some ⟨g, 0, none⟩), .int .i64 i, .int .i64 bit] w fun e w' => e = .returned (.bool false) ∧ Own S w0 w' (SP.net g nodes cut last L :: R) := by
  have HT := Lib.hid (there_own h i)
  have H := Lib.hid h
  by_cases h1 : 0 ≤ i ∧ i < (L.length : Int)
  · obtain ⟨k, rfl⟩ := Int.eq_ofNat_of_zero_le h1.1
    obtain ⟨m, hm⟩ : ∃ m, L[k]? = some m := ⟨_, List.getElem?_eq_getElem (by omega)⟩
    rw [show thereB (k : Int) L.length = true from decide_eq_true h1] at HT
    obtain ⟨ga, off, c, Ad, cd, ds, hcut, hds, hd, c65, -, -, -, k3, k4, -, -, -⟩ := net_mail h hm
    obtain ⟨n, hn⟩ : ∃ n, L.length = n := ⟨_, rfl⟩
    have hq : m.sp = true ∨ (m.sp = false ∧ bit < 0) ∨ (m.sp = false ∧ 0 ≤ bit ∧ m.dat.length ≤ bit.toNat / 8) := by
      cases hs : m.sp with
      | true => exact .inl rfl
      | false =>
        right
        rcases Int.lt_or_le bit 0 with hb | hb
        · exact .inl ⟨rfl, hb⟩
        · refine .inr ⟨rfl, hb, ?_⟩
          rcases Nat.lt_or_ge (bit.toNat / 8) m.dat.length with hx | hx
          · exact absurd ⟨m, by omega, by simpa using hm, hs, hb, hx⟩ hi
          · exact hx
    obtain ⟨h1a, h1b⟩ := h1
    have hkn : k < L.length := by omega
    rw [hn] at c65 h1b hkn hL
    have HN := Lib.hid hn
    clear h hm hcut hds hd hi hn
    rcases hq with hs | ⟨hs, hb⟩ | ⟨hs, hb, hx⟩
    · rw [hs] at k4
      clear hs
      go_enter Try.func23, Try.ntmps23
      go_wp2_with fail
      refine (HT.out).mono ?_
      rintro e w1 ⟨rfl, rfl⟩
      go_wp2
      go_ret
      exact ⟨rfl, H.out⟩
    · rw [hs] at k4
      clear hs
      go_enter Try.func23, Try.ntmps23
      go_wp2_with fail
      refine (HT.out).mono ?_
      rintro e w1 ⟨rfl, rfl⟩
      go_wp2
      go_ret
      exact ⟨rfl, H.out⟩
    · rw [hs] at k4
      obtain ⟨b, rfl⟩ := Int.eq_ofNat_of_zero_le hb
      rw [Int.toNat_natCast] at hx
      have e1 : Int.tdiv (b : Int) 8 = ((b / 8 : Nat) : Int) := IntWalk.up_tdiv rfl rfl
      have e2 : IntKind.i64.wrap ((b / 8 : Nat) : Int) = ((b / 8 : Nat) : Int) := IntWalk.i64_in _ (by omega)
      have e3 : ((m.dat.length : Nat) : Int) ≤ ((b / 8 : Nat) : Int) := by omega
      obtain ⟨dl, hdl⟩ : ∃ dl, m.dat.length = dl := ⟨_, rfl⟩
      obtain ⟨b8, hb8⟩ : ∃ b8, b / 8 = b8 := ⟨_, rfl⟩
      rw [hdl] at e3 k3
      rw [hb8] at e1 e2 e3
      clear hs hx hdl hb8
      go_enter Try.func23, Try.ntmps23
      go_wp2_with fail
      refine (HT.out).mono ?_
      rintro e w1 ⟨rfl, rfl⟩
      go_wp2
      go_ret
      exact ⟨rfl, H.out⟩
  · rw [show thereB i L.length = false from decide_eq_false h1] at HT
    clear h h1 hi
    go_enter Try.func23, Try.ntmps23
    go_wp2_with fail
    refine (HT.out).mono ?_
    rintro e w1 ⟨rfl, rfl⟩
    go_wp2
    go_ret
    exact ⟨rfl, H.out⟩

def flipB (u : UInt8) (r : Nat) : UInt8 := UInt8.ofNat (u.toNat ^^^ 2 ^ r)
theorem pow_lt8 {r : Nat} (h : r < 8) : 2 ^ r < 256 := by
  have : r = 0 ∨ r = 1 ∨ r = 2 ∨ r = 3 ∨ r = 4 ∨ r = 5 ∨ r = 6 ∨ r = 7 := by omega
  rcases this with rfl | rfl | rfl | rfl | rfl | rfl | rfl | rfl <;> decide
theorem flipB_toNat (u : UInt8) {r : Nat} (h : r < 8) : (flipB u r).toNat = u.toNat ^^^ 2 ^ r := by
  have hx : u.toNat ^^^ 2 ^ r < 2 ^ 8 := Nat.xor_lt_two_pow u.toNat_lt (pow_lt8 h)
  rw [flipB, UInt8.toNat_ofNat']
  exact Nat.mod_eq_of_lt hx
def flipAt (dat : List UInt8) (b : Nat) : List UInt8 := dat.set (b / 8) (flipB (dat.getD (b / 8) 0) (b % 8))
theorem flipAt_length (dat : List UInt8) (b : Nat) : (flipAt dat b).length = dat.length := by simp [flipAt]
def spoiled (m : M) (b : Nat) : M := { m with dat := flipAt m.dat b, sp := true }
theorem bts_set (b : List UInt8) (i : Nat) (u : UInt8) : (bts b).set i (byteV u) = bts (b.set i u) := by simp [bts, List.map_set]
theorem mrow_cons (l : M) (L : List M) (d : Value) (ds : List Value) : mrow (l :: L) (d :: ds) = mcells l d ++ mrow L ds := rfl
theorem mrow_set_aux : ∀ (L : List M) (ds : List Value) (i : Nat) (m m' : M) (d : Value), L[i]? = some m → ds[i]? = some d → m'.num = m.num → m'.frm = m.frm → m'.to = m.to →
    mrow (L.set i m') ds = (mrow L ds).set (i * 5 + 4) (.bool m'.sp)
  | [], _, _, _, _, _, hm, _, _, _, _ => by simp at hm
  | _ :: _, [], _, _, _, _, _, hd, _, _, _ => by simp at hd
  | l :: L, d' :: ds, 0, m, m', d, hm, hd, h1, h2, h3 => by
    rw [List.getElem?_cons_zero] at hm
    injection hm with hm
    subst hm
    rw [List.set_cons_zero, mrow_cons, mrow_cons]
    simp [mcells, h1, h2, h3]
  | l :: L, d' :: ds, i + 1, m, m', d, hm, hd, h1, h2, h3 => by
    rw [List.getElem?_cons_succ] at hm hd
    rw [List.set_cons_succ, mrow_cons, mrow_cons, mrow_set_aux L ds i m m' d hm hd h1 h2 h3, List.set_append_right _ _ (by simp [mcells]; omega)]
    congr 2
    simp [mcells]
    omega
theorem mrow_set {ds : List Value} {i : Nat} {m m' : M} {d : Value} (hds : ds.length = L.length) (hm : L[i]? = some m) (hd : ds[i]? = some d) (h1 : m'.num = m.num) (h2 : m'.frm = m.frm) (h3 : m'.to = m.to) :
    mrow (L.set i m') ds = (mrow L ds).set (i * 5 + 4) (.bool m'.sp) := mrow_set_aux L ds i m m' d hm hd h1 h2 h3
theorem mdata_set_aux : ∀ (L : List M) (ds : List Value) (i : Nat) (m' : M) (d : Value), ds[i]? = some d → mdata (L.set i m') ds = (mdata L ds).set i (SP.row 5 1 d (bts m'.dat))
  | [], _, _, _, _, _ => by simp [mdata]
  | _ :: _, [], _, _, _, hd => by simp at hd
  | l :: L, d' :: ds, 0, m', d, hd => by
    rw [List.getElem?_cons_zero] at hd
    injection hd with hd
    subst hd
    simp [mdata]
  | l :: L, d' :: ds, i + 1, m', d, hd => by
    rw [List.getElem?_cons_succ] at hd
    have := mdata_set_aux L ds i m' d hd
    simp only [mdata] at this
    simp [mdata, this]
theorem mdata_set {ds : List Value} {i : Nat} {m' : M} {d : Value} (hd : ds[i]? = some d) : mdata (L.set i m') ds = (mdata L ds).set i (SP.row 5 1 d (bts m'.dat)) := mdata_set_aux L ds i m' d hd

set_option maxRecDepth 100000 in
set_option maxHeartbeats 3200000 in
theorem spoil_yes (hL : L.length ≤ 1000000) (h : Own S w0 w (SP.net g nodes cut last L :: R)) (i b : Nat) (m : M) (hm : L[i]? = some m) (hs : m.sp = false) (hb : b / 8 < m.dat.length) (hdl : m.dat.length ≤ 140737488351232) :
    Calls Try.prog 23 #[.pointer (some ⟨g, 0, none⟩), .int .i64 i, .int .i64 b] w fun e w' => e = .returned (.bool true) ∧ Own S w0 w' (SP.net g nodes cut last (L.set i (spoiled m b)) :: R) := by
  have hi : i < L.length := (List.getElem?_eq_some_iff.1 hm).1
  have HT := Lib.hid (there_own h (i : Int))
  rw [show thereB (i : Int) L.length = true from decide_eq_true (by omega)] at HT
  obtain ⟨ga, off, c, Ad, cd, ds, hcut, hds, hd, c65, -, -, -, k3, k4, -, -, h2⟩ := net_mail h hm
  have o1 := (h2.pick (L := [_, _, _]) [2, 0, 1]).focus i (mdata_get hm hd)
  obtain ⟨u, hu⟩ : ∃ u, m.dat[b / 8]? = some u := ⟨_, List.getElem?_eq_getElem hb⟩
  obtain ⟨gd, od, rfl, kb, fb⟩ := o1.cell (bts_get hu)
  have H1 := Lib.hid (And.intro o1 (And.intro hcut (And.intro hds (And.intro hm hd))))
  rw [hs] at k4
  have e1 : Int.tdiv (b : Int) 8 = ((b / 8 : Nat) : Int) := IntWalk.up_tdiv rfl rfl
  have e2 : IntKind.i64.wrap ((b / 8 : Nat) : Int) = ((b / 8 : Nat) : Int) := IntWalk.i64_in _ (by omega)
  have e3 : ((b / 8 : Nat) : Int) < ((m.dat.length : Nat) : Int) := by omega
  have e3' : ¬ ((m.dat.length : Nat) : Int) ≤ ((b / 8 : Nat) : Int) := by omega
  have e4 : Int.tmod (b : Int) 8 = ((b % 8 : Nat) : Int) := by rw [Int.tmod_eq_emod_of_nonneg (by omega)]; omega
  have e5 : IntKind.i64.wrap ((b % 8 : Nat) : Int) = ((b % 8 : Nat) : Int) := IntWalk.i64_in _ (by omega)
  have e6 : IntKind.u8.wrap ((2 : Int) ^ (b % 8)) = ((2 ^ (b % 8) : Nat) : Int) := by
    have := pow_lt8 (r := b % 8) (by omega)
    rw [IntKind.wrap_u8']
    have h2 : ((2 : Int) ^ (b % 8)) = ((2 ^ (b % 8) : Nat) : Int) := by push_cast; rfl
    rw [h2]
    exact Int.emod_eq_of_lt (Int.natCast_nonneg _) (by exact_mod_cast this)
  have e7 := u8_xor_nat u.toNat (2 ^ (b % 8)) u.toNat_lt (pow_lt8 (by omega))
  rw [← flipB_toNat u (by omega)] at e7
  have kb' : w.cell? ⟨gd, od + b / 8, none⟩ = some (.int .u8 (u.toNat : Int)) := kb
  obtain ⟨fu, hfu⟩ : ∃ fu, flipB u (b % 8) = fu := ⟨_, rfl⟩
  rw [hfu] at e7
  obtain ⟨p2, hp2⟩ : ∃ p2, 2 ^ (b % 8) = p2 := ⟨_, rfl⟩
  rw [hp2] at e6 e7
  have HF := Lib.hid (And.intro hu hfu)
  clear kb hfu hp2
  obtain ⟨z, hz⟩ : ∃ z, u.toNat = z := ⟨_, rfl⟩
  rw [hz] at kb' e7
  obtain ⟨y, hy⟩ : ∃ y, fu.toNat = y := ⟨_, rfl⟩
  rw [hy] at e7
  have HY := Lib.hid hy
  clear hz hy
  obtain ⟨dl, hd1⟩ : ∃ dl, m.dat.length = dl := ⟨_, rfl⟩
  obtain ⟨b8, hb8⟩ : ∃ b8, b / 8 = b8 := ⟨_, rfl⟩
  obtain ⟨r, hr⟩ : ∃ r, b % 8 = r := ⟨_, rfl⟩
  have hr8 : r < 8 := by omega
  obtain ⟨n, hn⟩ : ∃ n, L.length = n := ⟨_, rfl⟩
  have h1b : (i : Int) < (n : Int) := by omega
  have HN := Lib.hid (And.intro hn (And.intro hd1 (And.intro hb8 hr)))
  rw [hd1] at e3 e3' k3 hb hdl
  rw [hb8] at e1 e2 e3 e3' kb' fb hb
  rw [hr] at e4 e5 e6
  rw [hn] at c65 hL hi
  have hlt := (h2.blk_lt)
  clear h h2 hm hd hds hcut hn hd1 hb8 hr o1 hu hs
  go_enter Try.func23, Try.ntmps23
  go_wp2_with fail
  refine (HT.out).mono ?_
  rintro e w1 ⟨rfl, rfl⟩
  go_upto_region 3 with (fail)
  go_region_with (fail)
  all_goals (try simp only [Act.put, List.setIfInBounds_toArray, List.set_cons_zero, List.set_cons_succ])
  have hbl : b8 < (bts m.dat).length := by rw [bts_length, HN.out.2.1]; exact hb
  have o5 := (H1.out.1.store (j := b8) hbl (.int .u8 (y : Int))).drew
  obtain ⟨H11, hcut, hds, hm, hd⟩ := H1.out
  have c65W := ((o5.pick (L := [_, _, _, _]) [2]).blk_cell 65).trans (netList_row hcut)
  obtain ⟨_, _, q1, k4W, f4W⟩ := (o5.pick (L := [_, _, _, _]) [3]).cell (mrow_get (j := 4) hm hd (by omega))
  cases q1
  have o6 := (o5.pick (L := [_, _, _, _]) [3, 0, 1, 2]).store (j := i * 5 + 4) (by rw [mrow_length hds, HN.out.1]; omega) (.bool true)
  try simp only [mcells, List.getElem?_cons_zero, List.getElem?_cons_succ] at k4W
  rw [HN.out.1] at c65W
  rw [← Nat.add_assoc] at o6 k4W f4W
  have hltW := ((o5.pick (L := [_, _, _, _]) [2])).blk_lt
  have O6 := Lib.hid o6
  obtain ⟨W, hW⟩ : ∃ W, (w.setCell ⟨gd, od + b8, none⟩ (.int .u8 (y : Int))).drew = W := ⟨_, rfl⟩
  rw [hW] at O6 c65W k4W f4W hltW ⊢
  have HM := Lib.hid (And.intro hcut (And.intro hds (And.intro hm hd)))
  clear hW o5 o6 H11 hcut hds hm hd c65 k3 k4 kb' fb hlt H1 hbl HT
  go_wp2
  go_ret
  refine ⟨rfl, ?_⟩
  obtain ⟨hcut, hds, hm, hd⟩ := HM.out
  obtain ⟨hn, hd1, hb8, hr⟩ := HN.out
  have hy : Value.int .u8 (y : Int) = byteV (flipB u r) := by rw [← hr, HF.out.2, byteV, HY.out]
  have hset : (bts m.dat).set b8 (.int .u8 (y : Int)) = bts (spoiled m b).dat := by
    rw [hy, bts_set, spoiled, flipAt, hb8, hr, List.getD_eq_getElem?_getD, ← hb8, HF.out.1]
    rfl
  have o7 := O6.out
  rw [hset] at o7
  have o8 := ((o7.pick (L := [_, _, _, _]) [1, 2, 0, 3]).unfocus (L := mdata L ds) (i := i) (by rw [mdata_length hds, hn]; omega))
  rw [← mdata_set hd, show Value.bool true = .bool (spoiled m b).sp from rfl, ← mrow_set (m' := spoiled m b) hds hm hd rfl rfl rfl] at o8
  have o9 := o8.pick (L := [_, _, _]) [1, 0, 2]
  rw [show L.length = (L.set i (spoiled m b)).length by rw [List.length_set]] at o9
  exact Own.net_shut hcut (Own.mails_shut (by rw [List.length_set, hds]) o9).swap
end
end Go.Proofs.Ytlhinhcbbknhcaa

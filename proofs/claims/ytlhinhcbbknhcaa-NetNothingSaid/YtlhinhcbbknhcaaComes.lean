/-
  comes: a mail that was sent is found again, but for one bit where it is spoilt.
  Conditions: none beyond each theorem's own.
-/
import Derived.Test.YtlhinhcbbknhcaaList
import Derived.Test.YtlhinhcbbknhcaaSpoil
import Derived.BigQuiet
import Derived.Deep.QuietTactic
namespace Go.Proofs.Ytlhinhcbbknhcaa
set_option linter.unusedVariables false
set_option linter.unusedSimpArgs false
open Go.RowKit

def pop (x : Nat) : Nat := x % 2 + x / 2 % 2 + x / 4 % 2 + x / 8 % 2 + x / 16 % 2 + x / 32 % 2 + x / 64 % 2 + x / 128 % 2
theorem pop_half {x : Nat} (h : x < 256) : pop x = x % 2 + pop (x / 2) := by unfold pop; omega
theorem pop_le (x : Nat) : pop x ≤ 8 := by unfold pop; omega
theorem pop_zero : pop 0 = 0 := rfl
theorem pop_pow {r : Nat} (h : r < 8) : pop (2 ^ r) = 1 := by
  have : r = 0 ∨ r = 1 ∨ r = 2 ∨ r = 3 ∨ r = 4 ∨ r = 5 ∨ r = 6 ∨ r = 7 := by omega
  rcases this with rfl | rfl | rfl | rfl | rfl | rfl | rfl | rfl <;> rfl
def bitsTo (a b : List UInt8) : Nat → Nat
  | 0 => 0
  | k + 1 => bitsTo a b k + pop ((a.getD k 0).toNat ^^^ (b.getD k 0).toNat)
theorem bitsTo_le (a b : List UInt8) : ∀ k, bitsTo a b k ≤ 8 * k
  | 0 => Nat.zero_le _
  | k + 1 => by have := bitsTo_le a b k; have := pop_le ((a.getD k 0).toNat ^^^ (b.getD k 0).toNat); rw [bitsTo]; omega
theorem bitsTo_same (a : List UInt8) : ∀ k, bitsTo a a k = 0
  | 0 => rfl
  | k + 1 => by rw [bitsTo, bitsTo_same a k, Nat.xor_self]; rfl
theorem flip_get (a : List UInt8) (b k : Nat) : (flipAt a b).getD k 0 = if k = b / 8 ∧ k < a.length then flipB (a.getD k 0) (b % 8) else a.getD k 0 := by
  rw [flipAt, List.getD_eq_getElem?_getD, List.getElem?_set]
  by_cases h : b / 8 = k
  · subst h
    rw [if_pos rfl]
    by_cases h2 : b / 8 < a.length
    · rw [if_pos h2, if_pos ⟨rfl, h2⟩]; rfl
    · rw [if_neg h2, if_neg (by omega), List.getD_eq_getElem?_getD, List.getElem?_eq_none (by omega)]
  · rw [if_neg h, if_neg (by omega), List.getD_eq_getElem?_getD]
theorem bitsTo_flip (a : List UInt8) (b : Nat) (hb : b / 8 < a.length) : ∀ k, bitsTo a (flipAt a b) k = if b / 8 < k then 1 else 0
  | 0 => rfl
  | k + 1 => by
    rw [bitsTo, bitsTo_flip a b hb k, flip_get]
    by_cases h : k = b / 8
    · rw [if_neg (show ¬ b / 8 < k by omega), if_pos (show k = b / 8 ∧ k < a.length from ⟨h, by omega⟩), if_pos (show b / 8 < k + 1 by omega), flipB_toNat _ (Nat.mod_lt _ (by omega)), ← Nat.xor_assoc, Nat.xor_self, Nat.zero_xor, pop_pow (Nat.mod_lt _ (by omega))]
    · rw [if_neg (show ¬ (k = b / 8 ∧ k < a.length) by omega), Nat.xor_self, pop_zero, Nat.add_zero]
      by_cases h2 : b / 8 < k
      · rw [if_pos h2, if_pos (by omega)]
      · rw [if_neg h2, if_neg (by omega)]

/-- Is m what was sent as s, but for one bit where it is spoilt? -/
def Comes (m s : M) : Prop := s.frm = m.frm ∧ s.to = m.to ∧ s.dat.length = m.dat.length ∧ bitsTo s.dat m.dat s.dat.length = if m.sp then 1 else 0
theorem comes_flip {m s : M} {b : Nat} (h1 : s.frm = m.frm) (h2 : s.to = m.to) (hb : b / 8 < s.dat.length) (hd : m.dat = flipAt s.dat b) (hs : m.sp = true) : Comes m s :=
  ⟨h1, h2, by rw [hd, flipAt_length], by rw [hd, bitsTo_flip _ _ hb, if_pos hb, hs]; rfl⟩
theorem comes_same {m s : M} (h1 : s.frm = m.frm) (h2 : s.to = m.to) (hd : m.dat = s.dat) (hs : m.sp = false) : Comes m s :=
  ⟨h1, h2, by rw [hd], by rw [hd, bitsTo_same, hs]; rfl⟩

section
variable {S : Nat → Prop} {w0 w : World} {R : List SP}
set_option maxRecDepth 100000 in
set_option maxHeartbeats 6400000 in
theorem comes_own {A Ad : Option Addr} {c cd k0 : Nat} {Q : List M} {m s0 : M} (hQ : Q.length ≤ 1000000) (hdl : m.dat.length ≤ 140737488351232) (hdQ : ∀ s, s ∈ Q → s.dat.length ≤ 140737488351232)
    (h : Own S w0 w (SP.mails 34 (.slice A Q.length c) Q :: R)) (hr : Reads S w0 R Ad m.dat) (hk : Q[k0]? = some s0) (hs : Comes m s0) :
    Calls Try.prog 26 #[mailV m (.slice Ad m.dat.length cd), .slice A Q.length c] w fun e w' => e = .returned (.bool true) ∧ Own S w0 w' (SP.mails 34 (.slice A Q.length c) Q :: R) := by
  obtain ⟨A', c', ds, hv, hds, -, -, h1⟩ := h.mails_open
  cases hv
  obtain ⟨p, hp⟩ : ∃ p, w.heap.size = p := ⟨_, rfl⟩
  have HP := Lib.hid hp
  have o1 := h1.alloc #[.int .i64 m.num, .int .i64 m.frm, .int .i64 m.to, .slice Ad m.dat.length cd, .bool m.sp] 34
  rw [hp] at o1
  obtain ⟨ml, hml⟩ : ∃ ml, m.dat.length = ml := ⟨_, rfl⟩
  have HML := Lib.hid hml
  have H := Lib.hid (And.intro hdl (And.intro hdQ (And.intro hr (And.intro hk (And.intro hs hds)))))
  have hk0 : k0 < Q.length := (List.getElem?_eq_some_iff.1 hk).1
  have O1 := Lib.hid o1
  unfold mailV
  rw [hml]
  rw [hml] at O1
  clear h h1 hds hdl hdQ hr hk hs hp o1 hml
  go_enter Try.func26, Try.ntmps26
  go_wp2
  simp only [HP.out]
  go_loopw [5] (fun tb wr => ∃ (i : Nat), i ≤ k0 ∧ tb = .int .i64 i ∧ Own S w0 wr (SP.blk p 34 #[.int .i64 m.num, .int .i64 m.frm, .int .i64 m.to, .slice Ad ml cd, .bool m.sp] :: SP.row 34 5 (.slice A Q.length c) (mrow Q ds) :: SP.stars (mdata Q ds) :: R)) (fun tb _ => Q.length - (intOf tb).toNat)
  case atStart => exact ⟨0, Nat.zero_le _, rfl, O1.out⟩
  case round =>
    obtain ⟨i, hi, rfl, hown⟩ := hrel
    clear O1
    have i1 : (i : Int) < (Q.length : Int) := by omega
    have hin : i < Q.length := by omega
    obtain ⟨hdl, hdQ, hr, hk, hs, hds⟩ := H.out
    obtain ⟨s, hsi⟩ : ∃ s, Q[i]? = some s := ⟨_, List.getElem?_eq_getElem hin⟩
    obtain ⟨d, hd⟩ : ∃ d, ds[i]? = some d := ⟨_, List.getElem?_eq_getElem (by rw [hds]; exact hin)⟩
    have hrw := hown.pick (L := [_, _, _]) [1, 2]
    obtain ⟨As, cs, rfl, -, -⟩ := SP.row_shape (n := s.dat.length) (by decide) ((hrw.swap).focus i (mdata_get hsi hd)).head (by rw [bts_length, Nat.mul_one])
    obtain ⟨ga, off, rfl, g0, -⟩ := hrw.cell (mrow_get (j := 0) hsi hd (by omega))
    obtain ⟨_, _, e1, g1, -⟩ := hrw.cell (mrow_get (j := 1) hsi hd (by omega)); cases e1
    obtain ⟨_, _, e1, g2, -⟩ := hrw.cell (mrow_get (j := 2) hsi hd (by omega)); cases e1
    obtain ⟨_, _, e1, g3, -⟩ := hrw.cell (mrow_get (j := 3) hsi hd (by omega)); cases e1
    obtain ⟨_, _, e1, g4, -⟩ := hrw.cell (mrow_get (j := 4) hsi hd (by omega)); cases e1
    simp only [mcells, List.getElem?_cons_zero, List.getElem?_cons_succ, ← Nat.add_assoc, Nat.add_zero] at g0 g1 g2 g3 g4
    have o2 := hown.alloc #[.int .i64 s.num, .int .i64 s.frm, .int .i64 s.to, .slice As s.dat.length cs, .bool s.sp] 34
    obtain ⟨q, hq⟩ : ∃ q, wr.heap.size = q := ⟨_, rfl⟩
    have HQ := Lib.hid hq
    rw [hq] at o2
    obtain ⟨sl, hsl⟩ : ∃ sl, s.dat.length = sl := ⟨_, rfl⟩
    have HSL := Lib.hid hsl
    rw [hsl] at g3 o2
    have O2 := Lib.hid o2
    have HS := Lib.hid (And.intro hsi hd)
    clear hown hrw hdl hdQ hr hk hs hds hsi hd o2 hq hsl
    go_upto_region 5 with (fail)
    obtain ⟨W2, hW2⟩ : ∃ W2, wr.alloc (.cells #[.int .i64 s.num, .int .i64 s.frm, .int .i64 s.to, .slice As sl cs, .bool s.sp] 34) = W2 := ⟨_, rfl⟩
    simp only [hW2, HQ.out]
    rw [hW2] at O2
    clear hW2 g0 g1 g2 g3 g4
    have s1 := O2.out.blk_cell 1
    have s2 := O2.out.blk_cell 2
    have s3 := O2.out.blk_cell 3
    have m1 := (O2.out.pick (L := [_, _]) [1]).blk_cell 1
    have m2 := (O2.out.pick (L := [_, _]) [1]).blk_cell 2
    have m3 := (O2.out.pick (L := [_, _]) [1]).blk_cell 3
    simp only [List.getElem?_toArray, List.getElem?_cons_zero, List.getElem?_cons_succ] at s1 s2 s3 m1 m2 m3
    have off1 : i ≠ k0 → i + 1 ≤ k0 := by omega
    by_cases hA : s.frm = m.frm ∧ s.to = m.to ∧ sl = ml
    · obtain ⟨q1, q2, q3⟩ := hA
      subst q3
      have r1 : (s.frm != m.frm) = false := by simpa using q1
      have r2 : (s.to != m.to) = false := by simpa using q2
      have r3 : ((sl : Int) != (sl : Int)) = false := by simp
      have hsl : sl ≤ 140737488351232 := by
        obtain ⟨hdl, hdQ, hr, hk, hs, hds⟩ := H.out
        have := hdQ s (List.mem_of_getElem? HS.out.1)
        rw [HSL.out] at this
        exact this
      clear q1 q2
      go_wp2
      go_loopw [7, 8] (fun tb tk wz => ∃ k : Nat, k ≤ sl ∧ tb = .int .i64 ((bitsTo s.dat m.dat k : Nat) : Int) ∧ tk = .int .i64 k ∧ Own S w0 wz (SP.blk q 34 #[.int .i64 s.num, .int .i64 s.frm, .int .i64 s.to, .slice As sl cs, .bool s.sp] :: SP.blk p 34 #[.int .i64 m.num, .int .i64 m.frm, .int .i64 m.to, .slice Ad sl cd, .bool m.sp] :: SP.row 34 5 (.slice (some ⟨ga, off, none⟩) Q.length c) (mrow Q ds) :: SP.stars (mdata Q ds) :: R)) (fun _ tk _ => sl - (intOf tk).toNat)
      case atStart => exact ⟨0, Nat.zero_le _, rfl, rfl, O2.out⟩
      case round =>
        obtain ⟨k, hk, rfl, rfl, hz⟩ := hrel
        clear O2 s1 s2 s3 m1 m2 m3 r1 r2 r3
        have s3 := hz.blk_cell 3
        have m3 := (hz.pick (L := [_, _]) [1]).blk_cell 3
        have m4 := (hz.pick (L := [_, _]) [1]).blk_cell 4
        simp only [List.getElem?_toArray, List.getElem?_cons_zero, List.getElem?_cons_succ] at s3 m3 m4
        obtain ⟨B, hB⟩ : ∃ B, bitsTo s.dat m.dat k = B := ⟨_, rfl⟩
        have hB8 : B ≤ 8 * k := by rw [← hB]; exact bitsTo_le _ _ _
        by_cases hks : k < sl
        · have k1 : (k : Int) < (sl : Int) := by omega
          obtain ⟨hdl, hdQ, hr, -, -, hds⟩ := H.out
          obtain ⟨u, hu⟩ : ∃ u, s.dat[k]? = some u := ⟨_, List.getElem?_eq_getElem (by rw [HSL.out]; exact hks)⟩
          obtain ⟨v, hv⟩ : ∃ v, m.dat[k]? = some v := ⟨_, List.getElem?_eq_getElem (by rw [HML.out]; exact hks)⟩
          obtain ⟨gs, os, rfl, cu, -⟩ := (((hz.pick (L := [_, _, _, _]) [3]).focus i (mdata_get HS.out.1 HS.out.2))).cell (bts_get hu)
          obtain ⟨gm, om, rfl, cv⟩ := hr _ [_, _, _, _] hz _ _ (bts_get hv)
          have e7 := u8_xor_nat u.toNat v.toNat u.toNat_lt v.toNat_lt
          have hx : u.toNat ^^^ v.toNat < 256 := Nat.xor_lt_two_pow (n := 8) u.toNat_lt v.toNat_lt
          obtain ⟨x, hxx⟩ : ∃ x, u.toNat ^^^ v.toNat = x := ⟨_, rfl⟩
          have hnext : bitsTo s.dat m.dat (k + 1) = B + pop x := by
            rw [bitsTo, hB, List.getD_eq_getElem?_getD, List.getD_eq_getElem?_getD, hu, hv, ← hxx]; rfl
          rw [hxx] at e7 hx
          have HN := Lib.hid (And.intro hnext hB)
          have hw1 : IntKind.i64.wrap (x : Int) = (x : Int) := IntWalk.i64_in _ (by omega)
          rw [hB]
          have cu' : _ = some (Value.int .u8 (u.toNat : Int)) := cu
          have cv' : _ = some (Value.int .u8 (v.toNat : Int)) := cv
          obtain ⟨un, hun⟩ : ∃ un, u.toNat = un := ⟨_, rfl⟩
          obtain ⟨vn, hvn⟩ : ∃ vn, v.toNat = vn := ⟨_, rfl⟩
          rw [hun] at e7 cu'
          rw [hvn] at e7 cv'
          have HZ := Lib.hid hz
          clear hu hv cu cv hxx hnext hz hr hdl hdQ hds hB hun hvn
          go_upto_region 10 with (fail)
          go_quiet (fail)
          clear e7 cu' cv' s3 m3 m4
          go_wp2
          go_loopw [7, 9] (fun tb tx wy => ∃ b y : Nat, y < 256 ∧ b ≤ B + 8 ∧ tb = .int .i64 b ∧ tx = .int .i64 y ∧ Own S w0 wy (SP.blk q 34 #[.int .i64 s.num, .int .i64 s.frm, .int .i64 s.to, .slice (some ⟨gs, os, none⟩) sl cs, .bool s.sp] :: SP.blk p 34 #[.int .i64 m.num, .int .i64 m.frm, .int .i64 m.to, .slice (some ⟨gm, om, none⟩) sl cd, .bool m.sp] :: SP.row 34 5 (.slice (some ⟨ga, off, none⟩) Q.length c) (mrow Q ds) :: SP.stars (mdata Q ds) :: R) ∧ Hid (b + pop y = B + pop x)) (fun _ tx _ => (intOf tx).toNat)
          case atStart => exact ⟨B, x, hx, by omega, rfl, rfl, Own.drewN HZ.out _, rfl⟩
          case round =>
            obtain ⟨b, y, hy, hb, rfl, rfl, hy2, hby⟩ := hrel
            clear HZ
            by_cases hy0 : 0 < y
            · have y1 : (0 : Int) < (y : Int) := by omega
              have y0 : (0 : Int) ≤ (y : Int) := by omega
              have hmod : Int.tmod (y : Int) 2 = ((y % 2 : Nat) : Int) := by rw [Int.tmod_eq_emod_of_nonneg (by omega)]; omega
              have hdiv : Int.tdiv (y : Int) 2 = ((y / 2 : Nat) : Int) := IntWalk.up_tdiv rfl rfl
              have hph := pop_half hy
              have hpl := pop_le (y / 2)
              have hpx := pop_le x
              have hHb := hby.out
              have hb2 : b + y % 2 ≤ B + 8 := by omega
              have HBY := Lib.hid (show b + y % 2 + pop (y / 2) = B + pop x by omega)
              have HY := Lib.hid hy2
              clear hph hpl hpx hHb hby hy2
              go_wp2
              go_roundw
              case rel => exact ⟨b + y % 2, y / 2, by omega, hb2, by go_num, by go_num, HY.out, HBY⟩
              case measure => simp [intOf]; omega
            · obtain rfl : y = 0 := by omega
              have hfin : b = bitsTo s.dat m.dat (k + 1) := by rw [HN.out.1, ← hby.out]; rfl
              have HF := Lib.hid hfin
              have HY := Lib.hid hy2
              clear hfin hy2 hby
              go_wp2
              go_roundw
              case rel => exact ⟨k + 1, by omega, by rw [← HF.out], by go_num, HY.out⟩
              case measure => simp [intOf]; omega
        · obtain rfl : k = sl := by omega
          have k1 : ¬ (k : Int) < (k : Int) := by omega
          rw [hB]
          have HB := Lib.hid hB
          have HZ := Lib.hid hz
          have hat : i = k0 → B = if m.sp then 1 else 0 := by
            rintro rfl
            obtain ⟨hdl, hdQ, hr, hk, hs, hds⟩ := H.out
            have : s = s0 := Option.some.inj (HS.out.1.symm.trans hk)
            subst this
            rw [← HB.out, ← HSL.out]
            exact hs.2.2.2
          obtain ⟨b, hb⟩ : ∃ b, m.sp = b := ⟨_, rfl⟩
          rw [hb] at m4 hat
          clear hB hz hb
          cases b with
          | false =>
            by_cases hB0 : B = 0
            · have z1 : ((B : Int) == 0) = true := by simp [hB0]
              clear hat hB0 hB8
              go_wp2
              go_ret
              exact ⟨rfl, Own.mails_shut H.out.2.2.2.2.2 (HZ.out.pick (L := [_, _, _, _]) [2, 3])⟩
            · have z1 : ((B : Int) == 0) = false := by simp [hB0]
              have hi2 : i + 1 ≤ k0 := off1 (fun h => hB0 (hat h))
              clear hat hB0 off1
              by_cases hB1 : B = 1
              · have z2 : ((B : Int) == 1) = true := by simp [hB1]
                clear hB1 hB8
                go_wp2
                go_roundw
                case rel => exact ⟨i + 1, hi2, by go_num, HZ.out.pop⟩
                case measure => simp [intOf]; omega
              · have z2 : ((B : Int) == 1) = false := by simp; omega
                clear hB1
                go_wp2
                go_roundw
                case rel => exact ⟨i + 1, hi2, by go_num, HZ.out.pop⟩
                case measure => simp [intOf]; omega
          | true =>
            by_cases hB1 : B = 1
            · have z1 : ((B : Int) == 1) = true := by simp [hB1]
              have z2 : ((B : Int) == 0) = false := by simp [hB1]
              clear hat hB1 hB8
              go_wp2
              go_ret
              exact ⟨rfl, Own.mails_shut H.out.2.2.2.2.2 (HZ.out.pick (L := [_, _, _, _]) [2, 3])⟩
            · have z1 : ((B : Int) == 1) = false := by simp; omega
              have hi2 : i + 1 ≤ k0 := off1 (fun h => hB1 (hat h))
              clear hat hB1 off1
              by_cases hB0 : B = 0
              · have z2 : ((B : Int) == 0) = true := by simp [hB0]
                clear hB0 hB8
                go_wp2
                go_roundw
                case rel => exact ⟨i + 1, hi2, by go_num, HZ.out.pop⟩
                case measure => simp [intOf]; omega
              · have z2 : ((B : Int) == 0) = false := by simp [hB0]
                clear hB0
                go_wp2
                go_roundw
                case rel => exact ⟨i + 1, hi2, by go_num, HZ.out.pop⟩
                case measure => simp [intOf]; omega
    · have hne : i ≠ k0 := by
        rintro rfl
        obtain ⟨hdl, hdQ, hr, hk, hs, hds⟩ := H.out
        have : s = s0 := Option.some.inj (HS.out.1.symm.trans hk)
        subst this
        exact hA ⟨hs.1, hs.2.1, by rw [← HSL.out, ← HML.out]; exact hs.2.2.1⟩
      have hcase : (s.frm != m.frm) = true ∨ (s.frm != m.frm) = false ∧ (s.to != m.to) = true ∨ (s.frm != m.frm) = false ∧ (s.to != m.to) = false ∧ ((sl : Int) != (ml : Int)) = true := by
        simp only [bne_iff_ne, bne_eq_false_iff_eq, ne_eq]
        by_cases h1 : s.frm = m.frm
        · by_cases h2 : s.to = m.to
          · refine .inr (.inr ⟨h1, h2, fun h3 => hA ⟨h1, h2, by omega⟩⟩)
          · exact .inr (.inl ⟨h1, h2⟩)
        · exact .inl h1
      have hi2 := off1 hne
      clear hA hne off1
      rcases hcase with h1 | ⟨h1, h2⟩ | ⟨h1, h2, h3⟩
      all_goals
        go_wp2
        go_roundw
        case rel => exact ⟨i + 1, hi2, by go_num, O2.out.pop⟩
        case measure => simp [intOf]; omega
end
end Go.Proofs.Ytlhinhcbbknhcaa

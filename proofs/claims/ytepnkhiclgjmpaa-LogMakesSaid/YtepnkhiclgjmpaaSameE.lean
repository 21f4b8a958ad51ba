/-
  SameEntry, SameEntries; Entry, Entries: copies.
  Conditions: none beyond each theorem's own.
-/
import Derived.Test.YtepnkhiclgjmpaaLNewer
import Derived.Deep.RegionHeld3
namespace Go.Proofs.Ytepnkhiclgjmpaa
set_option linter.unusedVariables false
set_option linter.unusedSimpArgs false
open Go.RowKit

deriving instance DecidableEq for E

section
variable {S : Nat → Prop} {w0 w : World} {R : List SP}
set_option maxHeartbeats 3200000 in
theorem sameent_own {a b : E} {Ad Bd : Option Addr} {ca cb : Nat} (h : Own S w0 w R) (hx : Rd w Ad (bts a.dat)) (hy : Rd w Bd (bts b.dat)) (hl : a.dat.length ≤ 140737488351232) :
    Calls Try.prog 60 #[.agg #[.int .i64 a.term, .int .i64 a.index, .int .i64 a.kind, .slice Ad a.dat.length ca], .agg #[.int .i64 b.term, .int .i64 b.index, .int .i64 b.kind, .slice Bd b.dat.length cb]] w fun e w' => e = .returned (.bool (decide (a = b))) ∧ Own S w0 w' R := by
  obtain ⟨at_, ai, ak, ad⟩ := a
  obtain ⟨bt, bi, bk, bd⟩ := b
  simp only at hx hy hl ⊢
  have o2 := (h.alloc #[.int .i64 at_, .int .i64 ai, .int .i64 ak, .slice Ad ad.length ca] 26).alloc #[.int .i64 bt, .int .i64 bi, .int .i64 bk, .slice Bd bd.length cb] 26
  rw [World.size_alloc] at o2
  have bl := ((Below.refl w.heap.size w).alloc (Nat.le_refl _) (.cells #[.int .i64 at_, .int .i64 ai, .int .i64 ak, .slice Ad ad.length ca] 26)).alloc (by rw [World.size_alloc]; omega) (.cells #[.int .i64 bt, .int .i64 bi, .int .i64 bk, .slice Bd bd.length cb] 26)
  have HS := Lib.hid (samebytes_own (ca := ca) (cb := cb) ad bd o2 (hx.below bl) (hy.below bl) hl)
  obtain ⟨r, hr⟩ : ∃ r : Bool, decide ((⟨at_, ai, ak, ad⟩ : E) = ⟨bt, bi, bk, bd⟩) = r := ⟨_, rfl⟩
  obtain ⟨sd, hsd⟩ : ∃ sd : Bool, decide (ad = bd) = sd := ⟨_, rfl⟩
  have hr' : r = (sd && (at_ == bt) && (ai == bi) && (ak == bk)) := by
    rw [← hr, ← hsd, Bool.eq_iff_iff]
    simp only [decide_eq_true_eq, E.mk.injEq, Bool.and_eq_true, beq_iff_eq]
    exact ⟨fun ⟨a, b, c, d⟩ => ⟨⟨⟨d, a⟩, b⟩, c⟩, fun ⟨⟨⟨d, a⟩, b⟩, c⟩ => ⟨a, b, c, d⟩⟩
  have ways : sd = false ∧ r = false ∨ sd = true ∧ ((at_ == bt) = false ∧ r = false ∨ (at_ == bt) = true ∧ ((ai == bi) = false ∧ r = false ∨ (ai == bi) = true ∧ (ak == bk) = r)) := by
    rw [hr']
    generalize (at_ == bt) = x
    generalize (ai == bi) = y
    generalize (ak == bk) = z
    cases sd <;> cases x <;> cases y <;> cases z <;> simp
  clear hr'
  rw [hsd] at HS
  rw [hr]
  obtain ⟨la, hla⟩ : ∃ la, ad.length = la := ⟨_, rfl⟩
  obtain ⟨lb, hlb⟩ : ∃ lb, bd.length = lb := ⟨_, rfl⟩
  obtain ⟨q, hq⟩ : ∃ q, w.heap.size = q := ⟨_, rfl⟩
  have HQ := Lib.hid hq
  rw [hla, hlb, hq] at HS
  rw [hla, hlb]
  have d1 := o2.blk_cell 3
  have d2 := (o2.pick (L := [_, _]) [1]).blk_cell 3
  rw [hla, hlb, hq] at d1 d2
  simp only [List.getElem?_toArray, List.getElem?_cons_zero, List.getElem?_cons_succ] at d1 d2
  have D := Lib.hid (And.intro d1 d2)
  clear hsd hr hla hlb h hx hy bl o2 hl hq d1 d2
  go_enter Try.func60, Try.ntmps60
  go_upto_region 1 with (fail)
  simp only [World.size_alloc, HQ.out]
  obtain ⟨W2, hW2⟩ : ∃ W2, (w.alloc (.cells #[.int .i64 at_, .int .i64 ai, .int .i64 ak, .slice Ad la ca] 26)).alloc (.cells #[.int .i64 bt, .int .i64 bi, .int .i64 bk, .slice Bd lb cb] 26) = W2 := ⟨_, rfl⟩
  rw [hW2] at HS
  rw [hW2] at D
  simp only [hW2]
  clear hW2
  obtain ⟨d1, d2⟩ := D.out
  go_wp2_with fail
  refine (HS.out).mono ?_
  rintro e w3 ⟨rfl, o3⟩
  have c0 := o3.blk_cell 0
  have c1 := o3.blk_cell 1
  have c2 := o3.blk_cell 2
  have e0 := (o3.pick (L := [_, _]) [1]).blk_cell 0
  have e1 := (o3.pick (L := [_, _]) [1]).blk_cell 1
  have e2 := (o3.pick (L := [_, _]) [1]).blk_cell 2
  simp only [List.getElem?_toArray, List.getElem?_cons_zero, List.getElem?_cons_succ] at c0 c1 c2 e0 e1 e2
  have O3 := Lib.hid o3.pop.pop
  clear o3 HS d1 d2 D
  rcases ways with ⟨rfl, rfl⟩ | ⟨rfl, ⟨h1, rfl⟩ | ⟨h1, ⟨h2, rfl⟩ | ⟨h2, h3⟩⟩⟩
  · go_wp2
    go_ret
    exact ⟨rfl, O3.out⟩
  · go_wp2
    go_ret
    exact ⟨rfl, O3.out⟩
  · go_wp2
    go_ret
    exact ⟨rfl, O3.out⟩
  · go_wp2
    go_ret
    exact ⟨rfl, O3.out⟩

theorem ne_of_get {xs ys : List E} {i : Nat} {a b : E} (ha : xs[i]? = some a) (hb : ys[i]? = some b) (h : a ≠ b) : xs ≠ ys := by
  rintro rfl; rw [ha] at hb; cases hb; exact h rfl
theorem eq_of_take {xs ys : List E} (h : xs.length = ys.length) (ht : ∀ k, k < xs.length → xs[k]? = ys[k]?) : xs = ys := by
  refine List.ext_getElem? fun k => ?_
  by_cases hk : k < xs.length
  · exact ht k hk
  · rw [List.getElem?_eq_none (by omega), List.getElem?_eq_none (by omega)]
set_option maxRecDepth 100000 in
set_option maxHeartbeats 3200000 in
theorem sameents_own {xs ys : List E} {A B : Option Addr} {ca cb : Nat} (h : Own S w0 w R) (hx : EReads S w0 R A xs) (hy : EReads S w0 R B ys) (hl : xs.length ≤ 1000000) (hd : ∀ m, m ∈ xs → m.dat.length ≤ 140737488351232) :
    Calls Try.prog 32 #[.slice A xs.length ca, .slice B ys.length cb] w fun e w' => e = .returned (.bool (decide (xs = ys))) ∧ Own S w0 w' R := by
  obtain ⟨r, hr⟩ : ∃ r : Bool, decide (xs = ys) = r := ⟨_, rfl⟩
  rw [hr]
  have H := Lib.hid (And.intro h (And.intro hx (And.intro hy (And.intro hd hr))))
  clear h hx hy hd hr
  by_cases hne : xs.length = ys.length
  · have hn' : ((xs.length : Int) != (ys.length : Int)) = false := by simp [hne]
    have HN := Lib.hid hne
    clear hne
    go_enter Try.func32, Try.ntmps32
    go_wp2
    go_loopw [5] (fun ti wr => ∃ i : Nat, i ≤ xs.length ∧ ti = .int .i64 i ∧ Hid (∀ k, k < i → xs[k]? = ys[k]?) ∧ Own S w0 wr R) (fun ti _ => xs.length - (intOf ti).toNat)
    case atStart => exact ⟨0, Nat.zero_le _, rfl, fun k hk => by omega, H.out.1⟩
    case round =>
      obtain ⟨i, hi, rfl, hK, hown⟩ := hrel
      by_cases hin : i < xs.length
      · have i1 : (i : Int) < (xs.length : Int) := by omega
        have i2 : (i : Int) < (ys.length : Int) := by have := HN.out; omega
        obtain ⟨a, ha⟩ : ∃ a, xs[i]? = some a := ⟨_, List.getElem?_eq_getElem hin⟩
        obtain ⟨b, hb⟩ : ∃ b, ys[i]? = some b := ⟨_, List.getElem?_eq_getElem (by omega)⟩
        obtain ⟨ga, oa, Ad, ca', rfl, -, k0, k1, k2, k3, -, -, hra⟩ := H.out.2.1 wr [] hown i a ha
        obtain ⟨gb, ob, Bd, cb', rfl, -, l0, l1, l2, l3, -, -, hrb⟩ := H.out.2.2.1 wr [] hown i b hb
        have HS := Lib.hid (fun n => sameent_own (a := a) (b := b) (ca := ca') (cb := cb') (hown.drewN n) hra hrb (H.out.2.2.2.1 a (List.mem_of_getElem? ha)))
        obtain ⟨sd, hsd⟩ : ∃ sd : Bool, decide (a = b) = sd := ⟨_, rfl⟩
        rw [hsd] at HS
        have HK := Lib.hid (And.intro hK.out (And.intro ha (And.intro hb hsd)))
        clear hK ha hb hsd hown hra hrb
        go_upto_region 6 with (fail)
        go_still_tail 8, (by kernel_rfl)
        change wpList _ _ _ _ _ wr.drew
        go_wp2_with fail
        refine ((HS.out 1)).mono ?_
        rintro e w5 ⟨rfl, o5⟩
        have O5 := Lib.hid o5
        clear o5 HS k0 k1 k2 k3 l0 l1 l2 l3
        cases sd with
        | true =>
          go_wp2
          go_roundw
          case rel =>
            refine ⟨i + 1, by omega, by go_num, fun k hk => ?_, O5.out⟩
            by_cases hki : k = i
            · subst hki
              rw [HK.out.2.1, HK.out.2.2.1, of_decide_eq_true HK.out.2.2.2]
            · exact HK.out.1 k (by omega)
          case measure => simp [intOf]; omega
        | false =>
          obtain rfl : r = false := by
            rw [← H.out.2.2.2.2]; exact decide_eq_false (ne_of_get HK.out.2.1 HK.out.2.2.1 (of_decide_eq_false HK.out.2.2.2))
          go_wp2
          go_ret
          exact ⟨rfl, O5.out⟩
      · have i1 : ¬ (i : Int) < (xs.length : Int) := by omega
        obtain rfl : i = xs.length := by omega
        obtain rfl : r = true := by
          rw [← H.out.2.2.2.2]; exact decide_eq_true (eq_of_take HN.out hK.out)
        have HO := Lib.hid hown
        clear hown hK
        go_wp2
        go_ret
        exact ⟨rfl, HO.out⟩
  · have hn' : ((xs.length : Int) != (ys.length : Int)) = true := by rw [bne_iff_ne]; omega
    obtain rfl : r = false := by
      rw [← H.out.2.2.2.2]; exact decide_eq_false fun h => hne (by rw [h])
    clear hne
    go_enter Try.func32, Try.ntmps32
    go_wp2
    go_ret
    exact ⟨rfl, H.out.1⟩
end
end Go.Proofs.Ytepnkhiclgjmpaa

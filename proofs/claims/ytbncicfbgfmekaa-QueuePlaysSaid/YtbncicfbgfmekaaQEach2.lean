/-
  The law's each: two goes over what a queue holds, the first with a stop.
  Conditions: the list says what is in the queue.
-/
import Derived.Test.YtbncicfbgfmekaaQEach
namespace Go.Proofs.Ytbncicfbgfmekaa
set_option linter.unusedVariables false
set_option linter.unusedSimpArgs false
open Go.RowKit Go.Shelf
attribute [local go_sem] Oper.semAt_some

def markOf (D : Nat) : Deferred := { target := .collected D, args := #[] }
def markObj (D : Nat) : SP := SP.obj D (.deferred (some []))
/-- The marks of the loops that have run are taken, one behind the other. -/
theorem leaves_marks {F : Fence} {n : Nat} {P : Program} {fn : Func} {tmps : Array Value} {Q : Ending → World → Prop} {S : Nat → Prop} {w0 : World} {R : List SP} (hend : ∀ W, Own S w0 W R → LeavesInM F n P fn tmps Q [] .returning W) :
    ∀ (L : List Nat) (W : World), Own S w0 W (L.map markObj ++ R) → LeavesInM F n P fn tmps Q (L.map markOf) .returning W
  | [], W, h => hend W h
  | D :: L, W, h => by
    refine ⟨by simp, .inl ⟨D, _, rfl, run_takeDeferred (Own.obj (R := L.map markObj ++ R) h), ?_⟩⟩
    exact leaves_marks hend L _ ((Own.putObj (R := L.map markObj ++ R) h (.deferred none)).pop)
theorem eql_func_nil (W : World) (g : Nat) : (binOp BinOp.eql 75 (.func (.func 52) #[] #[.pointer (some ⟨g, 0, none⟩)]) .nilFunc).run Try.prog W = .ok (.bool false) W := by kernel_rfl
theorem wpIn_loop_rounds_succ {F : Fence} {n : Nat} {P : Program} {Q : Exit → Act → World → Prop} {m : Nat} {a : Act} {w : World} {c : Code} (h : c.wpIn F n P (Exit.then (Code.roundsIn F n P c Q m) Q) a w) : Code.roundsIn F n P c Q (m + 1) a w := h
def eachI (kb : Nat) (C : Nat → Prop) (pre : List (Nat × Int)) : SP := SP.stars [SP.pur (C pre.length), SP.blk kb 3 #[.int .i64 (pre.length : Nat)]]
def eachX (kb : Nat) (C : Nat → Prop) (c : Code) (pre : List (Nat × Int)) : SP := SP.stars [SP.pur (c = .exit 2 ∧ C pre.length), SP.blk kb 3 #[.int .i64 (pre.length : Nat)]]

set_option maxRecDepth 100000 in
set_option maxHeartbeats 40000000 in
theorem qeach_own {S : Nat → Prop} {w0 w : World} {R : List SP} {g : Nat} {room : Int} {xs : List Int} {A : Option Addr} {ca : Nat} (stop : Int) (hl64 : xs.length ≤ 64) (h : Own S w0 w (SP.quei g room xs :: SP.row 3 1 (.slice A xs.length ca) (valsi xs) :: R)) :
    Calls Try.prog 43 #[.pointer (some ⟨g, 0, none⟩), .slice A xs.length ca, .int .i64 stop] w fun e w' => e = .returned (.bool true) ∧ Own S w0 w' (SP.quei g room xs :: SP.row 3 1 (.slice A xs.length ca) (valsi xs) :: R) := by
  obtain ⟨n, hn⟩ : ∃ n, xs.length = n := ⟨_, rfl⟩
  have HL := Lib.hid hn
  rw [hn] at h hl64 ⊢
  clear hn
  refine (callsIn_wide (n := 9)).1 ?_
  refine callsIn_of_wp_marks Try.func43 rfl trivial ?_ rfl
  simp only [Try.ntmps43, List.size_toArray, List.length_cons, List.length_nil, Nat.reduceAdd, Nat.reduceSub, Array.replicate_succ, Array.replicate_zero, List.push_toArray, List.append_toArray, List.nil_append, List.cons_append]
  obtain ⟨s, hs⟩ : ∃ s, w.heap.size = s := ⟨_, rfl⟩
  obtain ⟨s1, hs1⟩ : ∃ s1, s + 1 = s1 := ⟨_, rfl⟩
  obtain ⟨s2, hs2⟩ : ∃ s2, s1 + 1 = s2 := ⟨_, rfl⟩
  have o1 := ((h.alloc #[.slice A n ca] 30).alloc #[.int .i64 stop] 3).alloc #[.bool false] 4
  simp only [World.size_alloc, hs, hs1, hs2] at o1
  have HS := Lib.hid (And.intro hs (And.intro hs1 hs2))
  obtain ⟨W1, hW1⟩ : ∃ W1, ((w.alloc (.cells #[.slice A n ca] 30)).alloc (.cells #[.int .i64 stop] 3)).alloc (.cells #[.bool false] 4) = W1 := ⟨_, rfl⟩
  rw [hW1] at o1
  have HW1 := Lib.hid hW1
  obtain ⟨q, hq⟩ : ∃ q, W1.heap.size = q := ⟨_, rfl⟩
  have o2 := o1.alloc #[.pointer (some ⟨g, 0, none⟩)] 35
  rw [hq] at o2
  obtain ⟨W2, hW2⟩ : ∃ W, W1.alloc (.cells #[.pointer (some ⟨g, 0, none⟩)] 35) = W := ⟨_, rfl⟩
  rw [hW2] at o2
  have HE := eachf_calls W1 g
  rw [hq, hW2] at HE
  have HEC := Lib.hid HE
  obtain ⟨g0, hg0⟩ : ∃ g0, W2.heap.size = g0 := ⟨_, rfl⟩
  have o3 := o2.alloc #[.int .i64 0] 3
  rw [hg0] at o3
  obtain ⟨W0n, hW0⟩ : ∃ W, W2.alloc (.cells #[.int .i64 0] 3) = W := ⟨_, rfl⟩
  rw [hW0] at o3
  have HG0 := Lib.hid (And.intro hg0 hW0)
  have P0 := Lib.hid (o3.pick (L := [_, _, _, _, _, _, _]) [1, 5, 6, 4, 3, 2, 0])
  have kfn := fun W => eql_func_nil W q
  clear h o1 o2 o3 hs hs1 hs2 hW1 hq hW2 HE hg0 hW0
  gi_wp2_with fail
  simp only [World.size_alloc, HS.out.1, HS.out.2.1, HS.out.2.2, HW1.out]
  refine ⟨trivial, (callsIn_wide.2 HEC.out).mono ?_⟩
  rintro e w' ⟨rfl, rfl⟩
  gi_wp2
  simp only [HG0.out.1, HG0.out.2]
  refine wpIn_loop_rounds 3 ?_
  have cg := (P0.out.pick (L := [_, _, _, _, _, _, _]) [6]).blk_cell 0
  simp only [List.getElem?_toArray, List.getElem?_cons_zero] at cg
  obtain ⟨kb0, hkb⟩ : ∃ k, W0n.heap.size = k := ⟨_, rfl⟩
  have Q0 := P0.out.alloc #[.int .i64 0] 3
  rw [hkb] at Q0
  have HKb := Lib.hid hkb
  clear hkb
  refine wpIn_loop_rounds_succ ?_
  gi_wp2
  simp only [HKb.out]
  clear cg HKb
  refine wpIn_rangeOwnX (S := S) (w0 := w0) (Rest := SP.blk q 35 #[.pointer (some ⟨g, 0, none⟩)] :: SP.quei g room xs :: SP.row 3 1 (.slice A n ca) (valsi xs) :: SP.blk s 30 #[.slice A n ca] :: SP.blk s1 3 #[.int .i64 stop] :: SP.blk s2 4 #[.bool false] :: SP.blk g0 3 #[.int .i64 0] :: R) (enc := itEnc) rfl (by omega) (gf := 52) (lb := #[.pointer (some ⟨q, 0, none⟩)]) rfl trivial (enters_of Try.func52 (by kernel_rfl) rfl)
    (each1_iter _ (by omega) (by rw [HL.out]; omega)) (fun x => rfl) (eachI kb0 (fun m => ¬ (1 ≤ stop ∧ stop ≤ (m : Int)))) (eachX kb0 (fun m => stop = (m : Int))) ?start0 ?a0 ?assign0 ?body0 ?done0 ?stop0
  case assign0 =>
    intro l x W K hK
    dsimp only [itEnc]
    gi_wp2
    exact hK
  case start0 =>
    refine Own.unflat (L := [_, _]) (Own.pur ?_ (by simp; omega))
    exact Q0
  case body0 =>
    rintro l pre ⟨xi, xv⟩ W B1 ⟨hx1, hx2⟩ hown
    obtain ⟨hcond, own2⟩ := (Own.flat (L := [_, _]) hown).unpur
    simp only at hx1 hx2
    subst hx1
    have hkn := (List.getElem?_eq_some_iff.1 hx2).1
    rw [HL.out] at hkn
    have e2 : (((pre ++ [(pre.length, xv)]).length : Nat) : Int) = ((pre.length : Nat) : Int) + 1 := by rw [List.length_append]; rfl
    have HE := Lib.hid e2
    have k1 : (pre.length : Int) < (n : Int) := by omega
    have hk64 : (pre.length : Int) ≤ 64 := by omega
    obtain ⟨ga, oa, hA, kk, -⟩ := (own2.pick (L := [_, _, _, _, _]) [4]).cell (j := pre.length) (u := .int .i64 xv) (by rw [valsi, List.getElem?_map, hx2]; rfl)
    have ck := own2.blk_cell 0
    have cw := (own2.pick (L := [_, _, _, _, _, _]) [5]).blk_cell 0
    have cs := (own2.pick (L := [_, _, _, _, _, _, _]) [6]).blk_cell 0
    have cg := (own2.pick (L := [_, _, _, _, _, _, _, _, _]) [8]).blk_cell 0
    simp only [List.getElem?_toArray, List.getElem?_cons_zero] at ck cw cs cg
    rw [hA] at cw
    have fk := own2.blk_free 0
    have O5 := Lib.hid (own2.blk_set 0 (.int .i64 ((pre.length : Int) + 1)))
    have dk := O5.out.blk_cell 0
    have ds := (O5.out.pick (L := [_, _, _, _, _, _, _]) [6]).blk_cell 0
    have dg := (O5.out.pick (L := [_, _, _, _, _, _, _, _, _]) [8]).blk_cell 0
    simp only [List.setIfInBounds_toArray, List.set_cons_zero, List.getElem?_toArray, List.getElem?_cons_zero] at dk ds dg
    have hqq : ((pre.length : Int) != (pre.length : Int)) = false := by simp
    have hqv : ((xv : Int) != xv) = false := by simp
    have HC := Lib.hid hcond
    clear own2 hown hx2 e2 hcond hA
    by_cases hst : ((pre.length : Int) + 1) = stop
    · have hb1 : (((pre.length : Int) + 1) == stop) = true := by simp; omega
      have HSt := Lib.hid hst
      clear hst
      gi_wp2
      refine Own.unflat (L := [_, _]) (Own.pur ?_ ⟨rfl, by show stop = (((pre ++ [(pre.length, xv)]).length : Nat) : Int); rw [HE.out]; exact HSt.out.symm⟩)
      rw [HE.out]
      exact O5.out
    · have hb1 : (((pre.length : Int) + 1) == stop) = false := by simp; omega
      have HSt := Lib.hid hst
      clear hst
      gi_wp2
      refine Own.unflat (L := [_, _]) (Own.pur ?_ (by have h1 := HC.out; have h2 := HSt.out; have h3 := HE.out; show ¬ (1 ≤ stop ∧ stop ≤ (((pre ++ [(pre.length, xv)]).length : Nat) : Int)); rw [h3]; (try simp only at h1); omega))
      rw [HE.out]
      exact O5.out
  case done0 =>
    intro D0 p W hp hown
    obtain ⟨hcond, own2⟩ := (Own.flat (L := [_, _]) hown).unpur
    rw [hp, HL.out] at own2 hcond
    clear hp hown
    have hq : ((n : Int) != (n : Int)) = false := by simp
    have ck := own2.blk_cell 0
    have cw := (own2.pick (L := [_, _, _, _, _, _]) [5]).blk_cell 0
    have cs := (own2.pick (L := [_, _, _, _, _, _, _]) [6]).blk_cell 0
    have cg := (own2.pick (L := [_, _, _, _, _, _, _, _, _]) [8]).blk_cell 0
    simp only [List.getElem?_toArray, List.getElem?_cons_zero] at ck cw cs cg
    have hcc : stop ≤ 0 ∨ (n : Int) < stop := by (try simp only at hcond); omega
    clear hcond
    rcases hcc with hst | hst
    · have hs2 : ¬ 0 < stop := by omega
      obtain ⟨g1n, hg⟩ : ∃ k, W.heap.size = k := ⟨_, rfl⟩
      have own3 := own2.alloc #[.int .i64 1] 3
      rw [hg] at own3
      have P1 := Lib.hid (own3.pick (L := [_, _, _, _, _, _, _, _, _, _]) [3, 4, 5, 6, 7, 8, 0, 2])
      have HG := Lib.hid hg
      clear own2 own3 hg
      gi_wp2
      obtain ⟨W1n, hW⟩ : ∃ V, W.alloc (.cells #[.int .i64 1] 3) = V := ⟨_, rfl⟩
      rw [hW] at P1
      simp only [HG.out, hW]
      clear hW HG
      clear ck cw cs cg
      have cg := (P1.out.pick (L := [_, _, _, _, _, _, _]) [6]).blk_cell 0
      simp only [List.getElem?_toArray, List.getElem?_cons_zero] at cg
      obtain ⟨kb1, hkb⟩ : ∃ k, W1n.heap.size = k := ⟨_, rfl⟩
      have Q1 := P1.out.alloc #[.int .i64 0] 3
      rw [hkb] at Q1
      have HKb := Lib.hid hkb
      clear hkb
      refine wpIn_loop_rounds_succ ?_
      gi_wp2
      simp only [HKb.out]
      clear cg HKb
      refine wpIn_rangeOwnX (S := S) (w0 := w0) (Rest := SP.blk q 35 #[.pointer (some ⟨g, 0, none⟩)] :: SP.quei g room xs :: SP.row 3 1 (.slice A n ca) (valsi xs) :: SP.blk s 30 #[.slice A n ca] :: SP.blk s1 3 #[.int .i64 stop] :: SP.blk s2 4 #[.bool false] :: SP.blk g1n 3 #[.int .i64 1] :: markObj D0 :: R) (enc := itEnc) rfl (by omega) (gf := 52) (lb := #[.pointer (some ⟨q, 0, none⟩)]) rfl trivial (enters_of Try.func52 (by kernel_rfl) rfl)
        (each1_iter _ (by omega) (by rw [HL.out]; omega)) (fun x => rfl) (eachI kb1 (fun _ => True)) (eachX kb1 (fun _ => False)) ?start1a ?a1a ?assign1a ?body1a ?done1a ?stop1a
      case assign1a =>
        intro l x W K hK
        dsimp only [itEnc]
        gi_wp2
        exact hK
      case start1a =>
        refine Own.unflat (L := [_, _]) (Own.pur ?_ trivial)
        exact Q1
      case body1a =>
        rintro l pre ⟨xi, xv⟩ W B1 ⟨hx1, hx2⟩ hown
        obtain ⟨hcond, own2⟩ := (Own.flat (L := [_, _]) hown).unpur
        simp only at hx1 hx2
        subst hx1
        have hkn := (List.getElem?_eq_some_iff.1 hx2).1
        rw [HL.out] at hkn
        have e2 : (((pre ++ [(pre.length, xv)]).length : Nat) : Int) = ((pre.length : Nat) : Int) + 1 := by rw [List.length_append]; rfl
        have HE := Lib.hid e2
        have k1 : (pre.length : Int) < (n : Int) := by omega
        have hk64 : (pre.length : Int) ≤ 64 := by omega
        obtain ⟨ga, oa, hA, kk, -⟩ := (own2.pick (L := [_, _, _, _, _]) [4]).cell (j := pre.length) (u := .int .i64 xv) (by rw [valsi, List.getElem?_map, hx2]; rfl)
        have ck := own2.blk_cell 0
        have cw := (own2.pick (L := [_, _, _, _, _, _]) [5]).blk_cell 0
        have cs := (own2.pick (L := [_, _, _, _, _, _, _]) [6]).blk_cell 0
        have cg := (own2.pick (L := [_, _, _, _, _, _, _, _, _]) [8]).blk_cell 0
        simp only [List.getElem?_toArray, List.getElem?_cons_zero] at ck cw cs cg
        rw [hA] at cw
        have fk := own2.blk_free 0
        have O5 := Lib.hid (own2.blk_set 0 (.int .i64 ((pre.length : Int) + 1)))
        have dk := O5.out.blk_cell 0
        have ds := (O5.out.pick (L := [_, _, _, _, _, _, _]) [6]).blk_cell 0
        have dg := (O5.out.pick (L := [_, _, _, _, _, _, _, _, _]) [8]).blk_cell 0
        simp only [List.setIfInBounds_toArray, List.set_cons_zero, List.getElem?_toArray, List.getElem?_cons_zero] at dk ds dg
        have hqq : ((pre.length : Int) != (pre.length : Int)) = false := by simp
        have hqv : ((xv : Int) != xv) = false := by simp
        have HC := Lib.hid hcond
        clear own2 hown hx2 e2 hcond hA
        gi_wp2
        refine Own.unflat (L := [_, _]) (Own.pur ?_ trivial)
        rw [HE.out]
        exact O5.out
      case done1a =>
        intro D1 p W hp hown
        obtain ⟨hcond, own2⟩ := (Own.flat (L := [_, _]) hown).unpur
        rw [hp, HL.out] at own2
        clear hp hown hcond
        have hq : ((n : Int) != (n : Int)) = false := by simp
        have ck := own2.blk_cell 0
        have cw := (own2.pick (L := [_, _, _, _, _, _]) [5]).blk_cell 0
        have cs := (own2.pick (L := [_, _, _, _, _, _, _]) [6]).blk_cell 0
        have cg := (own2.pick (L := [_, _, _, _, _, _, _, _, _]) [8]).blk_cell 0
        simp only [List.getElem?_toArray, List.getElem?_cons_zero] at ck cw cs cg
        obtain ⟨g1n, hg⟩ : ∃ k, W.heap.size = k := ⟨_, rfl⟩
        have own3 := own2.alloc #[.int .i64 2] 3
        rw [hg] at own3
        have P2 := Lib.hid (own3.pick (L := [_, _, _, _, _, _, _, _, _, _, _]) [3, 4, 5, 6, 7, 8, 0, 2, 10])
        have HG := Lib.hid hg
        clear own2 own3 hg
        gi_wp2
        obtain ⟨W2, hW⟩ : ∃ V, W.alloc (.cells #[.int .i64 2] 3) = V := ⟨_, rfl⟩
        rw [hW] at P2
        simp only [HG.out, hW]
        clear hW HG
        clear ck cw cs cg
        have cg := (P2.out.pick (L := [_, _, _, _, _, _, _]) [6]).blk_cell 0
        have cr := (P2.out.pick (L := [_, _, _, _, _, _]) [5]).blk_cell 0
        have fr := (P2.out.pick (L := [_, _, _, _, _, _]) [5]).blk_free 0
        simp only [List.getElem?_toArray, List.getElem?_cons_zero] at cg cr
        have own4 := (P2.out.pick (L := [_, _, _, _, _, _, _, _, _]) [5, 7, 8, 1, 2]).blk_set 0 (.bool true)
        have OE := Lib.hid (own4.pick (L := [_, _, _, _, _]) [1, 2, 0, 3, 4])
        clear own4
        refine wpIn_loop_rounds_succ ?_
        gi_wp2
        refine leaves_marks (R := SP.blk s2 4 #[.bool true] :: SP.quei g room xs :: SP.row 3 1 (.slice A n ca) (valsi xs) :: R) (fun V hV => ?_) [D1, D0] _ OE.out
        have c5 := hV.blk_cell 0
        simp only [List.getElem?_toArray, List.getElem?_cons_zero] at c5
        exact ⟨.bool true, by simp [results, Try.results43, go_sem, c5], rfl, hV.pop⟩
      case stop1a =>
        rintro D c pre W ⟨hne, hcome⟩ hown
        exact absurd (Own.flat (L := [_, _]) hown).unpur.1.2 (fun h => h)
    · have hs2 : 0 < stop := by omega
      have hs3 : ¬ stop ≤ (n : Int) := by omega
      have hs4 : ¬ stop < (n : Int) := by omega
      obtain ⟨g1n, hg⟩ : ∃ k, W.heap.size = k := ⟨_, rfl⟩
      have own3 := own2.alloc #[.int .i64 1] 3
      rw [hg] at own3
      have P1 := Lib.hid (own3.pick (L := [_, _, _, _, _, _, _, _, _, _]) [3, 4, 5, 6, 7, 8, 0, 2])
      have HG := Lib.hid hg
      clear own2 own3 hg
      gi_wp2
      obtain ⟨W1n, hW⟩ : ∃ V, W.alloc (.cells #[.int .i64 1] 3) = V := ⟨_, rfl⟩
      rw [hW] at P1
      simp only [HG.out, hW]
      clear hW HG
      clear ck cw cs cg
      have cg := (P1.out.pick (L := [_, _, _, _, _, _, _]) [6]).blk_cell 0
      simp only [List.getElem?_toArray, List.getElem?_cons_zero] at cg
      obtain ⟨kb1, hkb⟩ : ∃ k, W1n.heap.size = k := ⟨_, rfl⟩
      have Q1 := P1.out.alloc #[.int .i64 0] 3
      rw [hkb] at Q1
      have HKb := Lib.hid hkb
      clear hkb
      refine wpIn_loop_rounds_succ ?_
      gi_wp2
      simp only [HKb.out]
      clear cg HKb
      refine wpIn_rangeOwnX (S := S) (w0 := w0) (Rest := SP.blk q 35 #[.pointer (some ⟨g, 0, none⟩)] :: SP.quei g room xs :: SP.row 3 1 (.slice A n ca) (valsi xs) :: SP.blk s 30 #[.slice A n ca] :: SP.blk s1 3 #[.int .i64 stop] :: SP.blk s2 4 #[.bool false] :: SP.blk g1n 3 #[.int .i64 1] :: markObj D0 :: R) (enc := itEnc) rfl (by omega) (gf := 52) (lb := #[.pointer (some ⟨q, 0, none⟩)]) rfl trivial (enters_of Try.func52 (by kernel_rfl) rfl)
        (each1_iter _ (by omega) (by rw [HL.out]; omega)) (fun x => rfl) (eachI kb1 (fun _ => True)) (eachX kb1 (fun _ => False)) ?start1b ?a1b ?assign1b ?body1b ?done1b ?stop1b
      case assign1b =>
        intro l x W K hK
        dsimp only [itEnc]
        gi_wp2
        exact hK
      case start1b =>
        refine Own.unflat (L := [_, _]) (Own.pur ?_ trivial)
        exact Q1
      case body1b =>
        rintro l pre ⟨xi, xv⟩ W B1 ⟨hx1, hx2⟩ hown
        obtain ⟨hcond, own2⟩ := (Own.flat (L := [_, _]) hown).unpur
        simp only at hx1 hx2
        subst hx1
        have hkn := (List.getElem?_eq_some_iff.1 hx2).1
        rw [HL.out] at hkn
        have e2 : (((pre ++ [(pre.length, xv)]).length : Nat) : Int) = ((pre.length : Nat) : Int) + 1 := by rw [List.length_append]; rfl
        have HE := Lib.hid e2
        have k1 : (pre.length : Int) < (n : Int) := by omega
        have hk64 : (pre.length : Int) ≤ 64 := by omega
        obtain ⟨ga, oa, hA, kk, -⟩ := (own2.pick (L := [_, _, _, _, _]) [4]).cell (j := pre.length) (u := .int .i64 xv) (by rw [valsi, List.getElem?_map, hx2]; rfl)
        have ck := own2.blk_cell 0
        have cw := (own2.pick (L := [_, _, _, _, _, _]) [5]).blk_cell 0
        have cs := (own2.pick (L := [_, _, _, _, _, _, _]) [6]).blk_cell 0
        have cg := (own2.pick (L := [_, _, _, _, _, _, _, _, _]) [8]).blk_cell 0
        simp only [List.getElem?_toArray, List.getElem?_cons_zero] at ck cw cs cg
        rw [hA] at cw
        have fk := own2.blk_free 0
        have O5 := Lib.hid (own2.blk_set 0 (.int .i64 ((pre.length : Int) + 1)))
        have dk := O5.out.blk_cell 0
        have ds := (O5.out.pick (L := [_, _, _, _, _, _, _]) [6]).blk_cell 0
        have dg := (O5.out.pick (L := [_, _, _, _, _, _, _, _, _]) [8]).blk_cell 0
        simp only [List.setIfInBounds_toArray, List.set_cons_zero, List.getElem?_toArray, List.getElem?_cons_zero] at dk ds dg
        have hqq : ((pre.length : Int) != (pre.length : Int)) = false := by simp
        have hqv : ((xv : Int) != xv) = false := by simp
        have HC := Lib.hid hcond
        clear own2 hown hx2 e2 hcond hA
        gi_wp2
        refine Own.unflat (L := [_, _]) (Own.pur ?_ trivial)
        rw [HE.out]
        exact O5.out
      case done1b =>
        intro D1 p W hp hown
        obtain ⟨hcond, own2⟩ := (Own.flat (L := [_, _]) hown).unpur
        rw [hp, HL.out] at own2
        clear hp hown hcond
        have hq : ((n : Int) != (n : Int)) = false := by simp
        have ck := own2.blk_cell 0
        have cw := (own2.pick (L := [_, _, _, _, _, _]) [5]).blk_cell 0
        have cs := (own2.pick (L := [_, _, _, _, _, _, _]) [6]).blk_cell 0
        have cg := (own2.pick (L := [_, _, _, _, _, _, _, _, _]) [8]).blk_cell 0
        simp only [List.getElem?_toArray, List.getElem?_cons_zero] at ck cw cs cg
        obtain ⟨g1n, hg⟩ : ∃ k, W.heap.size = k := ⟨_, rfl⟩
        have own3 := own2.alloc #[.int .i64 2] 3
        rw [hg] at own3
        have P2 := Lib.hid (own3.pick (L := [_, _, _, _, _, _, _, _, _, _, _]) [3, 4, 5, 6, 7, 8, 0, 2, 10])
        have HG := Lib.hid hg
        clear own2 own3 hg
        gi_wp2
        obtain ⟨W2, hW⟩ : ∃ V, W.alloc (.cells #[.int .i64 2] 3) = V := ⟨_, rfl⟩
        rw [hW] at P2
        simp only [HG.out, hW]
        clear hW HG
        clear ck cw cs cg
        have cg := (P2.out.pick (L := [_, _, _, _, _, _, _]) [6]).blk_cell 0
        have cr := (P2.out.pick (L := [_, _, _, _, _, _]) [5]).blk_cell 0
        have fr := (P2.out.pick (L := [_, _, _, _, _, _]) [5]).blk_free 0
        simp only [List.getElem?_toArray, List.getElem?_cons_zero] at cg cr
        have own4 := (P2.out.pick (L := [_, _, _, _, _, _, _, _, _]) [5, 7, 8, 1, 2]).blk_set 0 (.bool true)
        have OE := Lib.hid (own4.pick (L := [_, _, _, _, _]) [1, 2, 0, 3, 4])
        clear own4
        refine wpIn_loop_rounds_succ ?_
        gi_wp2
        refine leaves_marks (R := SP.blk s2 4 #[.bool true] :: SP.quei g room xs :: SP.row 3 1 (.slice A n ca) (valsi xs) :: R) (fun V hV => ?_) [D1, D0] _ OE.out
        have c5 := hV.blk_cell 0
        simp only [List.getElem?_toArray, List.getElem?_cons_zero] at c5
        exact ⟨.bool true, by simp [results, Try.results43, go_sem, c5], rfl, hV.pop⟩
      case stop1b =>
        rintro D c pre W ⟨hne, hcome⟩ hown
        exact absurd (Own.flat (L := [_, _]) hown).unpur.1.2 (fun h => h)
  case stop0 =>
    rintro D0 c pre W ⟨hne, hle⟩ hown
    obtain ⟨⟨rfl, hst⟩, own2⟩ := (Own.flat (L := [_, _]) hown).unpur
    have hp0 : 0 < pre.length := List.length_pos_iff.2 hne
    rw [HL.out] at hle
    obtain ⟨k, hk⟩ : ∃ k, pre.length = k := ⟨_, rfl⟩
    rw [hk] at own2 hst hle hp0
    try simp only at hst
    have hs2 : 0 < stop := by omega
    have hs3 : ¬ (n : Int) < stop := by omega
    have hs4 : stop ≤ (n : Int) := by omega
    have hq : ((k : Int) != stop) = false := by simp; omega
    have HST := Lib.hid hst
    clear hne hown hk hst
    have ck := own2.blk_cell 0
    have cw := (own2.pick (L := [_, _, _, _, _, _]) [5]).blk_cell 0
    have cs := (own2.pick (L := [_, _, _, _, _, _, _]) [6]).blk_cell 0
    have cg := (own2.pick (L := [_, _, _, _, _, _, _, _, _]) [8]).blk_cell 0
    simp only [List.getElem?_toArray, List.getElem?_cons_zero] at ck cw cs cg
    by_cases hs5 : stop < (n : Int)
    · have hq2 : ((k : Int) != (n : Int)) = true := by have := HST.out; simp; omega
      obtain ⟨g1n, hg⟩ : ∃ k, W.heap.size = k := ⟨_, rfl⟩
      have own3 := own2.alloc #[.int .i64 1] 3
      rw [hg] at own3
      have P1 := Lib.hid (own3.pick (L := [_, _, _, _, _, _, _, _, _, _]) [3, 4, 5, 6, 7, 8, 0, 2])
      have HG := Lib.hid hg
      clear own2 own3 hg
      gi_wp2
      obtain ⟨W1n, hW⟩ : ∃ V, W.alloc (.cells #[.int .i64 1] 3) = V := ⟨_, rfl⟩
      rw [hW] at P1
      simp only [HG.out, hW]
      clear hW HG
      clear ck cw cs cg
      have cg := (P1.out.pick (L := [_, _, _, _, _, _, _]) [6]).blk_cell 0
      simp only [List.getElem?_toArray, List.getElem?_cons_zero] at cg
      obtain ⟨kb1, hkb⟩ : ∃ k, W1n.heap.size = k := ⟨_, rfl⟩
      have Q1 := P1.out.alloc #[.int .i64 0] 3
      rw [hkb] at Q1
      have HKb := Lib.hid hkb
      clear hkb
      refine wpIn_loop_rounds_succ ?_
      gi_wp2
      simp only [HKb.out]
      clear cg HKb
      refine wpIn_rangeOwnX (S := S) (w0 := w0) (Rest := SP.blk q 35 #[.pointer (some ⟨g, 0, none⟩)] :: SP.quei g room xs :: SP.row 3 1 (.slice A n ca) (valsi xs) :: SP.blk s 30 #[.slice A n ca] :: SP.blk s1 3 #[.int .i64 stop] :: SP.blk s2 4 #[.bool false] :: SP.blk g1n 3 #[.int .i64 1] :: markObj D0 :: R) (enc := itEnc) rfl (by omega) (gf := 52) (lb := #[.pointer (some ⟨q, 0, none⟩)]) rfl trivial (enters_of Try.func52 (by kernel_rfl) rfl)
        (each1_iter _ (by omega) (by rw [HL.out]; omega)) (fun x => rfl) (eachI kb1 (fun _ => True)) (eachX kb1 (fun _ => False)) ?start1c ?a1c ?assign1c ?body1c ?done1c ?stop1c
      case assign1c =>
        intro l x W K hK
        dsimp only [itEnc]
        gi_wp2
        exact hK
      case start1c =>
        refine Own.unflat (L := [_, _]) (Own.pur ?_ trivial)
        exact Q1
      case body1c =>
        rintro l pre ⟨xi, xv⟩ W B1 ⟨hx1, hx2⟩ hown
        obtain ⟨hcond, own2⟩ := (Own.flat (L := [_, _]) hown).unpur
        simp only at hx1 hx2
        subst hx1
        have hkn := (List.getElem?_eq_some_iff.1 hx2).1
        rw [HL.out] at hkn
        have e2 : (((pre ++ [(pre.length, xv)]).length : Nat) : Int) = ((pre.length : Nat) : Int) + 1 := by rw [List.length_append]; rfl
        have HE := Lib.hid e2
        have k1 : (pre.length : Int) < (n : Int) := by omega
        have hk64 : (pre.length : Int) ≤ 64 := by omega
        obtain ⟨ga, oa, hA, kk, -⟩ := (own2.pick (L := [_, _, _, _, _]) [4]).cell (j := pre.length) (u := .int .i64 xv) (by rw [valsi, List.getElem?_map, hx2]; rfl)
        have ck := own2.blk_cell 0
        have cw := (own2.pick (L := [_, _, _, _, _, _]) [5]).blk_cell 0
        have cs := (own2.pick (L := [_, _, _, _, _, _, _]) [6]).blk_cell 0
        have cg := (own2.pick (L := [_, _, _, _, _, _, _, _, _]) [8]).blk_cell 0
        simp only [List.getElem?_toArray, List.getElem?_cons_zero] at ck cw cs cg
        rw [hA] at cw
        have fk := own2.blk_free 0
        have O5 := Lib.hid (own2.blk_set 0 (.int .i64 ((pre.length : Int) + 1)))
        have dk := O5.out.blk_cell 0
        have ds := (O5.out.pick (L := [_, _, _, _, _, _, _]) [6]).blk_cell 0
        have dg := (O5.out.pick (L := [_, _, _, _, _, _, _, _, _]) [8]).blk_cell 0
        simp only [List.setIfInBounds_toArray, List.set_cons_zero, List.getElem?_toArray, List.getElem?_cons_zero] at dk ds dg
        have hqq : ((pre.length : Int) != (pre.length : Int)) = false := by simp
        have hqv : ((xv : Int) != xv) = false := by simp
        have HC := Lib.hid hcond
        clear own2 hown hx2 e2 hcond hA
        gi_wp2
        refine Own.unflat (L := [_, _]) (Own.pur ?_ trivial)
        rw [HE.out]
        exact O5.out
      case done1c =>
        intro D1 p W hp hown
        obtain ⟨hcond, own2⟩ := (Own.flat (L := [_, _]) hown).unpur
        rw [hp, HL.out] at own2
        clear hp hown hcond
        have hq : ((n : Int) != (n : Int)) = false := by simp
        have ck := own2.blk_cell 0
        have cw := (own2.pick (L := [_, _, _, _, _, _]) [5]).blk_cell 0
        have cs := (own2.pick (L := [_, _, _, _, _, _, _]) [6]).blk_cell 0
        have cg := (own2.pick (L := [_, _, _, _, _, _, _, _, _]) [8]).blk_cell 0
        simp only [List.getElem?_toArray, List.getElem?_cons_zero] at ck cw cs cg
        obtain ⟨g1n, hg⟩ : ∃ k, W.heap.size = k := ⟨_, rfl⟩
        have own3 := own2.alloc #[.int .i64 2] 3
        rw [hg] at own3
        have P2 := Lib.hid (own3.pick (L := [_, _, _, _, _, _, _, _, _, _, _]) [3, 4, 5, 6, 7, 8, 0, 2, 10])
        have HG := Lib.hid hg
        clear own2 own3 hg
        gi_wp2
        obtain ⟨W2, hW⟩ : ∃ V, W.alloc (.cells #[.int .i64 2] 3) = V := ⟨_, rfl⟩
        rw [hW] at P2
        simp only [HG.out, hW]
        clear hW HG
        clear ck cw cs cg
        have cg := (P2.out.pick (L := [_, _, _, _, _, _, _]) [6]).blk_cell 0
        have cr := (P2.out.pick (L := [_, _, _, _, _, _]) [5]).blk_cell 0
        have fr := (P2.out.pick (L := [_, _, _, _, _, _]) [5]).blk_free 0
        simp only [List.getElem?_toArray, List.getElem?_cons_zero] at cg cr
        have own4 := (P2.out.pick (L := [_, _, _, _, _, _, _, _, _]) [5, 7, 8, 1, 2]).blk_set 0 (.bool true)
        have OE := Lib.hid (own4.pick (L := [_, _, _, _, _]) [1, 2, 0, 3, 4])
        clear own4
        refine wpIn_loop_rounds_succ ?_
        gi_wp2
        refine leaves_marks (R := SP.blk s2 4 #[.bool true] :: SP.quei g room xs :: SP.row 3 1 (.slice A n ca) (valsi xs) :: R) (fun V hV => ?_) [D1, D0] _ OE.out
        have c5 := hV.blk_cell 0
        simp only [List.getElem?_toArray, List.getElem?_cons_zero] at c5
        exact ⟨.bool true, by simp [results, Try.results43, go_sem, c5], rfl, hV.pop⟩
      case stop1c =>
        rintro D c pre W ⟨hne, hcome⟩ hown
        exact absurd (Own.flat (L := [_, _]) hown).unpur.1.2 (fun h => h)
    · have hq2 : ((k : Int) != (n : Int)) = false := by have := HST.out; simp; omega
      obtain ⟨g1n, hg⟩ : ∃ k, W.heap.size = k := ⟨_, rfl⟩
      have own3 := own2.alloc #[.int .i64 1] 3
      rw [hg] at own3
      have P1 := Lib.hid (own3.pick (L := [_, _, _, _, _, _, _, _, _, _]) [3, 4, 5, 6, 7, 8, 0, 2])
      have HG := Lib.hid hg
      clear own2 own3 hg
      gi_wp2
      obtain ⟨W1n, hW⟩ : ∃ V, W.alloc (.cells #[.int .i64 1] 3) = V := ⟨_, rfl⟩
      rw [hW] at P1
      simp only [HG.out, hW]
      clear hW HG
      clear ck cw cs cg
      have cg := (P1.out.pick (L := [_, _, _, _, _, _, _]) [6]).blk_cell 0
      simp only [List.getElem?_toArray, List.getElem?_cons_zero] at cg
      obtain ⟨kb1, hkb⟩ : ∃ k, W1n.heap.size = k := ⟨_, rfl⟩
      have Q1 := P1.out.alloc #[.int .i64 0] 3
      rw [hkb] at Q1
      have HKb := Lib.hid hkb
      clear hkb
      refine wpIn_loop_rounds_succ ?_
      gi_wp2
      simp only [HKb.out]
      clear cg HKb
      refine wpIn_rangeOwnX (S := S) (w0 := w0) (Rest := SP.blk q 35 #[.pointer (some ⟨g, 0, none⟩)] :: SP.quei g room xs :: SP.row 3 1 (.slice A n ca) (valsi xs) :: SP.blk s 30 #[.slice A n ca] :: SP.blk s1 3 #[.int .i64 stop] :: SP.blk s2 4 #[.bool false] :: SP.blk g1n 3 #[.int .i64 1] :: markObj D0 :: R) (enc := itEnc) rfl (by omega) (gf := 52) (lb := #[.pointer (some ⟨q, 0, none⟩)]) rfl trivial (enters_of Try.func52 (by kernel_rfl) rfl)
        (each1_iter _ (by omega) (by rw [HL.out]; omega)) (fun x => rfl) (eachI kb1 (fun _ => True)) (eachX kb1 (fun _ => False)) ?start1d ?a1d ?assign1d ?body1d ?done1d ?stop1d
      case assign1d =>
        intro l x W K hK
        dsimp only [itEnc]
        gi_wp2
        exact hK
      case start1d =>
        refine Own.unflat (L := [_, _]) (Own.pur ?_ trivial)
        exact Q1
      case body1d =>
        rintro l pre ⟨xi, xv⟩ W B1 ⟨hx1, hx2⟩ hown
        obtain ⟨hcond, own2⟩ := (Own.flat (L := [_, _]) hown).unpur
        simp only at hx1 hx2
        subst hx1
        have hkn := (List.getElem?_eq_some_iff.1 hx2).1
        rw [HL.out] at hkn
        have e2 : (((pre ++ [(pre.length, xv)]).length : Nat) : Int) = ((pre.length : Nat) : Int) + 1 := by rw [List.length_append]; rfl
        have HE := Lib.hid e2
        have k1 : (pre.length : Int) < (n : Int) := by omega
        have hk64 : (pre.length : Int) ≤ 64 := by omega
        obtain ⟨ga, oa, hA, kk, -⟩ := (own2.pick (L := [_, _, _, _, _]) [4]).cell (j := pre.length) (u := .int .i64 xv) (by rw [valsi, List.getElem?_map, hx2]; rfl)
        have ck := own2.blk_cell 0
        have cw := (own2.pick (L := [_, _, _, _, _, _]) [5]).blk_cell 0
        have cs := (own2.pick (L := [_, _, _, _, _, _, _]) [6]).blk_cell 0
        have cg := (own2.pick (L := [_, _, _, _, _, _, _, _, _]) [8]).blk_cell 0
        simp only [List.getElem?_toArray, List.getElem?_cons_zero] at ck cw cs cg
        rw [hA] at cw
        have fk := own2.blk_free 0
        have O5 := Lib.hid (own2.blk_set 0 (.int .i64 ((pre.length : Int) + 1)))
        have dk := O5.out.blk_cell 0
        have ds := (O5.out.pick (L := [_, _, _, _, _, _, _]) [6]).blk_cell 0
        have dg := (O5.out.pick (L := [_, _, _, _, _, _, _, _, _]) [8]).blk_cell 0
        simp only [List.setIfInBounds_toArray, List.set_cons_zero, List.getElem?_toArray, List.getElem?_cons_zero] at dk ds dg
        have hqq : ((pre.length : Int) != (pre.length : Int)) = false := by simp
        have hqv : ((xv : Int) != xv) = false := by simp
        have HC := Lib.hid hcond
        clear own2 hown hx2 e2 hcond hA
        gi_wp2
        refine Own.unflat (L := [_, _]) (Own.pur ?_ trivial)
        rw [HE.out]
        exact O5.out
      case done1d =>
        intro D1 p W hp hown
        obtain ⟨hcond, own2⟩ := (Own.flat (L := [_, _]) hown).unpur
        rw [hp, HL.out] at own2
        clear hp hown hcond
        have hq : ((n : Int) != (n : Int)) = false := by simp
        have ck := own2.blk_cell 0
        have cw := (own2.pick (L := [_, _, _, _, _, _]) [5]).blk_cell 0
        have cs := (own2.pick (L := [_, _, _, _, _, _, _]) [6]).blk_cell 0
        have cg := (own2.pick (L := [_, _, _, _, _, _, _, _, _]) [8]).blk_cell 0
        simp only [List.getElem?_toArray, List.getElem?_cons_zero] at ck cw cs cg
        obtain ⟨g1n, hg⟩ : ∃ k, W.heap.size = k := ⟨_, rfl⟩
        have own3 := own2.alloc #[.int .i64 2] 3
        rw [hg] at own3
        have P2 := Lib.hid (own3.pick (L := [_, _, _, _, _, _, _, _, _, _, _]) [3, 4, 5, 6, 7, 8, 0, 2, 10])
        have HG := Lib.hid hg
        clear own2 own3 hg
        gi_wp2
        obtain ⟨W2, hW⟩ : ∃ V, W.alloc (.cells #[.int .i64 2] 3) = V := ⟨_, rfl⟩
        rw [hW] at P2
        simp only [HG.out, hW]
        clear hW HG
        clear ck cw cs cg
        have cg := (P2.out.pick (L := [_, _, _, _, _, _, _]) [6]).blk_cell 0
        have cr := (P2.out.pick (L := [_, _, _, _, _, _]) [5]).blk_cell 0
        have fr := (P2.out.pick (L := [_, _, _, _, _, _]) [5]).blk_free 0
        simp only [List.getElem?_toArray, List.getElem?_cons_zero] at cg cr
        have own4 := (P2.out.pick (L := [_, _, _, _, _, _, _, _, _]) [5, 7, 8, 1, 2]).blk_set 0 (.bool true)
        have OE := Lib.hid (own4.pick (L := [_, _, _, _, _]) [1, 2, 0, 3, 4])
        clear own4
        refine wpIn_loop_rounds_succ ?_
        gi_wp2
        refine leaves_marks (R := SP.blk s2 4 #[.bool true] :: SP.quei g room xs :: SP.row 3 1 (.slice A n ca) (valsi xs) :: R) (fun V hV => ?_) [D1, D0] _ OE.out
        have c5 := hV.blk_cell 0
        simp only [List.getElem?_toArray, List.getElem?_cons_zero] at c5
        exact ⟨.bool true, by simp [results, Try.results43, go_sem, c5], rfl, hV.pop⟩
      case stop1d =>
        rintro D c pre W ⟨hne, hcome⟩ hown
        exact absurd (Own.flat (L := [_, _]) hown).unpur.1.2 (fun h => h)
end Go.Proofs.Ytbncicfbgfmekaa

/-
  NetNothing as a call: it returns true, and what was there stays.
  Conditions: the operations lie in memory as they were handed in; they are at most 140737488351232.
-/
import Derived.Test.YtlhinhcbbknhcaaOps
import Derived.Test.YtlhinhcbbknhcaaFirst
import Derived.Test.YtlhinhcbbknhcaaMove
import Derived.Test.YtlhinhcbbknhcaaClr2
import Derived.Test.YtlhinhcbbknhcaaComes
import Derived.Test.YtlhinhcbbknhcaaDrop
import Derived.Test.YtlhinhcbbknhcaaAppOwn
import Derived.Deep.DeepCutAuto
import Derived.Deep.CutBlock
namespace Go.Proofs.Ytlhinhcbbknhcaa
set_option linter.unusedVariables false
set_option linter.unusedSimpArgs false
open Go.RowKit

/-- Nothing from nowhere: numbers are told once, each mail was sent. -/
structure Fine (last : Nat) (Q L : List M) : Prop where
  num : ∀ m, m ∈ L → 1 ≤ m.num ∧ m.num ≤ (last : Int)
  apart : L.Pairwise fun a b => a.num ≠ b.num
  sent : ∀ m, m ∈ L → ∃ s, s ∈ Q ∧ s.frm = m.frm ∧ s.to = m.to ∧ ((m.sp = false ∧ m.dat = s.dat) ∨ (m.sp = true ∧ ∃ b, b / 8 < s.dat.length ∧ m.dat = flipAt s.dat b))
  size : ∀ s, s ∈ Q → s.dat.length ≤ 140737488351232

theorem Fine.data {last : Nat} {Q L : List M} (h : Fine last Q L) : ∀ m, m ∈ L → m.dat.length ≤ 140737488351232 := fun m hm => by
  obtain ⟨s, hs, -, -, h1⟩ := h.sent m hm
  have := h.size s hs
  rcases h1 with ⟨-, e⟩ | ⟨-, b, -, e⟩
  · rw [e]; exact this
  · rw [e, flipAt_length]; exact this
theorem Fine.sub {last : Nat} {Q L L' : List M} (h : Fine last Q L) (hs : L'.Sublist L) : Fine last Q L' :=
  ⟨fun m hm => h.num m (hs.subset hm), h.apart.sublist hs, fun m hm => h.sent m (hs.subset hm), h.size⟩
theorem Fine.perm {last : Nat} {Q L L' : List M} (h : Fine last Q L) (hp : L.Perm L') : Fine last Q L' :=
  ⟨fun m hm => h.num m (hp.symm.subset hm), (hp.pairwise_iff (fun hab => Ne.symm hab)).1 h.apart, fun m hm => h.sent m (hp.symm.subset hm), h.size⟩
theorem Fine.more {last : Nat} {Q L : List M} (h : Fine last Q L) (s : M) (hs : s.dat.length ≤ 140737488351232) : Fine last (Q ++ [s]) L :=
  ⟨h.num, h.apart, fun m hm => by obtain ⟨x, hx, r⟩ := h.sent m hm; exact ⟨x, List.mem_append_left _ hx, r⟩, fun x hx => by
    rcases List.mem_append.1 hx with hx | hx
    · exact h.size x hx
    · obtain rfl : x = s := by simpa using hx
      exact hs⟩
theorem Fine.add {last : Nat} {Q L : List M} (h : Fine last Q L) (m : M) (hm : m.num = (last : Int) + 1)
    (hs : ∃ s, s ∈ Q ∧ s.frm = m.frm ∧ s.to = m.to ∧ ((m.sp = false ∧ m.dat = s.dat) ∨ (m.sp = true ∧ ∃ b, b / 8 < s.dat.length ∧ m.dat = flipAt s.dat b))) : Fine (last + 1) Q (L ++ [m]) := by
  refine ⟨fun x hx => ?_, ?_, fun x hx => ?_, h.size⟩
  · rcases List.mem_append.1 hx with hx | hx
    · have := h.num x hx; omega
    · obtain rfl : x = m := by simpa using hx
      omega
  · rw [List.pairwise_append]
    refine ⟨h.apart, List.pairwise_singleton _ _, fun a ha b hb => ?_⟩
    obtain rfl : b = m := by simpa using hb
    have := h.num a ha; omega
  · rcases List.mem_append.1 hx with hx | hx
    · exact h.sent x hx
    · obtain rfl : x = m := by simpa using hx
      exact hs
theorem Fine.spoil {last : Nat} {Q L : List M} {i b : Nat} {m : M} (h : Fine last Q L) (hm : L[i]? = some m) (hs : m.sp = false) (hb : b / 8 < m.dat.length) : Fine last Q (L.set i (spoiled m b)) := by
  have hi := (List.getElem?_eq_some_iff.1 hm).1
  have hmem := List.mem_of_getElem? hm
  refine ⟨fun x hx => ?_, ?_, fun x hx => ?_, h.size⟩
  · rcases List.mem_or_eq_of_mem_set hx with hx | rfl
    · exact h.num x hx
    · exact h.num m hmem
  · have h1 : (L.set i (spoiled m b)).map M.num = L.map M.num := by
      rw [List.map_set]
      apply List.ext_getElem?
      intro j
      rw [List.getElem?_set]
      split
      · rename_i hj
        subst hj
        rw [List.length_map, if_pos hi, List.getElem?_map, hm]; rfl
      · rfl
    have h2 := List.pairwise_map.2 h.apart
    rw [← h1] at h2
    exact List.pairwise_map.1 h2
  · rcases List.mem_or_eq_of_mem_set hx with hx | rfl
    · exact h.sent x hx
    · obtain ⟨s, hs1, hs2, hs3, h4⟩ := h.sent m hmem
      rcases h4 with ⟨-, e⟩ | ⟨e, -⟩
      · exact ⟨s, hs1, hs2, hs3, .inr ⟨rfl, b, by rw [← e]; exact hb, by rw [← e]; rfl⟩⟩
      · rw [hs] at e; cases e
theorem moved_perm (L : List M) (i t : Nat) (m : M) (hm : L[i]? = some m) : L.Perm (moved L i t m) := by
  have h1 : L.Perm (m :: L.eraseIdx i) := by
    have hi := (List.getElem?_eq_some_iff.1 hm)
    rw [List.eraseIdx_eq_take_drop_succ]
    conv => lhs; rw [← List.take_append_drop i L, List.drop_eq_getElem_cons hi.1, hi.2]
    exact List.perm_middle
  refine h1.trans ?_
  rw [moved]
  conv => lhs; rw [← List.take_append_drop t (L.eraseIdx i)]
  exact List.perm_middle.symm

/-- What an operation leaves: the row is no longer but by a mail with a new number. -/
structure Left (last : Nat) (Q L : List M) (last' : Nat) (Q' L' : List M) : Prop where
  fine : Fine last' Q' L'
  len : L'.length ≤ L.length + 1
  qlen : Q'.length ≤ Q.length + 1
  lasts : last' ≤ last + 1
  grown : L'.length = L.length + 1 → last' = last + 1 ∧ ∃ m, L'[L.length]? = some m ∧ m.num = ((last + 1 : Nat) : Int)
  same : L'.length ≠ L.length + 1 → last' = last
theorem Left.rest {last : Nat} {Q L L' : List M} (h : Fine last Q L') (hl : L'.length ≤ L.length) : Left last Q L last Q L' :=
  ⟨h, by omega, by omega, by omega, fun h => by omega, fun _ => rfl⟩
theorem Left.added {last : Nat} {Q L Q' : List M} {m : M} (h : Fine (last + 1) Q' (L ++ [m])) (hm : m.num = ((last + 1 : Nat) : Int)) (hq : Q'.length ≤ Q.length + 1) : Left last Q L (last + 1) Q' (L ++ [m]) :=
  ⟨h, by simp, hq, by omega, fun _ => ⟨rfl, m, by simp, hm⟩, fun h => absurd (by simp) h⟩

set_option maxRecDepth 100000 in
set_option maxHeartbeats 8000000 in
theorem nothing_calls (w : World) (nodes : Int) (A : Option Addr) (c : Nat) (l : List Op5) (hops : Ops w A l) (hlen : l.length ≤ 140737488351232) :
    Calls Try.prog 5 #[.int .i64 nodes, .slice A l.length c] w fun e w' => e = .returned (.bool true) ∧ Below w.heap.size w w' := by
  have hf := Lib.hid (first_own (Own.start w))
  have Hop := Lib.hid hops
  clear hops
  by_cases hnd : 1 ≤ nodes ∧ nodes ≤ 7
  · go_enter Try.func5, Try.ntmps5
    go_wp2_with fail
    refine (hf.out).mono ?_
    rintro e w1 ⟨rfl, own1⟩
    have O1 := Lib.hid own1
    clear own1
    go_wp2_with fail
    refine (few_calls w1 A c l ?_ hlen).mono ?_
    · exact fun i o ho => by
        obtain ⟨b, off, Ad, cd, h1, hb, h2, h3, h4, h5, h6, h7, h8, h9, h10, h11⟩ := Hop.out i o ho
        have hbl := O1.out.below
        exact ⟨b, off, Ad, cd, h1, by have := hbl.size; omega, (hbl.cell hb).trans h2, (hbl.cell hb).trans h3, (hbl.cell hb).trans h4, (hbl.cell hb).trans h5, (hbl.cell hb).trans h6, h7, h8, h9, h10.below hbl, h11⟩
    rintro e w2 ⟨r, rfl, rfl, hr⟩
    have HN := Lib.hid (new_yes nodes hnd.1 hnd.2 O1.out)
    have HR := Lib.hid hr
    clear hr
    go_wp2_with fail
    refine (HN.out).mono ?_
    rintro e w3 ⟨g, rfl, own3⟩
    have O3 := Lib.hid own3
    clear own3 HN
    cases r with
    | false =>
      go_wp2
      go_ret
      exact ⟨rfl, O3.out.below⟩
    | true =>
      have hl300 := HR.out rfl
      go_wp2
      go_loopw [8, 9, 10] (fun tq ts ti wr => ∃ (i last : Nat) (cut : List Bool) (L Q : List M) (Aq : Option Addr) (cq : Nat), i ≤ l.length ∧ tq = .slice Aq Q.length cq ∧ ts = .int .i64 last ∧ ti = .int .i64 i ∧ last ≤ i ∧ Q.length ≤ i ∧ L.length ≤ i ∧ Own (fun _ => False) w wr [SP.net g nodes cut (last : Nat) L, SP.mails 34 (.slice Aq Q.length cq) Q] ∧ Hid (Fine last Q L)) (fun _ _ ti _ => l.length - (intOf ti).toNat)
      case atStart => exact ⟨0, 0, cut0, [], [], none, 0, Nat.zero_le _, rfl, rfl, rfl, Nat.le_refl _, Nat.le_refl _, Nat.le_refl _, (O3.out.mails_nil 34).swap, ⟨by simp, List.Pairwise.nil, by simp, by simp⟩⟩
      case round =>
        obtain ⟨i, last, cut, L, Q, Aq, cq, hi, rfl, rfl, rfl, hla, hQi, hLi, hown, hK⟩ := hrel
        clear O3
        by_cases hin : i < l.length
        · obtain ⟨o, hoi⟩ : ∃ o, l[i]? = some o := ⟨_, List.getElem?_eq_getElem hin⟩
          obtain ⟨b, off, Ad, cd, rfl, hbl, k0, k1, k2, k3, k4, hd1, hd2, hd3, hrd, -, w1, w2⟩ := Hop.out i o hoi
          have hbw : Below w.heap.size w wr := hown.below
          have c0 := (hbw.cell hbl).trans k0
          have c1 := (hbw.cell hbl).trans k1
          have c2 := (hbw.cell hbl).trans k2
          have c3 := (hbw.cell hbl).trans k3
          have c4 := (hbw.cell hbl).trans k4
          have i1 : (i : Int) < (l.length : Int) := by omega
          have HD := Lib.hid (And.intro hrd (And.intro hd3 (And.intro w1 w2)))
          obtain ⟨kd, oa, ob, up, dat⟩ := o
          simp only at c0 c1 c2 c3 c4 hd1 hd2 hd3 hrd w1 w2
          obtain ⟨dl, hdl⟩ : ∃ dl, dat.length = dl := ⟨_, rfl⟩
          have HDL := Lib.hid hdl
          rw [hdl] at c4
          have o1 := hown.alloc #[.int .i64 kd, .int .i64 oa, .int .i64 ob, .bool up, .slice Ad dl cd] 29
          have HLn := Lib.hid (len_own (o1.pick (L := [_, _]) [1]))
          have HN := Lib.hid o1
          have l3 : L.length ≤ 300 := by omega
          have q3 : Q.length ≤ 300 := by omega
          clear hdl k0 k1 k2 k3 k4 hoi hd1 hd2 hd3 hrd w1 w2 hown hbw o1
          obtain ⟨n, hn⟩ : ∃ n, L.length = n := ⟨_, rfl⟩
          have HLL := Lib.hid hn
          rw [hn] at HLn
          clear hn
          go_wp2_with fail
          refine (HLn.out).mono ?_
          rintro e w4 ⟨rfl, rfl⟩
          go_upto_region 13 with (fail)
          go_upto_block 2 with (fail)
          obtain ⟨wo, hwo⟩ : ∃ wo, wr.alloc (.cells #[.int .i64 kd, .int .i64 oa, .int .i64 ob, .bool up, .slice Ad dl cd] 29) = wo := ⟨_, rfl⟩
          obtain ⟨qb, hqb⟩ : ∃ qb, wr.heap.size = qb := ⟨_, rfl⟩
          rw [hwo, hqb] at HN
          simp only [hwo, hqb]
          clear hwo hqb c0 c1 c2 c3 c4
          have d1 := HN.out.blk_cell 1
          have d2 := HN.out.blk_cell 2
          have d3 := HN.out.blk_cell 3
          have d4 := HN.out.blk_cell 4
          simp only [List.getElem?_toArray, List.getElem?_cons_zero, List.getElem?_cons_succ] at d1 d2 d3 d4
          have HO := Lib.hid (HN.out.pick (L := [_, _, _]) [1, 0, 2])
          go_cut [8] (fun t8 wx => ∃ (last' : Nat) (cut' : List Bool) (L' Q' : List M) (Aq' : Option Addr) (cq' : Nat), t8 = .slice Aq' Q'.length cq' ∧ Own (fun _ => False) w wx [SP.net g nodes cut' (last' : Nat) L', SP.mails 34 (.slice Aq' Q'.length cq') Q'] ∧ Hid (Left last Q L last' Q' L'))
          case first => as_aux_lemma =>
            by_cases hk0 : kd = 0
            · have hk' : (kd == 0) = true := by simp [hk0]
              clear hk0
              have HS := Lib.hid (send_own (a := oa) (b := ob) (dat := dat) (cb := cd) (B := Ad) hnd.2 (by omega) (by omega) HD.out.2.1 HO.out (fun W X hX => HD.out.1.below hX.below))
              rw [HDL.out] at HS
              obtain ⟨lk, hlk⟩ : ∃ lk, sendB nodes cut L oa ob = lk := ⟨_, rfl⟩
              rw [hlk] at HS
              clear hlk
              go_wp2_with fail
              refine (HS.out).mono ?_
              rintro e w4 ⟨rfl, o4⟩
              have O4 := Lib.hid o4
              clear o4 HS HO d1 d2 d3 d4 HN
              cases lk with
              | false =>
                go_wp2
                go_meet
                exact ⟨last, cut, L, Q, Aq, cq, rfl, O4.out.pick (L := [_, _, _]) [0, 2], Left.rest hK.out (Nat.le_refl _)⟩
              | true =>
                have o4 := O4.out
                simp only [addLast, addRow, if_true] at o4
                rw [show ((last : Int) + 1) = ((last + 1 : Nat) : Int) from rfl] at o4
                obtain ⟨Aq', cq', dsq, hvq, hdsq, -, -, o5⟩ := (o4.pick (L := [_, _, _]) [2, 0, 1]).mails_open
                cases hvq
                have d1 := (o5.pick (L := [_, _, _, _]) [3]).blk_cell 1
                have d2 := (o5.pick (L := [_, _, _, _]) [3]).blk_cell 2
                have d4 := (o5.pick (L := [_, _, _, _]) [3]).blk_cell 4
                simp only [List.getElem?_toArray, List.getElem?_cons_zero, List.getElem?_cons_succ] at d1 d2 d4
                have HB := bytes_own (cb := cd) (b := dat) (B := Ad) o5.drew (fun W X hX => HD.out.1.below hX.below) HD.out.2.1
                rw [HDL.out] at HB
                have HB := Lib.hid HB
                have HDS := Lib.hid hdsq
                clear o4 o5 O4 hdsq
                go_upto_region 16 with (fail)
                go_region_held3 (fun W => W.cell? ⟨qb, 1, none⟩ = some (.int .i64 oa) ∧ W.cell? ⟨qb, 2, none⟩ = some (.int .i64 ob) ∧ W.cell? ⟨qb, 4, none⟩ = some (.slice Ad dl cd))
                  (first | go_keep | exact ⟨d1, d2, d4⟩ | exact ⟨e1, e2, e4⟩ | exact ⟨f1, f2, f4⟩)
                  (first
                    | (refine step_call rfl 20 _ _ rfl Try.func20 (by kernel_rfl) (by kernel_rfl) #[.slice Ad dl cd] (by rfl) ?_
                       refine (HB.out).mono ?_
                       rintro e w5 ⟨A5, c5, rfl, o5⟩
                       refine ⟨_, rfl, ?_⟩
                       have e1 := (o5.pick (L := [_, _, _, _, _]) [4]).blk_cell 1
                       have e2 := (o5.pick (L := [_, _, _, _, _]) [4]).blk_cell 2
                       have e4 := (o5.pick (L := [_, _, _, _, _]) [4]).blk_cell 4
                       simp only [List.getElem?_toArray, List.getElem?_cons_zero, List.getElem?_cons_succ] at e1 e2 e4
                       have O5 := Lib.hid (o5.pick (L := [_, _, _, _, _]) [1, 2, 3, 4, 0])
                       clear o5)
                    | (refine step_append_move rfl (.tmp 57) (.tmp 66) 43 rfl 34 mailZero 5 56 Try.underlying43 Try.info34 mailZero_size (by decide) rfl (mrow_length HDS.out) O5.out (by repeat' (first | exact Below.refl _ _ | refine Below.drew ?_ | refine Below.alloc ?_ (by simp) _)) _ 1 1 _ rfl (by rfl) (rd_list _ _ _) (by intro u hu; simp only [List.mem_cons, List.not_mem_nil, or_false] at hu; rcases hu with rfl | rfl | rfl | rfl | rfl <;> rfl) (by unfold maxLen; omega) (by omega) ?_
                       rintro A6 c6 w6 o6
                       have f1 := (o6.pick (L := [_, _, _, _, _]) [3]).blk_cell 1
                       have f2 := (o6.pick (L := [_, _, _, _, _]) [3]).blk_cell 2
                       have f4 := (o6.pick (L := [_, _, _, _, _]) [3]).blk_cell 4
                       simp only [List.getElem?_toArray, List.getElem?_cons_zero, List.getElem?_cons_succ] at f1 f2 f4
                       have O6 := Lib.hid o6
                       clear o6))
                clear d1 d2 d4 e1 e2 e4 f1 f2 f4 HB O5
                go_wp2
                go_meet
                have hlq : (Q ++ [(⟨0, oa, ob, dat, false⟩ : M)]).length = Q.length + 1 := by simp
                refine ⟨last + 1, cut, L ++ [⟨((last + 1 : Nat) : Int), oa, ob, dat, false⟩], Q ++ [⟨0, oa, ob, dat, false⟩], A6, c6, by rw [hlq], ?_, Left.added ((hK.out.more ⟨0, oa, ob, dat, false⟩ HD.out.2.1).add ⟨((last + 1 : Nat) : Int), oa, ob, dat, false⟩ rfl ⟨⟨0, oa, ob, dat, false⟩, by simp, rfl, rfl, .inl ⟨rfl, rfl⟩⟩) rfl (by simp)⟩
                rw [hlq]
                have o7 := (O6.out.pick (L := [_, _, _, _, _]) [1, 4, 0, 2]).snoc
                have hd7 : (dsq ++ [Value.slice A5 dl c5]).length = (Q ++ [(⟨0, oa, ob, dat, false⟩ : M)]).length := by rw [List.length_append, List.length_append, HDS.out]; rfl
                have hM7 : mrow (Q ++ [(⟨0, oa, ob, dat, false⟩ : M)]) (dsq ++ [Value.slice A5 dl c5]) = mrow Q dsq ++ [.int .i64 0, .int .i64 oa, .int .i64 ob, .slice A5 dl c5, .bool false] := mrow_append HDS.out
                have hD7 : mdata (Q ++ [(⟨0, oa, ob, dat, false⟩ : M)]) (dsq ++ [Value.slice A5 dl c5]) = mdata Q dsq ++ [SP.row 5 1 (.slice A5 dl c5) (bts dat)] := mdata_append HDS.out
                rw [← hM7, ← hD7] at o7
                exact (Own.mails_shut hd7 (o7.pick (L := [_, _, _]) [1, 0, 2])).swap
            · have hk0' : (kd == 0) = false := by simp [hk0]
              clear hk0
              by_cases hk1 : kd = 1
              · have hk1' : (kd == 1) = true := by simp [hk1]
                clear hk1
                by_cases hin2 : 0 ≤ oa ∧ oa < (L.length : Int)
                · obtain ⟨j, rfl⟩ := Int.eq_ofNat_of_zero_le hin2.1
                  obtain ⟨m, hm⟩ : ∃ m, L[j]? = some m := ⟨_, List.getElem?_eq_getElem (by omega)⟩
                  have HM := Lib.hid hm
                  have HS := Lib.hid (take_yes (by omega) HO.out j m hm)
                  unfold mailV at HS
                  obtain ⟨ml, hml⟩ : ∃ ml, m.dat.length = ml := ⟨_, rfl⟩
                  rw [hml] at HS
                  clear hm hml hin2
                  go_wp2_with fail
                  refine (HS.out).mono ?_
                  rintro e w4 ⟨Am, cm, rfl, o4⟩
                  have O4 := Lib.hid o4
                  clear o4 HS HO d1 d2 d3 d4 HN
                  go_wp2
                  go_meet
                  exact ⟨last, cut, L.eraseIdx j, Q, Aq, cq, rfl, O4.out.pick (L := [_, _, _, _]) [0, 3], Left.rest (hK.out.sub (List.eraseIdx_sublist L j)) (List.eraseIdx_sublist L j).length_le⟩
                · have HS := Lib.hid (take_no HO.out oa hin2)
                  unfold mailZero at HS
                  clear hin2
                  go_wp2_with fail
                  refine (HS.out).mono ?_
                  rintro e w4 ⟨rfl, o4⟩
                  have O4 := Lib.hid o4
                  clear o4 HS HO d1 d2 d3 d4 HN
                  go_wp2
                  go_meet
                  exact ⟨last, cut, L, Q, Aq, cq, rfl, O4.out.pick (L := [_, _, _]) [0, 2], Left.rest hK.out (Nat.le_refl _)⟩
              · have hk1' : (kd == 1) = false := by simp [hk1]
                clear hk1
                by_cases hk2 : kd = 2
                · have hk2' : (kd == 2) = true := by simp [hk2]
                  clear hk2
                  by_cases hin2 : 0 ≤ oa ∧ oa < (L.length : Int)
                  · obtain ⟨j, rfl⟩ := Int.eq_ofNat_of_zero_le hin2.1
                    obtain ⟨m, hm⟩ : ∃ m, L[j]? = some m := ⟨_, List.getElem?_eq_getElem (by omega)⟩
                    have HM := Lib.hid hm
                    have HS := Lib.hid (drop_yes (by omega) HO.out j m hm)
                    clear hm hin2
                    go_wp2_with fail
                    refine (HS.out).mono ?_
                    rintro e w4 ⟨rfl, o4⟩
                    have O4 := Lib.hid o4
                    clear o4 HS HO d1 d2 d3 d4 HN
                    go_wp2
                    go_meet
                    exact ⟨last, cut, L.eraseIdx j, Q, Aq, cq, rfl, O4.out.pick (L := [_, _, _]) [0, 2], Left.rest (hK.out.sub (List.eraseIdx_sublist L j)) (List.eraseIdx_sublist L j).length_le⟩
                  · have HS := Lib.hid (drop_no HO.out oa hin2)
                    go_wp2_with fail
                    refine (HS.out).mono ?_
                    rintro e w4 ⟨rfl, o4⟩
                    have O4 := Lib.hid o4
                    clear o4 HS HO d1 d2 d3 d4 HN
                    go_wp2
                    go_meet
                    exact ⟨last, cut, L, Q, Aq, cq, rfl, O4.out.pick (L := [_, _, _]) [0, 2], Left.rest hK.out (Nat.le_refl _)⟩
                · have hk2' : (kd == 2) = false := by simp [hk2]
                  clear hk2
                  by_cases hk3 : kd = 3
                  · have hk3' : (kd == 3) = true := by simp [hk3]
                    clear hk3
                    by_cases hin2 : 0 ≤ oa ∧ oa < (L.length : Int)
                    · obtain ⟨j, rfl⟩ := Int.eq_ofNat_of_zero_le hin2.1
                      obtain ⟨m, hm⟩ : ∃ m, L[j]? = some m := ⟨_, List.getElem?_eq_getElem (by omega)⟩
                      have HM := Lib.hid hm
                      have HS := Lib.hid (copy_yes (by omega) (by omega) (by omega) HO.out j m hm (hK.out.data m (List.mem_of_getElem? hm)))
                      rw [show decide (L.length < 2000) = true from decide_eq_true (by omega)] at HS
                      simp only [addLast, addRow, if_true] at HS
                      rw [show ((last : Int) + 1) = ((last + 1 : Nat) : Int) from rfl] at HS
                      clear hm hin2
                      go_wp2_with fail
                      refine (HS.out).mono ?_
                      rintro e w4 ⟨rfl, o4⟩
                      have O4 := Lib.hid o4
                      clear o4 HS HO d1 d2 d3 d4 HN
                      go_wp2
                      go_meet
                      exact ⟨last + 1, cut, L ++ [(⟨((last + 1 : Nat) : Int), m.frm, m.to, m.dat, m.sp⟩ : M)], Q, Aq, cq, rfl, O4.out.pick (L := [_, _, _]) [0, 2], Left.added (hK.out.add ⟨((last + 1 : Nat) : Int), m.frm, m.to, m.dat, m.sp⟩ rfl (hK.out.sent m (List.mem_of_getElem? HM.out))) rfl (by omega)⟩
                    · have HS := Lib.hid (copy_no HO.out oa hin2)
                      go_wp2_with fail
                      refine (HS.out).mono ?_
                      rintro e w4 ⟨rfl, o4⟩
                      have O4 := Lib.hid o4
                      clear o4 HS HO d1 d2 d3 d4 HN
                      go_wp2
                      go_meet
                      exact ⟨last, cut, L, Q, Aq, cq, rfl, O4.out.pick (L := [_, _, _]) [0, 2], Left.rest hK.out (Nat.le_refl _)⟩
                  · have hk3' : (kd == 3) = false := by simp [hk3]
                    clear hk3
                    by_cases hk4 : kd = 4
                    · have hk4' : (kd == 4) = true := by simp [hk4]
                      clear hk4
                      by_cases hsp : ∃ m, 0 ≤ oa ∧ L[oa.toNat]? = some m ∧ m.sp = false ∧ 0 ≤ ob ∧ ob.toNat / 8 < m.dat.length
                      · obtain ⟨m, ha, hm, hs, hb0, hb⟩ := hsp
                        obtain ⟨j, rfl⟩ := Int.eq_ofNat_of_zero_le ha
                        obtain ⟨bt, rfl⟩ := Int.eq_ofNat_of_zero_le hb0
                        rw [Int.toNat_natCast] at hm hb
                        have HS := Lib.hid (spoil_yes (by omega) HO.out j bt m hm hs hb (hK.out.data m (List.mem_of_getElem? hm)))
                        have HM := Lib.hid (And.intro hm (And.intro hs hb))
                        clear hm hs hb ha hb0
                        go_wp2_with fail
                        refine (HS.out).mono ?_
                        rintro e w4 ⟨rfl, o4⟩
                        have O4 := Lib.hid o4
                        clear o4 HS HO d1 d2 d3 d4 HN
                        go_wp2
                        go_meet
                        exact ⟨last, cut, L.set j (spoiled m bt), Q, Aq, cq, rfl, O4.out.pick (L := [_, _, _]) [0, 2], Left.rest (hK.out.spoil HM.out.1 HM.out.2.1 HM.out.2.2) (by rw [List.length_set]; omega)⟩
                      · have HS := Lib.hid (spoil_no (by omega) HO.out oa ob HD.out.2.2.2 hsp)
                        clear hsp
                        go_wp2_with fail
                        refine (HS.out).mono ?_
                        rintro e w4 ⟨rfl, o4⟩
                        have O4 := Lib.hid o4
                        clear o4 HS HO d1 d2 d3 d4 HN
                        go_wp2
                        go_meet
                        exact ⟨last, cut, L, Q, Aq, cq, rfl, O4.out.pick (L := [_, _, _]) [0, 2], Left.rest hK.out (Nat.le_refl _)⟩
                    · have hk4' : (kd == 4) = false := by simp [hk4]
                      clear hk4
                      by_cases hk5 : kd = 5
                      · have hk5' : (kd == 5) = true := by simp [hk5]
                        clear hk5
                        by_cases hmv : (0 ≤ oa ∧ oa < (L.length : Int)) ∧ 0 ≤ ob ∧ ob < (L.length : Int)
                        · obtain ⟨⟨ha, ha2⟩, hb0, hb2⟩ := hmv
                          obtain ⟨j, rfl⟩ := Int.eq_ofNat_of_zero_le ha
                          obtain ⟨bt, rfl⟩ := Int.eq_ofNat_of_zero_le hb0
                          obtain ⟨m, hm⟩ : ∃ m, L[j]? = some m := ⟨_, List.getElem?_eq_getElem (by omega)⟩
                          have HS := Lib.hid (move_yes (by omega) HO.out j bt m hm (by omega))
                          have HM := Lib.hid hm
                          clear hm ha ha2 hb0 hb2
                          go_wp2_with fail
                          refine (HS.out).mono ?_
                          rintro e w4 ⟨rfl, o4⟩
                          have O4 := Lib.hid o4
                          clear o4 HS HO d1 d2 d3 d4 HN
                          go_wp2
                          go_meet
                          exact ⟨last, cut, moved L j bt m, Q, Aq, cq, rfl, O4.out.pick (L := [_, _, _]) [0, 2], Left.rest (hK.out.perm (moved_perm L j bt m HM.out)) (by rw [(moved_perm L j bt m HM.out).length_eq]; omega)⟩
                        · have HS := Lib.hid (move_no HO.out oa ob hmv)
                          clear hmv
                          go_wp2_with fail
                          refine (HS.out).mono ?_
                          rintro e w4 ⟨rfl, o4⟩
                          have O4 := Lib.hid o4
                          clear o4 HS HO d1 d2 d3 d4 HN
                          go_wp2
                          go_meet
                          exact ⟨last, cut, L, Q, Aq, cq, rfl, O4.out.pick (L := [_, _, _]) [0, 2], Left.rest hK.out (Nat.le_refl _)⟩
                      · have hk5' : (kd == 5) = false := by simp [hk5]
                        clear hk5
                        by_cases hk6 : kd = 6
                        · have hk6' : (kd == 6) = true := by simp [hk6]
                          clear hk6
                          by_cases ht : twoP nodes oa ob
                          · have HS := Lib.hid (link_yes hnd.2 HO.out oa ob up ht)
                            clear ht
                            go_wp2_with fail
                            refine (HS.out).mono ?_
                            rintro e w4 ⟨rfl, o4⟩
                            have O4 := Lib.hid o4
                            clear o4 HS HO d1 d2 d3 d4 HN
                            go_wp2
                            go_meet
                            exact ⟨last, _, L, Q, Aq, cq, rfl, O4.out.pick (L := [_, _, _]) [0, 2], Left.rest hK.out (Nat.le_refl _)⟩
                          · have HS := Lib.hid (link_no HO.out oa ob up ht)
                            clear ht
                            go_wp2_with fail
                            refine (HS.out).mono ?_
                            rintro e w4 ⟨rfl, rfl⟩
                            have O4 := Lib.hid HO.out
                            clear HS HO d1 d2 d3 d4 HN
                            go_wp2
                            go_meet
                            exact ⟨last, cut, L, Q, Aq, cq, rfl, O4.out.pick (L := [_, _, _]) [0, 2], Left.rest hK.out (Nat.le_refl _)⟩
                        · have hk6' : (kd == 6) = false := by simp [hk6]
                          clear hk6
                          by_cases hk7 : kd = 7
                          · have hk7' : (kd == 7) = true := by simp [hk7]
                            clear hk7
                            have HS := Lib.hid (clear_own (by omega) HO.out oa)
                            go_wp2_with fail
                            refine (HS.out).mono ?_
                            rintro e w4 ⟨rfl, o4⟩
                            have O4 := Lib.hid o4
                            clear o4 HS HO d1 d2 d3 d4 HN
                            go_wp2
                            go_meet
                            exact ⟨last, cut, keepM oa L, Q, Aq, cq, rfl, O4.out.pick (L := [_, _, _]) [0, 2], Left.rest (hK.out.sub List.filter_sublist) List.filter_sublist.length_le⟩
                          · have hk7' : (kd == 7) = false := by simp [hk7]
                            clear hk7
                            have O4 := Lib.hid HO.out
                            clear HO d1 d2 d3 d4 HN
                            go_wp2
                            go_meet
                            exact ⟨last, cut, L, Q, Aq, cq, rfl, O4.out.pick (L := [_, _, _]) [0, 2], Left.rest hK.out (Nat.le_refl _)⟩
          case rest => as_aux_lemma =>
            obtain ⟨last', cut', L', Q', Aq', cq', rfl, hown, hL⟩ := hcut
            obtain ⟨fine, hlen, hqlen, hlast, hgrown, hsame⟩ := hL.out
            rw [HLL.out] at hlen hgrown hsame
            have hni : n ≤ i := by rw [← HLL.out]; exact hLi
            have hn300 : n ≤ 300 := by rw [← HLL.out]; exact l3
            have l4 : L'.length ≤ 301 := by omega
            have q4 : Q'.length ≤ 301 := by omega
            have HList := Lib.hid (list_own (by omega) fine.data hown)
            obtain ⟨n', hn'⟩ : ∃ n', L'.length = n' := ⟨_, rfl⟩
            have HN' := Lib.hid hn'
            rw [hn'] at HList hlen hgrown hsame l4
            have HG := Lib.hid (And.intro hgrown hsame)
            have HFine := Lib.hid fine
            clear hn' hgrown hsame fine hown hL HO HN HLn d1 d2 d3 d4
            go_wp2_with fail
            refine (HList.out).mono ?_
            rintro e w6 ⟨Ar, cr, rfl, o6⟩
            have HLen := len_own (o6.pick (L := [_, _]) [1])
            rw [HN'.out] at HLen
            have HLen := Lib.hid HLen
            obtain ⟨Ar', cr', dsr, hvr, hdsr, -, -, o7⟩ := o6.mails_open
            rw [HN'.out] at hvr
            cases hvr
            rw [HN'.out] at o7
            have O7 := Lib.hid (o7.pick (L := [_, _, _, _]) [0, 1, 2, 3])
            have HDS := Lib.hid hdsr
            have n1 : ¬ (n : Int) + 1 < (n' : Int) := by omega
            have n2 : ((n' : Int) != (n' : Int)) = false := by simp
            clear o6 o7 hdsr HList
            go_wp2_with fail
            refine (HLen.out).mono ?_
            rintro e w7 ⟨rfl, rfl⟩
            clear HLen
            go_upto_if 136 with (fail)
            go_cut [9] (fun t9 wx => t9 = .int .i64 (last' : Nat) ∧ Own (fun _ => False) w wx [SP.row 34 5 (.slice Ar n' cr) (mrow L' dsr), SP.stars (mdata L' dsr), SP.net g nodes cut' (last' : Nat) L', SP.mails 34 (.slice Aq' Q'.length cq') Q'])
            case first =>
              by_cases hg : n' = n + 1
              · have g1 : ((n' : Int) == (n : Int) + 1) = true := by simp; omega
                obtain ⟨hl1, m, hm, hmn⟩ := HG.out.1 hg
                have hgl : n < n' := by omega
                obtain ⟨d, hd⟩ : ∃ d, dsr[n]? = some d := ⟨_, List.getElem?_eq_getElem (by rw [HDS.out, HN'.out]; exact hgl)⟩
                obtain ⟨ga, off2, rfl, k0, -⟩ := O7.out.cell (mrow_get (j := 0) hm hd (by omega))
                simp only [mcells, List.getElem?_cons_zero, Nat.add_zero] at k0
                rw [hmn] at k0
                have g2 : (n : Int) < (n' : Int) := by omega
                have g3 : ¬ ((last + 1 : Nat) : Int) ≤ (last : Int) := by omega
                have HL1 := Lib.hid hl1
                clear hg hm hmn hl1 hd
                go_wp2
                go_meet
                exact ⟨by rw [HL1.out]; rfl, O7.out⟩
              · have g1 : ((n' : Int) == (n : Int) + 1) = false := by simp; omega
                have HL1 := Lib.hid (HG.out.2 hg)
                clear hg
                go_wp2
                go_meet
                exact ⟨by rw [HL1.out], O7.out⟩
            case rest =>
              obtain ⟨rfl, own8⟩ := hcut
              clear O7 n1 n2
              go_wp2
              go_loopw [14] (fun tk wr => ∃ k : Nat, k ≤ n' ∧ tk = .int .i64 k ∧ Own (fun _ => False) w wr [SP.row 34 5 (.slice Ar n' cr) (mrow L' dsr), SP.stars (mdata L' dsr), SP.net g nodes cut' (last' : Nat) L', SP.mails 34 (.slice Aq' Q'.length cq') Q']) (fun tk _ => n' - (intOf tk).toNat)
              case atStart => exact ⟨0, Nat.zero_le _, rfl, own8⟩
              case round =>
                obtain ⟨k, hk, rfl, hown⟩ := hrel
                clear own8
                by_cases hkn : k < n'
                · have k1 : (k : Int) < (n' : Int) := by omega
                  obtain ⟨m, hm⟩ : ∃ m, L'[k]? = some m := ⟨_, List.getElem?_eq_getElem (by rw [HN'.out]; exact hkn)⟩
                  obtain ⟨d, hd⟩ : ∃ d, dsr[k]? = some d := ⟨_, List.getElem?_eq_getElem (by rw [HDS.out, HN'.out]; exact hkn)⟩
                  obtain ⟨Am, cm, rfl, -, -⟩ := SP.row_shape (n := m.dat.length) (by decide) ((hown.swap).focus k (mdata_get hm hd)).head (by rw [bts_length, Nat.mul_one])
                  obtain ⟨ga, off2, rfl, g0, -⟩ := hown.cell (mrow_get (j := 0) hm hd (by omega))
                  obtain ⟨_, _, e1, g1, -⟩ := hown.cell (mrow_get (j := 1) hm hd (by omega)); cases e1
                  obtain ⟨_, _, e1, g2, -⟩ := hown.cell (mrow_get (j := 2) hm hd (by omega)); cases e1
                  obtain ⟨_, _, e1, g3, -⟩ := hown.cell (mrow_get (j := 3) hm hd (by omega)); cases e1
                  obtain ⟨_, _, e1, g4, -⟩ := hown.cell (mrow_get (j := 4) hm hd (by omega)); cases e1
                  simp only [mcells, List.getElem?_cons_zero, List.getElem?_cons_succ, ← Nat.add_assoc, Nat.add_zero] at g0 g1 g2 g3 g4
                  obtain ⟨hn1, hn2⟩ := HFine.out.num m (List.mem_of_getElem? hm)
                  obtain ⟨s, hs, hs1, hs2, hs3⟩ := HFine.out.sent m (List.mem_of_getElem? hm)
                  obtain ⟨k0, hk0⟩ := List.getElem?_of_mem hs
                  have hcm : Comes m s := by
                    rcases hs3 with ⟨e1, e2⟩ | ⟨e1, b, hb, e2⟩
                    · exact comes_same hs1 hs2 e2 e1
                    · exact comes_flip hs1 hs2 hb e2 e1
                  have HC := comes_own (cd := cm) (by omega) (HFine.out.data m (List.mem_of_getElem? hm)) HFine.out.size (hown.pick (L := [_, _, _, _]) [3, 1, 0, 2]) (reads_mdata hm hd) hk0 hcm
                  unfold mailV at HC
                  obtain ⟨ml, hml⟩ : ∃ ml, m.dat.length = ml := ⟨_, rfl⟩
                  rw [hml] at HC g3
                  have HC := Lib.hid HC
                  have HM := Lib.hid (And.intro hm hd)
                  clear hown hm hd hs hs1 hs2 hs3 hk0 hcm hml
                  go_wp2_with fail
                  refine (HC.out).mono ?_
                  rintro e w9 ⟨rfl, o9⟩
                  have o9 := o9.pick (L := [_, _, _, _]) [2, 1, 3, 0]
                  obtain ⟨_, _, e1, g0', -⟩ := o9.cell (mrow_get (j := 0) HM.out.1 HM.out.2 (by omega)); cases e1
                  simp only [mcells, List.getElem?_cons_zero, Nat.add_zero] at g0'
                  have HO9 := Lib.hid o9
                  have n3 : ¬ (last' : Int) < m.num := by omega
                  have n4 : ¬ m.num < 1 := by omega
                  clear o9 HC g0 g1 g2 g3 g4 hn1 hn2
                  go_wp2
                  go_loopw [16] (fun tj wr => ∃ j : Nat, j ≤ k ∧ tj = .int .i64 j ∧ Own (fun _ => False) w wr [SP.row 34 5 (.slice (some ⟨ga, off2, none⟩) n' cr) (mrow L' dsr), SP.stars (mdata L' dsr), SP.net g nodes cut' (last' : Nat) L', SP.mails 34 (.slice Aq' Q'.length cq') Q']) (fun tj _ => k - (intOf tj).toNat)
                  case atStart => exact ⟨0, Nat.zero_le _, rfl, HO9.out⟩
                  case round =>
                    obtain ⟨j, hj, rfl, hown⟩ := hrel
                    clear HO9 g0'
                    by_cases hjk : j < k
                    · have j1 : (j : Int) < (k : Int) := by omega
                      have j2 : (j : Int) < (n' : Int) := by omega
                      have j3 : j < n' := by omega
                      obtain ⟨mj, hmj⟩ : ∃ mj, L'[j]? = some mj := ⟨_, List.getElem?_eq_getElem (by rw [HN'.out]; exact j3)⟩
                      obtain ⟨dj, hdj⟩ : ∃ dj, dsr[j]? = some dj := ⟨_, List.getElem?_eq_getElem (by rw [HDS.out, HN'.out]; exact j3)⟩
                      obtain ⟨_, _, e1, g0, -⟩ := hown.cell (mrow_get (j := 0) HM.out.1 HM.out.2 (by omega)); cases e1
                      obtain ⟨_, _, e1, g1, -⟩ := hown.cell (mrow_get (j := 0) hmj hdj (by omega)); cases e1
                      simp only [mcells, List.getElem?_cons_zero, Nat.add_zero] at g0 g1
                      have hne : (mj.num == m.num) = false := by
                        have h1 := List.getElem?_eq_some_iff.1 hmj
                        have h2 := List.getElem?_eq_some_iff.1 HM.out.1
                        have h3 := List.pairwise_iff_getElem.1 HFine.out.apart j k h1.1 h2.1 hjk
                        rw [h1.2, h2.2] at h3
                        simpa using h3
                      have HO9 := Lib.hid hown
                      clear hown hmj hdj
                      go_upto_region 47 with (fail)
                      go_quiet (fail)
                      go_wp2
                      go_roundw
                      case rel => exact ⟨j + 1, by omega, by go_num, Own.drewN HO9.out _⟩
                      case measure => simp [intOf]; omega
                    · have j1 : ¬ (j : Int) < (k : Int) := by omega
                      have HO9 := Lib.hid hown
                      clear hown
                      go_wp2
                      go_roundw
                      case rel => exact ⟨k + 1, by omega, by go_num, HO9.out⟩
                      case measure => simp [intOf]; omega
                · have k1 : ¬ (k : Int) < (n' : Int) := by omega
                  have HO9 := Lib.hid hown
                  clear hown
                  go_wp2
                  go_roundw
                  case rel =>
                    refine ⟨i + 1, last', cut', L', Q', Aq', cq', by omega, rfl, rfl, by go_num, by omega, by omega, by rw [HN'.out]; omega, ?_, HFine.out⟩
                    have o := HO9.out
                    rw [← HN'.out] at o
                    have o2 : Own (fun _ => False) w _ [SP.mails 34 (.slice Ar L'.length cr) L', SP.net g nodes cut' (last' : Nat) L', SP.mails 34 (.slice Aq' Q'.length cq') Q'] := Own.mails_shut HDS.out o
                    exact o2.pop
                  case measure => simp [intOf]; omega
        · have i1 : ¬ (i : Int) < (l.length : Int) := by omega
          have HO := Lib.hid hown
          clear hown
          go_wp2
          go_ret
          exact ⟨rfl, HO.out.below⟩
  · have HN := Lib.hid (fun W => new_no W nodes hnd)
    clear hnd
    go_enter Try.func5, Try.ntmps5
    go_wp2_with fail
    refine (hf.out).mono ?_
    rintro e w1 ⟨rfl, own1⟩
    have O1 := Lib.hid own1
    clear own1
    go_wp2_with fail
    refine (few_calls w1 A c l ?_ hlen).mono ?_
    · exact fun i o ho => by
        obtain ⟨b, off, Ad, cd, h1, hb, h2, h3, h4, h5, h6, h7, h8, h9, h10, h11⟩ := Hop.out i o ho
        have hbl := O1.out.below
        exact ⟨b, off, Ad, cd, h1, by have := hbl.size; omega, (hbl.cell hb).trans h2, (hbl.cell hb).trans h3, (hbl.cell hb).trans h4, (hbl.cell hb).trans h5, (hbl.cell hb).trans h6, h7, h8, h9, h10.below hbl, h11⟩
    rintro e w2 ⟨r, rfl, rfl, hr⟩
    clear hr
    go_wp2_with fail
    refine (HN.out _).mono ?_
    rintro e w3 ⟨rfl, rfl⟩
    cases r with
    | false =>
      go_wp2
      go_ret
      exact ⟨rfl, O1.out.below⟩
    | true =>
      go_wp2
      go_ret
      exact ⟨rfl, O1.out.below⟩
end Go.Proofs.Ytlhinhcbbknhcaa

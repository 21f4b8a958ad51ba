/-
  NetOrder as a call: it returns true, and what was there stays.
  Conditions: the operations lie in memory as they were handed in; they are at most 140737488351232.
-/
import Derived.Test.YtlhinhcbbknhcaaOps
import Derived.Test.YtlhinhcbbknhcaaFirst
import Derived.Test.YtlhinhcbbknhcaaLink
import Derived.Test.YtlhinhcbbknhcaaAppOwn
import Derived.Deep.RegionHeld3
import Derived.Deep.Cut
import Derived.WalkSpells
import Derived.BigQuiet
import Derived.Deep.QuietTactic
namespace Go.Proofs.Ytlhinhcbbknhcaa
set_option linter.unusedVariables false
set_option linter.unusedSimpArgs false
open Go.RowKit

abbrev QE := Op5 × Option Addr × Nat
def qcells (x : QE) : List Value := [.int .i64 x.1.kind, .int .i64 x.1.a, .int .i64 x.1.b, .bool x.1.up, .slice x.2.1 x.1.dat.length x.2.2]
def qrow (Q : List QE) : List Value := (Q.map qcells).flatten
theorem qfive (Q : List QE) : ∀ l, l ∈ Q.map qcells → l.length = 5 := fun l hl => by
  rw [List.mem_map] at hl
  obtain ⟨x, -, rfl⟩ := hl
  rfl
theorem qrow_length (Q : List QE) : (qrow Q).length = Q.length * 5 := by rw [qrow, flat_length _ (qfive Q), List.length_map]
theorem qrow_get {Q : List QE} {i j : Nat} {x : QE} (h : Q[i]? = some x) (hj : j < 5) : (qrow Q)[i * 5 + j]? = (qcells x)[j]? := flat_get _ (qfive Q) (by rw [List.getElem?_map, h]; rfl) hj
theorem qrow_append (Q : List QE) (x : QE) : qrow (Q ++ [x]) = qrow Q ++ qcells x := by simp [qrow]
theorem qrow_tail (x : QE) (Q : List QE) : (qrow (x :: Q)).drop 5 = qrow Q := rfl
theorem qcells_one (x : QE) : ∀ u ∈ qcells x, u.oneCell' = true := fun u hu => by
  simp only [qcells, List.mem_cons, List.not_mem_nil, or_false] at hu
  rcases hu with rfl | rfl | rfl | rfl | rfl <;> rfl
theorem quiet_add {P : Program} {f : FuncId} {args : Array Value} {w : World} {n : Nat} {v : Value}
    (h : Calls P f args (w.drewN n) fun e w' => e = .returned v ∧ ∃ m, w' = (w.drewN n).drewN m) :
    Calls P f args (w.drewN n) fun e w'' => e = .returned v ∧ ∃ m, w'' = w.drewN m :=
  h.mono fun _ _ ⟨he, m, hm⟩ => ⟨he, n + m, by rw [hm, World.drewN_drewN]⟩
def mkey (m : M) : Int × Int × List UInt8 × Bool := (m.frm, m.to, m.dat, m.sp)
def qkey (x : QE) : Int × Int × List UInt8 × Bool := (x.1.a, x.1.b, x.1.dat, false)
def opZero : Value := .agg #[.int .i64 0, .int .i64 0, .int .i64 0, .bool false, .slice none 0 0]
theorem Try.info29 : (Try.prog.info? 29).map (fun i => (i.zero, i.size, i.bytes)) = some (some opZero, 5, 56) := by kernel_rfl
theorem opZero_size : opZero.cells.size = 5 := rfl

theorem getD_set_l {l : List Bool} {i j : Nat} {x : Bool} (hi : i < l.length) : ((l.set i x).set j x).getD i false = x := by
  rw [List.getD_eq_getElem?_getD, List.getElem?_set]
  split
  · rename_i h; subst h; rw [List.length_set, if_pos hi]; rfl
  · rw [List.getElem?_set, if_pos rfl, if_pos hi]; rfl
theorem getD_set_r {l : List Bool} {i j : Nat} {x : Bool} (hj : j < l.length) : ((l.set i x).set j x).getD j false = x := by
  rw [List.getD_eq_getElem?_getD, List.getElem?_set, if_pos rfl, List.length_set, if_pos hj]; rfl
theorem linked_cut {nodes : Int} {cut : List Bool} {a b : Int} {x : Bool} (hn : nodes ≤ 7) (hc : cut.length = 64) (h : twoP nodes a b) : linkedB nodes (cutBoth cut a b x) a b = !x := by
  rw [linkedB, show twoB nodes a b = true from decide_eq_true h, Bool.true_and, cutBoth, getD_set_l]
  unfold twoP at h
  rw [hc, at2]; omega
theorem linked_cut' {nodes : Int} {cut : List Bool} {a b : Int} {x : Bool} (hn : nodes ≤ 7) (hc : cut.length = 64) (h : twoP nodes a b) : linkedB nodes (cutBoth cut a b x) b a = !x := by
  have h' : twoP nodes b a := by unfold twoP at h ⊢; omega
  rw [linkedB, show twoB nodes b a = true from decide_eq_true h', Bool.true_and, cutBoth, getD_set_r]
  unfold twoP at h
  rw [hc, at2]; omega

set_option maxRecDepth 100000 in
set_option maxHeartbeats 8000000 in
theorem order_calls (w : World) (nodes : Int) (A : Option Addr) (c : Nat) (l : List Op5) (hops : Ops w A l) (hlen : l.length ≤ 140737488351232) :
    Calls Try.prog 3 #[.int .i64 nodes, .slice A l.length c] w fun e w' => e = .returned (.bool true) ∧ Below w.heap.size w w' := by
  have hf := Lib.hid (first_own (Own.start w))
  have Hop := Lib.hid hops
  clear hops
  by_cases hnd : 1 ≤ nodes ∧ nodes ≤ 7
  · go_enter Try.func3, Try.ntmps3
    go_wp2_with fail
    refine (hf.out).mono ?_
    rintro e w1 ⟨rfl, own1⟩
    have O1 := Lib.hid own1
    clear own1
    go_wp2_with fail
    refine (few_calls w1 A c l ?_ hlen).mono ?_
    · exact fun i o ho => by
        obtain ⟨b, off, Ad, cd, h1, hb, h2, h3, h4, h5, h6, h7, h8, h9, h10, h11⟩ := Hop.out i o ho
        have hbl := O1.out.below
        exact ⟨b, off, Ad, cd, h1, by have := hbl.size; omega, (hbl.cell hb).trans h2, (hbl.cell hb).trans h3, (hbl.cell hb).trans h4, (hbl.cell hb).trans h5, (hbl.cell hb).trans h6, h7, h8, h9, h10.below hbl, h11⟩
    rintro e w2 ⟨r, rfl, rfl, hr⟩
    have HN := Lib.hid (new_yes nodes hnd.1 hnd.2 O1.out)
    have HR := Lib.hid hr
    clear hr
    go_wp2_with fail
    refine (HN.out).mono ?_
    rintro e w3 ⟨g, rfl, own3⟩
    have O3 := Lib.hid own3
    clear own3 HN
    cases r with
    | false =>
      go_wp2
      go_ret
      exact ⟨rfl, O3.out.below⟩
    | true =>
      have hl300 := HR.out rfl
      go_wp2
      go_loopw [8, 9] (fun tq ti wr => ∃ (i last : Nat) (cut : List Bool) (L : List M) (Q : List QE) (Aq : Option Addr) (cq : Nat), i ≤ l.length ∧ tq = .slice Aq Q.length cq ∧ ti = .int .i64 i ∧ last ≤ i ∧ Q.length ≤ i ∧ Own (fun _ => False) w wr [SP.net g nodes cut (last : Nat) L, SP.row 29 5 (.slice Aq Q.length cq) (qrow Q)] ∧ Hid (L.map mkey = Q.map qkey ∧ ∀ x, x ∈ Q → Rd w x.2.1 (bts x.1.dat) ∧ x.1.dat.length ≤ 140737488351232)) (fun _ ti _ => l.length - (intOf ti).toNat)
      case atStart => exact ⟨0, 0, cut0, [], [], none, 0, Nat.zero_le _, rfl, rfl, Nat.le_refl _, Nat.le_refl _, (O3.out.add (SP.row_nil _ _ _ _)).swap, rfl, fun x hx => by cases hx⟩
      case round =>
        obtain ⟨i, last, cut, L, Q, Aq, cq, hi, rfl, rfl, hla, hQi, hown, hK⟩ := hrel
        clear O3
        have hLQ : L.length = Q.length := by have := congrArg List.length hK.out.1; simpa using this
        by_cases hin : i < l.length
        · obtain ⟨o, hoi⟩ : ∃ o, l[i]? = some o := ⟨_, List.getElem?_eq_getElem hin⟩
          obtain ⟨b, off, Ad, cd, rfl, hbl, k0, k1, k2, k3, k4, hd1, hd2, hd3, hrd, -, w1, w2⟩ := Hop.out i o hoi
          have hbw : Below w.heap.size w wr := hown.below
          have c0 := (hbw.cell hbl).trans k0
          have c1 := (hbw.cell hbl).trans k1
          have c2 := (hbw.cell hbl).trans k2
          have c3 := (hbw.cell hbl).trans k3
          have c4 := (hbw.cell hbl).trans k4
          have i1 : (i : Int) < (l.length : Int) := by omega
          have HD := Lib.hid (And.intro hrd (And.intro hd3 (And.intro w1 w2)))
          have hQ2 : Q.length ≤ 300 := by omega
          obtain ⟨kd, oa, ob, up, dat⟩ := o
          simp only at c0 c1 c2 c3 c4 hd1 hd2 hd3 hrd w1 w2
          obtain ⟨dl, hdl⟩ : ∃ dl, dat.length = dl := ⟨_, rfl⟩
          have HDL := Lib.hid hdl
          rw [hdl] at c4
          have HN := Lib.hid (hown.alloc #[.int .i64 kd, .int .i64 oa, .int .i64 ob, .bool up, .slice Ad dl cd] 29)
          clear hdl k0 k1 k2 k3 k4 hoi hd1 hd2 hd3 hrd w1 w2 hown hbw
          go_upto_region 11 with (fail)
          obtain ⟨wo, hwo⟩ : ∃ wo, wr.alloc (.cells #[.int .i64 kd, .int .i64 oa, .int .i64 ob, .bool up, .slice Ad dl cd] 29) = wo := ⟨_, rfl⟩
          obtain ⟨qb, hqb⟩ : ∃ qb, wr.heap.size = qb := ⟨_, rfl⟩
          rw [hwo, hqb] at HN
          simp only [hwo, hqb]
          clear hwo hqb c0 c1 c2 c3 c4
          have d0 := HN.out.blk_cell 0
          have d1 := HN.out.blk_cell 1
          have d2 := HN.out.blk_cell 2
          have d3 := HN.out.blk_cell 3
          have d4 := HN.out.blk_cell 4
          simp only [List.getElem?_toArray, List.getElem?_cons_zero, List.getElem?_cons_succ] at d0 d1 d2 d3 d4
          have HO := Lib.hid (HN.out.pick (L := [_, _, _]) [1, 0, 2])
          by_cases hk0 : kd = 0
          · have hk' : (kd == 0) = true := by simp [hk0]
            have H0 := Lib.hid hk0
            clear hk0
            have HL := Lib.hid (linked_own hnd.2 HO.out oa ob)
            have HS := Lib.hid (send_own (a := oa) (b := ob) (dat := dat) (cb := cd) (B := Ad) hnd.2 (by omega) (by omega) HD.out.2.1 HO.out (fun W X hX => HD.out.1.below hX.below))
            rw [show sendB nodes cut L oa ob = linkedB nodes cut oa ob by rw [sendB, show decide (L.length < 2000) = true from decide_eq_true (by omega), Bool.and_true], HDL.out] at HS
            obtain ⟨lk, hlk⟩ : ∃ lk, linkedB nodes cut oa ob = lk := ⟨_, rfl⟩
            rw [hlk] at HL HS
            clear hlk
            go_wp2_with fail
            refine (HL.out).mono ?_
            rintro e w4 ⟨rfl, rfl⟩
            go_wp2_with fail
            refine (HS.out).mono ?_
            rintro e w4 ⟨rfl, o4⟩
            have O4 := Lib.hid o4
            clear o4 HL HS HO d0 d1 d2 d3 d4 HN
            have d0 := ((O4.out.pick (L := [_, _, _]) [1]).blk_cell 0)
            have d1 := ((O4.out.pick (L := [_, _, _]) [1]).blk_cell 1)
            have d2 := ((O4.out.pick (L := [_, _, _]) [1]).blk_cell 2)
            have d3 := ((O4.out.pick (L := [_, _, _]) [1]).blk_cell 3)
            have d4 := ((O4.out.pick (L := [_, _, _]) [1]).blk_cell 4)
            simp only [List.getElem?_toArray, List.getElem?_cons_zero, List.getElem?_cons_succ] at d0 d1 d2 d3 d4
            have hq2 : (Q.length : Int) < 2000 := by omega
            cases lk with
            | false =>
              go_wp2
              go_roundw
              case rel => exact ⟨i + 1, last, cut, L, Q, Aq, cq, by omega, rfl, by go_num, by omega, by omega, O4.out.pick (L := [_, _, _]) [0, 2], hK.out⟩
              case measure => simp [intOf]; omega
            | true =>
              have OQ := Lib.hid (O4.out.pick (L := [_, _, _]) [2, 0, 1])
              go_wp2_with (at_builtin; refine wpList_append_own rfl (.tmp 114) (.tmp 116) 22 rfl 29 opZero 5 56 Try.underlying22 Try.info29 opZero_size (by decide) rfl (qrow_length Q) OQ.out ((Below.refl _ _).alloc (Nat.le_refl _) _) _ 1 1 _ rfl ?_ (rd_list _ _ _) ?_ (by unfold maxLen; omega) (by omega) ?_)
              · simp [Value.oneCell']
              rintro A5 c5 w5 o5
              have O5 := Lib.hid (o5.pick (L := [_, _, _]) [1, 0])
              clear o5 O4 OQ d0 d1 d2 d3 d4
              go_wp2
              go_roundw
              case rel =>
                refine ⟨i + 1, last + 1, cut, L ++ [⟨last + 1, oa, ob, dat, false⟩], Q ++ [(⟨kd, oa, ob, up, dat⟩, Ad, cd)], A5, c5, by omega, by rw [List.length_append]; rfl, by go_num, by omega, by rw [List.length_append, List.length_cons, List.length_nil]; omega, ?_, ?_, ?_⟩
                · have h := O5.out
                  rw [qrow_append, List.length_append, qcells, HDL.out]
                  simp only [addLast, addRow, if_true] at h
                  exact h
                · rw [List.map_append, List.map_append, hK.out.1]; rfl
                · intro x hx
                  rw [List.mem_append, List.mem_singleton] at hx
                  rcases hx with hx | rfl
                  · exact hK.out.2 x hx
                  · exact ⟨HD.out.1, HD.out.2.1⟩
              case measure => simp [intOf]; omega
          · have hk' : (kd == 0) = false := by simp [hk0]
            clear hk0
            by_cases hk6 : kd = 6
            · have hk6' : (kd == 6) = true := by simp [hk6]
              have H6 := Lib.hid hk6
              clear hk6
              by_cases ht : twoP nodes oa ob
              · have HS := Lib.hid (link_yes hnd.2 HO.out oa ob up ht)
                obtain ⟨_, hcut, -⟩ := HO.out.net_open
                have hx1 := linked_cut (x := !up) hnd.2 hcut ht
                have hx2 := linked_cut' (x := !up) hnd.2 hcut ht
                rw [Bool.not_not] at hx1 hx2
                clear hcut ht
                go_wp2_with fail
                refine (HS.out).mono ?_
                rintro e w4 ⟨rfl, o4⟩
                have O4 := Lib.hid o4
                have h1 := linked_own hnd.2 o4.drew oa ob
                have h2 := linked_own hnd.2 o4.drew ob oa
                rw [hx1] at h1
                rw [hx2] at h2
                have H1 := Lib.hid h1
                have H2 := Lib.hid h2
                clear o4 HS HO d0 d1 d2 d3 d4 HN h1 h2 hx1 hx2
                have d0 := ((O4.out.pick (L := [_, _, _]) [1]).blk_cell 0)
                have d1 := ((O4.out.pick (L := [_, _, _]) [1]).blk_cell 1)
                have d2 := ((O4.out.pick (L := [_, _, _]) [1]).blk_cell 2)
                have d3 := ((O4.out.pick (L := [_, _, _]) [1]).blk_cell 3)
                have d4 := ((O4.out.pick (L := [_, _, _]) [1]).blk_cell 4)
                simp only [List.getElem?_toArray, List.getElem?_cons_zero, List.getElem?_cons_succ] at d0 d1 d2 d3 d4
                go_upto_region 29 with (fail)
                go_region_held3 (fun W => W.cell? ⟨qb, 1, none⟩ = some (.int .i64 oa) ∧ W.cell? ⟨qb, 2, none⟩ = some (.int .i64 ob) ∧ W.cell? ⟨qb, 3, none⟩ = some (.bool up)) (exact ⟨d1, d2, d3⟩) (first
                  | (refine step_callW 10 _ _ rfl Try.func10 (by kernel_rfl) (by kernel_rfl) #[.pointer (some ⟨g, 0, none⟩), .int .i64 oa, .int .i64 ob] (by rfl) (by rfl) ?_; refine (H1.out).mono ?_; rintro e w' ⟨rfl, rfl⟩; refine ⟨_, rfl, ?_⟩)
                  | (refine step_callW 10 _ _ rfl Try.func10 (by kernel_rfl) (by kernel_rfl) #[.pointer (some ⟨g, 0, none⟩), .int .i64 ob, .int .i64 oa] (by rfl) (by rfl) ?_; refine (H2.out).mono ?_; rintro e w' ⟨rfl, rfl⟩; refine ⟨_, rfl, ?_⟩))
                clear H1 H2
                go_wp2
                go_roundw
                case rel => exact ⟨i + 1, last, _, L, Q, Aq, cq, by omega, rfl, by go_num, by omega, by omega, (O4.out.drew).pick (L := [_, _, _]) [0, 2], hK.out⟩
                case measure => simp [intOf]; omega
              · have HS := Lib.hid (link_no HO.out oa ob up ht)
                clear ht
                go_wp2_with fail
                refine (HS.out).mono ?_
                rintro e w4 ⟨rfl, rfl⟩
                clear HS
                go_upto_region 29 with (fail)
                go_quiet (fail)
                go_wp2
                go_roundw
                case rel => exact ⟨i + 1, last, cut, L, Q, Aq, cq, by omega, rfl, by go_num, by omega, by omega, (HO.out.drewN _).pick (L := [_, _, _]) [0, 2], hK.out⟩
                case measure => simp [intOf]; omega
            · have hk6' : (kd == 6) = false := by simp [hk6]
              clear hk6
              cases Q with
              | nil =>
                obtain rfl : L = [] := List.length_eq_zero_iff.1 hLQ
                have HS := Lib.hid (take_no HO.out 0 (by simp))
                unfold mailZero at HS
                go_wp2_with fail
                refine (HS.out).mono ?_
                rintro e w4 ⟨rfl, o4⟩
                have O4 := Lib.hid (o4.alloc #[.int .i64 0, .int .i64 0, .int .i64 0, .slice none 0 0, .bool false] 34)
                clear o4 HS HO d0 d1 d2 d3 d4 HN
                go_wp2
                go_roundw
                case rel => exact ⟨i + 1, last, cut, [], [], Aq, cq, by omega, rfl, by go_num, by omega, by simp, O4.out.pick (L := [_, _, _, _]) [1, 3], hK.out⟩
                case measure => simp [intOf]; omega
              | cons x Q =>
                cases L with
                | nil => cases hLQ
                | cons m L =>
                  have HS := Lib.hid (take_yes (by simp at hLQ hQ2; simp; omega) HO.out 0 m rfl)
                  unfold mailV at HS
                  have hkey := hK.out.1
                  simp only [List.map_cons, List.cons.injEq] at hkey
                  obtain ⟨hkx, hkL⟩ := hkey
                  simp only [mkey, qkey, Prod.mk.injEq] at hkx
                  obtain ⟨hx1, hx2, hx3, hx4⟩ := hkx
                  obtain ⟨hrx, hlx⟩ := hK.out.2 x (List.mem_cons_self)
                  obtain ⟨mn, mf, mt, md, ms⟩ := m
                  obtain ⟨⟨xk, xa, xb, xu, xd⟩, xA, xc⟩ := x
                  simp only at hx1 hx2 hx3 hx4 HS hrx hlx
                  subst hx1 hx2 hx3 hx4
                  simp only [List.length_cons] at hLQ hQi hQ2
                  obtain ⟨ml, hml⟩ : ∃ ml, md.length = ml := ⟨_, rfl⟩
                  have HML := Lib.hid hml
                  rw [hml] at HS
                  have HX := Lib.hid (And.intro hrx (And.intro hlx (And.intro hkL (fun y hy => hK.out.2 y (List.mem_cons_of_mem _ hy)))))
                  clear hrx hlx hkL hml
                  go_wp2_with fail
                  refine (HS.out).mono ?_
                  rintro e w4 ⟨Am, cm, rfl, o4⟩
                  have o5 := o4.alloc #[.int .i64 mn, .int .i64 mf, .int .i64 mt, .slice Am ml cm, .bool false] 34
                  have O5 := Lib.hid o5
                  obtain ⟨gq, oq, rfl, q1, -⟩ := (o5.pick (L := [_, _, _, _, _]) [4]).cell (qrow_get (Q := (⟨xk, mf, mt, xu, md⟩, xA, xc) :: Q) (i := 0) (j := 1) rfl (by omega))
                  obtain ⟨_, _, z1, q2, -⟩ := (o5.pick (L := [_, _, _, _, _]) [4]).cell (qrow_get (Q := (⟨xk, mf, mt, xu, md⟩, xA, xc) :: Q) (i := 0) (j := 2) rfl (by omega))
                  cases z1
                  obtain ⟨_, _, z1, q4, -⟩ := (o5.pick (L := [_, _, _, _, _]) [4]).cell (qrow_get (Q := (⟨xk, mf, mt, xu, md⟩, xA, xc) :: Q) (i := 0) (j := 4) rfl (by omega))
                  cases z1
                  have q1' : _ = some (Value.int .i64 mf) := q1
                  have q2' : _ = some (Value.int .i64 mt) := q2
                  have q4' : _ = some (Value.slice xA md.length xc) := q4
                  rw [HML.out] at q4'
                  simp only [Nat.zero_mul, Nat.zero_add] at q1' q2' q4'
                  have m0 := o5.blk_cell 0
                  have m1 := o5.blk_cell 1
                  have m2 := o5.blk_cell 2
                  have m3 := o5.blk_cell 3
                  have m4 := o5.blk_cell 4
                  simp only [List.getElem?_toArray, List.getElem?_cons_zero, List.getElem?_cons_succ] at m0 m1 m2 m3 m4
                  have HB := Lib.hid (fun n => samebytes_calls ((w4.alloc (.cells #[.int .i64 mn, .int .i64 mf, .int .i64 mt, .slice Am ml cm, .bool false] 34)).drewN n) Am xA cm xc md md (o5.pick (L := [_, _, _, _, _]) [2]).rd (HX.out.1.below (below_drewN o5.below n)) HX.out.2.1)
                  simp only [decide_true, HML.out] at HB
                  clear o4 o5 HS HO d0 d1 d2 d3 d4 HN q1 q2 q4
                  go_upto_region 16 with (fail)
                  obtain ⟨W5, hW5⟩ : ∃ W5, w4.alloc (.cells #[.int .i64 mn, .int .i64 mf, .int .i64 mt, .slice Am ml cm, .bool false] 34) = W5 := ⟨_, rfl⟩
                  obtain ⟨mb, hmb⟩ : ∃ mb, w4.heap.size = mb := ⟨_, rfl⟩
                  rw [hW5] at q1' q2' q4' m0 m1 m2 m3 m4 O5
                  simp only [hW5] at HB
                  rw [hmb] at m0 m1 m2 m3 m4 O5
                  simp only [hW5, hmb]
                  clear hW5 hmb
                  have hcl := (O5.out.pick (L := [_, _, _, _, _]) [4]).row_le (by decide) (qrow_length _)
                  have O6 := Lib.hid ((O5.out.pick (L := [_, _, _, _, _]) [4, 1]).cutRow (k := 1) (by simp) hcl.1 (qrow_length _))
                  clear O5
                  go_quiet ((go_at_call 14; exact quiet_add (HB.out _)))
                  clear HB
                  go_upto_region 17 with (fail)
                  go_quiet (fail)
                  by_cases hcq : cq = 1
                  · rw [if_pos hcq] at O6
                    go_wp2
                    go_roundw
                    case rel =>
                      refine ⟨i + 1, last, cut, L, Q, _, _, by omega, rfl, by go_num, by omega, by omega, ?_, HX.out.2.2⟩
                      have h := (O6.out.pick (L := [_, _]) [1, 0])
                      rw [hcq] at h
                      exact Own.drewN h _
                    case measure => simp [intOf]; omega
                  · rw [if_neg hcq] at O6
                    go_wp2
                    go_roundw
                    case rel =>
                      refine ⟨i + 1, last, cut, L, Q, _, _, by omega, rfl, by go_num, by omega, by omega, ?_, HX.out.2.2⟩
                      have h := (O6.out.pick (L := [_, _]) [1, 0])
                      skip
                      exact Own.drewN h _
                    case measure => simp [intOf]; omega
        · have i1 : ¬ (i : Int) < (l.length : Int) := by omega
          have HLn := Lib.hid (len_own hown)
          have HO := Lib.hid hown
          rw [hLQ] at HLn
          clear hown
          go_wp2_with fail
          refine (HLn.out).mono ?_
          rintro e w4 ⟨rfl, rfl⟩
          go_wp2
          go_ret
          exact ⟨rfl, HO.out.below⟩
  · have HN := Lib.hid (fun W => new_no W nodes hnd)
    clear hnd
    go_enter Try.func3, Try.ntmps3
    go_wp2_with fail
    refine (hf.out).mono ?_
    rintro e w1 ⟨rfl, own1⟩
    have O1 := Lib.hid own1
    clear own1
    go_wp2_with fail
    refine (few_calls w1 A c l ?_ hlen).mono ?_
    · exact fun i o ho => by
        obtain ⟨b, off, Ad, cd, h1, hb, h2, h3, h4, h5, h6, h7, h8, h9, h10, h11⟩ := Hop.out i o ho
        have hbl := O1.out.below
        exact ⟨b, off, Ad, cd, h1, by have := hbl.size; omega, (hbl.cell hb).trans h2, (hbl.cell hb).trans h3, (hbl.cell hb).trans h4, (hbl.cell hb).trans h5, (hbl.cell hb).trans h6, h7, h8, h9, h10.below hbl, h11⟩
    rintro e w2 ⟨r, rfl, rfl, hr⟩
    clear hr
    go_wp2_with fail
    refine (HN.out _).mono ?_
    rintro e w3 ⟨rfl, rfl⟩
    cases r with
    | false =>
      go_wp2
      go_ret
      exact ⟨rfl, O1.out.below⟩
    | true =>
      go_wp2
      go_ret
      exact ⟨rfl, O1.out.below⟩
end Go.Proofs.Ytlhinhcbbknhcaa

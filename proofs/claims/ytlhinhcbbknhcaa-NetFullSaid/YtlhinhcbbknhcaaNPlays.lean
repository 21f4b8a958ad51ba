/-
  NetPlays: the network plays as the document's, and what it hands out may be written over.
  Conditions: none but that the operations lie in memory.
-/
import Derived.Test.YtlhinhcbbknhcaaDoAll
import Derived.Test.YtlhinhcbbknhcaaList
import Derived.Test.YtlhinhcbbknhcaaMat
import Derived.Test.YtlhinhcbbknhcaaFirst
namespace Go.Proofs.Ytlhinhcbbknhcaa
set_option linter.unusedVariables false
set_option linter.unusedSimpArgs false
open Go.RowKit

def dats (L : List M) : List (List Value) := L.map fun m => bts m.dat
theorem mdata_inner : ∀ (L : List M) (ds : List Value), mdata L ds = inner 5 ds (dats L)
  | [], ds => by simp [mdata, inner, dats]
  | m :: L, [] => by simp [mdata, inner, dats]
  | m :: L, d :: ds => by
    have := mdata_inner L ds
    simp only [mdata, inner, dats] at this
    simp only [mdata, inner, dats, List.map_cons, List.zipWith_cons_cons]
    rw [this]
structure AsLong (L : List M) (YS : List (List Value)) : Prop where
  len : YS.length = L.length
  each : ∀ (k : Nat) (m : M) (ys : List Value), L[k]? = some m → YS[k]? = some ys → ys.length = m.dat.length
theorem AsLong.start (L : List M) : AsLong L (dats L) := ⟨by simp [dats], fun k m ys hm hy => by
  simp only [dats, List.getElem?_map, hm, Option.map_some, Option.some.injEq] at hy
  rw [← hy, bts_length]⟩
theorem AsLong.set {L : List M} {YS : List (List Value)} (h : AsLong L YS) {i : Nat} {ys : List Value} (hy : YS[i]? = some ys) (k : Nat) (u : Value) : AsLong L (YS.set i (ys.set k u)) := by
  refine ⟨by rw [List.length_set, h.len], fun j m zs hm hz => ?_⟩
  rw [List.getElem?_set] at hz
  by_cases hij : i = j
  · subst hij
    rw [if_pos rfl] at hz
    split at hz
    · injection hz with hz
      rw [← hz, List.length_set]
      exact h.each _ m ys hm hy
    · cases hz
  · rw [if_neg hij] at hz
    exact h.each j m zs hm hz
structure Rest5 (n i : Nat) (xs zs : List Value) : Prop where
  len : zs.length = n * 5
  back : ∀ p, i * 5 ≤ p → zs[p]? = xs[p]?
theorem Rest5.set5 {n i : Nat} {xs zs : List Value} (h : Rest5 n i xs zs) (a b c d f : Value) : Rest5 n (i + 1) xs (((((zs.set (i * 5) a).set (i * 5 + 1) b).set (i * 5 + 2) c).set (i * 5 + 3) d).set (i * 5 + 4) f) := by
  refine ⟨by simp only [List.length_set]; exact h.len, fun p hp => ?_⟩
  rw [List.getElem?_set_ne (by omega), List.getElem?_set_ne (by omega), List.getElem?_set_ne (by omega), List.getElem?_set_ne (by omega), List.getElem?_set_ne (by omega)]
  exact h.back p (by omega)
theorem zero34 (W : World) : (zeroValue 34).run Try.prog W = .ok (.agg #[.int .i64 0, .int .i64 0, .int .i64 0, .slice none 0 0, .bool false]) W := by kernel_rfl
theorem tw_start {nodes : Int} (h1 : 1 ≤ nodes) (h2 : nodes ≤ 7) : Tw nodes 0 cut0 [] [] 0 := by
  refine ⟨h1, h2, cut0_length, fun a b => ?_, by omega, by omega, by simp, by simp, by simp⟩
  rw [linkedB, rlinkedB]
  congr 1
  have : cut0.getD (at2 a b) false = false := by
    rw [cut0, List.getD_eq_getElem?_getD, List.getElem?_replicate]
    split <;> rfl
  rw [this]; simp [inC]
theorem ops_below {w wr : World} {A : Option Addr} {l : List Op5} (h : Ops w A l) (hbl : Below w.heap.size w wr) : Ops wr A l := fun i o ho => by
  obtain ⟨b, off, Ad, cd, h1, hb, h2, h3, h4, h5, h6, h7, h8, h9, h10, h11⟩ := h i o ho
  exact ⟨b, off, Ad, cd, h1, by have := hbl.size; omega, (hbl.cell hb).trans h2, (hbl.cell hb).trans h3, (hbl.cell hb).trans h4, (hbl.cell hb).trans h5, (hbl.cell hb).trans h6, h7, h8, h9, h10.below hbl, h11⟩
section
variable {S : Nat → Prop} {w0 w : World} {R : List SP}
theorem Own.inner_one {ds : List Value} {YS : List (List Value)} {i : Nat} {d : Value} {ys : List Value} (h : Own S w0 w (SP.stars (inner 5 ds YS) :: R)) (hl : ds.length = YS.length) (hd : ds[i]? = some d) (hy : YS[i]? = some ys) :
    Own S w0 w (SP.row 5 1 d ys :: SP.stars ((inner 5 ds YS).eraseIdx i) :: R) ∧ ∀ w' zs, Own S w0 w' (SP.row 5 1 d zs :: SP.stars ((inner 5 ds YS).eraseIdx i) :: R) → Own S w0 w' (SP.stars (inner 5 ds (YS.set i zs)) :: R) := by
  refine ⟨h.focus i (inner_get hd hy), fun w' zs h' => ?_⟩
  have := h'.unfocus (by rw [inner_length hl]; exact (List.getElem?_eq_some_iff.1 hy).1)
  rw [inner_set _ _ hl] at this
  rw [show ds.set i d = ds by
    apply List.ext_getElem?
    intro k
    rw [List.getElem?_set]
    by_cases hk : i = k
    · subst hk; rw [if_pos rfl, if_pos (List.getElem?_eq_some_iff.1 hd).1, hd]
    · rw [if_neg hk]] at this
  exact this
end

set_option maxRecDepth 100000 in
set_option maxHeartbeats 16000000 in
theorem plays_calls (w : World) (nodes : Int) (A : Option Addr) (c : Nat) (l : List Op5) (hops : Ops w A l) (hlen : l.length ≤ 140737488351232) :
    Calls Try.prog 4 #[.int .i64 nodes, .slice A l.length c] w fun e w' => e = .returned (.bool true) ∧ Below w.heap.size w w' := by
  have hf := Lib.hid (first_own (Own.start w))
  have Hop := Lib.hid hops
  clear hops
  obtain ⟨ll, hll⟩ : ∃ ll, l.length = ll := ⟨_, rfl⟩
  have HLn := Lib.hid hll
  by_cases hnd : 1 ≤ nodes ∧ nodes ≤ 7
  · rw [hll] at hlen ⊢
    clear hll
    go_enter Try.func4, Try.ntmps4
    go_wp2_with fail
    refine (hf.out).mono ?_
    rintro e w1 ⟨rfl, own1⟩
    have O1 := Lib.hid own1
    have HFw := few_calls w1 A c l (ops_below Hop.out own1.below) (by rw [HLn.out]; exact hlen)
    rw [HLn.out] at HFw
    have HF := Lib.hid HFw
    clear own1 HFw hf
    go_wp2_with fail
    refine (HF.out).mono ?_
    rintro e w2 ⟨r, rfl, rfl, hr⟩
    have HN := Lib.hid (new_yes nodes hnd.1 hnd.2 O1.out)
    have HR := Lib.hid hr
    clear hr HF
    go_wp2_with fail
    refine (HN.out).mono ?_
    rintro e w3 ⟨g, rfl, own3⟩
    have HN2 := Lib.hid (rnew_yes nodes hnd.1 hnd.2 own3)
    clear own3 HN O1
    go_wp2_with fail
    refine (HN2.out).mono ?_
    rintro e w4 ⟨gr, rfl, own4⟩
    have O4 := Lib.hid own4.swap
    have HTW := Lib.hid (tw_start hnd.1 hnd.2)
    clear own4 HN2
    cases r with
    | false =>
      go_wp2
      go_ret
      exact ⟨rfl, O4.out.below⟩
    | true =>
      have hl300 := HR.out rfl
      go_wp2
      go_loopw [9] (fun ti wr => ∃ (i : Nat) (last : Int) (cut : List Bool) (C : List (Int × Int)) (L : List M), i ≤ ll ∧ ti = .int .i64 i ∧ Hid (Tw nodes last cut C L i) ∧ Own (fun _ => False) w wr [SP.net g nodes cut last L, SP.rnet gr nodes last L C]) (fun ti _ => ll - (intOf ti).toNat)
      case atStart => exact ⟨0, 0, cut0, [], [], Nat.zero_le _, rfl, HTW.out, O4.out⟩
      case round =>
        obtain ⟨io, last0, cuta, C0, L0, hi, rfl, hT, hown⟩ := hrel
        clear O4 HTW
        by_cases hin : io < ll
        · have ii1 : (io : Int) < (ll : Int) := by omega
          obtain ⟨o, hoi⟩ : ∃ o, l[io]? = some o := ⟨_, List.getElem?_eq_getElem (by rw [HLn.out]; exact hin)⟩
          obtain ⟨b, off, Ad, cd, rfl, hbl, k0, k1, k2, k3, k4, hd1, hd2, hd3, hrd, w0', w1', w2'⟩ := Hop.out io o hoi
          have hbw : Below w.heap.size w wr := hown.below
          have c0 := (hbw.cell hbl).trans k0
          have c1 := (hbw.cell hbl).trans k1
          have c2 := (hbw.cell hbl).trans k2
          have c3 := (hbw.cell hbl).trans k3
          have c4 := (hbw.cell hbl).trans k4
          have HDo := Lib.hid (does_own hT.out (by omega) o.kind o.a o.b o.up Ad cd o.dat ⟨hd1, hd2, hd3, hrd⟩ ⟨w0', w1', w2'⟩ hown)
          clear hown hbw k0 k1 k2 k3 k4 hrd hoi hd1 hd2 hd3 w0' w1' w2' hbl
          go_wp2_with fail
          refine (HDo.out).mono ?_
          rintro e w5 ⟨last, cut, C, L, rfl, tw, o5⟩
          have HTT := Lib.hid tw
          have hLl := tw.ll
          have HLs := Lib.hid (list_own (by omega) tw.dl o5)
          clear tw o5 HDo c0 c1 c2 c3 c4 hT
          obtain ⟨n, hn⟩ : ∃ n, L.length = n := ⟨_, rfl⟩
          have HNn := Lib.hid hn
          rw [hn] at HLs hLl
          clear hn
          go_wp2_with fail
          refine (HLs.out).mono ?_
          rintro e w6 ⟨Aa, ca, rfl, o6⟩
          obtain ⟨AL, cL, BC, kC, -, -, o7⟩ := (o6.pick (L := [_, _, _]) [2, 0, 1]).rnet_open
          rw [HNn.out] at o7
          have d1 := o7.blk_cell 1
          simp only [rnetA, List.getElem?_toArray, List.getElem?_cons_zero, List.getElem?_cons_succ] at d1
          have hrow := row_own (A := Aa) (B := AL) (ca := ca) (cb := cL) (L := L) (by rw [HNn.out]; omega) HTT.out.dl (by rw [HNn.out]; exact o7.pick (L := [_, _, _, _, _]) [3, 1, 0, 2, 4])
          rw [HNn.out] at hrow
          have HRw := Lib.hid hrow
          clear o6 o7 hrow HLs
          go_wp2_with fail
          refine (HRw.out).mono ?_
          rintro e w8 ⟨rfl, o8⟩
          obtain ⟨_, _, ds, z, hds, -, -, o9⟩ := o8.mails_open
          rw [HNn.out] at z o9
          cases z
          rw [mdata_inner] at o9
          have HD := Lib.hid (And.intro HNn.out (show ds.length = n by rw [hds, HNn.out]))
          have HLL := Lib.hid (And.intro (AsLong.start L) (show Rest5 n 0 (mrow L ds) (mrow L ds) from ⟨by rw [mrow_length hds, HNn.out], fun p _ => rfl⟩))
          have O5 := Lib.hid (o9.pick (L := [_, _, _, _, _, _]) [0, 1, 5, 3, 2, 4])
          clear o8 o9 hds HRw d1
          go_wp2
          go_loopw [13] (fun ti wr => ∃ (i : Nat) (YS : List (List Value)) (zs : List Value), i ≤ n ∧ ti = .int .i64 i ∧ Hid (AsLong L YS ∧ Rest5 n i (mrow L ds) zs) ∧ Own (fun _ => False) w wr (SP.row 34 5 (.slice Aa n ca) zs :: SP.stars (inner 5 ds YS) :: SP.net g nodes cut last L :: SP.blk gr 49 (rnetA nodes (.slice AL n cL) last (.slice BC C.length kC)) :: SP.mails 60 (.slice AL n cL) L :: SP.row 66 2 (.slice BC C.length kC) (prow C) :: [])) (fun ti _ => n - (intOf ti).toNat)
          case atStart => exact ⟨0, _, _, Nat.zero_le _, rfl, HLL.out, O5.out⟩
          case round =>
            obtain ⟨i, YS, zs, hi, rfl, hY, hown⟩ := hrel
            clear O5 HLL
            by_cases hin : i < n
            · have i1 : (i : Int) < (n : Int) := by omega
              obtain ⟨m, hm⟩ : ∃ m, L[i]? = some m := ⟨_, List.getElem?_eq_getElem (by rw [HD.out.1]; exact hin)⟩
              obtain ⟨d, hd⟩ : ∃ d, ds[i]? = some d := ⟨_, List.getElem?_eq_getElem (by rw [HD.out.2]; exact hin)⟩
              obtain ⟨ys, hys⟩ : ∃ d, YS[i]? = some d := ⟨_, List.getElem?_eq_getElem (by rw [hY.out.1.len, HD.out.1]; exact hin)⟩
              obtain ⟨b, off, rfl, -, -⟩ := hown.cell (j := i * 5 + 3) (u := d) (by rw [hY.out.2.back _ (by omega)]; exact mrow_get (j := 3) hm hd (by omega))
              obtain ⟨Ad, cd, hdv, hc1, hc2⟩ := SP.row_shape1 (hown.swap.focus i (inner_get hd hys)).head
              rw [hY.out.1.each i m ys hm hys] at hdv hc1
              obtain ⟨dl, hdl⟩ : ∃ dl, m.dat.length = dl := ⟨_, rfl⟩
              have hdl2 := HTT.out.dl m (List.mem_of_getElem? hm)
              rw [hdl] at hdv hc1 hdl2
              subst hdv
              have HM := Lib.hid (And.intro hm (And.intro hd hdl))
              have HO := Lib.hid hown
              clear hown hm hd hys hdl
              go_wp2
              go_loopw [14] (fun tk wr => ∃ (j : Nat) (ZS : List (List Value)), j ≤ dl ∧ tk = .int .i64 j ∧ Hid (AsLong L ZS) ∧ Own (fun _ => False) w wr (SP.row 34 5 (.slice (some ⟨b, off, none⟩) n ca) zs :: SP.stars (inner 5 ds ZS) :: SP.net g nodes cut last L :: SP.blk gr 49 (rnetA nodes (.slice AL n cL) last (.slice BC C.length kC)) :: SP.mails 60 (.slice AL n cL) L :: SP.row 66 2 (.slice BC C.length kC) (prow C) :: [])) (fun tk _ => dl - (intOf tk).toNat)
              case atStart => exact ⟨0, _, Nat.zero_le _, rfl, hY.out.1, HO.out⟩
              case round =>
                obtain ⟨j, ZS, hk, rfl, hZ, hown⟩ := hrel
                clear HO
                obtain ⟨_, _, z, l3, -⟩ := hown.cell (j := i * 5 + 3) (u := .slice Ad dl cd) (by rw [hY.out.2.back _ (by omega)]; exact mrow_get (j := 3) HM.out.1 HM.out.2.1 (by omega))
                cases z
                simp only [← Nat.add_assoc] at l3
                by_cases hkd : j < dl
                · have k1 : (j : Int) < (dl : Int) := by omega
                  obtain ⟨zz, hzs⟩ : ∃ d, ZS[i]? = some d := ⟨_, List.getElem?_eq_getElem (by rw [hZ.out.len, HD.out.1]; exact hin)⟩
                  have hzl := hZ.out.each i m zz HM.out.1 hzs
                  obtain ⟨u, hu⟩ : ∃ u, zz[j]? = some u := ⟨_, List.getElem?_eq_getElem (by rw [hzl, HM.out.2.2]; exact hkd)⟩
                  obtain ⟨h1, back⟩ := hown.swap.inner_one (by rw [HD.out.2, hZ.out.len, HD.out.1]) HM.out.2.1 hzs
                  obtain ⟨gb, go, z, q1, q2⟩ := h1.cell hu
                  cases z
                  have O5 := Lib.hid ((back _ _ (h1.store (j := j) (by rw [hzl, HM.out.2.2]; exact hkd) (.int .u8 31))).swap)
                  have HZ := Lib.hid (hZ.out.set hzs j (.int .u8 31))
                  clear hown h1 back hzs hzl hu
                  go_wp2
                  go_roundw
                  case rel => exact ⟨j + 1, _, by omega, by go_num, HZ.out, O5.out⟩
                  case measure => simp [intOf]; omega
                · have k1 : ¬ (j : Int) < (dl : Int) := by omega
                  have hzl := hY.out.2.len
                  obtain ⟨u0, hu0⟩ : ∃ u, zs[i * 5]? = some u := ⟨_, List.getElem?_eq_getElem (by (try simp only [List.length_set]); omega)⟩
                  obtain ⟨_, _, z, q0, f0⟩ := hown.cell hu0
                  cases z
                  have s0 := hown.store (j := i * 5) (by (try simp only [List.length_set]); omega) (.int .i64 0)
                  obtain ⟨u1, hu1⟩ : ∃ u, (zs.set (i * 5) (.int .i64 0))[i * 5 + 1]? = some u := ⟨_, List.getElem?_eq_getElem (by (try simp only [List.length_set]); omega)⟩
                  obtain ⟨_, _, z, q1, f1⟩ := s0.cell hu1
                  cases z
                  have s1 := s0.store (j := i * 5 + 1) (by (try simp only [List.length_set]); omega) (.int .i64 0)
                  obtain ⟨u2, hu2⟩ : ∃ u, ((zs.set (i * 5) (.int .i64 0)).set (i * 5 + 1) (.int .i64 0))[i * 5 + 2]? = some u := ⟨_, List.getElem?_eq_getElem (by (try simp only [List.length_set]); omega)⟩
                  obtain ⟨_, _, z, q2, f2⟩ := s1.cell hu2
                  cases z
                  have s2 := s1.store (j := i * 5 + 2) (by (try simp only [List.length_set]); omega) (.int .i64 0)
                  obtain ⟨u3, hu3⟩ : ∃ u, (((zs.set (i * 5) (.int .i64 0)).set (i * 5 + 1) (.int .i64 0)).set (i * 5 + 2) (.int .i64 0))[i * 5 + 3]? = some u := ⟨_, List.getElem?_eq_getElem (by (try simp only [List.length_set]); omega)⟩
                  obtain ⟨_, _, z, q3, f3⟩ := s2.cell hu3
                  cases z
                  have s3 := s2.store (j := i * 5 + 3) (by (try simp only [List.length_set]); omega) (.slice none 0 0)
                  obtain ⟨u4, hu4⟩ : ∃ u, ((((zs.set (i * 5) (.int .i64 0)).set (i * 5 + 1) (.int .i64 0)).set (i * 5 + 2) (.int .i64 0)).set (i * 5 + 3) (.slice none 0 0))[i * 5 + 4]? = some u := ⟨_, List.getElem?_eq_getElem (by (try simp only [List.length_set]); omega)⟩
                  obtain ⟨_, _, z, q4, f4⟩ := s3.cell hu4
                  cases z
                  have O6 := Lib.hid (s3.store (j := i * 5 + 4) (by (try simp only [List.length_set]); omega) (.bool false))
                  have HR4 := Lib.hid (hY.out.2.set5 (.int .i64 0) (.int .i64 0) (.int .i64 0) (.slice none 0 0) (.bool false))
                  simp only [← Nat.add_assoc] at q0 q1 q2 q3 q4 f0 f1 f2 f3 f4 O6
                  have HZY := Lib.hid hZ.out
                  have hz34 := zero34
                  clear hown s0 s1 s2 s3 hu0 hu1 hu2 hu3 hu4 hzl
                  go_wp2
                  go_roundw
                  case rel => exact ⟨i + 1, ZS, _, by omega, by go_num, ⟨HZY.out, HR4.out⟩, O6.out⟩
                  case measure => simp [intOf]; omega
            · have i1 : ¬ (i : Int) < (n : Int) := by omega
              have O7 := Lib.hid (hown.pick (L := [_, _, _, _, _, _]) [2, 3, 4, 5])
              clear hown
              have HCS := Lib.hid (fun (W : World) (R' : List SP) (o : Own (fun _ => False) w W (SP.net g nodes cut last L :: SP.blk gr 49 (rnetA nodes (.slice AL n cL) last (.slice BC C.length kC)) :: R')) => show W.cell? ⟨gr, 1, none⟩ = some (.slice AL n cL) from o.swap.blk_cell 1)
              have HLe := Lib.hid (fun (W : World) (o : Own (fun _ => False) w W (SP.net g nodes cut last L :: SP.blk gr 49 (rnetA nodes (.slice AL n cL) last (.slice BC C.length kC)) :: SP.mails 60 (.slice AL n cL) L :: SP.row 66 2 (.slice BC C.length kC) (prow C) :: [])) => show Calls Try.prog 15 #[.pointer (some ⟨g, 0, none⟩)] W fun e w' => e = .returned (.int .i64 (n : Nat)) ∧ Own (fun _ => False) w w' (SP.net g nodes cut last L :: SP.blk gr 49 (rnetA nodes (.slice AL n cL) last (.slice BC C.length kC)) :: SP.mails 60 (.slice AL n cL) L :: SP.row 66 2 (.slice BC C.length kC) (prow C) :: []) from by
                have := len_own o
                rw [HD.out.1] at this
                exact this.mono fun e w' ⟨he, hw⟩ => ⟨he, hw ▸ o⟩)
              have kk1 := HCS.out _ _ O7.out
              have hnn : ((n : Int) != (n : Int)) = false := by simp
              go_upto_region 23 with (fail)
              go_region_held3 (fun W => W.cell? ⟨gr, 1, none⟩ = some (.slice AL n cL))
                (first | go_keep | exact kk1 | exact K1.out)
                (first
                  | (refine step_callW 15 _ _ rfl Try.func15 (by kernel_rfl) (by kernel_rfl) #[.pointer (some ⟨g, 0, none⟩)] (by rfl) (by rfl) ?_
                     refine (HLe.out _ O7.out.drew).mono ?_
                     rintro e wa ⟨rfl, oa⟩
                     refine ⟨_, rfl, ?_⟩
                     have K1 := Lib.hid (HCS.out _ _ oa)
                     have OA := Lib.hid oa
                     clear oa))
              clear kk1
              go_wp2
              go_roundw
              case rel => exact ⟨io + 1, last, cut, C, L, by omega, by go_num, HTT.out, (by
                have o := OA.out
                rw [← HD.out.1] at o
                exact Own.swap (Own.rnet_shut (o.pick (L := [_, _, _, _]) [1, 2, 3, 0])))⟩
              case measure => simp [intOf]; omega
        · have ii1 : ¬ (io : Int) < (ll : Int) := by omega
          have HTT := Lib.hid hT.out
          have hLl := hT.out.ll
          obtain ⟨AL, cL, BC, kC, -, -, o7⟩ := hown.swap.rnet_open
          obtain ⟨n, hn⟩ : ∃ n, L0.length = n := ⟨_, rfl⟩
          have HNn := Lib.hid hn
          rw [hn] at o7 hLl
          have O0 := Lib.hid (show Own (fun _ => False) w wr.drew (SP.net g nodes cuta last0 L0 :: SP.blk gr 49 (rnetA nodes (.slice AL n cL) last0 (.slice BC C0.length kC)) :: SP.mails 60 (.slice AL n cL) L0 :: SP.row 66 2 (.slice BC C0.length kC) (prow C0) :: []) from (o7.pick (L := [_, _, _, _]) [3, 0, 1, 2]).drew)
          have HLs := list_own (by rw [HNn.out]; omega) HTT.out.dl O0.out
          rw [HNn.out] at HLs
          have HL := Lib.hid HLs
          have HCS := Lib.hid (fun (W : World) (R' : List SP) (o : Own (fun _ => False) w W (SP.blk gr 49 (rnetA nodes (.slice AL n cL) last0 (.slice BC C0.length kC)) :: R')) => show W.cell? ⟨gr, 1, none⟩ = some (.slice AL n cL) from o.blk_cell 1)
          have kk1 := HCS.out _ _ o7
          clear hown o7 HLs hT hn
          go_upto_region 25 with (fail)
          go_region_held3 (fun W => W.cell? ⟨gr, 1, none⟩ = some (.slice AL n cL))
            (first | go_keep | exact kk1 | exact K1.out | exact K2.out)
            (first
              | (refine step_callW 18 _ _ rfl Try.func18 (by kernel_rfl) (by kernel_rfl) #[.pointer (some ⟨g, 0, none⟩)] (by rfl) (by rfl) ?_
                 refine (HL.out).mono ?_
                 rintro e wa ⟨Aa, ca, rfl, oa⟩
                 refine ⟨_, rfl, ?_⟩
                 have K1 := Lib.hid (HCS.out _ _ (oa.pick (L := [_, _, _]) [2]))
                 have hrow := row_own (A := Aa) (B := AL) (ca := ca) (cb := cL) (L := L0) (by rw [HNn.out]; omega) HTT.out.dl (by rw [HNn.out]; exact oa.pick (L := [_, _, _, _]) [0, 3, 1, 2])
                 rw [HNn.out] at hrow
                 have HRw := Lib.hid hrow
                 clear oa hrow)
              | (refine step_callW 19 _ _ rfl Try.func19 (by kernel_rfl) (by kernel_rfl) #[.slice Aa n ca, .slice AL n cL] (by rfl) (by rfl) ?_
                 refine (HRw.out).mono ?_
                 rintro e wb ⟨rfl, ob⟩
                 refine ⟨_, rfl, ?_⟩
                 have K2 := Lib.hid (HCS.out _ _ (ob.pick (L := [_, _, _, _]) [3]))
                 have OB := Lib.hid ob
                 clear ob))
          clear kk1
          go_wp2
          go_ret
          exact ⟨rfl, OB.out.below⟩
  · rw [hll] at hlen ⊢
    clear hll
    go_enter Try.func4, Try.ntmps4
    go_wp2_with fail
    refine (hf.out).mono ?_
    rintro e w1 ⟨rfl, own1⟩
    have O1 := Lib.hid own1
    have HFw := few_calls w1 A c l (ops_below Hop.out own1.below) (by rw [HLn.out]; exact hlen)
    rw [HLn.out] at HFw
    have HF := Lib.hid HFw
    clear own1 HFw hf
    go_wp2_with fail
    refine (HF.out).mono ?_
    rintro e w2 ⟨r, rfl, rfl, hr⟩
    clear hr HF
    go_wp2_with fail
    refine (new_no w1 nodes hnd).mono ?_
    rintro e w3 ⟨rfl, rfl⟩
    go_wp2_with fail
    refine (rnew_no w1 nodes hnd).mono ?_
    rintro e w4 ⟨rfl, rfl⟩
    go_wp2
    go_ret
    exact ⟨rfl, O1.out.below⟩
end Go.Proofs.Ytlhinhcbbknhcaa

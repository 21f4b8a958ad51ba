/-
  rising, built: logs of entries whose terms are given.
  Conditions: none beyond each theorem's own.
-/
import Derived.Test.YtepnkhiclgjmpaaFirst
namespace Go.Proofs.Ytepnkhiclgjmpaa
set_option linter.unusedVariables false
set_option linter.unusedSimpArgs false
open Go.RowKit

def ints (xs : List Int) : List Value := xs.map (Value.int .i64)
theorem ints_length (xs : List Int) : (ints xs).length = xs.length := by simp [ints]
theorem ints_append (xs ys : List Int) : ints (xs ++ ys) = ints xs ++ ints ys := by simp [ints]
theorem ints_get {xs : List Int} {i : Nat} {x : Int} (h : xs[i]? = some x) : (ints xs)[i]? = some (.int .i64 x) := by simp [ints, h]
theorem Try.info3 : (Try.prog.info? 3).map (fun i => (i.zero, i.size, i.bytes)) = some (some (.int .i64 0), 1, 8) := by kernel_rfl

def rs (t a : Int) : Int := min (t + Int.tdiv (Int.tmod (Int.tmod a 3 + 3) 3) 2) 9
def risingL : Int → List Int → List Int
  | _, [] => []
  | t, a :: l => rs t a :: risingL (rs t a) l
theorem rs_parts (a : Int) : ∃ p q d : Int, Int.tmod a 3 = p ∧ -2 ≤ p ∧ p ≤ 2 ∧ Int.tmod (p + 3) 3 = q ∧ (p + 3) % 3 = q ∧ 0 ≤ q ∧ q ≤ 2 ∧ Int.tdiv q 2 = d ∧ q / 2 = d ∧ 0 ≤ d ∧ d ≤ 1 := by
  have h1 : Int.tmod a 3 < 3 := Int.tmod_lt_of_pos a (by decide)
  have h2 : -3 < Int.tmod a 3 := Int.lt_tmod_of_pos a (by decide)
  obtain ⟨p, hp⟩ : ∃ p, Int.tmod a 3 = p := ⟨_, rfl⟩
  rw [hp] at h1 h2
  have h3 : Int.tmod (p + 3) 3 = (p + 3) % 3 := Int.tmod_eq_emod_of_nonneg (by omega)
  obtain ⟨q, hq⟩ : ∃ q, (p + 3) % 3 = q := ⟨_, rfl⟩
  have h4 : Int.tdiv q 2 = q / 2 := Int.tdiv_eq_ediv_of_nonneg (by omega)
  exact ⟨p, q, q / 2, hp, by omega, by omega, by rw [h3, hq], hq, by omega, by omega, h4, rfl, by omega, by omega⟩
theorem risingL_length : ∀ (l : List Int) (t : Int), (risingL t l).length = l.length
  | [], _ => rfl
  | a :: l, t => by rw [risingL, List.length_cons, List.length_cons, risingL_length l]
theorem rs_bd {t : Int} (a : Int) (h1 : 1 ≤ t) (h2 : t ≤ 9) : t ≤ rs t a ∧ rs t a ≤ 9 := by
  obtain ⟨p, q, d, h3, _, _, h4, _, _, _, h5, _, h6, h7⟩ := rs_parts a
  unfold rs
  rw [h3, h4, h5]; omega
theorem risingL_bd : ∀ (l : List Int) (t : Int), 1 ≤ t → t ≤ 9 → (∀ x, x ∈ risingL t l → t ≤ x ∧ x ≤ 9) ∧ (risingL t l).Pairwise (· ≤ ·)
  | [], _, _, _ => ⟨by simp [risingL], by simp [risingL]⟩
  | a :: l, t, h1, h2 => by
    have hb := rs_bd a h1 h2
    obtain ⟨h3, h4⟩ := risingL_bd l (rs t a) (by omega) (by omega)
    rw [risingL]
    refine ⟨fun x hx => ?_, List.pairwise_cons.2 ⟨fun x hx => (h3 x hx).1, h4⟩⟩
    rcases List.mem_cons.1 hx with rfl | hx
    · exact hb
    · have := h3 x hx; omega
theorem risingL_drop {l : List Int} {i : Nat} {a t : Int} (h : l[i]? = some a) : risingL t (l.drop i) = rs t a :: risingL (rs t a) (l.drop (i + 1)) := by
  have h1 := List.getElem?_eq_some_iff.1 h
  rw [List.drop_eq_getElem_cons h1.1, h1.2, risingL]

section
variable {S : Nat → Prop} {w0 w : World} {R : List SP}
set_option maxRecDepth 100000 in
set_option maxHeartbeats 3200000 in
theorem rising_own {A : Option Addr} {c : Nat} {l : List Int} (hn : l.length ≤ 1000000) (h : Own S w0 w R) (hr : ∀ W X, Own S w0 W (X ++ R) → Rd W A (ints l)) :
    Calls Try.prog 22 #[.slice A l.length c] w fun e w' => ∃ A' c', e = .returned (.slice A' l.length c') ∧ Own S w0 w' (SP.row 3 1 (.slice A' l.length c') (ints (risingL 1 l)) :: R) := by
  have O := Lib.hid (h.add (B := SP.row 3 1 (.slice none 0 0) (ints [])) (SP.row_nil _ _ _ _))
  have HR := Lib.hid hr
  clear h hr
  go_enter Try.func22, Try.ntmps22
  go_wp2
  go_loopw [3, 4, 5] (fun ta tb ti wr => ∃ (i : Nat) (t : Int) (out : List Int) (Ao : Option Addr) (co : Nat), i ≤ l.length ∧ ta = .slice Ao i co ∧ tb = .int .i64 t ∧ ti = .int .i64 i ∧ 1 ≤ t ∧ t ≤ 9 ∧ Hid (out.length = i ∧ risingL 1 l = out ++ risingL t (l.drop i)) ∧ Own S w0 wr (SP.row 3 1 (.slice Ao i co) (ints out) :: R)) (fun _ _ ti _ => l.length - (intOf ti).toNat)
  case atStart => exact ⟨0, 1, [], none, 0, Nat.zero_le _, rfl, rfl, rfl, Int.le_refl _, by decide, ⟨rfl, by simp⟩, O.out⟩
  case round =>
    obtain ⟨i, t, out, Ao, co, hi, rfl, rfl, rfl, ht1, ht2, hout, hown⟩ := hrel
    clear O
    by_cases hin : i < l.length
    · have i1 : (i : Int) < (l.length : Int) := by omega
      obtain ⟨a, ha⟩ : ∃ a, l[i]? = some a := ⟨_, List.getElem?_eq_getElem hin⟩
      obtain ⟨b, off, rfl, k0⟩ := HR.out _ [_] hown i _ (ints_get ha)
      obtain ⟨p, q, d, h3, hp1, hp2, h4, h4', hq1, hq2, h5, h5', h6, h7⟩ := rs_parts a
      obtain ⟨r, hr⟩ : ∃ r, rs t a = r := ⟨_, rfl⟩
      have hr2 : (if (9 : Int) < t + d then 9 else t + d) = r := by
        rw [← hr, rs, h3, h4, h5]; split <;> omega
      have hrb := rs_bd a ht1 ht2
      rw [hr] at hrb
      obtain ⟨hr3, hr4⟩ := hrb
      have HO := Lib.hid (show (out ++ [r]).length = i + 1 ∧ risingL 1 l = (out ++ [r]) ++ risingL r (l.drop (i + 1)) from ⟨by simp [hout.out.1], by rw [hout.out.2, risingL_drop ha, hr]; simp⟩)
      have hown' := hown
      have HW := Lib.hid (And.intro hown hout.out.1)
      clear hown hown' hout ha hr
      go_wp2_with (at_builtin; refine wpList_append_own rfl (.tmp 23) (.tmp 25) 44 rfl 3 (.int .i64 0) 1 8 Try.underlying44 Try.info3 rfl (by decide) rfl (by rw [ints_length, HW.out.2, Nat.mul_one]) HW.out.1 ((Below.refl _ _).alloc (Nat.le_refl _) _) _ 1 1 [.int .i64 r] rfl rfl (rd_one _ _ _) (by simp [Value.oneCell']) (by unfold maxLen; omega) (by omega) ?_)
      rintro A5 c5 w5 o5
      have O5 := Lib.hid o5
      clear o5 HW k0 h3 h4 h4' h5 h5' hr2
      go_wp2
      go_roundw
      case rel => exact ⟨i + 1, r, out ++ [r], A5, c5, by omega, rfl, rfl, by go_num, by omega, by omega, HO, by rw [ints_append]; exact O5.out⟩
      case measure => simp [intOf]; omega
    · have i1 : ¬ (i : Int) < (l.length : Int) := by omega
      obtain rfl : i = l.length := by omega
      have HO := Lib.hid (show risingL 1 l = out by rw [hout.out.2, List.drop_length]; simp [risingL])
      have HW := Lib.hid hown
      clear hown hout
      go_wp2
      go_ret
      exact ⟨Ao, co, rfl, by rw [HO.out]; exact HW.out⟩
end

def bEnt (i : Nat) (t : Int) : E := ⟨t, (i : Int) + 1, 1, [UInt8.ofNat t.toNat]⟩
def bEnts (ts : List Int) : List E := ts.mapIdx bEnt
def bLog (ts : List Int) : Lg := ⟨0, 0, bEnts ts, 0, 0, 0, 0, 0⟩
theorem bEnts_length (ts : List Int) : (bEnts ts).length = ts.length := by simp [bEnts]
theorem bEnts_snoc (ts : List Int) (t : Int) : bEnts (ts ++ [t]) = bEnts ts ++ [bEnt ts.length t] := by simp [bEnts, List.mapIdx_append]
theorem bEnts_get {ts : List Int} {i : Nat} {t : Int} (h : ts[i]? = some t) : (bEnts ts)[i]? = some (bEnt i t) := by simp [bEnts, h]
theorem bLog_lastI (ts : List Int) : (bLog ts).lastI = (ts.length : Int) := by simp [Lg.lastI, bLog, bEnts_length]
theorem bLog_lastT {ts : List Int} {t : Int} (h : ts[ts.length - 1]? = some t) : (bLog ts).lastT = t := by
  rw [Lg.lastT_snoc (e := bEnt (ts.length - 1) t) _ (by show (bEnts ts)[(bEnts ts).length - 1]? = _; rw [bEnts_length]; exact bEnts_get h)]; rfl
theorem bLog_lastT_nil : (bLog []).lastT = 0 := rfl
theorem bLog_new : newL 0 0 0 [] = (some (bLog []), 0) := rfl
theorem bLog_nil_ok : (bLog []).Ok := (newL_isOk bLog_new).1
/-- Terms that do not fall, from 1 to 9. -/
def Rise (ts : List Int) : Prop := (∀ t, t ∈ ts → 1 ≤ t ∧ t ≤ 9) ∧ ts.Pairwise (· ≤ ·)
theorem bLog_append {ts : List Int} {t : Int} (hr : Rise (ts ++ [t])) (hl : ts.length < 10000) : (bLog ts).append t 1 [UInt8.ofNat t.toNat] = (((ts.length : Int) + 1, 0), bLog (ts ++ [t])) := by
  obtain ⟨h1, h2⟩ := hr.1 t (by simp)
  have hlt : ¬ (t < (bLog ts).lastT ∨ ¬ (1 ≤ t ∧ t ≤ maxI)) := by
    have h3 : (bLog ts).lastT ≤ t := by
      rcases List.eq_nil_or_concat ts with rfl | ⟨l, a, rfl⟩
      · rw [bLog_lastT_nil]; omega
      · rw [bLog_lastT (t := a) (by simp)]
        have := hr.2
        rw [List.pairwise_append] at this
        exact this.2.2 a (by simp) t (by simp)
    rw [maxI_eq]
    rintro (h | h)
    · omega
    · exact h ⟨h1, by omega⟩
  rw [append_ok (by rw [bLog_lastI, maxI_eq]; omega) (by show ¬ 10000 ≤ (bEnts ts).length; rw [bEnts_length]; omega) hlt ?_]
  · rw [bLog_lastI]
    show (_, ({ bLog ts with L := (bLog ts).L ++ [bEnt ts.length t] } : Lg)) = _
    rw [show (bLog ts).L = bEnts ts from rfl, ← bEnts_snoc]; rfl
  · rw [bLog_lastI]
    have hc := checkE_cases ⟨t, (ts.length : Int) + 1, 1, [UInt8.ofNat t.toNat]⟩
    rcases hc with ⟨h, _⟩ | ⟨_, h, _⟩ | ⟨_, _, h⟩
    · exact absurd h (by rw [withinB, decide_eq_true ⟨h1, by rw [maxI_eq]; show t ≤ 4611686018427387904; omega⟩]; decide)
    · exact absurd h (by rw [withinB, decide_eq_true ⟨by simp only; omega, by rw [maxI_eq]; simp only; omega⟩]; decide)
    · rcases h with ⟨_, h, _⟩ | ⟨_, ⟨h, _⟩ | ⟨_, ⟨h, _⟩ | ⟨_, h⟩⟩⟩
      · exact absurd rfl h
      · simp at h
      · simp at h
      · exact h
theorem byteV_of {n : Int} (h : 0 ≤ n ∧ n ≤ 255) : byteV (UInt8.ofNat n.toNat) = .int .u8 n := by
  have : ((UInt8.ofNat n.toNat).toNat : Int) = n := by
    rw [UInt8.toNat_ofNat']
    omega
  rw [byteV, this]
theorem reads_blk {S : Nat → Prop} {w0 : World} {R : List SP} {q : Nat} {b : List UInt8} : Reads S w0 (SP.blk q 5 (bts b).toArray :: R) (some ⟨q, 0, none⟩) b := fun W X hX j u hu =>
  ⟨q, 0, rfl, by rw [Nat.zero_add]; exact ((hX.perm List.perm_middle).blk_cell j).trans (by simpa using hu)⟩
theorem Rise.take {ts : List Int} (h : Rise ts) (i : Nat) : Rise (ts.take i) := ⟨fun t ht => h.1 t (List.mem_of_mem_take ht), h.2.sublist (List.take_sublist _ _)⟩

section
variable {S : Nat → Prop} {w0 w : World} {R : List SP}
set_option maxRecDepth 100000 in
set_option maxHeartbeats 3200000 in
theorem built_own {A : Option Addr} {c : Nat} {ts : List Int} (hn : ts.length < 10000) (hts : Rise ts) (h : Own S w0 w (SP.row 3 1 (.slice A ts.length c) (ints ts) :: R)) :
    Calls Try.prog 23 #[.slice A ts.length c] w fun e w' => ∃ g, e = .returned (.pointer (some ⟨g, 0, none⟩)) ∧ Own S w0 w' (SP.log 85 g (bLog ts) :: SP.row 3 1 (.slice A ts.length c) (ints ts) :: R) := by
  have hN := new_own (A := none) (c := 0) (es := []) (by decide) (by simp) h EReads.nil 0 0 0
  rw [bLog_new] at hN
  have HN := Lib.hid hN
  have HT := Lib.hid hts
  clear h hN hts
  go_enter Try.func23, Try.ntmps23
  go_wp2_with fail
  refine (HN.out).mono ?_
  rintro e w1 ⟨g, rfl, o1⟩
  have O1 := Lib.hid o1
  clear o1 HN
  go_wp2
  go_loopw [5] (fun ti wr => ∃ i : Nat, i ≤ ts.length ∧ ti = .int .i64 i ∧ Hid (bLog (ts.take i)).Ok ∧ Own S w0 wr (SP.log 85 g (bLog (ts.take i)) :: SP.row 3 1 (.slice A ts.length c) (ints ts) :: R)) (fun ti _ => ts.length - (intOf ti).toNat)
  case atStart => exact ⟨0, Nat.zero_le _, rfl, bLog_nil_ok, O1.out⟩
  case round =>
    obtain ⟨i, hi, rfl, hok, hown⟩ := hrel
    clear O1
    by_cases hin : i < ts.length
    · have i1 : (i : Int) < (ts.length : Int) := by omega
      obtain ⟨t, ht⟩ : ∃ t, ts[i]? = some t := ⟨_, List.getElem?_eq_getElem hin⟩
      obtain ⟨b, off, rfl, k0, -⟩ := (hown.swap).cell (ints_get ht)
      obtain ⟨ht1, ht2⟩ := HT.out.1 t (List.mem_of_getElem? ht)
      have htk : ts.take (i + 1) = ts.take i ++ [t] := by rw [List.take_add_one, ht]; rfl
      have hap := bLog_append (ts := ts.take i) (t := t) (by rw [← htk]; exact HT.out.take _) (by rw [List.length_take]; omega)
      rw [← htk] at hap
      have hokn := append_isOk hok.out t 1 [UInt8.ofNat t.toNat]
      rw [hap] at hokn
      have HOK := Lib.hid hokn
      obtain ⟨q, hq⟩ : ∃ q, wr.heap.size = q := ⟨_, rfl⟩
      have HQ := Lib.hid hq
      have o2 := (hown.drew.alloc (bts [UInt8.ofNat t.toNat]).toArray 5)
      rw [show wr.drew.heap.size = wr.heap.size from rfl, hq] at o2
      have hA := append_own (cb := 1) (d := [UInt8.ofNat t.toNat]) hok.out (o2.pick (L := [_, _]) [1, 0]) reads_blk (Nat.le_refl _) (by unfold maxLen; omega) (by simp) t 1
      rw [hap, show (bts [UInt8.ofNat t.toNat]).toArray = #[.int .u8 t] by simp [bts, byteV_of (n := t) (by omega)]] at hA
      have HA := Lib.hid hA
      have hc8 : IntKind.u8.wrap t = t := by rw [IntKind.wrap_u8']; omega
      have HK := Lib.hid (And.intro ht htk)
      have lb := hown.swap.row_lt
      clear hown o2 hA hap hokn hok ht htk hq
      go_upto_region 5 with (fail)
      go_region_held3 (fun W => W.cell? ⟨b, off + i, none⟩ = some (.int .i64 t))
        (first | go_keep | exact k0 | exact k1)
        (first
          | (refine step_call rfl 16 _ _ rfl Try.func16 (by kernel_rfl) (by kernel_rfl) #[.pointer (some ⟨g, 0, none⟩), .int .i64 t, .int .i64 1, .slice (some ⟨q, 0, none⟩) 1 1] (by simp [Act.eval, HQ.out]) ?_
             refine (HA.out).mono ?_
             rintro e w5 ⟨rfl, o5⟩
             refine ⟨_, rfl, ?_⟩
             obtain ⟨_, _, z1, k1', -⟩ := (o5.pick (L := [_, _, _]) [2]).cell (ints_get HK.out.1)
             cases z1
             have k1 : w5.cell? ⟨b, off + i, none⟩ = some (.int .i64 t) := k1'
             have O5 := Lib.hid (o5.pick (L := [_, _]) [0])
             clear o5 k1'))
      go_wp2
      go_roundw
      case rel => exact ⟨i + 1, by omega, by go_num, HOK.out, O5.out⟩
      case measure => simp [intOf]; omega
    · have i1 : ¬ (i : Int) < (ts.length : Int) := by omega
      obtain rfl : i = ts.length := by omega
      rw [List.take_length] at hown
      have HO := Lib.hid hown
      clear hown hok
      go_wp2
      go_ret
      exact ⟨g, rfl, HO.out⟩
end
end Go.Proofs.Ytepnkhiclgjmpaa

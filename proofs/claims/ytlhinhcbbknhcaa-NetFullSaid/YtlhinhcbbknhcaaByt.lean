/-
  Bytes as values; SameBytes, Bytes, Lent, Kept.
  Conditions: none beyond each theorem's own.
-/
import Derived.Test.YtlhinhcbbknhcaaPick
import Derived.Test.YtlhinhcbbknhcaaMat
import Derived.Test.YtlhinhcbbknhcaaProg
import Derived.Laws.BitsAllLaws
import Derived.WalkKit
import Derived.LoopTactic
import Derived.StillTactics
import Derived.Deep.QuietTactic
import Derived.BigQuiet
import Derived.Deep.RegionHeld3
import Derived.IntWalk
namespace Go.Proofs.Ytlhinhcbbknhcaa
set_option linter.unusedVariables false
set_option linter.unusedSimpArgs false
open Go.RowKit

def byteV (c : UInt8) : Value := .int .u8 (c.toNat : Int)
def bts (b : List UInt8) : List Value := b.map byteV
theorem bts_length (b : List UInt8) : (bts b).length = b.length := by simp [bts]
theorem bts_one {b : List UInt8} : ∀ u ∈ bts b, u.oneCell' = true := by
  intro u hu
  simp only [bts, List.mem_map] at hu
  obtain ⟨x, _, rfl⟩ := hu
  rfl
theorem bts_get {b : List UInt8} {i : Nat} {x : UInt8} (h : b[i]? = some x) : (bts b)[i]? = some (byteV x) := by simp [bts, h]
theorem bts_append (a b : List UInt8) : bts (a ++ b) = bts a ++ bts b := by simp [bts]
theorem bts_take (b : List UInt8) (n : Nat) : bts (b.take n) = (bts b).take n := by simp [bts, List.map_take]
theorem bts_drop (b : List UInt8) (n : Nat) : bts (b.drop n) = (bts b).drop n := by simp [bts, List.map_drop]

theorem byte_lt (c : UInt8) : c.toNat < 256 := c.toNat_lt
theorem Try.info5 : (Try.prog.info? 5).map (fun i => (i.zero, i.size, i.bytes)) = some (some (.int .u8 0), 1, 1) := by kernel_rfl

/-- What can be read, whatever is done to what is owned. -/
def Reads (S : Nat → Prop) (w0 : World) (R : List SP) (B : Option Addr) (b : List UInt8) : Prop := ∀ W X, Own S w0 W (X ++ R) → Rd W B (bts b)
theorem Reads.row {S : Nat → Prop} {w0 : World} {R : List SP} {A : Option Addr} {n c : Nat} {b : List UInt8} : Reads S w0 (SP.row 5 1 (.slice A n c) (bts b) :: R) A b := fun W X hX => (hX.perm List.perm_middle).rd
theorem Reads.more {S : Nat → Prop} {w0 : World} {R : List SP} {A : Option Addr} {b : List UInt8} (h : Reads S w0 R A b) (Y : List SP) : Reads S w0 (Y ++ R) A b := fun W X hX => h W (X ++ Y) (by rw [List.append_assoc]; exact hX)
def AgreeTo (xs ys : List UInt8) (i : Nat) : Prop := ∀ j, j < i → xs[j]? = ys[j]?
theorem agree_all {xs ys : List UInt8} (h : AgreeTo xs ys xs.length) (hl : xs.length = ys.length) : xs = ys := by
  apply List.ext_getElem?
  intro j
  rcases Nat.lt_or_ge j xs.length with h1 | h1
  · exact h j h1
  · rw [List.getElem?_eq_none h1, List.getElem?_eq_none (by omega)]

set_option maxHeartbeats 800000 in
theorem samebytes_calls (w : World) (A B : Option Addr) (ca cb : Nat) (xs ys : List UInt8) (hx : Rd w A (bts xs)) (hy : Rd w B (bts ys)) (hl : xs.length ≤ 140737488351232) :
    Calls Try.prog 14 #[.slice A xs.length ca, .slice B ys.length cb] w fun e w' => e = .returned (.bool (decide (xs = ys))) ∧ ∃ d, w' = w.drewN d := by
  by_cases hlen : xs.length = ys.length
  · have hn : ((xs.length : Int) != (ys.length : Int)) = false := by simp; omega
    have H := Lib.hid (And.intro hx (And.intro hy hlen))
    have hly : ys.length ≤ 140737488351232 := by omega
    clear hx hy hlen
    go_enter Try.func14, Try.ntmps14
    go_wp2
    go_loopw [5] (fun t wr => ∃ i d : Nat, i ≤ xs.length ∧ t = .int .i64 i ∧ wr = w.drewN d ∧ AgreeTo xs ys i) (fun t _ => xs.length - (intOf t).toNat)
    case atStart => exact ⟨0, 0, Nat.zero_le _, rfl, rfl, fun j h => by omega⟩
    case round =>
      obtain ⟨i, d, hi, rfl, rfl, hag⟩ := hrel
      by_cases hin : i < xs.length
      · have hin2 : i < ys.length := by have := H.out.2.2; omega
        obtain ⟨x, hxi⟩ : ∃ x, xs[i]? = some x := ⟨_, List.getElem?_eq_getElem hin⟩
        obtain ⟨y, hyi⟩ : ∃ y, ys[i]? = some y := ⟨_, List.getElem?_eq_getElem hin2⟩
        obtain ⟨b1, o1, rfl, hc1⟩ := H.out.1 i _ (bts_get hxi)
        obtain ⟨b2, o2, rfl, hc2⟩ := H.out.2.1 i _ (bts_get hyi)
        unfold byteV at hc1 hc2
        have i0 : (0 : Int) ≤ (i : Int) := by omega
        have i1 : (i : Int) < (xs.length : Int) := by omega
        have i2 : (i : Int) < (ys.length : Int) := by omega
        by_cases hxy : x = y
        · have hne : ((x.toNat : Int) != (y.toNat : Int)) = false := by simp [hxy]
          have HX := Lib.hid (And.intro hxi (And.intro hyi hxy))
          clear hxi hyi hxy
          go_wp2
          go_quiet (fail)
          go_wp2
          go_roundw
          case rel =>
            refine ⟨i + 1, _, by omega, by go_num, rfl, fun j hj => ?_⟩
            rcases Nat.lt_or_ge j i with h | h
            · exact hag j h
            · obtain rfl : j = i := by omega
              rw [HX.out.1, HX.out.2.1, HX.out.2.2]
          case measure => simp [intOf]; omega
        · have hne : ((x.toNat : Int) != (y.toNat : Int)) = true := by
            have : x.toNat ≠ y.toNat := fun h => hxy (UInt8.toNat_inj.1 h)
            simp; omega
          have HD : decide (xs = ys) = false := by
            simp only [decide_eq_false_iff_not]
            rintro rfl
            rw [hxi] at hyi
            injection hyi with hyi
            exact hxy hyi
          clear hxi hyi hxy hag
          have HD' := Lib.hid HD
          clear HD
          go_wp2
          go_quiet (fail)
          go_wp2
          go_ret
          exact ⟨by rw [HD'.out]; rfl, _, by rw [World.drewN_drewN]⟩
      · obtain rfl : i = xs.length := by omega
        have HD : decide (xs = ys) = true := by simpa using agree_all hag H.out.2.2
        clear hag
        have HD' := Lib.hid HD
        clear HD
        go_wp2
        go_ret
        exact ⟨by rw [HD'.out]; rfl, _, rfl⟩
  · have hn : ((xs.length : Int) != (ys.length : Int)) = true := by simp; omega
    have HD : decide (xs = ys) = false := by
      simp only [decide_eq_false_iff_not]
      rintro rfl
      exact hlen rfl
    rw [HD]
    clear HD hlen hx hy
    go_enter Try.func14, Try.ntmps14
    go_wp2
    go_ret
    exact ⟨rfl, 0, rfl⟩

theorem Own.empty {S : Nat → Prop} {w0 w : World} {L : List SP} (h : Own S w0 w L) (e : TypeId) : Own S w0 (w.alloc (.cells #[] e)) (SP.row e 1 (.slice (some ⟨w.heap.size, 0, none⟩) 0 0) [] :: L) :=
  h.gain ((Below.refl _ _).alloc (Nat.le_refl _) _) ((SP.row e 1 _ _).mono (row_empty_at (heap_alloc_new w _)) (fun k hk => by subst hk; simp))

set_option maxHeartbeats 1600000 in
theorem bytes_own {S : Nat → Prop} {w0 w : World} {R : List SP} {B : Option Addr} {cb : Nat} {b : List UInt8} (h : Own S w0 w R) (hb : Reads S w0 R B b) (hbl : b.length ≤ 140737488351232) :
    Calls Try.prog 20 #[.slice B b.length cb] w fun e w' => ∃ A' c', e = .returned (.slice A' b.length c') ∧ Own S w0 w' (SP.row 5 1 (.slice A' b.length c') (bts b) :: R) := by
  have he := h.empty 5
  obtain ⟨T, hr, -, hback⟩ := he.open
  have G := Lib.hid (And.intro hr (And.intro hback (hb _ [_] he)))
  clear h hb he hr hback
  go_enter Try.func20, Try.ntmps20
  go_wp2_with (at_builtin; refine wpList_append_row rfl (.tmp 3) (.tmp 4) 27 rfl 5 (.int .u8 0) 1 1 Try.underlying27 Try.info5 rfl (by decide) rfl rfl G.out.1 B b.length cb (bts b) rfl (by rw [bts_length, Nat.mul_one]) G.out.2.2 bts_one (by unfold maxLen; omega) (by omega) ?_)
  rintro A3 c3 w3 - hk3 hr3
  have O3 := Lib.hid (G.out.2.1 _ _ hk3 hr3)
  clear hk3 hr3
  go_wp2
  go_ret
  refine ⟨A3, c3, ?_, ?_⟩
  · simp
  · have := O3.out
    simpa using this

set_option maxHeartbeats 1600000 in
theorem lent_own {S : Nat → Prop} {w0 w : World} {R : List SP} {B : Option Addr} {cb : Nat} {b : List UInt8} (h : Own S w0 w R) (hb : Reads S w0 R B b) (hbl : b.length ≤ 140737488351232) :
    Calls Try.prog 32 #[.slice B b.length cb] w fun e w' => ∃ A' c', e = .returned (.slice A' b.length c') ∧ b.length + 1 ≤ c' ∧ c' ≤ maxLen ∧ Own S w0 w' (SP.row 5 1 (.slice A' (b.length + 1) c') (bts (b ++ [201])) :: R) := by
  have HB := Lib.hid (bytes_own (cb := cb) h hb (by omega))
  clear h hb
  go_enter Try.func32, Try.ntmps32
  go_wp2_with fail
  refine (HB.out).mono ?_
  rintro e w1 ⟨A1, c1, rfl, own1⟩
  obtain ⟨T, hr, hback⟩ := own1.grow1 #[.int .u8 201] 5
  have G := Lib.hid (And.intro hr hback)
  clear own1 hr hback
  go_wp2_with (at_builtin; refine wpList_append_row rfl (.tmp 5) (.tmp 6) 27 rfl 5 (.int .u8 0) 1 1 Try.underlying27 Try.info5 rfl (by decide) rfl (by rw [bts_length, Nat.mul_one]) G.out.1 _ 1 1 [.int .u8 201] rfl rfl (rd_one _ _ _) (by simp [Value.oneCell']) (by unfold maxLen; omega) (by omega) ?_)
  rintro A3 c3 w3 - hk3 hr3
  have hO := G.out.2 _ _ hk3 hr3
  have hle := hO.row_le (by decide) (by simp [bts_length])
  have O3 := Lib.hid hO
  obtain ⟨hl1, hl2⟩ := hle
  have HM := Lib.hid hl2
  unfold maxLen at hl2
  clear hk3 hr3 hO
  go_wp2
  go_ret
  refine ⟨A3, c3, rfl, hl1, HM.out, ?_⟩
  rw [bts_append]
  exact O3.out

theorem Rd.front {w : World} {A : Option Addr} {xs ys : List Value} (h : Rd w A (xs ++ ys)) : Rd w A xs := fun j u hu => h j u (by rw [List.getElem?_append_left (List.getElem?_eq_some_iff.1 hu).1]; exact hu)

set_option maxHeartbeats 1600000 in
theorem kept_true {w : World} {A B : Option Addr} {c cb : Nat} {b : List UInt8} (hA : Rd w A (bts (b ++ [201]))) (hB : Rd w B (bts b)) (hbl : b.length ≤ 140737488351232) (hc : b.length + 1 ≤ c) (hc2 : c ≤ 9223372036854775807) :
    Calls Try.prog 33 #[.slice A b.length c, .slice B b.length cb] w fun e w' => e = .returned (.bool true) ∧ ∃ d, w' = w.drewN d := by
  have hA2 : Rd w A (bts b) := by rw [bts_append] at hA; exact hA.front
  have hS := samebytes_calls w A B c cb b b hA2 hB (by omega)
  rw [show decide (b = b) = true by simp] at hS
  have HS := Lib.hid hS
  obtain ⟨g, off, rfl, hcell⟩ := hA b.length (.int .u8 201) (by simp [bts, byteV])
  clear hA hB hA2 hS
  go_enter Try.func33, Try.ntmps33
  go_wp2_with fail
  refine (HS.out).mono ?_
  rintro e w' ⟨rfl, d, rfl⟩
  go_wp2
  go_ret
  exact ⟨rfl, _, rfl⟩
theorem reads_arg {w : World} {R : List SP} {A : Option Addr} {b : List UInt8} (h : Rd w A (bts b)) : Reads (fun _ => False) w R A b := fun W X hX => h.below hX.below
theorem reads_front {S : Nat → Prop} {w0 : World} {R : List SP} {A : Option Addr} {n c : Nat} {b d : List UInt8} : Reads S w0 (SP.row 5 1 (.slice A n c) (bts (b ++ d)) :: R) A b := fun W X hX => by
  have h : Rd W A (bts (b ++ d)) := (hX.perm List.perm_middle).rd
  rw [bts_append] at h
  exact h.front


section
variable {S : Nat → Prop} {w0 w : World} {R : List SP} {B : Option Addr} {cb : Nat} {b : List UInt8}
theorem Own.nil_row (h : Own S w0 w R) : Own S w0 w (SP.row 5 1 (.slice none 0 0) (bts []) :: R) := h.add (SP.row_nil _ _ _ _)

theorem samebytes_own {L : List SP} {A B : Option Addr} {ca cb : Nat} (xs ys : List UInt8) (h : Own S w0 w L) (hx : Rd w A (bts xs)) (hy : Rd w B (bts ys)) (hl : xs.length ≤ 140737488351232) :
    Calls Try.prog 14 #[.slice A xs.length ca, .slice B ys.length cb] w fun e w' => e = .returned (.bool (decide (xs = ys))) ∧ Own S w0 w' L :=
  (samebytes_calls w A B ca cb xs ys hx hy hl).mono fun e w' ⟨he, d, hw⟩ => ⟨he, by subst hw; exact Own.drewN h d⟩
theorem same_own {L : List SP} {A B : Option Addr} {ca cb : Nat} {xs : List UInt8} (h : Own S w0 w L) (hx : Rd w A (bts xs)) (hy : Rd w B (bts xs)) (hl : xs.length ≤ 140737488351232) :
    Calls Try.prog 14 #[.slice A xs.length ca, .slice B xs.length cb] w fun e w' => e = .returned (.bool true) ∧ Own S w0 w' L := by
  have := samebytes_own (ca := ca) (cb := cb) xs xs h hx hy hl
  simpa only [decide_true] using this
theorem kept_own {L : List SP} {A B : Option Addr} {c cb : Nat} {b : List UInt8} (h : Own S w0 w L) (hA : Rd w A (bts (b ++ [201]))) (hB : Rd w B (bts b)) (hbl : b.length ≤ 140737488351232) (hc : b.length + 1 ≤ c) (hc2 : c ≤ maxLen) :
    Calls Try.prog 33 #[.slice A b.length c, .slice B b.length cb] w fun e w' => e = .returned (.bool true) ∧ Own S w0 w' L :=
  (kept_true hA hB hbl hc (by unfold maxLen at hc2; exact hc2)).mono fun e w' ⟨he, d, hw⟩ => ⟨he, by subst hw; exact Own.drewN h d⟩
end
end Go.Proofs.Ytlhinhcbbknhcaa

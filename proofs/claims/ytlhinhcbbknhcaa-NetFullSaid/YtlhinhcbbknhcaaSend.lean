/-
  Linked, Len, there over a network that is owned; Send.
  Conditions: none beyond each theorem's own.
-/
import Derived.Test.YtlhinhcbbknhcaaAdd
import Derived.WalkSpells
namespace Go.Proofs.Ytlhinhcbbknhcaa
set_option linter.unusedVariables false
set_option linter.unusedSimpArgs false
open Go.RowKit

section
variable {S : Nat → Prop} {w0 w : World} {R : List SP} {g : Nat} {nodes last : Int} {cut : List Bool} {L : List M}

theorem linked_own (hn : nodes ≤ 7) (h : Own S w0 w (SP.net g nodes cut last L :: R)) (a b : Int) :
    Calls Try.prog 10 #[.pointer (some ⟨g, 0, none⟩), .int .i64 a, .int .i64 b] w fun e w' => e = .returned (.bool (linkedB nodes cut a b)) ∧ w = w' := by
  obtain ⟨v, hcut, hown⟩ := h.net_open
  exact linked_calls w g nodes a b cut hn hcut ((hown.blk_cell 0).trans (netList_nodes _ _ _ _)) fun i x hx => (hown.blk_cell (1 + i)).trans (netList_cut hx)

theorem len_own (h : Own S w0 w (SP.net g nodes cut last L :: R)) :
    Calls Try.prog 15 #[.pointer (some ⟨g, 0, none⟩)] w fun e w' => e = .returned (.int .i64 (L.length : Nat)) ∧ w = w' := by
  obtain ⟨v, hcut, hown⟩ := h.net_open
  obtain ⟨A, c, ds, rfl, -⟩ := hown.swap.mails_open
  exact len_calls w g L.length c A ((hown.blk_cell 65).trans (netList_row hcut))

theorem there_own (h : Own S w0 w (SP.net g nodes cut last L :: R)) (i : Int) :
    Calls Try.prog 30 #[.pointer (some ⟨g, 0, none⟩), .int .i64 i] w fun e w' => e = .returned (.bool (thereB i L.length)) ∧ w = w' := by
  obtain ⟨v, hcut, hown⟩ := h.net_open
  obtain ⟨A, c, ds, rfl, -⟩ := hown.swap.mails_open
  exact there_calls w g L.length c A i ((hown.blk_cell 65).trans (netList_row hcut))

def sendB (nodes : Int) (cut : List Bool) (L : List M) (a b : Int) : Bool := linkedB nodes cut a b && decide (L.length < 2000)
def addLast (ok : Bool) (last : Int) : Int := if ok then last + 1 else last
def addRow (ok : Bool) (last : Int) (L : List M) (a b : Int) (dat : List UInt8) (sp : Bool) : List M := if ok then L ++ [⟨last + 1, a, b, dat, sp⟩] else L

theorem add_open {A B : Option Addr} {c cb : Nat} {frm to : Int} {dat : List UInt8} {sp : Bool} {num : Int} {ds : List Value} (hl1 : 0 ≤ last) (hl2 : last ≤ 1000000000) (hdl : dat.length ≤ 140737488351232) (hcut : cut.length = 64) (hds : ds.length = L.length)
    (h : Own S w0 w (SP.blk g 57 (netList nodes cut (.slice A L.length c) last).toArray :: SP.row 34 5 (.slice A L.length c) (mrow L ds) :: SP.stars (mdata L ds) :: R)) (hb : Reads S w0 (SP.stars (mdata L ds) :: R) B dat) :
    Calls Try.prog 29 #[.pointer (some ⟨g, 0, none⟩), .agg #[.int .i64 num, .int .i64 frm, .int .i64 to, .slice B dat.length cb, .bool sp]] w fun e w' => e = .returned (.bool (decide (L.length < 2000))) ∧ Own S w0 w' (SP.net g nodes cut (addLast (decide (L.length < 2000)) last) (addRow (decide (L.length < 2000)) last L frm to dat sp) :: R) := by
  by_cases h1 : L.length < 2000
  · have := add_yes (R := R) (num := num) (frm := frm) (to := to) (cb := cb) (sp := sp) hcut hds rfl h1 hl1 hl2 hdl h hb
    simpa only [addLast, addRow, h1, decide_true, if_true] using this
  · have := add_no (R := R) (B := B) (cb := cb) (m := dat.length) (num := num) (frm := frm) (to := to) (sp := sp) h1 (Own.net_shut hcut (Own.mails_shut hds (h.pick (L := [_, _, _]) [1, 2, 0])).swap)
    simpa only [addLast, addRow, h1, decide_false, Bool.false_eq_true, if_false] using this

theorem add_own {B : Option Addr} {cb : Nat} {frm to : Int} {dat : List UInt8} {sp : Bool} {num : Int} (hl1 : 0 ≤ last) (hl2 : last ≤ 1000000000) (hdl : dat.length ≤ 140737488351232)
    (h : Own S w0 w (SP.net g nodes cut last L :: R)) (hb : Reads S w0 R B dat) :
    Calls Try.prog 29 #[.pointer (some ⟨g, 0, none⟩), .agg #[.int .i64 num, .int .i64 frm, .int .i64 to, .slice B dat.length cb, .bool sp]] w fun e w' => e = .returned (.bool (decide (L.length < 2000))) ∧ Own S w0 w' (SP.net g nodes cut (addLast (decide (L.length < 2000)) last) (addRow (decide (L.length < 2000)) last L frm to dat sp) :: R) := by
  obtain ⟨v, hcut, hown⟩ := h.net_open
  obtain ⟨A, c, ds, rfl, hds, -, -, h2⟩ := hown.swap.mails_open
  exact add_open hl1 hl2 hdl hcut hds (h2.pick (L := [_, _, _]) [2, 0, 1]) (Reads.more hb [_])

set_option maxHeartbeats 800000 in
theorem send_own {B : Option Addr} {cb : Nat} {a b : Int} {dat : List UInt8} (hn : nodes ≤ 7) (hl1 : 0 ≤ last) (hl2 : last ≤ 1000000000) (hdl : dat.length ≤ 140737488351232)
    (h : Own S w0 w (SP.net g nodes cut last L :: R)) (hb : Reads S w0 R B dat) :
    Calls Try.prog 11 #[.pointer (some ⟨g, 0, none⟩), .int .i64 a, .int .i64 b, .slice B dat.length cb] w fun e w' => e = .returned (.bool (sendB nodes cut L a b)) ∧ Own S w0 w' (SP.net g nodes cut (addLast (sendB nodes cut L a b) last) (addRow (sendB nodes cut L a b) last L a b dat false) :: R) := by
  have HL := Lib.hid (linked_own hn h a b)
  have HA := Lib.hid (add_own (frm := a) (to := b) (cb := cb) (sp := false) (num := 0) hl1 hl2 hdl h hb)
  obtain ⟨n, hk⟩ : ∃ n, dat.length = n := ⟨_, rfl⟩
  by_cases hl : linkedB nodes cut a b = true
  · rw [show sendB nodes cut L a b = decide (L.length < 2000) by rw [sendB, hl]; rfl]
    rw [hl] at HL
    clear hl h hb
    rw [hk] at HA ⊢
    clear hk
    go_enter Try.func11, Try.ntmps11
    go_wp2_with fail
    refine (HL.out).mono ?_
    rintro e w1 ⟨rfl, rfl⟩
    go_wp2_with fail
    refine (HA.out).mono ?_
    rintro e w2 ⟨rfl, o2⟩
    have O2 := Lib.hid o2
    clear o2
    go_wp2
    go_ret
    exact ⟨rfl, O2.out⟩
  · rw [Bool.not_eq_true] at hl
    rw [show sendB nodes cut L a b = false by rw [sendB, hl]; rfl]
    rw [hl] at HL
    have H := Lib.hid h
    clear hl h hb HA
    go_enter Try.func11, Try.ntmps11
    go_wp2_with fail
    refine (HL.out).mono ?_
    rintro e w1 ⟨rfl, rfl⟩
    go_wp2
    go_ret
    exact ⟨rfl, H.out⟩
end
end Go.Proofs.Ytlhinhcbbknhcaa

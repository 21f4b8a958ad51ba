/-
  slices.Insert of one mail into a row that has room.
  Conditions: none beyond each theorem's own.
-/
import Derived.Test.YtlhinhcbbknhcaaCopyRun
import Derived.Test.YtlhinhcbbknhcaaTake
import Derived.Lib.Overlaps
import Derived.Deep.RegionLaw
namespace Go.Proofs.Ytlhinhcbbknhcaa
set_option linter.unusedVariables false
set_option linter.unusedSimpArgs false
open Go.RowKit

section
variable {S : Nat → Prop} {w0 w : World} {R : List SP}

theorem sizeOf34 : ∀ w, (Go.sizeOf 34).run Try.prog w = .ok 5 w := fun w => by kernel_rfl

set_option maxHeartbeats 4000000 in
set_option maxRecDepth 100000 in
theorem insert_mid {b off n c vb vc i : Nat} {xs news : List Value} (hi : i < n) (hn : xs.length = n * 5) (hroom : n + 1 ≤ c) (hnl : news.length = 5) (hbig : n ≤ 1000000) (h1x : ∀ u ∈ xs, u.oneCell' = true) (h1n : ∀ u ∈ news, u.oneCell' = true)
    (h : Own S w0 w (SP.row 34 5 (.slice (some ⟨b, off, none⟩) n c) xs :: SP.blk vb 34 news.toArray :: R)) :
    Calls Try.prog 43 #[.slice (some ⟨b, off, none⟩) n c, .int .i64 i, .slice (some ⟨vb, 0, none⟩) 1 vc] w fun e w' =>
      e = .returned (.slice (some ⟨b, off, none⟩) (n + 1) c) ∧ Own S w0 w' (SP.row 34 5 (.slice (some ⟨b, off, none⟩) (n + 1) c) (xs.take (i * 5) ++ news ++ xs.drop (i * 5)) :: R) := by
  have hcm := (h.row_le (by decide) hn).2
  unfold maxLen at hcm
  obtain ⟨ys, hyl, hw⟩ := h.widen hroom
  have hvb := h.row_apart
  have hsa := h.swap.blk_shape
  obtain ⟨kB, hsb, hkB, hfr⟩ := h.row_block
  have hov : ∀ lb cb, (callFunc 49 #[.slice (some ⟨vb, 0, none⟩) 1 vc, .slice (some ⟨b, off + (i + 1) * 5, none⟩) lb cb]).run Try.prog w = .ok (.value (.bool false)) w := fun lb cb => by
    rw [run_callFunc_extern Try.func49 (by kernel_rfl) (by kernel_rfl) (by kernel_rfl) (e := Extern.SlicesOverlaps.overlaps #[43, 43] #[4]) (by kernel_rfl),
      Lib.run_overlaps_apart w 43 4 34 Try.underlying43 5 sizeOf34 ⟨vb, 0, none⟩ ⟨b, off + (i + 1) * 5, none⟩ 1 vc lb cb hvb 34 34 _ kB hsa hsb (by omega) (h.swap.blk_free 0) (h.swap.blk_free _)]
    rfl
  have hXl : (xs ++ ys).length = n * 5 + 5 := by rw [List.length_append, hn, hyl]
  have hcell : ∀ j, j < n * 5 + 5 → (w.cell? ⟨b, off + j, none⟩).isSome = true := fun j hj => by
    obtain ⟨_, _, e1, h2, _⟩ := hw.cell (j := j) (List.getElem?_eq_getElem (by omega))
    cases e1
    rw [h2]; rfl
  have hcs : ∀ j v, xs[j]? = some v → w.cell? ⟨b, off + j, none⟩ = some v := fun j v hj => by
    obtain ⟨_, _, e1, h2, _⟩ := h.cell hj
    cases e1
    exact h2
  have hdl : (xs.drop (i * 5)).length = (n - i) * 5 := by rw [List.length_drop, hn]; omega
  have hsz : (Try.prog.info? 34).map (·.size) = some 5 := by kernel_rfl
  have hcp1 : ∀ ty dc sc, (Builtin.copy_ #[43, 43] ty #[.slice (some ⟨b, off + (i + 1) * 5, none⟩) (n - i) dc, .slice (some ⟨b, off + i * 5, none⟩) (n + 1 - i) sc]).run Try.prog w.drew = .ok (goInt (Nat.min (n + 1 - i) (n - i))) (w.drew.setCells b (off + (i + 1) * 5) (xs.drop (i * 5))) := fun ty dc sc =>
    run_copy_any w.drew _ _ ty 34 5 b (off + (i + 1) * 5) (n - i) dc ⟨b, off + i * 5, none⟩ (n + 1 - i) sc (xs.drop (i * 5)) Try.underlying43 hsz (by rw [hdl]; simp only [Nat.min_def]; split <;> omega)
      (fun j v hj => by rw [Addr.add_lit, Nat.add_assoc]; exact hcs (i * 5 + j) v (by rwa [List.getElem?_drop] at hj))
      (fun j hj => by rw [Nat.add_assoc]; exact hcell _ (by omega)) (fun j hj => hfr _) (fun v hv => h1x v (List.mem_of_mem_drop hv))
  have O1 := Own.setCells (xs.drop (i * 5)) ((i + 1) * 5) (xs ++ ys) w.drew (by rw [hdl, hXl]; omega) hw.drew
  have O2 := Own.setCells news (i * 5) _ _ (by rw [hnl]; simp only [List.length_append, List.length_take, List.length_drop, hn, hyl]; omega) O1
  rw [shift_list xs ys news i n 5 hn (by omega) hnl hi] at O2
  have O3 := Lib.hid (O2.pick (L := [_, _]) [0])
  obtain ⟨W1, hW1⟩ : ∃ W1, W1 = w.drew.setCells b (off + (i + 1) * 5) (xs.drop (i * 5)) := ⟨_, rfl⟩
  have hblk := O1.swap
  rw [← hW1] at hblk O3
  have hnews : ∀ j v, news[j]? = some v → W1.cell? ⟨vb, j, none⟩ = some v := fun j v hj => (hblk.blk_cell j).trans (by simpa using hj)
  have hcell1 : ∀ j, j < 5 → (W1.cell? ⟨b, off + i * 5 + j, none⟩).isSome = true := fun j hj => by
    rw [hW1, Nat.add_assoc]
    exact isSome_setCells b _ _ _ (fun k hk => by rw [Nat.add_assoc]; exact hcell _ (by omega)) _ (hcell _ (by omega))
  have hcp2 : ∀ ty dc, (Builtin.copy_ #[43, 43] ty #[.slice (some ⟨b, off + i * 5, none⟩) (n + 1 - i) dc, .slice (some ⟨vb, 0, none⟩) 1 vc]).run Try.prog W1 = .ok (goInt (Nat.min 1 (n + 1 - i))) (W1.setCells b (off + i * 5) news) := fun ty dc =>
    run_copy_any W1 _ _ ty 34 5 b (off + i * 5) (n + 1 - i) dc ⟨vb, 0, none⟩ 1 vc news Try.underlying43 hsz (by rw [hnl]; simp only [Nat.min_def]; split <;> omega)
      (fun j v hj => by rw [Addr.add_lit, Nat.zero_add]; exact hnews j v hj)
      (fun j hj => hcell1 j (by omega)) (fun j hj => by rw [hW1, World.frozen?_setCells]; exact hfr _) h1n
  rw [← hW1] at hcp1
  have hW := Lib.hid hW1
  clear hblk O1 O2 hw h hsa hsb hnews hcell1 hXl hcell hcs hdl hn hnl hyl hvb hfr h1x h1n hW1
  have hz2 : ¬ ((i : Int) = (n : Int)) := by omega
  have hw1 : IntKind.i64.wrap ((i : Int) + 1) = (i : Int) + 1 := by rw [IntKind.wrap_i64]; omega
  have hb1 : (0 : Int) ≤ (i : Int) + 1 := by omega
  have hin : i ≤ n := by omega
  have htn : ((i : Int) + 1).toNat = i + 1 := by omega
  have hb2 : ¬ (c = i + 1) := by omega
  have hb3 : (i : Int) ≤ (n : Int) + 1 := by omega
  have hb4 : ¬ (c = i) := by omega
  go_enter Try.func43, Try.ntmps43
  go_wp2_with (simp only [hov])
  go_region_law (refine step_copy_run rfl _ _ 43 43 rfl _ _ (by simp [Act.eval, Act.put]) (by simp [Act.eval, Act.put]) (hcp1 _ _ _) ?_)
  go_wp2_with (at_builtin; refine wpList_copy_run _ rfl _ _ 43 43 rfl _ _ rfl rfl (hcp2 _ _) ?_)
  go_ret
  exact ⟨rfl, O3.out⟩

set_option maxHeartbeats 4000000 in
set_option maxRecDepth 100000 in
theorem insert_end {b off n c vb vc : Nat} {xs news : List Value} (hn : xs.length = n * 5) (hroom : n + 1 ≤ c) (hnl : news.length = 5) (hbig : n ≤ 1000000) (h1n : ∀ u ∈ news, u.oneCell' = true)
    (h : Own S w0 w (SP.row 34 5 (.slice (some ⟨b, off, none⟩) n c) xs :: SP.blk vb 34 news.toArray :: R)) :
    Calls Try.prog 43 #[.slice (some ⟨b, off, none⟩) n c, .int .i64 n, .slice (some ⟨vb, 0, none⟩) 1 vc] w fun e w' =>
      ∃ A' c', e = .returned (.slice A' (n + 1) c') ∧ Own S w0 w' (SP.row 34 5 (.slice A' (n + 1) c') (xs ++ news) :: R) := by
  have hcm := (h.row_le (by decide) hn).2
  unfold maxLen at hcm
  have hrd : Rd w (some ⟨vb, 0, none⟩) news := fun j u hu => ⟨vb, 0, rfl, by rw [Nat.zero_add]; exact (h.swap.blk_cell j).trans (by simpa using hu)⟩
  have HO := Lib.hid h
  have hb4 : ¬ (c = n) := by omega
  have HN := Lib.hid (And.intro hn hnl)
  clear h hn hnl
  go_enter Try.func43, Try.ntmps43
  go_wp2_with (at_builtin; refine wpList_append_own rfl _ _ 43 rfl 34 mailZero 5 56 Try.underlying43 Try.info34 mailZero_size (by decide) rfl HN.out.1 HO.out (Below.refl _ _) _ 1 _ news rfl (by rw [HN.out.2]) hrd h1n (by unfold maxLen; omega) (by omega) ?_)
  rintro A' c' w' o
  have O := Lib.hid o
  clear o HO
  go_wp2
  go_ret
  exact ⟨A', c', rfl, O.out.pick (L := [_, _]) [0]⟩
end
end Go.Proofs.Ytlhinhcbbknhcaa

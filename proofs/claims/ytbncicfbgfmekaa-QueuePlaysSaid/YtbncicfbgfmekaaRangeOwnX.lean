/-
  A range over a function, over what is owned, where the iterator holds memory of its own while a round runs.
  Conditions: none beyond each theorem's own.
-/
import Derived.Test.YtbncicfbgfmekaaRangeOwn
namespace Go.Proofs.Ytbncicfbgfmekaa
set_option linter.unusedVariables false
set_option linter.unusedSimpArgs false
open Go.RowKit

/-- What an iterator says, for every loop body: Rest is what it leaves as it was; each round hands on what the iterator itself holds. -/
def IterOwnX {Y : Type} (F : Fence) (n : Nat) (P : Program) (g : Nat) (lb : Array Value) (enc : Y → Array Value) (Ok : List Y → Y → Prop) (Sd Sp : List Y → Prop) (S : Nat → Prop) (w0 : World) (Rest : List SP) : Prop :=
  ∀ (l : Nat) (J Jx : List Y → SP) (W : World), Own S w0 W (J [] :: Rest) →
    (∀ pre x W1 (X : SP), Ok pre x → Own S w0 W1 (J pre :: X :: Rest) → YieldAt F (n - 1) P l (enc x) W1 fun e W' =>
      (e = .returned (.bool true) ∧ Own S w0 W' (J (pre ++ [x]) :: X :: Rest)) ∨ (e = .returned (.bool false) ∧ Own S w0 W' (Jx (pre ++ [x]) :: X :: Rest))) →
    CallsIn F n P g (#[.func (.yield l) #[] #[]] ++ lb) W fun e W' => (∃ v, e = .returned v) ∧ ((∃ xs, Sd xs ∧ Own S w0 W' (J xs :: Rest)) ∨ (∃ pre, Sp pre ∧ Own S w0 W' (Jx pre :: Rest)))

theorem wpIn_rangeOwnX {Y : Type} {F : Fence} {n : Nat} {P : Program} {w : World} {g : Operand} {ps : Array Tmp} {assign body : Code} {Q : Exit → Act → World → Prop} {a : Act}
    (hro : F.round = none) (h1 : 1 ≤ n) {gf : Nat} {lb : Array Value} (hg : a.eval g = .func (.func gf) #[] lb) (hFg : F.fn gf) (eg : ∀ args w, (callFunc gf args).run P w = .ok (.enter gf args) w)
    {enc : Y → Array Value} {Ok : List Y → Y → Prop} {Sd Sp : List Y → Prop} {S : Nat → Prop} {w0 : World} {Rest : List SP} (hseq : IterOwnX F (n - 1) P gf lb enc Ok Sd Sp S w0 Rest) (hps : ∀ x, (enc x).size = ps.size)
    (I : List Y → SP) (Ix : Code → List Y → SP) (h0 : Own S w0 w (I [] :: Rest)) (a₁ : Y → Act)
    (hassign : ∀ (l : Nat) (x : Y) (W : World) (K : Act → World → Prop), K (a₁ x) W →
      assign.wpIn (F.inRound l) (n - 1 - 1) P (Exit.then K (fun _ _ _ => False)) { tmps := (ps.zip (enc x)).foldl (fun t (p, v) => t.setIfInBounds p v) a.tmps, defers := [] } W)
    (hbody : ∀ (l : Nat) (pre : List Y) (x : Y) (W : World) (B : SP), Ok pre x → Own S w0 W (I pre :: B :: Rest) → body.wpIn (F.inRound l) (n - 1 - 1) P (bodyOwn S w0 I Ix (B :: Rest) (pre ++ [x])) (a₁ x) W)
    (hdone : ∀ (D : Nat) (xs : List Y) (W : World), Sd xs → Own S w0 W (I xs :: SP.obj D (.deferred (some [])) :: Rest) → Q .normal { a with defers := { target := .collected D, args := #[] } :: a.defers } W)
    (hstop : ∀ (D : Nat) (c : Code) (pre : List Y) (W : World), Sp pre → Own S w0 W (Ix c pre :: SP.obj D (.deferred (some [])) :: Rest) → c.wpIn F n P Q { a with defers := { target := .collected D, args := #[] } :: a.defers } W) :
    (Code.rangeFunc g ps assign body).wpIn F n P Q a w := by
  refine wpIn_rangeFunc ?_
  intro fn hfn
  rw [hro]
  obtain ⟨rec, hrec⟩ : ∃ rec : LoopState → Option Code → Loop, rec = fun st pe => { state := st, pending := pe, fn, tmps := a.tmps, params := ps, assign, body, defers := w.heap.size } := ⟨_, rfl⟩
  have hW := (h0.allocObj (.deferred (some []))).allocObj (.loop (rec .ready none))
  rw [World.size_alloc] at hW
  obtain ⟨D, hD⟩ : ∃ D, w.heap.size = D := ⟨_, rfl⟩
  have hstart : Own S w0 ((w.alloc (.deferred (some []))).alloc (.loop (rec .ready none))) (SP.stars [I [], SP.obj (D + 1) (.loop (rec .ready none)), SP.obj D (.deferred (some []))] :: Rest) := by
    rw [hD] at hW
    exact Own.unflat (L := [_, _, _]) (hW.perm ((List.Perm.cons _ (List.Perm.swap _ _ _)).trans (List.Perm.swap _ _ _)))
  refine ⟨D + 1, [{ target := .collected D, args := #[] }], (w.alloc (.deferred (some []))).alloc (.loop (rec .ready none)), { target := .fn (.func gf) lb, args := #[.func (.yield (D + 1)) #[] #[]] }, (w.alloc (.deferred (some []))).alloc (.loop (rec .ready none)), gf,
    #[.func (.yield (D + 1)) #[] #[]] ++ lb, (w.alloc (.deferred (some []))).alloc (.loop (rec .ready none)), ?_, ?_, ?_, ?_, fun _ => h1, ?_⟩
  · rw [hrec, ← hD]; exact run_enterLoop_outer _ _ _ _ _
  · simp only [resolve, hg]
    simp [go_sem]
  · intro f' hf'; simp [Target.leads] at hf'; subst hf'; exact hFg
  · simp [invoke, go_sem, eg]
  · refine (hseq (D + 1)
      (fun pre => SP.stars [I pre, SP.obj (D + 1) (.loop (rec .ready none)), SP.obj D (.deferred (some []))])
      (fun pre => SP.ex fun c => SP.stars [Ix c pre, SP.obj (D + 1) (.loop (rec .done (some c))), SP.obj D (.deferred (some []))])
      _ hstart ?_).mono ?_
    · rintro pre x W X hok hown
      have hown2 := hown.flat
      have hl : W.heap[D + 1]? = some (.loop (rec .ready none)) := (hown2.front 1 rfl).obj
      have hy := run_yield (P := P) (args := enc x) hl (by rw [hrec]; exact hps x)
      rw [hrec] at hy
      refine ⟨fn, _, assign, body, hy, roundIn_of_wpIn hfn (hassign _ x W _ ⟨_, run_beginRound hl (by rw [hrec]), ?_⟩)⟩
      have hb := (hown2.front 1 rfl).putObj (.loop { rec .ready none with state := .busy })
      have hb2 : Own S w0 (W.putObj (D + 1) (.loop { rec .ready none with state := .busy })) (I pre :: SP.stars [SP.obj (D + 1) (.loop { rec .ready none with state := .busy }), SP.obj D (.deferred (some [])), X] :: Rest) :=
        Own.swap (Own.unflat (L := [_, _, _]) (hb.pick (L := [_, _, _, _]) [0, 2, 3, 1]))
      refine wpIn_mono (hbody _ pre x _ _ hok hb2) ?_
      have fin : ∀ (jump : Option Code) (A : SP) (W3 : World), Own S w0 W3 (A :: SP.stars [SP.obj (D + 1) (.loop { rec .ready none with state := .busy }), SP.obj D (.deferred (some [])), X] :: Rest) →
          (Instr.endRound (D + 1) jump).run P W3 = .ok (.bool jump.isNone) (W3.putObj (D + 1) (.loop (rec (if jump.isNone then .ready else .done) jump))) ∧
          Own S w0 (W3.putObj (D + 1) (.loop (rec (if jump.isNone then .ready else .done) jump))) (SP.stars [A, SP.obj (D + 1) (.loop (rec (if jump.isNone then .ready else .done) jump)), SP.obj D (.deferred (some []))] :: X :: Rest) := fun jump A W3 h3 => by
        have h4 := h3.swap.flat
        have hl3 : W3.heap[D + 1]? = some (.loop { rec .ready none with state := .busy }) := Own.obj h4
        have h5 := Own.putObj h4 (.loop (rec (if jump.isNone then .ready else .done) jump))
        have hr := run_endRound (P := P) jump hl3
        rw [hrec] at hr h5 ⊢
        refine ⟨hr, Own.unflat (L := [_, _, _]) ?_⟩
        exact h5.pick (L := [_, _, _, _]) [3, 0, 1, 2]
      rintro e a3 W3 hp
      cases e with
      | normal =>
        obtain ⟨hr, hf⟩ := fin none _ W3 hp
        exact ⟨_, _, hr, .inl ⟨rfl, hf⟩⟩
      | ret =>
        obtain ⟨hr, hf⟩ := fin (some .ret) _ W3 hp
        exact ⟨_, _, hr, .inr ⟨rfl, Own.mkex Code.ret hf⟩⟩
      | exit id =>
        obtain ⟨hr, hf⟩ := fin (some (.exit id)) _ W3 hp
        exact ⟨_, _, hr, .inr ⟨rfl, Own.mkex (Code.exit id) hf⟩⟩
      | goto t =>
        obtain ⟨hr, hf⟩ := fin (some (.goto t)) _ W3 hp
        exact ⟨_, _, hr, .inr ⟨rfl, Own.mkex (Code.goto t) hf⟩⟩
      | panic ch => exact hp.elim
      | outgrown => exact hp.elim
    · rintro e W2 ⟨⟨v, rfl⟩, (⟨xs, hS, hown⟩ | ⟨pre, hSp, hown⟩)⟩
      · have h2 := (hown.flat.front 1 rfl)
        have hl := Own.obj h2
        have h3 := Own.putObj h2 (.loop { rec .ready none with state := .exhausted })
        refine ⟨none, _, by have := run_endLoop (P := P) hl (by rw [hrec]; simp); rw [hrec] at this; exact this, ?_⟩
        rw [hrec] at h3
        exact hdone _ xs _ hS h3.pop
      · obtain ⟨c, hown⟩ := hown.unex
        have h2 := (hown.flat.front 1 rfl)
        have hl := Own.obj h2
        have h3 := Own.putObj h2 (.loop { rec .done (some c) with state := .exhausted })
        refine ⟨some c, _, by have := run_endLoop (P := P) hl (by rw [hrec]; simp); rw [hrec] at this; exact this, ?_⟩
        rw [hrec] at h3
        exact hstop _ c pre _ hSp h3.pop
end Go.Proofs.Ytbncicfbgfmekaa

/-
  A range over a function, over what is owned: each round is handed memory of its own beside the loop's variables.
  Conditions: none beyond each theorem's own.
-/
import Derived.Test.YtbncicfbgfmekaaPick
import Derived.RangeFuncNested
import Derived.RangeFuncBound
import Derived.RangeFuncCalls
import Derived.RangeFuncLeaves
import Derived.OwnWalkIn
namespace Go.Proofs.Ytbncicfbgfmekaa
set_option linter.unusedVariables false
set_option linter.unusedSimpArgs false
open Go.RowKit

/-- A block of whatever kind. -/
def SP.obj (g : Nat) (o : Obj) : SP where
  At w S := S g ∧ w.heap[g]? = some o
  mono := fun ⟨h, hb⟩ hs => ⟨hs _ h, hb⟩
  loc := fun ⟨h, hb⟩ hw => ⟨h, (hw _ h).trans hb⟩

section
variable {S : Nat → Prop} {w0 w : World} {R : List SP}
theorem Own.obj {g : Nat} {o : Obj} (h : Own S w0 w (SP.obj g o :: R)) : w.heap[g]? = some o := h.head.2
theorem Own.allocObj (h : Own S w0 w R) (o : Obj) : Own S w0 (w.alloc o) (SP.obj w.heap.size o :: R) :=
  h.gain ((Below.refl _ _).alloc (Nat.le_refl _) _) ⟨⟨Nat.le_refl _, by simp⟩, World.alloc_heap_new w o⟩
theorem Own.putObj {g : Nat} {o : Obj} (h : Own S w0 w (SP.obj g o :: R)) (o' : Obj) : Own S w0 (w.putObj g o') (SP.obj g o' :: R) := by
  refine h.step ?_
  rintro T ⟨hg, hb⟩ hlt
  have hl := hlt g hg
  refine ⟨⟨rfl, rfl, rfl, by simp, fun k hk hn => World.putObj_heap_other (fun e => hn (e ▸ hg))⟩, ⟨.inl hg, World.putObj_heap_same hl⟩⟩
end

/-- What an iterator says, for every loop body: Rest is what it leaves as it was; each round is handed 'give x'. -/
def IterOwn {Y : Type} (F : Fence) (n : Nat) (P : Program) (g : Nat) (lb : Array Value) (enc : Y → Array Value) (give : Y → SP) (Ok : List Y → Y → Prop) (Sd Sp : List Y → Prop) (S : Nat → Prop) (w0 : World) (Rest : List SP) : Prop :=
  ∀ (l : Nat) (J Jx : List Y → SP) (W : World), Own S w0 W (J [] :: Rest) →
    (∀ pre x W1, Ok pre x → Own S w0 W1 (J pre :: give x :: Rest) → YieldAt F (n - 1) P l (enc x) W1 fun e W' =>
      (e = .returned (.bool true) ∧ Own S w0 W' (J (pre ++ [x]) :: Rest)) ∨ (e = .returned (.bool false) ∧ Own S w0 W' (Jx (pre ++ [x]) :: Rest))) →
    CallsIn F n P g (#[.func (.yield l) #[] #[]] ++ lb) W fun e W' => (∃ v, e = .returned v) ∧ ((∃ xs, Sd xs ∧ Own S w0 W' (J xs :: Rest)) ∨ (∃ pre, Sp pre ∧ Own S w0 W' (Jx pre :: Rest)))

/-- How a body may be left. -/
def bodyOwn {Y : Type} (S : Nat → Prop) (w0 : World) (I : List Y → SP) (Ix : Code → List Y → SP) (B : List SP) (xs : List Y) : Exit → Act → World → Prop
  | .normal, _, W' => Own S w0 W' (I xs :: B)
  | .ret, _, W' => Own S w0 W' (Ix .ret xs :: B)
  | .exit id, _, W' => Own S w0 W' (Ix (.exit id) xs :: B)
  | .goto t, _, W' => Own S w0 W' (Ix (.goto t) xs :: B)
  | .panic _, _, _ => False
  | .outgrown, _, _ => False

theorem wpIn_rangeOwn {Y : Type} {F : Fence} {n : Nat} {P : Program} {w : World} {g : Operand} {ps : Array Tmp} {assign body : Code} {Q : Exit → Act → World → Prop} {a : Act}
    (hro : F.round = none) (h1 : 1 ≤ n) {gf : Nat} {lb : Array Value} (hg : a.eval g = .func (.func gf) #[] lb) (hFg : F.fn gf) (eg : ∀ args w, (callFunc gf args).run P w = .ok (.enter gf args) w)
    {enc : Y → Array Value} {give : Y → SP} {Ok : List Y → Y → Prop} {Sd Sp : List Y → Prop} {S : Nat → Prop} {w0 : World} {Rest : List SP} (hseq : IterOwn F (n - 1) P gf lb enc give Ok Sd Sp S w0 Rest) (hps : ∀ x, (enc x).size = ps.size)
    (I : List Y → SP) (Ix : Code → List Y → SP) (h0 : Own S w0 w (I [] :: Rest)) (a₁ : Y → Act)
    (hassign : ∀ (l : Nat) (x : Y) (W : World) (K : Act → World → Prop), K (a₁ x) W →
      assign.wpIn (F.inRound l) (n - 1 - 1) P (Exit.then K (fun _ _ _ => False)) { tmps := (ps.zip (enc x)).foldl (fun t (p, v) => t.setIfInBounds p v) a.tmps, defers := [] } W)
    (hbody : ∀ (l : Nat) (pre : List Y) (x : Y) (W : World) (B : SP), Ok pre x → Own S w0 W (I pre :: give x :: B :: Rest) → body.wpIn (F.inRound l) (n - 1 - 1) P (bodyOwn S w0 I Ix (B :: Rest) (pre ++ [x])) (a₁ x) W)
    (hdone : ∀ (D : Nat) (xs : List Y) (W : World), Sd xs → Own S w0 W (I xs :: SP.obj D (.deferred (some [])) :: Rest) → Q .normal { a with defers := { target := .collected D, args := #[] } :: a.defers } W)
    (hstop : ∀ (D : Nat) (c : Code) (pre : List Y) (W : World), Sp pre → Own S w0 W (Ix c pre :: SP.obj D (.deferred (some [])) :: Rest) → c.wpIn F n P Q { a with defers := { target := .collected D, args := #[] } :: a.defers } W) :
    (Code.rangeFunc g ps assign body).wpIn F n P Q a w := by
  refine wpIn_rangeFunc ?_
  intro fn hfn
  rw [hro]
  obtain ⟨rec, hrec⟩ : ∃ rec : LoopState → Option Code → Loop, rec = fun st pe => { state := st, pending := pe, fn, tmps := a.tmps, params := ps, assign, body, defers := w.heap.size } := ⟨_, rfl⟩
  have hW := (h0.allocObj (.deferred (some []))).allocObj (.loop (rec .ready none))
  rw [World.size_alloc] at hW
  obtain ⟨D, hD⟩ : ∃ D, w.heap.size = D := ⟨_, rfl⟩
  have hstart : Own S w0 ((w.alloc (.deferred (some []))).alloc (.loop (rec .ready none))) (SP.stars [I [], SP.obj (D + 1) (.loop (rec .ready none)), SP.obj D (.deferred (some []))] :: Rest) := by
    rw [hD] at hW
    exact Own.unflat (L := [_, _, _]) (hW.perm ((List.Perm.cons _ (List.Perm.swap _ _ _)).trans (List.Perm.swap _ _ _)))
  refine ⟨D + 1, [{ target := .collected D, args := #[] }], (w.alloc (.deferred (some []))).alloc (.loop (rec .ready none)), { target := .fn (.func gf) lb, args := #[.func (.yield (D + 1)) #[] #[]] }, (w.alloc (.deferred (some []))).alloc (.loop (rec .ready none)), gf,
    #[.func (.yield (D + 1)) #[] #[]] ++ lb, (w.alloc (.deferred (some []))).alloc (.loop (rec .ready none)), ?_, ?_, ?_, ?_, fun _ => h1, ?_⟩
  · rw [hrec, ← hD]; exact run_enterLoop_outer _ _ _ _ _
  · simp only [resolve, hg]
    simp [go_sem]
  · intro f' hf'; simp [Target.leads] at hf'; subst hf'; exact hFg
  · simp [invoke, go_sem, eg]
  · refine (hseq (D + 1)
      (fun pre => SP.stars [I pre, SP.obj (D + 1) (.loop (rec .ready none)), SP.obj D (.deferred (some []))])
      (fun pre => SP.ex fun c => SP.stars [Ix c pre, SP.obj (D + 1) (.loop (rec .done (some c))), SP.obj D (.deferred (some []))])
      _ hstart ?_).mono ?_
    · rintro pre x W hok hown
      have hown2 := hown.flat
      have hl : W.heap[D + 1]? = some (.loop (rec .ready none)) := (hown2.front 1 rfl).obj
      have hy := run_yield (P := P) (args := enc x) hl (by rw [hrec]; exact hps x)
      rw [hrec] at hy
      refine ⟨fn, _, assign, body, hy, roundIn_of_wpIn hfn (hassign _ x W _ ⟨_, run_beginRound hl (by rw [hrec]), ?_⟩)⟩
      have hb := (hown2.front 1 rfl).putObj (.loop { rec .ready none with state := .busy })
      have hb2 : Own S w0 (W.putObj (D + 1) (.loop { rec .ready none with state := .busy })) (I pre :: give x :: SP.stars [SP.obj (D + 1) (.loop { rec .ready none with state := .busy }), SP.obj D (.deferred (some []))] :: Rest) := by
        have h3 := Own.unflat (L := [_, _]) (hb.perm (show (SP.obj (D + 1) (.loop { rec .ready none with state := .busy }) :: I pre :: SP.obj D (.deferred (some [])) :: give x :: Rest).Perm ([SP.obj (D + 1) (.loop { rec .ready none with state := .busy }), SP.obj D (.deferred (some []))] ++ (I pre :: give x :: Rest)) from List.Perm.cons _ (List.Perm.swap _ _ _)))
        exact h3.perm ((List.Perm.swap _ _ _).trans (List.Perm.cons _ (List.Perm.swap _ _ _)))
      refine wpIn_mono (hbody _ pre x _ _ hok hb2) ?_
      have fin : ∀ (jump : Option Code) (A : SP) (W3 : World), Own S w0 W3 (A :: SP.stars [SP.obj (D + 1) (.loop { rec .ready none with state := .busy }), SP.obj D (.deferred (some []))] :: Rest) →
          (Instr.endRound (D + 1) jump).run P W3 = .ok (.bool jump.isNone) (W3.putObj (D + 1) (.loop (rec (if jump.isNone then .ready else .done) jump))) ∧
          Own S w0 (W3.putObj (D + 1) (.loop (rec (if jump.isNone then .ready else .done) jump))) (SP.stars [A, SP.obj (D + 1) (.loop (rec (if jump.isNone then .ready else .done) jump)), SP.obj D (.deferred (some []))] :: Rest) := fun jump A W3 h3 => by
        have h4 := h3.swap.flat
        have hl3 : W3.heap[D + 1]? = some (.loop { rec .ready none with state := .busy }) := Own.obj h4
        have h5 := Own.putObj h4 (.loop (rec (if jump.isNone then .ready else .done) jump))
        have hr := run_endRound (P := P) jump hl3
        rw [hrec] at hr h5 ⊢
        refine ⟨hr, Own.unflat (L := [_, _, _]) ?_⟩
        exact h5.perm ((List.Perm.cons _ (List.Perm.swap _ _ _)).trans (List.Perm.swap _ _ _))
      rintro e a3 W3 hp
      cases e with
      | normal =>
        obtain ⟨hr, hf⟩ := fin none _ W3 hp
        exact ⟨_, _, hr, .inl ⟨rfl, hf⟩⟩
      | ret =>
        obtain ⟨hr, hf⟩ := fin (some .ret) _ W3 hp
        exact ⟨_, _, hr, .inr ⟨rfl, Own.mkex Code.ret hf⟩⟩
      | exit id =>
        obtain ⟨hr, hf⟩ := fin (some (.exit id)) _ W3 hp
        exact ⟨_, _, hr, .inr ⟨rfl, Own.mkex (Code.exit id) hf⟩⟩
      | goto t =>
        obtain ⟨hr, hf⟩ := fin (some (.goto t)) _ W3 hp
        exact ⟨_, _, hr, .inr ⟨rfl, Own.mkex (Code.goto t) hf⟩⟩
      | panic ch => exact hp.elim
      | outgrown => exact hp.elim
    · rintro e W2 ⟨⟨v, rfl⟩, (⟨xs, hS, hown⟩ | ⟨pre, hSp, hown⟩)⟩
      · have h2 := (hown.flat.front 1 rfl)
        have hl := Own.obj h2
        have h3 := Own.putObj h2 (.loop { rec .ready none with state := .exhausted })
        refine ⟨none, _, by have := run_endLoop (P := P) hl (by rw [hrec]; simp); rw [hrec] at this; exact this, ?_⟩
        rw [hrec] at h3
        exact hdone _ xs _ hS h3.pop
      · obtain ⟨c, hown⟩ := hown.unex
        have h2 := (hown.flat.front 1 rfl)
        have hl := Own.obj h2
        have h3 := Own.putObj h2 (.loop { rec .done (some c) with state := .exhausted })
        refine ⟨some c, _, by have := run_endLoop (P := P) hl (by rw [hrec]; simp); rw [hrec] at this; exact this, ?_⟩
        rw [hrec] at h3
        exact hstop _ c pre _ hSp h3.pop
/-- An append in a fenced walk. -/
theorem wpListIn_append_row {F : Fence} {fn : Nat} {P : Program} {w : World} {S : Nat → Prop} {ops : Array Oper} {rest : List Oper} {o : Oper} {a : Act} {Q : Exit → Act → World → Prop}
    (hgd : o.guard = none) (s x : Operand) (t : TypeId) (ho : o.op = .call { callee := .builtin .append, args := #[s, x], argTypes := #[t, t] })
    (e : TypeId) (z : Value) (size bytes : Nat) (ht : P.underlying t = some (.slice e)) (hinfo : (P.info? e).map (fun i => (i.zero, i.size, i.bytes)) = some (some z, size, bytes)) (hzs : z.cells.size = size) (hsz : 0 < size)
    {Av : Option Addr} {cv : Nat} {xs : List Value} {n : Nat} (hs : a.eval s = .slice Av n cv) (hn : xs.length = n * size) (hr : (SP.row e size (.slice Av n cv) xs).At w S)
    (A : Option Addr) (m c : Nat) (news : List Value) (hx : a.eval x = .slice A m c) (hl : news.length = m * size) (hnews : Rd w A news) (h1 : ∀ u ∈ news, u.oneCell' = true)
    (h63 : n + m ≤ maxLen) (hbytes : (n + m) * bytes ≤ 140737488355328)
    (h : ∀ A' c' w', (n + m ≤ cv → A' = Av ∧ c' = cv) → Keeps S w w' → (SP.row e size (.slice A' (n + m) c') (xs ++ news)).At w' (grow S w w') → wpListIn F fn P ops Q rest (a.put o.dst (.slice A' (n + m) c')) w') : wpListIn F fn P ops Q (o :: rest) a w := by
  refine wpListIn_plain hgd fun K hK' => ?_
  obtain ⟨i, hi, hz0, hz1, hz2⟩ := info_parts hinfo
  obtain ⟨A', c', w', hrun, h2, h3, h4⟩ := run_append_row (P := P) (S := S) t o.type e i z size bytes ht hi hz0 hz1 hz2 hzs hsz hn hr A m c news hl hnews h1 h63 hbytes
  unfold Oper.wpIn
  refine ⟨?_, ?_⟩
  · simp [Oper.about, ho, resolve, Target.leads, Sem.run_pure]
  · rw [Oper.semAt_plain F _ _ (by rw [ho]; intro c hc'; cases hc')]
    simp [execOp, ho, resolve, invoke, builtin, hs, hx, hrun, Result.andThen]
    exact hK' _ _ (h A' c' w' h2 h3 h4)
end Go.Proofs.Ytbncicfbgfmekaa

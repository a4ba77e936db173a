/- A range over a function, where the iterator keeps state of its own in memory: the statement and the round, at the wide fence, without an abstract invariant. No condition. -/
import Derived.Test.YtiogogbkgekkdaaMem
import Derived.RangeFuncNested
import Derived.RangeFuncBound
import Derived.RangeFuncCalls
import Derived.RangeFuncLeaves
import Derived.RangeFuncBox
import Derived.Shelf.Abstract
import Derived.OwnWalkIn
import Derived.TacticsInMore
import Derived.LoopNIn
import Derived.LoopIn
namespace Go.Proofs.Ytiogogbkgekkdaa
open Go.RowKit
set_option linter.unusedVariables false
set_option maxRecDepth 100000

/-- What an outermost loop's record is. -/
def recOf (fn : FuncId) (a : Act) (ps : Array Tmp) (assign body : Code) (D : Nat) (st : LoopState) (pe : Option Code) : Loop :=
  { state := st, pending := pe, fn, tmps := a.tmps, params := ps, assign, body, defers := D }

/-- Behind the iterator: the loop's record is shut, and the pending jump, if any, is taken up. -/
def behind (P : Program) (n : Nat) (Q : Exit → Act → World → Prop) (a' : Act) (l : Nat) (r : Option Code → Loop) (W : World) : Option Code → Prop
  | none => Q .normal a' (W.putObj l (.loop { r none with state := .exhausted }))
  | some j => j.wpIn Fence.wide n P Q a' (W.putObj l (.loop { r (some j) with state := .exhausted }))

theorem my_range {P : Program} {n : Nat} {g : Operand} {ps : Array Tmp} {assign body : Code} {Q : Exit → Act → World → Prop} {a : Act} {w : World} {gf : Nat} {lb : Array Value}
    (hg : a.eval g = .func (.func gf) #[] lb) (eg : ∀ args w, (callFunc gf args).run P w = .ok (.enter gf args) w)
    (h : ∀ fn, CallsIn Fence.wide (n - 1) P gf (#[.func (.yield (w.heap.size + 1)) #[] #[]] ++ lb) ((w.alloc (.deferred (some []))).alloc (.loop (recOf fn a ps assign body w.heap.size .ready none)))
      fun e W' => ∃ v c, e = .returned v ∧ W'.heap[w.heap.size + 1]? = some (.loop (recOf fn a ps assign body w.heap.size (if c.isNone then .ready else .done) c)) ∧
        behind P n Q { a with defers := { target := .collected w.heap.size, args := #[] } :: a.defers } (w.heap.size + 1) (fun c => recOf fn a ps assign body w.heap.size (if c.isNone then .ready else .done) c) W' c) :
    (Code.rangeFunc g ps assign body).wpIn Fence.wide n P Q a w := by
  refine wpIn_rangeFunc ?_
  intro fn _
  obtain ⟨W1, hW1⟩ : ∃ W1, (w.alloc (.deferred (some []))).alloc (.loop (recOf fn a ps assign body w.heap.size .ready none)) = W1 := ⟨_, rfl⟩
  refine ⟨w.heap.size + 1, [{ target := .collected w.heap.size, args := #[] }], W1, { target := .fn (.func gf) lb, args := #[.func (.yield (w.heap.size + 1)) #[] #[]] }, W1, gf,
    #[.func (.yield (w.heap.size + 1)) #[] #[]] ++ lb, W1, ?_, ?_, ?_, ?_, (fun hd => by cases hd), ?_⟩
  · rw [← hW1]; exact run_enterLoop_outer _ _ _ _ _
  · simp only [resolve, hg]
    simp [go_sem]
  · intro f' _; trivial
  · simp [invoke, go_sem, eg]
  · rw [← hW1]
    refine (h fn).mono ?_
    rintro e W' ⟨v, c, rfl, hl, hb⟩
    have hne : (recOf fn a ps assign body w.heap.size (if c.isNone then .ready else .done) c).state ≠ .busy := by cases c <;> simp [recOf]
    refine ⟨c, _, by have := run_endLoop (P := P) hl hne; simpa [recOf] using this, ?_⟩
    cases c with
    | none => exact hb
    | some j => exact hb

theorem my_round {P : Program} {F : Fence} {m l : Nat} {r : Loop} {W : World} {args : Array Value} {R : Ending → World → Prop} {a₁ : Act} (hF : F.fn r.fn)
    (hl : W.heap[l]? = some (.loop r)) (hr : r.state = .ready) (hs : args.size = r.params.size)
    (hA : ∀ K : Act → World → Prop, K a₁ W → r.assign.wpIn (F.inRound l) m P (Exit.then K (fun _ _ _ => False)) { tmps := (r.params.zip args).foldl (fun t (p, v) => t.setIfInBounds p v) r.tmps, defers := [] } W)
    (hB : r.body.wpIn (F.inRound l) m P (roundPost P l R) a₁ (W.putObj l (.loop { r with state := .busy }))) :
    YieldAt F m P l args W R :=
  ⟨r.fn, _, r.assign, r.body, run_yield hl hs, roundIn_of_wpIn hF (hA _ ⟨_, run_beginRound hl hr, hB⟩)⟩
/-- How a round of mine may be left. -/
def roundK (B : Nat) (Kp : World → World → Prop) (I : Nat → World → Prop) (Ix : World → Prop) (k : Nat) (W : World) : Exit → Act → World → Prop
  | .normal, _, W' => KeepsFrom B W W' ∧ Kp W W' ∧ I k W'
  | .ret, _, W' => KeepsFrom B W W' ∧ Ix W'
  | .exit _, _, _ => False
  | .goto _, _, _ => False
  | .panic _, _, _ => False
  | .outgrown, _, _ => False

/-- THE LAW FOR MY LOOPS: the rounds are counted; the iterator may hold state in cells of its own (Kp: what a round keeps of it); what it owes is said of any J that speaks of my I and of blocks that are no cells. -/
theorem my_seq {P : Program} {n : Nat} {g : Operand} {ps : Array Tmp} {assign body : Code} {Q : Exit → Act → World → Prop} {a : Act} {w : World} {gf : Nat} {lb : Array Value}
    (hg : a.eval g = .func (.func gf) #[] lb) (eg : ∀ args w, (callFunc gf args).run P w = .ok (.enter gf args) w) (N : Nat)
    (Kp : World → World → Prop) (hKt : ∀ {A B C : World}, Kp A B → Kp B C → Kp A C) (hKb : ∀ (W : World) (l : Nat) (o o' : Obj), w.heap.size ≤ l → W.heap[l]? = some o → o.isCells = false → Kp W (W.putObj l o'))
    (I : Nat → World → Prop) (Ix : World → Prop) (hI : OwnFrom w.heap.size I) (hIx : OwnFrom w.heap.size (fun (_ : Unit) => Ix)) (h0 : I 0 w)
    (hseq : ∀ (L : Nat) (J : Nat → World → Prop) (Jx : World → Prop) (W1 : World), (∀ k W, J k W → I k W) → (∀ k W p v, J k W → I k (W.setCell p v) → J k (W.setCell p v)) →
      (∀ (k : Nat) (args : Array Value) (W : World), args.size = ps.size → J k W → (∃ a₁ : Act, (∀ (W : World) (K : Act → World → Prop), K a₁ W → assign.wpIn (Fence.wide.inRound L) (n - 1 - 1) P (Exit.then K (fun _ _ _ => False)) { tmps := (ps.zip args).foldl (fun t (p, v) => t.setIfInBounds p v) a.tmps, defers := [] } W) ∧
          ∀ Wb, I k Wb → Kp W Wb → body.wpIn (Fence.wide.inRound L) (n - 1 - 1) P (roundK w.heap.size Kp I Ix (k + 1) Wb) a₁ Wb) →
        YieldAt Fence.wide (n - 1 - 1) P L args W fun e W' => (e = .returned (.bool true) ∧ J (k + 1) W' ∧ Kp W W') ∨ (e = .returned (.bool false) ∧ Jx W')) →
      J 0 W1 → Below w.heap.size w W1 → CallsIn Fence.wide (n - 1) P gf (#[.func (.yield L) #[] #[]] ++ lb) W1 fun e W' => (∃ v, e = .returned v) ∧ (J N W' ∨ Jx W'))
    (hdone : ∀ (D : Nat) (W : World), w.heap.size ≤ D → I N W → W.heap[D]? = some (.deferred (some [])) → Q .normal { a with defers := { target := .collected D, args := #[] } :: a.defers } W)
    (hstop : ∀ (D : Nat) (W : World), w.heap.size ≤ D → Ix W → W.heap[D]? = some (.deferred (some [])) → Code.ret.wpIn Fence.wide n P Q { a with defers := { target := .collected D, args := #[] } :: a.defers } W) :
    (Code.rangeFunc g ps assign body).wpIn Fence.wide n P Q a w := by
  refine my_range hg eg ?_
  intro fn
  obtain ⟨rec, hrec⟩ : ∃ rec : LoopState → Option Code → Loop, rec = fun st pe => recOf fn a ps assign body w.heap.size st pe := ⟨_, rfl⟩
  obtain ⟨W1, hW1⟩ : ∃ W1, (w.alloc (.deferred (some []))).alloc (.loop (rec .ready none)) = W1 := ⟨_, rfl⟩
  have hL1 : W1.heap[w.heap.size + 1]? = some (.loop (rec .ready none)) := by
    rw [← hW1]; have := World.alloc_heap_new (w.alloc (.deferred (some []))) (.loop (rec .ready none)); rwa [World.size_alloc] at this
  have hK1 : W1.heap[w.heap.size]? = some (.deferred (some [])) := by
    rw [← hW1]; exact (Below.heap_alloc _ _ _ (by simp)).trans (World.alloc_heap_new w _)
  have hI1 : I 0 W1 := by rw [← hW1]; exact hI.alloc _ (hI.alloc _ h0)
  have hb1 : Below w.heap.size w W1 := by
    rw [← hW1]; exact ((Below.refl _ w).alloc (Nat.le_refl _) _).alloc (by simp) _
  have e1 : (w.alloc (.deferred (some []))).alloc (.loop (recOf fn a ps assign body w.heap.size .ready none)) = W1 := by rw [← hW1, hrec]
  rw [e1]
  refine (hseq (w.heap.size + 1)
    (fun k W => I k W ∧ W.heap[w.heap.size + 1]? = some (.loop (rec .ready none)) ∧ W.heap[w.heap.size]? = some (.deferred (some [])))
    (fun W => Ix W ∧ W.heap[w.heap.size + 1]? = some (.loop (rec .done (some .ret))) ∧ W.heap[w.heap.size]? = some (.deferred (some [])))
    W1 (fun k W h => h.1) ?_ ?_ ⟨hI1, hL1, hK1⟩ hb1).mono ?_
  · rintro k W p v ⟨_, hl, hk⟩ hi
    exact ⟨hi, (KeepsOthers.setCell W p v).same _ _ hl rfl, (KeepsOthers.setCell W p v).same _ _ hk rfl⟩
  · rintro k args W hs ⟨hi, hl, hk⟩ ⟨a₁, hA, hB⟩
    have hlt : w.heap.size + 1 < W.heap.size := (Array.getElem?_eq_some_iff.1 hl).1
    have hl' := hl
    rw [hrec] at hl'
    refine my_round (a₁ := a₁) trivial hl' rfl hs (fun K hK => hA W K hK) ?_
    have ebusy : (Obj.loop { recOf fn a ps assign body w.heap.size .ready none with state := .busy }) = .loop { rec .ready none with state := .busy } := by rw [hrec]
    rw [ebusy]
    have hl2 : (W.putObj (w.heap.size + 1) (.loop { rec .ready none with state := .busy })).heap[w.heap.size + 1]? = some (.loop { rec .ready none with state := .busy }) := World.putObj_heap_same hlt
    have hk2 : (W.putObj (w.heap.size + 1) (.loop { rec .ready none with state := .busy })).heap[w.heap.size]? = some (.deferred (some [])) := (World.putObj_heap_other (by omega)).trans hk
    have hw2 : Kp W (W.putObj (w.heap.size + 1) (.loop { rec .ready none with state := .busy })) := hKb _ _ _ _ (by omega) hl rfl
    refine wpIn_mono (hB _ (hI.putObj _ hi (by omega) hl rfl) hw2) ?_
    have fin : ∀ (jump : Option Code) (W3 : World), KeepsFrom w.heap.size (W.putObj (w.heap.size + 1) (.loop { rec .ready none with state := .busy })) W3 →
        (Instr.endRound (w.heap.size + 1) jump).run P W3 = .ok (.bool jump.isNone) (W3.putObj (w.heap.size + 1) (.loop (rec (if jump.isNone then .ready else .done) jump))) ∧
        W3.heap[w.heap.size + 1]? = some (.loop { rec .ready none with state := .busy }) ∧
        (W3.putObj (w.heap.size + 1) (.loop (rec (if jump.isNone then .ready else .done) jump))).heap[w.heap.size + 1]? = some (.loop (rec (if jump.isNone then .ready else .done) jump)) ∧
        (W3.putObj (w.heap.size + 1) (.loop (rec (if jump.isNone then .ready else .done) jump))).heap[w.heap.size]? = some (.deferred (some [])) := fun jump W3 hk3 => by
      have hl3 := hk3.same _ _ (by omega) hl2 rfl
      have := run_endRound (P := P) jump hl3
      rw [hrec] at this ⊢
      exact ⟨this, by rw [hrec] at hl3; exact hl3, World.putObj_heap_same (Array.getElem?_eq_some_iff.1 hl3).1, (World.putObj_heap_other (by omega)).trans (hk3.same _ _ (Nat.le_refl _) hk2 rfl)⟩
    rintro e a3 W3 hp
    cases e with
    | normal =>
      obtain ⟨hk3, hkp3, hi3⟩ := hp
      obtain ⟨hr, hl3, hl4, hk4⟩ := fin none W3 hk3
      exact ⟨_, _, hr, .inl ⟨rfl, ⟨hI.putObj _ hi3 (by omega) hl3 rfl, hl4, hk4⟩, hKt (hKt hw2 hkp3) (hKb _ _ _ _ (by omega) hl3 rfl)⟩⟩
    | ret =>
      obtain ⟨hk3, hi3⟩ := hp
      obtain ⟨hr, hl3, hl4, hk4⟩ := fin (some .ret) W3 hk3
      exact ⟨_, _, hr, .inr ⟨rfl, hIx.putObj (s := ()) _ hi3 (by omega) hl3 rfl, hl4, hk4⟩⟩
    | exit id => exact hp.elim
    | goto t => exact hp.elim
    | panic ch => exact hp.elim
    | outgrown => exact hp.elim
  · rintro e W2 ⟨⟨v, rfl⟩, (⟨hi, hl, hk⟩ | ⟨hi, hl, hk⟩)⟩
    · refine ⟨v, none, rfl, by rw [hrec] at hl; exact hl, ?_⟩
      exact hdone _ _ (Nat.le_refl _) (hI.putObj _ hi (by omega) hl rfl) ((World.putObj_heap_other (by omega)).trans hk)
    · refine ⟨v, some .ret, rfl, by rw [hrec] at hl; exact hl, ?_⟩
      exact hstop _ _ (Nat.le_refl _) (hIx.putObj (s := ()) _ hi (by omega) hl rfl) ((World.putObj_heap_other (by omega)).trans hk)
theorem loadVar_plain {P : Program} {t : TypeId} {d : TypeDesc} (hu : P.underlying t = some d) (hd : (match d with | .struct _ | .array _ _ => true | _ => false) = false) {w : World} {p : Addr} {v : Value} (hc : w.cell? p = some v) : (loadVar t p).run P w = .ok v w := by
  unfold loadVar
  rw [Sem.run_bind, run_isAgg_plain hu hd]
  simp only [Result.andThen, Bool.false_eq_true, if_false]
  rw [run_load, hc]
theorem results_cell2 {P : Program} {fn : Func} {t u : Tmp} {T U : TypeId} (h : fn.results = #[.cell t T, .cell u U]) {dT dU : TypeDesc} (hT : P.underlying T = some dT) (hU : P.underlying U = some dU)
    (pT : (match dT with | .struct _ | .array _ _ => true | _ => false) = false) (pU : (match dU with | .struct _ | .array _ _ => true | _ => false) = false)
    {tmps : Array Value} {p q : Addr} (hp : tmps.getD t undef = .pointer (some p)) (hq : tmps.getD u undef = .pointer (some q)) {w : World} {v1 v2 : Value} (h1 : w.cell? p = some v1) (h2 : w.cell? q = some v2) :
    (results fn tmps).run P w = .ok (.tuple #[v1, v2]) w := by
  simp only [results, h, Array.mapM_eq_mapM_toList, List.mapM_cons, List.mapM_nil]
  simp [Sem.run_bind, hp, hq, asAddr, loadVar_plain hT pT h1, loadVar_plain hU pU h2, Result.andThen]
end Go.Proofs.Ytiogogbkgekkdaa

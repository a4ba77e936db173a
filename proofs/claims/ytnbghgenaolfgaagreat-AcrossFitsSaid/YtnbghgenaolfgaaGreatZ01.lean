/- A range over a function, where the iterator keeps state of its own in memory: the statement and the round, at the wide fence, without an abstract invariant. Layer 5: keys and rings of them: what they are, what ring.right tells. Layer 5: what ring.Is tells, for all keys. Layer 5: what ring.place and ring.Find tell, for all keys. Layer 10: a character's bits. Layer 11: the bits of a value's character, and a check value. Layers 1 and 2, the plain facts: words of 32 bits as natural numbers; what SHA-256's steps compute, and that the document's bit by bit way comes to the same. Layers 1 and 2: a word turned, by the program and by the document. No condition. -/
import Derived.Test.YtnbghgenaolfgaaGreatZ00
import Derived.RangeFuncNested
import Derived.RangeFuncBound
import Derived.RangeFuncCalls
import Derived.RangeFuncLeaves
import Derived.RangeFuncBox
import Derived.Shelf.Abstract
import Derived.OwnWalkIn
import Derived.TacticsInMore
import Derived.LoopNIn
import Derived.LoopIn
import Derived.Deep.RegionHeld3
import Derived.Laws.BitsLemmas
import Derived.Laws.Bits64
namespace Go.Proofs.YtnbghgenaolfgaaGreat
open Go.RowKit
set_option linter.unusedVariables false
set_option maxRecDepth 100000

/-- What an outermost loop's record is. -/
def recOf (fn : FuncId) (a : Act) (ps : Array Tmp) (assign body : Code) (D : Nat) (st : LoopState) (pe : Option Code) : Loop :=
  { state := st, pending := pe, fn, tmps := a.tmps, params := ps, assign, body, defers := D }

/-- Behind the iterator: the loop's record is shut, and the pending jump, if any, is taken up. -/
def behind (P : Program) (n : Nat) (Q : Exit → Act → World → Prop) (a' : Act) (l : Nat) (r : Option Code → Loop) (W : World) : Option Code → Prop
  | none => Q .normal a' (W.putObj l (.loop { r none with state := .exhausted }))
  | some j => j.wpIn Fence.wide n P Q a' (W.putObj l (.loop { r (some j) with state := .exhausted }))

theorem my_range {P : Program} {n : Nat} {g : Operand} {ps : Array Tmp} {assign body : Code} {Q : Exit → Act → World → Prop} {a : Act} {w : World} {gf : Nat} {lb : Array Value}
    (hg : a.eval g = .func (.func gf) #[] lb) (eg : ∀ args w, (callFunc gf args).run P w = .ok (.enter gf args) w)
    (h : ∀ fn, CallsIn Fence.wide (n - 1) P gf (#[.func (.yield (w.heap.size + 1)) #[] #[]] ++ lb) ((w.alloc (.deferred (some []))).alloc (.loop (recOf fn a ps assign body w.heap.size .ready none)))
      fun e W' => ∃ v c, e = .returned v ∧ W'.heap[w.heap.size + 1]? = some (.loop (recOf fn a ps assign body w.heap.size (if c.isNone then .ready else .done) c)) ∧
        behind P n Q { a with defers := { target := .collected w.heap.size, args := #[] } :: a.defers } (w.heap.size + 1) (fun c => recOf fn a ps assign body w.heap.size (if c.isNone then .ready else .done) c) W' c) :
    (Code.rangeFunc g ps assign body).wpIn Fence.wide n P Q a w := by
  refine wpIn_rangeFunc ?_
  intro fn _
  obtain ⟨W1, hW1⟩ : ∃ W1, (w.alloc (.deferred (some []))).alloc (.loop (recOf fn a ps assign body w.heap.size .ready none)) = W1 := ⟨_, rfl⟩
  refine ⟨w.heap.size + 1, [{ target := .collected w.heap.size, args := #[] }], W1, { target := .fn (.func gf) lb, args := #[.func (.yield (w.heap.size + 1)) #[] #[]] }, W1, gf,
    #[.func (.yield (w.heap.size + 1)) #[] #[]] ++ lb, W1, ?_, ?_, ?_, ?_, (fun hd => by cases hd), ?_⟩
  · rw [← hW1]; exact run_enterLoop_outer _ _ _ _ _
  · simp only [resolve, hg]
    simp [go_sem]
  · intro f' _; trivial
  · simp [invoke, go_sem, eg]
  · rw [← hW1]
    refine (h fn).mono ?_
    rintro e W' ⟨v, c, rfl, hl, hb⟩
    have hne : (recOf fn a ps assign body w.heap.size (if c.isNone then .ready else .done) c).state ≠ .busy := by cases c <;> simp [recOf]
    refine ⟨c, _, by have := run_endLoop (P := P) hl hne; simpa [recOf] using this, ?_⟩
    cases c with
    | none => exact hb
    | some j => exact hb

theorem my_round {P : Program} {F : Fence} {m l : Nat} {r : Loop} {W : World} {args : Array Value} {R : Ending → World → Prop} {a₁ : Act} (hF : F.fn r.fn)
    (hl : W.heap[l]? = some (.loop r)) (hr : r.state = .ready) (hs : args.size = r.params.size)
    (hA : ∀ K : Act → World → Prop, K a₁ W → r.assign.wpIn (F.inRound l) m P (Exit.then K (fun _ _ _ => False)) { tmps := (r.params.zip args).foldl (fun t (p, v) => t.setIfInBounds p v) r.tmps, defers := [] } W)
    (hB : r.body.wpIn (F.inRound l) m P (roundPost P l R) a₁ (W.putObj l (.loop { r with state := .busy }))) :
    YieldAt F m P l args W R :=
  ⟨r.fn, _, r.assign, r.body, run_yield hl hs, roundIn_of_wpIn hF (hA _ ⟨_, run_beginRound hl hr, hB⟩)⟩
/-- How a round of mine may be left. -/
def roundK (B : Nat) (Kp : World → World → Prop) (I : Nat → World → Prop) (Ix : World → Prop) (k : Nat) (W : World) : Exit → Act → World → Prop
  | .normal, _, W' => KeepsFrom B W W' ∧ Kp W W' ∧ I k W'
  | .ret, _, W' => KeepsFrom B W W' ∧ Ix W'
  | .exit _, _, _ => False
  | .goto _, _, _ => False
  | .panic _, _, _ => False
  | .outgrown, _, _ => False

/-- THE LAW FOR MY LOOPS: the rounds are counted; the iterator may hold state in cells of its own (Kp: what a round keeps of it); what it owes is said of any J that speaks of my I and of blocks that are no cells. -/
theorem my_seq {P : Program} {n : Nat} {g : Operand} {ps : Array Tmp} {assign body : Code} {Q : Exit → Act → World → Prop} {a : Act} {w : World} {gf : Nat} {lb : Array Value}
    (hg : a.eval g = .func (.func gf) #[] lb) (eg : ∀ args w, (callFunc gf args).run P w = .ok (.enter gf args) w) (N : Nat)
    (Kp : World → World → Prop) (hKt : ∀ {A B C : World}, Kp A B → Kp B C → Kp A C) (hKb : ∀ (W : World) (l : Nat) (o o' : Obj), w.heap.size ≤ l → W.heap[l]? = some o → o.isCells = false → Kp W (W.putObj l o'))
    (I : Nat → World → Prop) (Ix : World → Prop) (hI : OwnFrom w.heap.size I) (hIx : OwnFrom w.heap.size (fun (_ : Unit) => Ix)) (h0 : I 0 w)
    (hseq : ∀ (L : Nat) (J : Nat → World → Prop) (Jx : World → Prop) (W1 : World), (∀ k W, J k W → I k W) → (∀ k W p v, J k W → I k (W.setCell p v) → J k (W.setCell p v)) →
      (∀ (k : Nat) (args : Array Value) (W : World), args.size = ps.size → J k W → (∃ a₁ : Act, (∀ (W : World) (K : Act → World → Prop), K a₁ W → assign.wpIn (Fence.wide.inRound L) (n - 1 - 1) P (Exit.then K (fun _ _ _ => False)) { tmps := (ps.zip args).foldl (fun t (p, v) => t.setIfInBounds p v) a.tmps, defers := [] } W) ∧
          ∀ Wb, I k Wb → Kp W Wb → body.wpIn (Fence.wide.inRound L) (n - 1 - 1) P (roundK w.heap.size Kp I Ix (k + 1) Wb) a₁ Wb) →
        YieldAt Fence.wide (n - 1 - 1) P L args W fun e W' => (e = .returned (.bool true) ∧ J (k + 1) W' ∧ Kp W W') ∨ (e = .returned (.bool false) ∧ Jx W')) →
      J 0 W1 → Below w.heap.size w W1 → CallsIn Fence.wide (n - 1) P gf (#[.func (.yield L) #[] #[]] ++ lb) W1 fun e W' => (∃ v, e = .returned v) ∧ (J N W' ∨ Jx W'))
    (hdone : ∀ (D : Nat) (W : World), w.heap.size ≤ D → I N W → W.heap[D]? = some (.deferred (some [])) → Q .normal { a with defers := { target := .collected D, args := #[] } :: a.defers } W)
    (hstop : ∀ (D : Nat) (W : World), w.heap.size ≤ D → Ix W → W.heap[D]? = some (.deferred (some [])) → Code.ret.wpIn Fence.wide n P Q { a with defers := { target := .collected D, args := #[] } :: a.defers } W) :
    (Code.rangeFunc g ps assign body).wpIn Fence.wide n P Q a w := by
  refine my_range hg eg ?_
  intro fn
  obtain ⟨rec, hrec⟩ : ∃ rec : LoopState → Option Code → Loop, rec = fun st pe => recOf fn a ps assign body w.heap.size st pe := ⟨_, rfl⟩
  obtain ⟨W1, hW1⟩ : ∃ W1, (w.alloc (.deferred (some []))).alloc (.loop (rec .ready none)) = W1 := ⟨_, rfl⟩
  have hL1 : W1.heap[w.heap.size + 1]? = some (.loop (rec .ready none)) := by
    rw [← hW1]; have := World.alloc_heap_new (w.alloc (.deferred (some []))) (.loop (rec .ready none)); rwa [World.size_alloc] at this
  have hK1 : W1.heap[w.heap.size]? = some (.deferred (some [])) := by
    rw [← hW1]; exact (Below.heap_alloc _ _ _ (by simp)).trans (World.alloc_heap_new w _)
  have hI1 : I 0 W1 := by rw [← hW1]; exact hI.alloc _ (hI.alloc _ h0)
  have hb1 : Below w.heap.size w W1 := by
    rw [← hW1]; exact ((Below.refl _ w).alloc (Nat.le_refl _) _).alloc (by simp) _
  have e1 : (w.alloc (.deferred (some []))).alloc (.loop (recOf fn a ps assign body w.heap.size .ready none)) = W1 := by rw [← hW1, hrec]
  rw [e1]
  refine (hseq (w.heap.size + 1)
    (fun k W => I k W ∧ W.heap[w.heap.size + 1]? = some (.loop (rec .ready none)) ∧ W.heap[w.heap.size]? = some (.deferred (some [])))
    (fun W => Ix W ∧ W.heap[w.heap.size + 1]? = some (.loop (rec .done (some .ret))) ∧ W.heap[w.heap.size]? = some (.deferred (some [])))
    W1 (fun k W h => h.1) ?_ ?_ ⟨hI1, hL1, hK1⟩ hb1).mono ?_
  · rintro k W p v ⟨_, hl, hk⟩ hi
    exact ⟨hi, (KeepsOthers.setCell W p v).same _ _ hl rfl, (KeepsOthers.setCell W p v).same _ _ hk rfl⟩
  · rintro k args W hs ⟨hi, hl, hk⟩ ⟨a₁, hA, hB⟩
    have hlt : w.heap.size + 1 < W.heap.size := (Array.getElem?_eq_some_iff.1 hl).1
    have hl' := hl
    rw [hrec] at hl'
    refine my_round (a₁ := a₁) trivial hl' rfl hs (fun K hK => hA W K hK) ?_
    have ebusy : (Obj.loop { recOf fn a ps assign body w.heap.size .ready none with state := .busy }) = .loop { rec .ready none with state := .busy } := by rw [hrec]
    rw [ebusy]
    have hl2 : (W.putObj (w.heap.size + 1) (.loop { rec .ready none with state := .busy })).heap[w.heap.size + 1]? = some (.loop { rec .ready none with state := .busy }) := World.putObj_heap_same hlt
    have hk2 : (W.putObj (w.heap.size + 1) (.loop { rec .ready none with state := .busy })).heap[w.heap.size]? = some (.deferred (some [])) := (World.putObj_heap_other (by omega)).trans hk
    have hw2 : Kp W (W.putObj (w.heap.size + 1) (.loop { rec .ready none with state := .busy })) := hKb _ _ _ _ (by omega) hl rfl
    refine wpIn_mono (hB _ (hI.putObj _ hi (by omega) hl rfl) hw2) ?_
    have fin : ∀ (jump : Option Code) (W3 : World), KeepsFrom w.heap.size (W.putObj (w.heap.size + 1) (.loop { rec .ready none with state := .busy })) W3 →
        (Instr.endRound (w.heap.size + 1) jump).run P W3 = .ok (.bool jump.isNone) (W3.putObj (w.heap.size + 1) (.loop (rec (if jump.isNone then .ready else .done) jump))) ∧
        W3.heap[w.heap.size + 1]? = some (.loop { rec .ready none with state := .busy }) ∧
        (W3.putObj (w.heap.size + 1) (.loop (rec (if jump.isNone then .ready else .done) jump))).heap[w.heap.size + 1]? = some (.loop (rec (if jump.isNone then .ready else .done) jump)) ∧
        (W3.putObj (w.heap.size + 1) (.loop (rec (if jump.isNone then .ready else .done) jump))).heap[w.heap.size]? = some (.deferred (some [])) := fun jump W3 hk3 => by
      have hl3 := hk3.same _ _ (by omega) hl2 rfl
      have := run_endRound (P := P) jump hl3
      rw [hrec] at this ⊢
      exact ⟨this, by rw [hrec] at hl3; exact hl3, World.putObj_heap_same (Array.getElem?_eq_some_iff.1 hl3).1, (World.putObj_heap_other (by omega)).trans (hk3.same _ _ (Nat.le_refl _) hk2 rfl)⟩
    rintro e a3 W3 hp
    cases e with
    | normal =>
      obtain ⟨hk3, hkp3, hi3⟩ := hp
      obtain ⟨hr, hl3, hl4, hk4⟩ := fin none W3 hk3
      exact ⟨_, _, hr, .inl ⟨rfl, ⟨hI.putObj _ hi3 (by omega) hl3 rfl, hl4, hk4⟩, hKt (hKt hw2 hkp3) (hKb _ _ _ _ (by omega) hl3 rfl)⟩⟩
    | ret =>
      obtain ⟨hk3, hi3⟩ := hp
      obtain ⟨hr, hl3, hl4, hk4⟩ := fin (some .ret) W3 hk3
      exact ⟨_, _, hr, .inr ⟨rfl, hIx.putObj (s := ()) _ hi3 (by omega) hl3 rfl, hl4, hk4⟩⟩
    | exit id => exact hp.elim
    | goto t => exact hp.elim
    | panic ch => exact hp.elim
    | outgrown => exact hp.elim
  · rintro e W2 ⟨⟨v, rfl⟩, (⟨hi, hl, hk⟩ | ⟨hi, hl, hk⟩)⟩
    · refine ⟨v, none, rfl, by rw [hrec] at hl; exact hl, ?_⟩
      exact hdone _ _ (Nat.le_refl _) (hI.putObj _ hi (by omega) hl rfl) ((World.putObj_heap_other (by omega)).trans hk)
    · refine ⟨v, some .ret, rfl, by rw [hrec] at hl; exact hl, ?_⟩
      exact hstop _ _ (Nat.le_refl _) (hIx.putObj (s := ()) _ hi (by omega) hl rfl) ((World.putObj_heap_other (by omega)).trans hk)
theorem loadVar_plain {P : Program} {t : TypeId} {d : TypeDesc} (hu : P.underlying t = some d) (hd : (match d with | .struct _ | .array _ _ => true | _ => false) = false) {w : World} {p : Addr} {v : Value} (hc : w.cell? p = some v) : (loadVar t p).run P w = .ok v w := by
  unfold loadVar
  rw [Sem.run_bind, run_isAgg_plain hu hd]
  simp only [Result.andThen, Bool.false_eq_true, if_false]
  rw [run_load, hc]
theorem results_cell2 {P : Program} {fn : Func} {t u : Tmp} {T U : TypeId} (h : fn.results = #[.cell t T, .cell u U]) {dT dU : TypeDesc} (hT : P.underlying T = some dT) (hU : P.underlying U = some dU)
    (pT : (match dT with | .struct _ | .array _ _ => true | _ => false) = false) (pU : (match dU with | .struct _ | .array _ _ => true | _ => false) = false)
    {tmps : Array Value} {p q : Addr} (hp : tmps.getD t undef = .pointer (some p)) (hq : tmps.getD u undef = .pointer (some q)) {w : World} {v1 v2 : Value} (h1 : w.cell? p = some v1) (h2 : w.cell? q = some v2) :
    (results fn tmps).run P w = .ok (.tuple #[v1, v2]) w := by
  simp only [results, h, Array.mapM_eq_mapM_toList, List.mapM_cons, List.mapM_nil]
  simp [Sem.run_bind, hp, hq, asAddr, loadVar_plain hT pT h1, loadVar_plain hU pU h2, Result.andThen]
end Go.Proofs.YtnbghgenaolfgaaGreat

namespace Go.Proofs.YtnbghgenaolfgaaGreat
open Go.RowKit
set_option linter.unusedVariables false
set_option maxRecDepth 100000
set_option linter.unusedSimpArgs false

/-- A key: its number, its secret, its days. -/
structure Ky where
  id : Int
  sec : List Int
  fr : Int
  til : Int
def rightB (k : Ky) : Bool := wB k.id 0 99 && (decide (1 ≤ k.sec.length) && decide (k.sec.length ≤ 64)) && (decide (0 ≤ k.fr) && decide (k.fr ≤ k.til) && decide (k.til ≤ 99999))
/-- A ring: right keys, each of a greater number than the one ahead of it. -/
def ringGo : Int → List Ky → Bool
  | _, [] => true
  | last, k :: t => rightB k && decide (last < k.id) && ringGo k.id t
def ringB (l : List Ky) : Bool := ringGo (-1) l

theorem right_any (B : Option Addr) (n c : Nat) (k : Ky) (hn : k.sec.length = n) (w : World) :
    Calls Tryz.prog 88 #[.agg #[.int .i64 k.id, .slice B n c, .int .i64 k.fr, .int .i64 k.til]] w fun e w' => e = .returned (.bool (rightB k)) ∧ Below w.heap.size w w' := by
  subst hn
  obtain ⟨id, sec, fr, til⟩ := k
  show Calls _ _ #[.agg #[.int .i64 id, .slice B sec.length c, .int .i64 fr, .int .i64 til]] _ _
  by_cases h1 : 0 ≤ id
  rotate_left
  · have E := Lib.hid (show rightB ⟨id, sec, fr, til⟩ = false by unfold rightB; rw [wB_no (.inl (by simp; omega))]; rfl)
    go_enter Tryz.func88, Tryz.ntmps88
    go_wp2
    go_ret
    exact ⟨by rw [E.out] <;> rfl, (by repeat (first | (with_reducible exact bR _) | (with_reducible refine bT ?_ (by assumption)) | (with_reducible apply bA) | (with_reducible apply bD) | (with_reducible apply bN) | (with_reducible refine bS ?_ (by first | omega | (simp; done) | (simp; omega)))))⟩
  by_cases h2 : id < 100
  rotate_left
  · have E := Lib.hid (show rightB ⟨id, sec, fr, til⟩ = false by unfold rightB; rw [wB_no (.inr (by simp; omega))]; rfl)
    go_enter Tryz.func88, Tryz.ntmps88
    go_wp2
    go_ret
    exact ⟨by rw [E.out] <;> rfl, (by repeat (first | (with_reducible exact bR _) | (with_reducible refine bT ?_ (by assumption)) | (with_reducible apply bA) | (with_reducible apply bD) | (with_reducible apply bN) | (with_reducible refine bS ?_ (by first | omega | (simp; done) | (simp; omega)))))⟩
  have E1 := wB_mk (n := id) (a := 0) (b := 99) h1 (by omega)
  by_cases h3 : 1 ≤ sec.length
  rotate_left
  · have E := Lib.hid (show rightB ⟨id, sec, fr, til⟩ = false by simp [rightB, h3])
    have h3' : ¬ (1 : Int) ≤ (sec.length : Int) := by omega
    go_enter Tryz.func88, Tryz.ntmps88
    go_wp2
    go_ret
    exact ⟨by rw [E.out] <;> rfl, (by repeat (first | (with_reducible exact bR _) | (with_reducible refine bT ?_ (by assumption)) | (with_reducible apply bA) | (with_reducible apply bD) | (with_reducible apply bN) | (with_reducible refine bS ?_ (by first | omega | (simp; done) | (simp; omega)))))⟩
  have h3' : (1 : Int) ≤ (sec.length : Int) := by omega
  by_cases h4 : sec.length ≤ 64
  rotate_left
  · have E := Lib.hid (show rightB ⟨id, sec, fr, til⟩ = false by simp [rightB, h4])
    have h4' : ¬ (sec.length : Int) ≤ 64 := by omega
    go_enter Tryz.func88, Tryz.ntmps88
    go_wp2
    go_ret
    exact ⟨by rw [E.out] <;> rfl, (by repeat (first | (with_reducible exact bR _) | (with_reducible refine bT ?_ (by assumption)) | (with_reducible apply bA) | (with_reducible apply bD) | (with_reducible apply bN) | (with_reducible refine bS ?_ (by first | omega | (simp; done) | (simp; omega)))))⟩
  have h4' : (sec.length : Int) ≤ 64 := by omega
  by_cases h5 : 0 ≤ fr
  rotate_left
  · have E := Lib.hid (show rightB ⟨id, sec, fr, til⟩ = false by simp [rightB, h5])
    go_enter Tryz.func88, Tryz.ntmps88
    go_wp2
    go_ret
    exact ⟨by rw [E.out] <;> rfl, (by repeat (first | (with_reducible exact bR _) | (with_reducible refine bT ?_ (by assumption)) | (with_reducible apply bA) | (with_reducible apply bD) | (with_reducible apply bN) | (with_reducible refine bS ?_ (by first | omega | (simp; done) | (simp; omega)))))⟩
  by_cases h6 : fr ≤ til
  rotate_left
  · have E := Lib.hid (show rightB ⟨id, sec, fr, til⟩ = false by simp [rightB, h6])
    go_enter Tryz.func88, Tryz.ntmps88
    go_wp2
    go_ret
    exact ⟨by rw [E.out] <;> rfl, (by repeat (first | (with_reducible exact bR _) | (with_reducible refine bT ?_ (by assumption)) | (with_reducible apply bA) | (with_reducible apply bD) | (with_reducible apply bN) | (with_reducible refine bS ?_ (by first | omega | (simp; done) | (simp; omega)))))⟩
  by_cases h7 : til ≤ 99999
  rotate_left
  · have E := Lib.hid (show rightB ⟨id, sec, fr, til⟩ = false by simp [rightB, h7])
    go_enter Tryz.func88, Tryz.ntmps88
    go_wp2
    go_ret
    exact ⟨by rw [E.out] <;> rfl, (by repeat (first | (with_reducible exact bR _) | (with_reducible refine bT ?_ (by assumption)) | (with_reducible apply bA) | (with_reducible apply bD) | (with_reducible apply bN) | (with_reducible refine bS ?_ (by first | omega | (simp; done) | (simp; omega)))))⟩
  have E := Lib.hid (show rightB ⟨id, sec, fr, til⟩ = true by simp only [rightB, E1, h3, h4, h5, h6, h7, decide_true, Bool.and_true])
  go_enter Tryz.func88, Tryz.ntmps88
  go_wp2
  go_ret
  exact ⟨by rw [E.out] <;> rfl, (by repeat (first | (with_reducible exact bR _) | (with_reducible refine bT ?_ (by assumption)) | (with_reducible apply bA) | (with_reducible apply bD) | (with_reducible apply bN) | (with_reducible refine bS ?_ (by first | omega | (simp; done) | (simp; omega)))))⟩
end Go.Proofs.YtnbghgenaolfgaaGreat

namespace Go.Proofs.YtnbghgenaolfgaaGreat
open Go.RowKit Go.Shelf
set_option linter.unusedVariables false
set_option maxRecDepth 100000
set_option linter.unusedSimpArgs false

/-- The key at a place of memory. -/
def KeyAt (w : World) (p : Addr) (k : Ky) : Prop :=
  ∃ (B : Option Addr) (c : Nat), w.cell? p = some (.int .i64 k.id) ∧ w.cell? ⟨p.block, p.off + 1, none⟩ = some (.slice B k.sec.length c) ∧ w.cell? ⟨p.block, p.off + 2, none⟩ = some (.int .i64 k.fr) ∧ w.cell? ⟨p.block, p.off + 3, none⟩ = some (.int .i64 k.til) ∧ k.sec.length ≤ c ∧ c ≤ 9223372036854775807 ∧ RdI w .u8 B k.sec ∧ ∀ x ∈ k.sec, 0 ≤ x ∧ x < 256
/-- The slice at A reads as the keys l. -/
def RdK (w : World) (A : Option Addr) (l : List Ky) : Prop :=
  l = [] ∨ ∃ ad, A = some ad ∧ ad.block < w.heap.size ∧ ∀ j, (h : j < l.length) → KeyAt w (ad.add (j * 4)) l[j]
theorem KeyAt.below {w w' : World} {p : Addr} {n : Nat} {k : Ky} (h : KeyAt w p k) (hb : Below n w w') (hn : w.heap.size ≤ n) : KeyAt w' p k := by
  obtain ⟨B, c, h1, h2, h3, h4, h5, h6, h7, h8⟩ := h
  have K : ∀ {a : Addr} {v : Value}, w.cell? a = some v → w'.cell? a = some v := fun hc => (hb.cell (Nat.lt_of_lt_of_le (World.block_lt_of_cell? w _ hc) hn)).trans hc
  exact ⟨B, c, K h1, K h2, K h3, K h4, h5, h6, h7.keep hb.size (fun b hbn => hb.block b (Nat.lt_of_lt_of_le hbn hn)), h8⟩
theorem RdK.below {w w' : World} {A : Option Addr} {l : List Ky} {n : Nat} (h : RdK w A l) (hb : Below n w w') (hn : w.heap.size ≤ n) : RdK w' A l := by
  rcases h with h | ⟨ad, e, hlt, hk⟩
  · exact .inl h
  · exact .inr ⟨ad, e, Nat.lt_of_lt_of_le hlt hb.size, fun j hj => (hk j hj).below hb hn⟩
theorem ringGo_cons (last : Int) (k : Ky) (t : List Ky) : ringGo last (k :: t) = (rightB k && decide (last < k.id) && ringGo k.id t) := rfl

theorem is1_any (B : Option Addr) (n c : Nat) (k : Ky) (hn : k.sec.length = n) (last : Int) (g : Nat) (w : World) (hg : Boxed w g 3 (.int .i64 last)) :
    Calls Tryz.prog 87 #[.agg #[.int .i64 k.id, .slice B n c, .int .i64 k.fr, .int .i64 k.til], .pointer (some ⟨g, 0, none⟩)] w fun e w' => e = .returned (.bool (!(rightB k && decide (last < k.id)))) ∧ Boxed w' g 3 (.int .i64 k.id) ∧ Below g w w' := by
  have hR := right_any B n c k hn
  obtain ⟨z, hz⟩ : ∃ z, rightB k = z := ⟨_, rfl⟩
  rw [hz] at hR ⊢
  clear hz
  obtain ⟨id, sec, fr, til⟩ := k
  have hc := hg.cell
  have hf := hg.frozen
  have hlt : g < w.heap.size := (Array.getElem?_eq_some_iff.1 hg).1
  have hx0 : ((w.setCell ⟨g, 0, none⟩ (.int .i64 id)).alloc (.cells #[.int .i64 id, .slice B n c, .int .i64 fr, .int .i64 til] 56)).cell? ⟨w.heap.size, 0, none⟩ = some (.int .i64 id) := by
    have h := heap_alloc_new (w.setCell ⟨g, 0, none⟩ (.int .i64 id)) (.cells #[.int .i64 id, .slice B n c, .int .i64 fr, .int .i64 til] 56)
    rw [show (w.setCell ⟨g, 0, none⟩ (.int .i64 id)).heap.size = w.heap.size by simp] at h
    exact cell_of_row _ _ _ _ _ _ h
  have hb1 : Below g w ((w.setCell ⟨g, 0, none⟩ (.int .i64 id)).alloc (.cells #[.int .i64 id, .slice B n c, .int .i64 fr, .int .i64 til] 56)) := ((Below.refl g w).setCell (p := ⟨g, 0, none⟩) (Nat.le_refl _) _).alloc (by simp; omega) _
  have hsz1 : g < ((w.setCell ⟨g, 0, none⟩ (.int .i64 id)).alloc (.cells #[.int .i64 id, .slice B n c, .int .i64 fr, .int .i64 til] 56)).heap.size := by simp; omega
  have hsz2 : w.heap.size < ((w.setCell ⟨g, 0, none⟩ (.int .i64 id)).alloc (.cells #[.int .i64 id, .slice B n c, .int .i64 fr, .int .i64 til] 56)).heap.size := by simp
  have hg1 : Boxed ((w.setCell ⟨g, 0, none⟩ (.int .i64 id)).alloc (.cells #[.int .i64 id, .slice B n c, .int .i64 fr, .int .i64 til] 56)) g 3 (.int .i64 id) := (hg.set _).alloc _
  cases z with
  | false =>
    go_enter Tryz.func87, Tryz.ntmps87
    go_wp2_with (go_at_call 88; (with_reducible refine (hR _).mono ?_); rintro e w' ⟨rfl, hb⟩; go_loud (have hx := (hb.cell (p := ⟨w.heap.size, 0, none⟩) hsz2).trans hx0; have hbx := hb1.trans (hb.mono (Nat.le_of_lt hsz1)); have hgx := hb.block g hsz1))
    go_ret
    exact ⟨rfl, hgx.trans hg1, hbx⟩
  | true =>
    by_cases hl : id ≤ last
    · have hd : decide (last < id) = false := by rw [decide_eq_false_iff_not]; omega
      rw [hd]
      go_enter Tryz.func87, Tryz.ntmps87
      go_wp2_with (go_at_call 88; (with_reducible refine (hR _).mono ?_); rintro e w' ⟨rfl, hb⟩; go_loud (have hx := (hb.cell (p := ⟨w.heap.size, 0, none⟩) hsz2).trans hx0; have hbx := hb1.trans (hb.mono (Nat.le_of_lt hsz1)); have hgx := hb.block g hsz1))
      go_ret
      exact ⟨rfl, hgx.trans hg1, hbx⟩
    · have hd : decide (last < id) = true := by rw [decide_eq_true_eq]; omega
      have hd2 : decide (id ≤ last) = false := by rw [decide_eq_false_iff_not]; omega
      rw [hd]
      go_enter Tryz.func87, Tryz.ntmps87
      go_wp2_with (go_at_call 88; (with_reducible refine (hR _).mono ?_); rintro e w' ⟨rfl, hb⟩; go_loud (have hx := (hb.cell (p := ⟨w.heap.size, 0, none⟩) hsz2).trans hx0; have hbx := hb1.trans (hb.mono (Nat.le_of_lt hsz1)); have hgx := hb.block g hsz1))
      go_ret
      exact ⟨rfl, hgx.trans hg1, hbx⟩

set_option maxHeartbeats 4000000 in
theorem ringIdx_any (A : Option Addr) (c : Nat) (l : List Ky) (last : Int) (g : Nat) (w : World) (hg : Boxed w g 3 (.int .i64 last)) (hr : ∀ w', Below g w w' → RdK w' A l) (hl : l.length ≤ 9223372036854775807) :
    Calls Tryz.prog 160 #[.slice A l.length c, .func (.func 87) #[] #[.pointer (some ⟨g, 0, none⟩)]] w fun e w' => (∃ z : Int, e = .returned (.int .i64 z) ∧ (0 ≤ z ↔ ringGo last l = false)) ∧ Below g w w' := by
  go_enter Tryz.func160, Tryz.ntmps160
  go_wp2
  go_loopw [5, 8] (fun _ i wr => ∃ (k : Nat) (la : Int), k ≤ l.length ∧ i = .int .i64 k ∧ Boxed wr g 3 (.int .i64 la) ∧ Hid (ringGo la (l.drop k) = ringGo last l) ∧ Below g w wr) (fun _ i _ => l.length - (intOf i).toNat)
  case atStart => exact ⟨0, last, Nat.zero_le _, rfl, hg, Lib.hid (by simp), Below.refl _ _⟩
  case round =>
    obtain ⟨k, la, hk, rfl, hb, hq, hbW⟩ := hrel
    by_cases hlt : k < l.length
    · have e := hq.out
      rw [List.drop_eq_getElem_cons hlt, ringGo_cons] at e
      rcases hr wr hbW with h0 | ⟨ad, rfl, _, hka⟩
      · simp [h0] at hlt
      obtain ⟨B, c2, c0, c1, c22, c3, hcl, hcc, hsr, hsb⟩ := hka k hlt
      generalize l[k] = ky at *
      have HE := Lib.hid e
      clear e hq hka
      have k0 : (0 : Int) ≤ (k : Int) := by omega
      have k1 : (k : Int) < (l.length : Int) := by omega
      obtain ⟨n2, hn2⟩ : ∃ n2, ky.sec.length = n2 := ⟨_, rfl⟩
      rw [hn2] at c1
      have hI := fun W hbb => is1_any B n2 c2 ky hn2 la g W hbb
      cases hz : (rightB ky && decide (la < ky.id)) with
      | true =>
        have e := HE.out
        rw [hz, Bool.true_and] at e
        have HX := Lib.hid e
        clear e HE
        rw [hz] at hI
        clear hz
        go_wp2_with (go_at_call 87; (with_reducible refine (hI _ hb).mono ?_); rintro e w' ⟨rfl, hb2, hbl2⟩)
        go_roundw
        case rel => exact ⟨k + 1, _, by omega, by go_num, hb2, HX, hbW.trans hbl2⟩
        case measure => simp [intOf]; omega
      | false =>
        have e := HE.out
        rw [hz, Bool.false_and] at e
        have HX := Lib.hid e
        clear e HE
        rw [hz] at hI
        clear hz
        go_wp2_with (go_at_call 87; (with_reducible refine (hI _ hb).mono ?_); rintro e w' ⟨rfl, hb2, hbl2⟩)
        go_ret
        exact ⟨⟨_, rfl, ⟨fun _ => HX.out.symm, fun _ => by omega⟩⟩, hbW.trans hbl2⟩
    · have e := hq.out
      rw [List.drop_eq_nil_of_le (by omega)] at e
      have HE := Lib.hid (show ringGo last l = true from e.symm)
      clear e hq
      go_wp2
      go_ret
      exact ⟨⟨_, rfl, ⟨fun h => by omega, fun h => by rw [HE.out] at h; cases h⟩⟩, hbW⟩

theorem ringHas_any (A : Option Addr) (c : Nat) (l : List Ky) (last : Int) (g : Nat) (w : World) (hg : Boxed w g 3 (.int .i64 last)) (hr : ∀ w', Below g w w' → RdK w' A l) (hl : l.length ≤ 9223372036854775807) :
    Calls Tryz.prog 86 #[.slice A l.length c, .func (.func 87) #[] #[.pointer (some ⟨g, 0, none⟩)]] w fun e w' => e = .returned (.bool (!(ringGo last l))) ∧ Below g w w' := by
  cases hz : ringGo last l with
  | true =>
    have HZ := Lib.hid hz
    go_enter Tryz.func86, Tryz.ntmps86
    go_wp2_with (go_at_call 160; (with_reducible refine (ringIdx_any A c l last g _ hg hr hl).mono ?_); rintro e w' ⟨⟨z, rfl, hz2⟩, hb⟩; have hneg : decide (0 ≤ z) = false := (by rw [decide_eq_false_iff_not]; intro h; have := hz2.1 h; rw [HZ.out] at this; cases this); clear hz2)
    go_ret
    exact ⟨by first | rfl | simp [hneg], hb⟩
  | false =>
    have HZ := Lib.hid hz
    go_enter Tryz.func86, Tryz.ntmps86
    go_wp2_with (go_at_call 160; (with_reducible refine (ringIdx_any A c l last g _ hg hr hl).mono ?_); rintro e w' ⟨⟨z, rfl, hz2⟩, hb⟩; have hneg : decide (0 ≤ z) = true := (by rw [decide_eq_true_eq]; exact hz2.2 HZ.out); clear hz2)
    go_ret
    exact ⟨by first | rfl | simp [hneg], hb⟩

theorem ringIs_any (A : Option Addr) (c : Nat) (l : List Ky) (w : World) (hr : RdK w A l) (hl : l.length ≤ 9223372036854775807) :
    Calls Tryz.prog 37 #[.slice A l.length c] w fun e w' => e = .returned (.bool (ringB l)) ∧ Below w.heap.size w w' := by
  have hmf : ∀ (fn : Fn) (first cap : Array Value) (w : World), (Instr.makeFunc fn first cap).run Tryz.prog w = .ok (.func fn first cap) w := fun _ _ _ _ => rfl
  have hG := Boxed.new w 3 (.int .i64 (-1))
  have hK : ∀ w', Below w.heap.size (w.alloc (.cells #[.int .i64 (-1)] 3)) w' → RdK w' A l := fun w' hb => hr.below ((bel1 w _).trans hb) (Nat.le_refl _)
  go_enter Tryz.func37, Tryz.ntmps37
  go_wp2_with (go_at_call 86; (with_reducible refine (ringHas_any A c l (-1) w.heap.size _ hG hK hl).mono ?_); rintro e w' ⟨rfl, hb⟩)
  go_ret
  exact ⟨by simp [ringB], (bel1 w _).trans hb⟩
end Go.Proofs.YtnbghgenaolfgaaGreat

namespace Go.Proofs.YtnbghgenaolfgaaGreat
open Go.RowKit Go.Shelf
set_option linter.unusedVariables false
set_option maxRecDepth 100000
set_option linter.unusedSimpArgs false

theorem rightB_id {k : Ky} (h : rightB k = true) : 0 ≤ k.id ∧ k.id ≤ 99 := by
  unfold rightB at h
  simp only [Bool.and_eq_true] at h
  exact wB_iff h.1.1
theorem ringGo_mem : ∀ (l : List Ky) (last : Int), ringGo last l = true → ∀ k ∈ l, rightB k = true ∧ last < k.id
  | [], _, _, k, hk => by simp at hk
  | x :: t, last, h, k, hk => by
    rw [ringGo_cons, Bool.and_eq_true, Bool.and_eq_true, decide_eq_true_eq] at h
    rcases List.mem_cons.1 hk with rfl | hk
    · exact h.1
    · have := ringGo_mem t x.id h.2 k hk
      exact ⟨this.1, by have := h.1.2; omega⟩
theorem ringGo_lt : ∀ (l : List Ky) (last : Int), ringGo last l = true → ∀ (a b : Nat) (hb : b < l.length) (ha : a < b), (l[a]'(by omega)).id < l[b].id
  | [], _, _, a, b, hb, _ => by simp at hb
  | x :: t, last, h, a, b, hb, ha => by
    rw [ringGo_cons, Bool.and_eq_true] at h
    obtain ⟨b, rfl⟩ : ∃ b', b = b' + 1 := ⟨b - 1, by omega⟩
    simp only [List.getElem_cons_succ]
    cases a with
    | zero => exact (ringGo_mem t x.id h.2 _ (List.getElem_mem _)).2
    | succ a =>
      simp only [List.getElem_cons_succ]
      exact ringGo_lt t x.id h.2 a b (by simpa using hb) (by omega)

theorem any_none (l : List Ky) (id : Int) (h : ∀ (j : Nat) (hj : j < l.length), l[j].id < id) : (l.any fun k => k.id == id) = false := by
  rw [List.any_eq_false]
  intro k hk
  obtain ⟨j, hj, rfl⟩ := List.getElem_of_mem hk
  have := h j hj
  simp; omega
theorem any_at (l : List Ky) (id : Int) (a : Nat) (ha : a < l.length) (h1 : ∀ (j : Nat) (hj : j < l.length), j < a → l[j].id < id) (h2 : ∀ (j : Nat) (hj : j < l.length), a ≤ j → id ≤ l[j].id) (hlt : ∀ (a b : Nat) (hb : b < l.length) (ha : a < b), (l[a]'(by omega)).id < l[b].id) : (l.any fun k => k.id == id) = decide (l[a].id - id = 0) := by
  by_cases e : l[a].id = id
  · rw [decide_eq_true (by omega), List.any_eq_true]
    exact ⟨l[a], List.getElem_mem ha, by simp [e]⟩
  · rw [decide_eq_false (by omega), List.any_eq_false]
    intro k hk
    obtain ⟨j, hj, rfl⟩ := List.getElem_of_mem hk
    have g1 := h1 j hj
    have g2 := h2 j hj
    have g3 := h2 a ha (Nat.le_refl _)
    by_cases hja : j < a
    · have := g1 hja; simp; omega
    · by_cases hje : j = a
      · subst hje; simpa using e
      · have := hlt a j hj (by omega); simp; omega

theorem place1_any (B : Option Addr) (n c : Nat) (k : Ky) (id : Int) (w : World) (h1 : 0 ≤ k.id ∧ k.id ≤ 99) (h2 : 0 ≤ id ∧ id ≤ 99) :
    Calls Tryz.prog 154 #[.agg #[.int .i64 k.id, .slice B n c, .int .i64 k.fr, .int .i64 k.til], .int .i64 id] w fun e w' => e = .returned (.int .i64 (k.id - id)) ∧ Below w.heap.size w w' := by
  obtain ⟨kid, sec, fr, til⟩ := k
  have hw : IntKind.i64.wrap (kid - id) = kid - id := by rw [IntKind.wrap_i64]; simp only at h1; omega
  go_enter Tryz.func154, Tryz.ntmps154
  go_wp2
  go_ret
  exact ⟨rfl, (by repeat (first | (with_reducible exact bR _) | (with_reducible refine bT ?_ (by assumption)) | (with_reducible apply bA) | (with_reducible apply bD) | (with_reducible apply bN) | (with_reducible refine bS ?_ (by first | omega | (simp; done) | (simp; omega)))))⟩

set_option maxHeartbeats 4000000 in
theorem bsearch_any (A : Option Addr) (c : Nat) (l : List Ky) (id : Int) (w : World) (hr : RdK w A l) (hl : l.length ≤ 100) (hlt : ∀ (a b : Nat) (hb : b < l.length) (ha : a < b), (l[a]'(by omega)).id < l[b].id) (hid : ∀ k ∈ l, 0 ≤ k.id ∧ k.id ≤ 99) (h2 : 0 ≤ id ∧ id ≤ 99) :
    Calls Tryz.prog 153 #[.slice A l.length c, .int .i64 id, .func (.func 154) #[] #[]] w fun e w' =>
      (∃ p : Nat, p ≤ l.length ∧ e = .returned (.tuple #[.int .i64 p, .bool (l.any fun k => k.id == id)]) ∧ (∀ (j : Nat) (hj : j < l.length), j < p → l[j].id < id) ∧ (∀ (j : Nat) (hj : j < l.length), p ≤ j → id ≤ l[j].id)) ∧ Below w.heap.size w w' := by
  go_enter Tryz.func153, Tryz.ntmps153
  go_wp2
  go_loopw [9, 10] (fun i j wr => ∃ a b : Nat, a ≤ b ∧ b ≤ l.length ∧ i = .int .i64 a ∧ j = .int .i64 b ∧ (∀ (j : Nat) (hj : j < l.length), j < a → l[j].id < id) ∧ (∀ (j : Nat) (hj : j < l.length), b ≤ j → id ≤ l[j].id) ∧ Below w.heap.size w wr) (fun i j _ => (intOf j).toNat - (intOf i).toNat)
  case atStart => exact ⟨0, l.length, by omega, by omega, rfl, rfl, fun j hj h => by omega, fun j hj h => by omega, Below.refl _ _⟩
  case round =>
    obtain ⟨a, b, hab, hbl, rfl, rfl, hlo, hhi, hbW⟩ := hrel
    by_cases hq : a < b
    · obtain ⟨h, hh⟩ : ∃ h, (a + b) / 2 = h := ⟨_, rfl⟩
      have hah : a ≤ h := by omega
      have hhb : h < b := by omega
      have hhe : ((a : Int) + (b : Int)) / 2 = (h : Int) := by omega
      have hl2 : h < l.length := by omega
      rcases hr.below hbW (Nat.le_refl _) with h0 | ⟨ad, rfl, _, hka⟩
      · simp [h0] at hl2
      obtain ⟨B, c2, c0, c1, c22, c3, hcl, hcc, hsr, hsb⟩ := hka h hl2
      have hidk := hid _ (List.getElem_mem hl2)
      have L1 : ∀ (j : Nat) (hj : j < l.length), j < h → l[j].id < l[h].id := fun j hj hjh => hlt j h hl2 hjh
      have L2 : ∀ (j : Nat) (hj : j < l.length), h < j → l[h].id < l[j].id := fun j hj hjh => hlt h j hj hjh
      obtain ⟨ky, hky⟩ : ∃ ky, l[h] = ky := ⟨_, rfl⟩
      have EQ : ∀ (hj : h < l.length), l[h] = ky := fun _ => hky
      rw [hky] at c0 c1 c22 c3 hidk hsr hsb hcl
      have L1' := Lib.hid L1
      have L2' := Lib.hid L2
      have HLO := Lib.hid hlo
      have HHI := Lib.hid hhi
      have HKY := Lib.hid hky
      clear L1 L2 hlo hhi hky hka EQ
      have k0 : (0 : Int) ≤ (h : Int) := by omega
      have k1 : (h : Int) < (l.length : Int) := by omega
      obtain ⟨n2, hn2⟩ : ∃ n2, ky.sec.length = n2 := ⟨_, rfl⟩
      rw [hn2] at c1
      have hP := fun W => place1_any B n2 c2 ky id W hidk h2
      by_cases hcmp : ky.id < id
      · have hd : decide (ky.id - id < 0) = true := by rw [decide_eq_true_eq]; omega
        go_wp2_with (go_at_call 154; (with_reducible refine (hP _).mono ?_); rintro e w' ⟨rfl, hb2⟩)
        go_roundw
        case rel =>
          refine ⟨h + 1, b, by omega, by omega, by go_num, rfl, ?_, HHI.out, bT hbW hb2⟩
          intro j hj hjh
          by_cases e : j = h
          · subst e; have := HKY.out; rw [this]; exact hcmp
          · have := L1'.out j hj (by omega); rw [HKY.out] at this; omega
        case measure => simp [intOf]; omega
      · have hd : decide (ky.id - id < 0) = false := by rw [decide_eq_false_iff_not]; omega
        go_wp2_with (go_at_call 154; (with_reducible refine (hP _).mono ?_); rintro e w' ⟨rfl, hb2⟩)
        go_roundw
        case rel =>
          refine ⟨a, h, by omega, by omega, rfl, by go_num, HLO.out, ?_, bT hbW hb2⟩
          intro j hj hjh
          by_cases e : j = h
          · subst e; have := HKY.out; rw [this]; omega
          · have := L2'.out j hj (by omega); rw [HKY.out] at this; omega
        case measure => simp [intOf]; omega
    · obtain rfl : a = b := by omega
      have HLO := Lib.hid hlo
      have HHI := Lib.hid hhi
      clear hlo hhi
      by_cases hend : a < l.length
      · rcases hr.below hbW (Nat.le_refl _) with h0 | ⟨ad, rfl, _, hka⟩
        · simp [h0] at hend
        obtain ⟨B, c2, c0, c1, c22, c3, hcl, hcc, hsr, hsb⟩ := hka a hend
        have hidk := hid _ (List.getElem_mem hend)
        have HA := any_at l id a hend HLO.out HHI.out hlt
        generalize hky : l[a] = ky at *
        have HAN := Lib.hid HA
        clear HA hka hky
        have k0 : (0 : Int) ≤ (a : Int) := by omega
        have k1 : (a : Int) < (l.length : Int) := by omega
        obtain ⟨n2, hn2⟩ : ∃ n2, ky.sec.length = n2 := ⟨_, rfl⟩
        rw [hn2] at c1
        have hP := fun W => place1_any B n2 c2 ky id W hidk h2
        go_wp2_with (go_at_call 154; (with_reducible refine (hP _).mono ?_); rintro e w' ⟨rfl, hb2⟩)
        go_ret2
        exact ⟨⟨a, by omega, by rw [HAN.out] <;> rfl, HLO.out, HHI.out⟩, bT hbW hb2⟩
      · have HA := any_none l id (fun j hj => HLO.out j hj (by omega))
        have HAN := Lib.hid HA
        clear HA
        have k1 : ¬ (a : Int) < (l.length : Int) := by omega
        go_wp2
        go_ret2
        exact ⟨⟨a, by omega, by rw [HAN.out] <;> rfl, HLO.out, HHI.out⟩, hbW⟩

theorem place_any (A : Option Addr) (c : Nat) (l : List Ky) (id : Int) (w : World) (hr : RdK w A l) (hl : l.length ≤ 100) (hlt : ∀ (a b : Nat) (hb : b < l.length) (ha : a < b), (l[a]'(by omega)).id < l[b].id) (hid : ∀ k ∈ l, 0 ≤ k.id ∧ k.id ≤ 99) (h2 : 0 ≤ id ∧ id ≤ 99) :
    Calls Tryz.prog 84 #[.slice A l.length c, .int .i64 id] w fun e w' =>
      (∃ p : Nat, p ≤ l.length ∧ e = .returned (.tuple #[.int .i64 p, .bool (l.any fun k => k.id == id)]) ∧ (∀ (j : Nat) (hj : j < l.length), j < p → l[j].id < id) ∧ (∀ (j : Nat) (hj : j < l.length), p ≤ j → id ≤ l[j].id)) ∧ Below w.heap.size w w' := by
  have hB := fun W hW => bsearch_any A c l id W hW hl hlt hid h2
  generalize (l.any fun k => k.id == id) = z at *
  go_enter Tryz.func84, Tryz.ntmps84
  go_wp2_with (go_at_call 153; (with_reducible refine (hB _ hr).mono ?_); rintro e w' ⟨⟨p, hp, rfl, hlo, hhi⟩, hb⟩; have HLO := Lib.hid hlo; have HHI := Lib.hid hhi; clear hlo hhi)
  go_ret2
  exact ⟨⟨p, hp, rfl, HLO.out, HHI.out⟩, hb⟩

theorem ring_len {l : List Ky} (h : ringB l = true) : l.length ≤ 100 := by
  have hlt := ringGo_lt l (-1) h
  have hm := ringGo_mem l (-1) h
  have key : ∀ (j : Nat) (hj : j < l.length), (j : Int) ≤ l[j].id := by
    intro j
    induction j with
    | zero => intro hj; have := rightB_id (hm _ (List.getElem_mem hj)).1; omega
    | succ j ih =>
      intro hj
      have h1 := ih (by omega)
      have h2 := hlt j (j + 1) hj (by omega)
      omega
  by_cases h0 : l.length = 0
  · omega
  · have h1 := key (l.length - 1) (by omega)
    have h2 := rightB_id (hm _ (List.getElem_mem (show l.length - 1 < l.length by omega))).1
    omega
/-- What a ring gives for a number: the key, or an error. -/
def findE (l : List Ky) (id : Int) : Option Ky × Int :=
  if ringB l = false then (none, 1) else if 0 ≤ id ∧ id < 100 then match l.find? (fun k => k.id == id) with
    | some k => (some k, 0)
    | none => (none, 10)
  else (none, 10)
def keyV (r : Option Ky) (B : Option Addr) (c : Nat) : Value := match r with
  | some k => .agg #[.int .i64 k.id, .slice B k.sec.length c, .int .i64 k.fr, .int .i64 k.til]
  | none => .agg #[.int .i64 0, .slice none 0 0, .int .i64 0, .int .i64 0]
def FindRet (l : List Ky) (id : Int) (w0 w : World) (e : Ending) (w' : World) : Prop :=
  (∃ (B : Option Addr) (c : Nat), e = .returned (.tuple #[keyV (findE l id).1 B c, .int .i64 (findE l id).2]) ∧ ∀ k, (findE l id).1 = some k → k.sec.length ≤ c ∧ c ≤ 9223372036854775807 ∧ RdI w0 .u8 B k.sec ∧ (∀ x ∈ k.sec, 0 ≤ x ∧ x < 256) ∧ rightB k = true ∧ k.id = id) ∧ Below w.heap.size w w'
theorem find_at {l : List Ky} {id : Int} {p : Nat} (hp : p < l.length) (h1 : ∀ (j : Nat) (hj : j < l.length), j < p → l[j].id < id) (e : l[p].id = id) : l.find? (fun k => k.id == id) = some l[p] := by
  rw [List.find?_eq_some_iff_getElem]
  refine ⟨by simp [e], p, hp, rfl, ?_⟩
  intro j hj
  have := h1 j (by omega) hj
  simp; omega
theorem any_find {l : List Ky} {id : Int} (h : (l.any fun k => k.id == id) = false) : l.find? (fun k => k.id == id) = none := by
  rw [List.find?_eq_none]
  intro k hk
  have := List.any_eq_false.1 h k hk
  simpa using this
theorem any_pos {l : List Ky} {id : Int} {p : Nat} (h : (l.any fun k => k.id == id) = true) (h1 : ∀ (j : Nat) (hj : j < l.length), j < p → l[j].id < id) (h2 : ∀ (j : Nat) (hj : j < l.length), p ≤ j → id ≤ l[j].id) (hlt : ∀ (a b : Nat) (hb : b < l.length) (ha : a < b), (l[a]'(by omega)).id < l[b].id) : ∃ hp : p < l.length, l[p].id = id := by
  obtain ⟨k, hk, he⟩ := List.any_eq_true.1 h
  obtain ⟨j, hj, rfl⟩ := List.getElem_of_mem hk
  simp only [beq_iff_eq] at he
  have hpj : p ≤ j := by
    rcases Nat.lt_or_ge j p with h | h
    · have := h1 j hj h; omega
    · exact h
  have hp : p < l.length := by omega
  refine ⟨hp, ?_⟩
  have g := h2 p hp (Nat.le_refl _)
  by_cases e : p = j
  · subst e; exact he
  · have := hlt p j hj (by omega); omega

theorem keySize (a b c : Int) (v u : Value) : (#[.int .i64 0, u, .int .i64 0, .int .i64 0] : Array Value).size = (#[.int .i64 a, v, .int .i64 b, .int .i64 c] : Array Value).size := rfl
theorem keyOne (a b c : Int) (B : Option Addr) (m n : Nat) : (#[.int .i64 a, .slice B m n, .int .i64 b, .int .i64 c] : Array Value).all (·.oneCell') = true := by simp [Value.oneCell']
theorem infoK : (Tryz.prog.info? 56).map (·.size) = some 4 := by kernel_rfl
theorem results_keyrow {P : Program} {fn : Func} {t u : Tmp} {T ty : TypeId} (h : fn.results = #[.cell t T, .tmp u]) {d : TypeDesc} (hu : P.underlying T = some d) (hd : (match d with | .struct _ | .array _ _ => true | _ => false) = true)
    {tmps : Array Value} {g : Nat} {v : Value} {cs : Array Value} {fr : Nat × Nat} (hp : tmps.getD t undef = .pointer (some ⟨g, 0, none⟩)) (hv : tmps.getD u undef = v) {w : World} (hg : w.heap[g]? = some (.cells cs ty fr)) (hi : (P.info? T).map (·.size) = some cs.size) :
    (results fn tmps).run P w = .ok (.tuple #[.agg cs, v]) w := by
  have hl := run_loadVar_row (P := P) w g ty T cs fr d hg hu hd hi
  simp only [results, h, Array.mapM_eq_mapM_toList, List.mapM_cons, List.mapM_nil]
  simp [Sem.run_bind, hp, hv, asAddr, hl, Result.andThen]
theorem findOut {l : List Ky} {id : Int} {w0 w w' : World} {tmps : Array Value} (hp : tmps.getD 4 undef = .pointer (some ⟨w.heap.size, 0, none⟩)) (hv : tmps.getD 5 undef = .int .i64 (findE l id).2) (hn : (findE l id).1 = none)
    (hF : w'.heap[w.heap.size]? = some (.cells #[.int .i64 0, .slice none 0 0, .int .i64 0, .int .i64 0] 56 (0, 0))) (hb : Below w.heap.size w w') :
    ∃ u, (results Tryz.f32 tmps).run Tryz.prog (w'.setRow w.heap.size #[.int .i64 0, .slice none 0 0, .int .i64 0, .int .i64 0]) = .ok u (w'.setRow w.heap.size #[.int .i64 0, .slice none 0 0, .int .i64 0, .int .i64 0]) ∧ FindRet l id w0 w (.returned u) (w'.setRow w.heap.size #[.int .i64 0, .slice none 0 0, .int .i64 0, .int .i64 0]) :=
  ⟨_, results_keyrow rfl Tryz.underlying56 rfl hp hv (setRow_heap _ _ _ _ _ _ hF) infoK, ⟨none, 0, by rw [hn] <;> rfl, fun k hk => by rw [hn] at hk; cases hk⟩, setRow_below hb (Nat.le_refl _)⟩

theorem findPost {l : List Ky} {id : Int} {w0 w w' : World} {a : Act} (hd : a.defers = []) (hp : a.tmps.getD 4 undef = .pointer (some ⟨w.heap.size, 0, none⟩)) (hv : a.tmps.getD 5 undef = .int .i64 (findE l id).2) (hn : (findE l id).1 = none)
    (hF : w'.heap[w.heap.size]? = some (.cells #[.int .i64 0, .slice none 0 0, .int .i64 0, .int .i64 0] 56 (0, 0))) (hb : Below w.heap.size w w') : bodyPost Tryz.prog Tryz.f32 (FindRet l id w0 w) .ret a (w'.setRow w.heap.size #[.int .i64 0, .slice none 0 0, .int .i64 0, .int .i64 0]) := by
  obtain ⟨u, hu, hR⟩ := findOut hp hv hn hF hb
  exact bodyPost_ret hu hd hR
theorem findPost2 {l : List Ky} {id : Int} {w0 w w' : World} {a : Act} {ky : Ky} {B : Option Addr} {c n : Nat} (hd : a.defers = []) (hp : a.tmps.getD 4 undef = .pointer (some ⟨w.heap.size, 0, none⟩)) (hv : a.tmps.getD 5 undef = .int .i64 0) (hE : findE l id = (some ky, 0)) (hn : ky.sec.length = n)
    (hF : w'.heap[w.heap.size]? = some (.cells #[.int .i64 0, .slice none 0 0, .int .i64 0, .int .i64 0] 56 (0, 0))) (hb : Below w.heap.size w w') (hc : n ≤ c) (hc9 : c ≤ 9223372036854775807) (hr : RdI w0 .u8 B ky.sec) (hby : ∀ x ∈ ky.sec, 0 ≤ x ∧ x < 256) (hrt : rightB ky = true) (hid : ky.id = id) :
    bodyPost Tryz.prog Tryz.f32 (FindRet l id w0 w) .ret a (w'.setRow w.heap.size #[.int .i64 ky.id, .slice B n c, .int .i64 ky.fr, .int .i64 ky.til]) := by
  subst hn
  have hb2 : Below w.heap.size w (w'.setRow w.heap.size #[.int .i64 ky.id, .slice B ky.sec.length c, .int .i64 ky.fr, .int .i64 ky.til]) := setRow_below hb (Nat.le_refl _)
  refine bodyPost_ret (results_keyrow rfl Tryz.underlying56 rfl hp hv (setRow_heap _ _ _ _ _ _ hF) infoK) hd ⟨⟨B, c, by rw [hE] <;> rfl, fun k hk => ?_⟩, hb2⟩
  rw [hE] at hk
  obtain rfl := Option.some.inj hk
  exact ⟨hc, hc9, hr, hby, hrt, hid⟩

set_option maxHeartbeats 4000000 in
theorem ringFind_any (A : Option Addr) (c : Nat) (l : List Ky) (id : Int) (w0 w : World) (hr : RdK w0 A l) (hb9 : Below w0.heap.size w0 w) (hl : l.length ≤ 9223372036854775807) :
    Calls Tryz.prog 32 #[.slice A l.length c, .int .i64 id] w (FindRet l id w0 w) := by
  have hI := fun W hW => ringIs_any A c l W hW hl
  have hr0 := (hr.below hb9 (Nat.le_refl _)).below (bel1 w (.cells #[.int .i64 0, .slice none 0 0, .int .i64 0, .int .i64 0] 56)) (Nat.le_refl _)
  have hF0 := heap_alloc_new w (.cells #[.int .i64 0, .slice none 0 0, .int .i64 0, .int .i64 0] 56)
  have hs0 : w.heap.size < (w.alloc (.cells #[.int .i64 0, .slice none 0 0, .int .i64 0, .int .i64 0] 56)).heap.size := by simp
  have hb0 := bel1 w (.cells #[.int .i64 0, .slice none 0 0, .int .i64 0, .int .i64 0] 56)
  cases hz : ringB l with
  | false =>
    have e := (show findE l id = (none, 1) by unfold findE; rw [if_pos hz])
    have E1 := Lib.hid (congrArg Prod.fst e)
    have E2 := Lib.hid (congrArg Prod.snd e)
    rw [hz] at hI
    clear e
    go_enter Tryz.func32, Tryz.ntmps32
    go_wp2_with (first | (go_at_call 37; (with_reducible refine (hI _ hr0).mono ?_); rintro e w' ⟨rfl, hb⟩; have hF := (hb.block w.heap.size hs0).trans hF0; have hbx := hb0.trans (hb.mono (Nat.le_of_lt hs0))) | (refine wpList_store_row rfl 56 _ _ rfl w.heap.size #[.int .i64 0, .slice none 0 0, .int .i64 0, .int .i64 0] rfl rfl 56 _ hF ?_ ?_ ?_ ?_; (focus (exact infoK)); (focus (exact keySize _ _ _ _ _)); (focus (exact keyOne _ _ _ _ _ _))))
    exact findPost rfl rfl (by rw [E2.out] <;> rfl) E1.out hF hbx
  | true =>
    have hlen := ring_len hz
    have hlt := ringGo_lt l (-1) hz
    have hm := ringGo_mem l (-1) hz
    have hid : ∀ k ∈ l, 0 ≤ k.id ∧ k.id ≤ 99 := fun k hk => rightB_id (hm k hk).1
    rw [hz] at hI
    have HZ := Lib.hid hz
    by_cases h0 : 0 ≤ id
    rotate_left
    · have e := (show findE l id = (none, 10) by unfold findE; rw [if_neg (by simp [hz]), if_neg (by omega)])
      have E1 := Lib.hid (congrArg Prod.fst e)
      have E2 := Lib.hid (congrArg Prod.snd e)
      clear e hlt hm hid
      go_enter Tryz.func32, Tryz.ntmps32
      go_wp2_with (first | (go_at_call 37; (with_reducible refine (hI _ hr0).mono ?_); rintro e w' ⟨rfl, hb⟩; have hF := (hb.block w.heap.size hs0).trans hF0; have hbx := hb0.trans (hb.mono (Nat.le_of_lt hs0))) | (refine wpList_store_row rfl 56 _ _ rfl w.heap.size #[.int .i64 0, .slice none 0 0, .int .i64 0, .int .i64 0] rfl rfl 56 _ hF ?_ ?_ ?_ ?_; (focus (exact infoK)); (focus (exact keySize _ _ _ _ _)); (focus (exact keyOne _ _ _ _ _ _))))
      exact findPost rfl rfl (by rw [E2.out] <;> rfl) E1.out hF hbx
    by_cases h1 : id < 100
    rotate_left
    · have e := (show findE l id = (none, 10) by unfold findE; rw [if_neg (by simp [hz]), if_neg (by omega)])
      have E1 := Lib.hid (congrArg Prod.fst e)
      have E2 := Lib.hid (congrArg Prod.snd e)
      clear e hlt hm hid
      go_enter Tryz.func32, Tryz.ntmps32
      go_wp2_with (first | (go_at_call 37; (with_reducible refine (hI _ hr0).mono ?_); rintro e w' ⟨rfl, hb⟩; have hF := (hb.block w.heap.size hs0).trans hF0; have hbx := hb0.trans (hb.mono (Nat.le_of_lt hs0))) | (refine wpList_store_row rfl 56 _ _ rfl w.heap.size #[.int .i64 0, .slice none 0 0, .int .i64 0, .int .i64 0] rfl rfl 56 _ hF ?_ ?_ ?_ ?_; (focus (exact infoK)); (focus (exact keySize _ _ _ _ _)); (focus (exact keyOne _ _ _ _ _ _))))
      exact findPost rfl rfl (by rw [E2.out] <;> rfl) E1.out hF hbx
    have hPl := fun W hW => place_any A c l id W hW hlen hlt hid ⟨h0, by omega⟩
    have HLT := Lib.hid hlt
    have HM := Lib.hid hm
    clear hlt hm hid
    cases ha : (l.any fun k => k.id == id) with
    | false =>
      have e := (show findE l id = (none, 10) by unfold findE; rw [if_neg (by simp [hz]), if_pos ⟨h0, h1⟩, any_find ha])
      have E1 := Lib.hid (congrArg Prod.fst e)
      have E2 := Lib.hid (congrArg Prod.snd e)
      rw [ha] at hPl
      clear e ha
      go_enter Tryz.func32, Tryz.ntmps32
      go_wp2_with (first | (go_at_call 37; (with_reducible refine (hI _ hr0).mono ?_); rintro e w1 ⟨rfl, hb⟩; have hF1 := (hb.block w.heap.size hs0).trans hF0; have hb1 := hb0.trans (hb.mono (Nat.le_of_lt hs0)); have hr1 := hr0.below hb (Nat.le_refl _)) | (go_at_call 84; (with_reducible refine (hPl _ hr1).mono ?_); rintro e w' ⟨⟨p, hp, rfl, _, _⟩, hb2⟩; have hF := (hb2.block w.heap.size (Array.getElem?_eq_some_iff.1 hF1).1).trans hF1; have hbx := hb1.trans (hb2.mono hb1.size)) | (refine wpList_store_row rfl 56 _ _ rfl w.heap.size #[.int .i64 0, .slice none 0 0, .int .i64 0, .int .i64 0] rfl rfl 56 _ hF ?_ ?_ ?_ ?_; (focus (exact infoK)); (focus (exact keySize _ _ _ _ _)); (focus (exact keyOne _ _ _ _ _ _))))
      exact findPost rfl rfl (by rw [E2.out] <;> rfl) E1.out hF hbx
    | true =>
      have HA := Lib.hid ha
      rw [ha] at hPl
      clear ha
      go_enter Tryz.func32, Tryz.ntmps32
      go_wp2_with (first | (go_at_call 37; (with_reducible refine (hI _ hr0).mono ?_); rintro e w1 ⟨rfl, hb⟩; have hF1 := (hb.block w.heap.size hs0).trans hF0; have hb1 := hb0.trans (hb.mono (Nat.le_of_lt hs0)); have hr1 := hr0.below hb (Nat.le_refl _)) | (go_at_call 84; (with_reducible refine (hPl _ hr1).mono ?_); rintro e w' ⟨⟨p, hp, rfl, hlo, hhi⟩, hb2⟩; have hF := (hb2.block w.heap.size (Array.getElem?_eq_some_iff.1 hF1).1).trans hF1; have hbx := hb1.trans (hb2.mono hb1.size); obtain ⟨hpl, hpe⟩ := any_pos HA.out hlo hhi HLT.out; have e := (show findE l id = (some l[p], 0) by unfold findE; rw [if_neg (by simp [HZ.out]), if_pos ⟨h0, h1⟩, find_at hpl hlo hpe]); have E0 := Lib.hid e; have HPE := Lib.hid hpe; have HRT := Lib.hid (HM.out l[p] (List.getElem_mem hpl)).1; clear e hlo hhi hpe; rcases hr with hh0 | ⟨ad, rfl, _, hka⟩; (focus (simp [hh0] at hpl)); obtain ⟨B, c2, c0, c1, c22, c3, hcl, hcc, hsr, hsb⟩ := hka p hpl; generalize hky : l[p] = ky at *; clear hka hky; have k0 : (0 : Int) ≤ (p : Int) := (by omega); have k1 : (p : Int) < (l.length : Int) := (by omega); obtain ⟨n2, hn2⟩ : ∃ n2, ky.sec.length = n2 := ⟨_, rfl⟩; rw [hn2] at c1 hcl; have c0' := keep_cell hbx (keep_cell hb9 c0); have c1' := keep_cell hbx (keep_cell hb9 c1); have c22' := keep_cell hbx (keep_cell hb9 c22); have c3' := keep_cell hbx (keep_cell hb9 c3); clear c0 c1 c22 c3) | (refine wpList_store_row rfl 56 _ _ rfl w.heap.size #[.int .i64 ky.id, .slice B n2 c2, .int .i64 ky.fr, .int .i64 ky.til] rfl rfl 56 _ hF ?_ ?_ ?_ ?_; (focus (exact infoK)); (focus (exact keySize _ _ _ _ _)); (focus (exact keyOne _ _ _ _ _ _))))
      exact findPost2 rfl rfl rfl E0.out hn2 hF hbx hcl hcc hsr hsb HRT.out HPE.out
end Go.Proofs.YtnbghgenaolfgaaGreat

namespace Go.Proofs.YtnbghgenaolfgaaGreat
open Go.RowKit
set_option linter.unusedVariables false
set_option maxRecDepth 100000
set_option linter.unusedSimpArgs false

/-- Bools as values. -/
def blv (l : List Bool) : List Value := l.map .bool
/-- The bits of a character, the least first. -/
def bits5 (c : Int) : List Bool := [decide (c % 2 = 1), decide (c / 2 % 2 = 1), decide (c / 4 % 2 = 1), decide (c / 8 % 2 = 1), decide (c / 16 % 2 = 1)]
/-- The bits that are put, behind k rounds. -/
def b5row (c : Int) (k : Nat) : List Value := blv ((bits5 c).take k ++ List.replicate (5 - k) false)
theorem and1 {c : Int} (h0 : 0 ≤ c) (h1 : c ≤ 31) : bits .and .i64 c 1 = c % 2 ∧ bits .and .i64 (c / 2) 1 = c / 2 % 2 ∧ bits .and .i64 (c / 4) 1 = c / 4 % 2 ∧ bits .and .i64 (c / 8) 1 = c / 8 % 2 ∧ bits .and .i64 (c / 16) 1 = c / 16 % 2 := by
  refine below32 (P := fun c => bits .and .i64 c 1 = c % 2 ∧ bits .and .i64 (c / 2) 1 = c / 2 % 2 ∧ bits .and .i64 (c / 4) 1 = c / 4 % 2 ∧ bits .and .i64 (c / 8) 1 = c / 8 % 2 ∧ bits .and .i64 (c / 16) 1 = c / 16 % 2) ?_ h0 h1
  decide +kernel
theorem infoB5 : (Tryz.prog.info? 173).map (·.size) = some 5 := by kernel_rfl
def PbRet (c : Int) (w : World) (e : Ending) (w' : World) : Prop := e = .returned (.tuple #[.agg (blv (bits5 c)).toArray, .int .i64 0]) ∧ Below w.heap.size w w'
theorem pbPost {c : Int} {w w' : World} {a : Act} {old : Array Value} (hd : a.defers = []) (hp : a.tmps.getD 2 undef = .pointer (some ⟨w.heap.size, 0, none⟩)) (hv : a.tmps.getD 3 undef = .int .i64 0)
    (hF : w'.heap[w.heap.size]? = some (.cells old 173 (0, 0))) (hb : Below w.heap.size w w') : bodyPost Tryz.prog Tryz.f165 (PbRet c w) .ret a (w'.setRow w.heap.size (blv (bits5 c)).toArray) :=
  bodyPost_ret (results_keyrow rfl Tryz.underlying173 rfl hp hv (setRow_heap _ _ _ _ _ _ hF) infoB5) hd ⟨rfl, setRow_below hb (Nat.le_refl _)⟩
set_option maxHeartbeats 2000000 in
theorem pbits_any (c : Int) (w : World) (h0 : 0 ≤ c) (h1 : c ≤ 31) : Calls Tryz.prog 165 #[.int .i64 c] w (PbRet c w) := by
  have hW := fun W => pwithin_any c 31 W
  rw [show (decide (0 ≤ c) && decide (c ≤ 31)) = true by simp [h0, h1]] at hW
  obtain ⟨a1, a2, a4, a8, a16⟩ := and1 h0 h1
  obtain ⟨w2, e2, hA, hB, hz, hb2⟩ := new2 w (.cells #[.bool false, .bool false, .bool false, .bool false, .bool false] 173) (.cells #[.bool false, .bool false, .bool false, .bool false, .bool false] 173)
  go_enter Tryz.func165, Tryz.ntmps165
  go_wp2_with (go_at_call 163; (with_reducible refine (hW _).mono ?_); rintro e w' ⟨rfl, rfl⟩)
  go_loopw [5, 10] (fun _ i wr => ∃ k : Nat, k ≤ 5 ∧ i = .int .i64 k ∧ Hid (wr.heap[w.heap.size + 1]? = some (.cells (b5row c k).toArray 173 (0, 0))) ∧ Hid (wr.heap[w.heap.size]? = some (.cells #[.bool false, .bool false, .bool false, .bool false, .bool false] 173 (0, 0))) ∧ Below w.heap.size w wr) (fun _ i _ => 5 - (intOf i).toNat)
  case atStart => exact ⟨0, Nat.zero_le _, rfl, Lib.hid hB, Lib.hid hA, hb2⟩
  case round =>
    obtain ⟨k, hk, rfl, HB, HA, hbw⟩ := hrel
    have hk5 : k = 0 ∨ k = 1 ∨ k = 2 ∨ k = 3 ∨ k = 4 ∨ k = 5 := by omega
    rcases hk5 with rfl | rfl | rfl | rfl | rfl | rfl
    · have hc := cell_of_row _ _ 0 _ _ _ HB.out
      have hf := row_free HB.out 0
      have HS := Lib.hid (heap_setCell_same wr (w.heap.size + 1) 0 _ _ (.bool (decide (c % 2 = 1))) HB.out)
      have HA2 := Lib.hid ((Below.heap_setCell wr ⟨w.heap.size + 1, 0, none⟩ (.bool (decide (c % 2 = 1))) w.heap.size (by show w.heap.size ≠ w.heap.size + 1; omega)).trans HA.out)
      have hbs := bSg hbw (g := w.heap.size + 1) (j := 0) (by omega) (.bool (decide (c % 2 = 1)))
      go_wp2
      go_roundw
      case rel => exact ⟨1, by omega, by go_num, HS, HA2, hbs⟩
      case measure => simp [intOf]
    · have hc := cell_of_row _ _ 1 _ _ _ HB.out
      have hf := row_free HB.out 1
      have HS := Lib.hid (heap_setCell_same wr (w.heap.size + 1) 1 _ _ (.bool (decide (c / 2 % 2 = 1))) HB.out)
      have HA2 := Lib.hid ((Below.heap_setCell wr ⟨w.heap.size + 1, 1, none⟩ (.bool (decide (c / 2 % 2 = 1))) w.heap.size (by show w.heap.size ≠ w.heap.size + 1; omega)).trans HA.out)
      have hbs := bSg hbw (g := w.heap.size + 1) (j := 1) (by omega) (.bool (decide (c / 2 % 2 = 1)))
      go_wp2
      go_roundw
      case rel => exact ⟨2, by omega, by go_num, HS, HA2, hbs⟩
      case measure => simp [intOf]
    · have hc := cell_of_row _ _ 2 _ _ _ HB.out
      have hf := row_free HB.out 2
      have HS := Lib.hid (heap_setCell_same wr (w.heap.size + 1) 2 _ _ (.bool (decide (c / 4 % 2 = 1))) HB.out)
      have HA2 := Lib.hid ((Below.heap_setCell wr ⟨w.heap.size + 1, 2, none⟩ (.bool (decide (c / 4 % 2 = 1))) w.heap.size (by show w.heap.size ≠ w.heap.size + 1; omega)).trans HA.out)
      have hbs := bSg hbw (g := w.heap.size + 1) (j := 2) (by omega) (.bool (decide (c / 4 % 2 = 1)))
      go_wp2
      go_roundw
      case rel => exact ⟨3, by omega, by go_num, HS, HA2, hbs⟩
      case measure => simp [intOf]
    · have hc := cell_of_row _ _ 3 _ _ _ HB.out
      have hf := row_free HB.out 3
      have HS := Lib.hid (heap_setCell_same wr (w.heap.size + 1) 3 _ _ (.bool (decide (c / 8 % 2 = 1))) HB.out)
      have HA2 := Lib.hid ((Below.heap_setCell wr ⟨w.heap.size + 1, 3, none⟩ (.bool (decide (c / 8 % 2 = 1))) w.heap.size (by show w.heap.size ≠ w.heap.size + 1; omega)).trans HA.out)
      have hbs := bSg hbw (g := w.heap.size + 1) (j := 3) (by omega) (.bool (decide (c / 8 % 2 = 1)))
      go_wp2
      go_roundw
      case rel => exact ⟨4, by omega, by go_num, HS, HA2, hbs⟩
      case measure => simp [intOf]
    · have hc := cell_of_row _ _ 4 _ _ _ HB.out
      have hf := row_free HB.out 4
      have HS := Lib.hid (heap_setCell_same wr (w.heap.size + 1) 4 _ _ (.bool (decide (c / 16 % 2 = 1))) HB.out)
      have HA2 := Lib.hid ((Below.heap_setCell wr ⟨w.heap.size + 1, 4, none⟩ (.bool (decide (c / 16 % 2 = 1))) w.heap.size (by show w.heap.size ≠ w.heap.size + 1; omega)).trans HA.out)
      have hbs := bSg hbw (g := w.heap.size + 1) (j := 4) (by omega) (.bool (decide (c / 16 % 2 = 1)))
      go_wp2
      go_roundw
      case rel => exact ⟨5, by omega, by go_num, HS, HA2, hbs⟩
      case measure => simp [intOf]
    · have HV := Lib.hid (show b5row c 5 = blv (bits5 c) from rfl)
      have hB5 := HB.out
      rw [HV.out] at hB5
      have hc0 : wr.cell? ⟨w.heap.size + 1, 0, none⟩ = some (.bool (decide (c % 2 = 1))) := cell_of_row _ _ 0 _ _ _ hB5
      have hc1 : wr.cell? ⟨w.heap.size + 1, 1, none⟩ = some (.bool (decide (c / 2 % 2 = 1))) := cell_of_row _ _ 1 _ _ _ hB5
      have hc2 : wr.cell? ⟨w.heap.size + 1, 2, none⟩ = some (.bool (decide (c / 4 % 2 = 1))) := cell_of_row _ _ 2 _ _ _ hB5
      have hc3 : wr.cell? ⟨w.heap.size + 1, 3, none⟩ = some (.bool (decide (c / 8 % 2 = 1))) := cell_of_row _ _ 3 _ _ _ hB5
      have hc4 : wr.cell? ⟨w.heap.size + 1, 4, none⟩ = some (.bool (decide (c / 16 % 2 = 1))) := cell_of_row _ _ 4 _ _ _ hB5
      go_wp2_with (refine wpList_store_row rfl 173 _ _ rfl w.heap.size #[.bool (decide (c % 2 = 1)), .bool (decide (c / 2 % 2 = 1)), .bool (decide (c / 4 % 2 = 1)), .bool (decide (c / 8 % 2 = 1)), .bool (decide (c / 16 % 2 = 1))] rfl rfl 173 _ HA.out ?_ ?_ ?_ ?_; (focus (exact infoB5)); (focus rfl); (focus (simp [Value.oneCell'])))
      exact pbPost rfl rfl rfl HA.out hbw
end Go.Proofs.YtnbghgenaolfgaaGreat

namespace Go.Proofs.YtnbghgenaolfgaaGreat
open Go.RowKit
set_option linter.unusedVariables false
set_option maxRecDepth 100000
set_option linter.unusedSimpArgs false

/-- The slice at A reads as the bools l. -/
def RdB (w : World) (A : Option Addr) (l : List Bool) : Prop :=
  l = [] ∨ ∃ ad, A = some ad ∧ ad.block < w.heap.size ∧ ∀ j, j < l.length → w.cell? (ad.add j) = some (.bool (l.getD j false))
theorem RdB.at_ {w : World} {A : Option Addr} {l : List Bool} (h : RdB w A l) {j : Nat} (hj : j < l.length) : ∃ ad, A = some ad ∧ w.cell? (ad.add j) = some (.bool (l.getD j false)) := by
  rcases h with rfl | ⟨ad, e, _, hc⟩
  · simp at hj
  · exact ⟨ad, e, hc j hj⟩
theorem RdB.keep {w w' : World} {A : Option Addr} {l : List Bool} (h : RdB w A l) (hs : w.heap.size ≤ w'.heap.size) (hb : ∀ b, b < w.heap.size → w'.heap[b]? = w.heap[b]?) : RdB w' A l := by
  rcases h with h | ⟨ad, e, hlt, hc⟩
  · exact .inl h
  · exact .inr ⟨ad, e, Nat.lt_of_lt_of_le hlt hs, fun j hj => (World.cell?_of_block (hb _ (by rw [add_block]; exact hlt))).trans (hc j hj)⟩
theorem RdB.below {w w' : World} {A : Option Addr} {l : List Bool} (h : RdB w A l) (hb : Below w.heap.size w w') : RdB w' A l := h.keep hb.size fun b hlt => hb.block b hlt
theorem blv_len (l : List Bool) : (blv l).length = l.length := by simp [blv]
theorem blv_at {l : List Bool} {j : Nat} (h : j < l.length) : (blv l)[j]? = some (.bool (l.getD j false)) := by
  unfold blv
  rw [List.getElem?_map, List.getElem?_eq_getElem h, List.getD_eq_getElem?_getD, List.getElem?_eq_getElem h]
  rfl
theorem blv_one (l : List Bool) : ∀ v ∈ blv l, v.oneCell' = true := by
  intro v hv
  obtain ⟨x, _, rfl⟩ := List.mem_map.1 hv
  rfl
theorem rdB_row {w : World} {g : Nat} {l : List Bool} {t : TypeId} (h : w.heap[g]? = some (.cells (blv l).toArray t (0, 0))) : RdB w (some ⟨g, 0, none⟩) l := by
  refine .inr ⟨_, rfl, (Array.getElem?_eq_some_iff.1 h).1, fun j hj => ?_⟩
  have e : (⟨g, 0, none⟩ : Addr).add j = ⟨g, j, none⟩ := by unfold Addr.add; by_cases h : j = 0 <;> simp [h]
  rw [e, cell_of_row w g j _ _ _ h]
  simpa using blv_at hj
theorem rdB_own {w : World} {base e : Nat} {c : Nat} {A : Option Addr} {l : List Bool} (h : w.ownsRow base e 1 (.slice A l.length c) l.length (blv l)) : RdB w A l := by
  rcases h.2 with ⟨e1, h0⟩ | ⟨g, cap, cur, e1, _, hh, h1, h2, _⟩
  · exact .inl (List.eq_nil_of_length_eq_zero h0)
  · obtain ⟨rfl, rfl⟩ : A = some ⟨g, 0, none⟩ ∧ c = cap := by injection e1 with a b c; exact ⟨a, c⟩
    refine .inr ⟨_, rfl, (h.lt g rfl).2, fun j hj => ?_⟩
    exact h.cells rfl _ _ (blv_at hj)
/-- The bits of a value's character. -/
def vbits (v : Int) : List Bool := bits5 (chr v)
theorem vbits_len (v : Int) : (vbits v).length = 5 := rfl
theorem tbits_any (v : Int) (w : World) (h0 : 0 ≤ v) (h1 : v ≤ 15) : Calls Tryz.prog 93 #[.int .i64 v] w fun e w' => (∃ g, e = .returned (.slice (some ⟨g, 0, none⟩) 5 5) ∧ w.heap.size ≤ g ∧ w'.heap[g]? = some (.cells (blv (vbits v)).toArray 173 (0, 0))) ∧ Below w.heap.size w w' := by
  have hC := fun W => char_any v W h0 h1
  obtain ⟨_, c0, c1, _⟩ := chr_odd h0 h1
  have hB := fun W => pbits_any (chr v) W c0 c1
  unfold vbits
  generalize chr v = c at *
  have hB2 : ∀ W, Calls Tryz.prog 165 #[.int .i64 c] W fun e w' => e = .returned (.tuple #[.agg #[.bool (decide (c % 2 = 1)), .bool (decide (c / 2 % 2 = 1)), .bool (decide (c / 4 % 2 = 1)), .bool (decide (c / 8 % 2 = 1)), .bool (decide (c / 16 % 2 = 1))], .int .i64 0]) ∧ Below W.heap.size W w' := hB
  go_enter Tryz.func93, Tryz.ntmps93
  go_wp2_with (first | (go_at_call 164; (with_reducible refine (hC _).mono ?_); rintro e w' ⟨rfl, rfl⟩) | (go_at_call 165; (with_reducible refine (hB2 _).mono ?_); rintro e w' ⟨rfl, hb⟩))
  go_ret
  exact ⟨⟨_, rfl, hb.size, heap_alloc_new w' _⟩, bA hb _⟩
end Go.Proofs.YtnbghgenaolfgaaGreat

namespace Go.Proofs.YtnbghgenaolfgaaGreat
open Go.RowKit
set_option linter.unusedVariables false
set_option maxRecDepth 100000
set_option linter.unusedSimpArgs false

/-- A word turned by k places to the right (k from 0 to 31). -/
def rotN (x k : Nat) : Nat := x / 2 ^ k + x % 2 ^ k * 2 ^ (32 - k)
def chN (e f g : Nat) : Nat := (e &&& f) ^^^ ((4294967295 ^^^ e) &&& g)
def majN (a b c : Nat) : Nat := ((a &&& b) ^^^ (a &&& c)) ^^^ (b &&& c)
def sg0 (x : Nat) : Nat := (rotN x 7 ^^^ rotN x 18) ^^^ x / 8
def sg1 (x : Nat) : Nat := (rotN x 17 ^^^ rotN x 19) ^^^ x / 1024
def bs0 (x : Nat) : Nat := (rotN x 2 ^^^ rotN x 13) ^^^ rotN x 22
def bs1 (x : Nat) : Nat := (rotN x 6 ^^^ rotN x 11) ^^^ rotN x 25

theorem pow_split {k : Nat} (hk : k ≤ 32) : (2 : Nat) ^ k * 2 ^ (32 - k) = 4294967296 := by
  rw [← Nat.pow_add, show k + (32 - k) = 32 by omega]
theorem rot_lt {x k : Nat} (hx : x < 4294967296) (hk : k ≤ 32) : rotN x k < 4294967296 := by
  unfold rotN
  have h := pow_split hk
  have hp : 0 < (2 : Nat) ^ k := Nat.two_pow_pos k
  have h1 : x / 2 ^ k < 2 ^ (32 - k) := by rw [Nat.div_lt_iff_lt_mul hp, Nat.mul_comm, h]; exact hx
  have h2 : x % 2 ^ k ≤ 2 ^ k - 1 := by have := Nat.mod_lt x hp; omega
  have h3 : x % 2 ^ k * 2 ^ (32 - k) ≤ (2 ^ k - 1) * 2 ^ (32 - k) := Nat.mul_le_mul_right _ h2
  rw [Nat.sub_mul, h, Nat.one_mul] at h3
  have h4 : 2 ^ (32 - k) ≤ 4294967296 := by rw [← h]; exact Nat.le_mul_of_pos_left _ hp
  omega
/-- The program's way: two shifts and an or. -/
theorem rot_or {x k : Nat} (hx : x < 4294967296) (hk : k ≤ 32) : x / 2 ^ k ||| x * 2 ^ (32 - k) % 4294967296 = rotN x k := by
  have h := pow_split hk
  have hp : 0 < (2 : Nat) ^ k := Nat.two_pow_pos k
  have h1 : x / 2 ^ k < 2 ^ (32 - k) := by rw [Nat.div_lt_iff_lt_mul hp, Nat.mul_comm, h]; exact hx
  have e : x * 2 ^ (32 - k) % 4294967296 = x % 2 ^ k * 2 ^ (32 - k) := by rw [← h, Nat.mul_mod_mul_right]
  rw [e, Nat.or_comm, Nat.mul_comm, ← Nat.two_pow_add_eq_or_of_lt h1]
  unfold rotN
  rw [Nat.mul_comm, Nat.add_comm]
/-- The document's way: one place at a time. -/
theorem rot_step {x k : Nat} (hx : x < 4294967296) (hk : k < 32) : rotN x k / 2 + rotN x k % 2 * 2147483648 = rotN x (k + 1) := by
  unfold rotN
  obtain ⟨j, hj⟩ : ∃ j, 32 - k = j + 1 := ⟨31 - k, by omega⟩
  have hj2 : 32 - (k + 1) = j := by omega
  rw [hj, hj2, Nat.pow_succ, Nat.pow_succ]
  have hp : 0 < (2 : Nat) ^ k := Nat.two_pow_pos k
  have h := pow_split (show k ≤ 32 by omega)
  rw [hj, Nat.pow_succ] at h
  have e1 : x / 2 ^ k + x % 2 ^ k * (2 ^ j * 2) = x / 2 ^ k + 2 * (x % 2 ^ k * 2 ^ j) := by
    rw [← Nat.mul_assoc, Nat.mul_comm 2]
  have e2 : x / (2 ^ k * 2) = x / 2 ^ k / 2 := by rw [Nat.div_div_eq_div_mul]
  have e3 : x % (2 ^ k * 2) = x % 2 ^ k + 2 ^ k * (x / 2 ^ k % 2) := by rw [Nat.mod_mul]
  have e4 : (2 ^ k * (x / 2 ^ k % 2)) * 2 ^ j = x / 2 ^ k % 2 * 2147483648 := by
    have : 2 ^ k * 2 ^ j = 2147483648 := by
      have h' : 2 ^ k * 2 ^ j * 2 = 4294967296 := by rw [Nat.mul_assoc]; exact h
      omega
    rw [Nat.mul_right_comm, this, Nat.mul_comm]
  rw [e1, e2, e3, Nat.add_mul, e4]
  have m1 : (x / 2 ^ k + 2 * (x % 2 ^ k * 2 ^ j)) / 2 = x / 2 ^ k / 2 + x % 2 ^ k * 2 ^ j := by omega
  have m2 : (x / 2 ^ k + 2 * (x % 2 ^ k * 2 ^ j)) % 2 = x / 2 ^ k % 2 := by omega
  rw [m1, m2, Nat.add_assoc]
theorem rot_zero (x : Nat) : rotN x 0 = x := by simp [rotN, Nat.mod_one]

theorem lt_two32 {x : Nat} : x < 4294967296 ↔ x < 2 ^ 32 := by simp
theorem xor_lt {x y : Nat} (hx : x < 4294967296) (hy : y < 4294967296) : x ^^^ y < 4294967296 := lt_two32.2 (Nat.xor_lt_two_pow (lt_two32.1 hx) (lt_two32.1 hy))
theorem and_lt {x y : Nat} (hx : x < 4294967296) : x &&& y < 4294967296 := Nat.lt_of_le_of_lt Nat.and_le_left hx
theorem and_lt' {x y : Nat} (hy : y < 4294967296) : x &&& y < 4294967296 := Nat.lt_of_le_of_lt Nat.and_le_right hy
theorem ch_lt {e f g : Nat} (hf : f < 4294967296) (hg : g < 4294967296) : chN e f g < 4294967296 := xor_lt (and_lt' hf) (and_lt' hg)
theorem maj_lt {a b c : Nat} (ha : a < 4294967296) (hb : b < 4294967296) : majN a b c < 4294967296 := xor_lt (xor_lt (and_lt ha) (and_lt ha)) (and_lt hb)
theorem sg0_lt {x : Nat} (hx : x < 4294967296) : sg0 x < 4294967296 := xor_lt (xor_lt (rot_lt hx (by decide)) (rot_lt hx (by decide))) (Nat.lt_of_le_of_lt (Nat.div_le_self _ _) hx)
theorem sg1_lt {x : Nat} (hx : x < 4294967296) : sg1 x < 4294967296 := xor_lt (xor_lt (rot_lt hx (by decide)) (rot_lt hx (by decide))) (Nat.lt_of_le_of_lt (Nat.div_le_self _ _) hx)
theorem bs0_lt {x : Nat} (hx : x < 4294967296) : bs0 x < 4294967296 := xor_lt (xor_lt (rot_lt hx (by decide)) (rot_lt hx (by decide))) (rot_lt hx (by decide))
theorem bs1_lt {x : Nat} (hx : x < 4294967296) : bs1 x < 4294967296 := xor_lt (xor_lt (rot_lt hx (by decide)) (rot_lt hx (by decide))) (rot_lt hx (by decide))

theorem bit_val (x k : Nat) : x / 2 ^ k % 2 = (x.testBit k).toNat := by rw [Nat.testBit_eq_decide_div_mod_eq]; rcases Nat.mod_two_eq_zero_or_one (x / 2 ^ k) with h | h <;> simp [h]
theorem mod_succ' (x k : Nat) : x % 2 ^ (k + 1) = x % 2 ^ k + x / 2 ^ k % 2 * 2 ^ k := by rw [Nat.pow_succ, Nat.mod_mul, Nat.mul_comm (2 ^ k)]
theorem ch_bit {e f g k : Nat} (hk : k < 32) : chN e f g / 2 ^ k % 2 = if e / 2 ^ k % 2 = 1 then f / 2 ^ k % 2 else g / 2 ^ k % 2 := by
  simp only [bit_val]
  unfold chN
  have hM : (4294967295 : Nat).testBit k = true := by
    have : (4294967295 : Nat) = 2 ^ 32 - 1 := by decide
    rw [this, Nat.testBit_two_pow_sub_one]; simpa using hk
  rw [Nat.testBit_xor, Nat.testBit_and, Nat.testBit_and, Nat.testBit_xor, hM]
  cases e.testBit k <;> cases f.testBit k <;> cases g.testBit k <;> simp
theorem maj_bit {a b c k : Nat} : majN a b c / 2 ^ k % 2 = if 2 ≤ a / 2 ^ k % 2 + b / 2 ^ k % 2 + c / 2 ^ k % 2 then 1 else 0 := by
  simp only [bit_val]
  unfold majN
  rw [Nat.testBit_xor, Nat.testBit_xor, Nat.testBit_and, Nat.testBit_and, Nat.testBit_and]
  cases a.testBit k <;> cases b.testBit k <;> cases c.testBit k <;> simp

def kN : List Nat := [0x428a2f98, 0x71374491, 0xb5c0fbcf, 0xe9b5dba5, 0x3956c25b, 0x59f111f1, 0x923f82a4, 0xab1c5ed5, 0xd807aa98, 0x12835b01, 0x243185be, 0x550c7dc3, 0x72be5d74, 0x80deb1fe, 0x9bdc06a7, 0xc19bf174, 0xe49b69c1, 0xefbe4786, 0x0fc19dc6, 0x240ca1cc, 0x2de92c6f, 0x4a7484aa, 0x5cb0a9dc, 0x76f988da, 0x983e5152, 0xa831c66d, 0xb00327c8, 0xbf597fc7, 0xc6e00bf3, 0xd5a79147, 0x06ca6351, 0x14292967, 0x27b70a85, 0x2e1b2138, 0x4d2c6dfc, 0x53380d13, 0x650a7354, 0x766a0abb, 0x81c2c92e, 0x92722c85, 0xa2bfe8a1, 0xa81a664b, 0xc24b8b70, 0xc76c51a3, 0xd192e819, 0xd6990624, 0xf40e3585, 0x106aa070, 0x19a4c116, 0x1e376c08, 0x2748774c, 0x34b0bcb5, 0x391c0cb3, 0x4ed8aa4a, 0x5b9cca4f, 0x682e6ff3, 0x748f82ee, 0x78a5636f, 0x84c87814, 0x8cc70208, 0x90befffa, 0xa4506ceb, 0xbef9a3f7, 0xc67178f2]
def h0N : List Nat := [0x6a09e667, 0xbb67ae85, 0x3c6ef372, 0xa54ff53a, 0x510e527f, 0x9b05688c, 0x1f83d9ab, 0x5be0cd19]
/-- All are words of 32 bits. -/
def W32 (l : List Nat) : Prop := ∀ x ∈ l, x < 4294967296
theorem W32.at_ {l : List Nat} (h : W32 l) (i : Nat) : l.getD i 0 < 4294967296 := by
  rw [List.getD_eq_getElem?_getD]
  cases e : l[i]? with
  | none => simp
  | some x => simpa using h x (List.mem_of_getElem? e)
theorem k_W32 : W32 kN := by unfold W32 kN; decide
theorem h0_W32 : W32 h0N := by unfold W32 h0N; decide
/-- The word behind l (of 16 words or more) in the schedule. -/
def nextW (l : List Nat) : Nat := (((l.getD (l.length - 16) 0 + sg0 (l.getD (l.length - 15) 0)) % 4294967296 + l.getD (l.length - 7) 0) % 4294967296 + sg1 (l.getD (l.length - 2) 0)) % 4294967296
def schedN : Nat → List Nat → List Nat
  | 0, l => l
  | n + 1, l => schedN n (l ++ [nextW l])
theorem next_lt (l : List Nat) : nextW l < 4294967296 := Nat.mod_lt _ (by decide)
theorem sched_len : ∀ (n : Nat) (l : List Nat), (schedN n l).length = l.length + n
  | 0, l => rfl
  | n + 1, l => by rw [schedN, sched_len n]; simp; omega
theorem sched_W32 : ∀ (n : Nat) (l : List Nat), W32 l → W32 (schedN n l)
  | 0, l, h => h
  | n + 1, l, h => sched_W32 n _ (fun x hx => by
    rcases List.mem_append.1 hx with hx | hx
    · exact h x hx
    · simp at hx; rw [hx]; exact next_lt l)
theorem sched_snoc : ∀ (n : Nat) (l : List Nat), schedN (n + 1) l = schedN n l ++ [nextW (schedN n l)]
  | 0, l => rfl
  | n + 1, l => by rw [schedN, sched_snoc n]; rfl
def t1N (v : List Nat) (k w : Nat) : Nat := ((((v.getD 7 0 + bs1 (v.getD 4 0)) % 4294967296 + chN (v.getD 4 0) (v.getD 5 0) (v.getD 6 0)) % 4294967296 + k) % 4294967296 + w) % 4294967296
def t2N (v : List Nat) : Nat := (bs0 (v.getD 0 0) + majN (v.getD 0 0) (v.getD 1 0) (v.getD 2 0)) % 4294967296
def rndN (v : List Nat) (k w : Nat) : List Nat := [(t1N v k w + t2N v) % 4294967296, v.getD 0 0, v.getD 1 0, v.getD 2 0, (v.getD 3 0 + t1N v k w) % 4294967296, v.getD 4 0, v.getD 5 0, v.getD 6 0]
def rndsN : List Nat → List Nat → List Nat → List Nat
  | k :: ks, w :: ws, v => rndsN ks ws (rndN v k w)
  | _, _, v => v
def addN (v h : List Nat) : List Nat := List.zipWith (fun x y => (x + y) % 4294967296) v h
def blockN (h w : List Nat) : List Nat := addN (rndsN kN (schedN 48 w) h) h
theorem rnd_len (v : List Nat) (k w : Nat) : (rndN v k w).length = 8 := rfl
theorem rnd_W32 {v : List Nat} (h : W32 v) (k w : Nat) : W32 (rndN v k w) := by
  intro x hx
  simp only [rndN, List.mem_cons, List.not_mem_nil, or_false] at hx
  rcases hx with rfl | rfl | rfl | rfl | rfl | rfl | rfl | rfl
  all_goals first | exact Nat.mod_lt _ (by decide) | exact h.at_ _
theorem block_len {h w : List Nat} (hh : h.length = 8) : (blockN h w).length = 8 := by
  have : ∀ (ks ws v : List Nat), v.length = 8 → (rndsN ks ws v).length = 8 := by
    intro ks
    induction ks with
    | nil => intro ws v hv; exact hv
    | cons k ks ih => intro ws v hv; cases ws with
      | nil => exact hv
      | cons w ws => exact ih ws _ rfl
  unfold blockN addN
  rw [List.length_zipWith, this _ _ _ hh, hh]; rfl
theorem block_W32 {h w : List Nat} : W32 (blockN h w) := by
  intro x hx
  unfold blockN addN at hx
  obtain ⟨i, hi, rfl⟩ := List.mem_iff_getElem.1 hx
  rw [List.getElem_zipWith]
  exact Nat.mod_lt _ (by decide)
end Go.Proofs.YtnbghgenaolfgaaGreat

namespace Go.Proofs.YtnbghgenaolfgaaGreat
open Go.RowKit
set_option linter.unusedVariables false
set_option maxRecDepth 100000
set_option linter.unusedSimpArgs false

theorem wraps_u32 (n : Int) (h0 : 0 ≤ n) (h1 : n < 2 ^ 32) : IntKind.u32.wrap n = n := by rw [IntKind.wrap_u32]; omega
theorem or32 {a b : Nat} (ha : a < 4294967296) (hb : b < 4294967296) : bits .or .u32 (a : Int) (b : Int) = ((a ||| b : Nat) : Int) := (bits_nat .u32 32 (by decide) wraps_u32 a b (by omega) (by omega)).2
theorem and32 {a b : Nat} (ha : a < 4294967296) (hb : b < 4294967296) : bits .and .u32 (a : Int) (b : Int) = ((a &&& b : Nat) : Int) := (bits_nat .u32 32 (by decide) wraps_u32 a b (by omega) (by omega)).1
theorem xor32 {a b : Nat} (ha : a < 4294967296) (hb : b < 4294967296) : bits .xor .u32 (a : Int) (b : Int) = ((a ^^^ b : Nat) : Int) := by
  have hx : a ^^^ b < 2 ^ 32 := Nat.xor_lt_two_pow (by omega) (by omega)
  have h1 : (BitVec.ofInt 32 (a : Int)).toNat = a := by rw [BitVec.ofInt_natCast, BitVec.toNat_ofNat]; exact Nat.mod_eq_of_lt (by omega)
  have h2 : (BitVec.ofInt 32 (b : Int)).toNat = b := by rw [BitVec.ofInt_natCast, BitVec.toNat_ofNat]; exact Nat.mod_eq_of_lt (by omega)
  show IntKind.u32.wrap ((BitVec.ofInt 32 (a : Int) ^^^ BitVec.ofInt 32 (b : Int)).toNat : Int) = _
  rw [BitVec.toNat_xor, h1, h2, IntKind.wrap_u32]
  omega
theorem add32 (a b : Nat) : IntKind.u32.wrap ((a : Int) + (b : Int)) = (((a + b) % 4294967296 : Nat) : Int) := by rw [IntKind.wrap_u32]; omega
theorem rot_val {x k : Nat} (hx : x < 4294967296) (hk : k ≤ 32) : bits .or .u32 ((x : Int) / 2 ^ k) (IntKind.u32.wrap ((x : Int) * 2 ^ (32 - k))) = ((rotN x k : Nat) : Int) := by
  have e1 : ((x : Int) / 2 ^ k) = ((x / 2 ^ k : Nat) : Int) := by simp
  have e2 : IntKind.u32.wrap ((x : Int) * 2 ^ (32 - k)) = ((x * 2 ^ (32 - k) % 4294967296 : Nat) : Int) := by rw [IntKind.wrap_u32]; simp
  rw [e1, e2, or32 (Nat.lt_of_le_of_lt (Nat.div_le_self _ _) hx) (Nat.mod_lt _ (by decide)), rot_or hx hk]

theorem rot2 (x : Nat) (w : World) (hx : x < 4294967296) :
    Calls Tryz.prog 239 #[.int .u32 (x : Int), .int .i64 2] w fun e w' => e = .returned (.int .u32 ((rotN x 2 : Nat) : Int)) ∧ w = w' := by
  have hb : bits .and .u64 2 31 = 2 := by decide
  go_enter Tryz.func239, Tryz.ntmps239
  go_wp2
  go_ret
  exact ⟨by rw [← rot_val hx (by decide)]; rfl, rfl⟩

theorem rot6 (x : Nat) (w : World) (hx : x < 4294967296) :
    Calls Tryz.prog 239 #[.int .u32 (x : Int), .int .i64 6] w fun e w' => e = .returned (.int .u32 ((rotN x 6 : Nat) : Int)) ∧ w = w' := by
  have hb : bits .and .u64 6 31 = 6 := by decide
  go_enter Tryz.func239, Tryz.ntmps239
  go_wp2
  go_ret
  exact ⟨by rw [← rot_val hx (by decide)]; rfl, rfl⟩

theorem rot7 (x : Nat) (w : World) (hx : x < 4294967296) :
    Calls Tryz.prog 239 #[.int .u32 (x : Int), .int .i64 7] w fun e w' => e = .returned (.int .u32 ((rotN x 7 : Nat) : Int)) ∧ w = w' := by
  have hb : bits .and .u64 7 31 = 7 := by decide
  go_enter Tryz.func239, Tryz.ntmps239
  go_wp2
  go_ret
  exact ⟨by rw [← rot_val hx (by decide)]; rfl, rfl⟩

theorem rot11 (x : Nat) (w : World) (hx : x < 4294967296) :
    Calls Tryz.prog 239 #[.int .u32 (x : Int), .int .i64 11] w fun e w' => e = .returned (.int .u32 ((rotN x 11 : Nat) : Int)) ∧ w = w' := by
  have hb : bits .and .u64 11 31 = 11 := by decide
  go_enter Tryz.func239, Tryz.ntmps239
  go_wp2
  go_ret
  exact ⟨by rw [← rot_val hx (by decide)]; rfl, rfl⟩

theorem rot13 (x : Nat) (w : World) (hx : x < 4294967296) :
    Calls Tryz.prog 239 #[.int .u32 (x : Int), .int .i64 13] w fun e w' => e = .returned (.int .u32 ((rotN x 13 : Nat) : Int)) ∧ w = w' := by
  have hb : bits .and .u64 13 31 = 13 := by decide
  go_enter Tryz.func239, Tryz.ntmps239
  go_wp2
  go_ret
  exact ⟨by rw [← rot_val hx (by decide)]; rfl, rfl⟩

theorem rot17 (x : Nat) (w : World) (hx : x < 4294967296) :
    Calls Tryz.prog 239 #[.int .u32 (x : Int), .int .i64 17] w fun e w' => e = .returned (.int .u32 ((rotN x 17 : Nat) : Int)) ∧ w = w' := by
  have hb : bits .and .u64 17 31 = 17 := by decide
  go_enter Tryz.func239, Tryz.ntmps239
  go_wp2
  go_ret
  exact ⟨by rw [← rot_val hx (by decide)]; rfl, rfl⟩

theorem rot18 (x : Nat) (w : World) (hx : x < 4294967296) :
    Calls Tryz.prog 239 #[.int .u32 (x : Int), .int .i64 18] w fun e w' => e = .returned (.int .u32 ((rotN x 18 : Nat) : Int)) ∧ w = w' := by
  have hb : bits .and .u64 18 31 = 18 := by decide
  go_enter Tryz.func239, Tryz.ntmps239
  go_wp2
  go_ret
  exact ⟨by rw [← rot_val hx (by decide)]; rfl, rfl⟩

theorem rot19 (x : Nat) (w : World) (hx : x < 4294967296) :
    Calls Tryz.prog 239 #[.int .u32 (x : Int), .int .i64 19] w fun e w' => e = .returned (.int .u32 ((rotN x 19 : Nat) : Int)) ∧ w = w' := by
  have hb : bits .and .u64 19 31 = 19 := by decide
  go_enter Tryz.func239, Tryz.ntmps239
  go_wp2
  go_ret
  exact ⟨by rw [← rot_val hx (by decide)]; rfl, rfl⟩

theorem rot22 (x : Nat) (w : World) (hx : x < 4294967296) :
    Calls Tryz.prog 239 #[.int .u32 (x : Int), .int .i64 22] w fun e w' => e = .returned (.int .u32 ((rotN x 22 : Nat) : Int)) ∧ w = w' := by
  have hb : bits .and .u64 22 31 = 22 := by decide
  go_enter Tryz.func239, Tryz.ntmps239
  go_wp2
  go_ret
  exact ⟨by rw [← rot_val hx (by decide)]; rfl, rfl⟩

theorem rot25 (x : Nat) (w : World) (hx : x < 4294967296) :
    Calls Tryz.prog 239 #[.int .u32 (x : Int), .int .i64 25] w fun e w' => e = .returned (.int .u32 ((rotN x 25 : Nat) : Int)) ∧ w = w' := by
  have hb : bits .and .u64 25 31 = 25 := by decide
  go_enter Tryz.func239, Tryz.ntmps239
  go_wp2
  go_ret
  exact ⟨by rw [← rot_val hx (by decide)]; rfl, rfl⟩

end Go.Proofs.YtnbghgenaolfgaaGreat

/- Words that all texts of this seat share: what is new lies behind what was; a struct argument laid open into its cells. No condition. -/
import Derived.Test.YtpmfmkkifkpdcaaProg
import Derived.WalkKit
import Derived.ProofKit
import Derived.OpenShut
import Derived.ShutString
import Derived.ChangeOld
import Derived.Below
import Derived.SizedLaws
import Derived.Carry
import Derived.OwnWalk
import Derived.Tactics
import Derived.Laws.Slices
import Derived.Lib.SmallJoins
import Derived.Lib.Hide
import Derived.Deep.DeepMust
namespace Go.Proofs.Ytpmfmkkifkpdcaa
open Go.ChangeShapes Go.WideShapes Go.ChangeAt Go.RowKit
set_option linter.unusedVariables false
set_option maxRecDepth 100000

theorem bR (w : World) : Below w.heap.size w w := Below.refl _ _
theorem bA {w W : World} (h : Below w.heap.size w W) (o : Obj) : Below w.heap.size w (W.alloc o) := h.alloc h.size o
theorem bD {w W : World} (h : Below w.heap.size w W) : Below w.heap.size w W.drew := h.drew
theorem bN {w W : World} (h : Below w.heap.size w W) (n : Nat) : Below w.heap.size w (W.drewN n) := ⟨h.os, h.tape, h.output, h.size, h.block⟩
theorem bS {w W : World} {g j : Nat} {v : Value} (h : Below w.heap.size w W) (hg : w.heap.size ≤ g) : Below w.heap.size w (W.setCell ⟨g, j, none⟩ v) := h.setCell hg _
theorem bT {w W w2 : World} (h : Below w.heap.size w W) (k : Below W.heap.size W w2) : Below w.heap.size w w2 := h.trans (k.mono h.size)
theorem bel1 (w : World) (o : Obj) : Below w.heap.size w (w.alloc o) := (Below.refl _ _).alloc (Nat.le_refl _) o
theorem bcell {W w1 : World} (hb : Below W.heap.size W w1) : (∀ b o, b < W.heap.size → w1.cell? ⟨b, o, none⟩ = W.cell? ⟨b, o, none⟩) ∧ (∀ b o, b < W.heap.size → w1.frozen? ⟨b, o, none⟩ = W.frozen? ⟨b, o, none⟩) :=
  ⟨fun b o h => hb.cell (p := ⟨b, o, none⟩) h, fun b o h => hb.frozen (p := ⟨b, o, none⟩) h⟩

/-- Is a number from least to most? -/
def wB (n a b : Int) : Bool := decide (a ≤ n) && decide (n ≤ b)
theorem wB_iff {n a b : Int} (h : wB n a b = true) : a ≤ n ∧ n ≤ b := by simpa [wB] using h
theorem wB_mk {n a b : Int} (h : a ≤ n) (k : n ≤ b) : wB n a b = true := by simp [wB, h, k]
theorem wB_no {n a b : Int} (h : n < a ∨ b < n) : wB n a b = false := by
  unfold wB
  rcases h with h | h
  · rw [decide_eq_false (by omega)]; rfl
  · rw [decide_eq_false (p := n ≤ b) (by omega)]; simp

section leaves
variable {H : Type} {enc : TypeId × Value → H} {P : Program} {w : World} {base : Nat} {spare : Nat → Bool} {held : Bool}

def Lv (R : TypeId → Value → Prop) : List TypeId → List Value → Prop
  | [], [] => True
  | t :: ts, v :: vs => R t v ∧ Lv R ts vs
  | _, _ => False
theorem Lv_append {R : TypeId → Value → Prop} : ∀ (ts : List TypeId) (vs : List Value) (ts' : List TypeId) (vs' : List Value), Lv R ts vs → Lv R ts' vs' → Lv R (ts ++ ts') (vs ++ vs')
  | [], [], _, _, _, h => h
  | _ :: ts, _ :: vs, ts', vs', h, k => ⟨h.1, Lv_append ts vs ts' vs' h.2 k⟩
  | [], _ :: _, _, _, h, _ => h.elim
  | _ :: _, [], _, _, h, _ => h.elim
theorem Lv_cons {R : TypeId → Value → Prop} {t : TypeId} {ts : List TypeId} {l : List Value} (h : Lv R (t :: ts) l) : ∃ v vs, l = v :: vs ∧ R t v ∧ Lv R ts vs := by
  cases l with
  | nil => exact h.elim
  | cons v vs => exact ⟨v, vs, rfl, h.1, h.2⟩
theorem Lv_nil {R : TypeId → Value → Prop} {l : List Value} (h : Lv R [] l) : l = [] := by
  cases l with
  | nil => rfl
  | cons v vs => exact h.elim

def leavesOf (P : Program) : Nat → TypeId → List TypeId
  | 0, t => [t]
  | n + 1, t => match P.underlying t with
    | some (.struct fs) => fs.toList.flatMap fun f => leavesOf P n f.type
    | _ => [t]
def contigF (P : Program) (c : TypeId → Bool) (tot : Nat) : Nat → List Field → Bool
  | off, [] => decide (off = tot)
  | off, f :: fs => decide (f.offset = off) && (c f.type && contigF P c tot (off + P.cellsOf f.type) fs)
def contig (P : Program) : Nat → TypeId → Bool
  | 0, t => decide (P.cellsOf t = 1)
  | n + 1, t => match P.underlying t with
    | some (.struct fs) => contigF P (contig P n) (P.cellsOf t) 0 fs.toList
    | _ => decide (P.cellsOf t = 1)

def Leaf (enc : TypeId × Value → H) (P : Program) (w : World) (base : Nat) (spare : Nat → Bool) (held : Bool) (t : TypeId) (v : Value) : Prop := ∃ m y, DataW.trod enc P w base spare held m t [v] = some y

theorem contigF_le {c : TypeId → Bool} {tot : Nat} : ∀ (fs : List Field) (off : Nat), contigF P c tot off fs = true → off ≤ tot
  | [], off, h => by simp [contigF] at h; omega
  | f :: fs, off, h => by
    simp [contigF] at h
    have := contigF_le fs _ h.2.2
    omega

theorem leaf_one {t : TypeId} {fuel : Nat} {cs : List Value} {x : DataW H × List MemPlace} (h1 : P.cellsOf t = 1) (hl : cs.length = P.cellsOf t) (h : DataW.trod enc P w base spare held fuel t cs = some x) :
    Lv (Leaf enc P w base spare held) [t] cs := by
  match cs, hl with
  | [v], _ => exact ⟨⟨fuel, x, h⟩, trivial⟩
  | [], hl => simp [h1] at hl
  | _ :: _ :: _, hl => simp [h1] at hl

theorem open_fields {n : Nat} {k : Nat} {cs : List Value} {tot : Nat} (hc : cs.length = tot)
    (ih : ∀ t, contig P n t = true → ∀ fuel cs x, cs.length = P.cellsOf t → DataW.trod enc P w base spare held fuel t cs = some x → Lv (Leaf enc P w base spare held) (leavesOf P n t) cs) :
    ∀ (fs : List Field) (off : Nat), contigF P (contig P n) tot off fs = true →
      (∀ f, f ∈ fs → ∃ y, DataW.trod enc P w base spare held k f.type ((cs.drop f.offset).take (P.cellsOf f.type)) = some y) →
      Lv (Leaf enc P w base spare held) (fs.flatMap fun f => leavesOf P n f.type) (cs.drop off)
  | [], off, h, _ => by
    simp [contigF] at h
    rw [List.drop_eq_nil_of_le (by omega)]
    exact trivial
  | f :: fs, off, h, hf => by
    simp [contigF] at h
    obtain ⟨ho, hk, hr⟩ := h
    obtain ⟨y, hy⟩ := hf f (by simp)
    rw [ho] at hy
    have hle := contigF_le fs _ hr
    have e : cs.drop off = (cs.drop off).take (P.cellsOf f.type) ++ cs.drop (off + P.cellsOf f.type) := by
      rw [← List.drop_drop]; exact (List.take_append_drop _ _).symm
    rw [e, List.flatMap_cons]
    refine Lv_append _ _ _ _ (ih f.type hk k _ y ?_ hy) (open_fields hc ih fs _ hr fun g hg => hf g (by simp [hg]))
    rw [List.length_take, List.length_drop]
    omega

theorem open_leaves : ∀ (n : Nat) (t : TypeId), contig P n t = true → ∀ (fuel : Nat) (cs : List Value) (x : DataW H × List MemPlace), cs.length = P.cellsOf t → DataW.trod enc P w base spare held fuel t cs = some x →
    Lv (Leaf enc P w base spare held) (leavesOf P n t) cs
  | 0, t, h, fuel, cs, x, hl, hx => by
    simp [contig] at h
    exact leaf_one h hl hx
  | n + 1, t, h, fuel, cs, x, hl, hx => by
    unfold contig at h
    unfold leavesOf
    cases hu : P.underlying t with
    | none => rw [hu] at h; simp at h; exact leaf_one h hl hx
    | some u =>
      rw [hu] at h
      cases u with
      | struct fs =>
        simp only at h ⊢
        obtain ⟨xs, k, _, _, _, hlen, hf⟩ := DataW.trod_struct hu hx
        have := open_fields (k := k) (cs := cs) hl (open_leaves n) fs.toList 0 h (fun f hfm => by
          obtain ⟨i, hi, e⟩ := List.getElem_of_mem hfm
          have hi' : i < fs.size := by simpa using hi
          have e' : fs[i]? = some f := by rw [Array.getElem?_eq_getElem hi']; simpa using e
          have := hf i f e'
          rw [List.getElem?_eq_getElem (by omega)] at this
          exact ⟨_, this⟩)
        simpa using this
      | _ => simp at h; exact leaf_one h hl hx

theorem leaf_int {t : TypeId} {k : IntKind} {v : Value} (ht : P.underlying t = some (.int k)) (h : Leaf enc P w base spare held t v) : ∃ n, v = .int k n ∧ (Lit.int k n).wf = true := by
  obtain ⟨m, y, hy⟩ := h
  obtain ⟨n, e, _, hw⟩ := DataW.trod_int ht hy
  simp at e
  exact ⟨n, e, hw⟩
theorem leaf_bool {t : TypeId} {v : Value} (ht : P.underlying t = some .bool) (h : Leaf enc P w base spare held t v) : ∃ b, v = .bool b := by
  obtain ⟨m, y, hy⟩ := h
  obtain ⟨n, e, _⟩ := DataW.trod_bool ht hy
  simp at e
  exact ⟨n, e⟩
theorem wf64 {n : Int} (h : (Lit.int .i64 n).wf = true) : -9223372036854775808 ≤ n ∧ n ≤ 9223372036854775807 := by
  simp only [Lit.wf, Bool.and_eq_true, decide_eq_true_eq] at h
  have e1 : IntKind.min .i64 = -9223372036854775808 := by decide
  have e2 : IntKind.max .i64 = 9223372036854775807 := by decide
  omega
end leaves
end Go.Proofs.Ytpmfmkkifkpdcaa

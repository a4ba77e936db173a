/- Words that all texts of this seat share: what is new lies behind what was; a struct argument laid open into its cells. Words on memory: a slice of numbers that reads as a list; what a row of the call's own gives of it. A leaf of an argument that is a slice of numbers: it reads as a list. A range over a function, where the iterator keeps state of its own in memory: the statement and the round, at the wide fence, without an abstract invariant. Layer 5: keys and rings of them: what they are, what ring.right tells. Layer 5: what ring.Is tells, for all keys. No condition. -/
import Derived.Test.YtnbghgenaolfgaaProg
import Derived.WalkKit
import Derived.ProofKit
import Derived.OpenShut
import Derived.ShutString
import Derived.ChangeOld
import Derived.Below
import Derived.SizedLaws
import Derived.Carry
import Derived.OwnWalk
import Derived.Tactics
import Derived.Laws.Slices
import Derived.Lib.SmallJoins
import Derived.Lib.Hide
import Derived.Deep.DeepMust
import Derived.Laws.OwnMore
import Derived.Maps.AppendAt
import Derived.Deep.AppendLies
import Derived.Deep.Draws
import Derived.RangeFuncNested
import Derived.RangeFuncBound
import Derived.RangeFuncCalls
import Derived.RangeFuncLeaves
import Derived.RangeFuncBox
import Derived.Shelf.Abstract
import Derived.OwnWalkIn
import Derived.TacticsInMore
import Derived.LoopNIn
import Derived.LoopIn
import Derived.Deep.RegionHeld3
namespace Go.Proofs.Ytnbghgenaolfgaa
open Go.ChangeShapes Go.WideShapes Go.ChangeAt Go.RowKit
set_option linter.unusedVariables false
set_option maxRecDepth 100000

theorem bR (w : World) : Below w.heap.size w w := Below.refl _ _
theorem bA {w W : World} (h : Below w.heap.size w W) (o : Obj) : Below w.heap.size w (W.alloc o) := h.alloc h.size o
theorem bD {w W : World} (h : Below w.heap.size w W) : Below w.heap.size w W.drew := h.drew
theorem bN {w W : World} (h : Below w.heap.size w W) (n : Nat) : Below w.heap.size w (W.drewN n) := ⟨h.os, h.tape, h.output, h.size, h.block⟩
theorem bS {w W : World} {g j : Nat} {v : Value} (h : Below w.heap.size w W) (hg : w.heap.size ≤ g) : Below w.heap.size w (W.setCell ⟨g, j, none⟩ v) := h.setCell hg _
theorem bT {w W w2 : World} (h : Below w.heap.size w W) (k : Below W.heap.size W w2) : Below w.heap.size w w2 := h.trans (k.mono h.size)
theorem bel1 (w : World) (o : Obj) : Below w.heap.size w (w.alloc o) := (Below.refl _ _).alloc (Nat.le_refl _) o
theorem bcell {W w1 : World} (hb : Below W.heap.size W w1) : (∀ b o, b < W.heap.size → w1.cell? ⟨b, o, none⟩ = W.cell? ⟨b, o, none⟩) ∧ (∀ b o, b < W.heap.size → w1.frozen? ⟨b, o, none⟩ = W.frozen? ⟨b, o, none⟩) :=
  ⟨fun b o h => hb.cell (p := ⟨b, o, none⟩) h, fun b o h => hb.frozen (p := ⟨b, o, none⟩) h⟩

/-- Is a number from least to most? -/
def wB (n a b : Int) : Bool := decide (a ≤ n) && decide (n ≤ b)
theorem wB_iff {n a b : Int} (h : wB n a b = true) : a ≤ n ∧ n ≤ b := by simpa [wB] using h
theorem wB_mk {n a b : Int} (h : a ≤ n) (k : n ≤ b) : wB n a b = true := by simp [wB, h, k]
theorem wB_no {n a b : Int} (h : n < a ∨ b < n) : wB n a b = false := by
  unfold wB
  rcases h with h | h
  · rw [decide_eq_false (by omega)]; rfl
  · rw [decide_eq_false (p := n ≤ b) (by omega)]; simp

section leaves
variable {H : Type} {enc : TypeId × Value → H} {P : Program} {w : World} {base : Nat} {spare : Nat → Bool} {held : Bool}

def Lv (R : TypeId → Value → Prop) : List TypeId → List Value → Prop
  | [], [] => True
  | t :: ts, v :: vs => R t v ∧ Lv R ts vs
  | _, _ => False
theorem Lv_append {R : TypeId → Value → Prop} : ∀ (ts : List TypeId) (vs : List Value) (ts' : List TypeId) (vs' : List Value), Lv R ts vs → Lv R ts' vs' → Lv R (ts ++ ts') (vs ++ vs')
  | [], [], _, _, _, h => h
  | _ :: ts, _ :: vs, ts', vs', h, k => ⟨h.1, Lv_append ts vs ts' vs' h.2 k⟩
  | [], _ :: _, _, _, h, _ => h.elim
  | _ :: _, [], _, _, h, _ => h.elim
theorem Lv_cons {R : TypeId → Value → Prop} {t : TypeId} {ts : List TypeId} {l : List Value} (h : Lv R (t :: ts) l) : ∃ v vs, l = v :: vs ∧ R t v ∧ Lv R ts vs := by
  cases l with
  | nil => exact h.elim
  | cons v vs => exact ⟨v, vs, rfl, h.1, h.2⟩
theorem Lv_nil {R : TypeId → Value → Prop} {l : List Value} (h : Lv R [] l) : l = [] := by
  cases l with
  | nil => rfl
  | cons v vs => exact h.elim

def leavesOf (P : Program) : Nat → TypeId → List TypeId
  | 0, t => [t]
  | n + 1, t => match P.underlying t with
    | some (.struct fs) => fs.toList.flatMap fun f => leavesOf P n f.type
    | _ => [t]
def contigF (P : Program) (c : TypeId → Bool) (tot : Nat) : Nat → List Field → Bool
  | off, [] => decide (off = tot)
  | off, f :: fs => decide (f.offset = off) && (c f.type && contigF P c tot (off + P.cellsOf f.type) fs)
def contig (P : Program) : Nat → TypeId → Bool
  | 0, t => decide (P.cellsOf t = 1)
  | n + 1, t => match P.underlying t with
    | some (.struct fs) => contigF P (contig P n) (P.cellsOf t) 0 fs.toList
    | _ => decide (P.cellsOf t = 1)

def Leaf (enc : TypeId × Value → H) (P : Program) (w : World) (base : Nat) (spare : Nat → Bool) (held : Bool) (t : TypeId) (v : Value) : Prop := ∃ m y, DataW.trod enc P w base spare held m t [v] = some y

theorem contigF_le {c : TypeId → Bool} {tot : Nat} : ∀ (fs : List Field) (off : Nat), contigF P c tot off fs = true → off ≤ tot
  | [], off, h => by simp [contigF] at h; omega
  | f :: fs, off, h => by
    simp [contigF] at h
    have := contigF_le fs _ h.2.2
    omega

theorem leaf_one {t : TypeId} {fuel : Nat} {cs : List Value} {x : DataW H × List MemPlace} (h1 : P.cellsOf t = 1) (hl : cs.length = P.cellsOf t) (h : DataW.trod enc P w base spare held fuel t cs = some x) :
    Lv (Leaf enc P w base spare held) [t] cs := by
  match cs, hl with
  | [v], _ => exact ⟨⟨fuel, x, h⟩, trivial⟩
  | [], hl => simp [h1] at hl
  | _ :: _ :: _, hl => simp [h1] at hl

theorem open_fields {n : Nat} {k : Nat} {cs : List Value} {tot : Nat} (hc : cs.length = tot)
    (ih : ∀ t, contig P n t = true → ∀ fuel cs x, cs.length = P.cellsOf t → DataW.trod enc P w base spare held fuel t cs = some x → Lv (Leaf enc P w base spare held) (leavesOf P n t) cs) :
    ∀ (fs : List Field) (off : Nat), contigF P (contig P n) tot off fs = true →
      (∀ f, f ∈ fs → ∃ y, DataW.trod enc P w base spare held k f.type ((cs.drop f.offset).take (P.cellsOf f.type)) = some y) →
      Lv (Leaf enc P w base spare held) (fs.flatMap fun f => leavesOf P n f.type) (cs.drop off)
  | [], off, h, _ => by
    simp [contigF] at h
    rw [List.drop_eq_nil_of_le (by omega)]
    exact trivial
  | f :: fs, off, h, hf => by
    simp [contigF] at h
    obtain ⟨ho, hk, hr⟩ := h
    obtain ⟨y, hy⟩ := hf f (by simp)
    rw [ho] at hy
    have hle := contigF_le fs _ hr
    have e : cs.drop off = (cs.drop off).take (P.cellsOf f.type) ++ cs.drop (off + P.cellsOf f.type) := by
      rw [← List.drop_drop]; exact (List.take_append_drop _ _).symm
    rw [e, List.flatMap_cons]
    refine Lv_append _ _ _ _ (ih f.type hk k _ y ?_ hy) (open_fields hc ih fs _ hr fun g hg => hf g (by simp [hg]))
    rw [List.length_take, List.length_drop]
    omega

theorem open_leaves : ∀ (n : Nat) (t : TypeId), contig P n t = true → ∀ (fuel : Nat) (cs : List Value) (x : DataW H × List MemPlace), cs.length = P.cellsOf t → DataW.trod enc P w base spare held fuel t cs = some x →
    Lv (Leaf enc P w base spare held) (leavesOf P n t) cs
  | 0, t, h, fuel, cs, x, hl, hx => by
    simp [contig] at h
    exact leaf_one h hl hx
  | n + 1, t, h, fuel, cs, x, hl, hx => by
    unfold contig at h
    unfold leavesOf
    cases hu : P.underlying t with
    | none => rw [hu] at h; simp at h; exact leaf_one h hl hx
    | some u =>
      rw [hu] at h
      cases u with
      | struct fs =>
        simp only at h ⊢
        obtain ⟨xs, k, _, _, _, hlen, hf⟩ := DataW.trod_struct hu hx
        have := open_fields (k := k) (cs := cs) hl (open_leaves n) fs.toList 0 h (fun f hfm => by
          obtain ⟨i, hi, e⟩ := List.getElem_of_mem hfm
          have hi' : i < fs.size := by simpa using hi
          have e' : fs[i]? = some f := by rw [Array.getElem?_eq_getElem hi']; simpa using e
          have := hf i f e'
          rw [List.getElem?_eq_getElem (by omega)] at this
          exact ⟨_, this⟩)
        simpa using this
      | _ => simp at h; exact leaf_one h hl hx

theorem leaf_int {t : TypeId} {k : IntKind} {v : Value} (ht : P.underlying t = some (.int k)) (h : Leaf enc P w base spare held t v) : ∃ n, v = .int k n ∧ (Lit.int k n).wf = true := by
  obtain ⟨m, y, hy⟩ := h
  obtain ⟨n, e, _, hw⟩ := DataW.trod_int ht hy
  simp at e
  exact ⟨n, e, hw⟩
theorem leaf_bool {t : TypeId} {v : Value} (ht : P.underlying t = some .bool) (h : Leaf enc P w base spare held t v) : ∃ b, v = .bool b := by
  obtain ⟨m, y, hy⟩ := h
  obtain ⟨n, e, _⟩ := DataW.trod_bool ht hy
  simp at e
  exact ⟨n, e⟩
theorem wf64 {n : Int} (h : (Lit.int .i64 n).wf = true) : -9223372036854775808 ≤ n ∧ n ≤ 9223372036854775807 := by
  simp only [Lit.wf, Bool.and_eq_true, decide_eq_true_eq] at h
  have e1 : IntKind.min .i64 = -9223372036854775808 := by decide
  have e2 : IntKind.max .i64 = 9223372036854775807 := by decide
  omega
end leaves
end Go.Proofs.Ytnbghgenaolfgaa

namespace Go.Proofs.Ytnbghgenaolfgaa
open Go.RowKit
set_option linter.unusedVariables false
set_option maxRecDepth 100000

/-- The slice at A reads as the numbers l. -/
def RdI (w : World) (k : IntKind) (A : Option Addr) (l : List Int) : Prop :=
  l = [] ∨ ∃ ad, A = some ad ∧ ad.block < w.heap.size ∧ ∀ j, j < l.length → w.cell? (ad.add j) = some (.int k (l.getD j 0))

theorem add_block (a : Addr) (i : Nat) : (a.add i).block = a.block := by unfold Addr.add; split <;> rfl
theorem add_add (a : Addr) (i j : Nat) : (a.add i).add j = a.add (i + j) := by
  unfold Addr.add
  by_cases hi : i = 0
  · subst hi; simp
  · by_cases hj : j = 0
    · subst hj; simp [hi]
    · simp [hi, hj, Nat.add_assoc]
theorem add_succ (a : Addr) (j : Nat) : a.add (j + 1) = ⟨a.block, a.off + (j + 1), none⟩ := by unfold Addr.add; simp
theorem add_zero (a : Addr) : a.add 0 = a := by unfold Addr.add; simp

section
variable {w w' : World} {k : IntKind} {A : Option Addr} {l : List Int}
theorem RdI.nil (w : World) (k : IntKind) (A : Option Addr) : RdI w k A [] := .inl rfl
theorem RdI.at_ (h : RdI w k A l) {j : Nat} (hj : j < l.length) : ∃ ad, A = some ad ∧ w.cell? (ad.add j) = some (.int k (l.getD j 0)) := by
  rcases h with rfl | ⟨ad, e, _, hc⟩
  · simp at hj
  · exact ⟨ad, e, hc j hj⟩
theorem RdI.below (h : RdI w k A l) (hb : Below w.heap.size w w') : RdI w' k A l := by
  rcases h with rfl | ⟨ad, e, hlt, hc⟩
  · exact .inl rfl
  · exact .inr ⟨ad, e, Nat.lt_of_lt_of_le hlt hb.size, fun j hj => (hb.cell (p := ad.add j) (by rw [add_block]; exact hlt)).trans (hc j hj)⟩
theorem RdI.keep (h : RdI w k A l) (hs : w.heap.size ≤ w'.heap.size) (hb : ∀ b, b < w.heap.size → w'.heap[b]? = w.heap[b]?) : RdI w' k A l := by
  rcases h with rfl | ⟨ad, e, hlt, hc⟩
  · exact .inl rfl
  · exact .inr ⟨ad, e, Nat.lt_of_lt_of_le hlt hs, fun j hj => (World.cell?_of_block (hb (ad.add j).block (by rw [add_block]; exact hlt))).trans (hc j hj)⟩
theorem RdI.of_own {base e : Nat} {c : Nat} (h : w.ownsRow base e 1 (.slice A l.length c) l.length (l.map (.int k))) : RdI w k A l := by
  by_cases hl : l = []
  · exact .inl hl
  · have hp : 0 < l.length := List.length_pos_iff.mpr hl
    rcases h.2 with ⟨_, h0⟩ | ⟨g, cap, cur, hv, _, hh, _⟩
    · omega
    · have hA : A = some ⟨g, 0, none⟩ := by injection hv
      subst hA
      refine .inr ⟨_, rfl, (h.lt g rfl).2, fun j hj => h.cells rfl j _ ?_⟩
      rw [List.getElem?_map, List.getElem?_eq_getElem hj]
      simp [hj]
theorem own_slice {base e n : Nat} {v : Value} {cs : List Value} (h : w.ownsRow base e 1 v n cs) : ∃ A c, v = .slice A n c ∧ n ≤ c ∧ c ≤ maxLen := by
  rcases h.2 with ⟨rfl, rfl⟩ | ⟨g, cap, cur, rfl, _, _, h1, h2, _⟩
  · exact ⟨none, 0, rfl, Nat.le_refl _, by simp [maxLen]⟩
  · exact ⟨_, cap, rfl, h1, h2⟩
theorem own_below {base e n size : Nat} {v : Value} {cs : List Value} (h : w.ownsRow base e size v n cs) (hb : Below w.heap.size w w') : w'.ownsRow base e size v n cs := by
  obtain ⟨h1, h2⟩ := h
  refine ⟨h1, h2.imp id fun ⟨g, cap, cur, e1, e2, e3, e4⟩ => ⟨g, cap, cur, e1, e2, ?_, e4⟩⟩
  have hlt : g < w.heap.size := by
    rcases Nat.lt_or_ge g w.heap.size with h | h
    · exact h
    · rw [Array.getElem?_eq_none h] at e3; cases e3
  exact (hb.block g hlt).trans e3
theorem own_base {base base' e n size : Nat} {v : Value} {cs : List Value} (h : w.ownsRow base e size v n cs) (hb : base' ≤ base) : w.ownsRow base' e size v n cs := by
  obtain ⟨h1, h2⟩ := h
  exact ⟨h1, h2.imp id fun ⟨g, cap, cur, e1, e2, e3⟩ => ⟨g, cap, cur, e1, Nat.le_trans hb e2, e3⟩⟩
end
theorem drop_cons {l : List Int} {k : Nat} (h : k < l.length) : l.drop k = l.getD k 0 :: l.drop (k + 1) := by
  rw [List.drop_eq_getElem_cons h]; simp [h]
theorem bG {w W w2 : World} {row : Option Nat} (h : Below w.heap.size w W) (hg : W.grownBy w2 row) (hr : ∀ k, row = some k → w.heap.size ≤ k) : Below w.heap.size w w2 := h.grown hg h.size hr
theorem own_ge {w : World} {base e n size : Nat} {v : Value} {cs : List Value} (h : w.ownsRow base e size v n cs) : ∀ k, v.ownBlock = some k → base ≤ k := fun k hk => (h.lt k hk).1
theorem one_ints (k : IntKind) (l : List Int) : ∀ u ∈ l.map (Value.int k), u.oneCell' = true := by
  intro u hu
  obtain ⟨x, _, rfl⟩ := List.mem_map.1 hu
  rfl
theorem RdI.lit1 (w : World) (k : IntKind) (x : Int) (t : TypeId) : RdI (w.alloc (.cells #[.int k x] t)) k (some ⟨w.heap.size, 0, none⟩) [x] := by
  refine .inr ⟨_, rfl, by simp, fun j hj => ?_⟩
  have : j = 0 := by simp at hj; omega
  subst this
  rw [add_zero, World.cell?_alloc_at _ _ _ _ rfl]; rfl
theorem RdI.lit (w : World) (k : IntKind) (l : List Int) (t : TypeId) : RdI (w.alloc (.cells (l.map (Value.int k)).toArray t)) k (some ⟨w.heap.size, 0, none⟩) l := by
  refine .inr ⟨_, rfl, by simp, fun j hj => ?_⟩
  have e : (⟨w.heap.size, 0, none⟩ : Addr).add j = ⟨w.heap.size, j, none⟩ := by
    unfold Addr.add; by_cases h : j = 0 <;> simp [h]
  rw [e, cell_of_row _ w.heap.size j _ t (0, 0) (heap_alloc_new w _)]
  simp [hj]
theorem RdI.lit2a (w : World) (k : IntKind) (l : List Int) (t : TypeId) (o : Obj) : RdI ((w.alloc (.cells (l.map (Value.int k)).toArray t)).alloc o) k (some ⟨w.heap.size, 0, none⟩) l := (RdI.lit w k l t).below (bel1 _ _)
theorem RdI.lit2b (w : World) (k : IntKind) (l : List Int) (t : TypeId) (o : Obj) : RdI ((w.alloc o).alloc (.cells (l.map (Value.int k)).toArray t)) k (some ⟨w.heap.size + 1, 0, none⟩) l := by
  have h := RdI.lit (w.alloc o) k l t
  rwa [World.size_alloc] at h
theorem RdI.lit2a' {w : World} {k : IntKind} {l : List Int} {t : TypeId} {o : Obj} {n : Nat} (h : w.heap.size = n) : RdI ((w.alloc (.cells (l.map (Value.int k)).toArray t)).alloc o) k (some ⟨n, 0, none⟩) l := by subst h; exact RdI.lit2a w k l t o
theorem RdI.lit2b' {w : World} {k : IntKind} {l : List Int} {t : TypeId} {o : Obj} {n : Nat} (h : w.heap.size + 1 = n) : RdI ((w.alloc o).alloc (.cells (l.map (Value.int k)).toArray t)) k (some ⟨n, 0, none⟩) l := by subst h; exact RdI.lit2b w k l t o
theorem RdI.lit' {w : World} {k : IntKind} {l : List Int} {t : TypeId} {n : Nat} (h : w.heap.size = n) : RdI (w.alloc (.cells (l.map (Value.int k)).toArray t)) k (some ⟨n, 0, none⟩) l := by subst h; exact RdI.lit w k l t
theorem own_lit1 (w : World) (k : IntKind) (x : Int) (e : TypeId) : (w.alloc (.cells #[.int k x] e)).ownsRow w.heap.size e 1 (.slice (some ⟨w.heap.size, 0, none⟩) 1 1) [x].length ([x].map (.int k)) :=
  World.ownsRow_lit w #[.int k x] 1 (Nat.le_refl _) (by simp [maxLen]) (by simp)
theorem own_lit0 (w : World) (e : TypeId) (k : IntKind) : (w.alloc (.cells #[] e)).ownsRow w.heap.size e 1 (.slice (some ⟨w.heap.size, 0, none⟩) 0 0) ([] : List Int).length (([] : List Int).map (.int k)) :=
  World.ownsRow_lit w #[] 0 (Nat.le_refl _) (by simp [maxLen]) (by simp)

theorem run_append_nilsrc {P : Program} (w : World) (base : Nat) (t ty e : TypeId) (i : TypeInfo) (size : Nat) (ht : P.underlying t = some (.slice e)) (hi : P.info? e = some i)
    (v : Value) (n : Nat) (xs : List Value) (hown : w.ownsRow base e size v n xs) (c : Nat) : (Builtin.append_ #[t, t] ty #[v, .slice none 0 c]).run P w = .ok v w := by
  rcases hown.2 with ⟨rfl, rfl⟩ | ⟨g, cap, cur, rfl, _, _, hnc, _⟩
  · simp [Builtin.append_, run_underlying ht, sizeOf, typeInfo, hi, Builtin.lenOf, Builtin.firstCells]
  · simp [Builtin.append_, run_underlying ht, sizeOf, typeInfo, hi, Builtin.lenOf, Builtin.firstCells, hnc, storeCells]

/-- append(v, ys...), v a row of the call's own, ys what is read: a row of both. -/
theorem wpL_app {P : Program} {w : World} {ops : Array Oper} {rest : List Oper} {o : Oper} {a : Act} {Q : Exit → Act → World → Prop} {k : IntKind} (hgd : o.guard = none) (s x : Operand) (t : TypeId)
    (ho : o.op = .call { callee := .builtin .append, args := #[s, x], argTypes := #[t, t] })
    (base : Nat) (e : TypeId) (i : TypeInfo) (z : Value) (bytes : Nat) (ht : P.underlying t = some (.slice e)) (hi : P.info? e = some i) (hz : i.zero = some z)
    (hsize : i.size = 1) (hby : i.bytes = bytes) (hzs : z.cells.size = 1)
    (v : Value) (xs : List Int) (hs : a.eval s = v) (hown : w.ownsRow base e 1 v xs.length (xs.map (.int k)))
    (A : Option Addr) (c : Nat) (ys : List Int) (hx : a.eval x = .slice A ys.length c) (hr : RdI w k A ys)
    (h63 : xs.length + ys.length ≤ maxLen) (hbytes : (xs.length + ys.length) * bytes ≤ 140737488355328) (hbase : base ≤ w.heap.size)
    (h : ∀ v' w', w'.ownsRow base e 1 v' (xs ++ ys).length ((xs ++ ys).map (.int k)) → w.grownBy w' v.ownBlock → (v'.ownBlock = v.ownBlock ∨ v'.ownBlock = some w.heap.size) → wpList P ops Q rest (a.put o.dst v') w') :
    wpList P ops Q (o :: rest) a w := by
  rcases A with _ | ad
  · have hy : ys = [] := by
      rcases hr with h | ⟨ad, h, _⟩
      · exact h
      · cases h
    subst hy
    refine wpList_plain hgd fun K hK => ?_
    have hrun := run_append_nilsrc (P := P) w base t o.type e i 1 ht hi v _ _ hown c
    unfold Oper.wp execOp
    simp only [ho, resolve, invoke, builtin, Sem.run_bind, Sem.run_pure, Result.andThen_ok, List.map_toArray, List.map_cons, List.map_nil, hs, hx, List.length_nil, hrun]
    exact hK _ _ (h v w (by simpa using hown) (World.grownBy.refl w _) (.inl rfl))
  · have hc : ∀ j u, (ys.map (Value.int k))[j]? = some u → w.cell? (ad.add j) = some u := by
      intro j u hu
      rcases hr with rfl | ⟨ad', h', _, hc⟩
      · simp at hu
      · obtain rfl := Option.some.inj h'
        rw [List.getElem?_map] at hu
        by_cases hj : j < ys.length
        · rw [hc j hj]; simpa [hj] using hu
        · simp [hj] at hu
    refine wpList_append_own_at w hgd s x t ho base e i z 1 bytes ht hi hz hsize hby hzs (by omega) v xs.length (xs.map (.int k)) hs hown ad ys.length c (ys.map (.int k)) hx (by simp) hc (one_ints _ _) h63 hbytes hbase ?_
    intro v' w' h1 h2 h3 h4
    exact h v' w' (by simpa using h1) h2 h4
def IsRow (k : IntKind) (w : World) (a : Option Addr) (len cap : Nat) (zs : List Int) : Prop :=
  (a = none ∧ len = 0 ∧ cap = 0 ∧ zs = []) ∨
  ∃ x, a = some x ∧ len ≤ cap ∧ cap ≤ maxLen ∧ zs.length = cap ∧ (∀ i, i < zs.length → w.cell? (x.add i) = some (.int k (zs.getD i 0))) ∧ ∀ n ∈ zs, (Lit.int k n).wf = true
theorem rd_of_row {k : IntKind} {w : World} {a : Option Addr} {len cap : Nat} {zs : List Int} (h : IsRow k w a len cap zs) :
    ∃ l : List Int, len = l.length ∧ RdI w k a l ∧ l.length ≤ 9223372036854775807 ∧ ∀ x ∈ l, (Lit.int k x).wf = true := by
  rcases h with ⟨rfl, rfl, rfl, rfl⟩ | ⟨x, rfl, hl, hm, hz, hc, hw⟩
  · exact ⟨[], rfl, .inl rfl, by simp, by simp⟩
  · have hlen : (zs.take len).length = len := by rw [List.length_take]; omega
    unfold maxLen at hm
    refine ⟨zs.take len, hlen.symm, ?_, by omega, fun y hy => hw y (List.mem_of_mem_take hy)⟩
    by_cases h0 : len = 0
    · left; rw [h0]; rfl
    · right
      refine ⟨x, rfl, ?_, fun j hj => ?_⟩
      · have := World.block_lt_of_cell? w _ (hc 0 (by omega))
        rwa [add_block] at this
      · rw [hc j (by omega)]
        congr 2
        rw [List.getD_eq_getElem?_getD, List.getD_eq_getElem?_getD, List.getElem?_take, if_pos (by omega)]
theorem wfu8 {l : List Int} (h : ∀ x ∈ l, (Lit.int .u8 x).wf = true) : ∀ x ∈ l, 0 ≤ x ∧ x < 256 := by
  intro x hx
  have h := h x hx
  simp only [Lit.wf, Bool.and_eq_true, decide_eq_true_eq] at h
  have e1 : IntKind.min .u8 = 0 := by decide
  have e2 : IntKind.max .u8 = 255 := by decide
  omega
theorem wfi64 {l : List Int} (h : ∀ x ∈ l, (Lit.int .i64 x).wf = true) : ∀ x ∈ l, -9223372036854775808 ≤ x ∧ x ≤ 9223372036854775807 := fun x hx => wf64 (h x hx)
theorem maxLen_ge {n : Nat} (h : n ≤ 1000000000) : n ≤ maxLen := by unfold maxLen; omega
theorem ob_slice {g n c k : Nat} (h : (Value.slice (some ⟨g, 0, none⟩) n c).ownBlock = some k) : k = g := by simpa [Value.ownBlock, eq_comm] using h
theorem getD_mem {l : List Int} {k : Nat} (h : k < l.length) : l.getD k 0 ∈ l := by
  have e : l.getD k 0 = l[k] := by simp [h]
  rw [e]; exact List.getElem_mem h
end Go.Proofs.Ytnbghgenaolfgaa

namespace Go.Proofs.Ytnbghgenaolfgaa
open Go.RowKit
set_option linter.unusedVariables false
set_option maxRecDepth 100000

theorem row_caps {k : IntKind} {w : World} {a : Option Addr} {len cap : Nat} {zs : List Int} (h : IsRow k w a len cap zs) : len ≤ cap ∧ cap ≤ 9223372036854775807 := by
  rcases h with ⟨_, rfl, rfl, _⟩ | ⟨x, _, hl, hm, _, _, _⟩
  · exact ⟨Nat.le_refl _, by omega⟩
  · unfold maxLen at hm; exact ⟨hl, by omega⟩
theorem leaf_row {H : Type} {enc : TypeId × Value → H} {P : Program} {w : World} {base : Nat} {held : Bool} {t e : TypeId} {k : IntKind} {v : Value} (ht : P.underlying t = some (.slice e)) (he : P.underlying e = some (.int k)) (hc : P.cellsOf e = 1)
    (h : Leaf enc P w base (fun _ => true) held t v) : ∃ (a : Option Addr) (len cap : Nat) (zs : List Int), v = .slice a len cap ∧ IsRow k w a len cap zs := by
  obtain ⟨m, y, hf⟩ := h
  rcases Go.ChangeShapes.open_ints ht he hc hf with ⟨hcs, _⟩ | ⟨x, l, c, zs, hcs, _, hl, hm, hz, _, hcell, hwz⟩
  · have e : v = .slice none 0 0 := by simpa using hcs
    exact ⟨none, 0, 0, [], e, .inl ⟨rfl, rfl, rfl, rfl⟩⟩
  · have e : v = .slice (some x) l c := by simpa using hcs
    exact ⟨some x, l, c, zs, e, .inr ⟨_, rfl, hl, hm, by simpa using hz, hcell, hwz⟩⟩
end Go.Proofs.Ytnbghgenaolfgaa

namespace Go.Proofs.Ytnbghgenaolfgaa
open Go.RowKit
set_option linter.unusedVariables false
set_option maxRecDepth 100000

/-- What an outermost loop's record is. -/
def recOf (fn : FuncId) (a : Act) (ps : Array Tmp) (assign body : Code) (D : Nat) (st : LoopState) (pe : Option Code) : Loop :=
  { state := st, pending := pe, fn, tmps := a.tmps, params := ps, assign, body, defers := D }

/-- Behind the iterator: the loop's record is shut, and the pending jump, if any, is taken up. -/
def behind (P : Program) (n : Nat) (Q : Exit → Act → World → Prop) (a' : Act) (l : Nat) (r : Option Code → Loop) (W : World) : Option Code → Prop
  | none => Q .normal a' (W.putObj l (.loop { r none with state := .exhausted }))
  | some j => j.wpIn Fence.wide n P Q a' (W.putObj l (.loop { r (some j) with state := .exhausted }))

theorem my_range {P : Program} {n : Nat} {g : Operand} {ps : Array Tmp} {assign body : Code} {Q : Exit → Act → World → Prop} {a : Act} {w : World} {gf : Nat} {lb : Array Value}
    (hg : a.eval g = .func (.func gf) #[] lb) (eg : ∀ args w, (callFunc gf args).run P w = .ok (.enter gf args) w)
    (h : ∀ fn, CallsIn Fence.wide (n - 1) P gf (#[.func (.yield (w.heap.size + 1)) #[] #[]] ++ lb) ((w.alloc (.deferred (some []))).alloc (.loop (recOf fn a ps assign body w.heap.size .ready none)))
      fun e W' => ∃ v c, e = .returned v ∧ W'.heap[w.heap.size + 1]? = some (.loop (recOf fn a ps assign body w.heap.size (if c.isNone then .ready else .done) c)) ∧
        behind P n Q { a with defers := { target := .collected w.heap.size, args := #[] } :: a.defers } (w.heap.size + 1) (fun c => recOf fn a ps assign body w.heap.size (if c.isNone then .ready else .done) c) W' c) :
    (Code.rangeFunc g ps assign body).wpIn Fence.wide n P Q a w := by
  refine wpIn_rangeFunc ?_
  intro fn _
  obtain ⟨W1, hW1⟩ : ∃ W1, (w.alloc (.deferred (some []))).alloc (.loop (recOf fn a ps assign body w.heap.size .ready none)) = W1 := ⟨_, rfl⟩
  refine ⟨w.heap.size + 1, [{ target := .collected w.heap.size, args := #[] }], W1, { target := .fn (.func gf) lb, args := #[.func (.yield (w.heap.size + 1)) #[] #[]] }, W1, gf,
    #[.func (.yield (w.heap.size + 1)) #[] #[]] ++ lb, W1, ?_, ?_, ?_, ?_, (fun hd => by cases hd), ?_⟩
  · rw [← hW1]; exact run_enterLoop_outer _ _ _ _ _
  · simp only [resolve, hg]
    simp [go_sem]
  · intro f' _; trivial
  · simp [invoke, go_sem, eg]
  · rw [← hW1]
    refine (h fn).mono ?_
    rintro e W' ⟨v, c, rfl, hl, hb⟩
    have hne : (recOf fn a ps assign body w.heap.size (if c.isNone then .ready else .done) c).state ≠ .busy := by cases c <;> simp [recOf]
    refine ⟨c, _, by have := run_endLoop (P := P) hl hne; simpa [recOf] using this, ?_⟩
    cases c with
    | none => exact hb
    | some j => exact hb

theorem my_round {P : Program} {F : Fence} {m l : Nat} {r : Loop} {W : World} {args : Array Value} {R : Ending → World → Prop} {a₁ : Act} (hF : F.fn r.fn)
    (hl : W.heap[l]? = some (.loop r)) (hr : r.state = .ready) (hs : args.size = r.params.size)
    (hA : ∀ K : Act → World → Prop, K a₁ W → r.assign.wpIn (F.inRound l) m P (Exit.then K (fun _ _ _ => False)) { tmps := (r.params.zip args).foldl (fun t (p, v) => t.setIfInBounds p v) r.tmps, defers := [] } W)
    (hB : r.body.wpIn (F.inRound l) m P (roundPost P l R) a₁ (W.putObj l (.loop { r with state := .busy }))) :
    YieldAt F m P l args W R :=
  ⟨r.fn, _, r.assign, r.body, run_yield hl hs, roundIn_of_wpIn hF (hA _ ⟨_, run_beginRound hl hr, hB⟩)⟩
/-- How a round of mine may be left. -/
def roundK (B : Nat) (Kp : World → World → Prop) (I : Nat → World → Prop) (Ix : World → Prop) (k : Nat) (W : World) : Exit → Act → World → Prop
  | .normal, _, W' => KeepsFrom B W W' ∧ Kp W W' ∧ I k W'
  | .ret, _, W' => KeepsFrom B W W' ∧ Ix W'
  | .exit _, _, _ => False
  | .goto _, _, _ => False
  | .panic _, _, _ => False
  | .outgrown, _, _ => False

/-- THE LAW FOR MY LOOPS: the rounds are counted; the iterator may hold state in cells of its own (Kp: what a round keeps of it); what it owes is said of any J that speaks of my I and of blocks that are no cells. -/
theorem my_seq {P : Program} {n : Nat} {g : Operand} {ps : Array Tmp} {assign body : Code} {Q : Exit → Act → World → Prop} {a : Act} {w : World} {gf : Nat} {lb : Array Value}
    (hg : a.eval g = .func (.func gf) #[] lb) (eg : ∀ args w, (callFunc gf args).run P w = .ok (.enter gf args) w) (N : Nat)
    (Kp : World → World → Prop) (hKt : ∀ {A B C : World}, Kp A B → Kp B C → Kp A C) (hKb : ∀ (W : World) (l : Nat) (o o' : Obj), w.heap.size ≤ l → W.heap[l]? = some o → o.isCells = false → Kp W (W.putObj l o'))
    (I : Nat → World → Prop) (Ix : World → Prop) (hI : OwnFrom w.heap.size I) (hIx : OwnFrom w.heap.size (fun (_ : Unit) => Ix)) (h0 : I 0 w)
    (hseq : ∀ (L : Nat) (J : Nat → World → Prop) (Jx : World → Prop) (W1 : World), (∀ k W, J k W → I k W) → (∀ k W p v, J k W → I k (W.setCell p v) → J k (W.setCell p v)) →
      (∀ (k : Nat) (args : Array Value) (W : World), args.size = ps.size → J k W → (∃ a₁ : Act, (∀ (W : World) (K : Act → World → Prop), K a₁ W → assign.wpIn (Fence.wide.inRound L) (n - 1 - 1) P (Exit.then K (fun _ _ _ => False)) { tmps := (ps.zip args).foldl (fun t (p, v) => t.setIfInBounds p v) a.tmps, defers := [] } W) ∧
          ∀ Wb, I k Wb → Kp W Wb → body.wpIn (Fence.wide.inRound L) (n - 1 - 1) P (roundK w.heap.size Kp I Ix (k + 1) Wb) a₁ Wb) →
        YieldAt Fence.wide (n - 1 - 1) P L args W fun e W' => (e = .returned (.bool true) ∧ J (k + 1) W' ∧ Kp W W') ∨ (e = .returned (.bool false) ∧ Jx W')) →
      J 0 W1 → Below w.heap.size w W1 → CallsIn Fence.wide (n - 1) P gf (#[.func (.yield L) #[] #[]] ++ lb) W1 fun e W' => (∃ v, e = .returned v) ∧ (J N W' ∨ Jx W'))
    (hdone : ∀ (D : Nat) (W : World), w.heap.size ≤ D → I N W → W.heap[D]? = some (.deferred (some [])) → Q .normal { a with defers := { target := .collected D, args := #[] } :: a.defers } W)
    (hstop : ∀ (D : Nat) (W : World), w.heap.size ≤ D → Ix W → W.heap[D]? = some (.deferred (some [])) → Code.ret.wpIn Fence.wide n P Q { a with defers := { target := .collected D, args := #[] } :: a.defers } W) :
    (Code.rangeFunc g ps assign body).wpIn Fence.wide n P Q a w := by
  refine my_range hg eg ?_
  intro fn
  obtain ⟨rec, hrec⟩ : ∃ rec : LoopState → Option Code → Loop, rec = fun st pe => recOf fn a ps assign body w.heap.size st pe := ⟨_, rfl⟩
  obtain ⟨W1, hW1⟩ : ∃ W1, (w.alloc (.deferred (some []))).alloc (.loop (rec .ready none)) = W1 := ⟨_, rfl⟩
  have hL1 : W1.heap[w.heap.size + 1]? = some (.loop (rec .ready none)) := by
    rw [← hW1]; have := World.alloc_heap_new (w.alloc (.deferred (some []))) (.loop (rec .ready none)); rwa [World.size_alloc] at this
  have hK1 : W1.heap[w.heap.size]? = some (.deferred (some [])) := by
    rw [← hW1]; exact (Below.heap_alloc _ _ _ (by simp)).trans (World.alloc_heap_new w _)
  have hI1 : I 0 W1 := by rw [← hW1]; exact hI.alloc _ (hI.alloc _ h0)
  have hb1 : Below w.heap.size w W1 := by
    rw [← hW1]; exact ((Below.refl _ w).alloc (Nat.le_refl _) _).alloc (by simp) _
  have e1 : (w.alloc (.deferred (some []))).alloc (.loop (recOf fn a ps assign body w.heap.size .ready none)) = W1 := by rw [← hW1, hrec]
  rw [e1]
  refine (hseq (w.heap.size + 1)
    (fun k W => I k W ∧ W.heap[w.heap.size + 1]? = some (.loop (rec .ready none)) ∧ W.heap[w.heap.size]? = some (.deferred (some [])))
    (fun W => Ix W ∧ W.heap[w.heap.size + 1]? = some (.loop (rec .done (some .ret))) ∧ W.heap[w.heap.size]? = some (.deferred (some [])))
    W1 (fun k W h => h.1) ?_ ?_ ⟨hI1, hL1, hK1⟩ hb1).mono ?_
  · rintro k W p v ⟨_, hl, hk⟩ hi
    exact ⟨hi, (KeepsOthers.setCell W p v).same _ _ hl rfl, (KeepsOthers.setCell W p v).same _ _ hk rfl⟩
  · rintro k args W hs ⟨hi, hl, hk⟩ ⟨a₁, hA, hB⟩
    have hlt : w.heap.size + 1 < W.heap.size := (Array.getElem?_eq_some_iff.1 hl).1
    have hl' := hl
    rw [hrec] at hl'
    refine my_round (a₁ := a₁) trivial hl' rfl hs (fun K hK => hA W K hK) ?_
    have ebusy : (Obj.loop { recOf fn a ps assign body w.heap.size .ready none with state := .busy }) = .loop { rec .ready none with state := .busy } := by rw [hrec]
    rw [ebusy]
    have hl2 : (W.putObj (w.heap.size + 1) (.loop { rec .ready none with state := .busy })).heap[w.heap.size + 1]? = some (.loop { rec .ready none with state := .busy }) := World.putObj_heap_same hlt
    have hk2 : (W.putObj (w.heap.size + 1) (.loop { rec .ready none with state := .busy })).heap[w.heap.size]? = some (.deferred (some [])) := (World.putObj_heap_other (by omega)).trans hk
    have hw2 : Kp W (W.putObj (w.heap.size + 1) (.loop { rec .ready none with state := .busy })) := hKb _ _ _ _ (by omega) hl rfl
    refine wpIn_mono (hB _ (hI.putObj _ hi (by omega) hl rfl) hw2) ?_
    have fin : ∀ (jump : Option Code) (W3 : World), KeepsFrom w.heap.size (W.putObj (w.heap.size + 1) (.loop { rec .ready none with state := .busy })) W3 →
        (Instr.endRound (w.heap.size + 1) jump).run P W3 = .ok (.bool jump.isNone) (W3.putObj (w.heap.size + 1) (.loop (rec (if jump.isNone then .ready else .done) jump))) ∧
        W3.heap[w.heap.size + 1]? = some (.loop { rec .ready none with state := .busy }) ∧
        (W3.putObj (w.heap.size + 1) (.loop (rec (if jump.isNone then .ready else .done) jump))).heap[w.heap.size + 1]? = some (.loop (rec (if jump.isNone then .ready else .done) jump)) ∧
        (W3.putObj (w.heap.size + 1) (.loop (rec (if jump.isNone then .ready else .done) jump))).heap[w.heap.size]? = some (.deferred (some [])) := fun jump W3 hk3 => by
      have hl3 := hk3.same _ _ (by omega) hl2 rfl
      have := run_endRound (P := P) jump hl3
      rw [hrec] at this ⊢
      exact ⟨this, by rw [hrec] at hl3; exact hl3, World.putObj_heap_same (Array.getElem?_eq_some_iff.1 hl3).1, (World.putObj_heap_other (by omega)).trans (hk3.same _ _ (Nat.le_refl _) hk2 rfl)⟩
    rintro e a3 W3 hp
    cases e with
    | normal =>
      obtain ⟨hk3, hkp3, hi3⟩ := hp
      obtain ⟨hr, hl3, hl4, hk4⟩ := fin none W3 hk3
      exact ⟨_, _, hr, .inl ⟨rfl, ⟨hI.putObj _ hi3 (by omega) hl3 rfl, hl4, hk4⟩, hKt (hKt hw2 hkp3) (hKb _ _ _ _ (by omega) hl3 rfl)⟩⟩
    | ret =>
      obtain ⟨hk3, hi3⟩ := hp
      obtain ⟨hr, hl3, hl4, hk4⟩ := fin (some .ret) W3 hk3
      exact ⟨_, _, hr, .inr ⟨rfl, hIx.putObj (s := ()) _ hi3 (by omega) hl3 rfl, hl4, hk4⟩⟩
    | exit id => exact hp.elim
    | goto t => exact hp.elim
    | panic ch => exact hp.elim
    | outgrown => exact hp.elim
  · rintro e W2 ⟨⟨v, rfl⟩, (⟨hi, hl, hk⟩ | ⟨hi, hl, hk⟩)⟩
    · refine ⟨v, none, rfl, by rw [hrec] at hl; exact hl, ?_⟩
      exact hdone _ _ (Nat.le_refl _) (hI.putObj _ hi (by omega) hl rfl) ((World.putObj_heap_other (by omega)).trans hk)
    · refine ⟨v, some .ret, rfl, by rw [hrec] at hl; exact hl, ?_⟩
      exact hstop _ _ (Nat.le_refl _) (hIx.putObj (s := ()) _ hi (by omega) hl rfl) ((World.putObj_heap_other (by omega)).trans hk)
theorem loadVar_plain {P : Program} {t : TypeId} {d : TypeDesc} (hu : P.underlying t = some d) (hd : (match d with | .struct _ | .array _ _ => true | _ => false) = false) {w : World} {p : Addr} {v : Value} (hc : w.cell? p = some v) : (loadVar t p).run P w = .ok v w := by
  unfold loadVar
  rw [Sem.run_bind, run_isAgg_plain hu hd]
  simp only [Result.andThen, Bool.false_eq_true, if_false]
  rw [run_load, hc]
theorem results_cell2 {P : Program} {fn : Func} {t u : Tmp} {T U : TypeId} (h : fn.results = #[.cell t T, .cell u U]) {dT dU : TypeDesc} (hT : P.underlying T = some dT) (hU : P.underlying U = some dU)
    (pT : (match dT with | .struct _ | .array _ _ => true | _ => false) = false) (pU : (match dU with | .struct _ | .array _ _ => true | _ => false) = false)
    {tmps : Array Value} {p q : Addr} (hp : tmps.getD t undef = .pointer (some p)) (hq : tmps.getD u undef = .pointer (some q)) {w : World} {v1 v2 : Value} (h1 : w.cell? p = some v1) (h2 : w.cell? q = some v2) :
    (results fn tmps).run P w = .ok (.tuple #[v1, v2]) w := by
  simp only [results, h, Array.mapM_eq_mapM_toList, List.mapM_cons, List.mapM_nil]
  simp [Sem.run_bind, hp, hq, asAddr, loadVar_plain hT pT h1, loadVar_plain hU pU h2, Result.andThen]
end Go.Proofs.Ytnbghgenaolfgaa

namespace Go.Proofs.Ytnbghgenaolfgaa
open Go.RowKit
set_option linter.unusedVariables false
set_option maxRecDepth 100000
set_option linter.unusedSimpArgs false

/-- A key: its number, its secret, its days. -/
structure Ky where
  id : Int
  sec : List Int
  fr : Int
  til : Int
def rightB (k : Ky) : Bool := wB k.id 0 99 && (decide (1 ≤ k.sec.length) && decide (k.sec.length ≤ 64)) && (decide (0 ≤ k.fr) && decide (k.fr ≤ k.til) && decide (k.til ≤ 99999))
/-- A ring: right keys, each of a greater number than the one ahead of it. -/
def ringGo : Int → List Ky → Bool
  | _, [] => true
  | last, k :: t => rightB k && decide (last < k.id) && ringGo k.id t
def ringB (l : List Ky) : Bool := ringGo (-1) l

theorem right_any (B : Option Addr) (n c : Nat) (k : Ky) (hn : k.sec.length = n) (w : World) :
    Calls Try.prog 83 #[.agg #[.int .i64 k.id, .slice B n c, .int .i64 k.fr, .int .i64 k.til]] w fun e w' => e = .returned (.bool (rightB k)) ∧ Below w.heap.size w w' := by
  subst hn
  obtain ⟨id, sec, fr, til⟩ := k
  show Calls _ _ #[.agg #[.int .i64 id, .slice B sec.length c, .int .i64 fr, .int .i64 til]] _ _
  by_cases h1 : 0 ≤ id
  rotate_left
  · have E := Lib.hid (show rightB ⟨id, sec, fr, til⟩ = false by unfold rightB; rw [wB_no (.inl (by simp; omega))]; rfl)
    go_enter Try.func83, Try.ntmps83
    go_wp2
    go_ret
    exact ⟨by rw [E.out] <;> rfl, (by repeat (first | (with_reducible exact bR _) | (with_reducible refine bT ?_ (by assumption)) | (with_reducible apply bA) | (with_reducible apply bD) | (with_reducible apply bN) | (with_reducible refine bS ?_ (by first | omega | (simp; done) | (simp; omega)))))⟩
  by_cases h2 : id < 100
  rotate_left
  · have E := Lib.hid (show rightB ⟨id, sec, fr, til⟩ = false by unfold rightB; rw [wB_no (.inr (by simp; omega))]; rfl)
    go_enter Try.func83, Try.ntmps83
    go_wp2
    go_ret
    exact ⟨by rw [E.out] <;> rfl, (by repeat (first | (with_reducible exact bR _) | (with_reducible refine bT ?_ (by assumption)) | (with_reducible apply bA) | (with_reducible apply bD) | (with_reducible apply bN) | (with_reducible refine bS ?_ (by first | omega | (simp; done) | (simp; omega)))))⟩
  have E1 := wB_mk (n := id) (a := 0) (b := 99) h1 (by omega)
  by_cases h3 : 1 ≤ sec.length
  rotate_left
  · have E := Lib.hid (show rightB ⟨id, sec, fr, til⟩ = false by simp [rightB, h3])
    have h3' : ¬ (1 : Int) ≤ (sec.length : Int) := by omega
    go_enter Try.func83, Try.ntmps83
    go_wp2
    go_ret
    exact ⟨by rw [E.out] <;> rfl, (by repeat (first | (with_reducible exact bR _) | (with_reducible refine bT ?_ (by assumption)) | (with_reducible apply bA) | (with_reducible apply bD) | (with_reducible apply bN) | (with_reducible refine bS ?_ (by first | omega | (simp; done) | (simp; omega)))))⟩
  have h3' : (1 : Int) ≤ (sec.length : Int) := by omega
  by_cases h4 : sec.length ≤ 64
  rotate_left
  · have E := Lib.hid (show rightB ⟨id, sec, fr, til⟩ = false by simp [rightB, h4])
    have h4' : ¬ (sec.length : Int) ≤ 64 := by omega
    go_enter Try.func83, Try.ntmps83
    go_wp2
    go_ret
    exact ⟨by rw [E.out] <;> rfl, (by repeat (first | (with_reducible exact bR _) | (with_reducible refine bT ?_ (by assumption)) | (with_reducible apply bA) | (with_reducible apply bD) | (with_reducible apply bN) | (with_reducible refine bS ?_ (by first | omega | (simp; done) | (simp; omega)))))⟩
  have h4' : (sec.length : Int) ≤ 64 := by omega
  by_cases h5 : 0 ≤ fr
  rotate_left
  · have E := Lib.hid (show rightB ⟨id, sec, fr, til⟩ = false by simp [rightB, h5])
    go_enter Try.func83, Try.ntmps83
    go_wp2
    go_ret
    exact ⟨by rw [E.out] <;> rfl, (by repeat (first | (with_reducible exact bR _) | (with_reducible refine bT ?_ (by assumption)) | (with_reducible apply bA) | (with_reducible apply bD) | (with_reducible apply bN) | (with_reducible refine bS ?_ (by first | omega | (simp; done) | (simp; omega)))))⟩
  by_cases h6 : fr ≤ til
  rotate_left
  · have E := Lib.hid (show rightB ⟨id, sec, fr, til⟩ = false by simp [rightB, h6])
    go_enter Try.func83, Try.ntmps83
    go_wp2
    go_ret
    exact ⟨by rw [E.out] <;> rfl, (by repeat (first | (with_reducible exact bR _) | (with_reducible refine bT ?_ (by assumption)) | (with_reducible apply bA) | (with_reducible apply bD) | (with_reducible apply bN) | (with_reducible refine bS ?_ (by first | omega | (simp; done) | (simp; omega)))))⟩
  by_cases h7 : til ≤ 99999
  rotate_left
  · have E := Lib.hid (show rightB ⟨id, sec, fr, til⟩ = false by simp [rightB, h7])
    go_enter Try.func83, Try.ntmps83
    go_wp2
    go_ret
    exact ⟨by rw [E.out] <;> rfl, (by repeat (first | (with_reducible exact bR _) | (with_reducible refine bT ?_ (by assumption)) | (with_reducible apply bA) | (with_reducible apply bD) | (with_reducible apply bN) | (with_reducible refine bS ?_ (by first | omega | (simp; done) | (simp; omega)))))⟩
  have E := Lib.hid (show rightB ⟨id, sec, fr, til⟩ = true by simp only [rightB, E1, h3, h4, h5, h6, h7, decide_true, Bool.and_true])
  go_enter Try.func83, Try.ntmps83
  go_wp2
  go_ret
  exact ⟨by rw [E.out] <;> rfl, (by repeat (first | (with_reducible exact bR _) | (with_reducible refine bT ?_ (by assumption)) | (with_reducible apply bA) | (with_reducible apply bD) | (with_reducible apply bN) | (with_reducible refine bS ?_ (by first | omega | (simp; done) | (simp; omega)))))⟩
end Go.Proofs.Ytnbghgenaolfgaa

namespace Go.Proofs.Ytnbghgenaolfgaa
open Go.RowKit Go.Shelf
set_option linter.unusedVariables false
set_option maxRecDepth 100000
set_option linter.unusedSimpArgs false

/-- The key at a place of memory. -/
def KeyAt (w : World) (p : Addr) (k : Ky) : Prop :=
  ∃ (B : Option Addr) (c : Nat), w.cell? p = some (.int .i64 k.id) ∧ w.cell? ⟨p.block, p.off + 1, none⟩ = some (.slice B k.sec.length c) ∧ w.cell? ⟨p.block, p.off + 2, none⟩ = some (.int .i64 k.fr) ∧ w.cell? ⟨p.block, p.off + 3, none⟩ = some (.int .i64 k.til) ∧ k.sec.length ≤ c ∧ c ≤ 9223372036854775807 ∧ RdI w .u8 B k.sec ∧ ∀ x ∈ k.sec, 0 ≤ x ∧ x < 256
/-- The slice at A reads as the keys l. -/
def RdK (w : World) (A : Option Addr) (l : List Ky) : Prop :=
  l = [] ∨ ∃ ad, A = some ad ∧ ad.block < w.heap.size ∧ ∀ j, (h : j < l.length) → KeyAt w (ad.add (j * 4)) l[j]
theorem KeyAt.below {w w' : World} {p : Addr} {n : Nat} {k : Ky} (h : KeyAt w p k) (hb : Below n w w') (hn : w.heap.size ≤ n) : KeyAt w' p k := by
  obtain ⟨B, c, h1, h2, h3, h4, h5, h6, h7, h8⟩ := h
  have K : ∀ {a : Addr} {v : Value}, w.cell? a = some v → w'.cell? a = some v := fun hc => (hb.cell (Nat.lt_of_lt_of_le (World.block_lt_of_cell? w _ hc) hn)).trans hc
  exact ⟨B, c, K h1, K h2, K h3, K h4, h5, h6, h7.keep hb.size (fun b hbn => hb.block b (Nat.lt_of_lt_of_le hbn hn)), h8⟩
theorem RdK.below {w w' : World} {A : Option Addr} {l : List Ky} {n : Nat} (h : RdK w A l) (hb : Below n w w') (hn : w.heap.size ≤ n) : RdK w' A l := by
  rcases h with h | ⟨ad, e, hlt, hk⟩
  · exact .inl h
  · exact .inr ⟨ad, e, Nat.lt_of_lt_of_le hlt hb.size, fun j hj => (hk j hj).below hb hn⟩
theorem ringGo_cons (last : Int) (k : Ky) (t : List Ky) : ringGo last (k :: t) = (rightB k && decide (last < k.id) && ringGo k.id t) := rfl

theorem is1_any (B : Option Addr) (n c : Nat) (k : Ky) (hn : k.sec.length = n) (last : Int) (g : Nat) (w : World) (hg : Boxed w g 3 (.int .i64 last)) :
    Calls Try.prog 88 #[.agg #[.int .i64 k.id, .slice B n c, .int .i64 k.fr, .int .i64 k.til], .pointer (some ⟨g, 0, none⟩)] w fun e w' => e = .returned (.bool (!(rightB k && decide (last < k.id)))) ∧ Boxed w' g 3 (.int .i64 k.id) ∧ Below g w w' := by
  have hR := right_any B n c k hn
  obtain ⟨z, hz⟩ : ∃ z, rightB k = z := ⟨_, rfl⟩
  rw [hz] at hR ⊢
  clear hz
  obtain ⟨id, sec, fr, til⟩ := k
  have hc := hg.cell
  have hf := hg.frozen
  have hlt : g < w.heap.size := (Array.getElem?_eq_some_iff.1 hg).1
  have hx0 : ((w.setCell ⟨g, 0, none⟩ (.int .i64 id)).alloc (.cells #[.int .i64 id, .slice B n c, .int .i64 fr, .int .i64 til] 28)).cell? ⟨w.heap.size, 0, none⟩ = some (.int .i64 id) := by
    have h := heap_alloc_new (w.setCell ⟨g, 0, none⟩ (.int .i64 id)) (.cells #[.int .i64 id, .slice B n c, .int .i64 fr, .int .i64 til] 28)
    rw [show (w.setCell ⟨g, 0, none⟩ (.int .i64 id)).heap.size = w.heap.size by simp] at h
    exact cell_of_row _ _ _ _ _ _ h
  have hb1 : Below g w ((w.setCell ⟨g, 0, none⟩ (.int .i64 id)).alloc (.cells #[.int .i64 id, .slice B n c, .int .i64 fr, .int .i64 til] 28)) := ((Below.refl g w).setCell (p := ⟨g, 0, none⟩) (Nat.le_refl _) _).alloc (by simp; omega) _
  have hsz1 : g < ((w.setCell ⟨g, 0, none⟩ (.int .i64 id)).alloc (.cells #[.int .i64 id, .slice B n c, .int .i64 fr, .int .i64 til] 28)).heap.size := by simp; omega
  have hsz2 : w.heap.size < ((w.setCell ⟨g, 0, none⟩ (.int .i64 id)).alloc (.cells #[.int .i64 id, .slice B n c, .int .i64 fr, .int .i64 til] 28)).heap.size := by simp
  have hg1 : Boxed ((w.setCell ⟨g, 0, none⟩ (.int .i64 id)).alloc (.cells #[.int .i64 id, .slice B n c, .int .i64 fr, .int .i64 til] 28)) g 3 (.int .i64 id) := (hg.set _).alloc _
  cases z with
  | false =>
    go_enter Try.func88, Try.ntmps88
    go_wp2_with (go_at_call 83; (with_reducible refine (hR _).mono ?_); rintro e w' ⟨rfl, hb⟩; go_loud (have hx := (hb.cell (p := ⟨w.heap.size, 0, none⟩) hsz2).trans hx0; have hbx := hb1.trans (hb.mono (Nat.le_of_lt hsz1)); have hgx := hb.block g hsz1))
    go_ret
    exact ⟨rfl, hgx.trans hg1, hbx⟩
  | true =>
    by_cases hl : id ≤ last
    · have hd : decide (last < id) = false := by rw [decide_eq_false_iff_not]; omega
      rw [hd]
      go_enter Try.func88, Try.ntmps88
      go_wp2_with (go_at_call 83; (with_reducible refine (hR _).mono ?_); rintro e w' ⟨rfl, hb⟩; go_loud (have hx := (hb.cell (p := ⟨w.heap.size, 0, none⟩) hsz2).trans hx0; have hbx := hb1.trans (hb.mono (Nat.le_of_lt hsz1)); have hgx := hb.block g hsz1))
      go_ret
      exact ⟨rfl, hgx.trans hg1, hbx⟩
    · have hd : decide (last < id) = true := by rw [decide_eq_true_eq]; omega
      have hd2 : decide (id ≤ last) = false := by rw [decide_eq_false_iff_not]; omega
      rw [hd]
      go_enter Try.func88, Try.ntmps88
      go_wp2_with (go_at_call 83; (with_reducible refine (hR _).mono ?_); rintro e w' ⟨rfl, hb⟩; go_loud (have hx := (hb.cell (p := ⟨w.heap.size, 0, none⟩) hsz2).trans hx0; have hbx := hb1.trans (hb.mono (Nat.le_of_lt hsz1)); have hgx := hb.block g hsz1))
      go_ret
      exact ⟨rfl, hgx.trans hg1, hbx⟩

set_option maxHeartbeats 4000000 in
theorem ringIdx_any (A : Option Addr) (c : Nat) (l : List Ky) (last : Int) (g : Nat) (w : World) (hg : Boxed w g 3 (.int .i64 last)) (hr : ∀ w', Below g w w' → RdK w' A l) (hl : l.length ≤ 9223372036854775807) :
    Calls Try.prog 130 #[.slice A l.length c, .func (.func 88) #[] #[.pointer (some ⟨g, 0, none⟩)]] w fun e w' => (∃ z : Int, e = .returned (.int .i64 z) ∧ (0 ≤ z ↔ ringGo last l = false)) ∧ Below g w w' := by
  go_enter Try.func130, Try.ntmps130
  go_wp2
  go_loopw [5, 8] (fun _ i wr => ∃ (k : Nat) (la : Int), k ≤ l.length ∧ i = .int .i64 k ∧ Boxed wr g 3 (.int .i64 la) ∧ Hid (ringGo la (l.drop k) = ringGo last l) ∧ Below g w wr) (fun _ i _ => l.length - (intOf i).toNat)
  case atStart => exact ⟨0, last, Nat.zero_le _, rfl, hg, Lib.hid (by simp), Below.refl _ _⟩
  case round =>
    obtain ⟨k, la, hk, rfl, hb, hq, hbW⟩ := hrel
    by_cases hlt : k < l.length
    · have e := hq.out
      rw [List.drop_eq_getElem_cons hlt, ringGo_cons] at e
      rcases hr wr hbW with h0 | ⟨ad, rfl, _, hka⟩
      · simp [h0] at hlt
      obtain ⟨B, c2, c0, c1, c22, c3, hcl, hcc, hsr, hsb⟩ := hka k hlt
      generalize l[k] = ky at *
      have HE := Lib.hid e
      clear e hq hka
      have k0 : (0 : Int) ≤ (k : Int) := by omega
      have k1 : (k : Int) < (l.length : Int) := by omega
      obtain ⟨n2, hn2⟩ : ∃ n2, ky.sec.length = n2 := ⟨_, rfl⟩
      rw [hn2] at c1
      have hI := fun W hbb => is1_any B n2 c2 ky hn2 la g W hbb
      cases hz : (rightB ky && decide (la < ky.id)) with
      | true =>
        have e := HE.out
        rw [hz, Bool.true_and] at e
        have HX := Lib.hid e
        clear e HE
        rw [hz] at hI
        clear hz
        go_wp2_with (go_at_call 88; (with_reducible refine (hI _ hb).mono ?_); rintro e w' ⟨rfl, hb2, hbl2⟩)
        go_roundw
        case rel => exact ⟨k + 1, _, by omega, by go_num, hb2, HX, hbW.trans hbl2⟩
        case measure => simp [intOf]; omega
      | false =>
        have e := HE.out
        rw [hz, Bool.false_and] at e
        have HX := Lib.hid e
        clear e HE
        rw [hz] at hI
        clear hz
        go_wp2_with (go_at_call 88; (with_reducible refine (hI _ hb).mono ?_); rintro e w' ⟨rfl, hb2, hbl2⟩)
        go_ret
        exact ⟨⟨_, rfl, ⟨fun _ => HX.out.symm, fun _ => by omega⟩⟩, hbW.trans hbl2⟩
    · have e := hq.out
      rw [List.drop_eq_nil_of_le (by omega)] at e
      have HE := Lib.hid (show ringGo last l = true from e.symm)
      clear e hq
      go_wp2
      go_ret
      exact ⟨⟨_, rfl, ⟨fun h => by omega, fun h => by rw [HE.out] at h; cases h⟩⟩, hbW⟩

theorem ringHas_any (A : Option Addr) (c : Nat) (l : List Ky) (last : Int) (g : Nat) (w : World) (hg : Boxed w g 3 (.int .i64 last)) (hr : ∀ w', Below g w w' → RdK w' A l) (hl : l.length ≤ 9223372036854775807) :
    Calls Try.prog 87 #[.slice A l.length c, .func (.func 88) #[] #[.pointer (some ⟨g, 0, none⟩)]] w fun e w' => e = .returned (.bool (!(ringGo last l))) ∧ Below g w w' := by
  cases hz : ringGo last l with
  | true =>
    have HZ := Lib.hid hz
    go_enter Try.func87, Try.ntmps87
    go_wp2_with (go_at_call 130; (with_reducible refine (ringIdx_any A c l last g _ hg hr hl).mono ?_); rintro e w' ⟨⟨z, rfl, hz2⟩, hb⟩; have hneg : decide (0 ≤ z) = false := (by rw [decide_eq_false_iff_not]; intro h; have := hz2.1 h; rw [HZ.out] at this; cases this); clear hz2)
    go_ret
    exact ⟨by first | rfl | simp [hneg], hb⟩
  | false =>
    have HZ := Lib.hid hz
    go_enter Try.func87, Try.ntmps87
    go_wp2_with (go_at_call 130; (with_reducible refine (ringIdx_any A c l last g _ hg hr hl).mono ?_); rintro e w' ⟨⟨z, rfl, hz2⟩, hb⟩; have hneg : decide (0 ≤ z) = true := (by rw [decide_eq_true_eq]; exact hz2.2 HZ.out); clear hz2)
    go_ret
    exact ⟨by first | rfl | simp [hneg], hb⟩

theorem ringIs_any (A : Option Addr) (c : Nat) (l : List Ky) (w : World) (hr : RdK w A l) (hl : l.length ≤ 9223372036854775807) :
    Calls Try.prog 39 #[.slice A l.length c] w fun e w' => e = .returned (.bool (ringB l)) ∧ Below w.heap.size w w' := by
  have hmf : ∀ (fn : Fn) (first cap : Array Value) (w : World), (Instr.makeFunc fn first cap).run Try.prog w = .ok (.func fn first cap) w := fun _ _ _ _ => rfl
  have hG := Boxed.new w 3 (.int .i64 (-1))
  have hK : ∀ w', Below w.heap.size (w.alloc (.cells #[.int .i64 (-1)] 3)) w' → RdK w' A l := fun w' hb => hr.below ((bel1 w _).trans hb) (Nat.le_refl _)
  go_enter Try.func39, Try.ntmps39
  go_wp2_with (go_at_call 87; (with_reducible refine (ringHas_any A c l (-1) w.heap.size _ hG hK hl).mono ?_); rintro e w' ⟨rfl, hb⟩)
  go_ret
  exact ⟨by simp [ringB], (bel1 w _).trans hb⟩
end Go.Proofs.Ytnbghgenaolfgaa

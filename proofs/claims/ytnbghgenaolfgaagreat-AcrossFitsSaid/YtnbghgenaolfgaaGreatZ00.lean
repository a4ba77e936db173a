/- Words that all texts of this seat share: what is new lies behind what was; a struct argument laid open into its cells. Words on memory: a slice of numbers that reads as a list; what a row of the call's own gives of it. Digits as a number: what bcd.Get and its reference compute, for every row of bytes. A number as digits: what bcd.Put and its reference compute, for every number and width. A number as digits, the reference's side: gatelineref12.Put computes the same digits and the same error as bcd.Put. Numbers as digits, one behind the other: what bcd.Join and its reference compute, for all numbers and widths. Words on arrays: built, stored and loaded whole, read at an index. Layer 10: what parity's functions compute. No condition. -/
import Derived.Test.YtnbghgenaolfgaaGreatProg
import Derived.WalkKit
import Derived.ProofKit
import Derived.OpenShut
import Derived.ShutString
import Derived.ChangeOld
import Derived.Below
import Derived.SizedLaws
import Derived.Carry
import Derived.OwnWalk
import Derived.Tactics
import Derived.Laws.Slices
import Derived.Lib.SmallJoins
import Derived.Lib.Hide
import Derived.Deep.DeepMust
import Derived.Laws.OwnMore
import Derived.Maps.AppendAt
import Derived.Deep.AppendLies
import Derived.Deep.Draws
import Derived.LoopTactic
import Derived.IntWalk
import Derived.Deep.RegionHeld3
import Derived.Deep.RegionWith
import Derived.Laws.CopyOwn
import Derived.Laws.Tables
import Derived.StillTailTactics
import Derived.Deep.QuietTactic
import Derived.BigQuiet
import Derived.Deep.RegionLaw
namespace Go.Proofs.YtnbghgenaolfgaaGreat
open Go.ChangeShapes Go.WideShapes Go.ChangeAt Go.RowKit
set_option linter.unusedVariables false
set_option maxRecDepth 100000

theorem bR (w : World) : Below w.heap.size w w := Below.refl _ _
theorem bA {w W : World} (h : Below w.heap.size w W) (o : Obj) : Below w.heap.size w (W.alloc o) := h.alloc h.size o
theorem bD {w W : World} (h : Below w.heap.size w W) : Below w.heap.size w W.drew := h.drew
theorem bN {w W : World} (h : Below w.heap.size w W) (n : Nat) : Below w.heap.size w (W.drewN n) := ⟨h.os, h.tape, h.output, h.size, h.block⟩
theorem bS {w W : World} {g j : Nat} {v : Value} (h : Below w.heap.size w W) (hg : w.heap.size ≤ g) : Below w.heap.size w (W.setCell ⟨g, j, none⟩ v) := h.setCell hg _
theorem bT {w W w2 : World} (h : Below w.heap.size w W) (k : Below W.heap.size W w2) : Below w.heap.size w w2 := h.trans (k.mono h.size)
theorem bel1 (w : World) (o : Obj) : Below w.heap.size w (w.alloc o) := (Below.refl _ _).alloc (Nat.le_refl _) o
theorem bcell {W w1 : World} (hb : Below W.heap.size W w1) : (∀ b o, b < W.heap.size → w1.cell? ⟨b, o, none⟩ = W.cell? ⟨b, o, none⟩) ∧ (∀ b o, b < W.heap.size → w1.frozen? ⟨b, o, none⟩ = W.frozen? ⟨b, o, none⟩) :=
  ⟨fun b o h => hb.cell (p := ⟨b, o, none⟩) h, fun b o h => hb.frozen (p := ⟨b, o, none⟩) h⟩

/-- Is a number from least to most? -/
def wB (n a b : Int) : Bool := decide (a ≤ n) && decide (n ≤ b)
theorem wB_iff {n a b : Int} (h : wB n a b = true) : a ≤ n ∧ n ≤ b := by simpa [wB] using h
theorem wB_mk {n a b : Int} (h : a ≤ n) (k : n ≤ b) : wB n a b = true := by simp [wB, h, k]
theorem wB_no {n a b : Int} (h : n < a ∨ b < n) : wB n a b = false := by
  unfold wB
  rcases h with h | h
  · rw [decide_eq_false (by omega)]; rfl
  · rw [decide_eq_false (p := n ≤ b) (by omega)]; simp

section leaves
variable {H : Type} {enc : TypeId × Value → H} {P : Program} {w : World} {base : Nat} {spare : Nat → Bool} {held : Bool}

def Lv (R : TypeId → Value → Prop) : List TypeId → List Value → Prop
  | [], [] => True
  | t :: ts, v :: vs => R t v ∧ Lv R ts vs
  | _, _ => False
theorem Lv_append {R : TypeId → Value → Prop} : ∀ (ts : List TypeId) (vs : List Value) (ts' : List TypeId) (vs' : List Value), Lv R ts vs → Lv R ts' vs' → Lv R (ts ++ ts') (vs ++ vs')
  | [], [], _, _, _, h => h
  | _ :: ts, _ :: vs, ts', vs', h, k => ⟨h.1, Lv_append ts vs ts' vs' h.2 k⟩
  | [], _ :: _, _, _, h, _ => h.elim
  | _ :: _, [], _, _, h, _ => h.elim
theorem Lv_cons {R : TypeId → Value → Prop} {t : TypeId} {ts : List TypeId} {l : List Value} (h : Lv R (t :: ts) l) : ∃ v vs, l = v :: vs ∧ R t v ∧ Lv R ts vs := by
  cases l with
  | nil => exact h.elim
  | cons v vs => exact ⟨v, vs, rfl, h.1, h.2⟩
theorem Lv_nil {R : TypeId → Value → Prop} {l : List Value} (h : Lv R [] l) : l = [] := by
  cases l with
  | nil => rfl
  | cons v vs => exact h.elim

def leavesOf (P : Program) : Nat → TypeId → List TypeId
  | 0, t => [t]
  | n + 1, t => match P.underlying t with
    | some (.struct fs) => fs.toList.flatMap fun f => leavesOf P n f.type
    | _ => [t]
def contigF (P : Program) (c : TypeId → Bool) (tot : Nat) : Nat → List Field → Bool
  | off, [] => decide (off = tot)
  | off, f :: fs => decide (f.offset = off) && (c f.type && contigF P c tot (off + P.cellsOf f.type) fs)
def contig (P : Program) : Nat → TypeId → Bool
  | 0, t => decide (P.cellsOf t = 1)
  | n + 1, t => match P.underlying t with
    | some (.struct fs) => contigF P (contig P n) (P.cellsOf t) 0 fs.toList
    | _ => decide (P.cellsOf t = 1)

def Leaf (enc : TypeId × Value → H) (P : Program) (w : World) (base : Nat) (spare : Nat → Bool) (held : Bool) (t : TypeId) (v : Value) : Prop := ∃ m y, DataW.trod enc P w base spare held m t [v] = some y

theorem contigF_le {c : TypeId → Bool} {tot : Nat} : ∀ (fs : List Field) (off : Nat), contigF P c tot off fs = true → off ≤ tot
  | [], off, h => by simp [contigF] at h; omega
  | f :: fs, off, h => by
    simp [contigF] at h
    have := contigF_le fs _ h.2.2
    omega

theorem leaf_one {t : TypeId} {fuel : Nat} {cs : List Value} {x : DataW H × List MemPlace} (h1 : P.cellsOf t = 1) (hl : cs.length = P.cellsOf t) (h : DataW.trod enc P w base spare held fuel t cs = some x) :
    Lv (Leaf enc P w base spare held) [t] cs := by
  match cs, hl with
  | [v], _ => exact ⟨⟨fuel, x, h⟩, trivial⟩
  | [], hl => simp [h1] at hl
  | _ :: _ :: _, hl => simp [h1] at hl

theorem open_fields {n : Nat} {k : Nat} {cs : List Value} {tot : Nat} (hc : cs.length = tot)
    (ih : ∀ t, contig P n t = true → ∀ fuel cs x, cs.length = P.cellsOf t → DataW.trod enc P w base spare held fuel t cs = some x → Lv (Leaf enc P w base spare held) (leavesOf P n t) cs) :
    ∀ (fs : List Field) (off : Nat), contigF P (contig P n) tot off fs = true →
      (∀ f, f ∈ fs → ∃ y, DataW.trod enc P w base spare held k f.type ((cs.drop f.offset).take (P.cellsOf f.type)) = some y) →
      Lv (Leaf enc P w base spare held) (fs.flatMap fun f => leavesOf P n f.type) (cs.drop off)
  | [], off, h, _ => by
    simp [contigF] at h
    rw [List.drop_eq_nil_of_le (by omega)]
    exact trivial
  | f :: fs, off, h, hf => by
    simp [contigF] at h
    obtain ⟨ho, hk, hr⟩ := h
    obtain ⟨y, hy⟩ := hf f (by simp)
    rw [ho] at hy
    have hle := contigF_le fs _ hr
    have e : cs.drop off = (cs.drop off).take (P.cellsOf f.type) ++ cs.drop (off + P.cellsOf f.type) := by
      rw [← List.drop_drop]; exact (List.take_append_drop _ _).symm
    rw [e, List.flatMap_cons]
    refine Lv_append _ _ _ _ (ih f.type hk k _ y ?_ hy) (open_fields hc ih fs _ hr fun g hg => hf g (by simp [hg]))
    rw [List.length_take, List.length_drop]
    omega

theorem open_leaves : ∀ (n : Nat) (t : TypeId), contig P n t = true → ∀ (fuel : Nat) (cs : List Value) (x : DataW H × List MemPlace), cs.length = P.cellsOf t → DataW.trod enc P w base spare held fuel t cs = some x →
    Lv (Leaf enc P w base spare held) (leavesOf P n t) cs
  | 0, t, h, fuel, cs, x, hl, hx => by
    simp [contig] at h
    exact leaf_one h hl hx
  | n + 1, t, h, fuel, cs, x, hl, hx => by
    unfold contig at h
    unfold leavesOf
    cases hu : P.underlying t with
    | none => rw [hu] at h; simp at h; exact leaf_one h hl hx
    | some u =>
      rw [hu] at h
      cases u with
      | struct fs =>
        simp only at h ⊢
        obtain ⟨xs, k, _, _, _, hlen, hf⟩ := DataW.trod_struct hu hx
        have := open_fields (k := k) (cs := cs) hl (open_leaves n) fs.toList 0 h (fun f hfm => by
          obtain ⟨i, hi, e⟩ := List.getElem_of_mem hfm
          have hi' : i < fs.size := by simpa using hi
          have e' : fs[i]? = some f := by rw [Array.getElem?_eq_getElem hi']; simpa using e
          have := hf i f e'
          rw [List.getElem?_eq_getElem (by omega)] at this
          exact ⟨_, this⟩)
        simpa using this
      | _ => simp at h; exact leaf_one h hl hx

theorem leaf_int {t : TypeId} {k : IntKind} {v : Value} (ht : P.underlying t = some (.int k)) (h : Leaf enc P w base spare held t v) : ∃ n, v = .int k n ∧ (Lit.int k n).wf = true := by
  obtain ⟨m, y, hy⟩ := h
  obtain ⟨n, e, _, hw⟩ := DataW.trod_int ht hy
  simp at e
  exact ⟨n, e, hw⟩
theorem leaf_bool {t : TypeId} {v : Value} (ht : P.underlying t = some .bool) (h : Leaf enc P w base spare held t v) : ∃ b, v = .bool b := by
  obtain ⟨m, y, hy⟩ := h
  obtain ⟨n, e, _⟩ := DataW.trod_bool ht hy
  simp at e
  exact ⟨n, e⟩
theorem wf64 {n : Int} (h : (Lit.int .i64 n).wf = true) : -9223372036854775808 ≤ n ∧ n ≤ 9223372036854775807 := by
  simp only [Lit.wf, Bool.and_eq_true, decide_eq_true_eq] at h
  have e1 : IntKind.min .i64 = -9223372036854775808 := by decide
  have e2 : IntKind.max .i64 = 9223372036854775807 := by decide
  omega
end leaves
end Go.Proofs.YtnbghgenaolfgaaGreat

namespace Go.Proofs.YtnbghgenaolfgaaGreat
open Go.RowKit
set_option linter.unusedVariables false
set_option maxRecDepth 100000

/-- The slice at A reads as the numbers l. -/
def RdI (w : World) (k : IntKind) (A : Option Addr) (l : List Int) : Prop :=
  l = [] ∨ ∃ ad, A = some ad ∧ ad.block < w.heap.size ∧ ∀ j, j < l.length → w.cell? (ad.add j) = some (.int k (l.getD j 0))

theorem add_block (a : Addr) (i : Nat) : (a.add i).block = a.block := by unfold Addr.add; split <;> rfl
theorem add_add (a : Addr) (i j : Nat) : (a.add i).add j = a.add (i + j) := by
  unfold Addr.add
  by_cases hi : i = 0
  · subst hi; simp
  · by_cases hj : j = 0
    · subst hj; simp [hi]
    · simp [hi, hj, Nat.add_assoc]
theorem add_succ (a : Addr) (j : Nat) : a.add (j + 1) = ⟨a.block, a.off + (j + 1), none⟩ := by unfold Addr.add; simp
theorem add_zero (a : Addr) : a.add 0 = a := by unfold Addr.add; simp

section
variable {w w' : World} {k : IntKind} {A : Option Addr} {l : List Int}
theorem RdI.nil (w : World) (k : IntKind) (A : Option Addr) : RdI w k A [] := .inl rfl
theorem RdI.at_ (h : RdI w k A l) {j : Nat} (hj : j < l.length) : ∃ ad, A = some ad ∧ w.cell? (ad.add j) = some (.int k (l.getD j 0)) := by
  rcases h with rfl | ⟨ad, e, _, hc⟩
  · simp at hj
  · exact ⟨ad, e, hc j hj⟩
theorem RdI.below (h : RdI w k A l) (hb : Below w.heap.size w w') : RdI w' k A l := by
  rcases h with rfl | ⟨ad, e, hlt, hc⟩
  · exact .inl rfl
  · exact .inr ⟨ad, e, Nat.lt_of_lt_of_le hlt hb.size, fun j hj => (hb.cell (p := ad.add j) (by rw [add_block]; exact hlt)).trans (hc j hj)⟩
theorem RdI.keep (h : RdI w k A l) (hs : w.heap.size ≤ w'.heap.size) (hb : ∀ b, b < w.heap.size → w'.heap[b]? = w.heap[b]?) : RdI w' k A l := by
  rcases h with rfl | ⟨ad, e, hlt, hc⟩
  · exact .inl rfl
  · exact .inr ⟨ad, e, Nat.lt_of_lt_of_le hlt hs, fun j hj => (World.cell?_of_block (hb (ad.add j).block (by rw [add_block]; exact hlt))).trans (hc j hj)⟩
theorem RdI.of_own {base e : Nat} {c : Nat} (h : w.ownsRow base e 1 (.slice A l.length c) l.length (l.map (.int k))) : RdI w k A l := by
  by_cases hl : l = []
  · exact .inl hl
  · have hp : 0 < l.length := List.length_pos_iff.mpr hl
    rcases h.2 with ⟨_, h0⟩ | ⟨g, cap, cur, hv, _, hh, _⟩
    · omega
    · have hA : A = some ⟨g, 0, none⟩ := by injection hv
      subst hA
      refine .inr ⟨_, rfl, (h.lt g rfl).2, fun j hj => h.cells rfl j _ ?_⟩
      rw [List.getElem?_map, List.getElem?_eq_getElem hj]
      simp [hj]
theorem own_slice {base e n : Nat} {v : Value} {cs : List Value} (h : w.ownsRow base e 1 v n cs) : ∃ A c, v = .slice A n c ∧ n ≤ c ∧ c ≤ maxLen := by
  rcases h.2 with ⟨rfl, rfl⟩ | ⟨g, cap, cur, rfl, _, _, h1, h2, _⟩
  · exact ⟨none, 0, rfl, Nat.le_refl _, by simp [maxLen]⟩
  · exact ⟨_, cap, rfl, h1, h2⟩
theorem own_below {base e n size : Nat} {v : Value} {cs : List Value} (h : w.ownsRow base e size v n cs) (hb : Below w.heap.size w w') : w'.ownsRow base e size v n cs := by
  obtain ⟨h1, h2⟩ := h
  refine ⟨h1, h2.imp id fun ⟨g, cap, cur, e1, e2, e3, e4⟩ => ⟨g, cap, cur, e1, e2, ?_, e4⟩⟩
  have hlt : g < w.heap.size := by
    rcases Nat.lt_or_ge g w.heap.size with h | h
    · exact h
    · rw [Array.getElem?_eq_none h] at e3; cases e3
  exact (hb.block g hlt).trans e3
theorem own_base {base base' e n size : Nat} {v : Value} {cs : List Value} (h : w.ownsRow base e size v n cs) (hb : base' ≤ base) : w.ownsRow base' e size v n cs := by
  obtain ⟨h1, h2⟩ := h
  exact ⟨h1, h2.imp id fun ⟨g, cap, cur, e1, e2, e3⟩ => ⟨g, cap, cur, e1, Nat.le_trans hb e2, e3⟩⟩
end
theorem drop_cons {l : List Int} {k : Nat} (h : k < l.length) : l.drop k = l.getD k 0 :: l.drop (k + 1) := by
  rw [List.drop_eq_getElem_cons h]; simp [h]
theorem bG {w W w2 : World} {row : Option Nat} (h : Below w.heap.size w W) (hg : W.grownBy w2 row) (hr : ∀ k, row = some k → w.heap.size ≤ k) : Below w.heap.size w w2 := h.grown hg h.size hr
theorem own_ge {w : World} {base e n size : Nat} {v : Value} {cs : List Value} (h : w.ownsRow base e size v n cs) : ∀ k, v.ownBlock = some k → base ≤ k := fun k hk => (h.lt k hk).1
theorem one_ints (k : IntKind) (l : List Int) : ∀ u ∈ l.map (Value.int k), u.oneCell' = true := by
  intro u hu
  obtain ⟨x, _, rfl⟩ := List.mem_map.1 hu
  rfl
theorem RdI.lit1 (w : World) (k : IntKind) (x : Int) (t : TypeId) : RdI (w.alloc (.cells #[.int k x] t)) k (some ⟨w.heap.size, 0, none⟩) [x] := by
  refine .inr ⟨_, rfl, by simp, fun j hj => ?_⟩
  have : j = 0 := by simp at hj; omega
  subst this
  rw [add_zero, World.cell?_alloc_at _ _ _ _ rfl]; rfl
theorem RdI.lit (w : World) (k : IntKind) (l : List Int) (t : TypeId) : RdI (w.alloc (.cells (l.map (Value.int k)).toArray t)) k (some ⟨w.heap.size, 0, none⟩) l := by
  refine .inr ⟨_, rfl, by simp, fun j hj => ?_⟩
  have e : (⟨w.heap.size, 0, none⟩ : Addr).add j = ⟨w.heap.size, j, none⟩ := by
    unfold Addr.add; by_cases h : j = 0 <;> simp [h]
  rw [e, cell_of_row _ w.heap.size j _ t (0, 0) (heap_alloc_new w _)]
  simp [hj]
theorem RdI.lit2a (w : World) (k : IntKind) (l : List Int) (t : TypeId) (o : Obj) : RdI ((w.alloc (.cells (l.map (Value.int k)).toArray t)).alloc o) k (some ⟨w.heap.size, 0, none⟩) l := (RdI.lit w k l t).below (bel1 _ _)
theorem RdI.lit2b (w : World) (k : IntKind) (l : List Int) (t : TypeId) (o : Obj) : RdI ((w.alloc o).alloc (.cells (l.map (Value.int k)).toArray t)) k (some ⟨w.heap.size + 1, 0, none⟩) l := by
  have h := RdI.lit (w.alloc o) k l t
  rwa [World.size_alloc] at h
theorem RdI.lit2a' {w : World} {k : IntKind} {l : List Int} {t : TypeId} {o : Obj} {n : Nat} (h : w.heap.size = n) : RdI ((w.alloc (.cells (l.map (Value.int k)).toArray t)).alloc o) k (some ⟨n, 0, none⟩) l := by subst h; exact RdI.lit2a w k l t o
theorem RdI.lit2b' {w : World} {k : IntKind} {l : List Int} {t : TypeId} {o : Obj} {n : Nat} (h : w.heap.size + 1 = n) : RdI ((w.alloc o).alloc (.cells (l.map (Value.int k)).toArray t)) k (some ⟨n, 0, none⟩) l := by subst h; exact RdI.lit2b w k l t o
theorem RdI.lit' {w : World} {k : IntKind} {l : List Int} {t : TypeId} {n : Nat} (h : w.heap.size = n) : RdI (w.alloc (.cells (l.map (Value.int k)).toArray t)) k (some ⟨n, 0, none⟩) l := by subst h; exact RdI.lit w k l t
theorem own_lit1 (w : World) (k : IntKind) (x : Int) (e : TypeId) : (w.alloc (.cells #[.int k x] e)).ownsRow w.heap.size e 1 (.slice (some ⟨w.heap.size, 0, none⟩) 1 1) [x].length ([x].map (.int k)) :=
  World.ownsRow_lit w #[.int k x] 1 (Nat.le_refl _) (by simp [maxLen]) (by simp)
theorem own_lit0 (w : World) (e : TypeId) (k : IntKind) : (w.alloc (.cells #[] e)).ownsRow w.heap.size e 1 (.slice (some ⟨w.heap.size, 0, none⟩) 0 0) ([] : List Int).length (([] : List Int).map (.int k)) :=
  World.ownsRow_lit w #[] 0 (Nat.le_refl _) (by simp [maxLen]) (by simp)

theorem run_append_nilsrc {P : Program} (w : World) (base : Nat) (t ty e : TypeId) (i : TypeInfo) (size : Nat) (ht : P.underlying t = some (.slice e)) (hi : P.info? e = some i)
    (v : Value) (n : Nat) (xs : List Value) (hown : w.ownsRow base e size v n xs) (c : Nat) : (Builtin.append_ #[t, t] ty #[v, .slice none 0 c]).run P w = .ok v w := by
  rcases hown.2 with ⟨rfl, rfl⟩ | ⟨g, cap, cur, rfl, _, _, hnc, _⟩
  · simp [Builtin.append_, run_underlying ht, sizeOf, typeInfo, hi, Builtin.lenOf, Builtin.firstCells]
  · simp [Builtin.append_, run_underlying ht, sizeOf, typeInfo, hi, Builtin.lenOf, Builtin.firstCells, hnc, storeCells]

/-- append(v, ys...), v a row of the call's own, ys what is read: a row of both. -/
theorem wpL_app {P : Program} {w : World} {ops : Array Oper} {rest : List Oper} {o : Oper} {a : Act} {Q : Exit → Act → World → Prop} {k : IntKind} (hgd : o.guard = none) (s x : Operand) (t : TypeId)
    (ho : o.op = .call { callee := .builtin .append, args := #[s, x], argTypes := #[t, t] })
    (base : Nat) (e : TypeId) (i : TypeInfo) (z : Value) (bytes : Nat) (ht : P.underlying t = some (.slice e)) (hi : P.info? e = some i) (hz : i.zero = some z)
    (hsize : i.size = 1) (hby : i.bytes = bytes) (hzs : z.cells.size = 1)
    (v : Value) (xs : List Int) (hs : a.eval s = v) (hown : w.ownsRow base e 1 v xs.length (xs.map (.int k)))
    (A : Option Addr) (c : Nat) (ys : List Int) (hx : a.eval x = .slice A ys.length c) (hr : RdI w k A ys)
    (h63 : xs.length + ys.length ≤ maxLen) (hbytes : (xs.length + ys.length) * bytes ≤ 140737488355328) (hbase : base ≤ w.heap.size)
    (h : ∀ v' w', w'.ownsRow base e 1 v' (xs ++ ys).length ((xs ++ ys).map (.int k)) → w.grownBy w' v.ownBlock → (v'.ownBlock = v.ownBlock ∨ v'.ownBlock = some w.heap.size) → wpList P ops Q rest (a.put o.dst v') w') :
    wpList P ops Q (o :: rest) a w := by
  rcases A with _ | ad
  · have hy : ys = [] := by
      rcases hr with h | ⟨ad, h, _⟩
      · exact h
      · cases h
    subst hy
    refine wpList_plain hgd fun K hK => ?_
    have hrun := run_append_nilsrc (P := P) w base t o.type e i 1 ht hi v _ _ hown c
    unfold Oper.wp execOp
    simp only [ho, resolve, invoke, builtin, Sem.run_bind, Sem.run_pure, Result.andThen_ok, List.map_toArray, List.map_cons, List.map_nil, hs, hx, List.length_nil, hrun]
    exact hK _ _ (h v w (by simpa using hown) (World.grownBy.refl w _) (.inl rfl))
  · have hc : ∀ j u, (ys.map (Value.int k))[j]? = some u → w.cell? (ad.add j) = some u := by
      intro j u hu
      rcases hr with rfl | ⟨ad', h', _, hc⟩
      · simp at hu
      · obtain rfl := Option.some.inj h'
        rw [List.getElem?_map] at hu
        by_cases hj : j < ys.length
        · rw [hc j hj]; simpa [hj] using hu
        · simp [hj] at hu
    refine wpList_append_own_at w hgd s x t ho base e i z 1 bytes ht hi hz hsize hby hzs (by omega) v xs.length (xs.map (.int k)) hs hown ad ys.length c (ys.map (.int k)) hx (by simp) hc (one_ints _ _) h63 hbytes hbase ?_
    intro v' w' h1 h2 h3 h4
    exact h v' w' (by simpa using h1) h2 h4
def IsRow (k : IntKind) (w : World) (a : Option Addr) (len cap : Nat) (zs : List Int) : Prop :=
  (a = none ∧ len = 0 ∧ cap = 0 ∧ zs = []) ∨
  ∃ x, a = some x ∧ len ≤ cap ∧ cap ≤ maxLen ∧ zs.length = cap ∧ (∀ i, i < zs.length → w.cell? (x.add i) = some (.int k (zs.getD i 0))) ∧ ∀ n ∈ zs, (Lit.int k n).wf = true
theorem rd_of_row {k : IntKind} {w : World} {a : Option Addr} {len cap : Nat} {zs : List Int} (h : IsRow k w a len cap zs) :
    ∃ l : List Int, len = l.length ∧ RdI w k a l ∧ l.length ≤ 9223372036854775807 ∧ ∀ x ∈ l, (Lit.int k x).wf = true := by
  rcases h with ⟨rfl, rfl, rfl, rfl⟩ | ⟨x, rfl, hl, hm, hz, hc, hw⟩
  · exact ⟨[], rfl, .inl rfl, by simp, by simp⟩
  · have hlen : (zs.take len).length = len := by rw [List.length_take]; omega
    unfold maxLen at hm
    refine ⟨zs.take len, hlen.symm, ?_, by omega, fun y hy => hw y (List.mem_of_mem_take hy)⟩
    by_cases h0 : len = 0
    · left; rw [h0]; rfl
    · right
      refine ⟨x, rfl, ?_, fun j hj => ?_⟩
      · have := World.block_lt_of_cell? w _ (hc 0 (by omega))
        rwa [add_block] at this
      · rw [hc j (by omega)]
        congr 2
        rw [List.getD_eq_getElem?_getD, List.getD_eq_getElem?_getD, List.getElem?_take, if_pos (by omega)]
theorem wfu8 {l : List Int} (h : ∀ x ∈ l, (Lit.int .u8 x).wf = true) : ∀ x ∈ l, 0 ≤ x ∧ x < 256 := by
  intro x hx
  have h := h x hx
  simp only [Lit.wf, Bool.and_eq_true, decide_eq_true_eq] at h
  have e1 : IntKind.min .u8 = 0 := by decide
  have e2 : IntKind.max .u8 = 255 := by decide
  omega
theorem wfi64 {l : List Int} (h : ∀ x ∈ l, (Lit.int .i64 x).wf = true) : ∀ x ∈ l, -9223372036854775808 ≤ x ∧ x ≤ 9223372036854775807 := fun x hx => wf64 (h x hx)
theorem maxLen_ge {n : Nat} (h : n ≤ 1000000000) : n ≤ maxLen := by unfold maxLen; omega
theorem ob_slice {g n c k : Nat} (h : (Value.slice (some ⟨g, 0, none⟩) n c).ownBlock = some k) : k = g := by simpa [Value.ownBlock, eq_comm] using h
theorem getD_mem {l : List Int} {k : Nat} (h : k < l.length) : l.getD k 0 ∈ l := by
  have e : l.getD k 0 = l[k] := by simp [h]
  rw [e]; exact List.getElem_mem h
end Go.Proofs.YtnbghgenaolfgaaGreat

namespace Go.Proofs.YtnbghgenaolfgaaGreat
open Go.RowKit
set_option linter.unusedVariables false
set_option maxRecDepth 100000
set_option linter.unusedSimpArgs false

/-- The number and the error of a row of digits, n being the number so far. -/
def getGo : List Int → Int → Int × Int
  | [], n => (n, 0)
  | d :: l, n => if 9 < d then (0, 7) else getGo l (10 * n + d)
def getR (l : List Int) : Int × Int := if 18 < l.length then (0, 1) else getGo l 0

theorem getGo_cons (d : Int) (l : List Int) (n : Int) : getGo (d :: l) n = if 9 < d then (0, 7) else getGo l (10 * n + d) := rfl
theorem getR_long {l : List Int} (h : 18 < l.length) : getR l = (0, 1) := by unfold getR; rw [if_pos h]
theorem getR_short {l : List Int} (h : ¬ 18 < l.length) : getR l = getGo l 0 := by unfold getR; rw [if_neg h]

theorem ret2 {k k' : IntKind} {a b a' b' : Int} (h : a = a') (h' : b = b') : Ending.returned (.tuple #[.int k a, .int k' b]) = .returned (.tuple #[.int k a', .int k' b']) := by rw [h, h']
theorem pow10_le {k : Nat} (h : k ≤ 17) : (10 : Int) ^ k ≤ 100000000000000000 := by
  have : (10 : Nat) ^ k ≤ 10 ^ 17 := Nat.pow_le_pow_right (by omega) h
  have e : ((10 ^ k : Nat) : Int) = (10 : Int) ^ k := by simp
  rw [← e]; omega

set_option maxHeartbeats 2000000 in
theorem bcdGet_any (A : Option Addr) (c : Nat) (l : List Int) (w : World) (hr : RdI w .u8 A l) (hb : ∀ x ∈ l, 0 ≤ x ∧ x < 256) :
    Calls Tryz.prog 183 #[.slice A l.length c] w fun e w' => e = .returned (.tuple #[.int .i64 (getR l).1, .int .i64 (getR l).2]) ∧ w = w' := by
  by_cases hl : 18 < l.length
  · have E := Lib.hid (getR_long hl)
    go_enter Tryz.func183, Tryz.ntmps183
    go_wp2
    go_ret2
    exact ⟨by rw [E.out] <;> rfl, rfl⟩
  · have E := Lib.hid (getR_short hl)
    go_enter Tryz.func183, Tryz.ntmps183
    go_wp2
    go_loop [4, 12] (fun n i => ∃ (k : Nat) (m : Int), k ≤ l.length ∧ i = .int .i64 k ∧ n = .int .i64 m ∧ 0 ≤ m ∧ m < 10 ^ k ∧ Hid (getGo (l.drop k) m = getGo l 0)) (fun n i => l.length - (intOf i).toNat)
    case atStart => exact ⟨0, 0, Nat.zero_le _, rfl, rfl, by omega, by simp, Lib.hid (by simp)⟩
    case round =>
      obtain ⟨k, m, hk, rfl, rfl, h0, h1, hg⟩ := hrel
      by_cases hlt : k < l.length
      · obtain ⟨ad, rfl, hc⟩ := hr.at_ hlt
        have hd := hb (l.getD k 0) (getD_mem hlt)
        have hp := pow10_le (k := k) (by omega)
        have hm : m < 100000000000000000 := by omega
        have hs : (10 : Int) ^ (k + 1) = 10 * 10 ^ k := by rw [Int.pow_succ]; omega
        have hn : 10 * m + l.getD k 0 < 10 ^ (k + 1) ∨ 9 < l.getD k 0 := by omega
        have H1 := Lib.hid hn
        have e := hg.out
        rw [drop_cons hlt, getGo_cons] at e
        have He := Lib.hid e
        clear hs hn e hg hp h1
        generalize l.getD k 0 = d at *
        by_cases h9 : 9 < d
        · go_wp2
          go_ret2
          have e := He.out
          rw [if_pos h9] at e
          exact ⟨by rw [E.out, ← e] <;> rfl, rfl⟩
        · go_wp2
          go_round
          case rel => exact ⟨k + 1, 10 * m + d, by omega, by go_num, rfl, by omega, by have := H1.out; omega, Lib.hid (by have e := He.out; rw [if_neg h9] at e; exact e)⟩
          case measure => simp [intOf]; omega
      · have hkl : k = l.length := by omega
        have e := hg.out
        rw [List.drop_eq_nil_of_le (by omega)] at e
        have He := Lib.hid e
        clear e hg hkl
        go_wp2
        go_ret2
        exact ⟨by rw [E.out, ← He.out] <;> rfl, rfl⟩


set_option maxHeartbeats 2000000 in
theorem refGet_any (A : Option Addr) (c : Nat) (l : List Int) (w : World) (hr : RdI w .u8 A l) (hb : ∀ x ∈ l, 0 ≤ x ∧ x < 256) :
    Calls Tryz.prog 188 #[.slice A l.length c] w fun e w' => e = .returned (.tuple #[.int .i64 (getR l).1, .int .i64 (getR l).2]) ∧ w = w' := by
  by_cases hl : 18 < l.length
  · have E := Lib.hid (getR_long hl)
    go_enter Tryz.func188, Tryz.ntmps188
    go_wp2
    go_ret2
    exact ⟨by rw [E.out] <;> rfl, rfl⟩
  · have E := Lib.hid (getR_short hl)
    go_enter Tryz.func188, Tryz.ntmps188
    go_wp2
    go_loop [4, 5] (fun n i => ∃ (k : Nat) (m : Int), k ≤ l.length ∧ i = .int .i64 k ∧ n = .int .i64 m ∧ 0 ≤ m ∧ m < 10 ^ k ∧ Hid (getGo (l.drop k) m = getGo l 0)) (fun n i => l.length - (intOf i).toNat)
    case atStart => exact ⟨0, 0, Nat.zero_le _, rfl, rfl, by omega, by simp, Lib.hid (by simp)⟩
    case round =>
      obtain ⟨k, m, hk, rfl, rfl, h0, h1, hg⟩ := hrel
      by_cases hlt : k < l.length
      · obtain ⟨ad, rfl, hc⟩ := hr.at_ hlt
        have hd := hb (l.getD k 0) (getD_mem hlt)
        have hp := pow10_le (k := k) (by omega)
        have hm : m < 100000000000000000 := by omega
        have hs : (10 : Int) ^ (k + 1) = 10 * 10 ^ k := by rw [Int.pow_succ]; omega
        have hn : 10 * m + l.getD k 0 < 10 ^ (k + 1) ∨ 9 < l.getD k 0 := by omega
        have H1 := Lib.hid hn
        have e := hg.out
        rw [drop_cons hlt, getGo_cons] at e
        have He := Lib.hid e
        clear hs hn e hg hp h1
        generalize l.getD k 0 = d at *
        by_cases h9 : 9 < d
        · go_wp2
          go_ret2
          have e := He.out
          rw [if_pos h9] at e
          exact ⟨by rw [E.out, ← e] <;> rfl, rfl⟩
        · go_wp2
          go_round
          case rel => exact ⟨k + 1, 10 * m + d, by omega, by go_num, rfl, by omega, by have := H1.out; omega, Lib.hid (by have e := He.out; rw [if_neg h9] at e; exact e)⟩
          case measure => simp [intOf]; omega
      · have hkl : k = l.length := by omega
        have e := hg.out
        rw [List.drop_eq_nil_of_le (by omega)] at e
        have He := Lib.hid e
        clear e hg hkl
        go_wp2
        go_ret2
        exact ⟨by rw [E.out, ← He.out] <;> rfl, rfl⟩

end Go.Proofs.YtnbghgenaolfgaaGreat

namespace Go.Proofs.YtnbghgenaolfgaaGreat
open Go.RowKit
set_option linter.unusedVariables false
set_option maxRecDepth 100000
set_option linter.unusedSimpArgs false

theorem infoU8 : (Tryz.prog.info? 5).map (fun i => (i.zero, i.size, i.bytes)) = some (some (.int .u8 0), 1, 1) := by kernel_rfl
theorem infoI64 : (Tryz.prog.info? 3).map (fun i => (i.zero, i.size, i.bytes)) = some (some (.int .i64 0), 1, 8) := by kernel_rfl

/-- The last w digits of n. -/
def dg : Nat → Int → List Int
  | 0, _ => []
  | w + 1, n => n / 10 ^ w % 10 :: dg w n
theorem dg_succ (w : Nat) (n : Int) : dg (w + 1) n = n / 10 ^ w % 10 :: dg w n := rfl
theorem dg_len (w : Nat) (n : Int) : (dg w n).length = w := by
  induction w with
  | zero => rfl
  | succ w ih => simp [dg, ih]
theorem dg_byte (w : Nat) (n : Int) : ∀ x ∈ dg w n, 0 ≤ x ∧ x < 10 := by
  induction w with
  | zero => simp [dg]
  | succ w ih =>
    intro x hx
    rcases List.mem_cons.1 hx with rfl | hx
    · omega
    · exact ih x hx
theorem div_step (n : Int) (k : Nat) : n / 10 ^ k / 10 = n / 10 ^ (k + 1) := by
  rw [Int.pow_succ, Int.ediv_ediv_of_nonneg (by exact Int.pow_nonneg (by omega))]
def putL (n wd : Int) : List Int := if n < 0 ∨ wd < 0 ∨ 18 < wd ∨ 0 < n / 10 ^ wd.toNat then [] else dg wd.toNat n
def putE (n wd : Int) : Int := if n < 0 ∨ wd < 0 ∨ 18 < wd then 1 else if 0 < n / 10 ^ wd.toNat then 23 else 0
theorem putL_arg {n wd : Int} (h : n < 0 ∨ wd < 0 ∨ 18 < wd) : putL n wd = [] := by unfold putL; rw [if_pos (by omega)]
theorem putE_arg {n wd : Int} (h : n < 0 ∨ wd < 0 ∨ 18 < wd) : putE n wd = 1 := by unfold putE; rw [if_pos h]
theorem putL_over {n : Int} {k : Nat} (h : 0 < n / 10 ^ k) : putL n k = [] := by unfold putL; rw [if_pos (by simp [h])]
theorem putE_over {n : Int} {k : Nat} (h0 : 0 ≤ n) (h1 : k ≤ 18) (h : 0 < n / 10 ^ k) : putE n k = 23 := by unfold putE; rw [if_neg (by omega), if_pos (by simpa using h)]
theorem putL_ok {n : Int} {k : Nat} (h0 : 0 ≤ n) (h1 : k ≤ 18) (h : ¬ 0 < n / 10 ^ k) : putL n k = dg k n := by
  unfold putL; rw [if_neg (by simp only [Int.toNat_natCast]; omega)]; simp
theorem putE_ok {n : Int} {k : Nat} (h0 : 0 ≤ n) (h1 : k ≤ 18) (h : ¬ 0 < n / 10 ^ k) : putE n k = 0 := by unfold putE; rw [if_neg (by omega), if_neg (by simpa using h)]

theorem repl_set (a : Nat) (d : Int) (l : List Int) : ((List.replicate (a + 1) (0 : Int) ++ l).map (Value.int .u8)).set a (.int .u8 d) = (List.replicate a (0 : Int) ++ d :: l).map (Value.int .u8) := by
  rw [← List.map_set, List.replicate_succ']
  simp [List.set_append]

/-- What a digits' row is, behind Put. -/
def PutRet (n wd : Int) (w : World) (e : Ending) (w' : World) : Prop :=
  ∃ v, e = .returned (.tuple #[v, .int .i64 (putE n wd)]) ∧ w'.ownsRow w.heap.size 5 1 v (putL n wd).length ((putL n wd).map (.int .u8)) ∧ Below w.heap.size w w'

set_option maxHeartbeats 2000000 in
theorem bcdPut_nat (n : Int) (W : Nat) (w : World) (h0 : 0 ≤ n) (h9 : n ≤ 9223372036854775807) (hW : W ≤ 18) :
    Calls Tryz.prog 161 #[.int .i64 n, .int .i64 W] w (PutRet n W w) := by
  obtain ⟨i0, hi, hz0, hz1, hz2⟩ := info_parts infoU8
  go_enter Tryz.func161, Tryz.ntmps161
  go_wp2_with (first
    | (at_make; refine wpList_make_full _ rfl _ _ 30 rfl w.heap.size 5 i0 (.int .u8 0) 1 Tryz.underlying30 hi hz0 hz1 .i64 .i64 _ _ W rfl rfl rfl rfl (by rw [hz2]; omega) (by unfold maxLen; omega) (Nat.le_refl _) ?_; intro w1 hown hg))
  have hown2 : w1.ownsRow w.heap.size 5 1 (.slice (some ⟨w.heap.size, 0, none⟩) W W) W ((List.replicate (W - 0) (0 : Int) ++ dg 0 n).map (.int .u8)) := by
    have e : (madeCells (Value.int .u8 0).cells (W * 1)).toList = (List.replicate (W - 0) (0 : Int) ++ dg 0 n).map (.int .u8) := by
      show (madeCells #[Value.int .u8 0] (W * 1)).toList = _
      rw [toList_madeCells_one]; simp [dg]
    rw [← e]; exact hown
  clear hown
  go_loopw [0, 22] (fun nn i wr => ∃ k : Nat, k ≤ W ∧ i = .int .i64 k ∧ nn = .int .i64 (n / 10 ^ k) ∧ wr.ownsRow w.heap.size 5 1 (.slice (some ⟨w.heap.size, 0, none⟩) W W) W ((List.replicate (W - k) (0 : Int) ++ dg k n).map (.int .u8)) ∧ Below w.heap.size w wr) (fun _ i _ => W - (intOf i).toNat)
  case atStart => exact ⟨0, Nat.zero_le _, rfl, by simp, hown2, bG (bR _) hg (fun k h => by cases h)⟩
  case round =>
    obtain ⟨k, hk, rfl, rfl, ho, hbl⟩ := hrel
    have hq := div_step n k
    have HQ := Lib.hid hq
    have hq0 : 0 ≤ n / 10 ^ k := Int.ediv_nonneg h0 (Int.pow_nonneg (by omega))
    have hq9 : n / 10 ^ k ≤ 9223372036854775807 := Int.le_trans (Int.ediv_le_self _ h0) h9
    by_cases hlt : k < W
    · obtain ⟨j, rfl⟩ : ∃ j, W = k + 1 + j := ⟨W - k - 1, by omega⟩
      have HD := Lib.hid (dg_succ k n)
      have HS := Lib.hid (repl_set j (n / 10 ^ k % 10) (dg k n))
      have ho2 := ho
      rw [show k + 1 + j - k = j + 1 by omega] at ho2
      have hcell := ho2.cellAt j (by omega)
      rw [List.getElem?_eq_getElem (by simp; omega)] at hcell
      have hfr := ho2.frozenAt j
      have HO := Lib.hid (ho2.stored j (.int .u8 (n / 10 ^ k % 10)))
      clear ho ho2 hown2 hg hq
      generalize n / 10 ^ k = q at *
      have hx : ((k + 1 + j : Nat) : Int) - 1 - (k : Int) = (j : Int) := by omega
      go_wp2
      go_roundw
      case rel => exact ⟨k + 1, by omega, by go_num, by rw [HQ.out], by have h := HO.out.1; rw [HS.out] at h; rw [HD.out, show k + 1 + j - (k + 1) = j by omega]; exact h, bS hbl (Nat.le_refl _)⟩
      case measure => simp [intOf]; omega
    · obtain rfl : k = W := by omega
      have ho2 : wr.ownsRow w.heap.size 5 1 (.slice (some ⟨w.heap.size, 0, none⟩) k k) (dg k n).length ((dg k n).map (.int .u8)) := by
        rw [Nat.sub_self] at ho; simp only [List.replicate_zero, List.nil_append] at ho; rw [dg_len]; exact ho
      by_cases hov : 0 < n / 10 ^ k
      · have E1 := Lib.hid (putL_over hov)
        have E2 := Lib.hid (putE_over h0 hW hov)
        have HO2 := Lib.hid ho2
        clear ho hown2 hq HQ hg ho2
        go_wp2
        go_ret2
        exact ⟨_, by rw [E2.out] <;> rfl, by rw [E1.out]; exact World.ownsRow_nil _ _ _ _, hbl⟩
      · have E1 := Lib.hid (putL_ok h0 hW hov)
        have E2 := Lib.hid (putE_ok h0 hW hov)
        have HO2 := Lib.hid ho2
        clear ho hown2 hq HQ hg ho2
        go_wp2
        go_ret2
        exact ⟨_, by rw [E2.out] <;> rfl, by rw [E1.out]; exact HO2.out, hbl⟩

theorem bcdPut_any (n wd : Int) (w : World) (h9 : n ≤ 9223372036854775807) : Calls Tryz.prog 161 #[.int .i64 n, .int .i64 wd] w (PutRet n wd w) := by
  by_cases h : n < 0 ∨ wd < 0 ∨ 18 < wd
  · have E1 := Lib.hid (putL_arg h)
    have E2 := Lib.hid (putE_arg h)
    by_cases h1 : n < 0
    · go_enter Tryz.func161, Tryz.ntmps161
      go_wp2
      go_ret2
      exact ⟨_, by rw [E2.out] <;> rfl, by rw [E1.out]; exact World.ownsRow_nil _ _ _ _, bR _⟩
    · by_cases h2 : wd < 0
      · go_enter Tryz.func161, Tryz.ntmps161
        go_wp2
        go_ret2
        exact ⟨_, by rw [E2.out] <;> rfl, by rw [E1.out]; exact World.ownsRow_nil _ _ _ _, bR _⟩
      · have h3 : 18 < wd := by omega
        go_enter Tryz.func161, Tryz.ntmps161
        go_wp2
        go_ret2
        exact ⟨_, by rw [E2.out] <;> rfl, by rw [E1.out]; exact World.ownsRow_nil _ _ _ _, bR _⟩
  · obtain ⟨W, rfl⟩ := Int.eq_ofNat_of_zero_le (show 0 ≤ wd by omega)
    exact bcdPut_nat n W w (by omega) h9 (by omega)
end Go.Proofs.YtnbghgenaolfgaaGreat

namespace Go.Proofs.YtnbghgenaolfgaaGreat
open Go.RowKit
set_option linter.unusedVariables false
set_option maxRecDepth 100000
set_option linter.unusedSimpArgs false

set_option maxHeartbeats 2000000 in
theorem refPut_nat (n : Int) (W : Nat) (w : World) (h0 : 0 ≤ n) (h9 : n ≤ 9223372036854775807) (hW : W ≤ 18) :
    Calls Tryz.prog 171 #[.int .i64 n, .int .i64 W] w (PutRet n W w) := by
  obtain ⟨i0, hi, hz0, hz1, hz2⟩ := info_parts infoU8
  go_enter Tryz.func171, Tryz.ntmps171
  go_wp2
  go_loopw [0, 6, 7] (fun nn v i wr => ∃ k : Nat, k ≤ W ∧ i = .int .i64 k ∧ nn = .int .i64 (n / 10 ^ k) ∧ wr.ownsRow w.heap.size 5 1 v (dg k n).length ((dg k n).map (.int .u8)) ∧ Below w.heap.size w wr) (fun _ _ i _ => W - (intOf i).toNat)
  case atStart => exact ⟨0, Nat.zero_le _, rfl, by simp, own_lit0 _ _ _, (by repeat (first | (with_reducible exact bR _) | (with_reducible refine bT ?_ (by assumption)) | (with_reducible apply bA) | (with_reducible apply bD) | (with_reducible apply bN) | (with_reducible refine bS ?_ (by first | omega | (simp; done) | (simp; omega)))))⟩
  case round =>
    obtain ⟨k, hk, rfl, rfl, ho, hbl⟩ := hrel
    obtain ⟨A, c, rfl, _, _⟩ := own_slice ho
    have hr := RdI.of_own ho
    have hq := div_step n k
    have HQ := Lib.hid hq
    have hq0 : 0 ≤ n / 10 ^ k := Int.ediv_nonneg h0 (Int.pow_nonneg (by omega))
    have hq9 : n / 10 ^ k ≤ 9223372036854775807 := Int.le_trans (Int.ediv_le_self _ h0) h9
    have hlen := dg_len k n
    by_cases hlt : k < W
    · have HD := Lib.hid (dg_succ k n)
      have hsz := hbl.size
      have HL := Lib.hid hlen
      clear ho hq hlen
      generalize n / 10 ^ k = q at *
      generalize dg k n = D at *
      go_wp2_with (first
        | (at_builtin; go_must (refine wpL_app (k := .u8) rfl _ _ 30 rfl w.heap.size 5 i0 (.int .u8 0) 1 Tryz.underlying30 hi hz0 hz1 hz2 rfl _ [q % 10] rfl (own_base (own_lit1 _ _ _ _) hsz) _ _ D rfl (hr.below (bel1 _ _)) ?_ ?_ ?_ ?_; (focus (have hL := HL.out; simp only [List.length_cons, List.length_nil]; exact maxLen_ge (by omega))); (focus (have hL := HL.out; simp only [List.length_cons, List.length_nil]; omega)); (focus (simp; omega)); intro v2 w2 ho2 hg2 _)))
      have h2 := bG (bA hbl _) hg2 (fun j hj => by have := ob_slice hj; omega)
      have HO := Lib.hid ho2
      clear hr hg2 ho2
      go_wp2
      go_roundw
      case rel => exact ⟨k + 1, by omega, by go_num, by rw [HQ.out], by rw [HD.out]; exact HO.out, h2⟩
      case measure => simp [intOf]; omega
    · obtain rfl : k = W := by omega
      by_cases hov : 0 < n / 10 ^ k
      · have E1 := Lib.hid (putL_over hov)
        have E2 := Lib.hid (putE_over h0 hW hov)
        clear ho hq HQ hlen
        go_wp2
        go_ret2
        exact ⟨_, by rw [E2.out] <;> rfl, by rw [E1.out]; exact World.ownsRow_nil _ _ _ _, hbl⟩
      · have E1 := Lib.hid (putL_ok h0 hW hov)
        have E2 := Lib.hid (putE_ok h0 hW hov)
        have HO2 := Lib.hid ho
        clear ho hq HQ hlen
        go_wp2
        go_ret2
        exact ⟨_, by rw [E2.out] <;> rfl, by rw [E1.out]; exact HO2.out, hbl⟩

theorem refPut_any (n wd : Int) (w : World) (h9 : n ≤ 9223372036854775807) : Calls Tryz.prog 171 #[.int .i64 n, .int .i64 wd] w (PutRet n wd w) := by
  by_cases h : n < 0 ∨ wd < 0 ∨ 18 < wd
  · have E1 := Lib.hid (putL_arg h)
    have E2 := Lib.hid (putE_arg h)
    by_cases h1 : n < 0
    · go_enter Tryz.func171, Tryz.ntmps171
      go_wp2
      go_ret2
      exact ⟨_, by rw [E2.out] <;> rfl, by rw [E1.out]; exact World.ownsRow_nil _ _ _ _, bR _⟩
    · by_cases h2 : wd < 0
      · go_enter Tryz.func171, Tryz.ntmps171
        go_wp2
        go_ret2
        exact ⟨_, by rw [E2.out] <;> rfl, by rw [E1.out]; exact World.ownsRow_nil _ _ _ _, bR _⟩
      · have h3 : 18 < wd := by omega
        go_enter Tryz.func171, Tryz.ntmps171
        go_wp2
        go_ret2
        exact ⟨_, by rw [E2.out] <;> rfl, by rw [E1.out]; exact World.ownsRow_nil _ _ _ _, bR _⟩
  · obtain ⟨W, rfl⟩ := Int.eq_ofNat_of_zero_le (show 0 ≤ wd by omega)
    exact refPut_nat n W w (by omega) h9 (by omega)
end Go.Proofs.YtnbghgenaolfgaaGreat

namespace Go.Proofs.YtnbghgenaolfgaaGreat
open Go.RowKit
set_option linter.unusedVariables false
set_option maxRecDepth 100000
set_option linter.unusedSimpArgs false

def joinGo : List Int → List Int → List Int → List Int × Int
  | v :: vs, w :: ws, acc => if putE v w ≠ 0 then ([], putE v w) else joinGo vs ws (acc ++ putL v w)
  | _, _, acc => (acc, 0)
theorem joinGo_cons (v w : Int) (vs ws acc : List Int) : joinGo (v :: vs) (w :: ws) acc = if putE v w ≠ 0 then ([], putE v w) else joinGo vs ws (acc ++ putL v w) := rfl
def joinR (l m : List Int) : List Int × Int := if l.length ≠ m.length ∨ 20 < l.length then ([], 1) else joinGo l m []
theorem joinR_arg {l m : List Int} (h : l.length ≠ m.length ∨ 20 < l.length) : joinR l m = ([], 1) := by unfold joinR; rw [if_pos h]
theorem joinR_go {l m : List Int} (h : l.length = m.length) (h' : ¬ 20 < l.length) : joinR l m = joinGo l m [] := by unfold joinR; rw [if_neg (by omega)]
theorem putL_len (n wd : Int) : (putL n wd).length ≤ 18 := by
  unfold putL; split
  · simp
  · rw [dg_len]; omega
theorem keep_cell {W w9 : World} {a : Addr} {v : Value} (hb : Below W.heap.size W w9) (hc : W.cell? a = some v) : w9.cell? a = some v := (hb.cell (World.block_lt_of_cell? W a hc)).trans hc
theorem keep2 {W w9 : World} {a b : Addr} {u v : Value} (h : W.cell? a = some u ∧ W.cell? b = some v) (hb : Below W.heap.size W w9) : w9.cell? a = some u ∧ w9.cell? b = some v := ⟨keep_cell hb h.1, keep_cell hb h.2⟩
theorem own_drw (b : Bool) {w : World} {base e n size : Nat} {v : Value} {cs : List Value} (h : w.ownsRow base e size v n cs) : (if b then w.drew else w).ownsRow base e size v n cs := by cases b <;> exact h

def JoinRet (l m : List Int) (w : World) (e : Ending) (w' : World) : Prop :=
  ∃ v, e = .returned (.tuple #[v, .int .i64 (joinR l m).2]) ∧ w'.ownsRow w.heap.size 5 1 v (joinR l m).1.length ((joinR l m).1.map (.int .u8)) ∧ Below w.heap.size w w'

set_option maxHeartbeats 4000000 in
set_option maxRecDepth 100000 in
theorem bcdJoin_any (A B : Option Addr) (c d : Nat) (l m : List Int) (w : World) (hr : RdI w .i64 A l) (hs : RdI w .i64 B m) (hl : l.length ≤ 9223372036854775807) (hm : m.length ≤ 9223372036854775807) (hv : ∀ x ∈ l, x ≤ 9223372036854775807) :
    Calls Tryz.prog 90 #[.slice A l.length c, .slice B m.length d] w (JoinRet l m w) := by
  by_cases hlen : l.length = m.length
  · have hd : ((l.length : Int) != (m.length : Int)) = false := by simp only [bne_eq_false_iff_eq]; omega
    by_cases h20 : 20 < l.length
    · have E := Lib.hid (joinR_arg (m := m) (.inr h20))
      clear hlen
      go_enter Tryz.func90, Tryz.ntmps90
      go_wp2
      go_ret2
      exact ⟨_, by rw [E.out] <;> rfl, by rw [E.out]; exact World.ownsRow_nil _ _ _ _, bR _⟩
    · have E := Lib.hid (joinR_go hlen h20)
      obtain ⟨i0, hi, hz0, hz1, hz2⟩ := info_parts infoU8
      have HL := Lib.hid hlen
      have hle : l.length ≤ m.length := by omega
      clear hlen
      go_enter Tryz.func90, Tryz.ntmps90
      go_wp2
      go_loopw [6, 23] (fun v i wr => ∃ (k : Nat) (acc : List Int), k ≤ l.length ∧ i = .int .i64 k ∧ wr.ownsRow w.heap.size 5 1 v acc.length (acc.map (.int .u8)) ∧ acc.length ≤ 18 * k ∧ Below w.heap.size w wr ∧ Hid (joinGo (l.drop k) (m.drop k) acc = joinGo l m [])) (fun v i _ => l.length - (intOf i).toNat)
      case atStart => exact ⟨0, [], Nat.zero_le _, rfl, World.ownsRow_nil _ _ _ _, by simp, (by repeat (first | (with_reducible exact bR _) | (with_reducible refine bT ?_ (by assumption)) | (with_reducible apply bA) | (with_reducible apply bD) | (with_reducible apply bN) | (with_reducible refine bS ?_ (by first | omega | (simp; done) | (simp; omega))))), Lib.hid (by simp)⟩
      case round =>
        obtain ⟨k, acc, hk, rfl, ho, hal, hbl, hg⟩ := hrel
        by_cases hlt : k < l.length
        · have hlt2 : k < m.length := by omega
          obtain ⟨ad, rfl, hc⟩ := (hr.below hbl).at_ hlt
          obtain ⟨bd, rfl, hc2⟩ := (hs.below hbl).at_ hlt2
          have hx := hv _ (getD_mem hlt)
          have e := hg.out
          rw [drop_cons hlt, drop_cons hlt2, joinGo_cons] at e
          have He := Lib.hid e
          clear e hg
          generalize l.getD k 0 = x at *
          generalize m.getD k 0 = y at *
          have HO := Lib.hid ho
          clear ho
          cases hE : (putE x y != 0) with
          | true =>
            have e := He.out
            rw [if_pos (by simpa using hE)] at e
            have He2 := Lib.hid e
            clear e He
            go_wp2_with (first | (go_at_call 161; refine (bcdPut_any _ _ _ (by assumption)).mono ?_; rintro e w1 ⟨pv, rfl, hpo, hb⟩; obtain ⟨pA, pc, rfl, _, _⟩ := own_slice hpo; have hpr := RdI.of_own hpo; have ho2 := own_below (own_drw false HO.out) hb; have hsz := (bT hbl hb).size; have hown := Lib.hid (own_ge ho2); have hpl := putL_len x y; have hbl2 := bT hbl hb; clear hpo) | (at_builtin; refine wpL_app (k := .u8) rfl _ _ 30 rfl w.heap.size 5 i0 (.int .u8 0) 1 Tryz.underlying30 hi hz0 hz1 hz2 rfl _ acc rfl ho2 _ _ (putL x y) rfl hpr ?_ ?_ ?_ ?_; (focus (exact maxLen_ge (by omega))); (focus omega); (focus omega); intro v2 w2 ho3 hg2 _))
            go_wp2
            go_ret2
            exact ⟨_, by rw [E.out, ← He2.out] <;> rfl, by rw [E.out, ← He2.out]; exact World.ownsRow_nil _ _ _ _, (by repeat (first | (with_reducible exact bR _) | (with_reducible refine bT ?_ (by assumption)) | (with_reducible apply bA) | (with_reducible apply bD) | (with_reducible apply bN) | (with_reducible refine bS ?_ (by first | omega | (simp; done) | (simp; omega)))))⟩
          | false =>
            have e := He.out
            rw [if_neg (by simpa using hE)] at e
            have He2 := Lib.hid e
            clear e He
            go_wp2_with (first | (go_at_call 161; refine (bcdPut_any _ _ _ (by assumption)).mono ?_; rintro e w1 ⟨pv, rfl, hpo, hb⟩; obtain ⟨pA, pc, rfl, _, _⟩ := own_slice hpo; have hpr := RdI.of_own hpo; have ho2 := own_below (own_drw false HO.out) hb; have hsz := (bT hbl hb).size; have hown := Lib.hid (own_ge ho2); have hpl := putL_len x y; have hbl2 := bT hbl hb; clear hpo) | (at_builtin; refine wpL_app (k := .u8) rfl _ _ 30 rfl w.heap.size 5 i0 (.int .u8 0) 1 Tryz.underlying30 hi hz0 hz1 hz2 rfl _ acc rfl ho2 _ _ (putL x y) rfl hpr ?_ ?_ ?_ ?_; (focus (exact maxLen_ge (by omega))); (focus omega); (focus omega); intro v2 w2 ho3 hg2 _))
            have h2 := bG hbl2 hg2 hown.out
            have HO3 := Lib.hid ho3
            clear hg2 ho3 ho2 hpr
            go_wp2
            go_roundw
            case rel => exact ⟨k + 1, _, by omega, by go_num, HO3.out, by rw [List.length_append]; omega, h2, He2⟩
            case measure => simp [intOf]; omega
        · have e := hg.out
          rw [List.drop_eq_nil_of_le (show l.length ≤ k by omega)] at e
          have e2 : (acc, (0 : Int)) = joinGo l m [] := by rw [← e]; cases m.drop k <;> rfl
          have He := Lib.hid e2
          have HO := Lib.hid ho
          clear e e2 hg ho
          go_wp2
          go_ret2
          exact ⟨_, by rw [E.out, ← He.out] <;> rfl, by rw [E.out, ← He.out]; exact HO.out, hbl⟩
  · have hd : ((l.length : Int) != (m.length : Int)) = true := by simp only [bne_iff_ne, ne_eq]; omega
    have E := Lib.hid (joinR_arg (m := m) (.inl hlen))
    clear hlen
    go_enter Tryz.func90, Tryz.ntmps90
    go_wp2
    go_ret2
    exact ⟨_, by rw [E.out] <;> rfl, by rw [E.out]; exact World.ownsRow_nil _ _ _ _, bR _⟩


set_option maxHeartbeats 4000000 in
set_option maxRecDepth 100000 in
theorem refJoin_any (A B : Option Addr) (c d : Nat) (l m : List Int) (w : World) (hr : RdI w .i64 A l) (hs : RdI w .i64 B m) (hl : l.length ≤ 9223372036854775807) (hm : m.length ≤ 9223372036854775807) (hv : ∀ x ∈ l, x ≤ 9223372036854775807) :
    Calls Tryz.prog 101 #[.slice A l.length c, .slice B m.length d] w (JoinRet l m w) := by
  by_cases hlen : l.length = m.length
  · have hd : ((l.length : Int) != (m.length : Int)) = false := by simp only [bne_eq_false_iff_eq]; omega
    by_cases h20 : 20 < l.length
    · have E := Lib.hid (joinR_arg (m := m) (.inr h20))
      clear hlen
      go_enter Tryz.func101, Tryz.ntmps101
      go_wp2
      go_ret2
      exact ⟨_, by rw [E.out] <;> rfl, by rw [E.out]; exact World.ownsRow_nil _ _ _ _, bR _⟩
    · have E := Lib.hid (joinR_go hlen h20)
      obtain ⟨i0, hi, hz0, hz1, hz2⟩ := info_parts infoU8
      have HL := Lib.hid hlen
      have hle : l.length ≤ m.length := by omega
      clear hlen
      go_enter Tryz.func101, Tryz.ntmps101
      go_wp2
      go_loopw [6, 7] (fun v i wr => ∃ (k : Nat) (acc : List Int), k ≤ l.length ∧ i = .int .i64 k ∧ wr.ownsRow w.heap.size 5 1 v acc.length (acc.map (.int .u8)) ∧ acc.length ≤ 18 * k ∧ Below w.heap.size w wr ∧ Hid (joinGo (l.drop k) (m.drop k) acc = joinGo l m [])) (fun v i _ => l.length - (intOf i).toNat)
      case atStart => exact ⟨0, [], Nat.zero_le _, rfl, own_lit0 _ _ _, by simp, (by repeat (first | (with_reducible exact bR _) | (with_reducible refine bT ?_ (by assumption)) | (with_reducible apply bA) | (with_reducible apply bD) | (with_reducible apply bN) | (with_reducible refine bS ?_ (by first | omega | (simp; done) | (simp; omega))))), Lib.hid (by simp)⟩
      case round =>
        obtain ⟨k, acc, hk, rfl, ho, hal, hbl, hg⟩ := hrel
        by_cases hlt : k < l.length
        · have hlt2 : k < m.length := by omega
          obtain ⟨ad, rfl, hc⟩ := (hr.below hbl).at_ hlt
          obtain ⟨bd, rfl, hc2⟩ := (hs.below hbl).at_ hlt2
          have hx := hv _ (getD_mem hlt)
          have e := hg.out
          rw [drop_cons hlt, drop_cons hlt2, joinGo_cons] at e
          have He := Lib.hid e
          clear e hg
          generalize l.getD k 0 = x at *
          generalize m.getD k 0 = y at *
          have HO := Lib.hid ho
          clear ho
          cases hE : (putE x y != 0) with
          | true =>
            have e := He.out
            rw [if_pos (by simpa using hE)] at e
            have He2 := Lib.hid e
            clear e He
            go_wp2
            go_region_held3 (fun w9 => w9.cell? (ad.add k) = some (.int .i64 x) ∧ w9.cell? (bd.add k) = some (.int .i64 y)) (first | (go_keep; done) | exact keep2 (by assumption) hb)
              (first | (go_at_call 171; refine (refPut_any _ _ _ (by assumption)).mono ?_; rintro e w1 ⟨pv, rfl, hpo, hb⟩; obtain ⟨pA, pc, rfl, _, _⟩ := own_slice hpo; have hpr := RdI.of_own hpo; have ho2 := own_below (own_drw true HO.out) hb; have hsz := (bT (bD hbl) hb).size; have hown := Lib.hid (own_ge ho2); have hpl := putL_len x y; have hbl2 := bT (bD hbl) hb; clear hpo))
            go_wp2_with (first | (at_builtin; refine wpL_app (k := .u8) rfl _ _ 30 rfl w.heap.size 5 i0 (.int .u8 0) 1 Tryz.underlying30 hi hz0 hz1 hz2 rfl _ acc rfl ho2 _ _ (putL x y) rfl hpr ?_ ?_ ?_ ?_; (focus (exact maxLen_ge (by omega))); (focus omega); (focus omega); intro v2 w2 ho3 hg2 _))
            go_wp2
            go_ret2
            exact ⟨_, by rw [E.out, ← He2.out] <;> rfl, by rw [E.out, ← He2.out]; exact World.ownsRow_nil _ _ _ _, (by repeat (first | (with_reducible exact bR _) | (with_reducible refine bT ?_ (by assumption)) | (with_reducible apply bA) | (with_reducible apply bD) | (with_reducible apply bN) | (with_reducible refine bS ?_ (by first | omega | (simp; done) | (simp; omega)))))⟩
          | false =>
            have e := He.out
            rw [if_neg (by simpa using hE)] at e
            have He2 := Lib.hid e
            clear e He
            go_wp2
            go_region_held3 (fun w9 => w9.cell? (ad.add k) = some (.int .i64 x) ∧ w9.cell? (bd.add k) = some (.int .i64 y)) (first | (go_keep; done) | exact keep2 (by assumption) hb)
              (first | (go_at_call 171; refine (refPut_any _ _ _ (by assumption)).mono ?_; rintro e w1 ⟨pv, rfl, hpo, hb⟩; obtain ⟨pA, pc, rfl, _, _⟩ := own_slice hpo; have hpr := RdI.of_own hpo; have ho2 := own_below (own_drw true HO.out) hb; have hsz := (bT (bD hbl) hb).size; have hown := Lib.hid (own_ge ho2); have hpl := putL_len x y; have hbl2 := bT (bD hbl) hb; clear hpo))
            go_wp2_with (first | (at_builtin; refine wpL_app (k := .u8) rfl _ _ 30 rfl w.heap.size 5 i0 (.int .u8 0) 1 Tryz.underlying30 hi hz0 hz1 hz2 rfl _ acc rfl ho2 _ _ (putL x y) rfl hpr ?_ ?_ ?_ ?_; (focus (exact maxLen_ge (by omega))); (focus omega); (focus omega); intro v2 w2 ho3 hg2 _))
            have h2 := bG hbl2 hg2 hown.out
            have HO3 := Lib.hid ho3
            clear hg2 ho3 ho2 hpr
            go_wp2
            go_roundw
            case rel => exact ⟨k + 1, _, by omega, by go_num, HO3.out, by rw [List.length_append]; omega, h2, He2⟩
            case measure => simp [intOf]; omega
        · have e := hg.out
          rw [List.drop_eq_nil_of_le (show l.length ≤ k by omega)] at e
          have e2 : (acc, (0 : Int)) = joinGo l m [] := by rw [← e]; cases m.drop k <;> rfl
          have He := Lib.hid e2
          have HO := Lib.hid ho
          clear e e2 hg ho
          go_wp2
          go_ret2
          exact ⟨_, by rw [E.out, ← He.out] <;> rfl, by rw [E.out, ← He.out]; exact HO.out, hbl⟩
  · have hd : ((l.length : Int) != (m.length : Int)) = true := by simp only [bne_iff_ne, ne_eq]; omega
    have E := Lib.hid (joinR_arg (m := m) (.inl hlen))
    clear hlen
    go_enter Tryz.func101, Tryz.ntmps101
    go_wp2
    go_ret2
    exact ⟨_, by rw [E.out] <;> rfl, by rw [E.out]; exact World.ownsRow_nil _ _ _ _, bR _⟩

end Go.Proofs.YtnbghgenaolfgaaGreat

namespace Go.Proofs.YtnbghgenaolfgaaGreat
open Go.RowKit
set_option linter.unusedVariables false
set_option maxRecDepth 100000
set_option linter.unusedSimpArgs false

theorem infoB8 : (Tryz.prog.info? 5).map (fun i => (i.zero, i.size, i.bytes)) = some (some (.int .u8 0), 1, 1) := by kernel_rfl
theorem wpL_build {P : Program} {ops : Array Oper} {rest : List Oper} {o : Oper} {a : Act} {w : World} {Q : Exit → Act → World → Prop} (hg : o.guard = none) (t : TypeId) (parts : Array (Nat × Operand)) (ho : o.op = .build t parts)
    (C : Array Value) (hC : P.built t (parts.map fun (i, x) => (i, a.eval x)).toList = some C)
    (h : wpList P ops Q rest (a.put o.dst (.agg C)) w) : wpList P ops Q (o :: rest) a w :=
  wpList_build hg t parts ho (by rw [hC]; rfl) (by rw [hC]; exact h)
/-- A block that was just made. -/
theorem new_block (w : World) (o : Obj) : ∃ w1, w.alloc o = w1 ∧ w1.heap[w.heap.size]? = some o ∧ Below w.heap.size w w1 ∧ w1.heap.size = w.heap.size + 1 :=
  ⟨_, rfl, heap_alloc_new w o, bel1 w o, by simp⟩
theorem setRow_below {W w : World} {n g : Nat} {cs : Array Value} (h : Below n W w) (hg : n ≤ g) : Below n W (w.setRow g cs) := below_setRow h hg _
/-- Words, as they lie in a row. -/
def wv (l : List Nat) : List Value := l.map (fun n : Nat => Value.int .u32 (n : Int))
def bv (l : List Int) : List Value := l.map (Value.int .u8)
theorem wv_len (l : List Nat) : (wv l).length = l.length := by simp [wv]
theorem bv_len (l : List Int) : (bv l).length = l.length := by simp [bv]
theorem wv_one (l : List Nat) : ∀ v ∈ wv l, v.oneCell' = true := by
  intro v hv
  obtain ⟨n, _, rfl⟩ := List.mem_map.1 hv
  rfl
theorem bv_one (l : List Int) : ∀ v ∈ bv l, v.oneCell' = true := one_ints .u8 l
theorem all_one {l : List Value} (h : ∀ v ∈ l, v.oneCell' = true) : l.toArray.all (·.oneCell') = true := by
  rw [List.all_toArray, List.all_eq_true]; exact h
theorem wv_at {l : List Nat} {j : Nat} (h : j < l.length) : (wv l)[j]? = some (.int .u32 ((l.getD j 0 : Nat) : Int)) := by
  simp [wv, List.getD_eq_getElem?_getD, h]
theorem bv_at {l : List Int} {j : Nat} (h : j < l.length) : (bv l)[j]? = some (.int .u8 (l.getD j 0)) := by
  simp [bv, List.getD_eq_getElem?_getD, h]
theorem wv_set (l : List Nat) (j n : Nat) : (wv l).set j (.int .u32 (n : Int)) = wv (l.set j n) := by simp [wv, List.map_set]
theorem bv_set (l : List Int) (j : Nat) (n : Int) : (bv l).set j (.int .u8 n) = bv (l.set j n) := by simp [bv, List.map_set]
theorem row_wv {w : World} {g : Nat} {l : List Nat} {t : TypeId} {j : Nat} (h : w.heap[g]? = some (.cells (wv l).toArray t (0, 0))) (hj : j < l.length) : w.cell? ⟨g, j, none⟩ = some (.int .u32 ((l.getD j 0 : Nat) : Int)) := by
  rw [cell_of_row w g j _ t (0, 0) h, List.getElem?_toArray]; exact wv_at hj
theorem row_bv {w : World} {g : Nat} {l : List Int} {t : TypeId} {j : Nat} (h : w.heap[g]? = some (.cells (bv l).toArray t (0, 0))) (hj : j < l.length) : w.cell? ⟨g, j, none⟩ = some (.int .u8 (l.getD j 0)) := by
  rw [cell_of_row w g j _ t (0, 0) h, List.getElem?_toArray]; exact bv_at hj
theorem row_wset {w : World} {g : Nat} {l : List Nat} {t : TypeId} (j n : Nat) (h : w.heap[g]? = some (.cells (wv l).toArray t (0, 0))) : (w.setCell ⟨g, j, none⟩ (.int .u32 (n : Int))).heap[g]? = some (.cells (wv (l.set j n)).toArray t (0, 0)) := by
  rw [heap_setCell_same w g j _ t _ h]; simp [wv, List.map_set]
theorem row_bset {w : World} {g : Nat} {l : List Int} {t : TypeId} (j : Nat) (n : Int) (h : w.heap[g]? = some (.cells (bv l).toArray t (0, 0))) : (w.setCell ⟨g, j, none⟩ (.int .u8 n)).heap[g]? = some (.cells (bv (l.set j n)).toArray t (0, 0)) := by
  rw [heap_setCell_same w g j _ t _ h]; simp [bv, List.map_set]
theorem row_free {w : World} {g : Nat} {cs : Array Value} {t : TypeId} (h : w.heap[g]? = some (.cells cs t (0, 0))) (j : Nat) : w.frozen? ⟨g, j, none⟩ = false := frozen_of_row w g j cs t h
/-- A row of bytes, as a slice of it reads. -/
theorem rd_row {w : World} {g : Nat} {l : List Int} {t : TypeId} (h : w.heap[g]? = some (.cells (bv l).toArray t (0, 0))) : RdI w .u8 (some ⟨g, 0, none⟩) l := by
  refine .inr ⟨_, rfl, (Array.getElem?_eq_some_iff.1 h).1, fun j hj => ?_⟩
  have e : (⟨g, 0, none⟩ : Addr).add j = ⟨g, j, none⟩ := by unfold Addr.add; by_cases h : j = 0 <;> simp [h]
  rw [e]; exact row_bv h hj
theorem rd_roww {w : World} {g : Nat} {l : List Nat} {t : TypeId} (h : w.heap[g]? = some (.cells (wv l).toArray t (0, 0))) : RdI w .u32 (some ⟨g, 0, none⟩) (l.map (fun n : Nat => (n : Int))) := by
  refine .inr ⟨_, rfl, (Array.getElem?_eq_some_iff.1 h).1, fun j hj => ?_⟩
  have e : (⟨g, 0, none⟩ : Addr).add j = ⟨g, j, none⟩ := by unfold Addr.add; by_cases h : j = 0 <;> simp [h]
  have hj' : j < l.length := by simpa using hj
  rw [e, row_wv h hj']
  simp [List.getD_eq_getElem?_getD, hj']
theorem bNg {n : Nat} {W w : World} (h : Below n W w) (m : Nat) : Below n W (w.drewN m) := ⟨h.os, h.tape, h.output, h.size, h.block⟩
theorem bDg {n : Nat} {W w : World} (h : Below n W w) : Below n W w.drew := h.drew
theorem bSg {n g j : Nat} {W w : World} (h : Below n W w) (hg : n ≤ g) (v : Value) : Below n W (w.setCell ⟨g, j, none⟩ v) := h.setCell hg v
theorem bTg {n m : Nat} {W w1 w2 : World} (h : Below n W w1) (k : Below m w1 w2) (hm : n ≤ m) : Below n W w2 := h.trans (k.mono hm)
theorem keep_b2 {n : Nat} {W0 W w9 : World} {a b : Addr} {x y : Value} (h : Below n W0 W ∧ W.cell? a = some x ∧ W.cell? b = some y) (hn : n ≤ W.heap.size) (hb : Below W.heap.size W w9) : Below n W0 w9 ∧ w9.cell? a = some x ∧ w9.cell? b = some y :=
  ⟨bTg h.1 hb hn, (hb.cell (p := a) (World.block_lt_of_cell? W a h.2.1)).trans h.2.1, (hb.cell (p := b) (World.block_lt_of_cell? W b h.2.2)).trans h.2.2⟩
theorem newRow (w : World) (A B : Array Value) (t : TypeId) : ∃ w1, (w.alloc (.cells A t)).setRow w.heap.size B = w1 ∧ w1.heap[w.heap.size]? = some (.cells B t (0, 0)) ∧ Below w.heap.size w w1 ∧ w1.heap.size = w.heap.size + 1 :=
  ⟨_, rfl, setRow_heap _ _ _ _ _ _ (heap_alloc_new w _), setRow_below (bel1 w _) (Nat.le_refl _), by simp⟩
theorem new2 (w : World) (A B : Obj) : ∃ w0, ((w.alloc A).alloc B) = w0 ∧ w0.heap[w.heap.size]? = some A ∧ w0.heap[w.heap.size + 1]? = some B ∧ w0.heap.size = w.heap.size + 1 + 1 ∧ Below w.heap.size w w0 := by
  refine ⟨_, rfl, ?_, ?_, ?_, ?_⟩
  · exact (Below.heap_alloc _ _ _ (by simp)).trans (heap_alloc_new _ _)
  · have := heap_alloc_new (w.alloc A) B; simpa using this
  · simp
  · exact bA (bel1 _ _) _
theorem new4 (w : World) (A B C D : Obj) : ∃ w0, ((((w.alloc A).alloc B).alloc C).alloc D) = w0 ∧ w0.heap[w.heap.size]? = some A ∧ w0.heap[w.heap.size + 1]? = some B ∧ w0.heap[w.heap.size + 1 + 1]? = some C ∧ w0.heap[w.heap.size + 1 + 1 + 1]? = some D ∧ w0.heap.size = w.heap.size + 1 + 1 + 1 + 1 ∧ Below w.heap.size w w0 := by
  obtain ⟨w1, h1, a1, a2, a3, a4⟩ := new2 w A B
  obtain ⟨w2, h2, b1, b2, b3, b4⟩ := new2 w1 C D
  refine ⟨w2, by rw [h1, h2], ?_, ?_, ?_, ?_, by omega, bT a4 b4⟩
  · exact (b4.block _ (by omega)).trans a1
  · exact (b4.block _ (by omega)).trans a2
  · rw [a3] at b1; exact b1
  · rw [a3] at b2; exact b2
end Go.Proofs.YtnbghgenaolfgaaGreat

namespace Go.Proofs.YtnbghgenaolfgaaGreat
open Go.RowKit
set_option linter.unusedVariables false
set_option maxRecDepth 100000
set_option linter.unusedSimpArgs false

/-- How many ones, as the library counts them. -/
def popE (x : Int) : Int :=
  let a := IntKind.u64.wrap (bits .and .u64 (x / 2) 6148914691236517205 + bits .and .u64 x 6148914691236517205)
  let b := IntKind.u64.wrap (bits .and .u64 (a / 4) 3689348814741910323 + bits .and .u64 a 3689348814741910323)
  let c := bits .and .u64 (IntKind.u64.wrap (b / 16 + b)) 1085102592571150095
  let d := IntKind.u64.wrap (c + c / 256)
  let e := IntKind.u64.wrap (d + d / 65536)
  let f := IntKind.u64.wrap (e + e / 4294967296)
  bits .and .i64 (wrap64 f) 127
theorem ones64_any (x : Int) (w : World) : Calls Tryz.prog 237 #[.int .u64 x] w fun e w' => e = .returned (.int .i64 (popE x)) ∧ w = w' := by
  go_enter Tryz.func237, Tryz.ntmps237
  go_wp2
  generalize hv : bits BinOp.and IntKind.i64 _ 127 = v
  obtain rfl : popE x = v := hv
  go_ret
  exact ⟨rfl, rfl⟩
theorem ones_any (x : Int) (w : World) : Calls Tryz.prog 211 #[.int .u64 x] w fun e w' => e = .returned (.int .i64 (popE x)) ∧ w = w' := by
  go_enter Tryz.func211, Tryz.ntmps211
  go_wp2_with (go_at_call 237; (with_reducible refine (ones64_any _ _).mono ?_); rintro e w' ⟨rfl, rfl⟩)
  go_ret
  exact ⟨rfl, rfl⟩
/-- How many ones a number below 32 has, even or odd. -/
def oddB (x : Int) : Bool := x % 2 + x / 2 % 2 + x / 4 % 2 + x / 8 % 2 + x / 16 % 2 == 1 || x % 2 + x / 2 % 2 + x / 4 % 2 + x / 8 % 2 + x / 16 % 2 == 3 || x % 2 + x / 2 % 2 + x / 4 % 2 + x / 8 % 2 + x / 16 % 2 == 5
theorem below32 {P : Int → Prop} (h : ∀ n : Fin 32, P ((n.val : Nat) : Int)) {x : Int} (h0 : 0 ≤ x) (h1 : x ≤ 31) : P x := by
  obtain ⟨n, rfl⟩ := Int.eq_ofNat_of_zero_le h0
  exact h ⟨n, by omega⟩
theorem pop_odd {x : Int} (h0 : 0 ≤ x) (h1 : x ≤ 31) : bits .and .i64 (popE x) 1 = if oddB x then 1 else 0 := by
  refine below32 (P := fun x => bits .and .i64 (popE x) 1 = if oddB x then 1 else 0) ?_ h0 h1
  decide +kernel
theorem pwithin_any (n m : Int) (w : World) : Calls Tryz.prog 163 #[.int .i64 n, .int .i64 m] w fun e w' => e = .returned (.bool (decide (0 ≤ n) && decide (n ≤ m))) ∧ w = w' := by
  by_cases h : 0 ≤ n
  · go_enter Tryz.func163, Tryz.ntmps163
    go_wp2
    go_ret
    exact ⟨by simp [h], rfl⟩
  · go_enter Tryz.func163, Tryz.ntmps163
    go_wp2
    go_ret
    exact ⟨by rw [show decide (0 ≤ n) = false by simpa using h] <;> rfl, rfl⟩
/-- A value's character. -/
def chr (v : Int) : Int := if oddB v then v else v + 16
/-- What a character says. -/
def chV (c : Int) : Int × Int := if oddB c then (c % 16, 0) else (0, 3)
theorem chr_odd {v : Int} (h0 : 0 ≤ v) (h1 : v ≤ 15) : oddB (chr v) = true ∧ 0 ≤ chr v ∧ chr v ≤ 31 ∧ chr v % 16 = v := by
  refine below32 (P := fun v => v ≤ 15 → oddB (chr v) = true ∧ 0 ≤ chr v ∧ chr v ≤ 31 ∧ chr v % 16 = v) ?_ h0 (by omega) h1
  decide +kernel
theorem chr_val {c : Int} (h0 : 0 ≤ c) (h1 : c ≤ 31) (h : oddB c = true) : chr (c % 16) = c := by
  refine below32 (P := fun c => oddB c = true → chr (c % 16) = c) ?_ h0 h1 h
  decide +kernel
theorem chr_or {v : Int} (h0 : 0 ≤ v) (h1 : v ≤ 15) : bits .or .i64 v (wrap64 (bits .and .i64 (bits .xor .i64 (-1) (popE v)) 1 * 16)) = chr v := by
  refine below32 (P := fun v => v ≤ 15 → bits .or .i64 v (wrap64 (bits .and .i64 (bits .xor .i64 (-1) (popE v)) 1 * 16)) = chr v) ?_ h0 (by omega) h1
  decide +kernel
theorem char_any (v : Int) (w : World) (h0 : 0 ≤ v) (h1 : v ≤ 15) : Calls Tryz.prog 164 #[.int .i64 v] w fun e w' => e = .returned (.tuple #[.int .i64 (chr v), .int .i64 0]) ∧ w = w' := by
  have hW := pwithin_any v 15 w
  rw [show (decide (0 ≤ v) && decide (v ≤ 15)) = true by simp [h0, h1]] at hW
  have hw : IntKind.u64.wrap v = v := by rw [IntKind.wrap_u64]; omega
  have hO := ones_any v w
  have hs : IntKind.i64.signed = true := rfl
  have HE := Lib.hid (chr_or h0 h1)
  go_enter Tryz.func164, Tryz.ntmps164
  go_wp2_with (first | (go_at_call 163; (with_reducible refine hW.mono ?_); rintro e w' ⟨rfl, rfl⟩) | (go_at_call 211; (try rw [hw]); (refine hO.mono ?_); rintro e w' ⟨rfl, rfl⟩))
  go_ret2
  exact ⟨by rw [← HE.out] <;> rfl, rfl⟩
theorem and15 {c : Int} (h0 : 0 ≤ c) (h1 : c ≤ 31) : bits .and .i64 c 15 = c % 16 := by
  refine below32 (P := fun c => bits .and .i64 c 15 = c % 16) ?_ h0 h1
  decide +kernel
theorem pvalue_any (c : Int) (w : World) (h0 : 0 ≤ c) (h1 : c ≤ 31) : Calls Tryz.prog 246 #[.int .i64 c] w fun e w' => e = .returned (.tuple #[.int .i64 (chV c).1, .int .i64 (chV c).2]) ∧ w = w' := by
  have hW := pwithin_any c 31 w
  rw [show (decide (0 ≤ c) && decide (c ≤ 31)) = true by simp [h0, h1]] at hW
  have hw : IntKind.u64.wrap c = c := by rw [IntKind.wrap_u64]; omega
  have hO := ones_any c w
  have hp := pop_odd h0 h1
  have H15 := Lib.hid (and15 h0 h1)
  cases ho : oddB c with
  | true =>
    rw [ho, if_pos rfl] at hp
    have HV := Lib.hid (show chV c = (c % 16, 0) by unfold chV; rw [if_pos ho])
    go_enter Tryz.func246, Tryz.ntmps246
    go_wp2_with (first | (go_at_call 163; (with_reducible refine hW.mono ?_); rintro e w' ⟨rfl, rfl⟩) | (go_at_call 211; (try rw [hw]); (refine hO.mono ?_); rintro e w' ⟨rfl, rfl⟩))
    go_ret2
    exact ⟨by rw [HV.out, ← H15.out] <;> rfl, rfl⟩
  | false =>
    rw [ho, if_neg (by simp)] at hp
    have HV := Lib.hid (show chV c = (0, 3) by unfold chV; rw [if_neg (by simp [ho])])
    go_enter Tryz.func246, Tryz.ntmps246
    go_wp2_with (first | (go_at_call 163; (with_reducible refine hW.mono ?_); rintro e w' ⟨rfl, rfl⟩) | (go_at_call 211; (try rw [hw]); (refine hO.mono ?_); rintro e w' ⟨rfl, rfl⟩))
    go_ret2
    exact ⟨by rw [HV.out] <;> rfl, rfl⟩
end Go.Proofs.YtnbghgenaolfgaaGreat

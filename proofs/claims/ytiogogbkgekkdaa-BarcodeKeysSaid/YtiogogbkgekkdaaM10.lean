/- Words on arrays: built, stored and loaded whole, read at an index. A region that draws its order, in a round of a range over a function: by the laws for a region elsewhere. No condition. -/
import Derived.Test.YtiogogbkgekkdaaM00
import Derived.Laws.CopyOwn
import Derived.Laws.Tables
import Derived.StillTailTactics
import Derived.Deep.QuietTactic
import Derived.BigQuiet
import Derived.Deep.RegionWith
import Derived.Deep.RegionHeld3
import Derived.Deep.RegionLaw
import Derived.OrdersIn
namespace Go.Proofs.Ytiogogbkgekkdaa
open Go.RowKit
set_option linter.unusedVariables false
set_option maxRecDepth 100000
set_option linter.unusedSimpArgs false

theorem infoB8 : (Try.prog.info? 5).map (fun i => (i.zero, i.size, i.bytes)) = some (some (.int .u8 0), 1, 1) := by kernel_rfl
theorem wpL_build {P : Program} {ops : Array Oper} {rest : List Oper} {o : Oper} {a : Act} {w : World} {Q : Exit → Act → World → Prop} (hg : o.guard = none) (t : TypeId) (parts : Array (Nat × Operand)) (ho : o.op = .build t parts)
    (C : Array Value) (hC : P.built t (parts.map fun (i, x) => (i, a.eval x)).toList = some C)
    (h : wpList P ops Q rest (a.put o.dst (.agg C)) w) : wpList P ops Q (o :: rest) a w :=
  wpList_build hg t parts ho (by rw [hC]; rfl) (by rw [hC]; exact h)
/-- A block that was just made. -/
theorem new_block (w : World) (o : Obj) : ∃ w1, w.alloc o = w1 ∧ w1.heap[w.heap.size]? = some o ∧ Below w.heap.size w w1 ∧ w1.heap.size = w.heap.size + 1 :=
  ⟨_, rfl, heap_alloc_new w o, bel1 w o, by simp⟩
theorem setRow_below {W w : World} {n g : Nat} {cs : Array Value} (h : Below n W w) (hg : n ≤ g) : Below n W (w.setRow g cs) := below_setRow h hg _
/-- Words, as they lie in a row. -/
def wv (l : List Nat) : List Value := l.map (fun n : Nat => Value.int .u32 (n : Int))
def bv (l : List Int) : List Value := l.map (Value.int .u8)
theorem wv_len (l : List Nat) : (wv l).length = l.length := by simp [wv]
theorem bv_len (l : List Int) : (bv l).length = l.length := by simp [bv]
theorem wv_one (l : List Nat) : ∀ v ∈ wv l, v.oneCell' = true := by
  intro v hv
  obtain ⟨n, _, rfl⟩ := List.mem_map.1 hv
  rfl
theorem bv_one (l : List Int) : ∀ v ∈ bv l, v.oneCell' = true := one_ints .u8 l
theorem all_one {l : List Value} (h : ∀ v ∈ l, v.oneCell' = true) : l.toArray.all (·.oneCell') = true := by
  rw [List.all_toArray, List.all_eq_true]; exact h
theorem wv_at {l : List Nat} {j : Nat} (h : j < l.length) : (wv l)[j]? = some (.int .u32 ((l.getD j 0 : Nat) : Int)) := by
  simp [wv, List.getD_eq_getElem?_getD, h]
theorem bv_at {l : List Int} {j : Nat} (h : j < l.length) : (bv l)[j]? = some (.int .u8 (l.getD j 0)) := by
  simp [bv, List.getD_eq_getElem?_getD, h]
theorem wv_set (l : List Nat) (j n : Nat) : (wv l).set j (.int .u32 (n : Int)) = wv (l.set j n) := by simp [wv, List.map_set]
theorem bv_set (l : List Int) (j : Nat) (n : Int) : (bv l).set j (.int .u8 n) = bv (l.set j n) := by simp [bv, List.map_set]
theorem row_wv {w : World} {g : Nat} {l : List Nat} {t : TypeId} {j : Nat} (h : w.heap[g]? = some (.cells (wv l).toArray t (0, 0))) (hj : j < l.length) : w.cell? ⟨g, j, none⟩ = some (.int .u32 ((l.getD j 0 : Nat) : Int)) := by
  rw [cell_of_row w g j _ t (0, 0) h, List.getElem?_toArray]; exact wv_at hj
theorem row_bv {w : World} {g : Nat} {l : List Int} {t : TypeId} {j : Nat} (h : w.heap[g]? = some (.cells (bv l).toArray t (0, 0))) (hj : j < l.length) : w.cell? ⟨g, j, none⟩ = some (.int .u8 (l.getD j 0)) := by
  rw [cell_of_row w g j _ t (0, 0) h, List.getElem?_toArray]; exact bv_at hj
theorem row_wset {w : World} {g : Nat} {l : List Nat} {t : TypeId} (j n : Nat) (h : w.heap[g]? = some (.cells (wv l).toArray t (0, 0))) : (w.setCell ⟨g, j, none⟩ (.int .u32 (n : Int))).heap[g]? = some (.cells (wv (l.set j n)).toArray t (0, 0)) := by
  rw [heap_setCell_same w g j _ t _ h]; simp [wv, List.map_set]
theorem row_bset {w : World} {g : Nat} {l : List Int} {t : TypeId} (j : Nat) (n : Int) (h : w.heap[g]? = some (.cells (bv l).toArray t (0, 0))) : (w.setCell ⟨g, j, none⟩ (.int .u8 n)).heap[g]? = some (.cells (bv (l.set j n)).toArray t (0, 0)) := by
  rw [heap_setCell_same w g j _ t _ h]; simp [bv, List.map_set]
theorem row_free {w : World} {g : Nat} {cs : Array Value} {t : TypeId} (h : w.heap[g]? = some (.cells cs t (0, 0))) (j : Nat) : w.frozen? ⟨g, j, none⟩ = false := frozen_of_row w g j cs t h
/-- A row of bytes, as a slice of it reads. -/
theorem rd_row {w : World} {g : Nat} {l : List Int} {t : TypeId} (h : w.heap[g]? = some (.cells (bv l).toArray t (0, 0))) : RdI w .u8 (some ⟨g, 0, none⟩) l := by
  refine .inr ⟨_, rfl, (Array.getElem?_eq_some_iff.1 h).1, fun j hj => ?_⟩
  have e : (⟨g, 0, none⟩ : Addr).add j = ⟨g, j, none⟩ := by unfold Addr.add; by_cases h : j = 0 <;> simp [h]
  rw [e]; exact row_bv h hj
theorem rd_roww {w : World} {g : Nat} {l : List Nat} {t : TypeId} (h : w.heap[g]? = some (.cells (wv l).toArray t (0, 0))) : RdI w .u32 (some ⟨g, 0, none⟩) (l.map (fun n : Nat => (n : Int))) := by
  refine .inr ⟨_, rfl, (Array.getElem?_eq_some_iff.1 h).1, fun j hj => ?_⟩
  have e : (⟨g, 0, none⟩ : Addr).add j = ⟨g, j, none⟩ := by unfold Addr.add; by_cases h : j = 0 <;> simp [h]
  have hj' : j < l.length := by simpa using hj
  rw [e, row_wv h hj']
  simp [List.getD_eq_getElem?_getD, hj']
theorem bNg {n : Nat} {W w : World} (h : Below n W w) (m : Nat) : Below n W (w.drewN m) := ⟨h.os, h.tape, h.output, h.size, h.block⟩
theorem bDg {n : Nat} {W w : World} (h : Below n W w) : Below n W w.drew := h.drew
theorem bSg {n g j : Nat} {W w : World} (h : Below n W w) (hg : n ≤ g) (v : Value) : Below n W (w.setCell ⟨g, j, none⟩ v) := h.setCell hg v
theorem bTg {n m : Nat} {W w1 w2 : World} (h : Below n W w1) (k : Below m w1 w2) (hm : n ≤ m) : Below n W w2 := h.trans (k.mono hm)
theorem keep_b2 {n : Nat} {W0 W w9 : World} {a b : Addr} {x y : Value} (h : Below n W0 W ∧ W.cell? a = some x ∧ W.cell? b = some y) (hn : n ≤ W.heap.size) (hb : Below W.heap.size W w9) : Below n W0 w9 ∧ w9.cell? a = some x ∧ w9.cell? b = some y :=
  ⟨bTg h.1 hb hn, (hb.cell (p := a) (World.block_lt_of_cell? W a h.2.1)).trans h.2.1, (hb.cell (p := b) (World.block_lt_of_cell? W b h.2.2)).trans h.2.2⟩
theorem newRow (w : World) (A B : Array Value) (t : TypeId) : ∃ w1, (w.alloc (.cells A t)).setRow w.heap.size B = w1 ∧ w1.heap[w.heap.size]? = some (.cells B t (0, 0)) ∧ Below w.heap.size w w1 ∧ w1.heap.size = w.heap.size + 1 :=
  ⟨_, rfl, setRow_heap _ _ _ _ _ _ (heap_alloc_new w _), setRow_below (bel1 w _) (Nat.le_refl _), by simp⟩
theorem new2 (w : World) (A B : Obj) : ∃ w0, ((w.alloc A).alloc B) = w0 ∧ w0.heap[w.heap.size]? = some A ∧ w0.heap[w.heap.size + 1]? = some B ∧ w0.heap.size = w.heap.size + 1 + 1 ∧ Below w.heap.size w w0 := by
  refine ⟨_, rfl, ?_, ?_, ?_, ?_⟩
  · exact (Below.heap_alloc _ _ _ (by simp)).trans (heap_alloc_new _ _)
  · have := heap_alloc_new (w.alloc A) B; simpa using this
  · simp
  · exact bA (bel1 _ _) _
theorem new4 (w : World) (A B C D : Obj) : ∃ w0, ((((w.alloc A).alloc B).alloc C).alloc D) = w0 ∧ w0.heap[w.heap.size]? = some A ∧ w0.heap[w.heap.size + 1]? = some B ∧ w0.heap[w.heap.size + 1 + 1]? = some C ∧ w0.heap[w.heap.size + 1 + 1 + 1]? = some D ∧ w0.heap.size = w.heap.size + 1 + 1 + 1 + 1 ∧ Below w.heap.size w w0 := by
  obtain ⟨w1, h1, a1, a2, a3, a4⟩ := new2 w A B
  obtain ⟨w2, h2, b1, b2, b3, b4⟩ := new2 w1 C D
  refine ⟨w2, by rw [h1, h2], ?_, ?_, ?_, ?_, by omega, bT a4 b4⟩
  · exact (b4.block _ (by omega)).trans a1
  · exact (b4.block _ (by omega)).trans a2
  · rw [a3] at b1; exact b1
  · rw [a3] at b2; exact b2
end Go.Proofs.Ytiogogbkgekkdaa

namespace Go.Proofs.Ytiogogbkgekkdaa
open Go.RowKit
set_option linter.unusedVariables false
set_option maxRecDepth 100000
set_option linter.unusedSimpArgs false

theorem oper_round {l n : Nat} {P : Program} {o : Oper} {a : Act} {w : World} {K : Act → World → Prop} {Q : Exit → Act → World → Prop} (hnd : ∀ c, o.op ≠ .defer c) (h : o.wp P a w K Q) : o.wpIn (Fence.wide.inRound l) n P a w K Q := by
  refine ⟨fun _ _ => trivial, ?_⟩
  rw [Oper.semAt_eq _ _ _ hnd]
  unfold Oper.wp at h
  generalize (execOp a.eval o).run P w = r at *
  cases r with
  | ok x w' =>
    cases x with
    | value v => exact h
    | skip => exact h
    | defer d => exact h
    | enter f args => exact ⟨(fun hd => by cases hd), (callsIn_wide (n := n - 1)).2 h⟩
    | row row args => exact ⟨(fun hd => by cases hd), fun c cs _ => let ⟨v, w2, r, s⟩ := h c cs; ⟨v, w2, r, stepsIn_wide.2 s⟩⟩
    | _ => exact h.elim
  | halt x w' =>
    cases x with
    | panic v => exact h
    | _ => exact h.elim
def noDefer (ops : Array Oper) : Bool := ops.all fun o => match o.op with
  | .defer _ => false
  | _ => true
theorem noDefer_at {ops : Array Oper} (h : noDefer ops = true) {i : Nat} {o : Oper} (hi : ops[i]? = some o) : ∀ c, o.op ≠ .defer c := by
  intro c hc
  unfold noDefer at h
  rw [Array.all_eq_true_iff_forall_mem] at h
  have := h o (Array.mem_of_getElem? hi)
  rw [hc] at this
  cases this
theorem wpOp_round {l n : Nat} {P : Program} {ops : Array Oper} {Q : Exit → Act → World → Prop} {i : Nat} {K : Act → World → Prop} {a : Act} {w : World} (hnd : noDefer ops = true) (hl : ¬ LetsOut Q) (h : wpOp P ops Q i K a w) : wpOpIn (Fence.wide.inRound l) n P ops Q i K a w := by
  unfold wpOp at h
  unfold wpOpIn
  cases ho : ops[i]? with
  | none => rw [ho] at h; exact h
  | some o =>
    rw [ho] at h
    simp only at h ⊢
    split
    · rename_i hw
      rw [if_pos hw] at h
      rcases h with h | ⟨_, h⟩
      · exact oper_round (noDefer_at hnd ho) h
      · exact absurd h hl
    · rename_i hw
      rw [if_neg hw] at h
      exact ⟨fun _ _ => trivial, h⟩
theorem wpAny_round {l n : Nat} {P : Program} {md : Region.Mode} {ops : Array Oper} {Q : Exit → Act → World → Prop} (hnd : noDefer ops = true) (hl : ¬ LetsOut Q) : ∀ (fuel : Nat) (listed : Array Bool) (a : Act) (w : World), wpAny P md ops Q fuel listed a w → wpAnyIn (Fence.wide.inRound l) n P md ops Q fuel listed a w
  | 0, _, _, _, h => h
  | fuel + 1, _, _, _, h => ⟨h.1, fun i hi => wpOpIn_mono (fun a' w' h' => wpAny_round hnd hl fuel _ a' w' h') (wpOp_round hnd hl (h.2 i hi))⟩
/-- A region that ends well, and in no other way. -/
def onlyN (Q : Exit → Act → World → Prop) : Exit → Act → World → Prop
  | .normal, a, w => Q .normal a w
  | _, _, _ => False
theorem onlyN_imp {Q : Exit → Act → World → Prop} : ∀ e a w, onlyN Q e a w → Q e a w := by
  intro e a w h
  cases e <;> first | exact h | exact h.elim
theorem onlyN_out {Q : Exit → Act → World → Prop} : ¬ LetsOut (onlyN Q) := by
  rintro ⟨a, w, h⟩
  exact h
/-- The beginning: as wp_region_held_drew, in a round; the region must end well. -/
theorem wpIn_region_held_round {l n : Nat} {P : Program} {ops : Array Oper} {Q : Exit → Act → World → Prop} (S : World → Prop) {id : Nat} {a : Act} {w : World} (hm : P.follows .mixedOrders = true) (hnd : noDefer ops = true) (hS : S w.drew)
    (h : S w.drew → wpAnyH P .any ops (onlyN Q) S ops.size (Array.replicate ops.size false) a w.drew) : (Code.region id ops true).wpIn (Fence.wide.inRound l) n P Q a w :=
  wpIn_mono (wpIn_region_any hm (wpAny_round hnd onlyN_out _ _ _ _ (wpAny_of_held _ _ _ _ (h hS)))) onlyN_imp
theorem wpIn_region_held {P : Program} {ops : Array Oper} {Q : Exit → Act → World → Prop} (S : World → Prop) {id : Nat} {a : Act} {w : World} (hm : P.follows .mixedOrders = true) (hS : S w.drew)
    (h : S w.drew → wpAnyH P .any ops (onlyN Q) S ops.size (Array.replicate ops.size false) a w.drew) : (Code.region id ops true).wp P Q a w :=
  Code.wp_mono onlyN_imp (wp_region_held_drew hm hS h)
/-- append(v, ys...), v a row of the call's own, at one operation. -/
theorem wpO_app {P : Program} {w : World} {o : Oper} {a : Act} {Q : Exit → Act → World → Prop} {K : Act → World → Prop} {k : IntKind} (s x : Operand) (t : TypeId)
    (ho : o.op = .call { callee := .builtin .append, args := #[s, x], argTypes := #[t, t] })
    (base : Nat) (e : TypeId) (i : TypeInfo) (z : Value) (bytes : Nat) (ht : P.underlying t = some (.slice e)) (hi : P.info? e = some i) (hz : i.zero = some z)
    (hsize : i.size = 1) (hby : i.bytes = bytes) (hzs : z.cells.size = 1)
    (v : Value) (xs : List Int) (hs : a.eval s = v) (hown : w.ownsRow base e 1 v xs.length (xs.map (.int k)))
    (A : Option Addr) (c : Nat) (ys : List Int) (hx : a.eval x = .slice A ys.length c) (hr : RdI w k A ys)
    (h63 : xs.length + ys.length ≤ maxLen) (hbytes : (xs.length + ys.length) * bytes ≤ 140737488355328) (hbase : base ≤ w.heap.size)
    (h : ∀ v' w', w'.ownsRow base e 1 v' (xs ++ ys).length ((xs ++ ys).map (.int k)) → w.grownBy w' v.ownBlock → (v'.ownBlock = v.ownBlock ∨ v'.ownBlock = some w.heap.size) → K (a.put o.dst v') w') :
    o.wp P a w K Q := by
  rcases A with _ | ad
  · have hy : ys = [] := by
      rcases hr with h | ⟨ad, h, _⟩
      · exact h
      · cases h
    subst hy
    have hrun := run_append_nilsrc (P := P) w base t o.type e i 1 ht hi v _ _ hown c
    unfold Oper.wp execOp
    simp only [ho, resolve, invoke, builtin, Sem.run_bind, Sem.run_pure, Result.andThen_ok, List.map_toArray, List.map_cons, List.map_nil, hs, hx, List.length_nil, hrun]
    exact h v w (by simpa using hown) (World.grownBy.refl w _) (.inl rfl)
  · have hc : ∀ j u, (ys.map (Value.int k))[j]? = some u → w.cell? (ad.add j) = some u := by
      intro j u hu
      rcases hr with rfl | ⟨ad', h', _, hc⟩
      · simp at hu
      · obtain rfl := Option.some.inj h'
        rw [List.getElem?_map] at hu
        by_cases hj : j < ys.length
        · rw [hc j hj]; simpa [hj] using hu
        · simp [hj] at hu
    obtain ⟨v', w', hrun, h1, h2, _, h4⟩ := run_append_own_at (P := P) (w := w) base t o.type e i z 1 bytes ht hi hz hsize hby hzs (by omega) v xs.length (xs.map (.int k)) hown ad ys.length c (ys.map (.int k)) (by simp) hc (one_ints _ _) h63 hbytes hbase
    unfold Oper.wp execOp
    simp only [ho, resolve, invoke, builtin, Sem.run_bind, Sem.run_pure, Result.andThen_ok, List.map_toArray, List.map_cons, List.map_nil, hs, hx, hrun]
    exact h v' w' (by simpa using h1) h2 h4
end Go.Proofs.Ytiogogbkgekkdaa

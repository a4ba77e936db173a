/- Layer 24, memory: a map from keys of one number to entries, and what it says as a list of entries by rising serials. No condition. -/
import Derived.Test.YtpmfmkkifkpdcaaJou
import Derived.Maps.OwnSet
import Derived.Maps.RangeWalk
namespace Go.Proofs.Ytpmfmkkifkpdcaa
open Go.RowKit Go.Maps
set_option linter.unusedVariables false
set_option maxRecDepth 100000
set_option linter.unusedSimpArgs false

theorem ledLaid : laidOutB Try.prog = true := by kernel_rfl
theorem lawKey : Keyed Try.prog 74 :=
  Keyed.of_law (deep_law_laid ledLaid (m := 9) (by decide) (of_decide_eq_true (by kernel_rfl)) (by kernel_rfl) (by rw [Try.underlying74]))
/-- What a key of one number reads as. -/
def kl (n : Int) : Lit := .string (keyBytes [.int .i64 n])
theorem keyOf_kl {n : Int} (h : (Lit.int .i64 n).wf = true) : keyOf Try.prog 74 (.agg #[.int .i64 n]) = some (kl n) := by
  obtain ⟨m, hm⟩ : ∃ m, Try.prog.types.size + 1 = m + 2 := ⟨Try.prog.types.size - 1, by have : 0 < Try.prog.types.size := of_decide_eq_true (by kernel_rfl); omega⟩
  have hk : Try.prog.keyType 74 = true := by kernel_rfl
  have hc : Try.prog.cellsOf 74 = 1 := by kernel_rfl
  have hi : Try.prog.cellsOf 3 = 1 := by kernel_rfl
  unfold keyOf
  rw [hm]
  simp [Try.underlying74, hk, Value.formed, hc, Program.keyLits, Value.cells, Try.underlying3, hi, h, kl]
theorem kl_inj {n m : Int} (hn : (Lit.int .i64 n).wf = true) (hm : (Lit.int .i64 m).wf = true) (h : kl n = kl m) : n = m := by
  have := lawKey.inj (keyOf_kl hn) (by rw [h]; exact keyOf_kl hm)
  simpa using this
theorem kl_key (n : Int) : WideAt.IsKeyLit (kl n) := trivial

/-- How an entry reads: as itself. -/
def entR : Value → Option (DataW Value × List MemPlace)
  | .agg cs => match cs.toList with
    | [.int .i64 _, .int .i64 _, .int .i64 _, .int .i64 _, .int .i64 _, .int .i64 _, .int .i64 _, .int .i64 _, .int .i64 _, .int .i64 _, .int .i64 _, .int .i64 _, .int .i64 _, .bool _] => some (.held (.agg cs), [])
    | _ => none
  | _ => none
theorem entR_mk (e : En) : entR (.agg e.row.toArray) = some (.held (.agg e.row.toArray), []) := rfl
theorem entR_inv {v : Value} {y : DataW Value × List MemPlace} (h : entR v = some y) : ∃ e : En, v = .agg e.row.toArray ∧ y = (.held v, []) := by
  cases v with
  | agg cs =>
    obtain ⟨l⟩ := cs
    simp only [entR] at h
    split at h
    · rename_i x0 a0 a1 a2 a3 a4 a5 a6 a7 a8 a9 a10 l0 i0 b0
      cases h
      exact ⟨⟨a0, a1, a2, a3, a4, a5, a6, a7, a8, a9, a10, l0, i0, b0⟩, rfl, rfl⟩
    · cases h
  | _ => cases h
theorem held_en {e f : En} (h : (DataW.held (.agg e.row.toArray) : DataW Value) = .held (.agg f.row.toArray)) : e = f := by
  simp only [DataW.held.injEq, Value.agg.injEq] at h
  exact En.ext (congrArg Array.toList h)

theorem wf_of {n : Int} (h0 : -9223372036854775808 ≤ n) (h1 : n ≤ 9223372036854775807) : (Lit.int .i64 n).wf = true := WalkArith.wf_i64 (by omega)
theorem En.wf {e : En} (h : e.ok = true) : (Lit.int .i64 e.a0).wf = true := by
  have := En.ok_serial h
  exact wf_of (by omega) (by omega)
/-- The map says just these entries. -/
def DRep (D : DataW Value) (S : List En) : Prop :=
  Tidy D ∧ Maps.size D = S.length ∧ (∀ n : Int, (Lit.int .i64 n).wf = true → Maps.has D (kl n) = (fnd S n).isSome) ∧ ∀ e ∈ S, ∀ z, D.atKey (kl e.a0) z = .held (.agg e.row.toArray)
theorem drep_nil : DRep (.map []) [] := ⟨tidy_empty, rfl, fun _ _ => rfl, fun e he => by cases he⟩
theorem drep_ins {D : DataW Value} {S : List En} (h : DRep D S) (hs : Srt S) (hS : ∀ x ∈ S, x.ok = true) {e : En} (he : e.ok = true) (hn : ∀ x ∈ S, x.a0 ≠ e.a0) :
    DRep (D.put (kl e.a0) (.held (.agg e.row.toArray))) (ins e S) := by
  obtain ⟨h1, h2, h3, h4⟩ := h
  refine ⟨h1.put (kl_key _) _, ?_, fun n hw => ?_, fun x hx z => ?_⟩
  · rw [size_put h1, h3 _ (En.wf he), ins_len, h2]
    have : fnd S e.a0 = none := by
      cases hf : fnd S e.a0 with
      | none => rfl
      | some y => exact absurd (fnd_some hf).2 (hn y (fnd_some hf).1)
    rw [this]; rfl
  · rw [fnd_ins hs hn]
    by_cases hen : e.a0 = n
    · subst hen
      rw [has_put_same h1.isMap (kl_key _), if_pos rfl]; rfl
    · rw [has_put_other (fun q => hen (kl_inj hw (En.wf he) q).symm), if_neg hen, h3 n hw]
  · rcases ins_mem.1 hx with rfl | hx
    · exact atKey_put_same h1.isMap (kl_key _) _ _
    · rw [atKey_put_other (fun q => hn x hx (kl_inj (En.wf (hS x hx)) (En.wf he) q))]
      exact h4 x hx z
theorem drep_rpl {D : DataW Value} {S : List En} (h : DRep D S) (hs : Srt S) (hS : ∀ x ∈ S, x.ok = true) {e : En} (he : e.ok = true) (hn : (fnd S e.a0).isSome = true) :
    DRep (D.put (kl e.a0) (.held (.agg e.row.toArray))) (rpl e S) := by
  obtain ⟨h1, h2, h3, h4⟩ := h
  refine ⟨h1.put (kl_key _) _, ?_, fun n hw => ?_, fun x hx z => ?_⟩
  · rw [size_put h1, h3 _ (En.wf he), rpl_len, h2, if_pos hn]
  · rw [fnd_rpl]
    by_cases hen : e.a0 = n
    · subst hen
      rw [has_put_same h1.isMap (kl_key _), if_pos rfl]
      cases hf : fnd S e.a0 with
      | none => rw [hf] at hn; cases hn
      | some y => rfl
    · rw [has_put_other (fun q => hen (kl_inj hw (En.wf he) q).symm), if_neg hen, h3 n hw]
  · obtain ⟨y, hy, rfl⟩ := List.mem_map.1 hx
    by_cases hye : y.a0 = e.a0
    · rw [if_pos hye]
      exact atKey_put_same h1.isMap (kl_key _) _ _
    · rw [if_neg hye, atKey_put_other (fun q => hye (kl_inj (En.wf (hS y hy)) (En.wf he) q))]
      exact h4 y hy z

theorem zeroEn (w : World) : (zeroValue 37).run Try.prog w = .ok (.agg zE.row.toArray) w := by kernel_rfl
/-- Block b is a map that says just these entries. -/
def MapRep (w : World) (b : Nat) (S : List En) : Prop := ∃ D, w.ownsMap Try.prog 74 entR b S.length D ∧ DRep D S
theorem own_tight {P : Program} {k : TypeId} {H : Type} {R : Value → Option (DataW H × List MemPlace)} {w : World} {b n m : Nat} {D : DataW H} (h : w.ownsMap P k R b n D) (hm : Maps.size D = m) : w.ownsMap P k R b m D := by
  obtain ⟨es, clock, hb, F, hs, rfl⟩ := h
  exact ⟨es, clock, hb, F, by simp [Maps.size, length_sorted] at hm; omega, rfl⟩
theorem MapRep.keep {w w' : World} {b : Nat} {S : List En} (h : MapRep w b S) (hb : w'.heap[b]? = w.heap[b]?) : MapRep w' b S := by
  obtain ⟨D, ⟨es, clock, h1, h2⟩, hD⟩ := h
  exact ⟨D, ⟨es, clock, hb.trans h1, h2⟩, hD⟩
theorem MapRep.lt {w : World} {b : Nat} {S : List En} (h : MapRep w b S) : b < w.heap.size := by
  obtain ⟨D, h, _⟩ := h
  exact h.lt
theorem MapRep.made (w : World) : MapRep (w.alloc (.map #[] 0)) w.heap.size [] := ⟨.map [], World.ownsMap_made _ _ _ _, drep_nil⟩
theorem MapRep.look {w : World} {b : Nat} {S : List En} (h : MapRep w b S) {n : Int} (hw : (Lit.int .i64 n).wf = true) :
    (Instr.lookup 68 (.map (some b)) (.agg #[.int .i64 n]) true).run Try.prog w = .ok (.tuple #[.agg (gotR S n).1.row.toArray, .bool (fnd S n).isSome]) w := by
  obtain ⟨D, hown, h1, h2, h3, h4⟩ := h
  obtain ⟨v, ps, hrun, hv⟩ := hown.look_ok lawKey Try.underlying68 (zeroEn w) (entR_mk zE) (keyOf_kl hw)
  rw [h3 n hw] at hrun
  rw [hrun]
  obtain ⟨e, rfl, hy⟩ := entR_inv hv
  simp only [Prod.mk.injEq] at hy
  cases hf : fnd S n with
  | none =>
    have hh : Maps.has D (kl n) = false := by rw [h3 n hw, hf]; rfl
    have he := hy.1
    rw [atKey_of_not_has hh] at he
    rw [← held_en he]
    simp [gotR, hf]
  | some x =>
    obtain ⟨hx, rfl⟩ := fnd_some hf
    have he := hy.1
    rw [h4 x hx] at he
    rw [← held_en he]
    simp [gotR, hf]
theorem MapRep.len {w : World} {b : Nat} {S : List En} (h : MapRep w b S) (ty : TypeId) : (Builtin.len_ #[68] ty #[.map (some b)]).run Try.prog w = .ok (.int .i64 (S.length : Int)) w := by
  obtain ⟨D, hown, h1, h2, _⟩ := h
  rw [hown.len Try.underlying68 ty, h2]
theorem MapRep.ins {w : World} {b : Nat} {S : List En} (h : MapRep w b S) (hs : Srt S) (hS : ∀ x ∈ S, x.ok = true) (hl : S.length ≤ 1000) {e : En} (he : e.ok = true) (hn : (fnd S e.a0).isSome = false) :
    ∃ w', (Instr.mapUpdate 68 (.map (some b)) (.agg #[.int .i64 e.a0]) (.agg e.row.toArray)).run Try.prog w = .ok () w' ∧ MapRep w' b (ins e S) ∧ w.grownBy w' (some b) := by
  obtain ⟨D, hown, hD⟩ := h
  obtain ⟨w', hrun, h1, h2⟩ := hown.update lawKey Try.underlying68 (by unfold maxLen; omega) (keyOf_kl (En.wf he)) (entR_mk e)
  have hD' := drep_ins hD hs hS he (fnd_none hn)
  exact ⟨w', hrun, ⟨_, own_tight h1 hD'.2.1, hD'⟩, h2⟩
theorem MapRep.rpl {w : World} {b : Nat} {S : List En} (h : MapRep w b S) (hs : Srt S) (hS : ∀ x ∈ S, x.ok = true) (hl : S.length ≤ 1000) {e : En} (he : e.ok = true) (hn : (fnd S e.a0).isSome = true) :
    ∃ w', (Instr.mapUpdate 68 (.map (some b)) (.agg #[.int .i64 e.a0]) (.agg e.row.toArray)).run Try.prog w = .ok () w' ∧ MapRep w' b (rpl e S) ∧ w.grownBy w' (some b) := by
  obtain ⟨D, hown, hD⟩ := h
  obtain ⟨w', hrun, h1, h2⟩ := hown.update lawKey Try.underlying68 (by unfold maxLen; omega) (keyOf_kl (En.wf he)) (entR_mk e)
  have hD' := drep_rpl hD hs hS he hn
  exact ⟨w', hrun, ⟨_, own_tight h1 hD'.2.1, hD'⟩, h2⟩

/-- Block g is a ledger of that room, its map in block b, that has just these entries. -/
def Led (w : World) (g b : Nat) (room : Int) (S : List En) : Prop :=
  w.heap[g]? = some (.cells #[.int .i64 room, .map (some b)] 70 (0, 0)) ∧ g ≠ b ∧ MapRep w b S ∧ LedOk room S ∧ 1 ≤ room ∧ room ≤ 64
theorem Led.keep {w w' : World} {g b : Nat} {room : Int} {S : List En} (h : Led w g b room S) (h1 : w'.heap[g]? = w.heap[g]?) (h2 : w'.heap[b]? = w.heap[b]?) : Led w' g b room S :=
  ⟨h1.trans h.1, h.2.1, h.2.2.1.keep h2, h.2.2.2⟩
theorem Led.lt {w : World} {g b : Nat} {room : Int} {S : List En} (h : Led w g b room S) : g < w.heap.size := (Array.getElem?_eq_some_iff.1 h.1).1
theorem Led.ltb {w : World} {g b : Nat} {room : Int} {S : List En} (h : Led w g b room S) : b < w.heap.size := h.2.2.1.lt
theorem Led.below {w w' : World} {g b n : Nat} {room : Int} {S : List En} (h : Led w g b room S) (hb : Below n w w') (hn : w.heap.size ≤ n) : Led w' g b room S :=
  h.keep (hb.block g (Nat.lt_of_lt_of_le h.lt hn)) (hb.block b (Nat.lt_of_lt_of_le h.ltb hn))
theorem Led.len {w : World} {g b : Nat} {room : Int} {S : List En} (h : Led w g b room S) : S.length ≤ 64 := by
  have := h.2.2.2.1.2.2
  have := h.2.2.2.2.2
  omega
theorem grown_of_below {w w' : World} {n : Nat} (h : Below n w w') (hn : w.heap.size ≤ n) (row : Option Nat) : w.grownBy w' row :=
  ⟨h.os, h.tape, h.output, h.size, fun k hk _ => h.block k (Nat.lt_of_lt_of_le hk hn)⟩
theorem grown_trans {a c d : World} {row : Nat} (h : a.grownBy c (some row)) (k : c.grownBy d (some row)) : a.grownBy d (some row) :=
  h.andThen k (fun j hj => by cases hj; exact .inr rfl)
theorem below_of_grown {w w' : World} {n b : Nat} (h : w.grownBy w' (some b)) (hn : n ≤ w.heap.size) (hb : n ≤ b) : Below n w w' :=
  ⟨h.os, h.tape, h.output, h.size, fun k hk => h.block k (by omega) (fun e => by cases e; omega)⟩
end Go.Proofs.Ytpmfmkkifkpdcaa

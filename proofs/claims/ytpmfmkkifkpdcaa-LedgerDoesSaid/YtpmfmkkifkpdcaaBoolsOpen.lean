/- An argument that is a slice of bools: it reads as a list of bools. No condition. -/
import Derived.Test.YtpmfmkkifkpdcaaLedRow
import Derived.ChangeArms
import Derived.DataReads
namespace Go.Proofs.Ytpmfmkkifkpdcaa
open Go.RowKit
set_option linter.unusedVariables false
set_option maxRecDepth 100000
set_option linter.unusedSimpArgs false

/-- The slice at A reads as the bools l. -/
def RdB (w : World) (A : Option Addr) (l : List Bool) : Prop :=
  l = [] ∨ ∃ ad, A = some ad ∧ ad.block < w.heap.size ∧ ∀ j, (h : j < l.length) → w.cell? (ad.add j) = some (.bool l[j])
theorem RdB.below {w w' : World} {A : Option Addr} {l : List Bool} {n : Nat} (h : RdB w A l) (hb : Below n w w') (hn : w.heap.size ≤ n) : RdB w' A l := by
  rcases h with h | ⟨ad, e, hlt, hk⟩
  · exact .inl h
  · exact .inr ⟨ad, e, Nat.lt_of_lt_of_le hlt hb.size, fun j hj => (hb.cell (by rw [add_block]; omega)).trans (hk j hj)⟩
theorem RdB.at_ {w : World} {A : Option Addr} {l : List Bool} (h : RdB w A l) {j : Nat} (hj : j < l.length) : ∃ ad, A = some ad ∧ w.cell? (ad.add j) = some (.bool l[j]) := by
  rcases h with rfl | ⟨ad, e, _, hk⟩
  · simp at hj
  · exact ⟨ad, e, hk j hj⟩
theorem bools_upto {w : World} {a : Addr} : ∀ (n : Nat), (∀ j, j < n → ∃ b, w.cell? (a.add j) = some (.bool b)) → ∃ l : List Bool, l.length = n ∧ ∀ j, (h : j < l.length) → w.cell? (a.add j) = some (.bool l[j])
  | 0, _ => ⟨[], rfl, fun j h => by simp at h⟩
  | n + 1, h => by
    obtain ⟨l, hl, hk⟩ := bools_upto n (fun j hj => h j (by omega))
    obtain ⟨b, hb⟩ := h n (by omega)
    refine ⟨l ++ [b], by simp [hl], fun j hj => ?_⟩
    rw [List.length_append] at hj
    by_cases hjl : j < l.length
    · rw [List.getElem_append_left hjl]; exact hk j hjl
    · have : j = n := by simp at hj; omega
      subst this
      rw [List.getElem_append_right (by omega)]
      simpa [hl] using hb
theorem bools_open {H : Type} {enc : TypeId × Value → H} {W : World} {n : Nat} {A : Option Addr} {len cap : Nat} {x : DataW H × List MemPlace} (h : DataW.trod enc Try.prog W 0 (fun _ => true) true n 23 [.slice A len cap] = some x) :
    ∃ l : List Bool, len = l.length ∧ RdB W A l ∧ l.length ≤ 9223372036854775807 := by
  rcases DataW.trod_slice Try.underlying23 h with ⟨hcs, _⟩ | ⟨a, len2, cap2, elems, rest, m, _, hcs, _, _, hle, hmx, hel, hat, _⟩
  · simp only [List.cons.injEq, Value.slice.injEq, and_true] at hcs
    obtain ⟨rfl, rfl, rfl⟩ := hcs
    exact ⟨[], rfl, .inl rfl, by simp⟩
  · simp only [List.cons.injEq, Value.slice.injEq, and_true] at hcs
    obtain ⟨rfl, rfl, rfl⟩ := hcs
    have hc1 : Try.prog.cellsOf 4 = 1 := by kernel_rfl
    rw [hc1] at hat
    have hk : ∀ j, j < len → ∃ b, W.cell? (a.add j) = some (.bool b) := by
      intro j hj
      have e := hat j hj
      rw [List.getElem?_eq_getElem (by omega)] at e
      obtain ⟨cs, e1, e2⟩ := Option.bind_eq_some_iff.1 e
      obtain ⟨_, f2, f3⟩ := World.cells?_some e1
      obtain ⟨b, hb, _⟩ := DataW.trod_bool Try.underlying4 e2
      subst hb
      have g0 := f3 0 (by simp)
      rw [add_zero, Nat.mul_one] at g0
      exact ⟨b, g0⟩
    obtain ⟨l, hkl, hks⟩ := bools_upto len hk
    unfold maxLen at hmx
    refine ⟨l, hkl.symm, ?_, by omega⟩
    by_cases h0 : len = 0
    · left; exact List.eq_nil_of_length_eq_zero (by omega)
    · obtain ⟨b, g0⟩ := hk 0 (by omega)
      have := World.block_lt_of_cell? W _ g0
      rw [add_block] at this
      exact .inr ⟨a, rfl, this, hks⟩
end Go.Proofs.Ytpmfmkkifkpdcaa

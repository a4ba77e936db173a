/- Layer 16: a sign out of the string of all signs. No condition. -/
import Derived.Test.YtiogogbkgekkdaaFortyPure
import Derived.Laws.Strings
namespace Go.Proofs.Ytiogogbkgekkdaa
open Go.RowKit
set_option linter.unusedVariables false
set_option maxRecDepth 100000

theorem signs_nat : ∀ y : Fin 45, ((([48, 49, 50, 51, 52, 53, 54, 55, 56, 57, 65, 66, 67, 68, 69, 70, 71, 72, 73, 74, 75, 76, 77, 78, 79, 80, 81, 82, 83, 84, 85, 86, 87, 88, 89, 90, 32, 36, 37, 42, 43, 45, 46, 47, 58] : List UInt8).getD y.val 0).toNat : Int) = sg45 (y.val : Int) := by decide
theorem signs_at (s : ByteArray) (L : List UInt8) (hs : s = ⟨L.toArray⟩) (i : Nat) (hi : i < s.size) : s[i] = L.getD i 0 := by
  subst hs
  have h2 : i < L.length := hi
  show L.toArray[i] = _
  simp [h2]
theorem idx_signs {z : Int} (h0 : 0 ≤ z) (h1 : z < 45) (w : World) : (Instr.index 9 (.string { data := #[48, 49, 50, 51, 52, 53, 54, 55, 56, 57, 65, 66, 67, 68, 69, 70, 71, 72, 73, 74, 75, 76, 77, 78, 79, 80, 81, 82, 83, 84, 85, 86, 87, 88, 89, 90, 32, 36, 37, 42, 43, 45, 46, 47, 58] }) (.int .i64 z)).run Try.prog w = .ok (.int .u8 (sg45 z)) w := by
  obtain ⟨y, rfl⟩ := Int.eq_ofNat_of_zero_le h0
  obtain ⟨s, hs⟩ : ∃ s : ByteArray, s = { data := #[48, 49, 50, 51, 52, 53, 54, 55, 56, 57, 65, 66, 67, 68, 69, 70, 71, 72, 73, 74, 75, 76, 77, 78, 79, 80, 81, 82, 83, 84, 85, 86, 87, 88, 89, 90, 32, 36, 37, 42, 43, 45, 46, 47, 58] } := ⟨_, rfl⟩
  have hz : s.size = 45 := by rw [hs]; rfl
  rw [← hs, run_index_string _ _ _ _ _ (by rfl), dif_pos ⟨by omega, by rw [hz]; omega⟩]
  have e := signs_nat ⟨y, by omega⟩
  have e2 := signs_at s _ hs y (by rw [hz]; omega)
  have e3 : ((y : Int)).toNat = y := by omega
  simp only [e3, e2]
  simp only at e
  rw [← e]
end Go.Proofs.Ytiogogbkgekkdaa

/- Layer 18: where the number of a tag stands in a sheet. No condition. -/
import Derived.Test.YtachkhjbckapoaaT28
import Derived.StillTailTactics
namespace Go.Proofs.Ytachkhjbckapoaa
open Go.RowKit
set_option linter.unusedVariables false
set_option maxRecDepth 100000
set_option linter.unusedSimpArgs false

set_option maxHeartbeats 2000000 in
set_option maxRecDepth 100000 in
theorem fplace_any (g : Nat) (t : Int) (w : World) (h1 : 1 ≤ t) (h2 : t ≤ 13) :
    Calls Try.prog 73 #[.pointer (some ⟨g, 0, none⟩), .int .i64 t] w fun e w' => e = .returned (.pointer (some ⟨g, plc t, none⟩)) ∧ Below w.heap.size w w' := by
  have d1 : ¬ t < 1 := by omega
  have d2 : ¬ 13 < t := by omega
  have d3 : (0 : Int) ≤ t := by omega
  have d4 : t < 14 := by omega
  have d5 : ¬ t < 0 := by omega
  have hL : ∀ h : t.toNat < ([.pointer none, .pointer (some ⟨g, 14, none⟩), .pointer (some ⟨g, 11, none⟩), .pointer (some ⟨g, 1, none⟩), .pointer (some ⟨g, 0, none⟩), .pointer (some ⟨g, 2, none⟩), .pointer (some ⟨g, 3, none⟩), .pointer (some ⟨g, 4, none⟩), .pointer (some ⟨g, 5, none⟩), .pointer (some ⟨g, 6, none⟩), .pointer (some ⟨g, 7, none⟩), .pointer (some ⟨g, 8, none⟩), .pointer (some ⟨g, 9, none⟩), .pointer (some ⟨g, 10, none⟩)] : List Value).length, ([.pointer none, .pointer (some ⟨g, 14, none⟩), .pointer (some ⟨g, 11, none⟩), .pointer (some ⟨g, 1, none⟩), .pointer (some ⟨g, 0, none⟩), .pointer (some ⟨g, 2, none⟩), .pointer (some ⟨g, 3, none⟩), .pointer (some ⟨g, 4, none⟩), .pointer (some ⟨g, 5, none⟩), .pointer (some ⟨g, 6, none⟩), .pointer (some ⟨g, 7, none⟩), .pointer (some ⟨g, 8, none⟩), .pointer (some ⟨g, 9, none⟩), .pointer (some ⟨g, 10, none⟩)] : List Value)[t.toNat] = .pointer (some ⟨g, plc t, none⟩) := by
    have : t = 1 ∨ t = 2 ∨ t = 3 ∨ t = 4 ∨ t = 5 ∨ t = 6 ∨ t = 7 ∨ t = 8 ∨ t = 9 ∨ t = 10 ∨ t = 11 ∨ t = 12 ∨ t = 13 := by omega
    rcases this with rfl | rfl | rfl | rfl | rfl | rfl | rfl | rfl | rfl | rfl | rfl | rfl | rfl <;> exact fun _ => rfl
  have HL := Lib.hid hL
  clear hL
  go_enter Try.func73, Try.ntmps73
  go_wp2
  go_still_tail 41, (by kernel_rfl)
  go_wp2_with fail
  go_ret
  exact ⟨by rw [HL.out] <;> rfl, bD (bel1 _ _)⟩

set_option maxHeartbeats 2000000 in
set_option maxRecDepth 100000 in
theorem fplace_no (g : Nat) (t : Int) (w : World) (h : t < 1 ∨ 13 < t) :
    Calls Try.prog 73 #[.pointer (some ⟨g, 0, none⟩), .int .i64 t] w fun e w' => e = .returned (.pointer none) ∧ Below w.heap.size w w' := by
  by_cases h1 : t < 1
  · clear h
    go_enter Try.func73, Try.ntmps73
    go_wp2
    go_still_tail 41, (by kernel_rfl)
    go_wp2
    go_ret
    exact ⟨rfl, bD (bel1 _ _)⟩
  · have h2 : 13 < t := by omega
    clear h
    go_enter Try.func73, Try.ntmps73
    go_wp2
    go_still_tail 41, (by kernel_rfl)
    go_wp2
    go_ret
    exact ⟨rfl, bD (bel1 _ _)⟩
end Go.Proofs.Ytachkhjbckapoaa

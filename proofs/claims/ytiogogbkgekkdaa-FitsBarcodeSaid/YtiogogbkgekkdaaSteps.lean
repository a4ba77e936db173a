/- Layer 19: steps one behind the other, till one has an error: three function values, whatever they do. No condition. -/
import Derived.Test.YtiogogbkgekkdaaMem
import Derived.Test.YtiogogbkgekkdaaBcdJoin
namespace Go.Proofs.Ytiogogbkgekkdaa
open Go.RowKit
set_option linter.unusedVariables false
set_option maxRecDepth 100000
set_option linter.unusedSimpArgs false

/-- What a step returns: an error's number; where it is 0, what follows holds. -/
def StepRet (Q : World → Prop) (X : Int → World → Prop) (e : Ending) (w' : World) : Prop := ∃ z : Int, e = .returned (.int .i64 z) ∧ (z = 0 → Q w') ∧ (z ≠ 0 → X z w')
set_option maxHeartbeats 4000000 in
theorem steps_any (G n1 n2 n3 : Nat) (c1 c2 c3 : Array Value) (P : Nat → World → Prop) (X : Int → World → Prop) (w : World) (h0 : P 0 w)
    (hG : ∀ k W, P k W → W.cell? ⟨G, 0, none⟩ = some (.func (.func n1) #[] c1) ∧ W.cell? ⟨G, 1, none⟩ = some (.func (.func n2) #[] c2) ∧ W.cell? ⟨G, 2, none⟩ = some (.func (.func n3) #[] c3))
    (e1 : ∀ W, Sem.run Try.prog (callFunc n1 c1) W = .ok (.enter n1 c1) W) (e2 : ∀ W, Sem.run Try.prog (callFunc n2 c2) W = .ok (.enter n2 c2) W) (e3 : ∀ W, Sem.run Try.prog (callFunc n3 c3) W = .ok (.enter n3 c3) W)
    (h1 : ∀ W, P 0 W → Calls Try.prog n1 c1 W (StepRet (P 1) X)) (h2 : ∀ W, P 1 W → Calls Try.prog n2 c2 W (StepRet (P 2) X)) (h3 : ∀ W, P 2 W → Calls Try.prog n3 c3 W (StepRet (P 3) X)) :
    Calls Try.prog 44 #[.slice (some ⟨G, 0, none⟩) 3 3] w (StepRet (P 3) X) := by
  go_enter Try.func44, Try.ntmps44
  go_wp2
  go_loopw [4, 5, 8] (fun _ _ i wr => ∃ k : Nat, k ≤ 3 ∧ i = .int .i64 k ∧ P k wr) (fun _ _ i _ => 3 - (intOf i).toNat)
  case atStart => exact ⟨0, by omega, rfl, h0⟩
  case round =>
    obtain ⟨k, hk, rfl, hP⟩ := hrel
    obtain ⟨g0, g1, g2⟩ := hG k wr hP
    have : k = 0 ∨ k = 1 ∨ k = 2 ∨ k = 3 := by omega
    rcases this with rfl | rfl | rfl | rfl
    · have D := h1 _ hP
      go_wp2_with ((with_reducible refine D.mono ?_); rintro e W3 ⟨z, rfl, hz0, hz1⟩; have HZ0 := Lib.hid hz0; have HZ1 := Lib.hid hz1; clear hz0 hz1)
      · rename_i hz
        have hz' : z ≠ 0 := by simpa using hz
        go_ret
        exact ⟨z, rfl, fun h => absurd h hz', fun h => HZ1.out h⟩
      · rename_i hz
        exact ⟨⟨1, by omega, rfl, HZ0.out (by simpa using hz)⟩, by simp [intOf]⟩
    · have D := h2 _ hP
      go_wp2_with ((with_reducible refine D.mono ?_); rintro e W3 ⟨z, rfl, hz0, hz1⟩; have HZ0 := Lib.hid hz0; have HZ1 := Lib.hid hz1; clear hz0 hz1)
      · rename_i hz
        have hz' : z ≠ 0 := by simpa using hz
        go_ret
        exact ⟨z, rfl, fun h => absurd h hz', fun h => HZ1.out h⟩
      · rename_i hz
        exact ⟨⟨2, by omega, rfl, HZ0.out (by simpa using hz)⟩, by simp [intOf]⟩
    · have D := h3 _ hP
      go_wp2_with ((with_reducible refine D.mono ?_); rintro e W3 ⟨z, rfl, hz0, hz1⟩; have HZ0 := Lib.hid hz0; have HZ1 := Lib.hid hz1; clear hz0 hz1)
      · rename_i hz
        have hz' : z ≠ 0 := by simpa using hz
        go_ret
        exact ⟨z, rfl, fun h => absurd h hz', fun h => HZ1.out h⟩
      · rename_i hz
        exact ⟨⟨3, by omega, rfl, HZ0.out (by simpa using hz)⟩, by simp [intOf]⟩
    · go_wp2
      go_ret
      exact ⟨0, rfl, fun _ => hP, fun h => absurd rfl h⟩
end Go.Proofs.Ytiogogbkgekkdaa

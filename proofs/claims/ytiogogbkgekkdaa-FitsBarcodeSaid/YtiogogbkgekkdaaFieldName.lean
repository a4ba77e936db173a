/- Layer 18: the version from which a tag is known. No condition. -/
import Derived.Test.YtiogogbkgekkdaaTlvIs
namespace Go.Proofs.Ytiogogbkgekkdaa
open Go.RowKit
set_option linter.unusedVariables false
set_option maxRecDepth 100000
set_option linter.unusedSimpArgs false

/-- From which version on there is a tag; 0: never. -/
def nameE (t : Int) : Int := if t < 1 ∨ 13 < t then 0 else if t = 8 then 2 else if t = 9 then 3 else 1
def nameB (t : Int) : Bool := decide (1 ≤ t) && decide (t ≤ 13)
theorem name_any (t : Int) (w : World) : Calls Try.prog 97 #[.int .i64 t] w fun e w' => e = .returned (.tuple #[.int .i64 (nameE t), .bool (nameB t)]) ∧ w = w' := by
  by_cases h1 : t < 1
  · have E1 := Lib.hid (show nameE t = 0 by unfold nameE; rw [if_pos (.inl h1)])
    have E2 := Lib.hid (show nameB t = false by unfold nameB; rw [decide_eq_false (by omega)]; rfl)
    go_enter Try.func97, Try.ntmps97
    go_wp2
    go_ret2
    exact ⟨by rw [E1.out, E2.out] <;> rfl, rfl⟩
  by_cases h2 : 13 < t
  · have E1 := Lib.hid (show nameE t = 0 by unfold nameE; rw [if_pos (.inr h2)])
    have E2 := Lib.hid (show nameB t = false by unfold nameB; rw [decide_eq_false (p := t ≤ 13) (by omega), Bool.and_false])
    go_enter Try.func97, Try.ntmps97
    go_wp2
    go_ret2
    exact ⟨by rw [E1.out, E2.out] <;> rfl, rfl⟩
  have E2 := Lib.hid (show nameB t = true by unfold nameB; rw [decide_eq_true (by omega), decide_eq_true (by omega)]; rfl)
  by_cases h8 : t = 8
  · have E1 := Lib.hid (show nameE t = 2 by unfold nameE; rw [if_neg (by omega), if_pos h8])
    have hq : (t == 8) = true := by simpa using h8
    clear h8
    go_enter Try.func97, Try.ntmps97
    go_wp2
    go_ret2
    exact ⟨by rw [E1.out, E2.out] <;> rfl, rfl⟩
  have hq : (t == 8) = false := by simpa using h8
  by_cases h9 : t = 9
  · have E1 := Lib.hid (show nameE t = 3 by unfold nameE; rw [if_neg (by omega), if_neg h8, if_pos h9])
    have hq9 : (t == 9) = true := by simpa using h9
    clear h9
    go_enter Try.func97, Try.ntmps97
    go_wp2
    go_ret2
    exact ⟨by rw [E1.out, E2.out] <;> rfl, rfl⟩
  have E1 := Lib.hid (show nameE t = 1 by unfold nameE; rw [if_neg (by omega), if_neg h8, if_neg h9])
  have hq9 : (t == 9) = false := by simpa using h9
  go_enter Try.func97, Try.ntmps97
  go_wp2
  go_ret2
  exact ⟨by rw [E1.out, E2.out] <;> rfl, rfl⟩
end Go.Proofs.Ytiogogbkgekkdaa

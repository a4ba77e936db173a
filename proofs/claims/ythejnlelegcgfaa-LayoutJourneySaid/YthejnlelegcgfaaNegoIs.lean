/- Is a list one of versions: what nego.Is, its rises, and the reference's Is tell of every list. No condition. -/
import Derived.Test.YthejnlelegcgfaaNegoPure
import Derived.Test.YthejnlelegcgfaaSame
import Derived.Test.YthejnlelegcgfaaBcdPut
namespace Go.Proofs.Ythejnlelegcgfaa
open Go.RowKit
set_option linter.unusedVariables false
set_option linter.unusedSimpArgs false

def IsRet (l : List Int) (w : World) (e : Ending) (w' : World) : Prop := e = .returned (.bool (isB l)) ∧ ∃ n, w' = w.drewN n

set_option maxHeartbeats 4000000 in
set_option maxRecDepth 100000 in
theorem rises_any (A : Option Addr) (c : Nat) (l : List Int) (w : World) (hr : RdI w .i64 A l) (hl : l.length ≤ 9223372036854775807) :
    Calls Try.prog 64 #[.slice A l.length c, .int .i64 1, .int .i64 3] w (IsRet l w) := by
  go_enter Try.func64, Try.ntmps64
  go_wp2
  go_loopw [11] (fun i wr => ∃ (k n : Nat) (p : Int), k ≤ l.length ∧ i = .int .i64 k ∧ wr = w.drewN n ∧ (k = 0 ∧ p = 0 ∨ ∃ j, k = j + 1 ∧ p = l.getD j 0) ∧ Hid (riseGo p (l.drop k) = isB l)) (fun i _ => l.length - (intOf i).toNat)
  case atStart => exact ⟨0, 0, 0, Nat.zero_le _, rfl, rfl, .inl ⟨rfl, rfl⟩, Lib.hid (by simp [isB])⟩
  case round =>
    obtain ⟨k, n, p, hk, rfl, rfl, hp, hg⟩ := hrel
    by_cases hlt : k < l.length
    · obtain ⟨ad, rfl, hc⟩ := hr.at_ hlt
      have e := hg.out
      rw [drop_cons hlt, riseGo_cons] at e
      have He := Lib.hid e
      have HX := Lib.hid (show l.getD k 0 = l.getD k 0 from rfl)
      clear e hg HX
      by_cases h1 : l.getD k 0 < 1
      · have e := He.out
        rw [if_pos (.inl h1)] at e
        have He2 := Lib.hid e
        clear e He
        generalize l.getD k 0 = x at *
        have d1 : decide (x < 1) = true := by simpa using h1
        go_wp2
        go_ret
        exact ⟨by rw [← He2.out] <;> rfl, _, by first | rfl | exact World.drewN_drewN _ _ _⟩
      · by_cases h3 : 3 < l.getD k 0
        · have e := He.out
          rw [if_pos (.inr (.inl h3))] at e
          have He2 := Lib.hid e
          clear e He
          generalize l.getD k 0 = x at *
          have d1 : decide (x < 1) = false := by simpa using h1
          go_wp2
          go_ret
          exact ⟨by rw [← He2.out] <;> rfl, _, by first | rfl | exact World.drewN_drewN _ _ _⟩
        · rcases hp with ⟨rfl, rfl⟩ | ⟨j, rfl, rfl⟩
          · rw [add_zero] at hc
            have e := He.out
            rw [if_neg (by omega)] at e
            have He2 := Lib.hid e
            clear e He
            have HG := Lib.hid (show l.getD 0 0 = l.getD 0 0 from rfl)
            obtain ⟨x, hx⟩ : ∃ x, x = l.getD 0 0 := ⟨_, rfl⟩
            rw [← hx] at hc h1 h3
            have HX := Lib.hid hx
            clear hx HG
            have d1 : decide (x < 1) = false := by simpa using h1
            have d3 : decide (3 < x) = false := by simpa using h3
            go_wp2
            go_roundw
            case rel => exact ⟨1, _, _, by omega, by go_num, by first | rfl | exact World.drewN_drewN _ _ _, .inr ⟨0, rfl, rfl⟩, He2⟩
            case measure => simp [intOf]; omega
          · rw [add_succ] at hc
            obtain ⟨ad2, ha, hc2⟩ := hr.at_ (show j < l.length by omega)
            obtain rfl := Option.some.inj ha
            have hx1 : ((j + 1 : Nat) : Int) - 1 = (j : Int) := by omega
            have dk : decide ((0 : Int) < ((j + 1 : Nat) : Int)) = true := decide_eq_true (by omega)
            by_cases hle : l.getD (j + 1) 0 ≤ l.getD j 0
            · have e := He.out
              rw [if_pos (.inr (.inr hle))] at e
              have He2 := Lib.hid e
              clear e He
              generalize l.getD (j + 1) 0 = x at *
              generalize l.getD j 0 = y at *
              have d1 : decide (x < 1) = false := by simpa using h1
              have d3 : decide (3 < x) = false := by simpa using h3
              have d4 : decide (x ≤ y) = true := by simpa using hle
              go_wp2
              go_ret
              exact ⟨by rw [← He2.out] <;> rfl, _, by first | rfl | exact World.drewN_drewN _ _ _⟩
            · have e := He.out
              rw [if_neg (by omega)] at e
              have He2 := Lib.hid e
              clear e He
              obtain ⟨x, hx⟩ : ∃ x, x = l.getD (j + 1) 0 := ⟨_, rfl⟩
              rw [← hx] at hc h1 h3 hle
              have HX := Lib.hid hx
              clear hx
              generalize l.getD j 0 = y at *
              have d1 : decide (x < 1) = false := by simpa using h1
              have d3 : decide (3 < x) = false := by simpa using h3
              have d4 : decide (x ≤ y) = false := by simpa using hle
              go_wp2
              go_roundw
              case rel => exact ⟨j + 1 + 1, _, _, by omega, by go_num, by first | rfl | exact World.drewN_drewN _ _ _, .inr ⟨j + 1, rfl, rfl⟩, He2⟩
              case measure => simp [intOf]; omega
    · have e := hg.out
      rw [List.drop_eq_nil_of_le (by omega)] at e
      have He := Lib.hid e
      clear e hg
      go_wp2
      go_ret
      exact ⟨by rw [← He.out] <;> rfl, _, rfl⟩


set_option maxHeartbeats 4000000 in
set_option maxRecDepth 100000 in
theorem ref22Is_any (A : Option Addr) (c : Nat) (l : List Int) (w : World) (hr : RdI w .i64 A l) (hl : l.length ≤ 9223372036854775807) :
    Calls Try.prog 44 #[.slice A l.length c] w (IsRet l w) := by
  go_enter Try.func44, Try.ntmps44
  go_wp2
  go_loopw [3] (fun i wr => ∃ (k n : Nat) (p : Int), k ≤ l.length ∧ i = .int .i64 k ∧ wr = w.drewN n ∧ (k = 0 ∧ p = 0 ∨ ∃ j, k = j + 1 ∧ p = l.getD j 0) ∧ Hid (riseGo p (l.drop k) = isB l)) (fun i _ => l.length - (intOf i).toNat)
  case atStart => exact ⟨0, 0, 0, Nat.zero_le _, rfl, rfl, .inl ⟨rfl, rfl⟩, Lib.hid (by simp [isB])⟩
  case round =>
    obtain ⟨k, n, p, hk, rfl, rfl, hp, hg⟩ := hrel
    by_cases hlt : k < l.length
    · obtain ⟨ad, rfl, hc⟩ := hr.at_ hlt
      have e := hg.out
      rw [drop_cons hlt, riseGo_cons] at e
      have He := Lib.hid e
      have HX := Lib.hid (show l.getD k 0 = l.getD k 0 from rfl)
      clear e hg HX
      by_cases h1 : l.getD k 0 < 1
      · have e := He.out
        rw [if_pos (.inl h1)] at e
        have He2 := Lib.hid e
        clear e He
        generalize l.getD k 0 = x at *
        have d1 : decide (x < 1) = true := by simpa using h1
        go_wp2
        go_quiet (fail)
        go_wp2
        go_ret
        exact ⟨by rw [← He2.out] <;> rfl, _, by first | rfl | exact World.drewN_drewN _ _ _⟩
      · by_cases h3 : 3 < l.getD k 0
        · have e := He.out
          rw [if_pos (.inr (.inl h3))] at e
          have He2 := Lib.hid e
          clear e He
          generalize l.getD k 0 = x at *
          have d1 : decide (x < 1) = false := by simpa using h1
          go_wp2
          go_quiet (fail)
          go_wp2
          go_ret
          exact ⟨by rw [← He2.out] <;> rfl, _, by first | rfl | exact World.drewN_drewN _ _ _⟩
        · rcases hp with ⟨rfl, rfl⟩ | ⟨j, rfl, rfl⟩
          · rw [add_zero] at hc
            have e := He.out
            rw [if_neg (by omega)] at e
            have He2 := Lib.hid e
            clear e He
            have HG := Lib.hid (show l.getD 0 0 = l.getD 0 0 from rfl)
            obtain ⟨x, hx⟩ : ∃ x, x = l.getD 0 0 := ⟨_, rfl⟩
            rw [← hx] at hc h1 h3
            have HX := Lib.hid hx
            clear hx HG
            have d1 : decide (x < 1) = false := by simpa using h1
            have d3 : decide (3 < x) = false := by simpa using h3
            go_wp2
            go_quiet (fail)
            go_wp2
            go_roundw
            case rel => exact ⟨1, _, _, by omega, by go_num, by first | rfl | exact World.drewN_drewN _ _ _, .inr ⟨0, rfl, rfl⟩, He2⟩
            case measure => simp [intOf]; omega
          · rw [add_succ] at hc
            obtain ⟨ad2, ha, hc2⟩ := hr.at_ (show j < l.length by omega)
            obtain rfl := Option.some.inj ha
            have hx1 : ((j + 1 : Nat) : Int) - 1 = (j : Int) := by omega
            have dk : decide ((0 : Int) < ((j + 1 : Nat) : Int)) = true := decide_eq_true (by omega)
            by_cases hle : l.getD (j + 1) 0 ≤ l.getD j 0
            · have e := He.out
              rw [if_pos (.inr (.inr hle))] at e
              have He2 := Lib.hid e
              clear e He
              generalize l.getD (j + 1) 0 = x at *
              generalize l.getD j 0 = y at *
              have d1 : decide (x < 1) = false := by simpa using h1
              have d3 : decide (3 < x) = false := by simpa using h3
              have d4 : decide (x ≤ y) = true := by simpa using hle
              go_wp2
              go_quiet (fail)
              go_wp2
              go_ret
              exact ⟨by rw [← He2.out] <;> rfl, _, by first | rfl | exact World.drewN_drewN _ _ _⟩
            · have e := He.out
              rw [if_neg (by omega)] at e
              have He2 := Lib.hid e
              clear e He
              obtain ⟨x, hx⟩ : ∃ x, x = l.getD (j + 1) 0 := ⟨_, rfl⟩
              rw [← hx] at hc h1 h3 hle
              have HX := Lib.hid hx
              clear hx
              generalize l.getD j 0 = y at *
              have d1 : decide (x < 1) = false := by simpa using h1
              have d3 : decide (3 < x) = false := by simpa using h3
              have d4 : decide (x ≤ y) = false := by simpa using hle
              go_wp2
              go_quiet (fail)
              go_wp2
              go_roundw
              case rel => exact ⟨j + 1 + 1, _, _, by omega, by go_num, by first | rfl | exact World.drewN_drewN _ _ _, .inr ⟨j + 1, rfl, rfl⟩, He2⟩
              case measure => simp [intOf]; omega
    · have e := hg.out
      rw [List.drop_eq_nil_of_le (by omega)] at e
      have He := Lib.hid e
      clear e hg
      go_wp2
      go_ret
      exact ⟨by rw [← He.out] <;> rfl, _, rfl⟩


theorem negoIs_any (A : Option Addr) (c : Nat) (l : List Int) (w : World) (hr : RdI w .i64 A l) (hl : l.length ≤ 9223372036854775807) :
    Calls Try.prog 43 #[.slice A l.length c] w (IsRet l w) := by
  go_enter Try.func43, Try.ntmps43
  go_wp2_with (go_at_call 64; refine (rises_any _ _ _ _ hr hl).mono ?_; rintro e w' ⟨rfl, n, rfl⟩)
  go_ret
  exact ⟨by simp, n, rfl⟩
end Go.Proofs.Ythejnlelegcgfaa

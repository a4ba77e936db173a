/- Two rows of numbers, held against each other: the references' Same tells whether they are equal. No condition. -/
import Derived.Test.YtpmfmkkifkpdcaaMem
import Derived.LoopTactic
import Derived.IntWalk
import Derived.Deep.QuietTactic
import Derived.BigQuiet
namespace Go.Proofs.Ytpmfmkkifkpdcaa
open Go.RowKit
set_option linter.unusedVariables false
set_option maxRecDepth 100000
set_option linter.unusedSimpArgs false

def SameRet (l m : List Int) (w : World) (e : Ending) (w' : World) : Prop := e = .returned (.bool (l == m)) ∧ ∃ n, w' = w.drewN n

set_option maxHeartbeats 2000000 in
theorem same01_any (A B : Option Addr) (c d : Nat) (l m : List Int) (w : World) (hr : RdI w .u8 A l) (hs : RdI w .u8 B m) (hl : l.length ≤ 9223372036854775807) (hm : m.length ≤ 9223372036854775807) :
    Calls Try.prog 30 #[.slice A l.length c, .slice B m.length d] w (SameRet l m w) := by
  by_cases hlen : l.length = m.length
  · have hd : ((l.length : Int) != (m.length : Int)) = false := by simp only [bne_eq_false_iff_eq]; omega
    have HL := Lib.hid hlen
    have hle : l.length ≤ m.length := by omega
    clear hlen
    go_enter Try.func30, Try.ntmps30
    go_wp2
    go_loopw [5] (fun i wr => ∃ k n : Nat, k ≤ l.length ∧ i = .int .i64 k ∧ wr = w.drewN n ∧ Hid ((l.drop k == m.drop k) = (l == m))) (fun i _ => l.length - (intOf i).toNat)
    case atStart => exact ⟨0, 0, Nat.zero_le _, rfl, rfl, Lib.hid (by simp)⟩
    case round =>
      obtain ⟨k, n, hk, rfl, rfl, hg⟩ := hrel
      by_cases hlt : k < l.length
      · have hlt2 : k < m.length := by omega
        obtain ⟨ad, rfl, hc⟩ := hr.at_ hlt
        obtain ⟨bd, rfl, hc2⟩ := hs.at_ hlt2
        have e := hg.out
        rw [drop_cons hlt, drop_cons hlt2] at e
        have He := Lib.hid e
        clear e hg
        generalize l.getD k 0 = x at *
        generalize m.getD k 0 = y at *
        by_cases hxy : x = y
        · have hdx : (x != y) = false := by simpa using hxy
          have e := He.out
          have e2 : (l.drop (k + 1) == m.drop (k + 1)) = (l == m) := by rw [← e, hxy]; simp
          have He2 := Lib.hid e2
          clear e e2 He hxy
          go_wp2
          go_quiet (fail)
          go_wp2
          go_roundw
          case rel => exact ⟨k + 1, _, by omega, by go_num, rfl, He2⟩
          case measure => simp [intOf]; omega
        · have hdx : (x != y) = true := by simpa using hxy
          have e := He.out
          have e2 : (l == m) = false := by rw [← e]; simp [hxy]
          have He2 := Lib.hid e2
          clear e e2 He hxy
          go_wp2
          go_quiet (fail)
          go_wp2
          go_ret
          exact ⟨by rw [He2.out] <;> rfl, _, World.drewN_drewN _ _ _⟩
      · have e := hg.out
        rw [List.drop_eq_nil_of_le (show l.length ≤ k by omega), List.drop_eq_nil_of_le (show m.length ≤ k by have := HL.out; omega)] at e
        have He := Lib.hid e
        clear e hg
        go_wp2
        go_ret
        exact ⟨by rw [← He.out] <;> rfl, _, rfl⟩
  · have hd : ((l.length : Int) != (m.length : Int)) = true := by simp only [bne_iff_ne, ne_eq]; omega
    have e : (l == m) = false := by
      cases h : (l == m) with
      | false => rfl
      | true => exact absurd (congrArg List.length (by simpa using h)) hlen
    have He := Lib.hid e
    clear e hlen
    go_enter Try.func30, Try.ntmps30
    go_wp2
    go_ret
    exact ⟨by rw [He.out] <;> rfl, 0, rfl⟩


end Go.Proofs.Ytpmfmkkifkpdcaa

/- Digits as a number: what bcd.Get and its reference compute, for every row of bytes. No condition. -/
import Derived.Test.YtpmfmkkifkpdcaaMem
import Derived.LoopTactic
import Derived.IntWalk
namespace Go.Proofs.Ytpmfmkkifkpdcaa
open Go.RowKit
set_option linter.unusedVariables false
set_option maxRecDepth 100000
set_option linter.unusedSimpArgs false

/-- The number and the error of a row of digits, n being the number so far. -/
def getGo : List Int → Int → Int × Int
  | [], n => (n, 0)
  | d :: l, n => if 9 < d then (0, 7) else getGo l (10 * n + d)
def getR (l : List Int) : Int × Int := if 18 < l.length then (0, 1) else getGo l 0

theorem getGo_cons (d : Int) (l : List Int) (n : Int) : getGo (d :: l) n = if 9 < d then (0, 7) else getGo l (10 * n + d) := rfl
theorem getR_long {l : List Int} (h : 18 < l.length) : getR l = (0, 1) := by unfold getR; rw [if_pos h]
theorem getR_short {l : List Int} (h : ¬ 18 < l.length) : getR l = getGo l 0 := by unfold getR; rw [if_neg h]

theorem ret2 {k k' : IntKind} {a b a' b' : Int} (h : a = a') (h' : b = b') : Ending.returned (.tuple #[.int k a, .int k' b]) = .returned (.tuple #[.int k a', .int k' b']) := by rw [h, h']
theorem pow10_le {k : Nat} (h : k ≤ 17) : (10 : Int) ^ k ≤ 100000000000000000 := by
  have : (10 : Nat) ^ k ≤ 10 ^ 17 := Nat.pow_le_pow_right (by omega) h
  have e : ((10 ^ k : Nat) : Int) = (10 : Int) ^ k := by simp
  rw [← e]; omega

set_option maxHeartbeats 2000000 in
theorem bcdGet_any (A : Option Addr) (c : Nat) (l : List Int) (w : World) (hr : RdI w .u8 A l) (hb : ∀ x ∈ l, 0 ≤ x ∧ x < 256) :
    Calls Try.prog 205 #[.slice A l.length c] w fun e w' => e = .returned (.tuple #[.int .i64 (getR l).1, .int .i64 (getR l).2]) ∧ w = w' := by
  by_cases hl : 18 < l.length
  · have E := Lib.hid (getR_long hl)
    go_enter Try.func205, Try.ntmps205
    go_wp2
    go_ret2
    exact ⟨by rw [E.out] <;> rfl, rfl⟩
  · have E := Lib.hid (getR_short hl)
    go_enter Try.func205, Try.ntmps205
    go_wp2
    go_loop [4, 12] (fun n i => ∃ (k : Nat) (m : Int), k ≤ l.length ∧ i = .int .i64 k ∧ n = .int .i64 m ∧ 0 ≤ m ∧ m < 10 ^ k ∧ Hid (getGo (l.drop k) m = getGo l 0)) (fun n i => l.length - (intOf i).toNat)
    case atStart => exact ⟨0, 0, Nat.zero_le _, rfl, rfl, by omega, by simp, Lib.hid (by simp)⟩
    case round =>
      obtain ⟨k, m, hk, rfl, rfl, h0, h1, hg⟩ := hrel
      by_cases hlt : k < l.length
      · obtain ⟨ad, rfl, hc⟩ := hr.at_ hlt
        have hd := hb (l.getD k 0) (getD_mem hlt)
        have hp := pow10_le (k := k) (by omega)
        have hm : m < 100000000000000000 := by omega
        have hs : (10 : Int) ^ (k + 1) = 10 * 10 ^ k := by rw [Int.pow_succ]; omega
        have hn : 10 * m + l.getD k 0 < 10 ^ (k + 1) ∨ 9 < l.getD k 0 := by omega
        have H1 := Lib.hid hn
        have e := hg.out
        rw [drop_cons hlt, getGo_cons] at e
        have He := Lib.hid e
        clear hs hn e hg hp h1
        generalize l.getD k 0 = d at *
        by_cases h9 : 9 < d
        · go_wp2
          go_ret2
          have e := He.out
          rw [if_pos h9] at e
          exact ⟨by rw [E.out, ← e] <;> rfl, rfl⟩
        · go_wp2
          go_round
          case rel => exact ⟨k + 1, 10 * m + d, by omega, by go_num, rfl, by omega, by have := H1.out; omega, Lib.hid (by have e := He.out; rw [if_neg h9] at e; exact e)⟩
          case measure => simp [intOf]; omega
      · have hkl : k = l.length := by omega
        have e := hg.out
        rw [List.drop_eq_nil_of_le (by omega)] at e
        have He := Lib.hid e
        clear e hg hkl
        go_wp2
        go_ret2
        exact ⟨by rw [E.out, ← He.out] <;> rfl, rfl⟩


end Go.Proofs.Ytpmfmkkifkpdcaa

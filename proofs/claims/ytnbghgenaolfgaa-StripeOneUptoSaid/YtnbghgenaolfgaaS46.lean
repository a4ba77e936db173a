/- Is a ring too great to be looked at? The document's answer is one Bool, and nothing changes. No condition. -/
import Derived.Test.YtnbghgenaolfgaaS00
namespace Go.Proofs.Ytnbghgenaolfgaa
open Go.RowKit
set_option linter.unusedVariables false
set_option maxRecDepth 100000
set_option linter.unusedSimpArgs false

def bigB (l : List Ky) : Bool := decide (200 < l.length) || l.any (fun k => decide (200 < k.sec.length))
def BigRet (l : List Ky) (w : World) (e : Ending) (w' : World) : Prop := e = .returned (.bool (bigB l)) ∧ w = w'
theorem big_any (A : Option Addr) (c : Nat) (l : List Ky) (w : World) (hr : RdK w A l) (hl : l.length ≤ 9223372036854775807) :
    Calls Try.prog 15 #[.slice A l.length c] w (BigRet l w) := by
  by_cases h200 : (l.length : Int) ≤ 200
  · have d200 : decide ((200 : Int) < (l.length : Int)) = false := by simp; omega
    go_enter Try.func15, Try.ntmps15
    go_wp2
    go_loopw [3] (fun i wr => ∃ k : Nat, k ≤ l.length ∧ i = .int .i64 k ∧ w = wr ∧ Hid (∀ (j : Nat) (hj : j < l.length), j < k → ¬ 200 < l[j].sec.length)) (fun i _ => l.length - (intOf i).toNat)
    case atStart => exact ⟨0, Nat.zero_le _, rfl, rfl, Lib.hid (fun j hj h => by omega)⟩
    case round =>
      obtain ⟨k, hk, rfl, rfl, hall⟩ := hrel
      by_cases hlt : k < l.length
      · rcases hr with h0 | ⟨ad, rfl, _, hka⟩
        · simp [h0] at hlt
        obtain ⟨B, c2, c0, c1, _⟩ := hka k hlt
        have HF : Hid (∃ f, l[k] = f ∧ f ∈ l) := Lib.hid ⟨_, rfl, List.getElem_mem hlt⟩
        obtain ⟨n2, hn2⟩ : ∃ n2, l[k].sec.length = n2 := ⟨_, rfl⟩
        rw [hn2] at c1
        have HN2 := Lib.hid hn2
        generalize l[k].id = id at c0
        clear hka hn2
        have k0 : (0 : Int) ≤ (k : Int) := by omega
        have k1 : (k : Int) < (l.length : Int) := by omega
        by_cases g : (200 : Int) < (n2 : Int)
        · have HB := Lib.hid (show bigB l = true by
            unfold bigB
            rw [Bool.or_eq_true]
            right
            exact List.any_eq_true.2 ⟨l[k], List.getElem_mem hlt, by simp; have := HN2.out; omega⟩)
          clear HN2 HF
          go_wp2
          go_ret
          exact ⟨by rw [HB.out] <;> rfl, rfl⟩
        · have HX : Hid (∀ (j : Nat) (hj : j < l.length), j < k + 1 → ¬ 200 < l[j].sec.length) := Lib.hid (fun j hj h => by
            by_cases e : j = k
            · subst e; have := HN2.out; omega
            · exact hall.out j hj (by omega))
          clear HN2 HF hall
          go_wp2
          exact ⟨⟨k + 1, by omega, by go_num, by trivial, HX⟩, by simp [intOf]; omega⟩
      · have k1 : ¬ (k : Int) < (l.length : Int) := by omega
        have HB := Lib.hid (show bigB l = false by
          unfold bigB
          rw [Bool.or_eq_false_iff]
          refine ⟨by simp; omega, List.any_eq_false.2 fun x hx => ?_⟩
          obtain ⟨j, hj, rfl⟩ := List.getElem_of_mem hx
          have := hall.out j hj (by omega)
          simpa using this)
        clear hall
        go_wp2
        go_ret
        exact ⟨by rw [HB.out] <;> rfl, rfl⟩
  · have d200 : decide ((200 : Int) < (l.length : Int)) = true := by simp; omega
    have HB := Lib.hid (show bigB l = true by unfold bigB; rw [decide_eq_true (by omega)]; rfl)
    by_cases hz : (0 : Int) < (l.length : Int)
    rotate_left
    · omega
    go_enter Try.func15, Try.ntmps15
    go_wp2
    go_loopw [3] (fun i wr => i = .int .i64 0 ∧ w = wr) (fun i _ => 0)
    case atStart => exact ⟨rfl, rfl⟩
    case round =>
      obtain ⟨rfl, rfl⟩ := hrel
      go_wp2
      go_ret
      exact ⟨by rw [HB.out] <;> rfl, rfl⟩
end Go.Proofs.Ytnbghgenaolfgaa

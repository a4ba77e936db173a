/- Layer 17: numbers as bytes without the zeros ahead, and back: tlv.Number, tlv.Value. No condition. -/
import Derived.Test.YtiogogbkgekkdaaBits
namespace Go.Proofs.Ytiogogbkgekkdaa
open Go.RowKit
set_option linter.unusedVariables false
set_option maxRecDepth 100000
set_option linter.unusedSimpArgs false

def strip : List Int → List Int
  | [] => []
  | x :: t => if x = 0 then strip t else x :: t
def numL (n : Int) : List Int := strip (dgB 8 n)
/-- What bytes give as a number, or an error. -/
def valE (l : List Int) : Int × Int := if l.length < 1 ∨ 7 < l.length ∨ l.getD 0 0 = 0 then (0, 14) else (valN l 0, 0)
def lenOfV (v : Value) : Nat := match v with
  | .slice _ n _ => n
  | _ => 0
theorem strip_cons (x : Int) (t : List Int) : strip (x :: t) = if x = 0 then strip t else x :: t := rfl

set_option maxHeartbeats 4000000 in
theorem number_any (n : Int) (w : World) (h0 : 0 ≤ n) (h9 : n ≤ 9223372036854775807) :
    Calls Try.prog 98 #[.int .i64 n] w fun e w' => (∃ (A : Option Addr) (c : Nat), e = .returned (.tuple #[.slice A (numL n).length c, .int .i64 0]) ∧ (numL n).length ≤ c ∧ c ≤ 9223372036854775807 ∧ RdI w' .u8 A (numL n) ∧ ∀ a, A = some a → w.heap.size ≤ a.block) ∧ Below w.heap.size w w' := by
  go_enter Try.func98, Try.ntmps98
  go_wp2_with (go_at_call 137; (with_reducible refine (bitsPut_any n _ h0 h9).mono ?_); rintro e w1 ⟨⟨c0, rfl, hc8, hc9, hr⟩, hb⟩)
  go_loop [4] (fun v => ∃ (ad : Addr) (c : Nat) (q : List Int), v = .slice (some ad) q.length c ∧ q.length ≤ c ∧ c ≤ 9223372036854775807 ∧ RdI w1 .u8 (some ad) q ∧ w.heap.size ≤ ad.block ∧ Hid (strip q = numL n)) (fun v => lenOfV v)
  case atStart => exact ⟨_, c0, dgB 8 n, by rw [dgB_len] <;> rfl, by rw [dgB_len]; exact hc8, hc9, hr, Nat.le_refl _, Lib.hid rfl⟩
  case round =>
    obtain ⟨ad, c, q, rfl, hcl, hcc, hrq, had, hq⟩ := hrel
    cases q with
    | nil =>
      have HQ := Lib.hid (show numL n = [] from hq.out.symm)
      go_wp2
      go_ret2
      exact ⟨⟨some ad, c, by rw [HQ.out] <;> rfl, by rw [HQ.out]; exact Nat.zero_le _, hcc, by rw [HQ.out]; exact RdI.nil _ _ _, fun a ha => by cases ha; exact had⟩, hb⟩
    | cons x t =>
      have hc1 : w1.cell? ad = some (.int .u8 x) := by
        obtain ⟨ad', e, h⟩ := hrq.at_ (j := 0) (by simp)
        obtain rfl := Option.some.inj e
        rw [add_zero] at h
        exact h
      have hc0 : w1.cell? (ad.add 0) = some (.int .u8 x) := by rw [add_zero]; exact hc1
      by_cases hx : x = 0
      · have hcut := hrq.cut (c := c) 1 hcl
        subst hx
        have e := hq.out
        rw [strip_cons, if_pos rfl] at e
        have HQ := Lib.hid e
        clear e hq
        by_cases hct : c = 1
        · rw [if_pos hct] at hcut
          have HC := Lib.hid hcut
          subst hct
          have ht : t = [] := by
            cases t with
            | nil => rfl
            | cons y t => simp at hcl
          subst ht
          clear hcut hrq
          go_wp2
          exact ⟨⟨ad, 0, [], rfl, Nat.le_refl _, by omega, RdI.nil _ _ _, had, HQ⟩, by simp [lenOfV]⟩
        · rw [if_neg hct] at hcut
          have HC := Lib.hid hcut
          clear hcut hrq
          have hcl2 : t.length + 1 ≤ c := by simpa using hcl
          go_wp2
          exact ⟨⟨⟨ad.block, ad.off + 1, none⟩, c - 1, t, rfl, by omega, by omega, by have h := HC.out; simpa [Addr.add] using h, had, HQ⟩, by simp [lenOfV]⟩
      · have hxb : (x == 0) = false := by simpa using hx
        have e := hq.out
        rw [strip_cons, if_neg hx] at e
        have HQ := Lib.hid e.symm
        clear e hq
        go_wp2
        go_ret2
        exact ⟨⟨some ad, c, by rw [HQ.out] <;> rfl, by rw [HQ.out]; exact hcl, hcc, by rw [HQ.out]; exact hrq, fun a ha => by cases ha; exact had⟩, hb⟩

theorem value_any (A : Option Addr) (c : Nat) (l : List Int) (w : World) (hr : RdI w .u8 A l) (hl : l.length ≤ 9223372036854775807) (hb : ∀ x ∈ l, 0 ≤ x ∧ x < 256) :
    Calls Try.prog 118 #[.slice A l.length c] w fun e w' => e = .returned (.tuple #[.int .i64 (valE l).1, .int .i64 (valE l).2]) ∧ w = w' := by
  by_cases h1 : l.length < 1
  · have e := show valE l = (0, 14) by unfold valE; rw [if_pos (.inl h1)]
    have E1 := Lib.hid (congrArg Prod.fst e)
    have E2 := Lib.hid (congrArg Prod.snd e)
    have hd : (l.length : Int) < 1 := by omega
    clear e
    go_enter Try.func118, Try.ntmps118
    go_wp2
    go_ret2
    exact ⟨by rw [E1.out, E2.out] <;> rfl, rfl⟩
  have hd1 : ¬ (l.length : Int) < 1 := by omega
  by_cases h7 : 7 < l.length
  · have e := show valE l = (0, 14) by unfold valE; rw [if_pos (.inr (.inl h7))]
    have E1 := Lib.hid (congrArg Prod.fst e)
    have E2 := Lib.hid (congrArg Prod.snd e)
    have hd : (7 : Int) < (l.length : Int) := by omega
    clear e
    go_enter Try.func118, Try.ntmps118
    go_wp2
    go_ret2
    exact ⟨by rw [E1.out, E2.out] <;> rfl, rfl⟩
  have hd7 : ¬ (7 : Int) < (l.length : Int) := by omega
  have hd0 : (0 : Int) < (l.length : Int) := by omega
  obtain ⟨ad, rfl, hc0⟩ := hr.at_ (j := 0) (by omega)
  have hc1 := hc0
  rw [add_zero] at hc1
  by_cases hx : l.getD 0 0 = 0
  · have e := show valE l = (0, 14) by unfold valE; rw [if_pos (.inr (.inr hx))]
    have E1 := Lib.hid (congrArg Prod.fst e)
    have E2 := Lib.hid (congrArg Prod.snd e)
    clear e
    rw [hx] at hc0 hc1
    clear hx
    go_enter Try.func118, Try.ntmps118
    go_wp2
    go_ret2
    exact ⟨by rw [E1.out, E2.out] <;> rfl, rfl⟩
  · have e := show valE l = (valN l 0, 0) by unfold valE; rw [if_neg (by omega)]
    have E1 := Lib.hid (congrArg Prod.fst e)
    have E2 := Lib.hid (congrArg Prod.snd e)
    clear e
    generalize l.getD 0 0 = x at *
    have hxb : (x == 0) = false := by simpa using hx
    have hl7 : l.length ≤ 7 := by omega
    go_enter Try.func118, Try.ntmps118
    go_wp2_with (go_at_call 147; (with_reducible refine (bitsGet_any _ _ l _ hr hl7 hb).mono ?_); rintro e w' ⟨rfl, rfl⟩)
    go_ret2
    exact ⟨by rw [E1.out, E2.out] <;> rfl, rfl⟩
end Go.Proofs.Ytiogogbkgekkdaa

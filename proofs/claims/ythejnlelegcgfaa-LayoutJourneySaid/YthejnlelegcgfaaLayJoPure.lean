/- Layer 13's law LayoutJourney, the plain facts: the last six digits tell the journey and the key, and those ahead of them do not hang on the journey. No condition. -/
import Derived.Test.YthejnlelegcgfaaLayPure
namespace Go.Proofs.Ythejnlelegcgfaa
open Go.RowKit
set_option linter.unusedVariables false
set_option linter.unusedSimpArgs false

theorem putL2 {x : Int} (h0 : 0 ≤ x) (h1 : x < 100) : putL x 2 = [x / 10, x % 10] := by
  have h := putL_ok (n := x) (k := 2) h0 (by omega) (by show ¬ 0 < x / 100; omega)
  have e : ((2 : Nat) : Int) = 2 := rfl
  rw [e] at h
  rw [h, dg_succ, dg_succ]
  simp only [dg, Int.pow_zero, Int.pow_one, Int.ediv_one]
  congr 1
  omega
/-- The digits ahead of the journey's. -/
def preL (k : Int) (c : List Int) : List Int := (List.zipWith putL ((layV k c).take ((fl k).length - 3)) ((wsL k).take ((fl k).length - 3))).flatten
theorem preL_same {a0 a1 a2 a3 a4 a5 a6 a7 a8 a9 a10 a11 a12 a13 a14 x y : Int} (h1 : ¬ a1 < 1) (h4 : ¬ 4 < a1) : preL a1 [a0, a1, a2, a3, a4, a5, a6, a7, a8, a9, a10, a11, x, y, a14] = preL a1 [a0, a1, a2, a3, a4, a5, a6, a7, a8, a9, a10, a11, a12, a13, a14] := by
  have key : (layV a1 [a0, a1, a2, a3, a4, a5, a6, a7, a8, a9, a10, a11, x, y, a14]).take ((fl a1).length - 3) = (layV a1 [a0, a1, a2, a3, a4, a5, a6, a7, a8, a9, a10, a11, a12, a13, a14]).take ((fl a1).length - 3) := by
    obtain rfl | rfl | rfl | rfl : a1 = 1 ∨ a1 = 2 ∨ a1 = 3 ∨ a1 = 4 := by omega
    all_goals simp [layV, fl]
  unfold preL
  rw [key]
theorem lay_tail {a0 a1 a2 a3 a4 a5 a6 a7 a8 a9 a10 a11 a12 a13 a14 : Int} {l : List Int} (h : layR (tkB a0 a1 a2 a3 a4 a5 a6 a7 a8 a9 a10) [a0, a1, a2, a3, a4, a5, a6, a7, a8, a9, a10, a11, a12, a13, a14] = (l, 0)) :
    l = preL a1 [a0, a1, a2, a3, a4, a5, a6, a7, a8, a9, a10, a11, a12, a13, a14] ++ [a12 / 10, a12 % 10, a13 / 10, a13 % 10, a11 / 10, a11 % 10] ∧ (0 ≤ a12 ∧ a12 < 100) ∧ (0 ≤ a13 ∧ a13 < 100) := by
  obtain ⟨hT, hS, hk0, hk9, h14, h6, h0, hj, hk1, hk4, hu⟩ := layR_ok h
  obtain ⟨hl, _, hp⟩ := joinR_ok hj
  rw [hl]
  obtain rfl | rfl | rfl | rfl : a1 = 1 ∨ a1 = 2 ∨ a1 = 3 ∨ a1 = 4 := by omega
  · have p1 := putE_lt (v := a12) (k := 2) (hp 9 (by decide)); have p2 := putE_lt (v := a13) (k := 2) (hp 10 (by decide))
    have q1 := putL2 (x := a12) p1.1 (by have := p1.2; omega); have q2 := putL2 (x := a13) p2.1 (by have := p2.2; omega); have q3 := putL2 hk0 hk9
    exact ⟨by simp [preL, layV, fl, wsL, q1, q2, q3], ⟨p1.1, by have := p1.2; omega⟩, ⟨p2.1, by have := p2.2; omega⟩⟩
  · have p1 := putE_lt (v := a12) (k := 2) (hp 9 (by decide)); have p2 := putE_lt (v := a13) (k := 2) (hp 10 (by decide))
    have q1 := putL2 (x := a12) p1.1 (by have := p1.2; omega); have q2 := putL2 (x := a13) p2.1 (by have := p2.2; omega); have q3 := putL2 hk0 hk9
    exact ⟨by simp [preL, layV, fl, wsL, q1, q2, q3], ⟨p1.1, by have := p1.2; omega⟩, ⟨p2.1, by have := p2.2; omega⟩⟩
  · have p1 := putE_lt (v := a12) (k := 2) (hp 9 (by decide)); have p2 := putE_lt (v := a13) (k := 2) (hp 10 (by decide))
    have q1 := putL2 (x := a12) p1.1 (by have := p1.2; omega); have q2 := putL2 (x := a13) p2.1 (by have := p2.2; omega); have q3 := putL2 hk0 hk9
    exact ⟨by simp [preL, layV, fl, wsL, q1, q2, q3], ⟨p1.1, by have := p1.2; omega⟩, ⟨p2.1, by have := p2.2; omega⟩⟩
  · have p1 := putE_lt (v := a12) (k := 2) (hp 10 (by decide)); have p2 := putE_lt (v := a13) (k := 2) (hp 11 (by decide))
    have q1 := putL2 (x := a12) p1.1 (by have := p1.2; omega); have q2 := putL2 (x := a13) p2.1 (by have := p2.2; omega); have q3 := putL2 hk0 hk9
    exact ⟨by simp [preL, layV, fl, wsL, q1, q2, q3], ⟨p1.1, by have := p1.2; omega⟩, ⟨p2.1, by have := p2.2; omega⟩⟩
end Go.Proofs.Ythejnlelegcgfaa

/- Layer 13's law LayoutJourney: of two journeys of a ticket only the four digits differ that tell them. Condition: the numbers are Go's ints. -/
import Derived.Test.YthejnlelegcgfaaLayJo
import Derived.Test.YthejnlelegcgfaaLayJoYes
import Derived.Test.YthejnlelegcgfaaLayJoYes21
import Derived.Test.YthejnlelegcgfaaLayJoYes25
namespace Go.Proofs.Ythejnlelegcgfaa
open Go.RowKit
set_option linter.unusedVariables false
set_option linter.unusedSimpArgs false

theorem tail_facts {P l1 l2 : List Int} {a b c d x y z t e f : Int} {p : Nat} (h1 : l1 = P ++ [a, b, c, d, e, f]) (h2 : l2 = P ++ [x, y, z, t, e, f]) (hp : P.length = p) :
    l1.take p = l2.take p ∧ l1.drop (p + 4) = l2.drop (p + 4) ∧ l2.getD p 0 = x ∧ l2.getD (p + 1) 0 = y ∧ l2.getD (p + 2) 0 = z ∧ l2.getD (p + 3) 0 = t := by
  subst h1 h2 hp
  refine ⟨by simp, ?_, ?_, ?_, ?_, ?_⟩
  · rw [List.drop_append, List.drop_append]; simp
  all_goals simp [List.getD_eq_getElem?_getD, List.getElem?_append]
theorem lay_len {a0 a1 a2 a3 a4 a5 a6 a7 a8 a9 a10 a11 a12 a13 a14 : Int} {l : List Int} (h : layR (tkB a0 a1 a2 a3 a4 a5 a6 a7 a8 a9 a10) [a0, a1, a2, a3, a4, a5, a6, a7, a8, a9, a10, a11, a12, a13, a14] = (l, 0)) : (a1 = 3 ∧ l.length = 27) ∨ (a1 = 4 ∧ l.length = 31) ∨ (a1 ≠ 3 ∧ a1 ≠ 4 ∧ l.length = 29) := by
  obtain ⟨hT, hS, hk0, hk9, h14, h6, h0, hj, hk1, hk4, hu⟩ := layR_ok h
  have s := joinR_sum hj
  obtain rfl | rfl | rfl | rfl : a1 = 1 ∨ a1 = 2 ∨ a1 = 3 ∨ a1 = 4 := by omega
  all_goals simp [wsL, sumGo] at s; omega

theorem layoutJourney_any (a0 a1 a2 a3 a4 a5 a6 a7 a8 a9 a10 a11 a12 a13 a14 b c : Int) (w : World) (hv : ∀ x ∈ [a0, a1, a2, a3, a4, a5, a6, a7, a8, a9, a10, a11, a12, a13, a14], x ≤ 9223372036854775807) (hv2 : ∀ x ∈ [a0, a1, a2, a3, a4, a5, a6, a7, a8, a9, a10, a11, b, c, a14], x ≤ 9223372036854775807) :
    Calls Try.prog 17 #[.agg #[.int .i64 a0, .int .i64 a1, .int .i64 a2, .int .i64 a3, .int .i64 a4, .int .i64 a5, .int .i64 a6, .int .i64 a7, .int .i64 a8, .int .i64 a9, .int .i64 a10, .int .i64 a11, .int .i64 a12, .int .i64 a13, .int .i64 a14], .agg #[.int .i64 b, .int .i64 c]] w fun e w' => e = .returned (.bool true) ∧ Below w.heap.size w w' := by
  obtain ⟨⟨l1, e1⟩, hr1⟩ : ∃ r, layR (tkB a0 a1 a2 a3 a4 a5 a6 a7 a8 a9 a10) [a0, a1, a2, a3, a4, a5, a6, a7, a8, a9, a10, a11, a12, a13, a14] = r := ⟨_, rfl⟩
  obtain ⟨⟨l2, e2⟩, hr2⟩ : ∃ r, layR (tkB a0 a1 a2 a3 a4 a5 a6 a7 a8 a9 a10) [a0, a1, a2, a3, a4, a5, a6, a7, a8, a9, a10, a11, b, c, a14] = r := ⟨_, rfl⟩
  by_cases h1 : e1 = 0
  rotate_left
  · exact layoutJourney_no1 a0 a1 a2 a3 a4 a5 a6 a7 a8 a9 a10 a11 a12 a13 a14 b c l1 l2 e1 e2 w hv hv2 hr1 hr2 (by simpa using h1)
  by_cases h2 : e2 = 0
  rotate_left
  · exact layoutJourney_no2 a0 a1 a2 a3 a4 a5 a6 a7 a8 a9 a10 a11 a12 a13 a14 b c l1 l2 e1 e2 w hv hv2 hr1 hr2 (by simpa using h1) (by simpa using h2)
  subst h1 h2
  obtain ⟨t1, _, _⟩ := lay_tail hr1
  obtain ⟨t2, q1, q2⟩ := lay_tail hr2
  have hk := layR_ok hr1
  have hk1 : ¬ a1 < 1 := hk.2.2.2.2.2.2.2.2.1
  have hk4 : ¬ 4 < a1 := hk.2.2.2.2.2.2.2.2.2.1
  rw [preL_same hk1 hk4] at t2
  have n1 := lay_len hr1
  have n2 := lay_len hr2
  have m1 := congrArg List.length t1
  simp only [List.length_append, List.length_cons, List.length_nil] at m1
  rcases n1 with ⟨k, n⟩ | ⟨k, n⟩ | ⟨k, k', n⟩
  · obtain ⟨f1, f2, f3, f4, f5, f6⟩ := tail_facts (p := 21) t1 t2 (by omega)
    exact layoutJourney_yes21 a0 a1 a2 a3 a4 a5 a6 a7 a8 a9 a10 a11 a12 a13 a14 b c l1 l2 0 0 w hv hv2 hr1 hr2 (b / 10) (b % 10) (c / 10) (c % 10) n (by omega) f1 f2 f3 f4 f5 f6 (by omega) (by omega) (by omega) (by omega) (by omega) (by omega)
  · obtain ⟨f1, f2, f3, f4, f5, f6⟩ := tail_facts (p := 25) t1 t2 (by omega)
    exact layoutJourney_yes25 a0 a1 a2 a3 a4 a5 a6 a7 a8 a9 a10 a11 a12 a13 a14 b c l1 l2 0 0 w hv hv2 hr1 hr2 (b / 10) (b % 10) (c / 10) (c % 10) n (by omega) f1 f2 f3 f4 f5 f6 (by omega) (by omega) (by omega) (by omega) (by omega) (by omega)
  · obtain ⟨f1, f2, f3, f4, f5, f6⟩ := tail_facts (p := 23) t1 t2 (by omega)
    exact layoutJourney_yes23 a0 a1 a2 a3 a4 a5 a6 a7 a8 a9 a10 a11 a12 a13 a14 b c l1 l2 0 0 w hv hv2 hr1 hr2 (b / 10) (b % 10) (c / 10) (c % 10) n (by omega) f1 f2 f3 f4 f5 f6 (by omega) (by omega) (by omega) (by omega) (by omega) (by omega)
end Go.Proofs.Ythejnlelegcgfaa

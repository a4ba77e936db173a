/- Layer 13's small functions: Suits, Widths of the reference, a blank sheet. No condition. -/
import Derived.Test.YtpmfmkkifkpdcaaNegoHas
namespace Go.Proofs.Ytpmfmkkifkpdcaa
open Go.RowKit
set_option linter.unusedVariables false
set_option maxRecDepth 100000
set_option linter.unusedSimpArgs false

def suB (u l i : Int) : Bool := decide (0 ≤ l ∧ l ≤ u ∧ 0 ≤ i ∧ i ≤ 40)

set_option maxRecDepth 100000 in
theorem suits_any (a0 a1 a2 a3 a4 a5 a6 a7 a8 a9 a10 l i : Int) (w : World) :
    Calls Try.prog 82 #[.agg #[.int .i64 a0, .int .i64 a1, .int .i64 a2, .int .i64 a3, .int .i64 a4, .int .i64 a5, .int .i64 a6, .int .i64 a7, .int .i64 a8, .int .i64 a9, .int .i64 a10], .agg #[.int .i64 l, .int .i64 i]] w fun e w' => e = .returned (.bool (suB a9 l i)) ∧ Below w.heap.size w w' := by
  by_cases hd1 : 0 ≤ l
  rotate_left
  · have E := Lib.hid (show suB a9 l i = false by simp [suB]; omega)
    have d1 : decide (0 ≤ l) = false := by simpa using hd1
    go_enter Try.func82, Try.ntmps82
    go_wp2
    go_ret
    exact ⟨by rw [E.out] <;> rfl, (by repeat (first | (with_reducible exact bR _) | (with_reducible refine bT ?_ (by assumption)) | (with_reducible apply bA) | (with_reducible apply bD) | (with_reducible apply bN) | (with_reducible refine bS ?_ (by first | omega | (simp; done) | (simp; omega)))))⟩
  have d1 : decide (0 ≤ l) = true := by simpa using hd1
  by_cases hd2 : l ≤ a9
  rotate_left
  · have E := Lib.hid (show suB a9 l i = false by simp [suB]; omega)
    have d2 : decide (l ≤ a9) = false := by simpa using hd2
    go_enter Try.func82, Try.ntmps82
    go_wp2
    go_ret
    exact ⟨by rw [E.out] <;> rfl, (by repeat (first | (with_reducible exact bR _) | (with_reducible refine bT ?_ (by assumption)) | (with_reducible apply bA) | (with_reducible apply bD) | (with_reducible apply bN) | (with_reducible refine bS ?_ (by first | omega | (simp; done) | (simp; omega)))))⟩
  have d2 : decide (l ≤ a9) = true := by simpa using hd2
  by_cases hd3 : 0 ≤ i
  rotate_left
  · have E := Lib.hid (show suB a9 l i = false by simp [suB]; omega)
    have d3 : decide (0 ≤ i) = false := by simpa using hd3
    go_enter Try.func82, Try.ntmps82
    go_wp2
    go_ret
    exact ⟨by rw [E.out] <;> rfl, (by repeat (first | (with_reducible exact bR _) | (with_reducible refine bT ?_ (by assumption)) | (with_reducible apply bA) | (with_reducible apply bD) | (with_reducible apply bN) | (with_reducible refine bS ?_ (by first | omega | (simp; done) | (simp; omega)))))⟩
  have d3 : decide (0 ≤ i) = true := by simpa using hd3
  by_cases hd4 : i ≤ 40
  rotate_left
  · have E := Lib.hid (show suB a9 l i = false by simp [suB]; omega)
    have d4 : decide (i ≤ 40) = false := by simpa using hd4
    go_enter Try.func82, Try.ntmps82
    go_wp2
    go_ret
    exact ⟨by rw [E.out] <;> rfl, (by repeat (first | (with_reducible exact bR _) | (with_reducible refine bT ?_ (by assumption)) | (with_reducible apply bA) | (with_reducible apply bD) | (with_reducible apply bN) | (with_reducible refine bS ?_ (by first | omega | (simp; done) | (simp; omega)))))⟩
  have d4 : decide (i ≤ 40) = true := by simpa using hd4
  have E := Lib.hid (show suB a9 l i = true by simp [suB]; omega)
  go_enter Try.func82, Try.ntmps82
  go_wp2
  go_ret
  exact ⟨by rw [E.out] <;> rfl, (by repeat (first | (with_reducible exact bR _) | (with_reducible refine bT ?_ (by assumption)) | (with_reducible apply bA) | (with_reducible apply bD) | (with_reducible apply bN) | (with_reducible refine bS ?_ (by first | omega | (simp; done) | (simp; omega)))))⟩

set_option maxRecDepth 100000 in
theorem refSuits_any (a0 a1 a2 a3 a4 a5 a6 a7 a8 a9 a10 l i : Int) (w : World) :
    Calls Try.prog 85 #[.agg #[.int .i64 a0, .int .i64 a1, .int .i64 a2, .int .i64 a3, .int .i64 a4, .int .i64 a5, .int .i64 a6, .int .i64 a7, .int .i64 a8, .int .i64 a9, .int .i64 a10], .agg #[.int .i64 l, .int .i64 i]] w fun e w' => e = .returned (.bool (suB a9 l i)) ∧ Below w.heap.size w w' := by
  by_cases hd1 : 0 ≤ l
  rotate_left
  · have E := Lib.hid (show suB a9 l i = false by simp [suB]; omega)
    have d1 : decide (0 ≤ l) = false := by simpa using hd1
    go_enter Try.func85, Try.ntmps85
    go_wp2
    go_ret
    exact ⟨by rw [E.out] <;> rfl, (by repeat (first | (with_reducible exact bR _) | (with_reducible refine bT ?_ (by assumption)) | (with_reducible apply bA) | (with_reducible apply bD) | (with_reducible apply bN) | (with_reducible refine bS ?_ (by first | omega | (simp; done) | (simp; omega)))))⟩
  have d1 : decide (0 ≤ l) = true := by simpa using hd1
  by_cases hd2 : l ≤ a9
  rotate_left
  · have E := Lib.hid (show suB a9 l i = false by simp [suB]; omega)
    have d2 : decide (l ≤ a9) = false := by simpa using hd2
    go_enter Try.func85, Try.ntmps85
    go_wp2
    go_ret
    exact ⟨by rw [E.out] <;> rfl, (by repeat (first | (with_reducible exact bR _) | (with_reducible refine bT ?_ (by assumption)) | (with_reducible apply bA) | (with_reducible apply bD) | (with_reducible apply bN) | (with_reducible refine bS ?_ (by first | omega | (simp; done) | (simp; omega)))))⟩
  have d2 : decide (l ≤ a9) = true := by simpa using hd2
  by_cases hd3 : 0 ≤ i
  rotate_left
  · have E := Lib.hid (show suB a9 l i = false by simp [suB]; omega)
    have d3 : decide (0 ≤ i) = false := by simpa using hd3
    go_enter Try.func85, Try.ntmps85
    go_wp2
    go_ret
    exact ⟨by rw [E.out] <;> rfl, (by repeat (first | (with_reducible exact bR _) | (with_reducible refine bT ?_ (by assumption)) | (with_reducible apply bA) | (with_reducible apply bD) | (with_reducible apply bN) | (with_reducible refine bS ?_ (by first | omega | (simp; done) | (simp; omega)))))⟩
  have d3 : decide (0 ≤ i) = true := by simpa using hd3
  by_cases hd4 : i ≤ 40
  rotate_left
  · have E := Lib.hid (show suB a9 l i = false by simp [suB]; omega)
    have d4 : decide (i ≤ 40) = false := by simpa using hd4
    go_enter Try.func85, Try.ntmps85
    go_wp2
    go_ret
    exact ⟨by rw [E.out] <;> rfl, (by repeat (first | (with_reducible exact bR _) | (with_reducible refine bT ?_ (by assumption)) | (with_reducible apply bA) | (with_reducible apply bD) | (with_reducible apply bN) | (with_reducible refine bS ?_ (by first | omega | (simp; done) | (simp; omega)))))⟩
  have d4 : decide (i ≤ 40) = true := by simpa using hd4
  have E := Lib.hid (show suB a9 l i = true by simp [suB]; omega)
  go_enter Try.func85, Try.ntmps85
  go_wp2
  go_ret
  exact ⟨by rw [E.out] <;> rfl, (by repeat (first | (with_reducible exact bR _) | (with_reducible refine bT ?_ (by assumption)) | (with_reducible apply bA) | (with_reducible apply bD) | (with_reducible apply bN) | (with_reducible refine bS ?_ (by first | omega | (simp; done) | (simp; omega)))))⟩

/-- The widths of a kind. -/
def wsL (k : Int) : List Int := if k < 1 ∨ 4 < k then [] else if k = 3 then [1, 7, 1, 1, 5, 3, 1, 1, 1, 2, 2, 2] else if k = 4 then [1, 7, 1, 1, 5, 3, 1, 2, 2, 2, 2, 2, 2] else [1, 7, 1, 1, 5, 3, 1, 2, 2, 2, 2, 2]
def wsE (k : Int) : Int := if k < 1 ∨ 4 < k then 8 else 0

theorem own_litL (w : World) (l : List Int) (e : TypeId) (hl : l.length ≤ maxLen) : (w.alloc (.cells (l.map (Value.int .i64)).toArray e)).ownsRow w.heap.size e 1 (.slice (some ⟨w.heap.size, 0, none⟩) l.length l.length) l.length (l.map (.int .i64)) :=
  World.ownsRow_lit w (l.map (Value.int .i64)).toArray l.length (Nat.le_refl _) hl (by simp)

set_option maxRecDepth 100000 in
theorem blank_any (k : Int) (w : World) (h : 0 ≤ k) (h4 : k ≤ 4) : Calls Try.prog 177 #[.int .i64 k] w fun e w' => e = .returned (.pointer (some ⟨w.heap.size, 0, none⟩)) ∧ w' = w.alloc (.cells #[.int .i64 0, .int .i64 k, .int .i64 0, .int .i64 0, .int .i64 0, .int .i64 0, .int .i64 0, .int .i64 0, .int .i64 0, .int .i64 (k % 3), .int .i64 0, .int .i64 0, .int .i64 0, .int .i64 0, .int .i64 0] 184) := by
  have hk : k = 0 ∨ k = 1 ∨ k = 2 ∨ k = 3 ∨ k = 4 := by omega
  rcases hk with rfl | rfl | rfl | rfl | rfl
  all_goals
    go_enter Try.func177, Try.ntmps177
    go_wp2
    go_ret
    exact ⟨rfl, rfl⟩
end Go.Proofs.Ytpmfmkkifkpdcaa

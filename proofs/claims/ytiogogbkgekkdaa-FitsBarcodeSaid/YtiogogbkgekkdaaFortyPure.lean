/- Layer 16, the plain facts: bytes as signs of 45, two bytes as three signs; what was put is got again, and what was got is put as it was. No condition. -/
import Derived.Test.YtiogogbkgekkdaaBase
namespace Go.Proofs.Ytiogogbkgekkdaa
open Go.RowKit
set_option linter.unusedVariables false
set_option maxRecDepth 100000
set_option linter.unusedSimpArgs false

def S45 : List Int := [48, 49, 50, 51, 52, 53, 54, 55, 56, 57, 65, 66, 67, 68, 69, 70, 71, 72, 73, 74, 75, 76, 77, 78, 79, 80, 81, 82, 83, 84, 85, 86, 87, 88, 89, 90, 32, 36, 37, 42, 43, 45, 46, 47, 58]
/-- The sign of a number. -/
def sg45 (n : Int) : Int := S45.getD n.toNat 0
def dgGo (c : Int) : List Int → Int → Int
  | [], _ => -1
  | x :: l, k => if x = c then k else dgGo c l (k + 1)
/-- The number of a sign; -1, if it is none. -/
def dg45 (c : Int) : Int := dgGo c S45 0
def fortyPut : List Int → List Int
  | [] => []
  | [x] => [sg45 (x % 45), sg45 (x / 45)]
  | x :: y :: t => sg45 ((256 * x + y) % 45) :: sg45 ((256 * x + y) / 45 % 45) :: sg45 ((256 * x + y) / 45 / 45) :: fortyPut t
def bad3 (a b c : Int) : Bool := decide (dg45 a < 0) || decide (dg45 b < 0) || decide (dg45 c < 0)
def bad2 (a b : Int) : Bool := decide (dg45 a < 0) || decide (dg45 b < 0)
def n3 (a b c : Int) : Int := dg45 a + 45 * dg45 b + 2025 * dg45 c
def n2 (a b : Int) : Int := dg45 a + 45 * dg45 b
def fortyGo : List Int → List Int → List Int × Int
  | [], acc => (acc, 0)
  | [_], _ => ([], 14)
  | [a, b], acc => if bad2 a b then ([], 7) else if 255 < n2 a b then ([], 23) else (acc ++ [n2 a b], 0)
  | a :: b :: c :: t, acc => if bad3 a b c then ([], 7) else if 65535 < n3 a b c then ([], 23) else fortyGo t (acc ++ [n3 a b c / 256, n3 a b c % 256])
def fortyGet (s : List Int) : List Int × Int := if s.length % 3 = 1 then ([], 14) else fortyGo s []

theorem sg_dg : ∀ n : Fin 45, dg45 (sg45 (n.val : Int)) = (n.val : Int) := by decide
theorem sg_dg' {n : Int} (h0 : 0 ≤ n) (h : n < 45) : dg45 (sg45 n) = n := by
  have := sg_dg ⟨n.toNat, by omega⟩
  simpa [show ((n.toNat : Nat) : Int) = n by omega] using this
theorem dgGo_sg : ∀ (l : List Int) (c k : Int), 0 ≤ k → dgGo c l k < 0 ∨ (k ≤ dgGo c l k ∧ dgGo c l k < k + l.length ∧ l.getD (dgGo c l k - k).toNat 0 = c)
  | [], c, k, h => .inl (by simp [dgGo])
  | x :: l, c, k, h => by
    unfold dgGo
    by_cases e : x = c
    · rw [if_pos e]; right; refine ⟨by omega, by simp; omega, by simp [e]⟩
    · rw [if_neg e]
      rcases dgGo_sg l c (k + 1) (by omega) with h | ⟨h1, h2, h3⟩
      · exact .inl h
      · right
        refine ⟨by omega, by simp; omega, ?_⟩
        obtain ⟨m, hm⟩ : ∃ m : Nat, dgGo c l (k + 1) - (k + 1) = m := ⟨(dgGo c l (k + 1) - (k + 1)).toNat, by omega⟩
        have e2 : (dgGo c l (k + 1) - k).toNat = m + 1 := by omega
        rw [e2, List.getD_cons_succ, ← h3, hm]; simp
theorem dg_sg {c : Int} (h : ¬ dg45 c < 0) : sg45 (dg45 c) = c ∧ 0 ≤ dg45 c ∧ dg45 c < 45 := by
  rcases dgGo_sg S45 c 0 (by omega) with h' | ⟨h1, h2, h3⟩
  · exact absurd h' h
  · refine ⟨?_, h1, ?_⟩
    · unfold sg45; unfold dg45; simpa using h3
    · have : S45.length = 45 := by decide
      unfold dg45; omega
theorem dg_le (c : Int) : dg45 c < 45 := by
  by_cases h : dg45 c < 0
  · omega
  · exact (dg_sg h).2.2
theorem sg_byte (n : Int) : 0 ≤ sg45 n ∧ sg45 n < 256 := by
  unfold sg45
  have h : ∀ x ∈ S45, 0 ≤ x ∧ x < 256 := by decide
  rw [List.getD_eq_getElem?_getD]
  cases e : S45[n.toNat]? with
  | none => simp
  | some x => simpa using h x (List.mem_of_getElem? e)

theorem fortyPut_byte : ∀ (l : List Int), ∀ x ∈ fortyPut l, 0 ≤ x ∧ x < 256
  | [], x, h => by simp [fortyPut] at h
  | [y], x, h => by simp [fortyPut] at h; rcases h with rfl | rfl <;> exact sg_byte _
  | y :: z :: t, x, h => by
    simp only [fortyPut, List.mem_cons] at h
    rcases h with rfl | rfl | rfl | h
    · exact sg_byte _
    · exact sg_byte _
    · exact sg_byte _
    · exact fortyPut_byte t x h
theorem fortyPut_len : ∀ (l : List Int), (fortyPut l).length = l.length + (l.length + 1) / 2
  | [] => by simp [fortyPut]
  | [y] => by simp [fortyPut]
  | y :: z :: t => by simp only [fortyPut, List.length_cons, fortyPut_len t]; omega
theorem n3_of {x y : Int} (hx : 0 ≤ x ∧ x < 256) (hy : 0 ≤ y ∧ y < 256) : bad3 (sg45 ((256 * x + y) % 45)) (sg45 ((256 * x + y) / 45 % 45)) (sg45 ((256 * x + y) / 45 / 45)) = false ∧ n3 (sg45 ((256 * x + y) % 45)) (sg45 ((256 * x + y) / 45 % 45)) (sg45 ((256 * x + y) / 45 / 45)) = 256 * x + y := by
  have e1 := sg_dg' (n := (256 * x + y) % 45) (by omega) (by omega)
  have e2 := sg_dg' (n := (256 * x + y) / 45 % 45) (by omega) (by omega)
  have e3 := sg_dg' (n := (256 * x + y) / 45 / 45) (by omega) (by omega)
  unfold bad3 n3
  rw [e1, e2, e3]
  refine ⟨?_, by omega⟩
  simp only [Bool.or_eq_false_iff, decide_eq_false_iff_not]
  omega
theorem n2_of {x : Int} (hx : 0 ≤ x ∧ x < 256) : bad2 (sg45 (x % 45)) (sg45 (x / 45)) = false ∧ n2 (sg45 (x % 45)) (sg45 (x / 45)) = x := by
  have e1 := sg_dg' (n := x % 45) (by omega) (by omega)
  have e2 := sg_dg' (n := x / 45) (by omega) (by omega)
  unfold bad2 n2
  rw [e1, e2]
  refine ⟨?_, by omega⟩
  simp only [Bool.or_eq_false_iff, decide_eq_false_iff_not]
  omega
theorem fortyGo_put : ∀ (l acc : List Int), (∀ x ∈ l, 0 ≤ x ∧ x < 256) → fortyGo (fortyPut l) acc = (acc ++ l, 0)
  | [], acc, h => by simp [fortyPut, fortyGo]
  | [x], acc, h => by
    obtain ⟨e1, e2⟩ := n2_of (h x (by simp))
    have hx := h x (by simp)
    simp only [fortyPut, fortyGo]
    rw [e1, e2]
    simp; omega
  | x :: y :: t, acc, h => by
    have hx := h x (by simp)
    have hy := h y (by simp)
    obtain ⟨e1, e2⟩ := n3_of hx hy
    have ih := fortyGo_put t (acc ++ [x, y]) (fun z hz => h z (by simp [hz]))
    simp only [fortyPut, fortyGo]
    rw [e1, e2]
    have d1 : (256 * x + y) / 256 = x := by omega
    have d2 : (256 * x + y) % 256 = y := by omega
    rw [d1, d2, ih, if_neg (by simp), if_neg (by omega)]
    simp
/-- What was put is got again. -/
theorem fortyGet_put {l : List Int} (h : ∀ x ∈ l, 0 ≤ x ∧ x < 256) : fortyGet (fortyPut l) = (l, 0) := by
  unfold fortyGet
  rw [if_neg (by rw [fortyPut_len]; omega), fortyGo_put l [] h]
  simp
theorem fortyGo_ok : ∀ (s acc l : List Int), fortyGo s acc = (l, 0) → ∃ m, l = acc ++ m ∧ fortyPut m = s ∧ (∀ x ∈ m, 0 ≤ x ∧ x < 256)
  | [], acc, l, h => by simp [fortyGo] at h; exact ⟨[], by simp [h], rfl, by simp⟩
  | [_], acc, l, h => by simp [fortyGo] at h
  | [a, b], acc, l, h => by
    simp only [fortyGo] at h
    cases hb : bad2 a b with
    | true => rw [hb] at h; simp at h
    | false =>
      rw [hb] at h
      by_cases h2 : 255 < n2 a b
      · simp [h2] at h
      · simp [h2] at h
        unfold bad2 at hb
        simp only [Bool.or_eq_false_iff, decide_eq_false_iff_not] at hb
        obtain ⟨a1, a2, a3⟩ := dg_sg hb.1
        obtain ⟨b1, b2, b3⟩ := dg_sg hb.2
        refine ⟨[n2 a b], h.symm, ?_, ?_⟩
        · unfold n2
          simp only [fortyPut]
          rw [show (dg45 a + 45 * dg45 b) % 45 = dg45 a by omega, show (dg45 a + 45 * dg45 b) / 45 = dg45 b by omega, a1, b1]
        · intro x hx; simp at hx; subst hx; unfold n2 at *; omega
  | a :: b :: c :: t, acc, l, h => by
    simp only [fortyGo] at h
    cases hb : bad3 a b c with
    | true => rw [hb] at h; simp at h
    | false =>
      rw [hb] at h
      by_cases h2 : 65535 < n3 a b c
      · simp [h2] at h
      · simp only [Bool.false_eq_true, if_false, h2] at h
        obtain ⟨m, hm, hp, hq⟩ := fortyGo_ok t _ l h
        unfold bad3 at hb
        simp only [Bool.or_eq_false_iff, decide_eq_false_iff_not] at hb
        obtain ⟨a1, a2, a3⟩ := dg_sg hb.1.1
        obtain ⟨b1, b2, b3⟩ := dg_sg hb.1.2
        obtain ⟨c1, c2, c3⟩ := dg_sg hb.2
        have n0 : 0 ≤ n3 a b c := by unfold n3; omega
        refine ⟨n3 a b c / 256 :: n3 a b c % 256 :: m, by simp [hm], ?_, ?_⟩
        · simp only [fortyPut]
          have e : 256 * (n3 a b c / 256) + n3 a b c % 256 = n3 a b c := by omega
          rw [e, hp]
          unfold n3
          rw [show (dg45 a + 45 * dg45 b + 2025 * dg45 c) % 45 = dg45 a by omega, show (dg45 a + 45 * dg45 b + 2025 * dg45 c) / 45 % 45 = dg45 b by omega, show (dg45 a + 45 * dg45 b + 2025 * dg45 c) / 45 / 45 = dg45 c by omega, a1, b1, c1]
        · intro x hx
          simp only [List.mem_cons] at hx
          rcases hx with rfl | rfl | hx
          · omega
          · omega
          · exact hq x hx
/-- What was got is put as it was, and is of bytes. -/
theorem fortyPut_get {s l : List Int} (h : fortyGet s = (l, 0)) : fortyPut l = s ∧ ∀ x ∈ l, 0 ≤ x ∧ x < 256 := by
  unfold fortyGet at h
  split at h
  · simp at h
  · obtain ⟨m, hm, hp, hq⟩ := fortyGo_ok s [] l h
    simp at hm
    subst hm
    exact ⟨hp, hq⟩
theorem fortyGo_fail : ∀ (s acc : List Int), (fortyGo s acc).2 ≠ 0 → (fortyGo s acc).1 = []
  | [], acc, h => by simp [fortyGo] at h
  | [_], acc, h => by simp [fortyGo]
  | [a, b], acc, h => by
    simp only [fortyGo] at h ⊢
    split
    · rfl
    · split
      · rfl
      · rename_i h1 h2; simp [h1, h2] at h
  | a :: b :: c :: t, acc, h => by
    simp only [fortyGo] at h ⊢
    split
    · rfl
    · split
      · rfl
      · rename_i h1 h2; rw [if_neg h1, if_neg h2] at h; exact fortyGo_fail t _ h
theorem fortyGet_fail {s : List Int} (h : (fortyGet s).2 ≠ 0) : (fortyGet s).1 = [] := by
  unfold fortyGet at h ⊢
  split
  · rfl
  · rename_i h1; rw [if_neg h1] at h; exact fortyGo_fail s [] h
end Go.Proofs.Ytiogogbkgekkdaa

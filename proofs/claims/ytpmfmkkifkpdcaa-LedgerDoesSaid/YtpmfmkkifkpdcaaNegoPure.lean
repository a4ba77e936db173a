/- Versions that two devices know: the plain laws, over lists of numbers alone. -/
import Derived.Test.YtpmfmkkifkpdcaaFits
namespace Go.Proofs.Ytpmfmkkifkpdcaa
set_option linter.unusedVariables false
set_option maxRecDepth 100000
set_option linter.unusedSimpArgs false

/-- Is a number in a list? -/
def hasB (l : List Int) (v : Int) : Bool := l.contains v
theorem hasB_cons (x v : Int) (l : List Int) : hasB (x :: l) v = (v == x || hasB l v) := by unfold hasB; rw [List.contains_cons]
theorem hasB_nil (v : Int) : hasB [] v = false := rfl
/-- Does a list rise, from 1 to 3, all above what came before? -/
def riseGo : Int → List Int → Bool
  | _, [] => true
  | p, x :: l => if x < 1 ∨ 3 < x ∨ x ≤ p then false else riseGo x l
def isB (l : List Int) : Bool := riseGo 0 l
theorem riseGo_cons (p x : Int) (l : List Int) : riseGo p (x :: l) = if x < 1 ∨ 3 < x ∨ x ≤ p then false else riseGo x l := rfl
def shapes : List (List Int) := [[], [1], [2], [3], [1, 2], [1, 3], [2, 3], [1, 2, 3]]
theorem rise3 {l : List Int} (h : riseGo 3 l = true) : l = [] := by
  cases l with
  | nil => rfl
  | cons x l => rw [riseGo_cons] at h; split at h <;> (try omega); simp at h
theorem rise2 {l : List Int} (h : riseGo 2 l = true) : l = [] ∨ l = [3] := by
  cases l with
  | nil => exact .inl rfl
  | cons x l =>
    rw [riseGo_cons] at h
    split at h
    · simp at h
    · obtain rfl : x = 3 := by omega
      rw [rise3 h]; exact .inr rfl
theorem rise1 {l : List Int} (h : riseGo 1 l = true) : l = [] ∨ l = [2] ∨ l = [3] ∨ l = [2, 3] := by
  cases l with
  | nil => exact .inl rfl
  | cons x l =>
    rw [riseGo_cons] at h
    split at h
    · simp at h
    · rcases (show x = 2 ∨ x = 3 by omega) with rfl | rfl
      · rcases rise2 h with rfl | rfl <;> simp
      · rw [rise3 h]; simp
theorem isB_shapes {l : List Int} (h : isB l = true) : l ∈ shapes := by
  unfold isB at h
  cases l with
  | nil => simp [shapes]
  | cons x l =>
    rw [riseGo_cons] at h
    split at h
    · simp at h
    · rcases (show x = 1 ∨ x = 2 ∨ x = 3 by omega) with rfl | rfl | rfl
      · rcases rise1 h with rfl | rfl | rfl | rfl <;> simp [shapes]
      · rcases rise2 h with rfl | rfl <;> simp [shapes]
      · rw [rise3 h]; simp [shapes]
theorem isB_len {l : List Int} (h : isB l = true) : l.length ≤ 3 := by
  have : ∀ l ∈ shapes, l.length ≤ 3 := by decide
  exact this l (isB_shapes h)

/-- The versions that two lists have in common. -/
def comL (a b : List Int) : List Int := if isB a = true ∧ isB b = true then [1, 2, 3].filter (fun v => hasB a v && hasB b v) else []
def comE (a b : List Int) : Int := if isB a = true ∧ isB b = true then 0 else 1
theorem comL_ok {a b : List Int} (h : isB a = true) (k : isB b = true) : comL a b = [1, 2, 3].filter (fun v => hasB a v && hasB b v) := by unfold comL; rw [if_pos ⟨h, k⟩]
theorem comE_ok {a b : List Int} (h : isB a = true) (k : isB b = true) : comE a b = 0 := by unfold comE; rw [if_pos ⟨h, k⟩]
theorem comL_no {a b : List Int} (h : isB a = false ∨ isB b = false) : comL a b = [] := by unfold comL; rw [if_neg (by rintro ⟨x, y⟩; rcases h with h | h <;> simp_all)]
theorem comE_no {a b : List Int} (h : isB a = false ∨ isB b = false) : comE a b = 1 := by unfold comE; rw [if_neg (by rintro ⟨x, y⟩; rcases h with h | h <;> simp_all)]
theorem comL_both {a b : List Int} (h : isB a = true) (k : isB b = true) : comL a b = a.filter (fun v => hasB b v) := by
  rw [comL_ok h k]
  have : ∀ a ∈ shapes, ∀ b ∈ shapes, [1, 2, 3].filter (fun v => hasB a v && hasB b v) = a.filter (fun v => hasB b v) := by decide
  exact this a (isB_shapes h) b (isB_shapes k)
theorem comL_comm (a b : List Int) : comL a b = comL b a := by
  unfold comL
  by_cases h : isB a = true ∧ isB b = true
  · rw [if_pos h, if_pos ⟨h.2, h.1⟩]; congr 1; funext v; exact Bool.and_comm _ _
  · rw [if_neg h, if_neg (fun k => h ⟨k.2, k.1⟩)]
theorem comE_comm (a b : List Int) : comE a b = comE b a := by unfold comE; simp only [and_comm]
theorem comL_len (a b : List Int) : (comL a b).length ≤ 3 := by
  unfold comL; split
  · exact List.length_filter_le _ _
  · simp
def pickV (a b : List Int) : Int := (comL a b).getD ((comL a b).length - 1) 0
def pickE (a b : List Int) : Int := if comE a b ≠ 0 then comE a b else if comL a b = [] then 12 else 0
def forV (T : Bool) (a5 a6 : Int) (a b : List Int) : Int := if T = true ∧ pickE a b = 0 ∧ verN a5 a6 ≤ pickV a b then pickV a b else 0
def forE (T : Bool) (a5 a6 : Int) (a b : List Int) : Int := if T = false then 1 else if pickE a b ≠ 0 then pickE a b else if verN a5 a6 ≤ pickV a b then 0 else 18
theorem pickV_le (a b : List Int) : pickV a b ≤ 3 := by
  unfold pickV
  by_cases h : isB a = true ∧ isB b = true
  · have : ∀ a ∈ shapes, ∀ b ∈ shapes, (([1, 2, 3].filter (fun v => hasB a v && hasB b v)).getD (([1, 2, 3].filter (fun v => hasB a v && hasB b v)).length - 1) 0 : Int) ≤ 3 := by decide
    rw [comL_ok h.1 h.2]; exact this a (isB_shapes h.1) b (isB_shapes h.2)
  · unfold comL; rw [if_neg h]; decide
theorem pickE_comm (a b : List Int) : pickE a b = pickE b a := by unfold pickE; rw [comL_comm, comE_comm]
theorem pickV_comm (a b : List Int) : pickV a b = pickV b a := by unfold pickV; rw [comL_comm]
theorem pickV_zero {a b : List Int} (h : pickE a b ≠ 0) : pickV a b = 0 := by
  unfold pickE at h
  by_cases h2 : comE a b ≠ 0
  · have : ¬ (isB a = true ∧ isB b = true) := fun k => h2 (comE_ok k.1 k.2)
    unfold pickV comL; rw [if_neg this]; rfl
  · rw [if_neg h2] at h
    have : comL a b = [] := by
      by_cases e : comL a b = []
      · exact e
      · rw [if_neg e] at h; exact absurd rfl h
    unfold pickV; rw [this]; rfl
theorem pick_ok {a b : List Int} (h : pickE a b = 0) : isB a = true ∧ isB b = true ∧ comL a b ≠ [] := by
  unfold pickE at h
  by_cases k : isB a = true ∧ isB b = true
  · refine ⟨k.1, k.2, fun e => ?_⟩
    rw [comE_ok k.1 k.2, if_neg (by simp), if_pos e] at h; omega
  · have : comE a b = 1 := by unfold comE; rw [if_neg k]
    rw [this, if_pos (by omega)] at h; omega
theorem isB_com {a b : List Int} : isB (comL a b) = true := by
  by_cases k : isB a = true ∧ isB b = true
  · have : ∀ a ∈ shapes, ∀ b ∈ shapes, isB ([1, 2, 3].filter (fun v => hasB a v && hasB b v)) = true := by decide
    rw [comL_ok k.1 k.2]; exact this a (isB_shapes k.1) b (isB_shapes k.2)
  · unfold comL; rw [if_neg k]; rfl

/-- A list with one version more put in; none: it is there. -/
def moreGo (m : Int) : List Int → List Int → Bool → Option (List Int)
  | [], c, put => some (if put = true then c else c ++ [m])
  | x :: l, c, put => if x = m then none else if m < x ∧ put = false then moreGo m l (c ++ [m] ++ [x]) true else moreGo m l (c ++ [x]) put
theorem moreGo_cons (m x : Int) (l c : List Int) (put : Bool) : moreGo m (x :: l) c put = if x = m then none else if m < x ∧ put = false then moreGo m l (c ++ [m] ++ [x]) true else moreGo m l (c ++ [x]) put := rfl
theorem more_in {a b c : List Int} {m : Int} (h : pickE a b = 0) (hm : moreGo m a [] false = some c) (h1 : 1 ≤ m) (h3 : m ≤ 3) : pickE c b = 0 ∧ pickV a b ≤ pickV c b := by
  obtain ⟨ha, hb, _⟩ := pick_ok h
  have : ∀ a ∈ shapes, ∀ b ∈ shapes, ∀ m ∈ [(1 : Int), 2, 3], pickE a b = 0 → ∀ c ∈ moreGo m a [] false, pickE c b = 0 ∧ pickV a b ≤ pickV c b := by decide
  exact this a (isB_shapes ha) b (isB_shapes hb) m (by simp; omega) h c hm
theorem more_out {a b c : List Int} {m : Int} (h : pickE a b = 0) (hm : moreGo m a [] false = some c) (hx : m < 1 ∨ 3 < m) : pickE c b = 1 := by
  obtain ⟨ha, hb, _⟩ := pick_ok h
  have hs := isB_shapes ha
  have key : isB c = false := by
    simp only [shapes, List.mem_cons, List.not_mem_nil, or_false] at hs
    rcases hx with hx | hx
    · rcases hs with rfl | rfl | rfl | rfl | rfl | rfl | rfl | rfl <;> simp [moreGo, show m < 1 from hx, show m < 2 by omega, show m < 3 by omega, show ¬ 1 = m by omega, show ¬ 2 = m by omega, show ¬ 3 = m by omega] at hm <;> subst hm <;> simp [isB, riseGo, hx]
    · rcases hs with rfl | rfl | rfl | rfl | rfl | rfl | rfl | rfl <;> simp [moreGo, show ¬ m < 1 by omega, show ¬ m < 2 by omega, show ¬ m < 3 by omega, show ¬ 1 = m by omega, show ¬ 2 = m by omega, show ¬ 3 = m by omega] at hm <;> subst hm <;> simp [isB, riseGo, hx]
  unfold pickE
  rw [comE_no (.inl key)]; simp
theorem more_len {m : Int} : ∀ (l c : List Int) (p : Bool) (r : List Int), moreGo m l c p = some r → r.length ≤ c.length + 2 * l.length + 1
  | [], c, p, r, h => by simp only [moreGo, Option.some.injEq] at h; subst h; split <;> simp
  | x :: l, c, p, r, h => by
    rw [moreGo_cons] at h
    split at h
    · cases h
    · split at h
      · have := more_len l _ _ r h; simp at this ⊢; omega
      · have := more_len l _ _ r h; simp at this ⊢; omega
end Go.Proofs.Ytpmfmkkifkpdcaa

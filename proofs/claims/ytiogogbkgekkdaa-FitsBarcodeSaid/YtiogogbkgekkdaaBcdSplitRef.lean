/- Digits, split into numbers: what bcd.Split's reference computes, for all digits and widths. No condition. -/
import Derived.Test.YtiogogbkgekkdaaBcdJoin
import Derived.Test.YtiogogbkgekkdaaNegoHas
namespace Go.Proofs.Ytiogogbkgekkdaa
open Go.RowKit
set_option linter.unusedVariables false
set_option maxRecDepth 100000
set_option linter.unusedSimpArgs false

/-- The widths' sum; none: one is wrong. -/
def sumGo : List Int → Int → Option Int
  | [], s => some s
  | x :: l, s => if x < 0 ∨ 18 < x then none else sumGo l (s + x)
theorem sumGo_cons (x s : Int) (l : List Int) : sumGo (x :: l) s = if x < 0 ∨ 18 < x then none else sumGo l (s + x) := rfl
theorem sumGo_le : ∀ (l : List Int) (s r : Int), sumGo l s = some r → s ≤ r
  | [], s, r, h => by simp only [sumGo, Option.some.injEq] at h; omega
  | x :: l, s, r, h => by
    rw [sumGo_cons] at h
    split at h
    · cases h
    · have := sumGo_le l _ r h; omega
def splitGo : List Int → List Int → List Int → List Int × Int
  | _, [], acc => (acc, 0)
  | l, x :: ws, acc => if (getR (l.take x.toNat)).2 ≠ 0 then ([], (getR (l.take x.toNat)).2) else splitGo (l.drop x.toNat) ws (acc ++ [(getR (l.take x.toNat)).1])
theorem splitGo_cons (l : List Int) (x : Int) (ws acc : List Int) : splitGo l (x :: ws) acc = if (getR (l.take x.toNat)).2 ≠ 0 then ([], (getR (l.take x.toNat)).2) else splitGo (l.drop x.toNat) ws (acc ++ [(getR (l.take x.toNat)).1]) := rfl
def splitR (l ws : List Int) : List Int × Int :=
  if 20 < ws.length then ([], 1) else match sumGo ws 0 with | none => ([], 1) | some s => if s ≠ l.length then ([], 14) else splitGo l ws []
theorem splitR_many {l ws : List Int} (h : 20 < ws.length) : splitR l ws = ([], 1) := by unfold splitR; rw [if_pos h]
theorem splitR_bad {l ws : List Int} (h : ¬ 20 < ws.length) (k : sumGo ws 0 = none) : splitR l ws = ([], 1) := by unfold splitR; rw [if_neg h, k]
theorem splitR_len {l ws : List Int} {s : Int} (h : ¬ 20 < ws.length) (k : sumGo ws 0 = some s) (n : s ≠ l.length) : splitR l ws = ([], 14) := by unfold splitR; rw [if_neg h, k]; simp only [if_pos n]
theorem splitR_go {l ws : List Int} {s : Int} (h : ¬ 20 < ws.length) (k : sumGo ws 0 = some s) (n : s = l.length) : splitR l ws = splitGo l ws [] := by unfold splitR; rw [if_neg h, k]; simp only [n, ne_eq, not_true_eq_false, if_false]

theorem RdI.cut {w : World} {k : IntKind} {A : Option Addr} {l : List Int} {c : Nat} (h : RdI w k A l) (t : Nat) (hc : l.length ≤ c) : RdI w k (if c = t then A else A.map (·.add t)) (l.drop t) := by
  rcases h with rfl | ⟨ad, rfl, hlt, hcell⟩
  · left; simp
  · by_cases ht : l.length ≤ t
    · left; exact List.drop_eq_nil_of_le ht
    · right
      rw [if_neg (by omega)]
      refine ⟨ad.add t, rfl, by rw [add_block]; exact hlt, fun j hj => ?_⟩
      rw [List.length_drop] at hj
      rw [add_add, hcell (t + j) (by omega)]
      congr 2
      rw [List.getD_eq_getElem?_getD, List.getD_eq_getElem?_getD, List.getElem?_drop]
theorem RdI.take {w : World} {k : IntKind} {A : Option Addr} {l : List Int} (h : RdI w k A l) (t : Nat) : RdI w k A (l.take t) := by
  rcases h with rfl | ⟨ad, rfl, hlt, hcell⟩
  · left; simp
  · right
    refine ⟨ad, rfl, hlt, fun j hj => ?_⟩
    rw [List.length_take] at hj
    rw [hcell j (by omega)]
    congr 2
    rw [List.getD_eq_getElem?_getD, List.getD_eq_getElem?_getD, List.getElem?_take, if_pos (by omega)]

theorem RdI.at1 {w : World} {k : IntKind} {ad : Addr} {l : List Int} {j : Nat} {x : Int} (h : RdI w k (some ad) l) (hj : j < l.length) (hx : l.getD j 0 = x) : w.cell? (ad.add j) = some (.int k x) := by
  obtain ⟨ad', e, hc⟩ := h.at_ hj
  obtain rfl := Option.some.inj e
  rw [hc, hx]
theorem bcdGet_len (A : Option Addr) (c n : Nat) (l : List Int) (w : World) (hn : l.length = n) (hr : RdI w .u8 A l) (hb : ∀ x ∈ l, 0 ≤ x ∧ x < 256) :
    Calls Try.prog 162 #[.slice A n c] w fun e w' => e = .returned (.tuple #[.int .i64 (getR l).1, .int .i64 (getR l).2]) ∧ w = w' := by subst hn; exact bcdGet_any A c l w hr hb

end Go.Proofs.Ytiogogbkgekkdaa

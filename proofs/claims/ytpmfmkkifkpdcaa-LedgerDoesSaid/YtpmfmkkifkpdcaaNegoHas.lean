/- Is a number in a list: slices.Index, slices.Contains at []int, and the reference's has. No condition. -/
import Derived.Test.YtpmfmkkifkpdcaaNegoIs
namespace Go.Proofs.Ytpmfmkkifkpdcaa
open Go.RowKit
set_option linter.unusedVariables false
set_option maxRecDepth 100000
set_option linter.unusedSimpArgs false

def idxGo (v : Int) : Int → List Int → Int
  | _, [] => -1
  | k, x :: l => if v = x then k else idxGo v (k + 1) l
theorem idxGo_cons (v k x : Int) (l : List Int) : idxGo v k (x :: l) = if v = x then k else idxGo v (k + 1) l := rfl
theorem idx_has (v : Int) : ∀ (l : List Int) (k : Int), 0 ≤ k → decide (0 ≤ idxGo v k l) = hasB l v
  | [], k, h => by simp [idxGo, hasB]
  | x :: l, k, h => by
    rw [idxGo_cons]
    by_cases e : v = x
    · rw [if_pos e, hasB_cons]; simp [e, h]
    · rw [if_neg e, idx_has v l (k + 1) (by omega)]
      rw [hasB_cons, beq_eq_false_iff_ne.mpr e]; simp

/-- What a list of numbers that a call hands back is. -/
def ListRet (r : List Int) (e2 : Option Int) (w : World) (e : Ending) (w' : World) : Prop :=
  ∃ v, e = .returned (match e2 with | none => v | some x => .tuple #[v, .int .i64 x]) ∧ w'.ownsRow w.heap.size 3 1 v r.length (r.map (.int .i64)) ∧ Below w.heap.size w w'

theorem filter_snoc (l : List Int) (b : List Int) {k : Nat} (h : k < l.length) : (l.take (k + 1)).filter (fun v => hasB b v) = (l.take k).filter (fun v => hasB b v) ++ if hasB b (l.getD k 0) = true then [l.getD k 0] else [] := by
  rw [List.take_succ_eq_append_getElem h, List.filter_append]
  have e : l.getD k 0 = l[k] := by simp [h]
  rw [e, List.filter_cons, List.filter_nil]

end Go.Proofs.Ytpmfmkkifkpdcaa

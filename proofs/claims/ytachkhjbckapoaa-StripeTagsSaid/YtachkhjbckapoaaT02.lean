/- Layer 2: SHA-256's constants, by the program. No condition. -/
import Derived.Test.YtachkhjbckapoaaT00
import Derived.Test.YtachkhjbckapoaaT01
namespace Go.Proofs.Ytachkhjbckapoaa
open Go.RowKit
set_option linter.unusedVariables false
set_option maxRecDepth 100000
set_option linter.unusedSimpArgs false

theorem info64 : (Try.prog.info? 167).map (·.size) = some (wv kN).toArray.size := by kernel_rfl
set_option maxHeartbeats 2000000 in
theorem const_any (t : Nat) (w : World) (ht : t < 64) :
    Calls Try.prog 150 #[.int .i64 (t : Int)] w fun e w' => e = .returned (.int .u32 ((kN.getD t 0 : Nat) : Int)) ∧ Below w.heap.size w w' := by
  go_enter Try.func150, Try.ntmps150
  go_wp2_with (first | (refine wpL_build rfl 167 _ rfl (wv kN).toArray (by as_aux_lemma => kernel_rfl) ?_) | (refine wpList_store_row rfl 167 _ _ rfl w.heap.size (wv kN).toArray rfl rfl 167 _ (heap_alloc_new w _) info64 (by as_aux_lemma => kernel_rfl) (all_one (wv_one _)) ?_; generalize hW1 : World.setRow _ _ _ = w1; have hg1 : w1.heap[w.heap.size]? = some (.cells (wv kN).toArray 167 (0, 0)) := (by rw [← hW1]; exact setRow_heap _ _ _ _ _ _ (heap_alloc_new w _)); have HB := Lib.hid (show Below w.heap.size w w1 from by rw [← hW1]; exact setRow_below (bel1 w _) (Nat.le_refl _)); have hc := row_wv (j := t) hg1 ht; clear hW1 hg1))
  go_ret
  exact ⟨rfl, HB.out⟩
end Go.Proofs.Ytachkhjbckapoaa

/- Layer 17: the next field, by the program's reader. No condition. -/
import Derived.Test.YtachkhjbckapoaaT28
import Derived.Test.YtachkhjbckapoaaT13
import Derived.Test.YtachkhjbckapoaaT20
namespace Go.Proofs.Ytachkhjbckapoaa
open Go.RowKit
set_option linter.unusedVariables false
set_option maxRecDepth 100000
set_option linter.unusedSimpArgs false


/-- A failed step: nothing, and the error. -/
def NextBad (g : Nat) (e1 : Int) (w0 w : World) (e : Ending) (w' : World) : Prop :=
  e = .returned (.tuple #[.agg #[.int .i64 0, .slice none 0 0], .int .i64 e1]) ∧ Below w0.heap.size w0 w'

set_option maxHeartbeats 4000000 in
theorem next_short (g : Nat) (A : Option Addr) (c : Nat) (q : List Int) (last : Int) (w0 w : World) (hg : w.heap[g]? = some (.cells #[.slice A q.length c, .int .i64 last] 141 (0, 0))) (hb0 : Below w0.heap.size w0 w) (hq : q.length < 2) :
    Calls Try.prog 122 #[.pointer (some ⟨g, 0, none⟩)] w (NextBad g 14 w0 w) := by
  have hd : (q.length : Int) < 2 := by omega
  have c0 := cell_of_row w g 0 _ _ _ hg
  have c1 := cell_of_row w g 1 _ _ _ hg
  have hlt : g < w.heap.size := (Array.getElem?_eq_some_iff.1 hg).1
  go_enter Try.func122, Try.ntmps122
  go_wp2
  exact bodyPost_ret (results_keyrow rfl Try.underlying67 rfl rfl rfl (heap_alloc_new w _) infoF) rfl ⟨rfl, bA hb0 _⟩

set_option maxHeartbeats 4000000 in
theorem next_order (g : Nat) (A : Option Addr) (c : Nat) (a b : Int) (t : List Int) (last : Int) (w0 w : World) (hg : w.heap[g]? = some (.cells #[.slice A (a :: b :: t).length c, .int .i64 last] 141 (0, 0))) (hb0 : Below w0.heap.size w0 w) (hr : RdI w0 .u8 A (a :: b :: t)) (ha : 0 ≤ a ∧ a < 256) (hb : 0 ≤ b ∧ b < 256) (hq : a ≤ last) :
    Calls Try.prog 122 #[.pointer (some ⟨g, 0, none⟩)] w (NextBad g 13 w0 w) := by
  obtain ⟨n, hn⟩ : ∃ n, (a :: b :: t).length = n := ⟨_, rfl⟩
  have hn2 : ¬ (n : Int) < 2 := by simp at hn; omega
  have hn0 : (0 : Int) < (n : Int) := by omega
  have hn1 : (1 : Int) < (n : Int) := by omega
  obtain ⟨ad, rfl, hx0⟩ := (hr.below hb0).at_ (j := 0) (by simp)
  obtain ⟨ad', e', hx1⟩ := (hr.below hb0).at_ (j := 1) (by simp)
  obtain rfl := Option.some.inj e'
  rw [hn] at hg
  have c0 := cell_of_row w g 0 _ _ _ hg
  have c1 := cell_of_row w g 1 _ _ _ hg
  have hlt : g < w.heap.size := (Array.getElem?_eq_some_iff.1 hg).1
  have hx00 := hx0
  rw [add_zero] at hx00
  simp only [List.getD_cons_zero, List.getD_cons_succ] at hx0 hx00 hx1
  have hab : ad.block < w.heap.size := World.block_lt_of_cell? w _ hx00
  have hab1 : ¬ ad.block = w.heap.size := by omega
  have hab2 : ¬ w.heap.size = ad.block := by omega
  have hab3 : ¬ ad.block = w.heap.size + 1 := by omega
  have hx11 := hx1
  rw [show ad.add 1 = ⟨ad.block, ad.off + 1, none⟩ from by simp [Addr.add]] at hx11
  have hg1 : ¬ g = w.heap.size := by omega
  have hg2 : ¬ g = w.heap.size + 1 := by omega
  have HG := Lib.hid hg
  have HN := Lib.hid hn
  clear hg hn hr
  have hS1 : ((w.alloc (.cells #[.int .i64 0, .slice none 0 0] 67)).alloc (.cells #[.int .i64 a, .slice none 0 0] 67)).drew.cell? ⟨w.heap.size + 1, 0, none⟩ = some (.int .i64 a) := by
    have h := heap_alloc_new (w.alloc (.cells #[.int .i64 0, .slice none 0 0] 67)) (.cells #[.int .i64 a, .slice none 0 0] 67)
    rw [World.size_alloc] at h
    exact cell_of_row _ _ 0 _ _ _ h
  have hS2 : ((w.alloc (.cells #[.int .i64 0, .slice none 0 0] 67)).alloc (.cells #[.int .i64 a, .slice none 0 0] 67)).drew.cell? ⟨g, 1, none⟩ = some (.int .i64 last) :=
    keep_cell (bD (bA (bel1 w _) _)) c1
  go_enter Try.func122, Try.ntmps122
  go_wp2
  go_region_held3 (fun w9 => w9.cell? ⟨w.heap.size + 1, 0, none⟩ = some (.int .i64 a) ∧ w9.cell? ⟨g, 1, none⟩ = some (.int .i64 last)) (exact ⟨hS1, hS2⟩) (fail)
  all_goals
    go_wp2
    exact bodyPost_ret (results_keyrow rfl Try.underlying67 rfl rfl rfl (show ((w.alloc (.cells #[.int .i64 0, .slice none 0 0] 67)).alloc (.cells #[.int .i64 a, .slice none 0 0] 67)).heap[w.heap.size]? = _ from heap_alloc2_old w _ _) infoF) rfl ⟨rfl, bD (bA (bA hb0 _) _)⟩
set_option maxHeartbeats 4000000 in
theorem next_long (g : Nat) (A : Option Addr) (c : Nat) (a b : Int) (t : List Int) (last : Int) (w0 w : World) (hg : w.heap[g]? = some (.cells #[.slice A (a :: b :: t).length c, .int .i64 last] 141 (0, 0))) (hb0 : Below w0.heap.size w0 w) (hr : RdI w0 .u8 A (a :: b :: t)) (ha : 0 ≤ a ∧ a < 256) (hb : 0 ≤ b ∧ b < 256) (hq : ¬ a ≤ last) (hlong : t.length < b.toNat) :
    Calls Try.prog 122 #[.pointer (some ⟨g, 0, none⟩)] w (NextBad g 14 w0 w) := by
  obtain ⟨n, hn⟩ : ∃ n, (a :: b :: t).length = n := ⟨_, rfl⟩
  have hn2 : ¬ (n : Int) < 2 := by simp at hn; omega
  have hn0 : (0 : Int) < (n : Int) := by omega
  have hn1 : (1 : Int) < (n : Int) := by omega
  obtain ⟨ad, rfl, hx0⟩ := (hr.below hb0).at_ (j := 0) (by simp)
  obtain ⟨ad', e', hx1⟩ := (hr.below hb0).at_ (j := 1) (by simp)
  obtain rfl := Option.some.inj e'
  rw [hn] at hg
  have c0 := cell_of_row w g 0 _ _ _ hg
  have c1 := cell_of_row w g 1 _ _ _ hg
  have hlt : g < w.heap.size := (Array.getElem?_eq_some_iff.1 hg).1
  have hx00 := hx0
  rw [add_zero] at hx00
  simp only [List.getD_cons_zero, List.getD_cons_succ] at hx0 hx00 hx1
  have hab : ad.block < w.heap.size := World.block_lt_of_cell? w _ hx00
  have hab1 : ¬ ad.block = w.heap.size := by omega
  have hab2 : ¬ w.heap.size = ad.block := by omega
  have hab3 : ¬ ad.block = w.heap.size + 1 := by omega
  have hx11 := hx1
  rw [show ad.add 1 = ⟨ad.block, ad.off + 1, none⟩ from by simp [Addr.add]] at hx11
  have hg1 : ¬ g = w.heap.size := by omega
  have hg2 : ¬ g = w.heap.size + 1 := by omega
  have hd : (n : Int) < 2 + b := by simp at hn; omega
  have HG := Lib.hid hg
  have HN := Lib.hid hn
  clear hg hn hr
  have hS1 : ((w.alloc (.cells #[.int .i64 0, .slice none 0 0] 67)).alloc (.cells #[.int .i64 a, .slice none 0 0] 67)).drew.cell? ⟨w.heap.size + 1, 0, none⟩ = some (.int .i64 a) := by
    have h := heap_alloc_new (w.alloc (.cells #[.int .i64 0, .slice none 0 0] 67)) (.cells #[.int .i64 a, .slice none 0 0] 67)
    rw [World.size_alloc] at h
    exact cell_of_row _ _ 0 _ _ _ h
  have hS2 : ((w.alloc (.cells #[.int .i64 0, .slice none 0 0] 67)).alloc (.cells #[.int .i64 a, .slice none 0 0] 67)).drew.cell? ⟨g, 1, none⟩ = some (.int .i64 last) :=
    keep_cell (bD (bA (bel1 w _) _)) c1
  go_enter Try.func122, Try.ntmps122
  go_wp2
  go_region_held3 (fun w9 => w9.cell? ⟨w.heap.size + 1, 0, none⟩ = some (.int .i64 a) ∧ w9.cell? ⟨g, 1, none⟩ = some (.int .i64 last)) (exact ⟨hS1, hS2⟩) (fail)
  all_goals
    go_wp2
    exact bodyPost_ret (results_keyrow rfl Try.underlying67 rfl rfl rfl (show ((w.alloc (.cells #[.int .i64 0, .slice none 0 0] 67)).alloc (.cells #[.int .i64 a, .slice none 0 0] 67)).heap[w.heap.size]? = _ from heap_alloc2_old w _ _) infoF) rfl ⟨rfl, bD (bA (bA hb0 _) _)⟩
end Go.Proofs.Ytachkhjbckapoaa

/- What a stripe says, field by field: what layout's fields computes, for every sheet. Layer 13's small functions: Suits, Widths of the reference, a blank sheet. Layer 13's widths: what layout's widths and Widths compute. No condition. -/
import Derived.Test.YtnbghgenaolfgaaGreatZ00
import Derived.StillTailTactics
import Derived.Deep.RegionLaw
import Derived.Deep.AppendLies
import Derived.Test.YtnbghgenaolfgaaGreatZ04
namespace Go.Proofs.YtnbghgenaolfgaaGreat
open Go.RowKit
set_option linter.unusedVariables false
set_option maxRecDepth 100000
set_option linter.unusedSimpArgs false

theorem infoField : (Tryz.prog.info? 116).map (fun i => (i.zero, i.size, i.bytes)) = some (some (.agg #[.pointer none, .int .i64 0]), 2, 16) := by kernel_rfl

/-- The fields of a kind: place and width. -/
def fl (k : Int) : List (Nat × Int) :=
  [(1, 1), (0, 7), (4, 1), (5, 1), (7, 5), (8, 3), (10, 1)] ++ (if k = 3 then [(2, 1), (3, 1)] else if k = 4 then [(2, 2), (3, 2), (9, 2)] else [(2, 2), (3, 2)]) ++ [(12, 2), (13, 2), (11, 2)]
/-- Their cells, the sheet lying in block b. -/
def flCells (b : Nat) (l : List (Nat × Int)) : List Value := l.flatMap fun x => [.pointer (some ⟨b, x.1, none⟩), .int .i64 x.2]

theorem cells_new (w : World) (l : List Value) (t : TypeId) : ∀ j u, l[j]? = some u → (w.alloc (.cells l.toArray t)).cell? ((⟨w.heap.size, 0, none⟩ : Addr).add j) = some u := by
  intro j u hj
  have e : (⟨w.heap.size, 0, none⟩ : Addr).add j = ⟨w.heap.size, j, none⟩ := by
    unfold Addr.add; by_cases h : j = 0 <;> simp [h]
  rw [e, cell_of_row _ w.heap.size j _ t (0, 0) (heap_alloc_new w _)]
  simpa using hj
theorem cells_newd (w : World) (l : List Value) (t : TypeId) : ∀ j u, l[j]? = some u → ((w.alloc (.cells l.toArray t)).drew).cell? ((⟨w.heap.size, 0, none⟩ : Addr).add j) = some u := cells_new w l t
theorem own_ad {w : World} {base e n size : Nat} {v : Value} {cs : List Value} {o : Obj} (h : w.ownsRow base e size v n cs) : ((w.alloc o).drew).ownsRow base e size v n cs := h.alloc o
theorem own_sl {w : World} {base e n size : Nat} {v : Value} {cs : List Value} (h : w.ownsRow base e size v n cs) : ∃ A c, v = .slice A n c ∧ n ≤ c ∧ c ≤ maxLen := by
  rcases h.2 with ⟨rfl, rfl⟩ | ⟨g, cap, cur, rfl, _, _, h1, h2, _⟩
  · exact ⟨none, 0, rfl, Nat.le_refl _, by simp [maxLen]⟩
  · exact ⟨_, cap, rfl, h1, h2⟩

set_option maxHeartbeats 2000000 in
set_option maxRecDepth 100000 in
theorem fields3 (b : Nat) (w : World) (hc : w.cell? ⟨b, 1, none⟩ = some (.int .i64 3)) :
    Calls Tryz.prog 89 #[.pointer (some ⟨b, 0, none⟩)] w fun e w' => ∃ v, e = .returned v ∧ w'.ownsRow w.heap.size 116 2 v (fl 3).length (flCells b (fl 3)) ∧ Below w.heap.size w w' := by
  have hb : b < w.heap.size := World.block_lt_of_cell? w ⟨b, 1, none⟩ hc
  have hbne : (b = w.heap.size) = False := by simp; omega
  obtain ⟨i0, hi, hz0, hz1, hz2⟩ := info_parts infoField
  go_enter Tryz.func89, Tryz.ntmps89
  go_wp2
  go_still_tail 28, (by kernel_rfl)
  go_wp2
  generalize hW1 : (w.alloc (Obj.cells #[.pointer (some ⟨b, 1, none⟩), .int .i64 1, .pointer (some ⟨b, 0, none⟩), .int .i64 7, .pointer (some ⟨b, 4, none⟩), .int .i64 1, .pointer (some ⟨b, 5, none⟩), .int .i64 1, .pointer (some ⟨b, 7, none⟩), .int .i64 5, .pointer (some ⟨b, 8, none⟩), .int .i64 3, .pointer (some ⟨b, 10, none⟩), .int .i64 1] 116)).drew = w1
  have ho1 : w1.ownsRow w.heap.size 116 2 (.slice (some ⟨w.heap.size, 0, none⟩) 7 7) 7 [.pointer (some ⟨b, 1, none⟩), .int .i64 1, .pointer (some ⟨b, 0, none⟩), .int .i64 7, .pointer (some ⟨b, 4, none⟩), .int .i64 1, .pointer (some ⟨b, 5, none⟩), .int .i64 1, .pointer (some ⟨b, 7, none⟩), .int .i64 5, .pointer (some ⟨b, 8, none⟩), .int .i64 3, .pointer (some ⟨b, 10, none⟩), .int .i64 1] := by rw [← hW1]; exact World.ownsRow_lit w #[.pointer (some ⟨b, 1, none⟩), .int .i64 1, .pointer (some ⟨b, 0, none⟩), .int .i64 7, .pointer (some ⟨b, 4, none⟩), .int .i64 1, .pointer (some ⟨b, 5, none⟩), .int .i64 1, .pointer (some ⟨b, 7, none⟩), .int .i64 5, .pointer (some ⟨b, 8, none⟩), .int .i64 3, .pointer (some ⟨b, 10, none⟩), .int .i64 1] 7 (Nat.le_refl _) (maxLen_ge (by omega)) rfl
  have hb1 : Below w.heap.size w w1 := by rw [← hW1]; exact (by repeat (first | (with_reducible exact bR _) | (with_reducible refine bT ?_ (by assumption)) | (with_reducible apply bA) | (with_reducible apply bD) | (with_reducible apply bN) | (with_reducible refine bS ?_ (by first | omega | (simp; done) | (simp; omega)))))
  have hz1' := hb1.size
  clear hW1
  go_region_law (refine step_append_lies _ rfl _ _ 112 rfl w.heap.size 116 i0 (.agg #[.pointer none, .int .i64 0]) 2 16 Tryz.underlying112 hi hz0 hz1 hz2 rfl (by decide) _ 7 _ rfl (own_ad ho1) _ _ _ [.pointer (some ⟨b, 2, none⟩), .int .i64 1, .pointer (some ⟨b, 3, none⟩), .int .i64 1] rfl rfl (cells_newd _ _ _) ?_ (by decide) ?_ ?_ ?_ _ rfl ?_; (focus (simp [Value.oneCell'])); (focus (exact maxLen_ge (by omega))); (focus omega); (focus (simp; omega)); intro g2 c2 w2 ho2 hg2 _ _)
  have hb2 := bG (bD (bA hb1 _)) hg2 (own_ge ho1)
  have hz2' := hb2.size
  have HG2 := Lib.hid (own_ge ho2)
  have HO2 := Lib.hid ho2
  clear hg2 ho2 ho1
  go_wp2
  have ho2 := HO2.out
  go_region_law (refine step_append_lies _ rfl _ _ 112 rfl w.heap.size 116 i0 (.agg #[.pointer none, .int .i64 0]) 2 16 Tryz.underlying112 hi hz0 hz1 hz2 rfl (by decide) _ 9 _ rfl (own_ad ho2) _ _ _ [.pointer (some ⟨b, 12, none⟩), .int .i64 2, .pointer (some ⟨b, 13, none⟩), .int .i64 2, .pointer (some ⟨b, 11, none⟩), .int .i64 2] rfl rfl (cells_newd _ _ _) ?_ (by decide) ?_ ?_ ?_ _ rfl ?_; (focus (simp [Value.oneCell'])); (focus (exact maxLen_ge (by omega))); (focus omega); (focus (simp; omega)); intro g3 c3 w3 ho3 hg3 _ _)
  have hb3 := bG (bD (bA hb2 _)) hg3 HG2.out
  have HO3 := Lib.hid ho3
  clear hg3 ho3 ho2 HO2
  go_wp2
  go_ret
  exact ⟨.slice (some ⟨g3, 0, none⟩) 12 c3, rfl, by have h := HO3.out; simpa [fl, flCells] using h, hb3⟩

set_option maxHeartbeats 2000000 in
set_option maxRecDepth 100000 in
theorem fields4 (b : Nat) (w : World) (hc : w.cell? ⟨b, 1, none⟩ = some (.int .i64 4)) :
    Calls Tryz.prog 89 #[.pointer (some ⟨b, 0, none⟩)] w fun e w' => ∃ v, e = .returned v ∧ w'.ownsRow w.heap.size 116 2 v (fl 4).length (flCells b (fl 4)) ∧ Below w.heap.size w w' := by
  have hb : b < w.heap.size := World.block_lt_of_cell? w ⟨b, 1, none⟩ hc
  have hbne : (b = w.heap.size) = False := by simp; omega
  obtain ⟨i0, hi, hz0, hz1, hz2⟩ := info_parts infoField
  go_enter Tryz.func89, Tryz.ntmps89
  go_wp2
  go_still_tail 28, (by kernel_rfl)
  go_wp2
  generalize hW1 : (w.alloc (Obj.cells #[.pointer (some ⟨b, 1, none⟩), .int .i64 1, .pointer (some ⟨b, 0, none⟩), .int .i64 7, .pointer (some ⟨b, 4, none⟩), .int .i64 1, .pointer (some ⟨b, 5, none⟩), .int .i64 1, .pointer (some ⟨b, 7, none⟩), .int .i64 5, .pointer (some ⟨b, 8, none⟩), .int .i64 3, .pointer (some ⟨b, 10, none⟩), .int .i64 1] 116)).drew = w1
  have ho1 : w1.ownsRow w.heap.size 116 2 (.slice (some ⟨w.heap.size, 0, none⟩) 7 7) 7 [.pointer (some ⟨b, 1, none⟩), .int .i64 1, .pointer (some ⟨b, 0, none⟩), .int .i64 7, .pointer (some ⟨b, 4, none⟩), .int .i64 1, .pointer (some ⟨b, 5, none⟩), .int .i64 1, .pointer (some ⟨b, 7, none⟩), .int .i64 5, .pointer (some ⟨b, 8, none⟩), .int .i64 3, .pointer (some ⟨b, 10, none⟩), .int .i64 1] := by rw [← hW1]; exact World.ownsRow_lit w #[.pointer (some ⟨b, 1, none⟩), .int .i64 1, .pointer (some ⟨b, 0, none⟩), .int .i64 7, .pointer (some ⟨b, 4, none⟩), .int .i64 1, .pointer (some ⟨b, 5, none⟩), .int .i64 1, .pointer (some ⟨b, 7, none⟩), .int .i64 5, .pointer (some ⟨b, 8, none⟩), .int .i64 3, .pointer (some ⟨b, 10, none⟩), .int .i64 1] 7 (Nat.le_refl _) (maxLen_ge (by omega)) rfl
  have hb1 : Below w.heap.size w w1 := by rw [← hW1]; exact (by repeat (first | (with_reducible exact bR _) | (with_reducible refine bT ?_ (by assumption)) | (with_reducible apply bA) | (with_reducible apply bD) | (with_reducible apply bN) | (with_reducible refine bS ?_ (by first | omega | (simp; done) | (simp; omega)))))
  have hz1' := hb1.size
  clear hW1
  go_region_law (refine step_append_lies _ rfl _ _ 112 rfl w.heap.size 116 i0 (.agg #[.pointer none, .int .i64 0]) 2 16 Tryz.underlying112 hi hz0 hz1 hz2 rfl (by decide) _ 7 _ rfl (own_ad ho1) _ _ _ [.pointer (some ⟨b, 2, none⟩), .int .i64 2, .pointer (some ⟨b, 3, none⟩), .int .i64 2, .pointer (some ⟨b, 9, none⟩), .int .i64 2] rfl rfl (cells_newd _ _ _) ?_ (by decide) ?_ ?_ ?_ _ rfl ?_; (focus (simp [Value.oneCell'])); (focus (exact maxLen_ge (by omega))); (focus omega); (focus (simp; omega)); intro g2 c2 w2 ho2 hg2 _ _)
  have hb2 := bG (bD (bA hb1 _)) hg2 (own_ge ho1)
  have hz2' := hb2.size
  have HG2 := Lib.hid (own_ge ho2)
  have HO2 := Lib.hid ho2
  clear hg2 ho2 ho1
  go_wp2
  have ho2 := HO2.out
  go_region_law (refine step_append_lies _ rfl _ _ 112 rfl w.heap.size 116 i0 (.agg #[.pointer none, .int .i64 0]) 2 16 Tryz.underlying112 hi hz0 hz1 hz2 rfl (by decide) _ 10 _ rfl (own_ad ho2) _ _ _ [.pointer (some ⟨b, 12, none⟩), .int .i64 2, .pointer (some ⟨b, 13, none⟩), .int .i64 2, .pointer (some ⟨b, 11, none⟩), .int .i64 2] rfl rfl (cells_newd _ _ _) ?_ (by decide) ?_ ?_ ?_ _ rfl ?_; (focus (simp [Value.oneCell'])); (focus (exact maxLen_ge (by omega))); (focus omega); (focus (simp; omega)); intro g3 c3 w3 ho3 hg3 _ _)
  have hb3 := bG (bD (bA hb2 _)) hg3 HG2.out
  have HO3 := Lib.hid ho3
  clear hg3 ho3 ho2 HO2
  go_wp2
  go_ret
  exact ⟨.slice (some ⟨g3, 0, none⟩) 13 c3, rfl, by have h := HO3.out; simpa [fl, flCells] using h, hb3⟩

set_option maxHeartbeats 2000000 in
set_option maxRecDepth 100000 in
theorem fields0 (b : Nat) (k : Int) (h3 : ¬ k = 3) (h4 : ¬ k = 4) (w : World) (hc : w.cell? ⟨b, 1, none⟩ = some (.int .i64 k)) :
    Calls Tryz.prog 89 #[.pointer (some ⟨b, 0, none⟩)] w fun e w' => ∃ v, e = .returned v ∧ w'.ownsRow w.heap.size 116 2 v (fl k).length (flCells b (fl k)) ∧ Below w.heap.size w w' := by
  have hd3 : (k == 3) = false := by simpa using h3
  have hd4 : (k == 4) = false := by simpa using h4
  have hb : b < w.heap.size := World.block_lt_of_cell? w ⟨b, 1, none⟩ hc
  have hbne : (b = w.heap.size) = False := by simp; omega
  obtain ⟨i0, hi, hz0, hz1, hz2⟩ := info_parts infoField
  go_enter Tryz.func89, Tryz.ntmps89
  go_wp2
  go_still_tail 28, (by kernel_rfl)
  go_wp2
  generalize hW1 : (w.alloc (Obj.cells #[.pointer (some ⟨b, 1, none⟩), .int .i64 1, .pointer (some ⟨b, 0, none⟩), .int .i64 7, .pointer (some ⟨b, 4, none⟩), .int .i64 1, .pointer (some ⟨b, 5, none⟩), .int .i64 1, .pointer (some ⟨b, 7, none⟩), .int .i64 5, .pointer (some ⟨b, 8, none⟩), .int .i64 3, .pointer (some ⟨b, 10, none⟩), .int .i64 1] 116)).drew = w1
  have ho1 : w1.ownsRow w.heap.size 116 2 (.slice (some ⟨w.heap.size, 0, none⟩) 7 7) 7 [.pointer (some ⟨b, 1, none⟩), .int .i64 1, .pointer (some ⟨b, 0, none⟩), .int .i64 7, .pointer (some ⟨b, 4, none⟩), .int .i64 1, .pointer (some ⟨b, 5, none⟩), .int .i64 1, .pointer (some ⟨b, 7, none⟩), .int .i64 5, .pointer (some ⟨b, 8, none⟩), .int .i64 3, .pointer (some ⟨b, 10, none⟩), .int .i64 1] := by rw [← hW1]; exact World.ownsRow_lit w #[.pointer (some ⟨b, 1, none⟩), .int .i64 1, .pointer (some ⟨b, 0, none⟩), .int .i64 7, .pointer (some ⟨b, 4, none⟩), .int .i64 1, .pointer (some ⟨b, 5, none⟩), .int .i64 1, .pointer (some ⟨b, 7, none⟩), .int .i64 5, .pointer (some ⟨b, 8, none⟩), .int .i64 3, .pointer (some ⟨b, 10, none⟩), .int .i64 1] 7 (Nat.le_refl _) (maxLen_ge (by omega)) rfl
  have hb1 : Below w.heap.size w w1 := by rw [← hW1]; exact (by repeat (first | (with_reducible exact bR _) | (with_reducible refine bT ?_ (by assumption)) | (with_reducible apply bA) | (with_reducible apply bD) | (with_reducible apply bN) | (with_reducible refine bS ?_ (by first | omega | (simp; done) | (simp; omega)))))
  have hz1' := hb1.size
  clear hW1
  go_region_law (refine step_append_lies _ rfl _ _ 112 rfl w.heap.size 116 i0 (.agg #[.pointer none, .int .i64 0]) 2 16 Tryz.underlying112 hi hz0 hz1 hz2 rfl (by decide) _ 7 _ rfl (own_ad ho1) _ _ _ [.pointer (some ⟨b, 2, none⟩), .int .i64 2, .pointer (some ⟨b, 3, none⟩), .int .i64 2] rfl rfl (cells_newd _ _ _) ?_ (by decide) ?_ ?_ ?_ _ rfl ?_; (focus (simp [Value.oneCell'])); (focus (exact maxLen_ge (by omega))); (focus omega); (focus (simp; omega)); intro g2 c2 w2 ho2 hg2 _ _)
  have hb2 := bG (bD (bA hb1 _)) hg2 (own_ge ho1)
  have hz2' := hb2.size
  have HG2 := Lib.hid (own_ge ho2)
  have HO2 := Lib.hid ho2
  clear hg2 ho2 ho1
  go_wp2
  have ho2 := HO2.out
  go_region_law (refine step_append_lies _ rfl _ _ 112 rfl w.heap.size 116 i0 (.agg #[.pointer none, .int .i64 0]) 2 16 Tryz.underlying112 hi hz0 hz1 hz2 rfl (by decide) _ 9 _ rfl (own_ad ho2) _ _ _ [.pointer (some ⟨b, 12, none⟩), .int .i64 2, .pointer (some ⟨b, 13, none⟩), .int .i64 2, .pointer (some ⟨b, 11, none⟩), .int .i64 2] rfl rfl (cells_newd _ _ _) ?_ (by decide) ?_ ?_ ?_ _ rfl ?_; (focus (simp [Value.oneCell'])); (focus (exact maxLen_ge (by omega))); (focus omega); (focus (simp; omega)); intro g3 c3 w3 ho3 hg3 _ _)
  have hb3 := bG (bD (bA hb2 _)) hg3 HG2.out
  have HO3 := Lib.hid ho3
  clear hg3 ho3 ho2 HO2
  go_wp2
  go_ret
  exact ⟨.slice (some ⟨g3, 0, none⟩) 12 c3, rfl, by have h := HO3.out; simpa [fl, flCells, h3, h4] using h, hb3⟩

set_option maxHeartbeats 2000000 in
set_option maxRecDepth 100000 in
theorem fields_any (b : Nat) (k : Int) (w : World) (hc : w.cell? ⟨b, 1, none⟩ = some (.int .i64 k)) :
    Calls Tryz.prog 89 #[.pointer (some ⟨b, 0, none⟩)] w fun e w' => ∃ v, e = .returned v ∧ w'.ownsRow w.heap.size 116 2 v (fl k).length (flCells b (fl k)) ∧ Below w.heap.size w w' := by
  by_cases h3 : k = 3
  · subst h3; exact fields3 b w hc
  · by_cases h4 : k = 4
    · subst h4; exact fields4 b w hc
    · exact fields0 b k h3 h4 w hc
end Go.Proofs.YtnbghgenaolfgaaGreat

namespace Go.Proofs.YtnbghgenaolfgaaGreat
open Go.RowKit
set_option linter.unusedVariables false
set_option maxRecDepth 100000
set_option linter.unusedSimpArgs false

def suB (u l i : Int) : Bool := decide (0 ≤ l ∧ l ≤ u ∧ 0 ≤ i ∧ i ≤ 40)

set_option maxRecDepth 100000 in
theorem suits_any (a0 a1 a2 a3 a4 a5 a6 a7 a8 a9 a10 l i : Int) (w : World) :
    Calls Tryz.prog 34 #[.agg #[.int .i64 a0, .int .i64 a1, .int .i64 a2, .int .i64 a3, .int .i64 a4, .int .i64 a5, .int .i64 a6, .int .i64 a7, .int .i64 a8, .int .i64 a9, .int .i64 a10], .agg #[.int .i64 l, .int .i64 i]] w fun e w' => e = .returned (.bool (suB a9 l i)) ∧ Below w.heap.size w w' := by
  by_cases hd1 : 0 ≤ l
  rotate_left
  · have E := Lib.hid (show suB a9 l i = false by simp [suB]; omega)
    have d1 : decide (0 ≤ l) = false := by simpa using hd1
    go_enter Tryz.func34, Tryz.ntmps34
    go_wp2
    go_ret
    exact ⟨by rw [E.out] <;> rfl, (by repeat (first | (with_reducible exact bR _) | (with_reducible refine bT ?_ (by assumption)) | (with_reducible apply bA) | (with_reducible apply bD) | (with_reducible apply bN) | (with_reducible refine bS ?_ (by first | omega | (simp; done) | (simp; omega)))))⟩
  have d1 : decide (0 ≤ l) = true := by simpa using hd1
  by_cases hd2 : l ≤ a9
  rotate_left
  · have E := Lib.hid (show suB a9 l i = false by simp [suB]; omega)
    have d2 : decide (l ≤ a9) = false := by simpa using hd2
    go_enter Tryz.func34, Tryz.ntmps34
    go_wp2
    go_ret
    exact ⟨by rw [E.out] <;> rfl, (by repeat (first | (with_reducible exact bR _) | (with_reducible refine bT ?_ (by assumption)) | (with_reducible apply bA) | (with_reducible apply bD) | (with_reducible apply bN) | (with_reducible refine bS ?_ (by first | omega | (simp; done) | (simp; omega)))))⟩
  have d2 : decide (l ≤ a9) = true := by simpa using hd2
  by_cases hd3 : 0 ≤ i
  rotate_left
  · have E := Lib.hid (show suB a9 l i = false by simp [suB]; omega)
    have d3 : decide (0 ≤ i) = false := by simpa using hd3
    go_enter Tryz.func34, Tryz.ntmps34
    go_wp2
    go_ret
    exact ⟨by rw [E.out] <;> rfl, (by repeat (first | (with_reducible exact bR _) | (with_reducible refine bT ?_ (by assumption)) | (with_reducible apply bA) | (with_reducible apply bD) | (with_reducible apply bN) | (with_reducible refine bS ?_ (by first | omega | (simp; done) | (simp; omega)))))⟩
  have d3 : decide (0 ≤ i) = true := by simpa using hd3
  by_cases hd4 : i ≤ 40
  rotate_left
  · have E := Lib.hid (show suB a9 l i = false by simp [suB]; omega)
    have d4 : decide (i ≤ 40) = false := by simpa using hd4
    go_enter Tryz.func34, Tryz.ntmps34
    go_wp2
    go_ret
    exact ⟨by rw [E.out] <;> rfl, (by repeat (first | (with_reducible exact bR _) | (with_reducible refine bT ?_ (by assumption)) | (with_reducible apply bA) | (with_reducible apply bD) | (with_reducible apply bN) | (with_reducible refine bS ?_ (by first | omega | (simp; done) | (simp; omega)))))⟩
  have d4 : decide (i ≤ 40) = true := by simpa using hd4
  have E := Lib.hid (show suB a9 l i = true by simp [suB]; omega)
  go_enter Tryz.func34, Tryz.ntmps34
  go_wp2
  go_ret
  exact ⟨by rw [E.out] <;> rfl, (by repeat (first | (with_reducible exact bR _) | (with_reducible refine bT ?_ (by assumption)) | (with_reducible apply bA) | (with_reducible apply bD) | (with_reducible apply bN) | (with_reducible refine bS ?_ (by first | omega | (simp; done) | (simp; omega)))))⟩

set_option maxRecDepth 100000 in
theorem refSuits_any (a0 a1 a2 a3 a4 a5 a6 a7 a8 a9 a10 l i : Int) (w : World) :
    Calls Tryz.prog 99 #[.agg #[.int .i64 a0, .int .i64 a1, .int .i64 a2, .int .i64 a3, .int .i64 a4, .int .i64 a5, .int .i64 a6, .int .i64 a7, .int .i64 a8, .int .i64 a9, .int .i64 a10], .agg #[.int .i64 l, .int .i64 i]] w fun e w' => e = .returned (.bool (suB a9 l i)) ∧ Below w.heap.size w w' := by
  by_cases hd1 : 0 ≤ l
  rotate_left
  · have E := Lib.hid (show suB a9 l i = false by simp [suB]; omega)
    have d1 : decide (0 ≤ l) = false := by simpa using hd1
    go_enter Tryz.func99, Tryz.ntmps99
    go_wp2
    go_ret
    exact ⟨by rw [E.out] <;> rfl, (by repeat (first | (with_reducible exact bR _) | (with_reducible refine bT ?_ (by assumption)) | (with_reducible apply bA) | (with_reducible apply bD) | (with_reducible apply bN) | (with_reducible refine bS ?_ (by first | omega | (simp; done) | (simp; omega)))))⟩
  have d1 : decide (0 ≤ l) = true := by simpa using hd1
  by_cases hd2 : l ≤ a9
  rotate_left
  · have E := Lib.hid (show suB a9 l i = false by simp [suB]; omega)
    have d2 : decide (l ≤ a9) = false := by simpa using hd2
    go_enter Tryz.func99, Tryz.ntmps99
    go_wp2
    go_ret
    exact ⟨by rw [E.out] <;> rfl, (by repeat (first | (with_reducible exact bR _) | (with_reducible refine bT ?_ (by assumption)) | (with_reducible apply bA) | (with_reducible apply bD) | (with_reducible apply bN) | (with_reducible refine bS ?_ (by first | omega | (simp; done) | (simp; omega)))))⟩
  have d2 : decide (l ≤ a9) = true := by simpa using hd2
  by_cases hd3 : 0 ≤ i
  rotate_left
  · have E := Lib.hid (show suB a9 l i = false by simp [suB]; omega)
    have d3 : decide (0 ≤ i) = false := by simpa using hd3
    go_enter Tryz.func99, Tryz.ntmps99
    go_wp2
    go_ret
    exact ⟨by rw [E.out] <;> rfl, (by repeat (first | (with_reducible exact bR _) | (with_reducible refine bT ?_ (by assumption)) | (with_reducible apply bA) | (with_reducible apply bD) | (with_reducible apply bN) | (with_reducible refine bS ?_ (by first | omega | (simp; done) | (simp; omega)))))⟩
  have d3 : decide (0 ≤ i) = true := by simpa using hd3
  by_cases hd4 : i ≤ 40
  rotate_left
  · have E := Lib.hid (show suB a9 l i = false by simp [suB]; omega)
    have d4 : decide (i ≤ 40) = false := by simpa using hd4
    go_enter Tryz.func99, Tryz.ntmps99
    go_wp2
    go_ret
    exact ⟨by rw [E.out] <;> rfl, (by repeat (first | (with_reducible exact bR _) | (with_reducible refine bT ?_ (by assumption)) | (with_reducible apply bA) | (with_reducible apply bD) | (with_reducible apply bN) | (with_reducible refine bS ?_ (by first | omega | (simp; done) | (simp; omega)))))⟩
  have d4 : decide (i ≤ 40) = true := by simpa using hd4
  have E := Lib.hid (show suB a9 l i = true by simp [suB]; omega)
  go_enter Tryz.func99, Tryz.ntmps99
  go_wp2
  go_ret
  exact ⟨by rw [E.out] <;> rfl, (by repeat (first | (with_reducible exact bR _) | (with_reducible refine bT ?_ (by assumption)) | (with_reducible apply bA) | (with_reducible apply bD) | (with_reducible apply bN) | (with_reducible refine bS ?_ (by first | omega | (simp; done) | (simp; omega)))))⟩

/-- The widths of a kind. -/
def wsL (k : Int) : List Int := if k < 1 ∨ 4 < k then [] else if k = 3 then [1, 7, 1, 1, 5, 3, 1, 1, 1, 2, 2, 2] else if k = 4 then [1, 7, 1, 1, 5, 3, 1, 2, 2, 2, 2, 2, 2] else [1, 7, 1, 1, 5, 3, 1, 2, 2, 2, 2, 2]
def wsE (k : Int) : Int := if k < 1 ∨ 4 < k then 8 else 0

theorem own_litL (w : World) (l : List Int) (e : TypeId) (hl : l.length ≤ maxLen) : (w.alloc (.cells (l.map (Value.int .i64)).toArray e)).ownsRow w.heap.size e 1 (.slice (some ⟨w.heap.size, 0, none⟩) l.length l.length) l.length (l.map (.int .i64)) :=
  World.ownsRow_lit w (l.map (Value.int .i64)).toArray l.length (Nat.le_refl _) hl (by simp)

set_option maxRecDepth 100000 in
theorem refWidths_any (k : Int) (w : World) : Calls Tryz.prog 100 #[.int .i64 k] w (ListRet (wsL k) (some (wsE k)) w) := by
  by_cases h1 : k < 1
  · have E1 := Lib.hid (show wsL k = [] by simp [wsL, h1])
    have E2 := Lib.hid (show wsE k = 8 by simp [wsE, h1])
    have d1 : decide (k < 1) = true := by simpa using h1
    go_enter Tryz.func100, Tryz.ntmps100
    go_wp2
    go_ret2
    exact ⟨_, by rw [E2.out] <;> rfl, by rw [E1.out]; exact World.ownsRow_nil _ _ _ _, (by repeat (first | (with_reducible exact bR _) | (with_reducible refine bT ?_ (by assumption)) | (with_reducible apply bA) | (with_reducible apply bD) | (with_reducible apply bN) | (with_reducible refine bS ?_ (by first | omega | (simp; done) | (simp; omega)))))⟩
  have d1 : decide (k < 1) = false := by simpa using h1
  by_cases h2 : 4 < k
  · have E1 := Lib.hid (show wsL k = [] by simp [wsL, h2])
    have E2 := Lib.hid (show wsE k = 8 by simp [wsE, h2])
    have d2 : decide (4 < k) = true := by simpa using h2
    go_enter Tryz.func100, Tryz.ntmps100
    go_wp2
    go_ret2
    exact ⟨_, by rw [E2.out] <;> rfl, by rw [E1.out]; exact World.ownsRow_nil _ _ _ _, (by repeat (first | (with_reducible exact bR _) | (with_reducible refine bT ?_ (by assumption)) | (with_reducible apply bA) | (with_reducible apply bD) | (with_reducible apply bN) | (with_reducible refine bS ?_ (by first | omega | (simp; done) | (simp; omega)))))⟩
  have hk : k = 1 ∨ k = 2 ∨ k = 3 ∨ k = 4 := by omega
  clear d1
  rcases hk with rfl | rfl | rfl | rfl
  all_goals
    go_enter Tryz.func100, Tryz.ntmps100
    go_wp2
    go_ret2
    exact ⟨_, rfl, own_litL _ _ _ (maxLen_ge (by decide)), bel1 _ _⟩

set_option maxRecDepth 100000 in
theorem blank_any (k : Int) (w : World) (h : 0 ≤ k) (h4 : k ≤ 4) : Calls Tryz.prog 113 #[.int .i64 k] w fun e w' => e = .returned (.pointer (some ⟨w.heap.size, 0, none⟩)) ∧ w' = w.alloc (.cells #[.int .i64 0, .int .i64 k, .int .i64 0, .int .i64 0, .int .i64 0, .int .i64 0, .int .i64 0, .int .i64 0, .int .i64 0, .int .i64 (k % 3), .int .i64 0, .int .i64 0, .int .i64 0, .int .i64 0, .int .i64 0] 111) := by
  have hk : k = 0 ∨ k = 1 ∨ k = 2 ∨ k = 3 ∨ k = 4 := by omega
  rcases hk with rfl | rfl | rfl | rfl | rfl
  all_goals
    go_enter Tryz.func113, Tryz.ntmps113
    go_wp2
    go_ret
    exact ⟨rfl, rfl⟩
end Go.Proofs.YtnbghgenaolfgaaGreat

namespace Go.Proofs.YtnbghgenaolfgaaGreat
open Go.RowKit
set_option linter.unusedVariables false
set_option maxRecDepth 100000
set_option linter.unusedSimpArgs false

theorem fl_cells (b : Nat) : ∀ (l : List (Nat × Int)) (j : Nat), j < l.length → (flCells b l)[j * 2]? = some (.pointer (some ⟨b, (l.getD j (0, 0)).1, none⟩)) ∧ (flCells b l)[j * 2 + 1]? = some (.int .i64 (l.getD j (0, 0)).2)
  | [], j, h => by simp at h
  | x :: l, 0, h => by simp [flCells]
  | x :: l, j + 1, h => by
    have := fl_cells b l j (by simpa using h)
    have e : flCells b (x :: l) = [.pointer (some ⟨b, x.1, none⟩), .int .i64 x.2] ++ flCells b l := rfl
    rw [e]
    have e1 : (j + 1) * 2 = j * 2 + 1 + 1 := by omega
    rw [e1]
    simpa using this
theorem lit1s (w : World) (o : Obj) (k : IntKind) (x : Int) (t : TypeId) : RdI ((w.alloc o).alloc (.cells #[.int k x] t)) k (some ⟨w.heap.size + 1, 0, none⟩) [x] := by
  have h := RdI.lit1 (w.alloc o) k x t
  rwa [World.size_alloc] at h
theorem fl_pos (k : Int) : 0 < (fl k).length := by simp [fl]
theorem fl_le (k : Int) : (fl k).length ≤ 13 := by
  unfold fl
  split
  · simp
  · split <;> simp

set_option maxHeartbeats 2000000 in
set_option maxRecDepth 100000 in
theorem widths_any (b : Nat) (k : Int) (w : World) (hc : w.cell? ⟨b, 1, none⟩ = some (.int .i64 k)) :
    Calls Tryz.prog 91 #[.pointer (some ⟨b, 0, none⟩), .func (.func 89) #[] #[]] w (ListRet ((fl k).map (·.2)) none w) := by
  obtain ⟨i0, hi, hz0, hz1, hz2⟩ := info_parts infoI64
  go_enter Tryz.func91, Tryz.ntmps91
  go_wp2_with fail
  refine (fields_any b k _ hc).mono ?_
  rintro e w2 ⟨v, rfl, ho, hb2⟩
  obtain ⟨g, cap, rfl, hgl⟩ : ∃ g cap, v = .slice (some ⟨g, 0, none⟩) (fl k).length cap ∧ g < w2.heap.size := by
    have hp := fl_pos k
    rcases ho.2 with ⟨_, h0⟩ | ⟨g, cap, cur, rfl, _, hh, _⟩
    · omega
    · exact ⟨g, cap, rfl, (Array.getElem?_eq_some_iff.1 hh).1⟩
  have hcells : ∀ j, j < (fl k).length → w2.cell? ⟨g, j * 2, none⟩ = some (.pointer (some ⟨b, ((fl k).getD j (0, 0)).1, none⟩)) ∧ w2.cell? ⟨g, j * 2 + 1, none⟩ = some (.int .i64 ((fl k).getD j (0, 0)).2) := by
    intro j hj
    obtain ⟨e1, e2⟩ := fl_cells b (fl k) j hj
    exact ⟨(ho.cellAt (j * 2) (by omega)).trans e1, (ho.cellAt (j * 2 + 1) (by omega)).trans e2⟩
  have HL := Lib.hid (fl_le k)
  have HB2 := Lib.hid hb2
  clear ho hb2
  obtain ⟨L, hL⟩ : ∃ L, fl k = L := ⟨_, rfl⟩
  rw [hL] at hcells HL ⊢
  have HLK := Lib.hid hL
  clear hL
  go_wp2
  go_loopw [5, 12] (fun v i wr => ∃ (j : Nat) (acc : List Int), j ≤ L.length ∧ i = .int .i64 j ∧ wr.ownsRow w2.heap.size 3 1 v acc.length (acc.map (.int .i64)) ∧ Hid (acc = (L.take j).map (·.2)) ∧ Below w2.heap.size w2 wr) (fun _ i _ => L.length - (intOf i).toNat)
  case atStart => exact ⟨0, [], Nat.zero_le _, rfl, World.ownsRow_nil _ _ _ _, Lib.hid (by simp), bR _⟩
  case round =>
    obtain ⟨j, acc, hj, rfl, ho, hacc, hbl⟩ := hrel
    by_cases hlt : j < L.length
    · obtain ⟨c1, c2⟩ := hcells j hlt
      have c1' := keep_cell hbl c1
      have c2' := keep_cell hbl c2
      have hj13 : j < 13 := by have := HL.out; omega
      have hal : acc.length ≤ 13 := by rw [hacc.out]; simp; omega
      have hsn := Lib.hid (show acc ++ [(L.getD j (0, 0)).2] = (L.take (j + 1)).map (·.2) by rw [hacc.out, List.take_succ_eq_append_getElem hlt, List.map_append]; congr 1; simp [hlt])
      obtain ⟨⟨o, d⟩, hq⟩ : ∃ q, L.getD j (0, 0) = q := ⟨_, rfl⟩
      rw [hq] at c1' c2' hsn
      have hsz := hbl.size
      have HG := Lib.hid (own_ge ho)
      clear hq c1 c2
      go_wp2_with (at_builtin; refine wpL_app (k := .i64) rfl _ _ 40 rfl w2.heap.size 3 i0 (.int .i64 0) 8 Tryz.underlying40 hi hz0 hz1 hz2 rfl _ acc rfl ((ho.alloc _).alloc _) _ _ [d] rfl (lit1s _ _ _ _ _) ?_ ?_ ?_ ?_; (focus (simp only [List.length_append, List.length_cons, List.length_nil]; exact maxLen_ge (by omega))); (focus (simp only [List.length_append, List.length_cons, List.length_nil]; omega)); (focus (simp; omega)); intro v3 w3 ho3 hg3 _)
      have hb3 := bG (bA (bA hbl _) _) hg3 HG.out
      have HO3 := Lib.hid ho3
      clear hg3 ho3 ho
      go_roundw
      case rel => exact ⟨j + 1, acc ++ [d], by omega, by go_num, HO3.out, hsn, hb3⟩
      case measure => simp [intOf]; omega
    · have hfin := Lib.hid (show L.map (·.2) = acc by rw [hacc.out, List.take_of_length_le (by omega)])
      have HO := Lib.hid ho
      clear ho hacc
      go_wp2
      go_ret
      exact ⟨_, rfl, by rw [HLK.out, hfin.out]; exact own_base HO.out HB2.out.size, bT HB2.out hbl⟩

theorem fl_ws {k : Int} (h1 : ¬ k < 1) (h4 : ¬ 4 < k) : (fl k).map (·.2) = wsL k := by
  have hk : k = 1 ∨ k = 2 ∨ k = 3 ∨ k = 4 := by omega
  rcases hk with rfl | rfl | rfl | rfl <;> rfl

set_option maxHeartbeats 2000000 in
set_option maxRecDepth 100000 in
theorem layWidths_any (k : Int) (w : World) : Calls Tryz.prog 111 #[.int .i64 k] w (ListRet (wsL k) (some (wsE k)) w) := by
  by_cases h1 : k < 1
  · have E1 := Lib.hid (show wsL k = [] by simp [wsL, h1])
    have E2 := Lib.hid (show wsE k = 8 by simp [wsE, h1])
    have d1 : decide (k < 1) = true := by simpa using h1
    go_enter Tryz.func111, Tryz.ntmps111
    go_wp2
    go_ret2
    exact ⟨_, by rw [E2.out] <;> rfl, by rw [E1.out]; exact World.ownsRow_nil _ _ _ _, (by repeat (first | (with_reducible exact bR _) | (with_reducible refine bT ?_ (by assumption)) | (with_reducible apply bA) | (with_reducible apply bD) | (with_reducible apply bN) | (with_reducible refine bS ?_ (by first | omega | (simp; done) | (simp; omega)))))⟩
  have d1 : decide (k < 1) = false := by simpa using h1
  by_cases h2 : 4 < k
  · have E1 := Lib.hid (show wsL k = [] by simp [wsL, h2])
    have E2 := Lib.hid (show wsE k = 8 by simp [wsE, h2])
    have d2 : decide (4 < k) = true := by simpa using h2
    go_enter Tryz.func111, Tryz.ntmps111
    go_wp2
    go_ret2
    exact ⟨_, by rw [E2.out] <;> rfl, by rw [E1.out]; exact World.ownsRow_nil _ _ _ _, (by repeat (first | (with_reducible exact bR _) | (with_reducible refine bT ?_ (by assumption)) | (with_reducible apply bA) | (with_reducible apply bD) | (with_reducible apply bN) | (with_reducible refine bS ?_ (by first | omega | (simp; done) | (simp; omega)))))⟩
  have d2 : decide (4 < k) = false := by simpa using h2
  have E1 := Lib.hid (fl_ws h1 h2)
  have E2 := Lib.hid (show wsE k = 0 by simp [wsE, h1, h2])
  have hk0 : 0 ≤ k := by omega
  have hk4 : k ≤ 4 := by omega
  go_enter Tryz.func111, Tryz.ntmps111
  go_wp2_with fail
  refine (blank_any k _ hk0 hk4).mono ?_
  rintro e w2 ⟨rfl, rfl⟩
  go_wp2_with fail
  refine (widths_any w.heap.size k _ ?_).mono ?_
  · rw [cell_of_row _ w.heap.size 1 _ _ (0, 0) (heap_alloc_new w _)]; rfl
  rintro e w3 ⟨v, rfl, ho, hb3⟩
  rw [E1.out] at ho
  obtain ⟨vA, vc, rfl, _, _⟩ := own_slice ho
  have HO := Lib.hid ho
  have HB := Lib.hid (bT (bel1 w _) hb3)
  clear ho hb3
  go_wp2
  go_ret2
  exact ⟨.slice vA (wsL k).length vc, by rw [E2.out] <;> rfl, own_base (base' := w.heap.size) HO.out (by rw [World.size_alloc]; omega), HB.out⟩
end Go.Proofs.YtnbghgenaolfgaaGreat
